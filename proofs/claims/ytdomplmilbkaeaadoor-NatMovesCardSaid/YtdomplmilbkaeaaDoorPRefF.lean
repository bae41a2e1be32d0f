/-
  What the printed functions of the reference compute on decimal digits: Word, Of, Double, Bits. Conditions: no text is longer than stated.
-/
import Derived.Test.YtdomplmilbkaeaaDoorPRefD
import Derived.Test.YtdomplmilbkaeaaDoorPRefE
import Derived.Test.YtdomplmilbkaeaaDoorPBits
import Derived.Test.YtdomplmilbkaeaaDoorGNx0
import Derived.Test.YtdomplmilbkaeaaDoorGNx17
import Derived.Test.YtdomplmilbkaeaaDoorGNx22
namespace Go.Proofs.YtdomplmilbkaeaaDoor.Pure
open Go.RowKit Go.Proofs.YtdomplmilbkaeaaDoor.GN Go.Proofs.YtdomplmilbkaeaaDoorW.PrintWords Go.Proofs.YtdomplmilbkaeaaDoorW.PrintLast Go.Proofs.YtdomplmilbkaeaaDoorW.PrintMore
set_option linter.unusedVariables false
set_option linter.unusedSimpArgs false

/-! ### Double, Bits -/
theorem dec_one : dec 1 = (⟨#[49]⟩ : ByteArray) := by rw [dec, ds_small (by decide)]; rfl
theorem ds_pow2 (n : Nat) : (ds (2 ^ n)).length ≤ n + 1 := by
  refine ds_length_le ?_ (Nat.succ_pos _)
  have h1 : 2 ^ n ≤ 10 ^ n := Nat.pow_le_pow_left (by decide) _
  have h2 : 10 ^ n < 10 ^ (n + 1) := Nat.pow_lt_pow_right (by decide) (Nat.lt_succ_self n)
  exact Nat.lt_of_le_of_lt h1 h2
theorem double_l0 (n : Nat) (hn : n ≤ 100000) : ∀ (d i : Nat), n - i = d → i ≤ n → Ev (fun k => vinculumref01_Double.l0 k (n : Int) (dec (2 ^ i)) (i : Int)) (dec (2 ^ n)) := by
  intro d
  induction d with
  | zero =>
    intro i hd hi
    have : i = n := by omega
    subst this
    refine Ev.step (f := fun k => some (dec (2 ^ i))) (fun k => ?_) (Ev.now _)
    simp only [vinculumref01_Double.l0]
    rw [if_neg (Int.lt_irrefl _)]
  | succ d ih =>
    intro i hd hi
    have hi0 : i < n := by omega
    have hl := ds_pow2 i
    have ga := ref_add (a := 2 ^ i) (b := 2 ^ i) (by omega) (by omega)
    have e : 2 ^ i + 2 ^ i = 2 ^ (i + 1) := by rw [Nat.pow_succ, Nat.mul_two]
    rw [e] at ga
    refine Ev.step (f := fun k => (vinculumref01_Add.f k (dec (2 ^ i)) (dec (2 ^ i))).bind fun t => vinculumref01_Double.l0 k (n : Int) t ((i + 1 : Nat) : Int)) (fun k => ?_) (Ev.bind ga (ih (i + 1) (by omega) hi0))
    simp only [vinculumref01_Double.l0]
    rw [if_pos (Int.ofNat_lt.2 hi0), w64_succ (by omega)]
theorem ref_double {n : Nat} (hn : n ≤ 100000) : Ev (fun k => vinculumref01_Double.f k (n : Int)) (dec (2 ^ n)) := by
  have g := double_l0 n hn _ 0 rfl (Nat.zero_le _)
  rw [Nat.pow_zero, dec_one] at g
  exact g
theorem bits_l0 (a : Nat) (ha : bits a ≤ 100000) : ∀ (d i : Nat), bits a - i = d → i ≤ bits a → Ev (fun k => vinculumref01_Bits.l0 k (dec a) (i : Int) (dec (2 ^ i))) (bits a : Int) := by
  intro d
  induction d with
  | zero =>
    intro i hd hi
    have : i = bits a := by omega
    refine Ev.step (f := fun k => some ((bits a : Nat) : Int)) (fun k => ?_) (Ev.now _)
    simp only [vinculumref01_Bits.l0]
    rw [ref_cmp]
    rw [Option.bind_some]
    rw [if_neg (cmpI_neg.2 (by rw [this]; exact lt_bits a)), this]
  | succ d ih =>
    intro i hd hi
    have hi0 : i < bits a := by omega
    have hge : 2 ^ i ≤ a := Nat.le_trans (Nat.pow_le_pow_right (by decide) (by omega)) (bits_le (by omega))
    have hl := ds_pow2 i
    have ga := ref_add (a := 2 ^ i) (b := 2 ^ i) (by omega) (by omega)
    have e : 2 ^ i + 2 ^ i = 2 ^ (i + 1) := by rw [Nat.pow_succ, Nat.mul_two]
    rw [e] at ga
    refine Ev.step (f := fun k => (vinculumref01_Add.f k (dec (2 ^ i)) (dec (2 ^ i))).bind fun t => vinculumref01_Bits.l0 k (dec a) ((i + 1 : Nat) : Int) t) (fun k => ?_) (Ev.bind ga (ih (i + 1) (by omega) hi0))
    simp only [vinculumref01_Bits.l0]
    rw [ref_cmp]
    rw [Option.bind_some]
    rw [if_pos (Decidable.not_not.1 fun h => by have := cmpI_neg.1 h; omega), w64_succ (by omega)]
theorem ref_bits {a : Nat} (ha : bits a ≤ 100000) : Ev (fun k => vinculumref01_Bits.f k (dec a)) (bits a : Int) := by
  have g := bits_l0 a ha _ 0 rfl (Nat.zero_le _)
  rw [Nat.pow_zero, dec_one] at g
  exact g

end Go.Proofs.YtdomplmilbkaeaaDoor.Pure

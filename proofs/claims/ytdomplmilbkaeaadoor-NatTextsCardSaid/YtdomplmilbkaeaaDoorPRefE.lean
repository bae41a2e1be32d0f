/-
  What the printed functions of the reference compute on decimal digits: Word, Of. Conditions: no text is longer than stated.
-/
import Derived.Test.YtdomplmilbkaeaaDoorPRefC
import Derived.Test.YtdomplmilbkaeaaDoorGNx0
import Derived.Test.YtdomplmilbkaeaaDoorGNx10
import Derived.Test.YtdomplmilbkaeaaDoorGNx9
namespace Go.Proofs.YtdomplmilbkaeaaDoor.Pure
open Go.RowKit Go.Proofs.YtdomplmilbkaeaaDoor.GN Go.Proofs.YtdomplmilbkaeaaDoorW.PrintWords Go.Proofs.YtdomplmilbkaeaaDoorW.PrintLast Go.Proofs.YtdomplmilbkaeaaDoorW.PrintMore
set_option linter.unusedVariables false
set_option linter.unusedSimpArgs false

instance (l : List UInt8) : Decidable (DS l) := by unfold DS; infer_instance
/-! ### Word -/
theorem word_byte {n : Nat} (h : n < 18446744073709551616) : (IntKind.u64.wrap (48 + (Int.tmod (n : Int) 10))) % 256 = ((48 + n % 10 : Nat) : Int) := by
  rw [Int.tmod_eq_emod_of_nonneg (by omega), wu]; omega
theorem word_next {n : Nat} (h : n < 18446744073709551616) : IntKind.u64.wrap (Int.tdiv (n : Int) 10) = ((n / 10 : Nat) : Int) := by
  rw [Int.tdiv_eq_ediv_of_nonneg (by omega), wu]; omega
theorem word_l0 (W : Nat) : ∀ (m n : Nat) (out : List Int), n < 10 ^ m → n < 18446744073709551616 → out.length + m ≤ 1000 → DI out → dv out + 10 ^ out.length * n = W → Ev (fun k => vinculumref01_Word.l0 k (n : Int) out) (dec W) := by
  intro m
  induction m with
  | zero =>
    intro n out hn hw hl hD hv
    have : n = 0 := by rw [Nat.pow_zero] at hn; omega
    subst this
    rw [Nat.mul_zero, Nat.add_zero] at hv
    rw [← hv]
    exact Ev.step (fun k => by simp only [vinculumref01_Word.l0]; exact if_neg (by decide)) (out_ev hD (by clear hv hn; omega))
  | succ m ih =>
    intro n out hn hw hl hD hv
    by_cases h0 : n = 0
    · subst h0
      rw [Nat.mul_zero, Nat.add_zero] at hv
      rw [← hv]
      exact Ev.step (fun k => by simp only [vinculumref01_Word.l0]; exact if_neg (by decide)) (out_ev hD (by clear hv hn; omega))
    · have hlt : n % 10 < 10 := Nat.mod_lt _ (by decide)
      have hn' : n / 10 < 10 ^ m := Nat.div_lt_of_lt_mul (by rw [Nat.pow_succ, Nat.mul_comm] at hn; exact hn)
      have hv' : dv (out ++ [((48 + n % 10 : Nat) : Int)]) + 10 ^ (out ++ [((48 + n % 10 : Nat) : Int)]).length * (n / 10) = W := by
        rw [dv_step rfl _ hlt, List.length_append, List.length_singleton, Nat.pow_succ, Nat.add_assoc, carry_dec, hv]
      have ol : out.length < 140737488355328 := by clear hv hv' hn hn'; omega
      refine Ev.step (f := fun k => vinculumref01_Word.l0 k ((n / 10 : Nat) : Int) (out ++ [((48 + n % 10 : Nat) : Int)])) (fun k => ?_) (ih (n / 10) _ hn' (by clear hv hv' hn hn'; omega) (by rw [List.length_append, List.length_singleton]; clear hv hv' hn hn'; omega) (hD.step hlt) hv')
      simp only [vinculumref01_Word.l0]
      rw [if_pos (by clear hv hv' hn hn'; omega), if_pos ol, word_byte hw, word_next hw]
theorem ref_word {n : Nat} (h : n < 18446744073709551616) : Ev (fun k => vinculumref01_Word.f k (n : Int)) (dec n) :=
  word_l0 n 20 n [] (Nat.lt_of_lt_of_le h (by decide)) h (by decide) (fun x h => by cases h) (by simp [dv])

/-! ### Of -/
theorem ds_length_limbs {x : List Int} (hw : WF x) : (ds (nv x)).length ≤ 20 * x.length + 1 := by
  refine ds_length_le (Nat.lt_of_lt_of_le (nv_lt hw) ?_) (Nat.succ_pos _)
  rw [Nat.pow_succ, Nat.pow_mul]
  have h1 : 18446744073709551616 ^ x.length ≤ (10 ^ 20) ^ x.length := Nat.pow_le_pow_left (by decide) _
  exact Nat.le_trans h1 (Nat.le_mul_of_pos_right _ (by decide))
theorem dec_B : (⟨#[49, 56, 52, 52, 54, 55, 52, 52, 48, 55, 51, 55, 48, 57, 53, 53, 49, 54, 49, 54]⟩ : ByteArray) = dec 18446744073709551616 := by
  have : [49, 56, 52, 52, 54, 55, 52, 52, 48, 55, 51, 55, 48, 57, 53, 53, 49, 54, 49, 54] = ds (sv [49, 56, 52, 52, 54, 55, 52, 52, 48, 55, 51, 55, 48, 57, 53, 53, 49, 54, 49, 54]) :=
    ds_of (by decide) (by decide) (.inr (by decide))
  have e : sv [49, 56, 52, 52, 54, 55, 52, 52, 48, 55, 51, 55, 48, 57, 53, 53, 49, 54, 49, 54] = 18446744073709551616 := by decide
  rw [e] at this
  rw [dec, ← this]; rfl
theorem of_l0 (x : List Int) (hw : WF x) (hl : x.length ≤ 1000) : ∀ n : Nat, n ≤ x.length → Ev (fun k => vinculumref01_Of.l0 k x (dec (nv (x.drop n))) ((n : Int) - 1)) (dec (nv x)) := by
  intro n
  induction n with
  | zero =>
    intro _
    refine Ev.step (f := fun k => some (dec (nv x))) (fun k => ?_) (Ev.now _)
    simp only [vinculumref01_Of.l0]
    rw [if_neg (by decide), List.drop_zero]
  | succ n ih =>
    intro hn
    have hn0 : n < x.length := hn
    have e0 : ((n + 1 : Nat) : Int) - 1 = (n : Int) := by omega
    have e1 : wrap64 ((n : Int) - 1) = (n : Int) - 1 := w64_dec (by omega)
    have hr : rd x (n : Int) = x[n] := rd_of rfl hn0
    have hu := hw.get hn0
    have hd := nv_drop x n hn0
    have h1 : (ds (nv (x.drop (n + 1)))).length ≤ 10000000 := by
      have := ds_length_limbs (hw.drop (n + 1))
      rw [List.length_drop] at this
      clear hd e1 hu; omega
    have h2 : (ds (18446744073709551616 * nv (x.drop (n + 1)))).length ≤ 1000000000 := by
      have g := ds_length_limbs (hw.drop n)
      have := ds_length_mono (show 18446744073709551616 * nv (x.drop (n + 1)) ≤ nv (x.drop n) by rw [hd]; exact Nat.le_add_left _ _)
      rw [List.length_drop] at g
      clear hd e1 hu; omega
    have h3 : (ds (x[n]).toNat).length ≤ 1000000000 := by
      refine Nat.le_trans (ds_length_le (m := 20) (Nat.lt_of_lt_of_le (show (x[n]).toNat < 18446744073709551616 by have := hu.1; have := hu.2; clear hd e1; omega) (by decide)) (by decide)) (by decide)
    have hB : (ds 18446744073709551616).length ≤ 10000000 := Nat.le_trans (ds_length_le (m := 20) (by decide) (by decide)) (by decide)
    have gm := ref_mul h1 hB
    have gw := ref_word (n := (x[n]).toNat) (by have := hu.1; have := hu.2; clear hd e1; omega)
    rw [Int.toNat_of_nonneg hu.1] at gw
    rw [Nat.mul_comm] at gm
    have ga := ref_add h2 h3
    have e3 : 18446744073709551616 * nv (x.drop (n + 1)) + (x[n]).toNat = nv (x.drop n) := by rw [hd]; exact Nat.add_comm _ _
    rw [e3] at ga
    refine Ev.step (f := fun k => (vinculumref01_Mul.f k (dec (nv (x.drop (n + 1)))) (dec 18446744073709551616)).bind fun t358 => (vinculumref01_Word.f k x[n]).bind fun t360 => (vinculumref01_Add.f k t358 t360).bind fun t361 => vinculumref01_Of.l0 k x t361 ((n : Int) - 1)) (fun k => ?_) (Ev.bind gm (Ev.bind gw (Ev.bind ga (ih (Nat.le_of_lt hn0)))))
    simp only [vinculumref01_Of.l0]
    rw [e0, if_pos (Int.natCast_nonneg n), hr, e1, dec_B]
    refine congrArg (Option.bind _) (funext fun t => ?_)
    rw [if_pos (Int.natCast_nonneg n), if_pos (Int.ofNat_lt.2 hn0)]
theorem ref_of {x : List Int} (hw : WF x) (hl : x.length ≤ 1000) : Ev (fun k => vinculumref01_Of.f k x) (dec (nv x)) := by
  have g := of_l0 x hw hl x.length (Nat.le_refl _)
  rw [List.drop_length] at g
  refine Ev.congr (fun k => ?_) g
  unfold vinculumref01_Of.f
  rw [w64_dec (by omega), show nv [] = 0 from rfl, dec_zero]; rfl

end Go.Proofs.YtdomplmilbkaeaaDoor.Pure

/-
  What the printed functions of the reference compute on decimal digits: Mul. Conditions: no text is longer than stated.
-/
import Derived.Test.YtdomplmilbkaeaaDoorPRefB
import Derived.Test.YtdomplmilbkaeaaDoorGNx0
import Derived.Test.YtdomplmilbkaeaaDoorGNx10
namespace Go.Proofs.YtdomplmilbkaeaaDoor.Pure
open Go.RowKit Go.Proofs.YtdomplmilbkaeaaDoor.GN Go.Proofs.YtdomplmilbkaeaaDoorW.PrintWords Go.Proofs.YtdomplmilbkaeaaDoorW.PrintLast Go.Proofs.YtdomplmilbkaeaaDoorW.PrintMore
set_option linter.unusedVariables false
set_option linter.unusedSimpArgs false

theorem mul_set {w' w x A B i j : Nat} (h : w' + x * 10 ^ (i + j) = w + (x + A * B) * 10 ^ (i + j)) : w' = w + 10 ^ i * A * (10 ^ j * B) := by
  rw [Nat.add_mul] at h
  have e : A * B * 10 ^ (i + j) = 10 ^ i * A * (10 ^ j * B) := by rw [Nat.pow_add]; grind
  rw [e] at h
  omega
theorem mul_word {x A B S : Nat} (hx : (x : Int) ≤ (S : Int)) (hA : A < 10) (hB : B < 10) (hS : S ≤ 10000000000000000) : wrap64 ((x : Int) + (wrap64 ((A : Int) * (B : Int)))) = ((x + A * B : Nat) : Int) ∧ x + A * B ≤ S + 81 := by
  have h1 : A * B ≤ 9 * 9 := Nat.mul_le_mul (by omega) (by omega)
  have e : (A : Int) * (B : Int) = ((A * B : Nat) : Int) := by simp
  rw [e]
  generalize A * B = m at *
  rw [w64_of (x := (m : Int)) (by omega) (by omega), w64_sum (by omega)]
  exact ⟨rfl, by omega⟩
theorem rmul_l1 (a b i L : Nat) (la : (ds a).length ≤ 10000000) (lb : (ds b).length ≤ 10000000) (hi : i < (ds a).length) (hL : L = (ds a).length + (ds b).length + 1) (R : ByteArray)
    (H : ∀ s', s'.length = L → BD (81 * ((i + 1) * (ds b).length)) s' → wv s' = a % 10 ^ (i + 1) * b → Ev (fun k => vinculumref01_Mul.l0 k (dec a) (dec b) s' ((i + 1 : Nat) : Int)) R) :
    ∀ (d j : Nat) (s : List Int), (ds b).length - j = d → j ≤ (ds b).length → s.length = L → BD (81 * (i * (ds b).length + j)) s → wv s = a % 10 ^ i * b + 10 ^ i * (a / 10 ^ i % 10) * (b % 10 ^ j) →
    Ev (fun k => vinculumref01_Mul.l1 k (dec a) (dec b) s (i : Int) (j : Int)) R := by
  intro d
  induction d with
  | zero =>
    intro j s hd hj hs hB hv
    have hj2 : j = (ds b).length := by clear hv hB H; omega
    have hv2 : wv s = a % 10 ^ (i + 1) * b := by
      rw [hv, mod_all (a := b) (by rw [hj2]; exact Nat.le_refl _), mod_pow_step a i, Nat.add_mul]
    have hB2 : BD (81 * ((i + 1) * (ds b).length)) s := by rw [Nat.add_mul, Nat.one_mul]; rw [hj2] at hB; exact hB
    have e1 : wrap64 ((i : Int) + 1) = ((i + 1 : Nat) : Int) := w64_succ (by clear hv hB H hv2 hB2; omega)
    refine Ev.step (f := fun k => vinculumref01_Mul.l0 k (dec a) (dec b) s ((i + 1 : Nat) : Int)) (fun k => ?_) (H s hs hB2 hv2)
    simp only [vinculumref01_Mul.l1]
    rw [dec_size, if_neg (by rw [hj2]; exact Int.lt_irrefl _), e1]
  | succ d ih =>
    intro j s hd hj hs hB hv
    have hA : a / 10 ^ i % 10 < 10 := Nat.mod_lt _ (by decide)
    have hBd : b / 10 ^ j % 10 < 10 := Nat.mod_lt _ (by decide)
    have sb := mod_pow_step b j
    have hj0 : j < (ds b).length := by clear hv hB H hA hBd sb; omega
    have hd' : (ds b).length - (j + 1) = d := by clear hv hB H hA hBd sb; omega
    have hij : i + j < s.length := by clear hv hB H hA hBd sb; omega
    have da : (ds a).length ≤ 1099511627776 := by clear hv hB H hA hBd sb; omega
    have db : (ds b).length ≤ 1099511627776 := by clear hv hB H hA hBd sb; omega
    have e1 : wrap64 ((j : Int) + 1) = ((j + 1 : Nat) : Int) := w64_succ (by clear hv hB H hA hBd sb; omega)
    have e2 : wrap64 ((i : Int) + (j : Int)) = ((i + j : Nat) : Int) := w64_sum (by clear hv hB H hA hBd sb e1; omega)
    have hS : 81 * (i * (ds b).length + j) ≤ 10000000000000000 := by
      have h1 : i * (ds b).length ≤ 10000000 * 10000000 := Nat.mul_le_mul (by clear hv hB H hA hBd sb e1 e2; omega) lb
      clear hv hB H hA hBd sb e1 e2
      generalize i * (ds b).length = m at *
      omega
    have dx := digit_f a i da
    have dy := digit_f b j db
    obtain ⟨b0, b1⟩ := hB.get hij
    have hr : rd s ((i + j : Nat) : Int) = s[i + j] := rd_of rfl hij
    have hset := wv_set s (i + j) (((s[i + j]).toNat + (a / 10 ^ i % 10) * (b / 10 ^ j % 10) : Nat) : Int) hij
    generalize s[i + j] = x at *
    obtain ⟨x, rfl⟩ := Int.eq_ofNat_of_zero_le b0
    obtain ⟨hsum, hbd⟩ := mul_word b1 hA hBd hS
    have hx : ((x : Nat) : Int).toNat = x := Int.toNat_natCast x
    rw [hx] at hset
    have hw := mul_set hset
    rw [hv, Nat.add_assoc, ← Nat.mul_add, ← sb] at hw
    have hB' := hB.set (i + j) (v := ((x + (a / 10 ^ i % 10) * (b / 10 ^ j % 10) : Nat) : Int)) ⟨Int.natCast_nonneg _, Int.ofNat_le.2 hbd⟩
    have e3 : 81 * (i * (ds b).length + j) + 81 = 81 * (i * (ds b).length + (j + 1)) := by rw [← Nat.add_assoc, Nat.mul_add 81 _ 1]
    rw [e3] at hB'
    refine Ev.step (f := fun k => vinculumref01_Mul.l1 k (dec a) (dec b) (s.set (i + j) ((x + (a / 10 ^ i % 10) * (b / 10 ^ j % 10) : Nat) : Int)) (i : Int) ((j + 1 : Nat) : Int)) (fun k => ?_) (ih (j + 1) _ hd' hj0 (by rw [List.length_set]; exact hs) hB' hw)
    simp only [vinculumref01_Mul.l1]
    rw [dec_size, if_pos (Int.ofNat_lt.2 hj0), e2, if_pos (Int.natCast_nonneg (i + j)), if_pos (Int.ofNat_lt.2 hij), dx, dy]
    rw [Option.bind_some, Option.bind_some]
    rw [hr, hsum, e1, Int.toNat_natCast]
theorem rmul_l0 (a b L : Nat) (la : (ds a).length ≤ 10000000) (lb : (ds b).length ≤ 10000000) (hL : L = (ds a).length + (ds b).length + 1) :
    ∀ (d i : Nat) (s : List Int), (ds a).length - i = d → i ≤ (ds a).length → s.length = L → BD (81 * (i * (ds b).length)) s → wv s = a % 10 ^ i * b →
    Ev (fun k => vinculumref01_Mul.l0 k (dec a) (dec b) s (i : Int)) (dec (a * b)) := by
  intro d
  induction d with
  | zero =>
    intro i s hd hi hs hB hv
    have hi2 : i = (ds a).length := by clear hv hB; omega
    rw [mod_all (a := a) (by rw [hi2]; exact Nat.le_refl _)] at hv
    have hS : 81 * (i * (ds b).length) ≤ 10000000000000000 := by
      have h1 : i * (ds b).length ≤ 10000000 * 10000000 := Nat.mul_le_mul (by clear hv hB; omega) lb
      clear hv hB
      generalize i * (ds b).length = m at *
      omega
    have hT : a * b < 10 ^ s.length := by
      rw [hs, hL, Nat.pow_succ, Nat.pow_add]
      have h1 := Nat.mul_lt_mul'' (lt_pow_ds a) (lt_pow_ds b)
      generalize 10 ^ (ds a).length * 10 ^ (ds b).length = P at *
      generalize a * b = Q at *
      clear hv hB
      omega
    have ol : s.length ≤ 1000000000 := by clear hv hB hT hS; omega
    have hin : ¬ ((i : Int) < ((ds a).length : Int)) := by rw [hi2]; exact Int.lt_irrefl _
    exact Ev.step (f := fun k => vinculumref01_Mul.l2 k s ([] : List Int) ((0 : Nat) : Int) ((0 : Nat) : Int)) (fun k => by
      simp only [vinculumref01_Mul.l0]
      rw [dec_size, if_neg hin]; rfl) (mul_out s _ hS hB ol _ hT _ 0 [] 0 rfl rfl (Nat.zero_le _) (fun x h => by cases h) (Nat.zero_le _) (by
        rw [List.drop_zero, hv, Nat.pow_zero]; simp [dv]))
  | succ d ih =>
    intro i s hd hi hs hB hv
    have hi0 : i < (ds a).length := by clear hv hB; omega
    refine Ev.step (f := fun k => vinculumref01_Mul.l1 k (dec a) (dec b) s (i : Int) ((0 : Nat) : Int)) (fun k => ?_) (rmul_l1 a b i L la lb hi0 hL _ (fun s' h1 h2 h3 => ih (i + 1) s' (by clear hv hB h2 h3; omega) hi0 h1 h2 h3) _ 0 s rfl (Nat.zero_le _) hs (by rw [Nat.add_zero]; exact hB) (by rw [hv, Nat.pow_zero, Nat.mod_one, Nat.mul_zero, Nat.add_zero]))
    simp only [vinculumref01_Mul.l0]
    rw [dec_size, if_pos (Int.ofNat_lt.2 hi0)]; rfl
theorem ref_mul {a b : Nat} (la : (ds a).length ≤ 10000000) (lb : (ds b).length ≤ 10000000) : Ev (fun k => vinculumref01_Mul.f k (dec a) (dec b)) (dec (a * b)) := by
  have e : wrap64 ((wrap64 (((ds a).length : Int) + ((ds b).length : Int))) + 1) = (((ds a).length + (ds b).length + 1 : Nat) : Int) := by
    rw [w64_sum (by omega), w64_succ (by omega)]
  have g := rmul_l0 a b ((ds a).length + (ds b).length + 1) la lb rfl _ 0 (List.replicate ((ds a).length + (ds b).length + 1) 0) rfl (Nat.zero_le _) (List.length_replicate ..) (fun x hx => by
    have := List.eq_of_mem_replicate hx
    subst this; exact ⟨by omega, by omega⟩) (by rw [wv_zeros, Nat.pow_zero, Nat.mod_one, Nat.zero_mul])
  refine Ev.congr (f := fun k => vinculumref01_Mul.l0 k (dec a) (dec b) (List.replicate ((ds a).length + (ds b).length + 1) 0) ((0 : Nat) : Int)) (fun k => ?_) g
  unfold vinculumref01_Mul.f
  rw [dec_size, dec_size, e, if_pos (Int.natCast_nonneg _), Int.toNat_natCast, if_pos (by omega)]; rfl
end Go.Proofs.YtdomplmilbkaeaaDoor.Pure

/-
  What the printed functions of the reference compute on decimal digits: Sub. Conditions: no text is longer than stated.
-/
import Derived.Test.YtdomplmilbkaeaaDoorPRefB
import Derived.Test.YtdomplmilbkaeaaDoorGNx0
import Derived.Test.YtdomplmilbkaeaaDoorGNx13
namespace Go.Proofs.YtdomplmilbkaeaaDoor.Pure
open Go.RowKit Go.Proofs.YtdomplmilbkaeaaDoor.GN Go.Proofs.YtdomplmilbkaeaaDoorW.PrintWords Go.Proofs.YtdomplmilbkaeaaDoorW.PrintLast Go.Proofs.YtdomplmilbkaeaaDoorW.PrintMore
set_option linter.unusedVariables false
set_option linter.unusedSimpArgs false

/-! ### Sub -/
theorem sub_digit {x y l : Nat} (hx : x < 10) (hy : y < 10) (hl : l ≤ 1) : wrap64 ((wrap64 ((x : Int) - (y : Int))) - (l : Int)) = (x : Int) - (y : Int) - (l : Int) := by
  rw [w64_of (x := (x : Int) - y) (by omega) (by omega), w64_of (by omega) (by omega)]
theorem sub_neg {x y l : Nat} (hx : x < 10) (hy : y < 10) (hl : l ≤ 1) (h : (x : Int) - (y : Int) - (l : Int) < 0) : wrap64 (48 + (wrap64 (((x : Int) - (y : Int) - (l : Int)) + 10))) % 256 = ((48 + (x + 10 - y - l) : Nat) : Int) ∧ x + 10 - y - l < 10 := by
  rw [w64_of (x := (x : Int) - y - l + 10) (by omega) (by omega), w64_of (by omega) (by omega)]; omega
theorem sub_pos {x y l : Nat} (hx : x < 10) (hy : y < 10) (hl : l ≤ 1) (h : ¬ (x : Int) - (y : Int) - (l : Int) < 0) : wrap64 (48 + ((x : Int) - (y : Int) - (l : Int))) % 256 = ((48 + (x - y - l) : Nat) : Int) ∧ x - y - l < 10 := by
  rw [w64_of (by omega) (by omega)]; omega
theorem sub_inv {A B P x y l v m l' : Nat} (hv : A + P * l = v + B) (h : x + 10 * l' = y + l + m) : A + P * x + P * 10 * l' = v + P * m + (B + P * y) := by
  have e : P * (x + 10 * l') = P * (y + l + m) := by rw [h]
  rw [Nat.mul_add, Nat.mul_add, Nat.mul_add] at e
  have e2 : P * (10 * l') = P * 10 * l' := by rw [Nat.mul_assoc]
  rw [e2] at e
  generalize P * 10 * l' = Q at *
  generalize P * x = X at *
  generalize P * y = Y at *
  generalize P * l = L at *
  generalize P * m = M at *
  omega
theorem sub_ref_l0 (a b : Nat) (hab : b ≤ a) (la : (ds a).length ≤ 1000000000) : ∀ (d i : Nat) (out : List Int) (c : Nat), (ds a).length - i = d → out.length = i → i ≤ (ds a).length → DI out → c ≤ 1 → a % 10 ^ i + 10 ^ i * c = dv out + b % 10 ^ i →
    Ev (fun k => vinculumref01_Sub.l0 k (dec a) (dec b) out (c : Int) (i : Int)) (dec (a - b)) := by
  intro d
  have lb := ds_length_mono hab
  induction d with
  | zero =>
    intro i out c hd ho hi hD hc hv
    have hi2 : i = (ds a).length := by clear hv; omega
    have e : dv out = a - b := by
      rw [mod_all (a := a) (by rw [hi2]; exact Nat.le_refl _), mod_all (a := b) (by rw [hi2]; exact lb)] at hv
      have h1 := dv_lt hD
      rw [ho] at h1
      rcases Nat.eq_zero_or_pos c with h2 | h2
      · subst h2; rw [Nat.mul_zero] at hv; omega
      · have h3 : c = 1 := by omega
        subst h3; rw [Nat.mul_one] at hv
        generalize 10 ^ i = P at *
        omega
    rw [← e]
    exact Ev.step (fun k => by simp only [vinculumref01_Sub.l0]; rw [dec_size]; exact if_neg (by clear hv; omega)) (out_ev hD (by clear hv; omega))
  | succ d ih =>
    intro i out c hd ho hi hD hc hv
    have hx : a / 10 ^ i % 10 < 10 := Nat.mod_lt _ (by decide)
    have hy : b / 10 ^ i % 10 < 10 := Nat.mod_lt _ (by decide)
    have s1 := mod_pow_step a i
    have s2 := mod_pow_step b i
    have ol : out.length < 140737488355328 := by clear hv hx hy s1 s2; omega
    have da : (ds a).length ≤ 1099511627776 := by clear hv hx hy s1 s2; omega
    have db : (ds b).length ≤ 1099511627776 := by clear hv hx hy s1 s2; omega
    have e1 : wrap64 ((i : Int) + 1) = ((i + 1 : Nat) : Int) := w64_succ (by clear hv hx hy s1 s2; omega)
    have hi0 : (i : Int) < ((ds a).length : Int) := by clear hv hx hy s1 s2; omega
    have hd' : (ds a).length - (i + 1) = d := by clear hv hx hy s1 s2; omega
    have hi' : i + 1 ≤ (ds a).length := by clear hv hx hy s1 s2; omega
    have round : ∀ (m l' : Nat), m < 10 → l' ≤ 1 → a / 10 ^ i % 10 + 10 * l' = b / 10 ^ i % 10 + c + m → Ev (fun k => vinculumref01_Sub.l0 k (dec a) (dec b) (out ++ [((48 + m : Nat) : Int)]) (l' : Int) ((i + 1 : Nat) : Int)) (dec (a - b)) := by
      intro m l' hm hl' he
      refine ih (i + 1) _ l' hd' (by rw [List.length_append, ho]; rfl) hi' (hD.step hm) hl' ?_
      rw [dv_step ho _ hm, s1, s2]
      exact sub_inv hv he
    clear ih hv s1 s2
    have hsd := sub_digit hx hy hc
    generalize hgx : a / 10 ^ i % 10 = x at *
    generalize hgy : b / 10 ^ i % 10 = y at *
    have dx := digit_f a i da
    have dy := digit_f b i db
    rw [hgx] at dx; rw [hgy] at dy
    by_cases h : (x : Int) - (y : Int) - (c : Int) < 0
    · obtain ⟨e2, h2⟩ := sub_neg hx hy hc h
      refine Ev.step (f := fun k => vinculumref01_Sub.l0 k (dec a) (dec b) (out ++ [((48 + (x + 10 - y - c) : Nat) : Int)]) ((1 : Nat) : Int) ((i + 1 : Nat) : Int)) (fun k => ?_) (round _ 1 h2 (Nat.le_refl _) (by omega))
      simp only [vinculumref01_Sub.l0]
      rw [dec_size, if_pos hi0, dx, dy]
      rw [Option.bind_some, Option.bind_some]
      rw [hsd, if_pos h, if_pos ol, e2, e1]; rfl
    · obtain ⟨e2, h2⟩ := sub_pos hx hy hc h
      refine Ev.step (f := fun k => vinculumref01_Sub.l0 k (dec a) (dec b) (out ++ [((48 + (x - y - c) : Nat) : Int)]) ((0 : Nat) : Int) ((i + 1 : Nat) : Int)) (fun k => ?_) (round _ 0 h2 (by omega) (by omega))
      simp only [vinculumref01_Sub.l0]
      rw [dec_size, if_pos hi0, dx, dy]
      rw [Option.bind_some, Option.bind_some]
      rw [hsd, if_neg h, if_pos ol, e2, e1]; rfl
theorem ref_sub {a b : Nat} (hab : b ≤ a) (la : (ds a).length ≤ 1000000000) : Ev (fun k => vinculumref01_Sub.f k (dec a) (dec b)) (dec (a - b)) :=
  sub_ref_l0 a b hab la _ 0 [] 0 rfl rfl (by omega) (fun x h => by cases h) (by omega) (by simp [dv, Nat.mod_one])

end Go.Proofs.YtdomplmilbkaeaaDoor.Pure

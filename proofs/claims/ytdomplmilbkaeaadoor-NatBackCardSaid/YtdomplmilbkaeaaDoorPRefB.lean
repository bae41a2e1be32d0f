/-
  What the printed functions of the reference compute on decimal digits: Cmp, Mul. Conditions: no text is longer than stated.
-/
import Derived.Test.YtdomplmilbkaeaaDoorPRefA
import Derived.Test.YtdomplmilbkaeaaDoorPNatA
import Derived.Test.YtdomplmilbkaeaaDoorGNx0
import Derived.Test.YtdomplmilbkaeaaDoorGNx10
import Derived.Test.YtdomplmilbkaeaaDoorGNx13
namespace Go.Proofs.YtdomplmilbkaeaaDoor.Pure
open Go.RowKit Go.Proofs.YtdomplmilbkaeaaDoor.GN Go.Proofs.YtdomplmilbkaeaaDoorW.PrintWords Go.Proofs.YtdomplmilbkaeaaDoorW.PrintLast Go.Proofs.YtdomplmilbkaeaaDoorW.PrintMore
set_option linter.unusedVariables false
set_option linter.unusedSimpArgs false

theorem cmpI_neg {a b : Nat} : ¬ (cmpI a b ≥ 0) ↔ a < b := by
  unfold cmpI
  by_cases h : a < b
  · rw [if_pos h]; exact ⟨fun _ => h, fun _ => by decide⟩
  · rw [if_neg h]
    by_cases h2 : a = b
    · rw [if_pos h2]; exact ⟨fun h3 => absurd (by decide) h3, fun h3 => absurd h3 h⟩
    · rw [if_neg h2]; exact ⟨fun h3 => absurd (by decide) h3, fun h3 => absurd h3 h⟩
theorem ref_cmp (a b : Nat) : vinculumref01_Cmp.f (dec a) (dec b) = some (cmpI a b) := by
  unfold vinculumref01_Cmp.f cmpI
  rw [dec_size, dec_size]
  by_cases h : ((ds a).length : Int) = ((ds b).length : Int)
  · rw [if_pos h, show (dec a).toList = ds a from tx_toList _, show (dec b).toList = ds b from tx_toList _, bytes_lt _ _ (ds_DS a) (ds_DS b) (by omega), sv_ds, sv_ds]
    by_cases h1 : a < b
    · rw [if_pos (decide_eq_true h1), if_pos h1]
    · rw [if_neg (by simp [h1]), if_neg h1]
      by_cases h2 : a = b
      · rw [if_pos h2, if_pos (by rw [h2])]
      · rw [if_neg h2, if_neg (fun h3 => h2 (ds_inj h3))]
  · rw [if_neg h]
    by_cases h1 : ((ds a).length : Int) < ((ds b).length : Int)
    · rw [if_pos h1]
      have : a < b := Nat.lt_of_not_le fun h2 => by have := ds_length_mono h2; omega
      rw [if_pos this]
    · rw [if_neg h1]
      have h4 : b < a := Nat.lt_of_not_le fun h2 => by have := ds_length_mono h2; omega
      rw [if_neg (by omega), if_neg (by omega)]

/-! ### Mul -/
/-- The number of sums at their places. -/
def wv : List Int → Nat
  | [] => 0
  | x :: xs => x.toNat + 10 * wv xs
theorem wv_set (l : List Int) (n : Nat) (v : Int) (hn : n < l.length) : wv (l.set n v) + l[n].toNat * 10 ^ n = wv l + v.toNat * 10 ^ n := by
  induction l generalizing n with
  | nil => simp at hn
  | cons x xs ih =>
    cases n with
    | zero => simp [wv]; omega
    | succ n =>
      have h1 := ih n (by simpa using hn)
      simp only [List.set_cons_succ, wv, List.getElem_cons_succ, Nat.pow_succ]
      grind
theorem wv_zeros (n : Nat) : wv (List.replicate n 0) = 0 := by
  induction n with
  | zero => rfl
  | succ n ih => simp [List.replicate_succ, wv, ih]
theorem wv_drop (l : List Int) (n : Nat) (hn : n < l.length) : wv (l.drop n) = l[n].toNat + 10 * wv (l.drop (n + 1)) := by
  rw [List.drop_eq_getElem_cons hn]; rfl
/-- All lie from 0 to a bound. -/
def BD (S : Nat) (l : List Int) : Prop := ∀ x ∈ l, 0 ≤ x ∧ x ≤ (S : Int)
theorem BD.get {S : Nat} {l : List Int} (h : BD S l) {n : Nat} (hn : n < l.length) : 0 ≤ l[n] ∧ l[n] ≤ (S : Int) := h _ (List.getElem_mem hn)
theorem BD.set {S : Nat} {l : List Int} (h : BD S l) (n : Nat) {v : Int} (hv : 0 ≤ v ∧ v ≤ ((S + 81 : Nat) : Int)) : BD (S + 81) (l.set n v) := fun x hx => by
  rcases List.mem_or_eq_of_mem_set hx with hx | rfl
  · have := h x hx; omega
  · exact hv
theorem BD.mono {S T : Nat} {l : List Int} (h : BD S l) (hST : S ≤ T) : BD T l := fun x hx => by have := h x hx; omega
theorem out_inv {P v x c W T : Nat} (hv : v + P * c + P * (x + 10 * W) = T) : v + P * ((x + c) % 10) + P * 10 * ((x + c) / 10) + P * 10 * W = T := by
  have h4 := carry_dec P (x + c)
  rw [← hv, Nat.mul_add P x, Nat.mul_assoc P 10 W]
  rw [Nat.mul_add] at h4
  generalize P * (10 * W) = Q at *
  generalize P * ((x + c) % 10) = Q1 at *
  generalize P * 10 * ((x + c) / 10) = Q2 at *
  generalize P * x = Q3 at *
  generalize P * c = Q4 at *
  clear hv
  omega
theorem out_end {P v c T : Nat} (hv : v + P * c = T) (hT : T < P) : v = T := by
  rcases Nat.eq_zero_or_pos c with h2 | h2
  · subst h2; rw [Nat.mul_zero] at hv; exact hv
  · have h3 := Nat.mul_le_mul_left P h2
    generalize P * c = Q at *
    omega
theorem out_word {x c S : Nat} (hx : (x : Int) ≤ (S : Int)) (hc : c ≤ S) (hS : S ≤ 10000000000000000) : wrap64 ((x : Int) + (c : Int)) = ((x + c : Nat) : Int) ∧ x + c < 1000000000000000000 ∧ (x + c) / 10 ≤ S :=
  ⟨w64_sum (by omega), by omega, by omega⟩
theorem mul_out (s : List Int) (S : Nat) (hS : S ≤ 10000000000000000) (hB : BD S s) (hl : s.length ≤ 1000000000) (T : Nat) (hT : T < 10 ^ s.length) : ∀ (d i : Nat) (out : List Int) (c : Nat), s.length - i = d → out.length = i → i ≤ s.length → DI out → c ≤ S → dv out + 10 ^ i * c + 10 ^ i * wv (s.drop i) = T →
    Ev (fun k => vinculumref01_Mul.l2 k s out (c : Int) (i : Int)) (dec T) := by
  intro d
  induction d with
  | zero =>
    intro i out c hd ho hi hD hc hv
    have hi2 : i = s.length := by clear hv hT; omega
    have e : dv out = T := by
      rw [hi2, List.drop_length, ← hi2] at hv
      rw [← hi2] at hT
      exact out_end hv hT
    have ol : out.length ≤ 1099511627776 := by clear hv hT e; omega
    rw [← e]
    exact Ev.step (fun k => by simp only [vinculumref01_Mul.l2]; exact if_neg (by rw [hi2]; exact Int.lt_irrefl _)) (out_ev hD ol)
  | succ d ih =>
    intro i out c hd ho hi hD hc hv
    have hi0 : i < s.length := by clear hv hT; omega
    have ol : out.length < 140737488355328 := by clear hv hT; omega
    have e1 : wrap64 ((i : Int) + 1) = ((i + 1 : Nat) : Int) := w64_succ (by clear hv hT; omega)
    have hd' : s.length - (i + 1) = d := by clear hv hT; omega
    obtain ⟨b0, b1⟩ := hB.get hi0
    rw [wv_drop s i hi0] at hv
    have hr : rd s (i : Int) = s[i] := rd_of rfl hi0
    generalize s[i] = x at *
    obtain ⟨x, rfl⟩ := Int.eq_ofNat_of_zero_le b0
    obtain ⟨hsum, hn, hc'⟩ := out_word b1 hc hS
    have hlt : (x + c) % 10 < 10 := Nat.mod_lt _ (by decide)
    have hv' : dv (out ++ [((48 + (x + c) % 10 : Nat) : Int)]) + 10 ^ (i + 1) * ((x + c) / 10) + 10 ^ (i + 1) * wv (s.drop (i + 1)) = T := by
      rw [dv_step ho _ hlt, Nat.pow_succ]
      exact out_inv hv
    refine Ev.step (f := fun k => vinculumref01_Mul.l2 k s (out ++ [((48 + (x + c) % 10 : Nat) : Int)]) (((x + c) / 10 : Nat) : Int) ((i + 1 : Nat) : Int)) (fun k => ?_) (ih (i + 1) _ _ hd' (by rw [List.length_append, ho]; rfl) hi0 (hD.step hlt) hc' hv')
    simp only [vinculumref01_Mul.l2]
    rw [if_pos (Int.ofNat_lt.2 hi0), if_pos (Int.natCast_nonneg i), if_pos ol, hr, hsum, digit_byte hn, digit_carry hn, e1]
end Go.Proofs.YtdomplmilbkaeaaDoor.Pure

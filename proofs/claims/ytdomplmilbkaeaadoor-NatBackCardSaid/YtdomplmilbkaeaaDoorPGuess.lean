/-
  A digit of a quotient: what nat.beyond and nat.guess compute. Conditions: all are words; the divisor's highest word has its highest bit.
-/
import Derived.Test.YtdomplmilbkaeaaDoorPDiv64
import Derived.Test.YtdomplmilbkaeaaDoorGNx0
import Derived.Test.YtdomplmilbkaeaaDoorGNx4
namespace Go.Proofs.YtdomplmilbkaeaaDoor.Pure
open Go.RowKit Go.Proofs.YtdomplmilbkaeaaDoor.GN Go.Proofs.YtdomplmilbkaeaaDoorW.PrintWords Go.Proofs.YtdomplmilbkaeaaDoorW.PrintLast Go.Proofs.YtdomplmilbkaeaaDoorW.PrintMore
set_option linter.unusedVariables false
set_option linter.unusedSimpArgs false

theorem beyond_f {q v left u : Nat} (hq : q < 18446744073709551616) (hv : v < 18446744073709551616) (hl : left < 18446744073709551616) (hu : u < 18446744073709551616) : nat_beyond.f (q : Int) (v : Int) (left : Int) (u : Int) = some (decide (left * 18446744073709551616 + u < q * v)) := by
  unfold nat_beyond.f
  rw [mul64_nat q v hq hv, Option.bind_some]
  generalize q * v = p
  by_cases h1 : ((p / 18446744073709551616 : Nat) : Int) > (left : Int)
  · rw [if_pos h1, decide_eq_true (by omega)]
  · rw [if_neg h1]
    by_cases h2 : ((p / 18446744073709551616 : Nat) : Int) = (left : Int)
    · rw [if_pos h2]
      congr 1
      apply decide_eq_decide.2
      omega
    · rw [if_neg h2, decide_eq_false (by omega)]
/-- A guess that is none too great, and the greatest such one or a word's greatest. -/
structure Fit (T W Q : Nat) : Prop where
  lt : Q < 18446744073709551616
  le : Q * W ≤ T
  max : Q = 18446744073709551615 ∨ T < (Q + 1) * W
theorem fit_over {q v1 v0 L u0 T W M : Nat} (hM : q * v1 + L = M) (hT : T = M * 18446744073709551616 + u0) (hW : W = v1 * 18446744073709551616 + v0) (hq : q < 18446744073709551616) (hv : v0 < 18446744073709551616) (hL : 18446744073709551616 ≤ L) : q * W ≤ T := by
  have h1 : q * v0 ≤ 18446744073709551616 * 18446744073709551616 := Nat.mul_le_mul (Nat.le_of_lt hq) (Nat.le_of_lt hv)
  have h2 : q * W = q * v1 * 18446744073709551616 + q * v0 := by rw [hW]; grind
  rw [h2, hT, ← hM]
  generalize q * v1 = a at *
  generalize q * v0 = b at *
  omega
theorem fit_cmp {q v1 v0 L u0 T W M : Nat} (hM : q * v1 + L = M) (hT : T = M * 18446744073709551616 + u0) (hW : W = v1 * 18446744073709551616 + v0) : (L * 18446744073709551616 + u0 < q * v0 ↔ T < q * W) := by
  have h2 : q * W = q * v1 * 18446744073709551616 + q * v0 := by rw [hW]; grind
  rw [h2, hT, ← hM]
  generalize q * v1 = a at *
  generalize q * v0 = b at *
  omega
theorem q_dec {q : Nat} (h : q + 1 < 18446744073709551616) : IntKind.u64.wrap (((q + 1 : Nat) : Int) - 1) = (q : Int) := by
  have e : ((q + 1 : Nat) : Int) - 1 = (q : Int) := by omega
  rw [e, wrapN _ (by omega)]
theorem left_next {left v1 L c : Nat} (hL : L < 18446744073709551616) (h1 : v1 < 18446744073709551616) : adS (L : Int) (v1 : Int) 0 = (((L + v1) % 18446744073709551616 : Nat) : Int) ∧ adC (L : Int) (v1 : Int) 0 = (((L + v1) / 18446744073709551616 : Nat) : Int) := by
  rw [adS_of (Int.natCast_nonneg _) (Int.natCast_nonneg _) (Int.le_refl _), adC_of (Int.natCast_nonneg _) (Int.natCast_nonneg _) (Int.le_refl _)]
  constructor <;> omega
theorem guess_l0 {T W M v1 v0 u0 : Nat} (h1 : v1 < 18446744073709551616) (h0 : v0 < 18446744073709551616) (hu : u0 < 18446744073709551616) (hT : T = M * 18446744073709551616 + u0) (hW : W = v1 * 18446744073709551616 + v0) :
    ∀ (q L : Nat), q < 18446744073709551616 → q * v1 + L = M → (q = 18446744073709551615 ∨ T < (q + 1) * W) →
    ∃ Q, Fit T W Q ∧ Ev (fun k => nat_guess.l0 k (u0 : Int) (v1 : Int) (v0 : Int) (q : Int) ((L % 18446744073709551616 : Nat) : Int) ((L / 18446744073709551616 : Nat) : Int)) (Q : Int) := by
  intro q
  induction q with
  | zero =>
    intro L hq hM hm
    refine ⟨0, ⟨by decide, by rw [Nat.zero_mul]; exact Nat.zero_le _, hm⟩, Ev.step (f := fun k => some ((0 : Nat) : Int)) (fun k => ?_) (Ev.now _)⟩
    simp only [nat_guess.l0]
    by_cases hc : ((L / 18446744073709551616 : Nat) : Int) = 0
    · rw [if_pos hc, beyond_f hq h0 (Nat.mod_lt _ (by decide)) hu, Option.bind_some, if_neg (by rw [Nat.zero_mul]; simp)]
    · rw [if_neg hc]
  | succ q ih =>
    intro L hq hM hm
    by_cases hc : ((L / 18446744073709551616 : Nat) : Int) = 0
    · have hL : L < 18446744073709551616 := by clear hM hm hT hW; omega
      have hLm : L % 18446744073709551616 = L := Nat.mod_eq_of_lt hL
      have hcmp := fit_cmp hM hT hW
      by_cases hb : L * 18446744073709551616 + u0 < (q + 1) * v0
      · obtain ⟨Q, g1, g2⟩ := ih (L + v1) (Nat.lt_of_succ_lt hq) (by rw [← hM, Nat.add_mul]; clear hM hm hT hW hcmp hb; generalize q * v1 = a; omega) (.inr (hcmp.1 hb))
        obtain ⟨e1, e2⟩ := left_next (left := 0) (c := 0) hL h1
        refine ⟨Q, g1, Ev.step (fun k => ?_) g2⟩
        simp only [nat_guess.l0]
        rw [if_pos hc, hLm, beyond_f hq h0 hL hu, Option.bind_some, if_pos (decide_eq_true hb), q_dec hq, e1, e2]
      · refine ⟨q + 1, ⟨hq, Nat.le_of_not_lt fun h => hb (hcmp.2 h), hm⟩, Ev.step (f := fun k => some ((q + 1 : Nat) : Int)) (fun k => ?_) (Ev.now _)⟩
        simp only [nat_guess.l0]
        rw [if_pos hc, hLm, beyond_f hq h0 hL hu, Option.bind_some, if_neg (by rw [decide_eq_false hb]; decide)]
    · refine ⟨q + 1, ⟨hq, fit_over hM hT hW hq h0 (by clear hM hm hT hW; omega), hm⟩, Ev.step (f := fun k => some ((q + 1 : Nat) : Int)) (fun k => ?_) (Ev.now _)⟩
      simp only [nat_guess.l0]
      rw [if_neg hc]
theorem guess_l1 {T W M v1 v0 u0 : Nat} (h1 : v1 < 18446744073709551616) (h0 : v0 < 18446744073709551616) (hu : u0 < 18446744073709551616) (hT : T = M * 18446744073709551616 + u0) (hW : W = v1 * 18446744073709551616 + v0) :
    ∀ (q L : Nat), q < 18446744073709551616 → q * v1 + L = M → (q = 18446744073709551615 ∨ T < (q + 1) * W) →
    ∃ Q, Fit T W Q ∧ Ev (fun k => nat_guess.l1 k (u0 : Int) (v1 : Int) (v0 : Int) (q : Int) ((L % 18446744073709551616 : Nat) : Int) ((L / 18446744073709551616 : Nat) : Int)) (Q : Int) := by
  intro q
  induction q with
  | zero =>
    intro L hq hM hm
    refine ⟨0, ⟨by decide, by rw [Nat.zero_mul]; exact Nat.zero_le _, hm⟩, Ev.step (f := fun k => some ((0 : Nat) : Int)) (fun k => ?_) (Ev.now _)⟩
    simp only [nat_guess.l1]
    by_cases hc : ((L / 18446744073709551616 : Nat) : Int) = 0
    · rw [if_pos hc, beyond_f hq h0 (Nat.mod_lt _ (by decide)) hu, Option.bind_some, if_neg (by rw [Nat.zero_mul]; simp)]
    · rw [if_neg hc]
  | succ q ih =>
    intro L hq hM hm
    by_cases hc : ((L / 18446744073709551616 : Nat) : Int) = 0
    · have hL : L < 18446744073709551616 := by clear hM hm hT hW; omega
      have hLm : L % 18446744073709551616 = L := Nat.mod_eq_of_lt hL
      have hcmp := fit_cmp hM hT hW
      by_cases hb : L * 18446744073709551616 + u0 < (q + 1) * v0
      · obtain ⟨Q, g1, g2⟩ := ih (L + v1) (Nat.lt_of_succ_lt hq) (by rw [← hM, Nat.add_mul]; clear hM hm hT hW hcmp hb; generalize q * v1 = a; omega) (.inr (hcmp.1 hb))
        obtain ⟨e1, e2⟩ := left_next (left := 0) (c := 0) hL h1
        refine ⟨Q, g1, Ev.step (fun k => ?_) g2⟩
        simp only [nat_guess.l1]
        rw [if_pos hc, hLm, beyond_f hq h0 hL hu, Option.bind_some, if_pos (decide_eq_true hb), q_dec hq, e1, e2]
      · refine ⟨q + 1, ⟨hq, Nat.le_of_not_lt fun h => hb (hcmp.2 h), hm⟩, Ev.step (f := fun k => some ((q + 1 : Nat) : Int)) (fun k => ?_) (Ev.now _)⟩
        simp only [nat_guess.l1]
        rw [if_pos hc, hLm, beyond_f hq h0 hL hu, Option.bind_some, if_neg (by rw [decide_eq_false hb]; decide)]
    · refine ⟨q + 1, ⟨hq, fit_over hM hT hW hq h0 (by clear hM hm hT hW; omega), hm⟩, Ev.step (f := fun k => some ((q + 1 : Nat) : Int)) (fun k => ?_) (Ev.now _)⟩
      simp only [nat_guess.l1]
      rw [if_neg hc]
theorem guess_first {q v1 v0 u0 T W M : Nat} (hT : T = M * 18446744073709551616 + u0) (hW : W = v1 * 18446744073709551616 + v0) (hu : u0 < 18446744073709551616) (h : M < (q + 1) * v1) : T < (q + 1) * W := by
  have h2 : (q + 1) * W = (q + 1) * v1 * 18446744073709551616 + (q + 1) * v0 := by rw [hW]; grind
  rw [h2, hT]
  generalize (q + 1) * v1 = a at *
  generalize (q + 1) * v0 = b at *
  omega
theorem guess_ev {u2 u1 u0 v1 v0 : Nat} (hu1 : u1 < 18446744073709551616) (hu0 : u0 < 18446744073709551616) (h1 : v1 < 18446744073709551616) (h0 : v0 < 18446744073709551616) (hp : 0 < v1) (h2 : u2 ≤ v1) :
    ∃ Q, Fit ((u2 * 18446744073709551616 + u1) * 18446744073709551616 + u0) (v1 * 18446744073709551616 + v0) Q ∧ Ev (fun k => nat_guess.f k (u2 : Int) (u1 : Int) (u0 : Int) (v1 : Int) (v0 : Int)) (Q : Int) := by
  unfold nat_guess.f
  by_cases h : (u2 : Int) ≥ (v1 : Int)
  · have e : u2 = v1 := by omega
    obtain ⟨e1, e2⟩ := left_next (left := 0) (c := 0) hu1 h1
    obtain ⟨Q, g1, g2⟩ := guess_l0 (M := u2 * 18446744073709551616 + u1) h1 h0 hu0 rfl rfl 18446744073709551615 (u1 + v1) (by decide) (by rw [e]; omega) (.inl rfl)
    refine ⟨Q, g1, Ev.congr (fun k => if_pos h) ?_⟩
    rw [e1, e2]
    exact g2
  · have hlt : u2 < v1 := by omega
    have hdm := Nat.div_add_mod (u2 * 18446744073709551616 + u1) v1
    have hml := Nat.mod_lt (u2 * 18446744073709551616 + u1) hp
    have hq : (u2 * 18446744073709551616 + u1) / v1 < 18446744073709551616 := by
      apply Nat.div_lt_of_lt_mul
      rw [Nat.mul_comm]; clear hdm hml; omega
    obtain ⟨Q, g1, g2⟩ := guess_l1 (M := u2 * 18446744073709551616 + u1) h1 h0 hu0 rfl rfl _ ((u2 * 18446744073709551616 + u1) % v1) hq (by rw [Nat.mul_comm]; exact hdm) (.inr (guess_first rfl rfl hu0 (by
      rw [Nat.add_mul, Nat.one_mul, ← Nat.mul_comm v1]; clear hq; generalize v1 * ((u2 * 18446744073709551616 + u1) / v1) = a at *; omega)))
    refine ⟨Q, g1, Ev.congr (fun k => if_neg h) (Ev.bind (d64_nat hlt h1 hu1) ?_)⟩
    have hmm : (u2 * 18446744073709551616 + u1) % v1 < 18446744073709551616 := Nat.lt_trans hml h1
    rw [Nat.mod_eq_of_lt hmm, Nat.div_eq_of_lt hmm] at g2
    exact g2
end Go.Proofs.YtdomplmilbkaeaaDoor.Pure

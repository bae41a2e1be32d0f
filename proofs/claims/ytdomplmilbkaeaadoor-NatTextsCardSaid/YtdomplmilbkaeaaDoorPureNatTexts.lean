/-
  Which digits a number has, and which texts are numbers, against the reference. No condition but the statement's own.
-/
import Derived.Test.YtdomplmilbkaeaaDoorPLaw01
import Derived.Test.YtdomplmilbkaeaaDoorPRefG
import Derived.Test.YtdomplmilbkaeaaDoorPText
import Derived.Test.YtdomplmilbkaeaaDoorGNx0
import Derived.Test.YtdomplmilbkaeaaDoorGNx25
namespace Go.Proofs.YtdomplmilbkaeaaDoor.Pure
open Go.RowKit Go.Proofs.YtdomplmilbkaeaaDoor.GN Go.Proofs.YtdomplmilbkaeaaDoorW.PrintWords Go.Proofs.YtdomplmilbkaeaaDoorW.PrintLast Go.Proofs.YtdomplmilbkaeaaDoorW.PrintMore
set_option linter.unusedVariables false
set_option linter.unusedSimpArgs false

instance (l : List UInt8) : Decidable (Fine l) := by unfold Fine; infer_instance
theorem code_fine {l : List UInt8} (h : Fine l) : code l = if 20000 < l.length then 13 else 0 := by
  unfold code
  refine if_neg fun h1 => ?_
  rcases h1 with h1 | h1 | h1
  · exact h.1 h1
  · rcases h.2.2 with h2 | h2
    · rw [h2] at h1; exact absurd h1.1 (by decide)
    · exact h2 h1.2
  · exact h1 h.2.1
theorem code_bad {l : List UInt8} (h : ¬ Fine l) : code l = 16 := by
  unfold code
  refine if_pos (Decidable.not_not.1 fun h1 => h ?_)
  refine ⟨fun h2 => h1 (.inl h2), Decidable.not_not.1 fun h2 => h1 (.inr (.inr h2)), ?_⟩
  by_cases h2 : l.head? = some 48
  · refine .inl ?_
    cases l with
    | nil => cases h2
    | cons x xs =>
      rw [List.head?_cons] at h2
      have h3 : ¬ 1 < (x :: xs).length := fun h3 => h1 (.inr (.inl ⟨h3, by rw [List.head?_cons]; exact h2⟩))
      have h4 : xs = [] := List.length_eq_zero_iff.1 (by simp at h3; simp [h3])
      rw [h4, Option.some.inj h2]
  · exact .inr h2
theorem texts_j0 {x : List Int} (hx : WF x) (lx : x.length ≤ 12) {l : List UInt8} (hl : l.length ≤ 300 ∨ (20000 < l.length ∧ l.length ≤ 20010)) : Ev (fun k => vinculumlaw01_NatTexts.j0 k x (tx l) false) true := by
  have fin1 : ∀ (y : List Int) (e : Int), e ≠ 0 → Ev (fun k => vinculumlaw01_NatTexts.j1 k (tx l) y e false) true := fun y e he =>
    Ev.step (f := fun k => (vinculumlaw01_awake.f k).bind fun t => some t) (fun k => by
      simp only [vinculumlaw01_NatTexts.j1]
      rw [if_neg (by decide), if_neg he]) (Ev.bind awake_ev (Ev.now _))
  have gr := ref_parse (l := l) (by omega)
  refine Ev.step (fun k => by simp only [vinculumlaw01_NatTexts.j0]; exact if_neg (by decide)) ?_
  refine Ev.bind (print_ev hx (by omega)) (Ev.bind (of_ev hx (by omega)) (Ev.congr (fun k => if_pos rfl) ?_))
  by_cases hf : Fine l
  · rw [code_fine hf] at gr
    by_cases h2 : 20000 < l.length
    · rw [if_pos h2] at gr
      exact Ev.bind (parse_long (by omega) h2 hf) (Ev.bind gr (Ev.congr (fun k => if_pos rfl) (Ev.congr (fun k => if_neg (by decide)) (fin1 _ _ (by decide)))))
    · rw [if_neg h2] at gr
      have h3 : l.length ≤ 300 := by omega
      refine Ev.bind (parse_fine (by omega) hf) (Ev.bind gr (Ev.congr (fun k => if_pos rfl) (Ev.congr (fun k => if_pos rfl) ?_)))
      have e := ds_of_fine hf
      have hsv := sv_lt hf.2.1
      have hs := short_limbs hsv (by clear hsv; omega)
      have gi := is_ev (n := sv l) (m := sv l) (Nat.le_trans hs (by decide)) rfl
      rw [dec, ← e] at gi
      refine Ev.step (f := fun k => (vinculumlaw01_Is.f k (limbs (sv l)) (tx l)).bind fun t552 => if t552 = true then ((vinculumlaw01_awake.f k).bind fun t553 => (some t553)) else (some false)) (fun k => ?_) (Ev.bind gi (Ev.congr (fun k => if_pos rfl) (Ev.bind awake_ev (Ev.now _))))
      simp only [vinculumlaw01_NatTexts.j1]
      rw [if_neg (by decide)]
      exact if_pos trivial
  · rw [code_bad hf] at gr
    exact Ev.bind (parse_bad (by omega) hf) (Ev.bind gr (Ev.congr (fun k => if_pos rfl) (Ev.congr (fun k => if_neg (by decide)) (fin1 _ _ (by decide)))))
theorem NatTexts : vinculumlaw01_NatTexts.Pure := by
  intro x s _ _ wx _
  apply Ev.rounds
  unfold vinculumlaw01_NatTexts.f
  have off : Ev (fun k => vinculumlaw01_NatTexts.j0 k x s true) true :=
    Ev.step (f := fun k => (vinculumlaw01_awake.f k).bind fun t => some t) (fun k => by simp only [vinculumlaw01_NatTexts.j0]; exact if_pos trivial) (Ev.bind awake_ev (Ev.now _))
  by_cases h : (x.length : Int) > 12
  · exact Ev.congr (fun k => if_pos h) off
  refine Ev.congr (fun k => if_neg h) ?_
  have hx := WF_of_wf wx
  have lx : x.length ≤ 12 := by omega
  have es := tx_eta s
  generalize s.data.toList = l at es
  subst es
  rw [tx_size]
  by_cases h1 : (l.length : Int) > 300
  · refine Ev.congr (fun k => if_pos h1) ?_
    by_cases h2 : (l.length : Int) ≤ 20000
    · exact Ev.congr (fun k => if_pos h2) off
    · refine Ev.congr (fun k => if_neg h2) ?_
      by_cases h3 : (l.length : Int) > 20010
      · rw [decide_eq_true h3]; exact off
      · rw [decide_eq_false h3]; exact texts_j0 hx lx (.inr ⟨by omega, by omega⟩)
  · refine Ev.congr (fun k => if_neg h1) ?_
    rw [decide_eq_false (by omega)]
    exact texts_j0 hx lx (.inl (by omega))
end Go.Proofs.YtdomplmilbkaeaaDoor.Pure

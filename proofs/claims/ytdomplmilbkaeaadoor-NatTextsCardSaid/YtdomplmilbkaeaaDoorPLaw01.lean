/-
  The words of chapter 01's laws: of, Is, few. Conditions: no list is longer than 1000 words.
-/
import Derived.Test.YtdomplmilbkaeaaDoorPRefE
import Derived.Test.YtdomplmilbkaeaaDoorPNatA
import Derived.Test.YtdomplmilbkaeaaDoorPAwake01
import Derived.Test.YtdomplmilbkaeaaDoorGNx0
import Derived.Test.YtdomplmilbkaeaaDoorGNx10
import Derived.Test.YtdomplmilbkaeaaDoorGNx11
import Derived.Test.YtdomplmilbkaeaaDoorGNx14
namespace Go.Proofs.YtdomplmilbkaeaaDoor.Pure
open Go.RowKit Go.Proofs.YtdomplmilbkaeaaDoor.GN Go.Proofs.YtdomplmilbkaeaaDoorW.PrintWords Go.Proofs.YtdomplmilbkaeaaDoorW.PrintLast Go.Proofs.YtdomplmilbkaeaaDoorW.PrintMore
set_option linter.unusedVariables false
set_option linter.unusedSimpArgs false

theorem of_ev {x : List Int} (hw : WF x) (hl : x.length ≤ 1000) : Ev (fun k => vinculumlaw01_of.f k x) (dec (nv x)) :=
  Ev.bind (ref_of hw hl) (Ev.now _)
theorem is_ev {n m : Nat} (hl : (limbs n).length ≤ 1000) (h : n = m) : Ev (fun k => vinculumlaw01_Is.f k (limbs n) (dec m)) true := by
  subst h
  have g := ref_of (limbs_WF n) hl
  rw [nv_limbs] at g
  have e : Ev (fun k => (vinculumref01_Of.f k (limbs n)).bind fun t385 => some (t385.toList == (dec n).toList)) true := Ev.bind g (by rw [beq_self_eq_true]; exact Ev.now _)
  unfold vinculumlaw01_Is.f
  by_cases h0 : n = 0
  · subst h0
    rw [limbs_zero] at e ⊢
    exact Ev.congr (fun k => if_pos rfl) e
  · have hp := limbs_length_pos h0
    have e1 : wrap64 (((limbs n).length : Int) - 1) = (((limbs n).length - 1 : Nat) : Int) := by rw [w64_dec (by omega)]; omega
    have hr : rd (limbs n) (((limbs n).length - 1 : Nat) : Int) = (limbs n)[(limbs n).length - 1] := rd_of rfl (by omega)
    have hz : (limbs n)[(limbs n).length - 1] ≠ 0 := by
      have := limbs_Nz n (List.length_pos_iff.1 hp)
      rwa [List.getLast_eq_getElem] at this
    refine Ev.congr (fun k => if_neg (by omega)) ?_
    rw [e1, hr]
    exact Ev.congr (fun k => if_pos (Int.natCast_nonneg _)) (Ev.congr (fun k => if_pos (by omega)) (Ev.congr (fun k => if_neg hz) e))
theorem few_f (x y : List Int) : vinculumlaw01_few.f x y = some (decide (x.length ≤ 12 ∧ y.length ≤ 12)) := by
  unfold vinculumlaw01_few.f
  by_cases h : (x.length : Int) ≤ 12
  · rw [if_pos h]
    have : decide ((y.length : Int) ≤ 12) = decide (x.length ≤ 12 ∧ y.length ≤ 12) := by
      apply decide_eq_decide.2; omega
    rw [this]
  · rw [if_neg h]
    have : decide (x.length ≤ 12 ∧ y.length ≤ 12) = false := decide_eq_false (by omega)
    rw [this]
theorem cmpXX {x y : List Int} (hx : WF x) (hy : WF y) (lx : x.length ≤ 1000) (ly : y.length ≤ 1000) : Ev (fun k => nat_Cmp.f k x y) (cmpI (nv x) (nv y)) := cmp_ev hx hy (Nat.le_trans lx (by decide)) (Nat.le_trans ly (by decide))
theorem normX {x : List Int} (hx : WF x) (lx : x.length ≤ 1000) : Ev (fun k => nat_Norm.f k x) (limbs (nv x)) := norm_ev hx (Nat.le_trans lx (by decide))
/-- A number of up to 12 words: its digits. -/
theorem ds_few {x : List Int} (hw : WF x) {n : Nat} (hl : x.length ≤ n) : (ds (nv x)).length ≤ 20 * n + 1 := by
  have := ds_length_limbs hw; omega
end Go.Proofs.YtdomplmilbkaeaaDoor.Pure

/-
  What the greatest number is that divides two, against the reference. No condition but the statement's own.
-/
import Derived.Test.YtdomplmilbkaeaaDoorPLaw01
import Derived.Test.YtdomplmilbkaeaaDoorPRefH
import Derived.Test.YtdomplmilbkaeaaDoorPGcd
import Derived.Test.YtdomplmilbkaeaaDoorGNx0
import Derived.Test.YtdomplmilbkaeaaDoorGNx27
namespace Go.Proofs.YtdomplmilbkaeaaDoor.Pure
open Go.RowKit Go.Proofs.YtdomplmilbkaeaaDoor.GN Go.Proofs.YtdomplmilbkaeaaDoorW.PrintWords Go.Proofs.YtdomplmilbkaeaaDoorW.PrintLast Go.Proofs.YtdomplmilbkaeaaDoorW.PrintMore
set_option linter.unusedVariables false
set_option linter.unusedSimpArgs false

theorem gcd_lt {a b n : Nat} (ha : a < n) (hb : b < n) : Nat.gcd b a < n := by
  by_cases h : b = 0
  · rw [h, Nat.gcd_zero_left]; exact ha
  · exact Nat.lt_of_le_of_lt (Nat.gcd_le_left a (Nat.pos_of_ne_zero h)) hb
theorem NatGcds : vinculumlaw01_NatGcds.Pure := by
  intro x y _ _ wx _ _ wy
  apply Ev.rounds
  unfold vinculumlaw01_NatGcds.f
  have off : Ev (fun k => vinculumlaw01_NatGcds.j0 k x y true) true :=
    Ev.step (f := fun k => (vinculumlaw01_awake.f k).bind fun t => some t) (fun k => by simp only [vinculumlaw01_NatGcds.j0]; exact if_pos trivial) (Ev.bind awake_ev (Ev.now _))
  by_cases h1 : (x.length : Int) > 4
  · exact Ev.congr (fun k => if_pos h1) off
  refine Ev.congr (fun k => if_neg h1) ?_
  by_cases h2 : (y.length : Int) > 4
  · rw [decide_eq_true h2]; exact off
  rw [decide_eq_false h2]
  refine Ev.step (fun k => by simp only [vinculumlaw01_NatGcds.j0]; exact if_neg (by decide)) ?_
  have hx := WF_of_wf wx; have hy := WF_of_wf wy
  have l1 : x.length ≤ 4 := by omega
  have l2 : y.length ≤ 4 := by omega
  have dx := ds_few hx l1; have dy := ds_few hy l2
  have bx := pow_up (nv_lt hx) l1; have by' := pow_up (nv_lt hy) l2
  refine Ev.bind (gcd_ev hx hy (by omega) (by omega)) (Ev.bind (of_ev hx (by omega)) (Ev.bind (of_ev hy (by omega)) (Ev.bind (ref_gcd _ _ (by omega) (by omega)) ?_)))
  exact Ev.bind (is_ev (limbs_sml (gcd_lt bx by') (by decide)) rfl) (Ev.congr (fun k => if_pos rfl) (Ev.bind awake_ev (Ev.now _)))
end Go.Proofs.YtdomplmilbkaeaaDoor.Pure

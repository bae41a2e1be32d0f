/-
  Sums and differences, against the reference. No condition but the statement's own.
-/
import Derived.Test.YtdomplmilbkaeaaDoorPLaw01
import Derived.Test.YtdomplmilbkaeaaDoorPNatS
import Derived.Test.YtdomplmilbkaeaaDoorPRefS
import Derived.Test.YtdomplmilbkaeaaDoorGNx0
import Derived.Test.YtdomplmilbkaeaaDoorGNx28
namespace Go.Proofs.YtdomplmilbkaeaaDoor.Pure
open Go.RowKit Go.Proofs.YtdomplmilbkaeaaDoor.GN Go.Proofs.YtdomplmilbkaeaaDoorW.PrintWords Go.Proofs.YtdomplmilbkaeaaDoorW.PrintLast Go.Proofs.YtdomplmilbkaeaaDoorW.PrintMore

theorem NatAdds : vinculumlaw01_NatAdds.Pure := by
  intro x y _ _ wx _ _ wy
  apply Ev.rounds
  unfold vinculumlaw01_NatAdds.f
  rw [few_f]
  refine Ev.congr (fun k => Option.bind_some _ _) ?_
  by_cases h : x.length ≤ 12 ∧ y.length ≤ 12
  · rw [decide_eq_true h]
    refine Ev.congr (fun k => if_pos rfl) ?_
    have hx := WF_of_wf wx; have hy := WF_of_wf wy
    have lx : x.length ≤ 1000 := by omega
    have ly : y.length ≤ 1000 := by omega
    have bx := pow_up (nv_lt hx) h.1; have by' := pow_up (nv_lt hy) h.2
    have dx := ds_few hx h.1; have dy := ds_few hy h.2
    refine Ev.bind (of_ev hx lx) (Ev.bind (of_ev hy ly) (Ev.bind (normX hx lx) (Ev.bind (is_ev (limbs_sml bx (by decide)) rfl) ?_)))
    refine Ev.congr (fun k => if_pos rfl) ?_
    refine Ev.bind (addXX hx hy lx ly) (Ev.bind (ref_add (by omega) (by omega)) (Ev.bind (is_ev (limbs_sml (lt_add bx by') (by decide)) rfl) ?_))
    refine Ev.congr (fun k => if_pos rfl) ?_
    refine Ev.bind (cmpXX hx hy lx ly) ?_
    rw [ref_cmp]
    refine Ev.congr (fun k => Option.bind_some _ _) ?_
    have e : (cmpI (nv x) (nv y) != cmpI (nv x) (nv y)) = false := bne_self_eq_false _
    rw [e]
    refine Ev.step (fun k => by simp only [vinculumlaw01_NatAdds.j0]; exact if_neg (by decide)) ?_
    refine Ev.bind (sub_ev hx hy lx ly) ?_
    rw [ref_cmp]
    refine Ev.congr (fun k => Option.bind_some _ _) ?_
    by_cases h1 : nv x < nv y
    · have h2 : cmpI (nv x) (nv y) < 0 := by have := cmpI_neg.2 h1; omega
      rw [if_pos h1]
      exact Ev.congr (fun k => if_pos h2) (Ev.congr (fun k => if_pos rfl) (Ev.congr (fun k => if_pos rfl) (Ev.bind awake_ev (Ev.now _))))
    · have h2 : ¬ cmpI (nv x) (nv y) < 0 := fun h4 => h1 (cmpI_neg.1 (by omega))
      rw [if_neg h1]
      refine Ev.congr (fun k => if_neg h2) (Ev.congr (fun k => if_pos rfl) ?_)
      refine Ev.bind (ref_sub (by omega) (by omega)) (Ev.bind (is_ev (limbs_sml (Nat.lt_of_le_of_lt (Nat.sub_le _ _) bx) (by decide)) rfl) ?_)
      exact Ev.congr (fun k => if_pos rfl) (Ev.bind awake_ev (Ev.now _))
  · rw [decide_eq_false h]
    exact Ev.congr (fun k => if_neg (by decide)) (Ev.bind awake_ev (Ev.now _))
end Go.Proofs.YtdomplmilbkaeaaDoor.Pure

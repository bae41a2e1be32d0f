/-
  The difference of two numbers. Conditions: no list is longer than 1000 words.
-/
import Derived.Test.YtdomplmilbkaeaaDoorPNatL
import Derived.Test.YtdomplmilbkaeaaDoorPRefB
import Derived.Test.YtdomplmilbkaeaaDoorGNx0
import Derived.Test.YtdomplmilbkaeaaDoorGNx16
namespace Go.Proofs.YtdomplmilbkaeaaDoor.Pure
open Go.RowKit Go.Proofs.YtdomplmilbkaeaaDoor.GN Go.Proofs.YtdomplmilbkaeaaDoorW.PrintWords Go.Proofs.YtdomplmilbkaeaaDoorW.PrintLast Go.Proofs.YtdomplmilbkaeaaDoorW.PrintMore
set_option linter.unusedVariables false
set_option linter.unusedSimpArgs false

theorem sub_ev {x y : List Int} (hx : WF x) (hy : WF y) (lx : x.length ≤ 1000) (ly : y.length ≤ 1000) : Ev (fun k => nat_Sub.f k x y) (if nv x < nv y then ([], 1) else (limbs (nv x - nv y), 0)) := by
  unfold nat_Sub.f
  refine Ev.bind (trim_ev hx (Nat.le_trans lx (by decide))) (Ev.bind (trim_ev hy (Nat.le_trans ly (by decide))) ?_)
  have h1 := limbs_length_le (nv_lt hx)
  have h2 := limbs_length_le (nv_lt hy)
  have c := cmp_ev (limbs_WF (nv x)) (limbs_WF (nv y)) (by omega) (by omega)
  rw [nv_limbs, nv_limbs] at c
  refine Ev.bind c ?_
  by_cases h : nv x < nv y
  · rw [if_pos h]
    have : cmpI (nv x) (nv y) = -1 := if_pos h
    rw [this]
    exact Ev.congr (fun k => if_pos (by decide)) (Ev.now _)
  · rw [if_neg h]
    have h3 : ¬ cmpI (nv x) (nv y) < 0 := fun h4 => h (cmpI_neg.1 (by omega))
    exact Ev.congr (fun k => if_neg h3) (Ev.bind (lessL (by omega) (by omega)) (Ev.now _))
end Go.Proofs.YtdomplmilbkaeaaDoor.Pure

/-
  The product by halves is that word by word. No condition but the statement's own.
-/
import Derived.Test.YtdomplmilbkaeaaDoorPNatK
import Derived.Test.YtdomplmilbkaeaaDoorPAwake01
import Derived.Test.YtdomplmilbkaeaaDoorGNx0
import Derived.Test.YtdomplmilbkaeaaDoorGNx22
namespace Go.Proofs.YtdomplmilbkaeaaDoor.Pure
open Go.RowKit Go.Proofs.YtdomplmilbkaeaaDoor.GN Go.Proofs.YtdomplmilbkaeaaDoorW.PrintWords Go.Proofs.YtdomplmilbkaeaaDoorW.PrintLast Go.Proofs.YtdomplmilbkaeaaDoorW.PrintMore

theorem halves_awake (x y : List Int) (c : Int) : Ev (fun k => vinculumlaw01_NatHalves.j0 k x y c true) true := by
  refine Ev.step (fun k => by simp only [vinculumlaw01_NatHalves.j0]; exact if_pos trivial) ?_
  exact Ev.bind awake_ev (Ev.now _)
theorem NatHalves : vinculumlaw01_NatHalves.Pure := by
  intro x y c _ _ wx _ _ wy _
  apply Ev.rounds
  unfold vinculumlaw01_NatHalves.f
  by_cases h1 : (x.length : Int) > 60
  · exact Ev.congr (fun k => if_pos h1) (halves_awake x y c)
  · refine Ev.congr (fun k => if_neg h1) ?_
    by_cases h2 : (y.length : Int) > 60
    · exact Ev.congr (fun k => if_pos h2) (halves_awake x y c)
    · refine Ev.congr (fun k => if_neg h2) ?_
      by_cases h3 : c < 1
      · exact Ev.congr (fun k => if_pos h3) (halves_awake x y c)
      · refine Ev.congr (fun k => if_neg h3) ?_
        by_cases h4 : c > 1024
        · rw [decide_eq_true h4]; exact halves_awake x y c
        · rw [decide_eq_false h4]
          refine Ev.step (fun k => by simp only [vinculumlaw01_NatHalves.j0]; exact if_neg (by decide)) ?_
          have hx := WF_of_wf wx; have hy := WF_of_wf wy
          have lx : x.length ≤ 60 := by omega
          have ly : y.length ≤ 60 := by omega
          have bx := pow_up (nv_lt hx) lx; have by' := pow_up (nv_lt hy) ly
          refine Ev.bind (karatsuba_ev hx hy (by omega) (by omega) (by omega) (by omega)) ?_
          refine Ev.congr (fun k => if_pos rfl) ?_
          refine Ev.bind (mulXX hx hy (sml lx (by decide)) (sml ly (by decide))) ?_
          refine Ev.bind (cmpL rfl (limbs_sml (lt_mul bx by') (by decide))) ?_
          refine Ev.congr (fun k => if_pos rfl) ?_
          exact Ev.bind awake_ev (Ev.now _)
end Go.Proofs.YtdomplmilbkaeaaDoor.Pure

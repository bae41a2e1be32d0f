/-
  Products, word by word and by halves, against the reference. No condition but the statement's own.
-/
import Derived.Test.YtdomplmilbkaeaaDoorPLaw01
import Derived.Test.YtdomplmilbkaeaaDoorPNatK
import Derived.Test.YtdomplmilbkaeaaDoorGNx0
import Derived.Test.YtdomplmilbkaeaaDoorGNx31
namespace Go.Proofs.YtdomplmilbkaeaaDoor.Pure
open Go.RowKit Go.Proofs.YtdomplmilbkaeaaDoor.GN Go.Proofs.YtdomplmilbkaeaaDoorW.PrintWords Go.Proofs.YtdomplmilbkaeaaDoorW.PrintLast Go.Proofs.YtdomplmilbkaeaaDoorW.PrintMore

theorem NatMuls : vinculumlaw01_NatMuls.Pure := by
  intro x y c _ _ wx _ _ wy _
  apply Ev.rounds
  unfold vinculumlaw01_NatMuls.f
  rw [few_f]
  refine Ev.congr (fun k => Option.bind_some _ _) ?_
  by_cases h : x.length ≤ 12 ∧ y.length ≤ 12
  · rw [decide_eq_true h]
    refine Ev.congr (fun k => if_pos rfl) ?_
    have hx := WF_of_wf wx; have hy := WF_of_wf wy
    have lx : x.length ≤ 1000 := by omega
    have ly : y.length ≤ 1000 := by omega
    have bx := pow_up (nv_lt hx) h.1; have by' := pow_up (nv_lt hy) h.2
    have dx := ds_few hx h.1; have dy := ds_few hy h.2
    refine Ev.bind (of_ev hx lx) (Ev.bind (of_ev hy ly) (Ev.bind (ref_mul (by omega) (by omega)) (Ev.bind (mulXX hx hy lx ly) (Ev.bind (is_ev (limbs_sml (lt_mul bx by') (by decide)) rfl) ?_))))
    refine Ev.congr (fun k => if_pos rfl) ?_
    have bad : (c < 1 ∨ c > 1024) → Ev (fun k => (nat_Karatsuba.f k x y c).bind fun bt709 => vinculumlaw01_NatMuls.j0 k (dec (nv x * nv y)) bt709.1 bt709.2 true) true := fun hc => by
      refine Ev.bind (karatsuba_err hc) ?_
      refine Ev.step (fun k => by simp only [vinculumlaw01_NatMuls.j0]; exact if_pos trivial) ?_
      exact Ev.congr (fun k => if_pos trivial) (Ev.congr (fun k => if_pos rfl) (Ev.bind awake_ev (Ev.now _)))
    by_cases h1 : c < 1
    · exact Ev.congr (fun k => by simp only [if_pos h1]) (bad (.inl h1))
    · by_cases h2 : c > 1024
      · exact Ev.congr (fun k => by simp only [if_neg h1, decide_eq_true h2]) (bad (.inr h2))
      · refine Ev.congr (fun k => by simp only [if_neg h1, decide_eq_false h2]; rfl) (Ev.bind (karatsuba_ev hx hy (by omega) (by omega) (by omega) (by omega)) ?_)
        refine Ev.step (fun k => by simp only [vinculumlaw01_NatMuls.j0]; exact if_neg (by decide)) ?_
        refine Ev.congr (fun k => if_pos trivial) (Ev.bind (is_ev (limbs_sml (lt_mul bx by') (by decide)) rfl) ?_)
        exact Ev.congr (fun k => if_pos rfl) (Ev.bind awake_ev (Ev.now _))
  · rw [decide_eq_false h]
    exact Ev.congr (fun k => if_neg (by decide)) (Ev.bind awake_ev (Ev.now _))
end Go.Proofs.YtdomplmilbkaeaaDoor.Pure

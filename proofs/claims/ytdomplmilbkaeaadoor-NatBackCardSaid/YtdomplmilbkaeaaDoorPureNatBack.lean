/-
  What was added may be taken away again, a number is y times what DivMod answers and what is left, and what is printed is parsed. No condition but the statement's own.
-/
import Derived.Test.YtdomplmilbkaeaaDoorPNatS
import Derived.Test.YtdomplmilbkaeaaDoorPDivM
import Derived.Test.YtdomplmilbkaeaaDoorPText
import Derived.Test.YtdomplmilbkaeaaDoorPAwake01
import Derived.Test.YtdomplmilbkaeaaDoorGNx0
import Derived.Test.YtdomplmilbkaeaaDoorGNx29
namespace Go.Proofs.YtdomplmilbkaeaaDoor.Pure
open Go.RowKit Go.Proofs.YtdomplmilbkaeaaDoor.GN Go.Proofs.YtdomplmilbkaeaaDoorW.PrintWords Go.Proofs.YtdomplmilbkaeaaDoorW.PrintLast Go.Proofs.YtdomplmilbkaeaaDoorW.PrintMore
set_option linter.unusedVariables false
set_option linter.unusedSimpArgs false

theorem cmp_back {y : List Int} {n : Nat} (hy : WF y) (ly : y.length ≤ 1000) (ln : (limbs n).length ≤ 1000) : Ev (fun k => nat_Cmp.f k (limbs n) y) (cmpI n (nv y)) := by
  have := cmp_ev (limbs_WF n) hy (Nat.le_trans ln (by decide)) (Nat.le_trans ly (by decide))
  rwa [nv_limbs] at this
theorem ds_length_words {x : List Int} (hw : WF x) : (ds (nv x)).length ≤ 20 * x.length + 1 := by
  refine ds_length_le (Nat.lt_of_lt_of_le (nv_lt hw) ?_) (Nat.succ_pos _)
  rw [Nat.pow_succ, Nat.pow_mul]
  have h1 : 18446744073709551616 ^ x.length ≤ (10 ^ 20) ^ x.length := Nat.pow_le_pow_left (by decide) _
  exact Nat.le_trans h1 (Nat.le_mul_of_pos_right _ (by decide))
theorem cmpI_same (n : Nat) : cmpI n n = 0 := by simp [cmpI]
theorem back_j1 {x y : List Int} (hx : WF x) (hy : WF y) (lx : x.length ≤ 40) (ly : y.length ≤ 40) : Ev (fun k => vinculumlaw01_NatBack.j1 k x y false) true := by
  have bx := pow_up (nv_lt hx) lx; have by' := pow_up (nv_lt hy) ly
  refine Ev.step (fun k => by simp only [vinculumlaw01_NatBack.j1]; exact if_neg (by decide)) ?_
  by_cases h0 : nv y = 0
  · have gc := cmp_ev hy WF.nil (Nat.le_trans ly (by decide)) (by decide)
    have e : cmpI (nv y) (nv []) = 0 := by rw [h0]; rfl
    rw [e] at gc
    exact Ev.bind (dm_zero hx hy (by omega) (by omega) h0) (Ev.congr (fun k => if_neg (by decide)) (Ev.congr (fun k => if_pos rfl) (Ev.bind gc (Ev.congr (fun k => if_pos rfl) (Ev.bind awake_ev (Ev.now _))))))
  · have hp := Nat.pos_of_ne_zero h0
    have hq : nv x / nv y < 18446744073709551616 ^ 40 := Nat.lt_of_le_of_lt (Nat.div_le_self _ _) bx
    have hr : nv x % nv y < 18446744073709551616 ^ 40 := Nat.lt_of_le_of_lt (Nat.mod_le _ _) bx
    have sq := limbs_sml hq (by decide)
    have sr := limbs_sml hr (by decide)
    have gm := mulX hy (b := nv x / nv y) (Nat.le_trans ly (by decide)) sq
    have gm2 := mul_ev (limbs_WF (nv x / nv y)) hy (Nat.le_trans sq (by decide)) (Nat.le_trans ly (by decide))
    rw [nv_limbs] at gm2
    have hqy : nv x / nv y * nv y ≤ nv x := Nat.div_mul_le_self _ _
    have sm : (limbs (nv x / nv y * nv y)).length ≤ 1000 := limbs_sml (Nat.lt_of_le_of_lt hqy bx) (by decide)
    have ga := addL sm sr
    have e : nv x / nv y * nv y + nv x % nv y = nv x := by rw [Nat.mul_comm]; exact Nat.div_add_mod _ _
    rw [e] at ga
    have gc := cmp_back hx (Nat.le_trans lx (by decide)) (limbs_sml bx (by decide))
    rw [cmpI_same] at gc
    have gl := cmp_back hy (Nat.le_trans ly (by decide)) sr
    have hlt : cmpI (nv x % nv y) (nv y) < 0 := by rw [cmpI, if_pos (Nat.mod_lt _ hp)]; decide
    exact Ev.bind (dm_ev hx hy (by omega) (by omega) h0) (Ev.congr (fun k => if_pos rfl) (Ev.bind gm2 (Ev.bind ga (Ev.bind gc (Ev.congr (fun k => if_pos rfl) (Ev.bind gl (Ev.congr (fun k => if_pos hlt) (Ev.bind awake_ev (Ev.now _)))))))))
theorem NatBack : vinculumlaw01_NatBack.Pure := by
  intro x y _ _ wx _ _ wy
  apply Ev.rounds
  unfold vinculumlaw01_NatBack.f
  have off : Ev (fun k => vinculumlaw01_NatBack.j0 k x y true) true :=
    Ev.step (f := fun k => (vinculumlaw01_awake.f k).bind fun t => some t) (fun k => by simp only [vinculumlaw01_NatBack.j0]; exact if_pos trivial) (Ev.bind awake_ev (Ev.now _))
  by_cases h1 : (x.length : Int) > 40
  · exact Ev.congr (fun k => if_pos h1) off
  refine Ev.congr (fun k => if_neg h1) ?_
  by_cases h2 : (y.length : Int) > 40
  · rw [decide_eq_true h2]; exact off
  rw [decide_eq_false h2]
  have hx := WF_of_wf wx; have hy := WF_of_wf wy
  have lx : x.length ≤ 40 := by omega
  have ly : y.length ≤ 40 := by omega
  have bx := pow_up (nv_lt hx) lx; have by' := pow_up (nv_lt hy) ly
  have sx := limbs_sml bx (show 40 ≤ 1000 by decide)
  have ss := limbs_sml (lt_add bx by') (show 40 + 1 ≤ 1000 by decide)
  have gs := sub_ev (limbs_WF (nv x + nv y)) hy ss (Nat.le_trans ly (by decide))
  rw [nv_limbs, if_neg (Nat.not_lt.2 (Nat.le_add_left _ _)), Nat.add_sub_cancel] at gs
  have hlen : (ds (nv x)).length ≤ 980 := by have := ds_length_words hx; omega
  have gp := parse_fine hlen (fine_ds (nv x))
  rw [sv_ds] at gp
  have gc := cmp_back hx (Nat.le_trans lx (by decide)) sx
  rw [cmpI_same] at gc
  refine Ev.step (fun k => by simp only [vinculumlaw01_NatBack.j0]; exact if_neg (by decide)) ?_
  refine Ev.bind (addXX hx hy (by omega) (by omega)) (Ev.bind gs (Ev.bind (print_ev hx (by omega)) (Ev.bind gp (Ev.congr (fun k => if_pos rfl) (Ev.bind gc (Ev.congr (fun k => if_pos rfl) (Ev.congr (fun k => if_pos rfl) (Ev.bind gc ?_))))))))
  exact back_j1 hx hy lx ly
end Go.Proofs.YtdomplmilbkaeaaDoor.Pure

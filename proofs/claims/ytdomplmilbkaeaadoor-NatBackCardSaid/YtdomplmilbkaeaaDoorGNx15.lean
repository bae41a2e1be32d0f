-- Written by wip/tools/myprint.py (this session's program, over the kit's print.py).
import Derived.Test.YtdomplmilbkaeaaDoorGNx0
namespace Go.Proofs.YtdomplmilbkaeaaDoor.GN
open Go.RowKit Go.Proofs.YtdomplmilbkaeaaDoorW.PrintWords Go.Proofs.YtdomplmilbkaeaaDoorW.PrintLast Go.Proofs.YtdomplmilbkaeaaDoorW.PrintMore
attribute [local go_sem] adRun sbRun
attribute [local go_sem] max2_int min2_int max_two min_two max_three min_three max_four min_four   -- for this text's walks alone
set_option linter.unusedVariables false
set_option linter.unusedSimpArgs false

/-! ### nat_up: function 57 -/
def nat_up.f (l0 : List Int) (a1 : Int) : Option (List Int) := if (l0.length : Int) = 0 then (some ([] : List Int)) else (if 0 ≤ a1 then (if a1 ≤ (wrap64 (a1 + (l0.length : Int))) then (if (wrap64 (a1 + (l0.length : Int)) : Int).toNat ≤ 35184372088832 then ((some (List.replicate (a1 : Int).toNat 0 : List Int)).bind fun y385 => (if y385.length + l0.length < 17592186044416 then (some (y385 ++ l0)) else (none))) else (none)) else (none)) else (none))
set_option maxHeartbeats 8000000 in
set_option maxRecDepth 100000 in
theorem nat_up.calls (A0 : Option Addr) (c0 : Nat) (l0 : List Int) (a1 : Int) (r : List Int) (w : World) (hr0 : Kd.C (Kd.int .u64) w A0 l0.length l0) (hc0 : l0.length ≤ c0) (h : nat_up.f l0 a1 = some r) :
  Calls Tryd.prog 57 #[.slice A0 l0.length c0, .int .i64 a1] w fun e w' => ∃ v0_ : Value, e = .returned (v0_) ∧ Kd.R (Kd.int .u64) 24 w' w.heap.size (fun _ => True) v0_ r ∧ Below w.heap.size w w' := by
 have HR0 := Aside0.mk hr0
 have HC0 := Aside0.mk hc0
 clear hr0 hc0
 have HB := Aside0.mk (Below.refl w.heap.size w)
 have H : (if (l0.length : Int) = 0 then (some ([] : List Int)) else (if 0 ≤ a1 then (if a1 ≤ (wrap64 (a1 + (l0.length : Int))) then (if (wrap64 (a1 + (l0.length : Int)) : Int).toNat ≤ 35184372088832 then ((some (List.replicate (a1 : Int).toNat 0 : List Int)).bind fun y385 => (if y385.length + l0.length < 17592186044416 then (some (y385 ++ l0)) else (none))) else (none)) else (none)) else (none))) = some r := h
 clear h
 by_cases c3 : (l0.length : Int) = 0
 ·rw [if_pos c3] at H
  have c3b0 : ((l0.length : Int) == 0) = true := beq_iff_eq.mpr c3
  have c3b1 : ((l0.length : Int) != 0) = false := bne_eq_false_iff_eq.mpr c3
  clear c3
  obtain rfl := Option.some.inj H
  go_enter Tryd.func57, Tryd.ntmps57
  go_wp2
  go_ret
  exact ⟨_, by first | rfl | (simp [errW_none, errW_some] <;> rfl) | (simp [*, errW_none, errW_some] <;> rfl), by first | exact Kd.R_nil _ _ _ _ _ | exact Kd.N_nil _ _ _ _ _ | exact Kd.V_nil _ _ _ _ _ | exact Kd.Q_nil _ _ _ _ _ | exact Kd.S_nil _ _ _ _ _, by repeat (first | (with_reducible first | exact HB.out | apply below_alloc | apply pw_below_drewN | apply below_drew1) | exact HB.out)⟩
 rw [if_neg c3] at H
 have c3b0 : ((l0.length : Int) == 0) = false := beq_eq_false_iff_ne.mpr c3
 have c3b1 : ((l0.length : Int) != 0) = true := bne_iff_ne.mpr c3
 have c3b2 : ¬ (l0 = []) := fun h_ => c3 (by rw [h_]; rfl)
 by_cases c4 : 0 ≤ a1
 ·rw [if_pos c4] at H
  have c4b0 := eq_true c4
  have c4b1 : decide (0 ≤ a1) = true := decide_eq_true c4
  clear c4
  by_cases c5 : a1 ≤ (wrap64 (a1 + (l0.length : Int)))
  ·rw [if_pos c5] at H
   have c5b0 := eq_true c5
   have c5b1 : decide (a1 ≤ (wrap64 (a1 + (l0.length : Int)))) = true := decide_eq_true c5
   by_cases c6 : (wrap64 (a1 + (l0.length : Int)) : Int).toNat ≤ 35184372088832
   ·rw [if_pos c6] at H
    have c6b0 := eq_true c6
    have c6b1 : decide ((wrap64 (a1 + (l0.length : Int)) : Int).toNat ≤ 35184372088832) = true := decide_eq_true c6
    obtain ⟨y385, hy385⟩ : ∃ y_ : List Int, y_ = (List.replicate (a1 : Int).toNat 0) := ⟨_, rfl⟩
    replace H : (if y385.length + l0.length < 17592186044416 then (some (y385 ++ l0)) else (none)) = some r := by first | (rw [hy385]; with_reducible exact H) | (have H2_ := (Option.bind_some _ _).symm.trans H; rw [hy385]; with_reducible exact H2_) | (have H2_ := (Option.bind_some _ _).symm.trans H; with_reducible exact H2_) | with_reducible exact H | (rw [hy385]; exact H) | exact H
    have Ny385 := Aside0.mk hy385
    clear hy385
    by_cases c7 : y385.length + l0.length < 17592186044416
    ·rw [if_pos c7] at H
     have LMc7 := Aside0.mk c7
     clear c7
     obtain ⟨y388, hy388⟩ : ∃ y_ : List Int, y_ = (y385 ++ l0) := ⟨_, rfl⟩
     replace H : (some y388) = some r := by first | (rw [hy388]; with_reducible exact H) | (have H2_ := (Option.bind_some _ _).symm.trans H; rw [hy388]; with_reducible exact H2_) | (have H2_ := (Option.bind_some _ _).symm.trans H; with_reducible exact H2_) | with_reducible exact H | (rw [hy388]; exact H) | exact H
     have Ny388 := Aside0.mk hy388
     clear hy388
     obtain rfl := Option.some.inj H
     go_enter Tryd.func57, Tryd.ntmps57
     go_wp2_with (first | ((with_reducible refine gate_dst (N := 13) rfl ?_); refine make_cap (Kd.int .u64) _ 24 rfl (N := 13) rfl 23 _ _ rfl a1 (wrap64 (a1 + (l0.length : Int))) rfl rfl Tryd.underlying23 (.int .u64 0) 8 info24 rfl (by decide) (by omega) 0 (ok := fun _ => True) (okp := fun _ => True) rfl (fun _ hk => hk) trivial (of_decide_eq_true (by first | (with_reducible assumption) | assumption)) (of_decide_eq_true (by first | (with_reducible assumption) | assumption)) (Nat.le_trans (Nat.mul_le_mul_right _ (of_decide_eq_true (by first | (with_reducible assumption) | assumption) : (wrap64 (a1 + (l0.length : Int))).toNat ≤ 35184372088832)) (by omega)) (Below.refl _ _) (Nat.le_refl _) ?_; intro v386 w8 ho9 hb hg_ hnew_; clear hg_ hnew_; (first | rw [← Ny385.out] at ho9 | (simp only [Int.reduceToNat] at ho9; rw [← Ny385.out] at ho9)); have n0_ := Aside0.mk (Kd.R_lower ho9 (below_size (by repeat (first | (with_reducible first | exact HB.out | apply below_alloc | apply pw_below_drewN | apply below_drew1) | exact HB.out)))); have n1_ := Aside0.mk (below_step (by repeat (first | (with_reducible first | exact HB.out | apply below_alloc | apply pw_below_drewN | apply below_drew1) | exact HB.out)) hb); clear HB; have HO387 := n0_; have HB := n1_; clear n0_ n1_; clear hb ho9) | ((with_reducible refine gate_builtin (b := .append) (xs := #[.tmp 13, .tmp 14]) rfl ?_); at_builtin; refine Kd.R_append_rows (Kd.int .u64) (w0 := w) w.heap.size rfl (.tmp 13) (.tmp 14) 23 24 (.int .u64 0) 8 rfl Tryd.underlying23 info24 rfl (by decide) (by omega) v386 y385 l0 _ _ _ (fun _ => True) (fun _ => False) rfl rfl ?aO ?aR (fun _ _ h => h) (fun _ h => h.elim) ?aF ?aB ?aS ?aL ?_; (case aR => repeat (first | exact (Kd.C_below HR0.out HB.out) | (with_reducible refine Kd.C_alloc ?_ _) | (with_reducible refine Kd.C_drewN ?_ _) | (with_reducible refine Kd.C_drew ?_))); (case aB => exact (by repeat (first | (with_reducible first | exact HB.out | apply below_alloc | apply pw_below_drewN | apply below_drew1) | exact HB.out))); (case aF => exact (fun _ _ => trivial)); (case aO => exact (by (with_reducible repeat (first | apply Kd.R_alloc | apply Kd.R_drewN | apply Kd.R_drew)); exact HO387.out)); (case aS => exact (below_size (by repeat (first | (with_reducible first | exact HB.out | apply below_alloc | apply pw_below_drewN | apply below_drew1) | exact HB.out)))); (case aL => have := LMc7.out; omega); intro v389 w10 ho hb hg hat; rw [← Ny388.out] at ho; have n0_ := Aside0.mk (hb); have n1_ := Aside0.mk (ho); clear HB; clear HO387; have HB := n0_; have HO390 := n1_; clear n0_ n1_; clear ho hb hg hat))
     go_ret
     exact ⟨_, by first | rfl | (simp [errW_none, errW_some] <;> rfl) | (simp [*, errW_none, errW_some] <;> rfl), by (with_reducible repeat (first | apply Kd.R_alloc | apply Kd.R_drewN | apply Kd.R_drew)); exact HO390.out, by repeat (first | (with_reducible first | exact HB.out | apply below_alloc | apply pw_below_drewN | apply below_drew1) | exact HB.out)⟩
    rw [if_neg c7] at H
    exact absurd H (by simp)
   rw [if_neg c6] at H
   exact absurd H (by simp)
  rw [if_neg c5] at H
  exact absurd H (by simp)
 rw [if_neg c4] at H
 exact absurd H (by simp)

end Go.Proofs.YtdomplmilbkaeaaDoor.GN
-- thin

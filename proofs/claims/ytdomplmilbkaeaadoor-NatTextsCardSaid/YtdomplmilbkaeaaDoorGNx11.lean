-- Written by wip/tools/myprint.py (this session's program, over the kit's print.py).
import Derived.Test.YtdomplmilbkaeaaDoorGNx0
import Derived.Test.YtdomplmilbkaeaaDoorGNx10
namespace Go.Proofs.YtdomplmilbkaeaaDoor.GN
open Go.RowKit Go.Proofs.YtdomplmilbkaeaaDoorW.PrintWords Go.Proofs.YtdomplmilbkaeaaDoorW.PrintLast Go.Proofs.YtdomplmilbkaeaaDoorW.PrintMore
attribute [local go_sem] adRun sbRun
attribute [local go_sem] max2_int min2_int max_two min_two max_three min_three max_four min_four   -- for this text's walks alone
set_option linter.unusedVariables false
set_option linter.unusedSimpArgs false

/-! ### vinculumlaw01_Is: function 19 -/
def vinculumlaw01_Is.f (k : Nat) (l0 : List Int) (a1 : ByteArray) : Option (Bool) := if (l0.length : Int) = 0 then ((vinculumref01_Of.f k l0).bind fun t363 => (some (t363.toList == a1.toList))) else (if 0 ≤ (wrap64 ((l0.length : Int) - 1)) then (if (wrap64 ((l0.length : Int) - 1)) < (l0.length : Int) then (if (rd l0 (wrap64 ((l0.length : Int) - 1))) = 0 then (some false) else ((vinculumref01_Of.f k l0).bind fun t365 => (some (t365.toList == a1.toList)))) else (none)) else (none))
theorem vinculumlaw01_Is.mono : ∀ a0 a1 k, LeO (vinculumlaw01_Is.f k a0 a1) (vinculumlaw01_Is.f (k + 1) a0 a1) := by
 intro a0 a1 k
 unfold vinculumlaw01_Is.f
 repeat' first
   | (with_reducible exact vinculumref01_Of.mono _ _)
   | (with_reducible exact LeO.refl _)
   | (with_reducible exact LeO.none _)
   | (with_reducible refine LeO.ite ?_ ?_)
   | (with_reducible refine LeO.bind ?_ (fun _ => ?_))
   | exact vinculumref01_Of.mono _ _
   | exact LeO.none _
   | refine LeO.ite ?_ ?_
   | refine LeO.bind ?_ (fun _ => ?_)
set_option maxHeartbeats 8000000 in
set_option maxRecDepth 100000 in
theorem vinculumlaw01_Is.calls (k : Nat) (A0 : Option Addr) (c0 : Nat) (l0 : List Int) (a1 : ByteArray) (r : Bool) (w : World) (hr0 : Kd.C (Kd.int .u64) w A0 l0.length l0) (hc0 : l0.length ≤ c0) (h : vinculumlaw01_Is.f k l0 a1 = some r) :
  Calls Tryd.prog 19 #[.slice A0 l0.length c0, .string a1] w fun e w' => e = .returned (.bool r) ∧ Below w.heap.size w w' := by
 have HR0 := Aside0.mk hr0
 have HC0 := Aside0.mk hc0
 clear hr0 hc0
 have HB := Aside0.mk (Below.refl w.heap.size w)
 have H : (if (l0.length : Int) = 0 then ((vinculumref01_Of.f k l0).bind fun t363 => (some (t363.toList == a1.toList))) else (if 0 ≤ (wrap64 ((l0.length : Int) - 1)) then (if (wrap64 ((l0.length : Int) - 1)) < (l0.length : Int) then (if (rd l0 (wrap64 ((l0.length : Int) - 1))) = 0 then (some false) else ((vinculumref01_Of.f k l0).bind fun t365 => (some (t365.toList == a1.toList)))) else (none)) else (none))) = some r := h
 clear h
 by_cases c3 : (l0.length : Int) = 0
 ·rw [if_pos c3] at H
  have c3b0 : ((l0.length : Int) == 0) = true := beq_iff_eq.mpr c3
  have c3b1 : ((l0.length : Int) != 0) = false := bne_eq_false_iff_eq.mpr c3
  clear c3
  replace H := Option.bind_eq_some_iff.mp H
  obtain ⟨t363, A40, H⟩ := H
  replace H : (some (t363.toList == a1.toList)) = some r := H
  have A4 := Aside0.mk A40
  clear A40
  obtain rfl := Option.some.inj H
  go_enter Tryd.func19, Tryd.ntmps19
  go_wp2_with (first | (go_at_call 41; (with_reducible refine (vinculumref01_Of.calls k _ _ l0 t363 _ ?side1 ?side2 A4.out).mono ?_); (case side1 => repeat (first | exact HR0.out | (with_reducible refine Kd.C_alloc ?_ _) | (with_reducible refine Kd.C_drewN ?_ _) | (with_reducible refine Kd.C_drew ?_))); (case side2 => exact HC0.out); rintro e w5 ⟨rfl, hb⟩; have n0_ := Aside0.mk (below_step (by repeat (first | (with_reducible first | exact HB.out | apply below_alloc | apply pw_below_drewN | apply below_drew1) | exact HB.out)) hb); clear HB; have HB := n0_; clear n0_; (try clear hb); (try clear hb2); (try clear hk); (try clear hi)))
  go_ret
  exact ⟨by first | rfl | (simp [errW_none, errW_some] <;> rfl) | (simp [*, errW_none, errW_some] <;> rfl), by repeat (first | (with_reducible first | exact HB.out | apply below_alloc | apply pw_below_drewN | apply below_drew1) | exact HB.out)⟩
 rw [if_neg c3] at H
 have c3b0 : ((l0.length : Int) == 0) = false := beq_eq_false_iff_ne.mpr c3
 have c3b1 : ((l0.length : Int) != 0) = true := bne_iff_ne.mpr c3
 have c3b2 : ¬ (l0 = []) := fun h_ => c3 (by rw [h_]; rfl)
 obtain ⟨ji6, hji6⟩ : ∃ j_ : Int, (wrap64 ((l0.length : Int) - 1)) = j_ := ⟨_, rfl⟩
 replace H : (if 0 ≤ (ji6) then (if (ji6) < (l0.length : Int) then (if (rd l0 (ji6)) = 0 then (some false) else ((vinculumref01_Of.f k l0).bind fun t365 => (some (t365.toList == a1.toList)))) else (none)) else (none)) = some r := by first | (rw [hji6] at H; exact H) | (simp only [hji6] at H ⊢; exact H)
 have hji6w : (IntKind.i64.wrap ((l0.length : Int) - 1)) = ji6 := (i64_w _).trans hji6
 by_cases c7 : 0 ≤ (ji6)
 ·rw [if_pos c7] at H
  have c7b0 : decide (0 ≤ (ji6)) = true := decide_eq_true c7
  clear c7
  by_cases c8 : (ji6) < (l0.length : Int)
  ·rw [if_pos c8] at H
   have c8b0 : decide ((ji6) < (l0.length : Int)) = true := decide_eq_true c8
   clear c8
   by_cases c9 : (rd l0 (ji6)) = 0
   ·rw [if_pos c9] at H
    have c9b0 : ((rd l0 (ji6)) == 0) = true := beq_iff_eq.mpr c9
    have c9b1 : ((rd l0 (ji6)) != 0) = false := bne_eq_false_iff_eq.mpr c9
    clear c9
    obtain rfl := Option.some.inj H
    have p364 : 0 ≤ ((ji6) : Int) := of_decide_eq_true (by first | (with_reducible assumption) | assumption)
    have q364 : (ji6) < (l0.length : Int) := of_decide_eq_true (by first | (with_reducible assumption) | assumption)
    obtain ⟨ad364, e364, hx364_0⟩ := Kd.at_int HR0.out (ji6) p364 q364
    cases e364
    replace p364 := eq_true p364
    replace q364 := eq_true q364
    go_enter Tryd.func19, Tryd.ntmps19
    go_wp2
    go_ret
    exact ⟨by first | rfl | (simp [errW_none, errW_some] <;> rfl) | (simp only [← hji6]; first | rfl | (simp [errW_none, errW_some] <;> rfl)) | (simp [*, errW_none, errW_some] <;> rfl), by repeat (first | (with_reducible first | exact HB.out | apply below_alloc | apply pw_below_drewN | apply below_drew1) | exact HB.out)⟩
   rw [if_neg c9] at H
   have c9b0 : ((rd l0 (ji6)) == 0) = false := beq_eq_false_iff_ne.mpr c9
   have c9b1 : ((rd l0 (ji6)) != 0) = true := bne_iff_ne.mpr c9
   replace H := Option.bind_eq_some_iff.mp H
   obtain ⟨t365, A100, H⟩ := H
   replace H : (some (t365.toList == a1.toList)) = some r := H
   have A10 := Aside0.mk A100
   clear A100
   obtain rfl := Option.some.inj H
   have p364 : 0 ≤ ((ji6) : Int) := of_decide_eq_true (by first | (with_reducible assumption) | assumption)
   have q364 : (ji6) < (l0.length : Int) := of_decide_eq_true (by first | (with_reducible assumption) | assumption)
   obtain ⟨ad364, e364, hx364_0⟩ := Kd.at_int HR0.out (ji6) p364 q364
   cases e364
   replace p364 := eq_true p364
   replace q364 := eq_true q364
   go_enter Tryd.func19, Tryd.ntmps19
   go_wp2_with (first | (go_at_call 41; (with_reducible refine (vinculumref01_Of.calls k _ _ l0 t365 _ ?side1 ?side2 A10.out).mono ?_); (case side1 => repeat (first | exact HR0.out | (with_reducible refine Kd.C_alloc ?_ _) | (with_reducible refine Kd.C_drewN ?_ _) | (with_reducible refine Kd.C_drew ?_))); (case side2 => exact HC0.out); rintro e w11 ⟨rfl, hb⟩; have n0_ := Aside0.mk (below_step (by repeat (first | (with_reducible first | exact HB.out | apply below_alloc | apply pw_below_drewN | apply below_drew1) | exact HB.out)) hb); clear HB; have HB := n0_; clear n0_; (try clear hb); (try clear hb2); (try clear hk); (try clear hi)))
   go_ret
   exact ⟨by first | rfl | (simp [errW_none, errW_some] <;> rfl) | (simp only [← hji6]; first | rfl | (simp [errW_none, errW_some] <;> rfl)) | (simp [*, errW_none, errW_some] <;> rfl), by repeat (first | (with_reducible first | exact HB.out | apply below_alloc | apply pw_below_drewN | apply below_drew1) | exact HB.out)⟩
  rw [if_neg c8] at H
  exact absurd H (by simp)
 rw [if_neg c7] at H
 exact absurd H (by simp)

end Go.Proofs.YtdomplmilbkaeaaDoor.GN
-- thin

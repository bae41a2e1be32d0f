-- Written by wip/tools/myprint.py (this session's program, over the kit's print.py).
import Derived.Test.YtdomplmilbkaeaaDoorGNx0
import Derived.Test.YtdomplmilbkaeaaDoorGNx7
import Derived.Test.YtdomplmilbkaeaaDoorGNx8
import Derived.Test.YtdomplmilbkaeaaDoorGNx10
import Derived.Test.YtdomplmilbkaeaaDoorGNx11
import Derived.Test.YtdomplmilbkaeaaDoorGNx23
namespace Go.Proofs.YtdomplmilbkaeaaDoor.GN
open Go.RowKit Go.Proofs.YtdomplmilbkaeaaDoorW.PrintWords Go.Proofs.YtdomplmilbkaeaaDoorW.PrintLast Go.Proofs.YtdomplmilbkaeaaDoorW.PrintMore
attribute [local go_sem] adRun sbRun
attribute [local go_sem] max2_int min2_int max_two min_two max_three min_three max_four min_four   -- for this text's walks alone
set_option linter.unusedVariables false
set_option linter.unusedSimpArgs false

/-! ### vinculumlaw01_NatTexts: function 4 -/
mutual
def vinculumlaw01_NatTexts.j0 : Nat → List Int → ByteArray → Bool → Option (Bool)
 | 0, _, _, _ => none
 | k + 1, x0, x1, x25 => if x25 = true then ((vinculumlaw01_awake.f k).bind fun t544 => (some t544)) else ((nat_Print.f k x0).bind fun t545 => ((vinculumlaw01_of.f k x0).bind fun t546 => (if t545.toList = t546.toList then ((nat_Parse.f k x1).bind fun bt547 => ((vinculumref01_Parse.f k x1).bind fun t551 => (if bt547.2 = t551 then (if t551 = 0 then (vinculumlaw01_NatTexts.j1 k x1 bt547.1 t551 false) else (vinculumlaw01_NatTexts.j1 k x1 bt547.1 t551 ((bt547.1.length : Int) != 0))) else (vinculumlaw01_NatTexts.j1 k x1 bt547.1 t551 true)))) else (some false))))
def vinculumlaw01_NatTexts.j1 : Nat → ByteArray → List Int → Int → Bool → Option (Bool)
 | 0, _, _, _, _ => none
 | k + 1, x1, x5, x7, x50 => if x50 = true then (some false) else (if x7 = 0 then ((vinculumlaw01_Is.f k x5 x1).bind fun t552 => (if t552 = true then ((vinculumlaw01_awake.f k).bind fun t553 => (some t553)) else (some false))) else ((vinculumlaw01_awake.f k).bind fun t554 => (some t554)))
end
def vinculumlaw01_NatTexts.f (k : Nat) (l0 : List Int) (a1 : ByteArray) : Option (Bool) := if (l0.length : Int) > 12 then (vinculumlaw01_NatTexts.j0 k l0 a1 true) else (if (a1.size : Int) > 300 then (if (a1.size : Int) ≤ 20000 then (vinculumlaw01_NatTexts.j0 k l0 a1 true) else (vinculumlaw01_NatTexts.j0 k l0 a1 (decide ((a1.size : Int) > 20010)))) else (vinculumlaw01_NatTexts.j0 k l0 a1 (decide ((a1.size : Int) > 20010))))
theorem vinculumlaw01_NatTexts.mono_l : ∀ k, (∀ y0 y1 y2, LeO (vinculumlaw01_NatTexts.j0 k y0 y1 y2) (vinculumlaw01_NatTexts.j0 (k + 1) y0 y1 y2)) ∧ (∀ y0 y1 y2 y3, LeO (vinculumlaw01_NatTexts.j1 k y0 y1 y2 y3) (vinculumlaw01_NatTexts.j1 (k + 1) y0 y1 y2 y3))
 | 0 => ⟨fun _ _ _ r h => by simp [vinculumlaw01_NatTexts.j0] at h, fun _ _ _ _ r h => by simp [vinculumlaw01_NatTexts.j1] at h⟩
 | k + 1 => by
  obtain ⟨ih0, ih1⟩ := vinculumlaw01_NatTexts.mono_l k
  refine ⟨?_, ?_⟩
  ·intro y0 y1 y2
   unfold vinculumlaw01_NatTexts.j0
   repeat' first
   | (with_reducible exact ih0 _ _ _)
   | (with_reducible exact ih1 _ _ _ _)
   | (with_reducible exact nat_Parse.mono _ _)
   | (with_reducible exact nat_Print.mono _ _)
   | (with_reducible exact vinculumlaw01_Is.mono _ _ _)
   | (with_reducible exact vinculumlaw01_awake.mono _)
   | (with_reducible exact vinculumlaw01_of.mono _ _)
   | (with_reducible exact vinculumref01_Parse.mono _ _)
   | (with_reducible exact LeO.refl _)
   | (with_reducible exact LeO.none _)
   | (with_reducible refine LeO.ite ?_ ?_)
   | (with_reducible refine LeO.bind ?_ (fun _ => ?_))
   | exact ih0 _ _ _
   | exact ih1 _ _ _ _
   | exact nat_Parse.mono _ _
   | exact nat_Print.mono _ _
   | exact vinculumlaw01_Is.mono _ _ _
   | exact vinculumlaw01_awake.mono _
   | exact vinculumlaw01_of.mono _ _
   | exact vinculumref01_Parse.mono _ _
   | exact LeO.none _
   | refine LeO.ite ?_ ?_
   | refine LeO.bind ?_ (fun _ => ?_)
  intro y0 y1 y2 y3
  unfold vinculumlaw01_NatTexts.j1
  repeat' first
  | (with_reducible exact ih0 _ _ _)
  | (with_reducible exact ih1 _ _ _ _)
  | (with_reducible exact nat_Parse.mono _ _)
  | (with_reducible exact nat_Print.mono _ _)
  | (with_reducible exact vinculumlaw01_Is.mono _ _ _)
  | (with_reducible exact vinculumlaw01_awake.mono _)
  | (with_reducible exact vinculumlaw01_of.mono _ _)
  | (with_reducible exact vinculumref01_Parse.mono _ _)
  | (with_reducible exact LeO.refl _)
  | (with_reducible exact LeO.none _)
  | (with_reducible refine LeO.ite ?_ ?_)
  | (with_reducible refine LeO.bind ?_ (fun _ => ?_))
  | exact ih0 _ _ _
  | exact ih1 _ _ _ _
  | exact nat_Parse.mono _ _
  | exact nat_Print.mono _ _
  | exact vinculumlaw01_Is.mono _ _ _
  | exact vinculumlaw01_awake.mono _
  | exact vinculumlaw01_of.mono _ _
  | exact vinculumref01_Parse.mono _ _
  | exact LeO.none _
  | refine LeO.ite ?_ ?_
  | refine LeO.bind ?_ (fun _ => ?_)
theorem vinculumlaw01_NatTexts.mono : ∀ a0 a1 k, LeO (vinculumlaw01_NatTexts.f k a0 a1) (vinculumlaw01_NatTexts.f (k + 1) a0 a1) := by
 intro a0 a1 k
 obtain ⟨ih0, ih1⟩ := vinculumlaw01_NatTexts.mono_l k
 unfold vinculumlaw01_NatTexts.f
 repeat' first
   | (with_reducible exact ih0 _ _ _)
   | (with_reducible exact ih1 _ _ _ _)
   | (with_reducible exact nat_Parse.mono _ _)
   | (with_reducible exact nat_Print.mono _ _)
   | (with_reducible exact vinculumlaw01_Is.mono _ _ _)
   | (with_reducible exact vinculumlaw01_awake.mono _)
   | (with_reducible exact vinculumlaw01_of.mono _ _)
   | (with_reducible exact vinculumref01_Parse.mono _ _)
   | (with_reducible exact LeO.refl _)
   | (with_reducible exact LeO.none _)
   | (with_reducible refine LeO.ite ?_ ?_)
   | (with_reducible refine LeO.bind ?_ (fun _ => ?_))
   | exact ih0 _ _ _
   | exact ih1 _ _ _ _
   | exact nat_Parse.mono _ _
   | exact nat_Print.mono _ _
   | exact vinculumlaw01_Is.mono _ _ _
   | exact vinculumlaw01_awake.mono _
   | exact vinculumlaw01_of.mono _ _
   | exact vinculumref01_Parse.mono _ _
   | exact LeO.none _
   | refine LeO.ite ?_ ?_
   | refine LeO.bind ?_ (fun _ => ?_)
set_option maxHeartbeats 8000000 in
set_option maxRecDepth 100000 in
theorem vinculumlaw01_NatTexts.calls (k : Nat) (A0 : Option Addr) (c0 : Nat) (l0 : List Int) (a1 : ByteArray) (r : Bool) (w : World) (hr0 : Kd.C (Kd.int .u64) w A0 l0.length l0) (hc0 : l0.length ≤ c0) (h : vinculumlaw01_NatTexts.f k l0 a1 = some r) :
  Calls Tryd.prog 4 #[.slice A0 l0.length c0, .string a1] w fun e w' => e = .returned (.bool r) ∧ Below w.heap.size w w' := by
 have HR0 := Aside0.mk hr0
 have HC0 := Aside0.mk hc0
 clear hr0 hc0
 have HB := Aside0.mk (Below.refl w.heap.size w)
 have H : (if (l0.length : Int) > 12 then (vinculumlaw01_NatTexts.j0 k l0 a1 true) else (if (a1.size : Int) > 300 then (if (a1.size : Int) ≤ 20000 then (vinculumlaw01_NatTexts.j0 k l0 a1 true) else (vinculumlaw01_NatTexts.j0 k l0 a1 (decide ((a1.size : Int) > 20010)))) else (vinculumlaw01_NatTexts.j0 k l0 a1 (decide ((a1.size : Int) > 20010))))) = some r := h
 clear h
 have HC3 := Aside0.mk H
 clear H
 go_enter Tryd.func4, Tryd.ntmps4
 go_upto_region 1 with (fail)
 go_cut [25] (fun v25 wc => ∃ (kq : Nat) (x25_2 : Bool), v25 = .bool x25_2 ∧ Aside0 (vinculumlaw01_NatTexts.j0 kq l0 a1 x25_2 = some r) ∧ Aside0 (kq ≤ k) ∧ Aside0 (Below w.heap.size w wc))
 case first =>
  have H := HC3.out
  clear HC3
  by_cases c4 : (l0.length : Int) > 12
  ·rw [if_pos c4] at H
   have c4b0 : decide (12 < (l0.length : Int)) = true := decide_eq_true c4
   have c4b1 : decide (12 < l0.length) = true := decide_eq_true (by omega)
   clear c4
   (first | rw [c4b0] | (simp only [i64_w, i32_w]; rw [c4b0]) | skip)
   have H' := Aside0.mk H
   clear H
   go_wp2
   go_meet
   case rel => exact ⟨_, (true), (by first | rfl | (simp; done) | (simp [*]; done)), H', ⟨by first | omega | exact Nat.le_refl _⟩, ⟨by repeat (first | (with_reducible first | exact HB.out | apply below_alloc | apply pw_below_drewN | apply below_drew1) | exact HB.out)⟩⟩
  rw [if_neg c4] at H
  have c4b0 : decide (12 < (l0.length : Int)) = false := decide_eq_false c4
  have c4b1 : decide (12 < l0.length) = false := decide_eq_false (by omega)
  clear c4
  (first | rw [c4b0] | (simp only [i64_w, i32_w]; rw [c4b0]) | skip)
  by_cases c5 : (a1.size : Int) > 300
  ·rw [if_pos c5] at H
   have c5b0 : decide (300 < (a1.size : Int)) = true := decide_eq_true c5
   have c5b1 : decide (300 < a1.size) = true := decide_eq_true (by omega)
   clear c5
   by_cases c6 : (a1.size : Int) ≤ 20000
   ·rw [if_pos c6] at H
    have c6b0 : decide ((a1.size : Int) ≤ 20000) = true := decide_eq_true c6
    have c6b1 : decide (a1.size ≤ 20000) = true := decide_eq_true (by omega)
    clear c6
    have H' := Aside0.mk H
    clear H
    go_wp2
    go_meet
    case rel => exact ⟨_, (true), (by first | rfl | (simp; done) | (simp [*]; done)), H', ⟨by first | omega | exact Nat.le_refl _⟩, ⟨by repeat (first | (with_reducible first | exact HB.out | apply below_alloc | apply pw_below_drewN | apply below_drew1) | exact HB.out)⟩⟩
   rw [if_neg c6] at H
   have c6b0 : decide ((a1.size : Int) ≤ 20000) = false := decide_eq_false c6
   have c6b1 : decide (a1.size ≤ 20000) = false := decide_eq_false (by omega)
   clear c6
   have H' := Aside0.mk H
   clear H
   go_wp2
   go_meet
   case rel => exact ⟨_, (decide ((a1.size : Int) > 20010)), (by first | rfl | (simp; done) | (simp [*]; done)), H', ⟨by first | omega | exact Nat.le_refl _⟩, ⟨by repeat (first | (with_reducible first | exact HB.out | apply below_alloc | apply pw_below_drewN | apply below_drew1) | exact HB.out)⟩⟩
  rw [if_neg c5] at H
  have c5b0 : decide (300 < (a1.size : Int)) = false := decide_eq_false c5
  have c5b1 : decide (300 < a1.size) = false := decide_eq_false (by omega)
  clear c5
  have H' := Aside0.mk H
  clear H
  go_wp2
  go_meet
  case rel => exact ⟨_, (decide ((a1.size : Int) > 20010)), (by first | rfl | (simp; done) | (simp [*]; done)), H', ⟨by first | omega | exact Nat.le_refl _⟩, ⟨by repeat (first | (with_reducible first | exact HB.out | apply below_alloc | apply pw_below_drewN | apply below_drew1) | exact HB.out)⟩⟩
 case rest =>
  clear HC3
  try clear p2
  try clear c4
  try clear c4b0
  try clear c4b1
  try clear c5
  try clear c5b0
  try clear c5b1
  try clear c6
  try clear c6b0
  try clear c6b1
  obtain ⟨kq, x25_2, rfl, HA, HJ2, HB⟩ := hcut
  cases kq with
  | zero => exact absurd HA.out (by simp [vinculumlaw01_NatTexts.j0])
  | succ kj2 =>
   have H := HA.out
   clear HA
   simp only [vinculumlaw01_NatTexts.j0] at H
   by_cases c7 : x25_2 = true
   ·subst c7
    have H1 : ((vinculumlaw01_awake.f kj2).bind fun t544 => (some t544)) = some r := by rw [if_pos rfl] at H; exact H
    clear H
    have H := H1
    clear H1
    replace H := Option.bind_eq_some_iff.mp H
    obtain ⟨t544, A80, H⟩ := H
    replace H : (some t544) = some r := H
    have A8 := Aside0.mk A80
    clear A80
    obtain rfl := Option.some.inj H
    go_wp2_with (first | ((with_reducible refine gate_callee (f := 14) rfl ?_); refine goesL_ (some 26) rfl rfl Tryd.func14 (by kernel_rfl) rfl #[] rfl (by (try simp only [List.map_toArray, List.map_cons, List.map_nil]); first | done | rfl | (simp only [List.length_drop, List.length_take]; rfl)) ?_; (with_reducible refine (vinculumlaw01_awake.calls kj2  t544 _ A8.out).mono ?_); rintro e w9 ⟨rfl, hb⟩; refine ⟨_, rfl, ?_⟩; have n0_ := Aside0.mk (below_step (by repeat (first | (with_reducible first | exact HB.out | apply below_alloc | apply pw_below_drewN | apply below_drew1) | exact HB.out)) hb); clear HB; have HB := n0_; clear n0_; (try clear hb); (try clear hb2); (try clear hk); (try clear hi)))
    go_ret
    exact ⟨by first | rfl | (simp [errW_none, errW_some] <;> rfl) | (simp [*, errW_none, errW_some] <;> rfl), by repeat (first | (with_reducible first | exact HB.out | apply below_alloc | apply pw_below_drewN | apply below_drew1) | exact HB.out)⟩
   replace c7 := Bool.eq_false_iff.mpr c7
   subst c7
   have H1 : ((nat_Print.f kj2 l0).bind fun t545 => ((vinculumlaw01_of.f kj2 l0).bind fun t546 => (if t545.toList = t546.toList then ((nat_Parse.f kj2 a1).bind fun bt547 => ((vinculumref01_Parse.f kj2 a1).bind fun t551 => (if bt547.2 = t551 then (if t551 = 0 then (vinculumlaw01_NatTexts.j1 kj2 a1 bt547.1 t551 false) else (vinculumlaw01_NatTexts.j1 kj2 a1 bt547.1 t551 ((bt547.1.length : Int) != 0))) else (vinculumlaw01_NatTexts.j1 kj2 a1 bt547.1 t551 true)))) else (some false)))) = some r := by rw [if_neg (show ¬ (false = true) by decide)] at H; exact H
   clear H
   have H := H1
   clear H1
   replace H := Option.bind_eq_some_iff.mp H
   obtain ⟨t545, A100, H⟩ := H
   replace H : ((vinculumlaw01_of.f kj2 l0).bind fun t546 => (if t545.toList = t546.toList then ((nat_Parse.f kj2 a1).bind fun bt547 => ((vinculumref01_Parse.f kj2 a1).bind fun t551 => (if bt547.2 = t551 then (if t551 = 0 then (vinculumlaw01_NatTexts.j1 kj2 a1 bt547.1 t551 false) else (vinculumlaw01_NatTexts.j1 kj2 a1 bt547.1 t551 ((bt547.1.length : Int) != 0))) else (vinculumlaw01_NatTexts.j1 kj2 a1 bt547.1 t551 true)))) else (some false))) = some r := H
   have A10 := Aside0.mk A100
   clear A100
   replace H := Option.bind_eq_some_iff.mp H
   obtain ⟨t546, A110, H⟩ := H
   replace H : (if t545.toList = t546.toList then ((nat_Parse.f kj2 a1).bind fun bt547 => ((vinculumref01_Parse.f kj2 a1).bind fun t551 => (if bt547.2 = t551 then (if t551 = 0 then (vinculumlaw01_NatTexts.j1 kj2 a1 bt547.1 t551 false) else (vinculumlaw01_NatTexts.j1 kj2 a1 bt547.1 t551 ((bt547.1.length : Int) != 0))) else (vinculumlaw01_NatTexts.j1 kj2 a1 bt547.1 t551 true)))) else (some false)) = some r := H
   have A11 := Aside0.mk A110
   clear A110
   by_cases c12 : t545.toList = t546.toList
   ·rw [if_pos c12] at H
    have c12b0 : (t545.toList == t546.toList) = true := beq_iff_eq.mpr c12
    have c12b1 : (t545.toList != t546.toList) = false := bne_eq_false_iff_eq.mpr c12
    clear c12
    replace H := Option.bind_eq_some_iff.mp H
    obtain ⟨⟨t547, t550⟩, A130, H⟩ := H
    replace H : ((vinculumref01_Parse.f kj2 a1).bind fun t551 => (if t550 = t551 then (if t551 = 0 then (vinculumlaw01_NatTexts.j1 kj2 a1 t547 t551 false) else (vinculumlaw01_NatTexts.j1 kj2 a1 t547 t551 ((t547.length : Int) != 0))) else (vinculumlaw01_NatTexts.j1 kj2 a1 t547 t551 true))) = some r := H
    have A13 := Aside0.mk A130
    clear A130
    replace H := Option.bind_eq_some_iff.mp H
    obtain ⟨t551, A140, H⟩ := H
    replace H : (if t550 = t551 then (if t551 = 0 then (vinculumlaw01_NatTexts.j1 kj2 a1 t547 t551 false) else (vinculumlaw01_NatTexts.j1 kj2 a1 t547 t551 ((t547.length : Int) != 0))) else (vinculumlaw01_NatTexts.j1 kj2 a1 t547 t551 true)) = some r := H
    have A14 := Aside0.mk A140
    clear A140
    have HC15 := Aside0.mk H
    clear H
    go_upto_region 7 with (first | ((with_reducible refine gate_callee (f := 21) rfl ?_); refine goesL_ (some 28) rfl rfl Tryd.func21 (by kernel_rfl) rfl #[.slice A0 l0.length c0] rfl (by (try simp only [List.map_toArray, List.map_cons, List.map_nil]); first | done | rfl | (simp only [List.length_drop, List.length_take]; rfl)) ?_; (with_reducible refine (nat_Print.calls kj2 _ _ l0 t545 _ ?side1 ?side2 A10.out).mono ?_); (case side1 => repeat (first | exact (Kd.C_below HR0.out HB.out) | (with_reducible refine Kd.C_alloc ?_ _) | (with_reducible refine Kd.C_drewN ?_ _) | (with_reducible refine Kd.C_drew ?_))); (case side2 => exact HC0.out); rintro e w16 ⟨rfl, hb⟩; refine ⟨_, rfl, ?_⟩; have n0_ := Aside0.mk (below_step (by repeat (first | (with_reducible first | exact HB.out | apply below_alloc | apply pw_below_drewN | apply below_drew1) | exact HB.out)) hb); clear HB; have HB := n0_; clear n0_; (try clear hb); (try clear hb2); (try clear hk); (try clear hi)) | ((with_reducible refine gate_callee (f := 15) rfl ?_); refine goesL_ (some 30) rfl rfl Tryd.func15 (by kernel_rfl) rfl #[.slice A0 l0.length c0] rfl (by (try simp only [List.map_toArray, List.map_cons, List.map_nil]); first | done | rfl | (simp only [List.length_drop, List.length_take]; rfl)) ?_; (with_reducible refine (vinculumlaw01_of.calls kj2 _ _ l0 t546 _ ?side1 ?side2 A11.out).mono ?_); (case side1 => repeat (first | exact (Kd.C_below HR0.out HB.out) | (with_reducible refine Kd.C_alloc ?_ _) | (with_reducible refine Kd.C_drewN ?_ _) | (with_reducible refine Kd.C_drew ?_))); (case side2 => exact HC0.out); rintro e w17 ⟨rfl, hb⟩; refine ⟨_, rfl, ?_⟩; have n0_ := Aside0.mk (below_step (by repeat (first | (with_reducible first | exact HB.out | apply below_alloc | apply pw_below_drewN | apply below_drew1) | exact HB.out)) hb); clear HB; have HB := n0_; clear n0_; (try clear hb); (try clear hb2); (try clear hk); (try clear hi)) | ((with_reducible refine gate_callee (f := 22) rfl ?_); refine goesL_ (some 34) rfl rfl Tryd.func22 (by kernel_rfl) rfl #[.string a1] rfl (by (try simp only [List.map_toArray, List.map_cons, List.map_nil]); first | done | rfl | (simp only [List.length_drop, List.length_take]; rfl)) ?_; (with_reducible refine (nat_Parse.calls kj2 a1 t547 t550 _ A13.out).mono ?_); rintro e w18 ⟨v548, rfl, ho0, hb⟩; refine ⟨_, rfl, ?_⟩; have n0_ := Aside0.mk (Kd.V_lower (Kd.V_mono (ok' := fun k_ => True) ho0 (fun k_ hk_ => trivial)) (below_size (by repeat (first | (with_reducible first | exact HB.out | apply below_alloc | apply pw_below_drewN | apply below_drew1) | exact HB.out)))); have n1_ := Aside0.mk (below_step (by repeat (first | (with_reducible first | exact HB.out | apply below_alloc | apply pw_below_drewN | apply below_drew1) | exact HB.out)) hb); clear HB; have HO549 := n0_; have HB := n1_; clear n0_ n1_; (try clear hb); (try clear hb2); (try clear hk); (try clear hi); (try clear ho0)) | ((with_reducible refine gate_callee (f := 23) rfl ?_); refine goesL_ (some 38) rfl rfl Tryd.func23 (by kernel_rfl) rfl #[.string a1] rfl (by (try simp only [List.map_toArray, List.map_cons, List.map_nil]); first | done | rfl | (simp only [List.length_drop, List.length_take]; rfl)) ?_; (with_reducible refine (vinculumref01_Parse.calls kj2 a1 t551 _ A14.out).mono ?_); rintro e w' ⟨rfl, ⟨nd, rfl⟩⟩; refine ⟨_, rfl, ?_⟩))
    (try simp only [Act.put, List.setIfInBounds_toArray, List.set_cons_zero, List.set_cons_succ])
    go_cut [50] (fun v50 wc => ∃ (kq : Nat) (x50_14 : Bool), v50 = .bool x50_14 ∧ Aside0 (vinculumlaw01_NatTexts.j1 kq a1 t547 t551 x50_14 = some r) ∧ Aside0 (kq ≤ kj2) ∧ Aside0 (Kd.V (Kd.int .u64) 24 wc w.heap.size (fun _ => True) v548 t547) ∧ Aside0 (Below w.heap.size w wc))
    case first =>
     have H := HC15.out
     clear HC15
     by_cases c19 : t550 = t551
     ·rw [if_pos c19] at H
      have c19b0 : (t550 == t551) = true := beq_iff_eq.mpr c19
      have c19b1 : (t550 != t551) = false := bne_eq_false_iff_eq.mpr c19
      clear c19
      (first | rw [c19b0] | (simp only [i64_w, i32_w]; rw [c19b0]) | skip)
      by_cases c20 : t551 = 0
      ·rw [if_pos c20] at H
       have c20b0 : (t551 == 0) = true := beq_iff_eq.mpr c20
       have c20b1 : (t551 != 0) = false := bne_eq_false_iff_eq.mpr c20
       clear c20
       have H' := Aside0.mk H
       clear H
       go_wp2
       go_meet
       case rel => exact ⟨_, (false), (by first | rfl | (simp; done) | (simp [*]; done)), H', ⟨by have := HJ2.out; first | omega | exact Nat.le_refl _⟩, ⟨by (with_reducible repeat (first | apply Kd.V_alloc | apply Kd.V_drewN | apply Kd.V_drew)); exact HO549.out⟩, ⟨by repeat (first | (with_reducible first | exact HB.out | apply below_alloc | apply pw_below_drewN | apply below_drew1) | exact HB.out)⟩⟩
      rw [if_neg c20] at H
      have c20b0 : (t551 == 0) = false := beq_eq_false_iff_ne.mpr c20
      have c20b1 : (t551 != 0) = true := bne_iff_ne.mpr c20
      have H' := Aside0.mk H
      clear H
      obtain ⟨Ao21, co21, eo21⟩ := Kd.V_slice HO549.out
      subst eo21
      go_wp2
      go_meet
      case rel => exact ⟨_, (((t547.length : Int) != 0)), (by first | rfl | (simp; done) | (simp [*]; done)), H', ⟨by have := HJ2.out; first | omega | exact Nat.le_refl _⟩, ⟨by (with_reducible repeat (first | apply Kd.V_alloc | apply Kd.V_drewN | apply Kd.V_drew)); exact HO549.out⟩, ⟨by repeat (first | (with_reducible first | exact HB.out | apply below_alloc | apply pw_below_drewN | apply below_drew1) | exact HB.out)⟩⟩
     rw [if_neg c19] at H
     have c19b0 : (t550 == t551) = false := beq_eq_false_iff_ne.mpr c19
     have c19b1 : (t550 != t551) = true := bne_iff_ne.mpr c19
     (first | rw [c19b0] | (simp only [i64_w, i32_w]; rw [c19b0]) | skip)
     have H' := Aside0.mk H
     clear H
     go_wp2
     go_meet
     case rel => exact ⟨_, (true), (by first | rfl | (simp; done) | (simp [*]; done)), H', ⟨by have := HJ2.out; first | omega | exact Nat.le_refl _⟩, ⟨by (with_reducible repeat (first | apply Kd.V_alloc | apply Kd.V_drewN | apply Kd.V_drew)); exact HO549.out⟩, ⟨by repeat (first | (with_reducible first | exact HB.out | apply below_alloc | apply pw_below_drewN | apply below_drew1) | exact HB.out)⟩⟩
    case rest =>
     clear HC15
     try clear c1
     try clear c2
     try clear p2
     try clear c4
     try clear c4b0
     try clear c4b1
     try clear c5
     try clear c5b0
     try clear c5b1
     try clear c6
     try clear c6b0
     try clear c6b1
     try clear c7
     try clear c12
     try clear c12b0
     try clear c12b1
     try clear c14
     try clear c15
     try clear c19
     try clear c19b0
     try clear c19b1
     try clear c20
     try clear c20b0
     try clear c20b1
     try clear c21
     try clear p2
     obtain ⟨kq, x50_14, rfl, HA, HJ14, HO_5, HB⟩ := hcut
     cases kq with
     | zero => exact absurd HA.out (by simp [vinculumlaw01_NatTexts.j1])
     | succ kj14 =>
      have H := HA.out
      clear HA
      simp only [vinculumlaw01_NatTexts.j1] at H
      by_cases c22 : x50_14 = true
      ·subst c22
       have H1 : (some false) = some r := by rw [if_pos rfl] at H; exact H
       clear H
       have H := H1
       clear H1
       obtain rfl := Option.some.inj H
       go_wp2
       go_ret
       exact ⟨by first | rfl | (simp [errW_none, errW_some] <;> rfl) | (simp [*, errW_none, errW_some] <;> rfl), by repeat (first | (with_reducible first | exact HB.out | apply below_alloc | apply pw_below_drewN | apply below_drew1) | exact HB.out)⟩
      replace c22 := Bool.eq_false_iff.mpr c22
      subst c22
      have H1 : (if t551 = 0 then ((vinculumlaw01_Is.f kj14 t547 a1).bind fun t552 => (if t552 = true then ((vinculumlaw01_awake.f kj14).bind fun t553 => (some t553)) else (some false))) else ((vinculumlaw01_awake.f kj14).bind fun t554 => (some t554))) = some r := by rw [if_neg (show ¬ (false = true) by decide)] at H; exact H
      clear H
      have H := H1
      clear H1
      by_cases c23 : t551 = 0
      ·rw [if_pos c23] at H
       have c23b0 : (t551 == 0) = true := beq_iff_eq.mpr c23
       have c23b1 : (t551 != 0) = false := bne_eq_false_iff_eq.mpr c23
       clear c23
       replace H := Option.bind_eq_some_iff.mp H
       obtain ⟨t552, A240, H⟩ := H
       replace H : (if t552 = true then ((vinculumlaw01_awake.f kj14).bind fun t553 => (some t553)) else (some false)) = some r := H
       have A24 := Aside0.mk A240
       clear A240
       by_cases c25 : t552 = true
       ·subst c25
        have H1 : ((vinculumlaw01_awake.f kj14).bind fun t553 => (some t553)) = some r := by rw [if_pos rfl] at H; exact H
        clear H
        have H := H1
        clear H1
        replace H := Option.bind_eq_some_iff.mp H
        obtain ⟨t553, A260, H⟩ := H
        replace H : (some t553) = some r := H
        have A26 := Aside0.mk A260
        clear A260
        obtain rfl := Option.some.inj H
        obtain ⟨Ao27, co27, eo27⟩ := Kd.V_slice HO_5.out
        subst eo27
        go_wp2_with (first | (go_at_call 19; (with_reducible refine (vinculumlaw01_Is.calls kj14 _ _ t547 a1 true _ ?side1 ?side2 A24.out).mono ?_); (case side1 => repeat (first | exact (Kd.V_reads' HO_5.out).2.2 | (with_reducible refine Kd.C_alloc ?_ _) | (with_reducible refine Kd.C_drewN ?_ _) | (with_reducible refine Kd.C_drew ?_))); (case side2 => exact (Kd.V_reads' HO_5.out).2.1); rintro e w28 ⟨rfl, hb⟩; have n0_ := Aside0.mk (Kd.V_below (by (with_reducible repeat (first | apply Kd.V_alloc | apply Kd.V_drewN | apply Kd.V_drew)); exact HO_5.out) hb); have n1_ := Aside0.mk (below_step (by repeat (first | (with_reducible first | exact HB.out | apply below_alloc | apply pw_below_drewN | apply below_drew1) | exact HB.out)) hb); clear HO_5; clear HB; have HO_5 := n0_; have HB := n1_; clear n0_ n1_; (try clear hb); (try clear hb2); (try clear hk); (try clear hi)) | (go_at_call 14; (with_reducible refine (vinculumlaw01_awake.calls kj14  t553 _ A26.out).mono ?_); rintro e w29 ⟨rfl, hb⟩; have n0_ := Aside0.mk (Kd.V_below (by (with_reducible repeat (first | apply Kd.V_alloc | apply Kd.V_drewN | apply Kd.V_drew)); exact HO_5.out) hb); have n1_ := Aside0.mk (below_step (by repeat (first | (with_reducible first | exact HB.out | apply below_alloc | apply pw_below_drewN | apply below_drew1) | exact HB.out)) hb); clear HO_5; clear HB; have HO_5 := n0_; have HB := n1_; clear n0_ n1_; (try clear hb); (try clear hb2); (try clear hk); (try clear hi)))
        go_ret
        exact ⟨by first | rfl | (simp [errW_none, errW_some] <;> rfl) | (simp [*, errW_none, errW_some] <;> rfl), by repeat (first | (with_reducible first | exact HB.out | apply below_alloc | apply pw_below_drewN | apply below_drew1) | exact HB.out)⟩
       replace c25 := Bool.eq_false_iff.mpr c25
       subst c25
       have H1 : (some false) = some r := by rw [if_neg (show ¬ (false = true) by decide)] at H; exact H
       clear H
       have H := H1
       clear H1
       obtain rfl := Option.some.inj H
       obtain ⟨Ao30, co30, eo30⟩ := Kd.V_slice HO_5.out
       subst eo30
       go_wp2_with (first | (go_at_call 19; (with_reducible refine (vinculumlaw01_Is.calls kj14 _ _ t547 a1 false _ ?side1 ?side2 A24.out).mono ?_); (case side1 => repeat (first | exact (Kd.V_reads' HO_5.out).2.2 | (with_reducible refine Kd.C_alloc ?_ _) | (with_reducible refine Kd.C_drewN ?_ _) | (with_reducible refine Kd.C_drew ?_))); (case side2 => exact (Kd.V_reads' HO_5.out).2.1); rintro e w31 ⟨rfl, hb⟩; have n0_ := Aside0.mk (Kd.V_below (by (with_reducible repeat (first | apply Kd.V_alloc | apply Kd.V_drewN | apply Kd.V_drew)); exact HO_5.out) hb); have n1_ := Aside0.mk (below_step (by repeat (first | (with_reducible first | exact HB.out | apply below_alloc | apply pw_below_drewN | apply below_drew1) | exact HB.out)) hb); clear HO_5; clear HB; have HO_5 := n0_; have HB := n1_; clear n0_ n1_; (try clear hb); (try clear hb2); (try clear hk); (try clear hi)))
       go_ret
       exact ⟨by first | rfl | (simp [errW_none, errW_some] <;> rfl) | (simp [*, errW_none, errW_some] <;> rfl), by repeat (first | (with_reducible first | exact HB.out | apply below_alloc | apply pw_below_drewN | apply below_drew1) | exact HB.out)⟩
      rw [if_neg c23] at H
      have c23b0 : (t551 == 0) = false := beq_eq_false_iff_ne.mpr c23
      have c23b1 : (t551 != 0) = true := bne_iff_ne.mpr c23
      replace H := Option.bind_eq_some_iff.mp H
      obtain ⟨t554, A320, H⟩ := H
      replace H : (some t554) = some r := H
      have A32 := Aside0.mk A320
      clear A320
      obtain rfl := Option.some.inj H
      go_wp2_with (first | (go_at_call 14; (with_reducible refine (vinculumlaw01_awake.calls kj14  t554 _ A32.out).mono ?_); rintro e w33 ⟨rfl, hb⟩; have n0_ := Aside0.mk (Kd.V_below (by (with_reducible repeat (first | apply Kd.V_alloc | apply Kd.V_drewN | apply Kd.V_drew)); exact HO_5.out) hb); have n1_ := Aside0.mk (below_step (by repeat (first | (with_reducible first | exact HB.out | apply below_alloc | apply pw_below_drewN | apply below_drew1) | exact HB.out)) hb); clear HO_5; clear HB; have HO_5 := n0_; have HB := n1_; clear n0_ n1_; (try clear hb); (try clear hb2); (try clear hk); (try clear hi)))
      go_ret
      exact ⟨by first | rfl | (simp [errW_none, errW_some] <;> rfl) | (simp [*, errW_none, errW_some] <;> rfl), by repeat (first | (with_reducible first | exact HB.out | apply below_alloc | apply pw_below_drewN | apply below_drew1) | exact HB.out)⟩
   rw [if_neg c12] at H
   have c12b0 : (t545.toList == t546.toList) = false := beq_eq_false_iff_ne.mpr c12
   have c12b1 : (t545.toList != t546.toList) = true := bne_iff_ne.mpr c12
   obtain rfl := Option.some.inj H
   go_wp2_with (first | ((with_reducible refine gate_callee (f := 21) rfl ?_); refine goesL_ (some 28) rfl rfl Tryd.func21 (by kernel_rfl) rfl #[.slice A0 l0.length c0] rfl (by (try simp only [List.map_toArray, List.map_cons, List.map_nil]); first | done | rfl | (simp only [List.length_drop, List.length_take]; rfl)) ?_; (with_reducible refine (nat_Print.calls kj2 _ _ l0 t545 _ ?side1 ?side2 A10.out).mono ?_); (case side1 => repeat (first | exact (Kd.C_below HR0.out HB.out) | (with_reducible refine Kd.C_alloc ?_ _) | (with_reducible refine Kd.C_drewN ?_ _) | (with_reducible refine Kd.C_drew ?_))); (case side2 => exact HC0.out); rintro e w34 ⟨rfl, hb⟩; refine ⟨_, rfl, ?_⟩; have n0_ := Aside0.mk (below_step (by repeat (first | (with_reducible first | exact HB.out | apply below_alloc | apply pw_below_drewN | apply below_drew1) | exact HB.out)) hb); clear HB; have HB := n0_; clear n0_; (try clear hb); (try clear hb2); (try clear hk); (try clear hi)) | ((with_reducible refine gate_callee (f := 15) rfl ?_); refine goesL_ (some 30) rfl rfl Tryd.func15 (by kernel_rfl) rfl #[.slice A0 l0.length c0] rfl (by (try simp only [List.map_toArray, List.map_cons, List.map_nil]); first | done | rfl | (simp only [List.length_drop, List.length_take]; rfl)) ?_; (with_reducible refine (vinculumlaw01_of.calls kj2 _ _ l0 t546 _ ?side1 ?side2 A11.out).mono ?_); (case side1 => repeat (first | exact (Kd.C_below HR0.out HB.out) | (with_reducible refine Kd.C_alloc ?_ _) | (with_reducible refine Kd.C_drewN ?_ _) | (with_reducible refine Kd.C_drew ?_))); (case side2 => exact HC0.out); rintro e w35 ⟨rfl, hb⟩; refine ⟨_, rfl, ?_⟩; have n0_ := Aside0.mk (below_step (by repeat (first | (with_reducible first | exact HB.out | apply below_alloc | apply pw_below_drewN | apply below_drew1) | exact HB.out)) hb); clear HB; have HB := n0_; clear n0_; (try clear hb); (try clear hb2); (try clear hk); (try clear hi)))
   go_ret
   exact ⟨by first | rfl | (simp [errW_none, errW_some] <;> rfl) | (simp [*, errW_none, errW_some] <;> rfl), by repeat (first | (with_reducible first | exact HB.out | apply below_alloc | apply pw_below_drewN | apply below_drew1) | exact HB.out)⟩

/-- THE ONE PURE STATEMENT of vinculumlaw01_NatTexts: yours. -/
def vinculumlaw01_NatTexts.Pure : Prop := ∀ (l0 : List Int) (a1 : ByteArray), l0.length ≤ maxLen → l0.length * 8 ≤ 140737488351232 → (∀ x ∈ l0, (Lit.int .u64 x).wf = true) → a1.size ≤ 140737488351232 → ∃ k, vinculumlaw01_NatTexts.f k l0 a1 = some true
theorem vinculumlaw01_NatTexts.walk (P : vinculumlaw01_NatTexts.Pure) (a0 : Option Addr) (len0 cap0 : Nat) (z0 : List Int) (a1 : ByteArray) (w : World) (w0 : (a0 = none ∧ len0 = 0 ∧ cap0 = 0 ∧ z0 = []) ∨ ∃ x, a0 = some x ∧ len0 ≤ cap0 ∧ cap0 ≤ maxLen ∧ z0.length = cap0 ∧ (∀ i, i < z0.length → w.cell? (x.add i) = some (.int .u64 (z0.getD i 0))) ∧ ∀ n ∈ z0, (Lit.int .u64 n).wf = true) (y0 : len0 * 8 ≤ 140737488351232) (w1 : a1.size ≤ 140737488351232) :
  Calls Tryd.prog 4 #[.slice a0 len0 cap0, .string a1] w fun e w' => e = .returned (.bool true) ∧ Below w.heap.size w w' := by
 obtain ⟨l0, rfl, hr0, hm0, hw0, hc0⟩ := ReadsInt.ofRowC w0
 obtain ⟨k, h⟩ := P l0 a1 hm0 y0 hw0 w1
 refine (vinculumlaw01_NatTexts.calls k _ _ l0 a1 true w (Kd.C_of_reads (d := (0 : Int)) (h1 := fun _ => rfl) hr0) hc0 h).mono ?_
 rintro e w' ⟨rfl, hd⟩
 exact ⟨rfl, hd⟩

end Go.Proofs.YtdomplmilbkaeaaDoor.GN
-- thin

-- Written by wip/tools/myprint.py (this session's program, over the kit's print.py).
import Derived.Test.YtdomplmilbkaeaaDoorGNx0
import Derived.Test.YtdomplmilbkaeaaDoorGNx2
import Derived.Test.YtdomplmilbkaeaaDoorGNx6
import Derived.Test.YtdomplmilbkaeaaDoorGNx8
import Derived.Test.YtdomplmilbkaeaaDoorGNx9
import Derived.Test.YtdomplmilbkaeaaDoorGNx10
import Derived.Test.YtdomplmilbkaeaaDoorGNx11
import Derived.Test.YtdomplmilbkaeaaDoorGNx14
import Derived.Test.YtdomplmilbkaeaaDoorGNx17
namespace Go.Proofs.YtdomplmilbkaeaaDoor.GN
open Go.RowKit Go.Proofs.YtdomplmilbkaeaaDoorW.PrintWords Go.Proofs.YtdomplmilbkaeaaDoorW.PrintLast Go.Proofs.YtdomplmilbkaeaaDoorW.PrintMore
attribute [local go_sem] adRun sbRun
attribute [local go_sem] max2_int min2_int max_two min_two max_three min_three max_four min_four   -- for this text's walks alone
set_option linter.unusedVariables false
set_option linter.unusedSimpArgs false

/-! ### vinculumlaw01_NatDivides: function 3 -/
def vinculumlaw01_NatDivides.j0 : Nat → Int → ByteArray → List Int → Int → Int → Option (Bool)
 | 0, _, _, _, _, _ => none
 | k + 1, x2, x7, x11, x12, x13 => if x2 = 0 then (if x13 = 10 then (if (x11.length : Int) = 0 then (if x12 = 0 then ((vinculumlaw01_awake.f k).bind fun t537 => (some t537)) else (some false)) else (some false)) else (some false)) else ((vinculumref01_Word.f k x2).bind fun t538 => ((vinculumref01_DivMod.f k x7 t538).bind fun bt539 => (if x13 = 0 then ((vinculumlaw01_Is.f k x11 bt539.1).bind fun t541 => (if t541 = true then ((vinculumref01_Word.f k x12).bind fun t542 => (if t542.toList = bt539.2.toList then ((vinculumlaw01_awake.f k).bind fun t543 => (some t543)) else (some false))) else (some false))) else (some false))))
def vinculumlaw01_NatDivides.f (k : Nat) (l0 : List Int) (l1 : List Int) (a2 : Int) : Option (Bool) := (vinculumlaw01_few.f l0 l1).bind fun t516 => (if t516 = true then ((vinculumlaw01_of.f k l0).bind fun t518 => ((nat_DivMod.f k l0 l1).bind fun bt519 => ((nat_DivWord.f k l0 a2).bind fun bt526 => ((vinculumlaw01_of.f k l1).bind fun t531 => (if t531.toList = ([48] : List UInt8) then (if bt519.2.2 = 10 then (if (bt519.1.length : Int) = 0 then (if (bt519.2.1.length : Int) = 0 then (vinculumlaw01_NatDivides.j0 k a2 t518 bt526.1 bt526.2.1 bt526.2.2) else (some false)) else (some false)) else (some false)) else ((vinculumlaw01_of.f k l1).bind fun t532 => ((vinculumref01_DivMod.f k t518 t532).bind fun bt533 => (if bt519.2.2 = 0 then ((vinculumlaw01_Is.f k bt519.1 bt533.1).bind fun t535 => (if t535 = true then ((vinculumlaw01_Is.f k bt519.2.1 bt533.2).bind fun t536 => (if t536 = true then (vinculumlaw01_NatDivides.j0 k a2 t518 bt526.1 bt526.2.1 bt526.2.2) else (some false))) else (some false))) else (some false))))))))) else ((vinculumlaw01_awake.f k).bind fun t517 => (some t517)))
theorem vinculumlaw01_NatDivides.mono_l : ∀ k, (∀ y0 y1 y2 y3 y4, LeO (vinculumlaw01_NatDivides.j0 k y0 y1 y2 y3 y4) (vinculumlaw01_NatDivides.j0 (k + 1) y0 y1 y2 y3 y4))
 | 0 => fun _ _ _ _ _ r h => by simp [vinculumlaw01_NatDivides.j0] at h
 | k + 1 => by
  have ih0 := vinculumlaw01_NatDivides.mono_l k
  ·intro y0 y1 y2 y3 y4
   unfold vinculumlaw01_NatDivides.j0
   repeat' first
   | (with_reducible exact ih0 _ _ _ _ _)
   | (with_reducible exact nat_DivMod.mono _ _ _)
   | (with_reducible exact nat_DivWord.mono _ _ _)
   | (with_reducible exact vinculumlaw01_Is.mono _ _ _)
   | (with_reducible exact vinculumlaw01_awake.mono _)
   | (with_reducible exact vinculumlaw01_of.mono _ _)
   | (with_reducible exact vinculumref01_DivMod.mono _ _ _)
   | (with_reducible exact vinculumref01_Word.mono _ _)
   | (with_reducible exact LeO.refl _)
   | (with_reducible exact LeO.none _)
   | (with_reducible refine LeO.ite ?_ ?_)
   | (with_reducible refine LeO.bind ?_ (fun _ => ?_))
   | exact ih0 _ _ _ _ _
   | exact nat_DivMod.mono _ _ _
   | exact nat_DivWord.mono _ _ _
   | exact vinculumlaw01_Is.mono _ _ _
   | exact vinculumlaw01_awake.mono _
   | exact vinculumlaw01_of.mono _ _
   | exact vinculumref01_DivMod.mono _ _ _
   | exact vinculumref01_Word.mono _ _
   | exact LeO.none _
   | refine LeO.ite ?_ ?_
   | refine LeO.bind ?_ (fun _ => ?_)
theorem vinculumlaw01_NatDivides.mono : ∀ a0 a1 a2 k, LeO (vinculumlaw01_NatDivides.f k a0 a1 a2) (vinculumlaw01_NatDivides.f (k + 1) a0 a1 a2) := by
 intro a0 a1 a2 k
 have ih0 := vinculumlaw01_NatDivides.mono_l k
 unfold vinculumlaw01_NatDivides.f
 repeat' first
   | (with_reducible exact ih0 _ _ _ _ _)
   | (with_reducible exact nat_DivMod.mono _ _ _)
   | (with_reducible exact nat_DivWord.mono _ _ _)
   | (with_reducible exact vinculumlaw01_Is.mono _ _ _)
   | (with_reducible exact vinculumlaw01_awake.mono _)
   | (with_reducible exact vinculumlaw01_of.mono _ _)
   | (with_reducible exact vinculumref01_DivMod.mono _ _ _)
   | (with_reducible exact vinculumref01_Word.mono _ _)
   | (with_reducible exact LeO.refl _)
   | (with_reducible exact LeO.none _)
   | (with_reducible refine LeO.ite ?_ ?_)
   | (with_reducible refine LeO.bind ?_ (fun _ => ?_))
   | exact ih0 _ _ _ _ _
   | exact nat_DivMod.mono _ _ _
   | exact nat_DivWord.mono _ _ _
   | exact vinculumlaw01_Is.mono _ _ _
   | exact vinculumlaw01_awake.mono _
   | exact vinculumlaw01_of.mono _ _
   | exact vinculumref01_DivMod.mono _ _ _
   | exact vinculumref01_Word.mono _ _
   | exact LeO.none _
   | refine LeO.ite ?_ ?_
   | refine LeO.bind ?_ (fun _ => ?_)
set_option maxHeartbeats 8000000 in
set_option maxRecDepth 100000 in
theorem vinculumlaw01_NatDivides.calls (k : Nat) (A0 : Option Addr) (c0 : Nat) (l0 : List Int) (A1 : Option Addr) (c1 : Nat) (l1 : List Int) (a2 : Int) (r : Bool) (w : World) (hr0 : Kd.C (Kd.int .u64) w A0 l0.length l0) (hc0 : l0.length ≤ c0) (hr1 : Kd.C (Kd.int .u64) w A1 l1.length l1) (hc1 : l1.length ≤ c1) (h : vinculumlaw01_NatDivides.f k l0 l1 a2 = some r) :
  Calls Tryd.prog 3 #[.slice A0 l0.length c0, .slice A1 l1.length c1, .int .u64 a2] w fun e w' => e = .returned (.bool r) ∧ Below w.heap.size w w' := by
 have HR0 := Aside0.mk hr0
 have HC0 := Aside0.mk hc0
 clear hr0 hc0
 have HR1 := Aside0.mk hr1
 have HC1 := Aside0.mk hc1
 clear hr1 hc1
 have HB := Aside0.mk (Below.refl w.heap.size w)
 have H : ((vinculumlaw01_few.f l0 l1).bind fun t516 => (if t516 = true then ((vinculumlaw01_of.f k l0).bind fun t518 => ((nat_DivMod.f k l0 l1).bind fun bt519 => ((nat_DivWord.f k l0 a2).bind fun bt526 => ((vinculumlaw01_of.f k l1).bind fun t531 => (if t531.toList = ([48] : List UInt8) then (if bt519.2.2 = 10 then (if (bt519.1.length : Int) = 0 then (if (bt519.2.1.length : Int) = 0 then (vinculumlaw01_NatDivides.j0 k a2 t518 bt526.1 bt526.2.1 bt526.2.2) else (some false)) else (some false)) else (some false)) else ((vinculumlaw01_of.f k l1).bind fun t532 => ((vinculumref01_DivMod.f k t518 t532).bind fun bt533 => (if bt519.2.2 = 0 then ((vinculumlaw01_Is.f k bt519.1 bt533.1).bind fun t535 => (if t535 = true then ((vinculumlaw01_Is.f k bt519.2.1 bt533.2).bind fun t536 => (if t536 = true then (vinculumlaw01_NatDivides.j0 k a2 t518 bt526.1 bt526.2.1 bt526.2.2) else (some false))) else (some false))) else (some false))))))))) else ((vinculumlaw01_awake.f k).bind fun t517 => (some t517)))) = some r := h
 clear h
 replace H := Option.bind_eq_some_iff.mp H
 obtain ⟨t516, A40, H⟩ := H
 replace H : (if t516 = true then ((vinculumlaw01_of.f k l0).bind fun t518 => ((nat_DivMod.f k l0 l1).bind fun bt519 => ((nat_DivWord.f k l0 a2).bind fun bt526 => ((vinculumlaw01_of.f k l1).bind fun t531 => (if t531.toList = ([48] : List UInt8) then (if bt519.2.2 = 10 then (if (bt519.1.length : Int) = 0 then (if (bt519.2.1.length : Int) = 0 then (vinculumlaw01_NatDivides.j0 k a2 t518 bt526.1 bt526.2.1 bt526.2.2) else (some false)) else (some false)) else (some false)) else ((vinculumlaw01_of.f k l1).bind fun t532 => ((vinculumref01_DivMod.f k t518 t532).bind fun bt533 => (if bt519.2.2 = 0 then ((vinculumlaw01_Is.f k bt519.1 bt533.1).bind fun t535 => (if t535 = true then ((vinculumlaw01_Is.f k bt519.2.1 bt533.2).bind fun t536 => (if t536 = true then (vinculumlaw01_NatDivides.j0 k a2 t518 bt526.1 bt526.2.1 bt526.2.2) else (some false))) else (some false))) else (some false))))))))) else ((vinculumlaw01_awake.f k).bind fun t517 => (some t517))) = some r := H
 have A4 := Aside0.mk A40
 clear A40
 by_cases c5 : t516 = true
 ·subst c5
  have H1 : ((vinculumlaw01_of.f k l0).bind fun t518 => ((nat_DivMod.f k l0 l1).bind fun bt519 => ((nat_DivWord.f k l0 a2).bind fun bt526 => ((vinculumlaw01_of.f k l1).bind fun t531 => (if t531.toList = ([48] : List UInt8) then (if bt519.2.2 = 10 then (if (bt519.1.length : Int) = 0 then (if (bt519.2.1.length : Int) = 0 then (vinculumlaw01_NatDivides.j0 k a2 t518 bt526.1 bt526.2.1 bt526.2.2) else (some false)) else (some false)) else (some false)) else ((vinculumlaw01_of.f k l1).bind fun t532 => ((vinculumref01_DivMod.f k t518 t532).bind fun bt533 => (if bt519.2.2 = 0 then ((vinculumlaw01_Is.f k bt519.1 bt533.1).bind fun t535 => (if t535 = true then ((vinculumlaw01_Is.f k bt519.2.1 bt533.2).bind fun t536 => (if t536 = true then (vinculumlaw01_NatDivides.j0 k a2 t518 bt526.1 bt526.2.1 bt526.2.2) else (some false))) else (some false))) else (some false))))))))) = some r := by rw [if_pos rfl] at H; exact H
  clear H
  have H := H1
  clear H1
  replace H := Option.bind_eq_some_iff.mp H
  obtain ⟨t518, A60, H⟩ := H
  replace H : ((nat_DivMod.f k l0 l1).bind fun bt519 => ((nat_DivWord.f k l0 a2).bind fun bt526 => ((vinculumlaw01_of.f k l1).bind fun t531 => (if t531.toList = ([48] : List UInt8) then (if bt519.2.2 = 10 then (if (bt519.1.length : Int) = 0 then (if (bt519.2.1.length : Int) = 0 then (vinculumlaw01_NatDivides.j0 k a2 t518 bt526.1 bt526.2.1 bt526.2.2) else (some false)) else (some false)) else (some false)) else ((vinculumlaw01_of.f k l1).bind fun t532 => ((vinculumref01_DivMod.f k t518 t532).bind fun bt533 => (if bt519.2.2 = 0 then ((vinculumlaw01_Is.f k bt519.1 bt533.1).bind fun t535 => (if t535 = true then ((vinculumlaw01_Is.f k bt519.2.1 bt533.2).bind fun t536 => (if t536 = true then (vinculumlaw01_NatDivides.j0 k a2 t518 bt526.1 bt526.2.1 bt526.2.2) else (some false))) else (some false))) else (some false)))))))) = some r := H
  have A6 := Aside0.mk A60
  clear A60
  replace H := Option.bind_eq_some_iff.mp H
  obtain ⟨⟨t519, t522, t525⟩, A70, H⟩ := H
  replace H : ((nat_DivWord.f k l0 a2).bind fun bt526 => ((vinculumlaw01_of.f k l1).bind fun t531 => (if t531.toList = ([48] : List UInt8) then (if t525 = 10 then (if (t519.length : Int) = 0 then (if (t522.length : Int) = 0 then (vinculumlaw01_NatDivides.j0 k a2 t518 bt526.1 bt526.2.1 bt526.2.2) else (some false)) else (some false)) else (some false)) else ((vinculumlaw01_of.f k l1).bind fun t532 => ((vinculumref01_DivMod.f k t518 t532).bind fun bt533 => (if t525 = 0 then ((vinculumlaw01_Is.f k t519 bt533.1).bind fun t535 => (if t535 = true then ((vinculumlaw01_Is.f k t522 bt533.2).bind fun t536 => (if t536 = true then (vinculumlaw01_NatDivides.j0 k a2 t518 bt526.1 bt526.2.1 bt526.2.2) else (some false))) else (some false))) else (some false))))))) = some r := H
  have A7 := Aside0.mk A70
  clear A70
  replace H := Option.bind_eq_some_iff.mp H
  obtain ⟨⟨t526, t529, t530⟩, A80, H⟩ := H
  replace H : ((vinculumlaw01_of.f k l1).bind fun t531 => (if t531.toList = ([48] : List UInt8) then (if t525 = 10 then (if (t519.length : Int) = 0 then (if (t522.length : Int) = 0 then (vinculumlaw01_NatDivides.j0 k a2 t518 t526 t529 t530) else (some false)) else (some false)) else (some false)) else ((vinculumlaw01_of.f k l1).bind fun t532 => ((vinculumref01_DivMod.f k t518 t532).bind fun bt533 => (if t525 = 0 then ((vinculumlaw01_Is.f k t519 bt533.1).bind fun t535 => (if t535 = true then ((vinculumlaw01_Is.f k t522 bt533.2).bind fun t536 => (if t536 = true then (vinculumlaw01_NatDivides.j0 k a2 t518 t526 t529 t530) else (some false))) else (some false))) else (some false)))))) = some r := H
  have A8 := Aside0.mk A80
  clear A80
  replace H := Option.bind_eq_some_iff.mp H
  obtain ⟨t531, A90, H⟩ := H
  replace H : (if t531.toList = ([48] : List UInt8) then (if t525 = 10 then (if (t519.length : Int) = 0 then (if (t522.length : Int) = 0 then (vinculumlaw01_NatDivides.j0 k a2 t518 t526 t529 t530) else (some false)) else (some false)) else (some false)) else ((vinculumlaw01_of.f k l1).bind fun t532 => ((vinculumref01_DivMod.f k t518 t532).bind fun bt533 => (if t525 = 0 then ((vinculumlaw01_Is.f k t519 bt533.1).bind fun t535 => (if t535 = true then ((vinculumlaw01_Is.f k t522 bt533.2).bind fun t536 => (if t536 = true then (vinculumlaw01_NatDivides.j0 k a2 t518 t526 t529 t530) else (some false))) else (some false))) else (some false))))) = some r := H
  have A9 := Aside0.mk A90
  clear A90
  have HC10 := Aside0.mk H
  clear H
  go_enter Tryd.func3, Tryd.ntmps3
  go_upto_if 41 with (first | ((with_reducible refine gate_callee (f := 13) rfl ?_); refine goesL_ (some 20) rfl rfl Tryd.func13 (by kernel_rfl) rfl #[.slice A0 l0.length c0, .slice A1 l1.length c1] rfl (by (try simp only [List.map_toArray, List.map_cons, List.map_nil]); first | done | rfl | (simp only [List.length_drop, List.length_take]; rfl)) ?_; (with_reducible refine (vinculumlaw01_few.calls _ _ l0 _ _ l1 true _ ?side1 ?side2 ?side3 ?side4 A4.out).mono ?_); (case side1 => repeat (first | exact HR0.out | (with_reducible refine Kd.C_alloc ?_ _) | (with_reducible refine Kd.C_drewN ?_ _) | (with_reducible refine Kd.C_drew ?_))); (case side2 => exact HC0.out); (case side3 => repeat (first | exact HR1.out | (with_reducible refine Kd.C_alloc ?_ _) | (with_reducible refine Kd.C_drewN ?_ _) | (with_reducible refine Kd.C_drew ?_))); (case side4 => exact HC1.out); rintro e w' ⟨rfl, ⟨nd, rfl⟩⟩; refine ⟨_, rfl, ?_⟩) | ((with_reducible refine gate_callee (f := 15) rfl ?_); refine goesL_ (some 24) rfl rfl Tryd.func15 (by kernel_rfl) rfl #[.slice A0 l0.length c0] rfl (by (try simp only [List.map_toArray, List.map_cons, List.map_nil]); first | done | rfl | (simp only [List.length_drop, List.length_take]; rfl)) ?_; (with_reducible refine (vinculumlaw01_of.calls k _ _ l0 t518 _ ?side1 ?side2 A6.out).mono ?_); (case side1 => repeat (first | exact HR0.out | (with_reducible refine Kd.C_alloc ?_ _) | (with_reducible refine Kd.C_drewN ?_ _) | (with_reducible refine Kd.C_drew ?_))); (case side2 => exact HC0.out); rintro e w11 ⟨rfl, hb⟩; refine ⟨_, rfl, ?_⟩; have n0_ := Aside0.mk (below_step (by repeat (first | (with_reducible first | exact HB.out | apply below_alloc | apply pw_below_drewN | apply below_drew1) | exact HB.out)) hb); clear HB; have HB := n0_; clear n0_; (try clear hb); (try clear hb2); (try clear hk); (try clear hi)) | ((with_reducible refine gate_callee (f := 16) rfl ?_); refine goesL_ (some 28) rfl rfl Tryd.func16 (by kernel_rfl) rfl #[.slice A0 l0.length c0, .slice A1 l1.length c1] rfl (by (try simp only [List.map_toArray, List.map_cons, List.map_nil]); first | done | rfl | (simp only [List.length_drop, List.length_take]; rfl)) ?_; (with_reducible refine (nat_DivMod.calls k (fun k_ => k_ < w.heap.size) _ _ l0 (fun k_ => k_ < w.heap.size) _ _ l1 t519 t522 t525 _ ?side1 ?side2 A7.out).mono ?_); (case side1 => exact Kd.V_mk HC0.out (Kd.F_below (Kd.C_F (Kd.heap_int .u64) HR0.out) (by repeat (first | (with_reducible first | exact HB.out | apply below_alloc | apply pw_below_drewN | apply below_drew1) | exact HB.out)))); (case side2 => exact Kd.V_mk HC1.out (Kd.F_below (Kd.C_F (Kd.heap_int .u64) HR1.out) (by repeat (first | (with_reducible first | exact HB.out | apply below_alloc | apply pw_below_drewN | apply below_drew1) | exact HB.out)))); rintro e w12 ⟨v520, v523, rfl, ho0, ho1, hb⟩; refine ⟨_, rfl, ?_⟩; have n0_ := Aside0.mk (Kd.V_lower (Kd.V_mono (ok' := fun k_ => True) ho0 (fun k_ hk_ => trivial)) (below_size (by repeat (first | (with_reducible first | exact HB.out | apply below_alloc | apply pw_below_drewN | apply below_drew1) | exact HB.out)))); have n1_ := Aside0.mk (Kd.V_lower (Kd.V_mono (ok' := fun k_ => True) ho1 (fun k_ hk_ => trivial)) (below_size (by repeat (first | (with_reducible first | exact HB.out | apply below_alloc | apply pw_below_drewN | apply below_drew1) | exact HB.out)))); have n2_ := Aside0.mk (below_step (by repeat (first | (with_reducible first | exact HB.out | apply below_alloc | apply pw_below_drewN | apply below_drew1) | exact HB.out)) hb); clear HB; have HO521 := n0_; have HO524 := n1_; have HB := n2_; clear n0_ n1_ n2_; (try clear hb); (try clear hb2); (try clear hk); (try clear hi); (try clear ho0); (try clear ho1)) | ((with_reducible refine gate_callee (f := 17) rfl ?_); refine goesL_ (some 35) rfl rfl Tryd.func17 (by kernel_rfl) rfl #[.slice A0 l0.length c0, .int .u64 a2] rfl (by (try simp only [List.map_toArray, List.map_cons, List.map_nil]); first | done | rfl | (simp only [List.length_drop, List.length_take]; rfl)) ?_; (with_reducible refine (nat_DivWord.calls k _ _ l0 a2 t526 t529 t530 _ ?side1 ?side2 A8.out).mono ?_); (case side1 => repeat (first | exact (Kd.C_below HR0.out HB.out) | (with_reducible refine Kd.C_alloc ?_ _) | (with_reducible refine Kd.C_drewN ?_ _) | (with_reducible refine Kd.C_drew ?_))); (case side2 => exact HC0.out); rintro e w13 ⟨v527, rfl, ho0, hb⟩; refine ⟨_, rfl, ?_⟩; have n0_ := Aside0.mk (Kd.V_below (by (with_reducible repeat (first | apply Kd.V_alloc | apply Kd.V_drewN | apply Kd.V_drew)); exact HO521.out) hb); have n1_ := Aside0.mk (Kd.V_below (by (with_reducible repeat (first | apply Kd.V_alloc | apply Kd.V_drewN | apply Kd.V_drew)); exact HO524.out) hb); have n2_ := Aside0.mk (Kd.V_lower (Kd.V_mono (ok' := fun k_ => True) ho0 (fun k_ hk_ => trivial)) (below_size (by repeat (first | (with_reducible first | exact HB.out | apply below_alloc | apply pw_below_drewN | apply below_drew1) | exact HB.out)))); have n3_ := Aside0.mk (below_step (by repeat (first | (with_reducible first | exact HB.out | apply below_alloc | apply pw_below_drewN | apply below_drew1) | exact HB.out)) hb); clear HO521; clear HO524; clear HB; have HO521 := n0_; have HO524 := n1_; have HO528 := n2_; have HB := n3_; clear n0_ n1_ n2_ n3_; (try clear hb); (try clear hb2); (try clear hk); (try clear hi); (try clear ho0)) | ((with_reducible refine gate_callee (f := 15) rfl ?_); refine goesL_ (some 40) rfl rfl Tryd.func15 (by kernel_rfl) rfl #[.slice A1 l1.length c1] rfl (by (try simp only [List.map_toArray, List.map_cons, List.map_nil]); first | done | rfl | (simp only [List.length_drop, List.length_take]; rfl)) ?_; (with_reducible refine (vinculumlaw01_of.calls k _ _ l1 t531 _ ?side1 ?side2 A9.out).mono ?_); (case side1 => repeat (first | exact (Kd.C_below HR1.out HB.out) | (with_reducible refine Kd.C_alloc ?_ _) | (with_reducible refine Kd.C_drewN ?_ _) | (with_reducible refine Kd.C_drew ?_))); (case side2 => exact HC1.out); rintro e w14 ⟨rfl, hb⟩; refine ⟨_, rfl, ?_⟩; have n0_ := Aside0.mk (Kd.V_below (by (with_reducible repeat (first | apply Kd.V_alloc | apply Kd.V_drewN | apply Kd.V_drew)); exact HO521.out) hb); have n1_ := Aside0.mk (Kd.V_below (by (with_reducible repeat (first | apply Kd.V_alloc | apply Kd.V_drewN | apply Kd.V_drew)); exact HO524.out) hb); have n2_ := Aside0.mk (Kd.V_below (by (with_reducible repeat (first | apply Kd.V_alloc | apply Kd.V_drewN | apply Kd.V_drew)); exact HO528.out) hb); have n3_ := Aside0.mk (below_step (by repeat (first | (with_reducible first | exact HB.out | apply below_alloc | apply pw_below_drewN | apply below_drew1) | exact HB.out)) hb); clear HO521; clear HO524; clear HO528; clear HB; have HO521 := n0_; have HO524 := n1_; have HO528 := n2_; have HB := n3_; clear n0_ n1_ n2_ n3_; (try clear hb); (try clear hb2); (try clear hk); (try clear hi)))
  (try simp only [Act.put, List.setIfInBounds_toArray, List.set_cons_zero, List.set_cons_succ])
  go_cut [] (fun wc => ∃ (kq : Nat), Aside0 (vinculumlaw01_NatDivides.j0 kq a2 t518 t526 t529 t530 = some r) ∧ Aside0 (kq ≤ k) ∧ Aside0 (Kd.V (Kd.int .u64) 24 wc w.heap.size (fun _ => True) v527 t526) ∧ Aside0 (Below w.heap.size w wc))
  case first =>
   have H := HC10.out
   clear HC10
   by_cases c15 : t531.toList = ([48] : List UInt8)
   ·rw [if_pos c15] at H
    have c15b0 : (t531.toList == ([48] : List UInt8)) = true := beq_iff_eq.mpr c15
    have c15b1 : (t531.toList != ([48] : List UInt8)) = false := bne_eq_false_iff_eq.mpr c15
    clear c15
    (first | rw [c15b0] | (simp only [i64_w, i32_w]; rw [c15b0]) | skip)
    by_cases c16 : t525 = 10
    ·rw [if_pos c16] at H
     have c16b0 : (t525 == 10) = true := beq_iff_eq.mpr c16
     have c16b1 : (t525 != 10) = false := bne_eq_false_iff_eq.mpr c16
     clear c16
     by_cases c17 : (t519.length : Int) = 0
     ·rw [if_pos c17] at H
      have c17b0 : ((t519.length : Int) == 0) = true := beq_iff_eq.mpr c17
      have c17b1 : ((t519.length : Int) != 0) = false := bne_eq_false_iff_eq.mpr c17
      clear c17
      by_cases c18 : (t522.length : Int) = 0
      ·rw [if_pos c18] at H
       have c18b0 : ((t522.length : Int) == 0) = true := beq_iff_eq.mpr c18
       have c18b1 : ((t522.length : Int) != 0) = false := bne_eq_false_iff_eq.mpr c18
       clear c18
       have H' := Aside0.mk H
       clear H
       obtain ⟨Ao19, co19, eo19⟩ := Kd.V_slice HO521.out
       subst eo19
       obtain ⟨Ao20, co20, eo20⟩ := Kd.V_slice HO524.out
       subst eo20
       go_wp2
       go_meet
       case rel => exact ⟨_, H', ⟨by first | omega | exact Nat.le_refl _⟩, ⟨by (with_reducible repeat (first | apply Kd.V_alloc | apply Kd.V_drewN | apply Kd.V_drew)); exact HO528.out⟩, ⟨by repeat (first | (with_reducible first | exact HB.out | apply below_alloc | apply pw_below_drewN | apply below_drew1) | exact HB.out)⟩⟩
      rw [if_neg c18] at H
      have c18b0 : ((t522.length : Int) == 0) = false := beq_eq_false_iff_ne.mpr c18
      have c18b1 : ((t522.length : Int) != 0) = true := bne_iff_ne.mpr c18
      have c18b2 : ¬ (t522 = []) := fun h_ => c18 (by rw [h_]; rfl)
      obtain rfl := Option.some.inj H
      obtain ⟨Ao21, co21, eo21⟩ := Kd.V_slice HO521.out
      subst eo21
      obtain ⟨Ao22, co22, eo22⟩ := Kd.V_slice HO524.out
      subst eo22
      go_wp2
      go_ret
      exact ⟨by first | rfl | (simp [errW_none, errW_some] <;> rfl) | (simp [*, errW_none, errW_some] <;> rfl), by repeat (first | (with_reducible first | exact HB.out | apply below_alloc | apply pw_below_drewN | apply below_drew1) | exact HB.out)⟩
     rw [if_neg c17] at H
     have c17b0 : ((t519.length : Int) == 0) = false := beq_eq_false_iff_ne.mpr c17
     have c17b1 : ((t519.length : Int) != 0) = true := bne_iff_ne.mpr c17
     have c17b2 : ¬ (t519 = []) := fun h_ => c17 (by rw [h_]; rfl)
     obtain rfl := Option.some.inj H
     obtain ⟨Ao23, co23, eo23⟩ := Kd.V_slice HO521.out
     subst eo23
     go_wp2
     go_ret
     exact ⟨by first | rfl | (simp [errW_none, errW_some] <;> rfl) | (simp [*, errW_none, errW_some] <;> rfl), by repeat (first | (with_reducible first | exact HB.out | apply below_alloc | apply pw_below_drewN | apply below_drew1) | exact HB.out)⟩
    rw [if_neg c16] at H
    have c16b0 : (t525 == 10) = false := beq_eq_false_iff_ne.mpr c16
    have c16b1 : (t525 != 10) = true := bne_iff_ne.mpr c16
    obtain rfl := Option.some.inj H
    go_wp2
    go_ret
    exact ⟨by first | rfl | (simp [errW_none, errW_some] <;> rfl) | (simp [*, errW_none, errW_some] <;> rfl), by repeat (first | (with_reducible first | exact HB.out | apply below_alloc | apply pw_below_drewN | apply below_drew1) | exact HB.out)⟩
   rw [if_neg c15] at H
   have c15b0 : (t531.toList == ([48] : List UInt8)) = false := beq_eq_false_iff_ne.mpr c15
   have c15b1 : (t531.toList != ([48] : List UInt8)) = true := bne_iff_ne.mpr c15
   (first | rw [c15b0] | (simp only [i64_w, i32_w]; rw [c15b0]) | skip)
   replace H := Option.bind_eq_some_iff.mp H
   obtain ⟨t532, A240, H⟩ := H
   replace H : ((vinculumref01_DivMod.f k t518 t532).bind fun bt533 => (if t525 = 0 then ((vinculumlaw01_Is.f k t519 bt533.1).bind fun t535 => (if t535 = true then ((vinculumlaw01_Is.f k t522 bt533.2).bind fun t536 => (if t536 = true then (vinculumlaw01_NatDivides.j0 k a2 t518 t526 t529 t530) else (some false))) else (some false))) else (some false))) = some r := H
   have A24 := Aside0.mk A240
   clear A240
   replace H := Option.bind_eq_some_iff.mp H
   obtain ⟨⟨t533, t534⟩, A250, H⟩ := H
   replace H : (if t525 = 0 then ((vinculumlaw01_Is.f k t519 t533).bind fun t535 => (if t535 = true then ((vinculumlaw01_Is.f k t522 t534).bind fun t536 => (if t536 = true then (vinculumlaw01_NatDivides.j0 k a2 t518 t526 t529 t530) else (some false))) else (some false))) else (some false)) = some r := H
   have A25 := Aside0.mk A250
   clear A250
   by_cases c26 : t525 = 0
   ·rw [if_pos c26] at H
    have c26b0 : (t525 == 0) = true := beq_iff_eq.mpr c26
    have c26b1 : (t525 != 0) = false := bne_eq_false_iff_eq.mpr c26
    clear c26
    replace H := Option.bind_eq_some_iff.mp H
    obtain ⟨t535, A270, H⟩ := H
    replace H : (if t535 = true then ((vinculumlaw01_Is.f k t522 t534).bind fun t536 => (if t536 = true then (vinculumlaw01_NatDivides.j0 k a2 t518 t526 t529 t530) else (some false))) else (some false)) = some r := H
    have A27 := Aside0.mk A270
    clear A270
    by_cases c28 : t535 = true
    ·subst c28
     have H1 : ((vinculumlaw01_Is.f k t522 t534).bind fun t536 => (if t536 = true then (vinculumlaw01_NatDivides.j0 k a2 t518 t526 t529 t530) else (some false))) = some r := by rw [if_pos rfl] at H; exact H
     clear H
     have H := H1
     clear H1
     replace H := Option.bind_eq_some_iff.mp H
     obtain ⟨t536, A290, H⟩ := H
     replace H : (if t536 = true then (vinculumlaw01_NatDivides.j0 k a2 t518 t526 t529 t530) else (some false)) = some r := H
     have A29 := Aside0.mk A290
     clear A290
     by_cases c30 : t536 = true
     ·subst c30
      have H1 : (vinculumlaw01_NatDivides.j0 k a2 t518 t526 t529 t530) = some r := by rw [if_pos rfl] at H; exact H
      clear H
      have H := H1
      clear H1
      have H' := Aside0.mk H
      clear H
      go_wp2_with (first | ((with_reducible refine gate_callee (f := 15) rfl ?_); refine goesL_ (some 57) rfl rfl Tryd.func15 (by kernel_rfl) rfl #[.slice A1 l1.length c1] rfl (by (try simp only [List.map_toArray, List.map_cons, List.map_nil]); first | done | rfl | (simp only [List.length_drop, List.length_take]; rfl)) ?_; (with_reducible refine (vinculumlaw01_of.calls k _ _ l1 t532 _ ?side1 ?side2 A24.out).mono ?_); (case side1 => repeat (first | exact (Kd.C_below HR1.out HB.out) | (with_reducible refine Kd.C_alloc ?_ _) | (with_reducible refine Kd.C_drewN ?_ _) | (with_reducible refine Kd.C_drew ?_))); (case side2 => exact HC1.out); rintro e w31 ⟨rfl, hb⟩; refine ⟨_, rfl, ?_⟩; have n0_ := Aside0.mk (Kd.V_below (by (with_reducible repeat (first | apply Kd.V_alloc | apply Kd.V_drewN | apply Kd.V_drew)); exact HO521.out) hb); have n1_ := Aside0.mk (Kd.V_below (by (with_reducible repeat (first | apply Kd.V_alloc | apply Kd.V_drewN | apply Kd.V_drew)); exact HO524.out) hb); have n2_ := Aside0.mk (Kd.V_below (by (with_reducible repeat (first | apply Kd.V_alloc | apply Kd.V_drewN | apply Kd.V_drew)); exact HO528.out) hb); have n3_ := Aside0.mk (below_step (by repeat (first | (with_reducible first | exact HB.out | apply below_alloc | apply pw_below_drewN | apply below_drew1) | exact HB.out)) hb); clear HO521; clear HO524; clear HO528; clear HB; have HO521 := n0_; have HO524 := n1_; have HO528 := n2_; have HB := n3_; clear n0_ n1_ n2_ n3_; (try clear hb); (try clear hb2); (try clear hk); (try clear hi)) | ((with_reducible refine gate_callee (f := 18) rfl ?_); refine goesL_ (some 58) rfl rfl Tryd.func18 (by kernel_rfl) rfl #[.string t518, .string t532] rfl (by (try simp only [List.map_toArray, List.map_cons, List.map_nil]); first | done | rfl | (simp only [List.length_drop, List.length_take]; rfl)) ?_; (with_reducible refine (vinculumref01_DivMod.calls k t518 t532 t533 t534 _ A25.out).mono ?_); rintro e w32 ⟨rfl, hb⟩; refine ⟨_, rfl, ?_⟩; have n0_ := Aside0.mk (Kd.V_below (by (with_reducible repeat (first | apply Kd.V_alloc | apply Kd.V_drewN | apply Kd.V_drew)); exact HO521.out) hb); have n1_ := Aside0.mk (Kd.V_below (by (with_reducible repeat (first | apply Kd.V_alloc | apply Kd.V_drewN | apply Kd.V_drew)); exact HO524.out) hb); have n2_ := Aside0.mk (Kd.V_below (by (with_reducible repeat (first | apply Kd.V_alloc | apply Kd.V_drewN | apply Kd.V_drew)); exact HO528.out) hb); have n3_ := Aside0.mk (below_step (by repeat (first | (with_reducible first | exact HB.out | apply below_alloc | apply pw_below_drewN | apply below_drew1) | exact HB.out)) hb); clear HO521; clear HO524; clear HO528; clear HB; have HO521 := n0_; have HO524 := n1_; have HO528 := n2_; have HB := n3_; clear n0_ n1_ n2_ n3_; (try clear hb); (try clear hb2); (try clear hk); (try clear hi); obtain ⟨Ao33, co33, eo33⟩ := Kd.V_slice HO521.out; subst eo33) | (go_at_call 19; (with_reducible refine (vinculumlaw01_Is.calls k _ _ t519 t533 true _ ?side1 ?side2 A27.out).mono ?_); (case side1 => repeat (first | exact (Kd.V_reads' HO521.out).2.2 | (with_reducible refine Kd.C_alloc ?_ _) | (with_reducible refine Kd.C_drewN ?_ _) | (with_reducible refine Kd.C_drew ?_))); (case side2 => exact (Kd.V_reads' HO521.out).2.1); rintro e w34 ⟨rfl, hb⟩; have n0_ := Aside0.mk (Kd.V_below (by (with_reducible repeat (first | apply Kd.V_alloc | apply Kd.V_drewN | apply Kd.V_drew)); exact HO521.out) hb); have n1_ := Aside0.mk (Kd.V_below (by (with_reducible repeat (first | apply Kd.V_alloc | apply Kd.V_drewN | apply Kd.V_drew)); exact HO524.out) hb); have n2_ := Aside0.mk (Kd.V_below (by (with_reducible repeat (first | apply Kd.V_alloc | apply Kd.V_drewN | apply Kd.V_drew)); exact HO528.out) hb); have n3_ := Aside0.mk (below_step (by repeat (first | (with_reducible first | exact HB.out | apply below_alloc | apply pw_below_drewN | apply below_drew1) | exact HB.out)) hb); clear HO521; clear HO524; clear HO528; clear HB; have HO521 := n0_; have HO524 := n1_; have HO528 := n2_; have HB := n3_; clear n0_ n1_ n2_ n3_; (try clear hb); (try clear hb2); (try clear hk); (try clear hi); obtain ⟨Ao35, co35, eo35⟩ := Kd.V_slice HO524.out; subst eo35) | (go_at_call 19; (with_reducible refine (vinculumlaw01_Is.calls k _ _ t522 t534 true _ ?side1 ?side2 A29.out).mono ?_); (case side1 => repeat (first | exact (Kd.V_reads' HO524.out).2.2 | (with_reducible refine Kd.C_alloc ?_ _) | (with_reducible refine Kd.C_drewN ?_ _) | (with_reducible refine Kd.C_drew ?_))); (case side2 => exact (Kd.V_reads' HO524.out).2.1); rintro e w36 ⟨rfl, hb⟩; have n0_ := Aside0.mk (Kd.V_below (by (with_reducible repeat (first | apply Kd.V_alloc | apply Kd.V_drewN | apply Kd.V_drew)); exact HO521.out) hb); have n1_ := Aside0.mk (Kd.V_below (by (with_reducible repeat (first | apply Kd.V_alloc | apply Kd.V_drewN | apply Kd.V_drew)); exact HO524.out) hb); have n2_ := Aside0.mk (Kd.V_below (by (with_reducible repeat (first | apply Kd.V_alloc | apply Kd.V_drewN | apply Kd.V_drew)); exact HO528.out) hb); have n3_ := Aside0.mk (below_step (by repeat (first | (with_reducible first | exact HB.out | apply below_alloc | apply pw_below_drewN | apply below_drew1) | exact HB.out)) hb); clear HO521; clear HO524; clear HO528; clear HB; have HO521 := n0_; have HO524 := n1_; have HO528 := n2_; have HB := n3_; clear n0_ n1_ n2_ n3_; (try clear hb); (try clear hb2); (try clear hk); (try clear hi)))
      go_meet
      case rel => exact ⟨_, H', ⟨by first | omega | exact Nat.le_refl _⟩, ⟨by (with_reducible repeat (first | apply Kd.V_alloc | apply Kd.V_drewN | apply Kd.V_drew)); exact HO528.out⟩, ⟨by repeat (first | (with_reducible first | exact HB.out | apply below_alloc | apply pw_below_drewN | apply below_drew1) | exact HB.out)⟩⟩
     replace c30 := Bool.eq_false_iff.mpr c30
     subst c30
     have H1 : (some false) = some r := by rw [if_neg (show ¬ (false = true) by decide)] at H; exact H
     clear H
     have H := H1
     clear H1
     obtain rfl := Option.some.inj H
     go_wp2_with (first | ((with_reducible refine gate_callee (f := 15) rfl ?_); refine goesL_ (some 57) rfl rfl Tryd.func15 (by kernel_rfl) rfl #[.slice A1 l1.length c1] rfl (by (try simp only [List.map_toArray, List.map_cons, List.map_nil]); first | done | rfl | (simp only [List.length_drop, List.length_take]; rfl)) ?_; (with_reducible refine (vinculumlaw01_of.calls k _ _ l1 t532 _ ?side1 ?side2 A24.out).mono ?_); (case side1 => repeat (first | exact (Kd.C_below HR1.out HB.out) | (with_reducible refine Kd.C_alloc ?_ _) | (with_reducible refine Kd.C_drewN ?_ _) | (with_reducible refine Kd.C_drew ?_))); (case side2 => exact HC1.out); rintro e w37 ⟨rfl, hb⟩; refine ⟨_, rfl, ?_⟩; have n0_ := Aside0.mk (Kd.V_below (by (with_reducible repeat (first | apply Kd.V_alloc | apply Kd.V_drewN | apply Kd.V_drew)); exact HO521.out) hb); have n1_ := Aside0.mk (Kd.V_below (by (with_reducible repeat (first | apply Kd.V_alloc | apply Kd.V_drewN | apply Kd.V_drew)); exact HO524.out) hb); have n2_ := Aside0.mk (Kd.V_below (by (with_reducible repeat (first | apply Kd.V_alloc | apply Kd.V_drewN | apply Kd.V_drew)); exact HO528.out) hb); have n3_ := Aside0.mk (below_step (by repeat (first | (with_reducible first | exact HB.out | apply below_alloc | apply pw_below_drewN | apply below_drew1) | exact HB.out)) hb); clear HO521; clear HO524; clear HO528; clear HB; have HO521 := n0_; have HO524 := n1_; have HO528 := n2_; have HB := n3_; clear n0_ n1_ n2_ n3_; (try clear hb); (try clear hb2); (try clear hk); (try clear hi)) | ((with_reducible refine gate_callee (f := 18) rfl ?_); refine goesL_ (some 58) rfl rfl Tryd.func18 (by kernel_rfl) rfl #[.string t518, .string t532] rfl (by (try simp only [List.map_toArray, List.map_cons, List.map_nil]); first | done | rfl | (simp only [List.length_drop, List.length_take]; rfl)) ?_; (with_reducible refine (vinculumref01_DivMod.calls k t518 t532 t533 t534 _ A25.out).mono ?_); rintro e w38 ⟨rfl, hb⟩; refine ⟨_, rfl, ?_⟩; have n0_ := Aside0.mk (Kd.V_below (by (with_reducible repeat (first | apply Kd.V_alloc | apply Kd.V_drewN | apply Kd.V_drew)); exact HO521.out) hb); have n1_ := Aside0.mk (Kd.V_below (by (with_reducible repeat (first | apply Kd.V_alloc | apply Kd.V_drewN | apply Kd.V_drew)); exact HO524.out) hb); have n2_ := Aside0.mk (Kd.V_below (by (with_reducible repeat (first | apply Kd.V_alloc | apply Kd.V_drewN | apply Kd.V_drew)); exact HO528.out) hb); have n3_ := Aside0.mk (below_step (by repeat (first | (with_reducible first | exact HB.out | apply below_alloc | apply pw_below_drewN | apply below_drew1) | exact HB.out)) hb); clear HO521; clear HO524; clear HO528; clear HB; have HO521 := n0_; have HO524 := n1_; have HO528 := n2_; have HB := n3_; clear n0_ n1_ n2_ n3_; (try clear hb); (try clear hb2); (try clear hk); (try clear hi); obtain ⟨Ao39, co39, eo39⟩ := Kd.V_slice HO521.out; subst eo39) | (go_at_call 19; (with_reducible refine (vinculumlaw01_Is.calls k _ _ t519 t533 true _ ?side1 ?side2 A27.out).mono ?_); (case side1 => repeat (first | exact (Kd.V_reads' HO521.out).2.2 | (with_reducible refine Kd.C_alloc ?_ _) | (with_reducible refine Kd.C_drewN ?_ _) | (with_reducible refine Kd.C_drew ?_))); (case side2 => exact (Kd.V_reads' HO521.out).2.1); rintro e w40 ⟨rfl, hb⟩; have n0_ := Aside0.mk (Kd.V_below (by (with_reducible repeat (first | apply Kd.V_alloc | apply Kd.V_drewN | apply Kd.V_drew)); exact HO521.out) hb); have n1_ := Aside0.mk (Kd.V_below (by (with_reducible repeat (first | apply Kd.V_alloc | apply Kd.V_drewN | apply Kd.V_drew)); exact HO524.out) hb); have n2_ := Aside0.mk (Kd.V_below (by (with_reducible repeat (first | apply Kd.V_alloc | apply Kd.V_drewN | apply Kd.V_drew)); exact HO528.out) hb); have n3_ := Aside0.mk (below_step (by repeat (first | (with_reducible first | exact HB.out | apply below_alloc | apply pw_below_drewN | apply below_drew1) | exact HB.out)) hb); clear HO521; clear HO524; clear HO528; clear HB; have HO521 := n0_; have HO524 := n1_; have HO528 := n2_; have HB := n3_; clear n0_ n1_ n2_ n3_; (try clear hb); (try clear hb2); (try clear hk); (try clear hi); obtain ⟨Ao41, co41, eo41⟩ := Kd.V_slice HO524.out; subst eo41) | (go_at_call 19; (with_reducible refine (vinculumlaw01_Is.calls k _ _ t522 t534 false _ ?side1 ?side2 A29.out).mono ?_); (case side1 => repeat (first | exact (Kd.V_reads' HO524.out).2.2 | (with_reducible refine Kd.C_alloc ?_ _) | (with_reducible refine Kd.C_drewN ?_ _) | (with_reducible refine Kd.C_drew ?_))); (case side2 => exact (Kd.V_reads' HO524.out).2.1); rintro e w42 ⟨rfl, hb⟩; have n0_ := Aside0.mk (Kd.V_below (by (with_reducible repeat (first | apply Kd.V_alloc | apply Kd.V_drewN | apply Kd.V_drew)); exact HO521.out) hb); have n1_ := Aside0.mk (Kd.V_below (by (with_reducible repeat (first | apply Kd.V_alloc | apply Kd.V_drewN | apply Kd.V_drew)); exact HO524.out) hb); have n2_ := Aside0.mk (Kd.V_below (by (with_reducible repeat (first | apply Kd.V_alloc | apply Kd.V_drewN | apply Kd.V_drew)); exact HO528.out) hb); have n3_ := Aside0.mk (below_step (by repeat (first | (with_reducible first | exact HB.out | apply below_alloc | apply pw_below_drewN | apply below_drew1) | exact HB.out)) hb); clear HO521; clear HO524; clear HO528; clear HB; have HO521 := n0_; have HO524 := n1_; have HO528 := n2_; have HB := n3_; clear n0_ n1_ n2_ n3_; (try clear hb); (try clear hb2); (try clear hk); (try clear hi)))
     go_ret
     exact ⟨by first | rfl | (simp [errW_none, errW_some] <;> rfl) | (simp [*, errW_none, errW_some] <;> rfl), by repeat (first | (with_reducible first | exact HB.out | apply below_alloc | apply pw_below_drewN | apply below_drew1) | exact HB.out)⟩
    replace c28 := Bool.eq_false_iff.mpr c28
    subst c28
    have H1 : (some false) = some r := by rw [if_neg (show ¬ (false = true) by decide)] at H; exact H
    clear H
    have H := H1
    clear H1
    obtain rfl := Option.some.inj H
    go_wp2_with (first | ((with_reducible refine gate_callee (f := 15) rfl ?_); refine goesL_ (some 57) rfl rfl Tryd.func15 (by kernel_rfl) rfl #[.slice A1 l1.length c1] rfl (by (try simp only [List.map_toArray, List.map_cons, List.map_nil]); first | done | rfl | (simp only [List.length_drop, List.length_take]; rfl)) ?_; (with_reducible refine (vinculumlaw01_of.calls k _ _ l1 t532 _ ?side1 ?side2 A24.out).mono ?_); (case side1 => repeat (first | exact (Kd.C_below HR1.out HB.out) | (with_reducible refine Kd.C_alloc ?_ _) | (with_reducible refine Kd.C_drewN ?_ _) | (with_reducible refine Kd.C_drew ?_))); (case side2 => exact HC1.out); rintro e w43 ⟨rfl, hb⟩; refine ⟨_, rfl, ?_⟩; have n0_ := Aside0.mk (Kd.V_below (by (with_reducible repeat (first | apply Kd.V_alloc | apply Kd.V_drewN | apply Kd.V_drew)); exact HO521.out) hb); have n1_ := Aside0.mk (Kd.V_below (by (with_reducible repeat (first | apply Kd.V_alloc | apply Kd.V_drewN | apply Kd.V_drew)); exact HO524.out) hb); have n2_ := Aside0.mk (Kd.V_below (by (with_reducible repeat (first | apply Kd.V_alloc | apply Kd.V_drewN | apply Kd.V_drew)); exact HO528.out) hb); have n3_ := Aside0.mk (below_step (by repeat (first | (with_reducible first | exact HB.out | apply below_alloc | apply pw_below_drewN | apply below_drew1) | exact HB.out)) hb); clear HO521; clear HO524; clear HO528; clear HB; have HO521 := n0_; have HO524 := n1_; have HO528 := n2_; have HB := n3_; clear n0_ n1_ n2_ n3_; (try clear hb); (try clear hb2); (try clear hk); (try clear hi)) | ((with_reducible refine gate_callee (f := 18) rfl ?_); refine goesL_ (some 58) rfl rfl Tryd.func18 (by kernel_rfl) rfl #[.string t518, .string t532] rfl (by (try simp only [List.map_toArray, List.map_cons, List.map_nil]); first | done | rfl | (simp only [List.length_drop, List.length_take]; rfl)) ?_; (with_reducible refine (vinculumref01_DivMod.calls k t518 t532 t533 t534 _ A25.out).mono ?_); rintro e w44 ⟨rfl, hb⟩; refine ⟨_, rfl, ?_⟩; have n0_ := Aside0.mk (Kd.V_below (by (with_reducible repeat (first | apply Kd.V_alloc | apply Kd.V_drewN | apply Kd.V_drew)); exact HO521.out) hb); have n1_ := Aside0.mk (Kd.V_below (by (with_reducible repeat (first | apply Kd.V_alloc | apply Kd.V_drewN | apply Kd.V_drew)); exact HO524.out) hb); have n2_ := Aside0.mk (Kd.V_below (by (with_reducible repeat (first | apply Kd.V_alloc | apply Kd.V_drewN | apply Kd.V_drew)); exact HO528.out) hb); have n3_ := Aside0.mk (below_step (by repeat (first | (with_reducible first | exact HB.out | apply below_alloc | apply pw_below_drewN | apply below_drew1) | exact HB.out)) hb); clear HO521; clear HO524; clear HO528; clear HB; have HO521 := n0_; have HO524 := n1_; have HO528 := n2_; have HB := n3_; clear n0_ n1_ n2_ n3_; (try clear hb); (try clear hb2); (try clear hk); (try clear hi); obtain ⟨Ao45, co45, eo45⟩ := Kd.V_slice HO521.out; subst eo45) | (go_at_call 19; (with_reducible refine (vinculumlaw01_Is.calls k _ _ t519 t533 false _ ?side1 ?side2 A27.out).mono ?_); (case side1 => repeat (first | exact (Kd.V_reads' HO521.out).2.2 | (with_reducible refine Kd.C_alloc ?_ _) | (with_reducible refine Kd.C_drewN ?_ _) | (with_reducible refine Kd.C_drew ?_))); (case side2 => exact (Kd.V_reads' HO521.out).2.1); rintro e w46 ⟨rfl, hb⟩; have n0_ := Aside0.mk (Kd.V_below (by (with_reducible repeat (first | apply Kd.V_alloc | apply Kd.V_drewN | apply Kd.V_drew)); exact HO521.out) hb); have n1_ := Aside0.mk (Kd.V_below (by (with_reducible repeat (first | apply Kd.V_alloc | apply Kd.V_drewN | apply Kd.V_drew)); exact HO524.out) hb); have n2_ := Aside0.mk (Kd.V_below (by (with_reducible repeat (first | apply Kd.V_alloc | apply Kd.V_drewN | apply Kd.V_drew)); exact HO528.out) hb); have n3_ := Aside0.mk (below_step (by repeat (first | (with_reducible first | exact HB.out | apply below_alloc | apply pw_below_drewN | apply below_drew1) | exact HB.out)) hb); clear HO521; clear HO524; clear HO528; clear HB; have HO521 := n0_; have HO524 := n1_; have HO528 := n2_; have HB := n3_; clear n0_ n1_ n2_ n3_; (try clear hb); (try clear hb2); (try clear hk); (try clear hi)))
    go_ret
    exact ⟨by first | rfl | (simp [errW_none, errW_some] <;> rfl) | (simp [*, errW_none, errW_some] <;> rfl), by repeat (first | (with_reducible first | exact HB.out | apply below_alloc | apply pw_below_drewN | apply below_drew1) | exact HB.out)⟩
   rw [if_neg c26] at H
   have c26b0 : (t525 == 0) = false := beq_eq_false_iff_ne.mpr c26
   have c26b1 : (t525 != 0) = true := bne_iff_ne.mpr c26
   obtain rfl := Option.some.inj H
   go_wp2_with (first | ((with_reducible refine gate_callee (f := 15) rfl ?_); refine goesL_ (some 57) rfl rfl Tryd.func15 (by kernel_rfl) rfl #[.slice A1 l1.length c1] rfl (by (try simp only [List.map_toArray, List.map_cons, List.map_nil]); first | done | rfl | (simp only [List.length_drop, List.length_take]; rfl)) ?_; (with_reducible refine (vinculumlaw01_of.calls k _ _ l1 t532 _ ?side1 ?side2 A24.out).mono ?_); (case side1 => repeat (first | exact (Kd.C_below HR1.out HB.out) | (with_reducible refine Kd.C_alloc ?_ _) | (with_reducible refine Kd.C_drewN ?_ _) | (with_reducible refine Kd.C_drew ?_))); (case side2 => exact HC1.out); rintro e w47 ⟨rfl, hb⟩; refine ⟨_, rfl, ?_⟩; have n0_ := Aside0.mk (Kd.V_below (by (with_reducible repeat (first | apply Kd.V_alloc | apply Kd.V_drewN | apply Kd.V_drew)); exact HO521.out) hb); have n1_ := Aside0.mk (Kd.V_below (by (with_reducible repeat (first | apply Kd.V_alloc | apply Kd.V_drewN | apply Kd.V_drew)); exact HO524.out) hb); have n2_ := Aside0.mk (Kd.V_below (by (with_reducible repeat (first | apply Kd.V_alloc | apply Kd.V_drewN | apply Kd.V_drew)); exact HO528.out) hb); have n3_ := Aside0.mk (below_step (by repeat (first | (with_reducible first | exact HB.out | apply below_alloc | apply pw_below_drewN | apply below_drew1) | exact HB.out)) hb); clear HO521; clear HO524; clear HO528; clear HB; have HO521 := n0_; have HO524 := n1_; have HO528 := n2_; have HB := n3_; clear n0_ n1_ n2_ n3_; (try clear hb); (try clear hb2); (try clear hk); (try clear hi)) | ((with_reducible refine gate_callee (f := 18) rfl ?_); refine goesL_ (some 58) rfl rfl Tryd.func18 (by kernel_rfl) rfl #[.string t518, .string t532] rfl (by (try simp only [List.map_toArray, List.map_cons, List.map_nil]); first | done | rfl | (simp only [List.length_drop, List.length_take]; rfl)) ?_; (with_reducible refine (vinculumref01_DivMod.calls k t518 t532 t533 t534 _ A25.out).mono ?_); rintro e w48 ⟨rfl, hb⟩; refine ⟨_, rfl, ?_⟩; have n0_ := Aside0.mk (Kd.V_below (by (with_reducible repeat (first | apply Kd.V_alloc | apply Kd.V_drewN | apply Kd.V_drew)); exact HO521.out) hb); have n1_ := Aside0.mk (Kd.V_below (by (with_reducible repeat (first | apply Kd.V_alloc | apply Kd.V_drewN | apply Kd.V_drew)); exact HO524.out) hb); have n2_ := Aside0.mk (Kd.V_below (by (with_reducible repeat (first | apply Kd.V_alloc | apply Kd.V_drewN | apply Kd.V_drew)); exact HO528.out) hb); have n3_ := Aside0.mk (below_step (by repeat (first | (with_reducible first | exact HB.out | apply below_alloc | apply pw_below_drewN | apply below_drew1) | exact HB.out)) hb); clear HO521; clear HO524; clear HO528; clear HB; have HO521 := n0_; have HO524 := n1_; have HO528 := n2_; have HB := n3_; clear n0_ n1_ n2_ n3_; (try clear hb); (try clear hb2); (try clear hk); (try clear hi)))
   go_ret
   exact ⟨by first | rfl | (simp [errW_none, errW_some] <;> rfl) | (simp [*, errW_none, errW_some] <;> rfl), by repeat (first | (with_reducible first | exact HB.out | apply below_alloc | apply pw_below_drewN | apply below_drew1) | exact HB.out)⟩
  case rest =>
   clear HC10
   try clear c1
   try clear c2
   try clear p2
   try clear c3
   try clear c5
   try clear c13
   try clear c15
   try clear c15b0
   try clear c15b1
   try clear c16
   try clear c16b0
   try clear c16b1
   try clear c17
   try clear c17b0
   try clear c17b1
   try clear c17b2
   try clear c18
   try clear c18b0
   try clear c18b1
   try clear c18b2
   try clear c26
   try clear c26b0
   try clear c26b1
   try clear c28
   try clear c30
   obtain ⟨kq, HA, HJ9, HO_11, HB⟩ := hcut
   cases kq with
   | zero => exact absurd HA.out (by simp [vinculumlaw01_NatDivides.j0])
   | succ kj9 =>
    have H := HA.out
    clear HA
    simp only [vinculumlaw01_NatDivides.j0] at H
    by_cases c49 : a2 = 0
    ·rw [if_pos c49] at H
     have c49b0 : (a2 == 0) = true := beq_iff_eq.mpr c49
     have c49b1 : (a2 != 0) = false := bne_eq_false_iff_eq.mpr c49
     clear c49
     by_cases c50 : t530 = 10
     ·rw [if_pos c50] at H
      have c50b0 : (t530 == 10) = true := beq_iff_eq.mpr c50
      have c50b1 : (t530 != 10) = false := bne_eq_false_iff_eq.mpr c50
      clear c50
      by_cases c51 : (t526.length : Int) = 0
      ·rw [if_pos c51] at H
       have c51b0 : ((t526.length : Int) == 0) = true := beq_iff_eq.mpr c51
       have c51b1 : ((t526.length : Int) != 0) = false := bne_eq_false_iff_eq.mpr c51
       clear c51
       by_cases c52 : t529 = 0
       ·rw [if_pos c52] at H
        have c52b0 : (t529 == 0) = true := beq_iff_eq.mpr c52
        have c52b1 : (t529 != 0) = false := bne_eq_false_iff_eq.mpr c52
        clear c52
        replace H := Option.bind_eq_some_iff.mp H
        obtain ⟨t537, A530, H⟩ := H
        replace H : (some t537) = some r := H
        have A53 := Aside0.mk A530
        clear A530
        obtain rfl := Option.some.inj H
        obtain ⟨Ao54, co54, eo54⟩ := Kd.V_slice HO_11.out
        subst eo54
        go_wp2_with (first | (go_at_call 14; (with_reducible refine (vinculumlaw01_awake.calls kj9  t537 _ A53.out).mono ?_); rintro e w55 ⟨rfl, hb⟩; have n0_ := Aside0.mk (Kd.V_below (by (with_reducible repeat (first | apply Kd.V_alloc | apply Kd.V_drewN | apply Kd.V_drew)); exact HO_11.out) hb); have n1_ := Aside0.mk (below_step (by repeat (first | (with_reducible first | exact HB.out | apply below_alloc | apply pw_below_drewN | apply below_drew1) | exact HB.out)) hb); clear HO_11; clear HB; have HO_11 := n0_; have HB := n1_; clear n0_ n1_; (try clear hb); (try clear hb2); (try clear hk); (try clear hi)))
        go_ret
        exact ⟨by first | rfl | (simp [errW_none, errW_some] <;> rfl) | (simp [*, errW_none, errW_some] <;> rfl), by repeat (first | (with_reducible first | exact HB.out | apply below_alloc | apply pw_below_drewN | apply below_drew1) | exact HB.out)⟩
       rw [if_neg c52] at H
       have c52b0 : (t529 == 0) = false := beq_eq_false_iff_ne.mpr c52
       have c52b1 : (t529 != 0) = true := bne_iff_ne.mpr c52
       obtain rfl := Option.some.inj H
       obtain ⟨Ao56, co56, eo56⟩ := Kd.V_slice HO_11.out
       subst eo56
       go_wp2
       go_ret
       exact ⟨by first | rfl | (simp [errW_none, errW_some] <;> rfl) | (simp [*, errW_none, errW_some] <;> rfl), by repeat (first | (with_reducible first | exact HB.out | apply below_alloc | apply pw_below_drewN | apply below_drew1) | exact HB.out)⟩
      rw [if_neg c51] at H
      have c51b0 : ((t526.length : Int) == 0) = false := beq_eq_false_iff_ne.mpr c51
      have c51b1 : ((t526.length : Int) != 0) = true := bne_iff_ne.mpr c51
      have c51b2 : ¬ (t526 = []) := fun h_ => c51 (by rw [h_]; rfl)
      obtain rfl := Option.some.inj H
      obtain ⟨Ao57, co57, eo57⟩ := Kd.V_slice HO_11.out
      subst eo57
      go_wp2
      go_ret
      exact ⟨by first | rfl | (simp [errW_none, errW_some] <;> rfl) | (simp [*, errW_none, errW_some] <;> rfl), by repeat (first | (with_reducible first | exact HB.out | apply below_alloc | apply pw_below_drewN | apply below_drew1) | exact HB.out)⟩
     rw [if_neg c50] at H
     have c50b0 : (t530 == 10) = false := beq_eq_false_iff_ne.mpr c50
     have c50b1 : (t530 != 10) = true := bne_iff_ne.mpr c50
     obtain rfl := Option.some.inj H
     go_wp2
     go_ret
     exact ⟨by first | rfl | (simp [errW_none, errW_some] <;> rfl) | (simp [*, errW_none, errW_some] <;> rfl), by repeat (first | (with_reducible first | exact HB.out | apply below_alloc | apply pw_below_drewN | apply below_drew1) | exact HB.out)⟩
    rw [if_neg c49] at H
    have c49b0 : (a2 == 0) = false := beq_eq_false_iff_ne.mpr c49
    have c49b1 : (a2 != 0) = true := bne_iff_ne.mpr c49
    replace H := Option.bind_eq_some_iff.mp H
    obtain ⟨t538, A580, H⟩ := H
    replace H : ((vinculumref01_DivMod.f kj9 t518 t538).bind fun bt539 => (if t530 = 0 then ((vinculumlaw01_Is.f kj9 t526 bt539.1).bind fun t541 => (if t541 = true then ((vinculumref01_Word.f kj9 t529).bind fun t542 => (if t542.toList = bt539.2.toList then ((vinculumlaw01_awake.f kj9).bind fun t543 => (some t543)) else (some false))) else (some false))) else (some false))) = some r := H
    have A58 := Aside0.mk A580
    clear A580
    replace H := Option.bind_eq_some_iff.mp H
    obtain ⟨⟨t539, t540⟩, A590, H⟩ := H
    replace H : (if t530 = 0 then ((vinculumlaw01_Is.f kj9 t526 t539).bind fun t541 => (if t541 = true then ((vinculumref01_Word.f kj9 t529).bind fun t542 => (if t542.toList = t540.toList then ((vinculumlaw01_awake.f kj9).bind fun t543 => (some t543)) else (some false))) else (some false))) else (some false)) = some r := H
    have A59 := Aside0.mk A590
    clear A590
    by_cases c60 : t530 = 0
    ·rw [if_pos c60] at H
     have c60b0 : (t530 == 0) = true := beq_iff_eq.mpr c60
     have c60b1 : (t530 != 0) = false := bne_eq_false_iff_eq.mpr c60
     clear c60
     replace H := Option.bind_eq_some_iff.mp H
     obtain ⟨t541, A610, H⟩ := H
     replace H : (if t541 = true then ((vinculumref01_Word.f kj9 t529).bind fun t542 => (if t542.toList = t540.toList then ((vinculumlaw01_awake.f kj9).bind fun t543 => (some t543)) else (some false))) else (some false)) = some r := H
     have A61 := Aside0.mk A610
     clear A610
     by_cases c62 : t541 = true
     ·subst c62
      have H1 : ((vinculumref01_Word.f kj9 t529).bind fun t542 => (if t542.toList = t540.toList then ((vinculumlaw01_awake.f kj9).bind fun t543 => (some t543)) else (some false))) = some r := by rw [if_pos rfl] at H; exact H
      clear H
      have H := H1
      clear H1
      replace H := Option.bind_eq_some_iff.mp H
      obtain ⟨t542, A630, H⟩ := H
      replace H : (if t542.toList = t540.toList then ((vinculumlaw01_awake.f kj9).bind fun t543 => (some t543)) else (some false)) = some r := H
      have A63 := Aside0.mk A630
      clear A630
      by_cases c64 : t542.toList = t540.toList
      ·rw [if_pos c64] at H
       have c64b0 : (t542.toList == t540.toList) = true := beq_iff_eq.mpr c64
       have c64b1 : (t542.toList != t540.toList) = false := bne_eq_false_iff_eq.mpr c64
       clear c64
       replace H := Option.bind_eq_some_iff.mp H
       obtain ⟨t543, A650, H⟩ := H
       replace H : (some t543) = some r := H
       have A65 := Aside0.mk A650
       clear A650
       obtain rfl := Option.some.inj H
       go_wp2_with (first | ((with_reducible refine gate_callee (f := 20) rfl ?_); refine goesL_ (some 94) rfl rfl Tryd.func20 (by kernel_rfl) rfl #[.int .u64 a2] rfl (by (try simp only [List.map_toArray, List.map_cons, List.map_nil]); first | done | rfl | (simp only [List.length_drop, List.length_take]; rfl)) ?_; (with_reducible refine (vinculumref01_Word.calls kj9 a2 t538 _ A58.out).mono ?_); rintro e w66 ⟨rfl, hb⟩; refine ⟨_, rfl, ?_⟩; have n0_ := Aside0.mk (Kd.V_below (by (with_reducible repeat (first | apply Kd.V_alloc | apply Kd.V_drewN | apply Kd.V_drew)); exact HO_11.out) hb); have n1_ := Aside0.mk (below_step (by repeat (first | (with_reducible first | exact HB.out | apply below_alloc | apply pw_below_drewN | apply below_drew1) | exact HB.out)) hb); clear HO_11; clear HB; have HO_11 := n0_; have HB := n1_; clear n0_ n1_; (try clear hb); (try clear hb2); (try clear hk); (try clear hi)) | ((with_reducible refine gate_callee (f := 18) rfl ?_); refine goesL_ (some 95) rfl rfl Tryd.func18 (by kernel_rfl) rfl #[.string t518, .string t538] rfl (by (try simp only [List.map_toArray, List.map_cons, List.map_nil]); first | done | rfl | (simp only [List.length_drop, List.length_take]; rfl)) ?_; (with_reducible refine (vinculumref01_DivMod.calls kj9 t518 t538 t539 t540 _ A59.out).mono ?_); rintro e w67 ⟨rfl, hb⟩; refine ⟨_, rfl, ?_⟩; have n0_ := Aside0.mk (Kd.V_below (by (with_reducible repeat (first | apply Kd.V_alloc | apply Kd.V_drewN | apply Kd.V_drew)); exact HO_11.out) hb); have n1_ := Aside0.mk (below_step (by repeat (first | (with_reducible first | exact HB.out | apply below_alloc | apply pw_below_drewN | apply below_drew1) | exact HB.out)) hb); clear HO_11; clear HB; have HO_11 := n0_; have HB := n1_; clear n0_ n1_; (try clear hb); (try clear hb2); (try clear hk); (try clear hi); obtain ⟨Ao68, co68, eo68⟩ := Kd.V_slice HO_11.out; subst eo68) | (go_at_call 19; (with_reducible refine (vinculumlaw01_Is.calls kj9 _ _ t526 t539 true _ ?side1 ?side2 A61.out).mono ?_); (case side1 => repeat (first | exact (Kd.V_reads' HO_11.out).2.2 | (with_reducible refine Kd.C_alloc ?_ _) | (with_reducible refine Kd.C_drewN ?_ _) | (with_reducible refine Kd.C_drew ?_))); (case side2 => exact (Kd.V_reads' HO_11.out).2.1); rintro e w69 ⟨rfl, hb⟩; have n0_ := Aside0.mk (Kd.V_below (by (with_reducible repeat (first | apply Kd.V_alloc | apply Kd.V_drewN | apply Kd.V_drew)); exact HO_11.out) hb); have n1_ := Aside0.mk (below_step (by repeat (first | (with_reducible first | exact HB.out | apply below_alloc | apply pw_below_drewN | apply below_drew1) | exact HB.out)) hb); clear HO_11; clear HB; have HO_11 := n0_; have HB := n1_; clear n0_ n1_; (try clear hb); (try clear hb2); (try clear hk); (try clear hi)) | (go_at_call 20; (with_reducible refine (vinculumref01_Word.calls kj9 t529 t542 _ A63.out).mono ?_); rintro e w70 ⟨rfl, hb⟩; have n0_ := Aside0.mk (Kd.V_below (by (with_reducible repeat (first | apply Kd.V_alloc | apply Kd.V_drewN | apply Kd.V_drew)); exact HO_11.out) hb); have n1_ := Aside0.mk (below_step (by repeat (first | (with_reducible first | exact HB.out | apply below_alloc | apply pw_below_drewN | apply below_drew1) | exact HB.out)) hb); clear HO_11; clear HB; have HO_11 := n0_; have HB := n1_; clear n0_ n1_; (try clear hb); (try clear hb2); (try clear hk); (try clear hi)) | (go_at_call 14; (with_reducible refine (vinculumlaw01_awake.calls kj9  t543 _ A65.out).mono ?_); rintro e w71 ⟨rfl, hb⟩; have n0_ := Aside0.mk (Kd.V_below (by (with_reducible repeat (first | apply Kd.V_alloc | apply Kd.V_drewN | apply Kd.V_drew)); exact HO_11.out) hb); have n1_ := Aside0.mk (below_step (by repeat (first | (with_reducible first | exact HB.out | apply below_alloc | apply pw_below_drewN | apply below_drew1) | exact HB.out)) hb); clear HO_11; clear HB; have HO_11 := n0_; have HB := n1_; clear n0_ n1_; (try clear hb); (try clear hb2); (try clear hk); (try clear hi)))
       go_ret
       exact ⟨by first | rfl | (simp [errW_none, errW_some] <;> rfl) | (simp [*, errW_none, errW_some] <;> rfl), by repeat (first | (with_reducible first | exact HB.out | apply below_alloc | apply pw_below_drewN | apply below_drew1) | exact HB.out)⟩
      rw [if_neg c64] at H
      have c64b0 : (t542.toList == t540.toList) = false := beq_eq_false_iff_ne.mpr c64
      have c64b1 : (t542.toList != t540.toList) = true := bne_iff_ne.mpr c64
      obtain rfl := Option.some.inj H
      go_wp2_with (first | ((with_reducible refine gate_callee (f := 20) rfl ?_); refine goesL_ (some 94) rfl rfl Tryd.func20 (by kernel_rfl) rfl #[.int .u64 a2] rfl (by (try simp only [List.map_toArray, List.map_cons, List.map_nil]); first | done | rfl | (simp only [List.length_drop, List.length_take]; rfl)) ?_; (with_reducible refine (vinculumref01_Word.calls kj9 a2 t538 _ A58.out).mono ?_); rintro e w72 ⟨rfl, hb⟩; refine ⟨_, rfl, ?_⟩; have n0_ := Aside0.mk (Kd.V_below (by (with_reducible repeat (first | apply Kd.V_alloc | apply Kd.V_drewN | apply Kd.V_drew)); exact HO_11.out) hb); have n1_ := Aside0.mk (below_step (by repeat (first | (with_reducible first | exact HB.out | apply below_alloc | apply pw_below_drewN | apply below_drew1) | exact HB.out)) hb); clear HO_11; clear HB; have HO_11 := n0_; have HB := n1_; clear n0_ n1_; (try clear hb); (try clear hb2); (try clear hk); (try clear hi)) | ((with_reducible refine gate_callee (f := 18) rfl ?_); refine goesL_ (some 95) rfl rfl Tryd.func18 (by kernel_rfl) rfl #[.string t518, .string t538] rfl (by (try simp only [List.map_toArray, List.map_cons, List.map_nil]); first | done | rfl | (simp only [List.length_drop, List.length_take]; rfl)) ?_; (with_reducible refine (vinculumref01_DivMod.calls kj9 t518 t538 t539 t540 _ A59.out).mono ?_); rintro e w73 ⟨rfl, hb⟩; refine ⟨_, rfl, ?_⟩; have n0_ := Aside0.mk (Kd.V_below (by (with_reducible repeat (first | apply Kd.V_alloc | apply Kd.V_drewN | apply Kd.V_drew)); exact HO_11.out) hb); have n1_ := Aside0.mk (below_step (by repeat (first | (with_reducible first | exact HB.out | apply below_alloc | apply pw_below_drewN | apply below_drew1) | exact HB.out)) hb); clear HO_11; clear HB; have HO_11 := n0_; have HB := n1_; clear n0_ n1_; (try clear hb); (try clear hb2); (try clear hk); (try clear hi); obtain ⟨Ao74, co74, eo74⟩ := Kd.V_slice HO_11.out; subst eo74) | (go_at_call 19; (with_reducible refine (vinculumlaw01_Is.calls kj9 _ _ t526 t539 true _ ?side1 ?side2 A61.out).mono ?_); (case side1 => repeat (first | exact (Kd.V_reads' HO_11.out).2.2 | (with_reducible refine Kd.C_alloc ?_ _) | (with_reducible refine Kd.C_drewN ?_ _) | (with_reducible refine Kd.C_drew ?_))); (case side2 => exact (Kd.V_reads' HO_11.out).2.1); rintro e w75 ⟨rfl, hb⟩; have n0_ := Aside0.mk (Kd.V_below (by (with_reducible repeat (first | apply Kd.V_alloc | apply Kd.V_drewN | apply Kd.V_drew)); exact HO_11.out) hb); have n1_ := Aside0.mk (below_step (by repeat (first | (with_reducible first | exact HB.out | apply below_alloc | apply pw_below_drewN | apply below_drew1) | exact HB.out)) hb); clear HO_11; clear HB; have HO_11 := n0_; have HB := n1_; clear n0_ n1_; (try clear hb); (try clear hb2); (try clear hk); (try clear hi)) | (go_at_call 20; (with_reducible refine (vinculumref01_Word.calls kj9 t529 t542 _ A63.out).mono ?_); rintro e w76 ⟨rfl, hb⟩; have n0_ := Aside0.mk (Kd.V_below (by (with_reducible repeat (first | apply Kd.V_alloc | apply Kd.V_drewN | apply Kd.V_drew)); exact HO_11.out) hb); have n1_ := Aside0.mk (below_step (by repeat (first | (with_reducible first | exact HB.out | apply below_alloc | apply pw_below_drewN | apply below_drew1) | exact HB.out)) hb); clear HO_11; clear HB; have HO_11 := n0_; have HB := n1_; clear n0_ n1_; (try clear hb); (try clear hb2); (try clear hk); (try clear hi)))
      go_ret
      exact ⟨by first | rfl | (simp [errW_none, errW_some] <;> rfl) | (simp [*, errW_none, errW_some] <;> rfl), by repeat (first | (with_reducible first | exact HB.out | apply below_alloc | apply pw_below_drewN | apply below_drew1) | exact HB.out)⟩
     replace c62 := Bool.eq_false_iff.mpr c62
     subst c62
     have H1 : (some false) = some r := by rw [if_neg (show ¬ (false = true) by decide)] at H; exact H
     clear H
     have H := H1
     clear H1
     obtain rfl := Option.some.inj H
     go_wp2_with (first | ((with_reducible refine gate_callee (f := 20) rfl ?_); refine goesL_ (some 94) rfl rfl Tryd.func20 (by kernel_rfl) rfl #[.int .u64 a2] rfl (by (try simp only [List.map_toArray, List.map_cons, List.map_nil]); first | done | rfl | (simp only [List.length_drop, List.length_take]; rfl)) ?_; (with_reducible refine (vinculumref01_Word.calls kj9 a2 t538 _ A58.out).mono ?_); rintro e w77 ⟨rfl, hb⟩; refine ⟨_, rfl, ?_⟩; have n0_ := Aside0.mk (Kd.V_below (by (with_reducible repeat (first | apply Kd.V_alloc | apply Kd.V_drewN | apply Kd.V_drew)); exact HO_11.out) hb); have n1_ := Aside0.mk (below_step (by repeat (first | (with_reducible first | exact HB.out | apply below_alloc | apply pw_below_drewN | apply below_drew1) | exact HB.out)) hb); clear HO_11; clear HB; have HO_11 := n0_; have HB := n1_; clear n0_ n1_; (try clear hb); (try clear hb2); (try clear hk); (try clear hi)) | ((with_reducible refine gate_callee (f := 18) rfl ?_); refine goesL_ (some 95) rfl rfl Tryd.func18 (by kernel_rfl) rfl #[.string t518, .string t538] rfl (by (try simp only [List.map_toArray, List.map_cons, List.map_nil]); first | done | rfl | (simp only [List.length_drop, List.length_take]; rfl)) ?_; (with_reducible refine (vinculumref01_DivMod.calls kj9 t518 t538 t539 t540 _ A59.out).mono ?_); rintro e w78 ⟨rfl, hb⟩; refine ⟨_, rfl, ?_⟩; have n0_ := Aside0.mk (Kd.V_below (by (with_reducible repeat (first | apply Kd.V_alloc | apply Kd.V_drewN | apply Kd.V_drew)); exact HO_11.out) hb); have n1_ := Aside0.mk (below_step (by repeat (first | (with_reducible first | exact HB.out | apply below_alloc | apply pw_below_drewN | apply below_drew1) | exact HB.out)) hb); clear HO_11; clear HB; have HO_11 := n0_; have HB := n1_; clear n0_ n1_; (try clear hb); (try clear hb2); (try clear hk); (try clear hi); obtain ⟨Ao79, co79, eo79⟩ := Kd.V_slice HO_11.out; subst eo79) | (go_at_call 19; (with_reducible refine (vinculumlaw01_Is.calls kj9 _ _ t526 t539 false _ ?side1 ?side2 A61.out).mono ?_); (case side1 => repeat (first | exact (Kd.V_reads' HO_11.out).2.2 | (with_reducible refine Kd.C_alloc ?_ _) | (with_reducible refine Kd.C_drewN ?_ _) | (with_reducible refine Kd.C_drew ?_))); (case side2 => exact (Kd.V_reads' HO_11.out).2.1); rintro e w80 ⟨rfl, hb⟩; have n0_ := Aside0.mk (Kd.V_below (by (with_reducible repeat (first | apply Kd.V_alloc | apply Kd.V_drewN | apply Kd.V_drew)); exact HO_11.out) hb); have n1_ := Aside0.mk (below_step (by repeat (first | (with_reducible first | exact HB.out | apply below_alloc | apply pw_below_drewN | apply below_drew1) | exact HB.out)) hb); clear HO_11; clear HB; have HO_11 := n0_; have HB := n1_; clear n0_ n1_; (try clear hb); (try clear hb2); (try clear hk); (try clear hi)))
     go_ret
     exact ⟨by first | rfl | (simp [errW_none, errW_some] <;> rfl) | (simp [*, errW_none, errW_some] <;> rfl), by repeat (first | (with_reducible first | exact HB.out | apply below_alloc | apply pw_below_drewN | apply below_drew1) | exact HB.out)⟩
    rw [if_neg c60] at H
    have c60b0 : (t530 == 0) = false := beq_eq_false_iff_ne.mpr c60
    have c60b1 : (t530 != 0) = true := bne_iff_ne.mpr c60
    obtain rfl := Option.some.inj H
    go_wp2_with (first | ((with_reducible refine gate_callee (f := 20) rfl ?_); refine goesL_ (some 94) rfl rfl Tryd.func20 (by kernel_rfl) rfl #[.int .u64 a2] rfl (by (try simp only [List.map_toArray, List.map_cons, List.map_nil]); first | done | rfl | (simp only [List.length_drop, List.length_take]; rfl)) ?_; (with_reducible refine (vinculumref01_Word.calls kj9 a2 t538 _ A58.out).mono ?_); rintro e w81 ⟨rfl, hb⟩; refine ⟨_, rfl, ?_⟩; have n0_ := Aside0.mk (Kd.V_below (by (with_reducible repeat (first | apply Kd.V_alloc | apply Kd.V_drewN | apply Kd.V_drew)); exact HO_11.out) hb); have n1_ := Aside0.mk (below_step (by repeat (first | (with_reducible first | exact HB.out | apply below_alloc | apply pw_below_drewN | apply below_drew1) | exact HB.out)) hb); clear HO_11; clear HB; have HO_11 := n0_; have HB := n1_; clear n0_ n1_; (try clear hb); (try clear hb2); (try clear hk); (try clear hi)) | ((with_reducible refine gate_callee (f := 18) rfl ?_); refine goesL_ (some 95) rfl rfl Tryd.func18 (by kernel_rfl) rfl #[.string t518, .string t538] rfl (by (try simp only [List.map_toArray, List.map_cons, List.map_nil]); first | done | rfl | (simp only [List.length_drop, List.length_take]; rfl)) ?_; (with_reducible refine (vinculumref01_DivMod.calls kj9 t518 t538 t539 t540 _ A59.out).mono ?_); rintro e w82 ⟨rfl, hb⟩; refine ⟨_, rfl, ?_⟩; have n0_ := Aside0.mk (Kd.V_below (by (with_reducible repeat (first | apply Kd.V_alloc | apply Kd.V_drewN | apply Kd.V_drew)); exact HO_11.out) hb); have n1_ := Aside0.mk (below_step (by repeat (first | (with_reducible first | exact HB.out | apply below_alloc | apply pw_below_drewN | apply below_drew1) | exact HB.out)) hb); clear HO_11; clear HB; have HO_11 := n0_; have HB := n1_; clear n0_ n1_; (try clear hb); (try clear hb2); (try clear hk); (try clear hi)))
    go_ret
    exact ⟨by first | rfl | (simp [errW_none, errW_some] <;> rfl) | (simp [*, errW_none, errW_some] <;> rfl), by repeat (first | (with_reducible first | exact HB.out | apply below_alloc | apply pw_below_drewN | apply below_drew1) | exact HB.out)⟩
 replace c5 := Bool.eq_false_iff.mpr c5
 subst c5
 have H1 : ((vinculumlaw01_awake.f k).bind fun t517 => (some t517)) = some r := by rw [if_neg (show ¬ (false = true) by decide)] at H; exact H
 clear H
 have H := H1
 clear H1
 replace H := Option.bind_eq_some_iff.mp H
 obtain ⟨t517, A830, H⟩ := H
 replace H : (some t517) = some r := H
 have A83 := Aside0.mk A830
 clear A830
 obtain rfl := Option.some.inj H
 go_enter Tryd.func3, Tryd.ntmps3
 go_wp2_with (first | ((with_reducible refine gate_callee (f := 13) rfl ?_); refine goesL_ (some 20) rfl rfl Tryd.func13 (by kernel_rfl) rfl #[.slice A0 l0.length c0, .slice A1 l1.length c1] rfl (by (try simp only [List.map_toArray, List.map_cons, List.map_nil]); first | done | rfl | (simp only [List.length_drop, List.length_take]; rfl)) ?_; (with_reducible refine (vinculumlaw01_few.calls _ _ l0 _ _ l1 false _ ?side1 ?side2 ?side3 ?side4 A4.out).mono ?_); (case side1 => repeat (first | exact HR0.out | (with_reducible refine Kd.C_alloc ?_ _) | (with_reducible refine Kd.C_drewN ?_ _) | (with_reducible refine Kd.C_drew ?_))); (case side2 => exact HC0.out); (case side3 => repeat (first | exact HR1.out | (with_reducible refine Kd.C_alloc ?_ _) | (with_reducible refine Kd.C_drewN ?_ _) | (with_reducible refine Kd.C_drew ?_))); (case side4 => exact HC1.out); rintro e w' ⟨rfl, ⟨nd, rfl⟩⟩; refine ⟨_, rfl, ?_⟩) | ((with_reducible refine gate_callee (f := 14) rfl ?_); refine goesL_ (some 22) rfl rfl Tryd.func14 (by kernel_rfl) rfl #[] rfl (by (try simp only [List.map_toArray, List.map_cons, List.map_nil]); first | done | rfl | (simp only [List.length_drop, List.length_take]; rfl)) ?_; (with_reducible refine (vinculumlaw01_awake.calls k  t517 _ A83.out).mono ?_); rintro e w84 ⟨rfl, hb⟩; refine ⟨_, rfl, ?_⟩; have n0_ := Aside0.mk (below_step (by repeat (first | (with_reducible first | exact HB.out | apply below_alloc | apply pw_below_drewN | apply below_drew1) | exact HB.out)) hb); clear HB; have HB := n0_; clear n0_; (try clear hb); (try clear hb2); (try clear hk); (try clear hi)))
 go_ret
 exact ⟨by first | rfl | (simp [errW_none, errW_some] <;> rfl) | (simp [*, errW_none, errW_some] <;> rfl), by repeat (first | (with_reducible first | exact HB.out | apply below_alloc | apply pw_below_drewN | apply below_drew1) | exact HB.out)⟩

/-- THE ONE PURE STATEMENT of vinculumlaw01_NatDivides: yours. -/
def vinculumlaw01_NatDivides.Pure : Prop := ∀ (l0 : List Int) (l1 : List Int) (a2 : Int), l0.length ≤ maxLen → l0.length * 8 ≤ 140737488351232 → (∀ x ∈ l0, (Lit.int .u64 x).wf = true) → l1.length ≤ maxLen → l1.length * 8 ≤ 140737488351232 → (∀ x ∈ l1, (Lit.int .u64 x).wf = true) → (Lit.int .u64 a2).wf = true → ∃ k, vinculumlaw01_NatDivides.f k l0 l1 a2 = some true
theorem vinculumlaw01_NatDivides.walk (P : vinculumlaw01_NatDivides.Pure) (a0 : Option Addr) (len0 cap0 : Nat) (z0 : List Int) (a1 : Option Addr) (len1 cap1 : Nat) (z1 : List Int) (a2 : Int) (w : World) (w0 : (a0 = none ∧ len0 = 0 ∧ cap0 = 0 ∧ z0 = []) ∨ ∃ x, a0 = some x ∧ len0 ≤ cap0 ∧ cap0 ≤ maxLen ∧ z0.length = cap0 ∧ (∀ i, i < z0.length → w.cell? (x.add i) = some (.int .u64 (z0.getD i 0))) ∧ ∀ n ∈ z0, (Lit.int .u64 n).wf = true) (y0 : len0 * 8 ≤ 140737488351232) (w1 : (a1 = none ∧ len1 = 0 ∧ cap1 = 0 ∧ z1 = []) ∨ ∃ x, a1 = some x ∧ len1 ≤ cap1 ∧ cap1 ≤ maxLen ∧ z1.length = cap1 ∧ (∀ i, i < z1.length → w.cell? (x.add i) = some (.int .u64 (z1.getD i 0))) ∧ ∀ n ∈ z1, (Lit.int .u64 n).wf = true) (y1 : len1 * 8 ≤ 140737488351232) (w2 : (Lit.int .u64 a2).wf = true) :
  Calls Tryd.prog 3 #[.slice a0 len0 cap0, .slice a1 len1 cap1, .int .u64 a2] w fun e w' => e = .returned (.bool true) ∧ Below w.heap.size w w' := by
 obtain ⟨l0, rfl, hr0, hm0, hw0, hc0⟩ := ReadsInt.ofRowC w0
 obtain ⟨l1, rfl, hr1, hm1, hw1, hc1⟩ := ReadsInt.ofRowC w1
 obtain ⟨k, h⟩ := P l0 l1 a2 hm0 y0 hw0 hm1 y1 hw1 w2
 refine (vinculumlaw01_NatDivides.calls k _ _ l0 _ _ l1 a2 true w (Kd.C_of_reads (d := (0 : Int)) (h1 := fun _ => rfl) hr0) hc0 (Kd.C_of_reads (d := (0 : Int)) (h1 := fun _ => rfl) hr1) hc1 h).mono ?_
 rintro e w' ⟨rfl, hd⟩
 exact ⟨rfl, hd⟩

end Go.Proofs.YtdomplmilbkaeaaDoor.GN
-- thin

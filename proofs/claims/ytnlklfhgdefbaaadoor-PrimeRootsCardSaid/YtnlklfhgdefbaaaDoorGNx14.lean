-- Written by wip/tools/myprint.py (this session's program, over the kit's print.py).
import Derived.Test.YtnlklfhgdefbaaaDoorGNx0
import Derived.Test.YtnlklfhgdefbaaaDoorGNx3
import Derived.Test.YtnlklfhgdefbaaaDoorGNx5
import Derived.Test.YtnlklfhgdefbaaaDoorGNx7
namespace Go.Proofs.YtnlklfhgdefbaaaDoor.GN
open Go.RowKit Go.Proofs.YtnlklfhgdefbaaaDoorW.PrintWords Go.Proofs.YtnlklfhgdefbaaaDoorW.PrintLast Go.Proofs.YtnlklfhgdefbaaaDoorW.PrintMore
attribute [local go_sem] max2_int min2_int max_two min_two max_three min_three max_four min_four   -- for this text's walks alone
set_option linter.unusedVariables false
set_option linter.unusedSimpArgs false

/-! ### vinculumlaw04_PrimeRoots: function 10 -/
def vinculumlaw04_PrimeRoots.j0 : Nat → Int → Int → Int → Int → Bool → Option (Bool)
 | 0, _, _, _, _, _ => none
 | k + 1, x0, x2, x9, x10, x62 => if x62 = true then (none) else (if x0 = 0 then (none) else (if (Int.tmod x2 x0) = 0 then (if x10 = 1 then (if x9 = 0 then ((vinculumlaw04_awake.f k).bind fun t217 => (some t217)) else (none)) else (none)) else ((vinculumref04_Order.f k x0 x2).bind fun t218 => (if t218 < 0 then (if x10 = 19 then (if x9 = 0 then ((vinculumlaw04_awake.f k).bind fun t219 => (some t219)) else (none)) else (none)) else (if x10 = 0 then (if x9 = t218 then ((vinculumlaw04_awake.f k).bind fun t220 => (some t220)) else (none)) else (none))))))
def vinculumlaw04_PrimeRoots.f (k : Nat) (a0 : Int) (a1 : Int) (a2 : Int) : Option (Bool) := if a0 > 100000 then ((vinculumlaw04_awake.f k).bind fun t208 => (some t208)) else ((prime_Root.f k a0 a1).bind fun bt209 => ((prime_Order.f k a0 a2).bind fun bt211 => ((vinculumref04_Is.f k a0).bind fun t213 => (if t213 = true then ((vinculumref04_Root.f k a0 a1).bind fun bt215 => (if bt209.1 = bt215.1 then (vinculumlaw04_PrimeRoots.j0 k a0 a2 bt211.1 bt211.2 (bt209.2 != bt215.2)) else (vinculumlaw04_PrimeRoots.j0 k a0 a2 bt211.1 bt211.2 true))) else (if bt209.2 = 14 then (if bt209.1 = 0 then (if bt211.2 = 14 then (if bt211.1 = 0 then ((vinculumlaw04_awake.f k).bind fun t214 => (some t214)) else (none)) else (none)) else (none)) else (none))))))
theorem vinculumlaw04_PrimeRoots.mono_l : ∀ k, (∀ y0 y1 y2 y3 y4, LeO (vinculumlaw04_PrimeRoots.j0 k y0 y1 y2 y3 y4) (vinculumlaw04_PrimeRoots.j0 (k + 1) y0 y1 y2 y3 y4))
 | 0 => fun _ _ _ _ _ r h => by simp [vinculumlaw04_PrimeRoots.j0] at h
 | k + 1 => by
  have ih0 := vinculumlaw04_PrimeRoots.mono_l k
  ·intro y0 y1 y2 y3 y4
   unfold vinculumlaw04_PrimeRoots.j0
   repeat' first
   | (with_reducible exact ih0 _ _ _ _ _)
   | (with_reducible exact prime_Order.mono _ _ _)
   | (with_reducible exact prime_Root.mono _ _ _)
   | (with_reducible exact vinculumlaw04_awake.mono _)
   | (with_reducible exact vinculumref04_Is.mono _ _)
   | (with_reducible exact vinculumref04_Order.mono _ _ _)
   | (with_reducible exact vinculumref04_Root.mono _ _ _)
   | (with_reducible exact LeO.refl _)
   | (with_reducible exact LeO.none _)
   | (with_reducible refine LeO.ite ?_ ?_)
   | (with_reducible refine LeO.bind ?_ (fun _ => ?_))
   | exact ih0 _ _ _ _ _
   | exact prime_Order.mono _ _ _
   | exact prime_Root.mono _ _ _
   | exact vinculumlaw04_awake.mono _
   | exact vinculumref04_Is.mono _ _
   | exact vinculumref04_Order.mono _ _ _
   | exact vinculumref04_Root.mono _ _ _
   | exact LeO.none _
   | refine LeO.ite ?_ ?_
   | refine LeO.bind ?_ (fun _ => ?_)
theorem vinculumlaw04_PrimeRoots.mono : ∀ a0 a1 a2 k, LeO (vinculumlaw04_PrimeRoots.f k a0 a1 a2) (vinculumlaw04_PrimeRoots.f (k + 1) a0 a1 a2) := by
 intro a0 a1 a2 k
 have ih0 := vinculumlaw04_PrimeRoots.mono_l k
 unfold vinculumlaw04_PrimeRoots.f
 repeat' first
   | (with_reducible exact ih0 _ _ _ _ _)
   | (with_reducible exact prime_Order.mono _ _ _)
   | (with_reducible exact prime_Root.mono _ _ _)
   | (with_reducible exact vinculumlaw04_awake.mono _)
   | (with_reducible exact vinculumref04_Is.mono _ _)
   | (with_reducible exact vinculumref04_Order.mono _ _ _)
   | (with_reducible exact vinculumref04_Root.mono _ _ _)
   | (with_reducible exact LeO.refl _)
   | (with_reducible exact LeO.none _)
   | (with_reducible refine LeO.ite ?_ ?_)
   | (with_reducible refine LeO.bind ?_ (fun _ => ?_))
   | exact ih0 _ _ _ _ _
   | exact prime_Order.mono _ _ _
   | exact prime_Root.mono _ _ _
   | exact vinculumlaw04_awake.mono _
   | exact vinculumref04_Is.mono _ _
   | exact vinculumref04_Order.mono _ _ _
   | exact vinculumref04_Root.mono _ _ _
   | exact LeO.none _
   | refine LeO.ite ?_ ?_
   | refine LeO.bind ?_ (fun _ => ?_)
set_option maxHeartbeats 8000000 in
set_option maxRecDepth 100000 in
theorem vinculumlaw04_PrimeRoots.calls (k : Nat) (a0 : Int) (a1 : Int) (a2 : Int) (r : Bool) (w : World) (hT_ : TabAt 0 Lib.deBruijn64tab w) (h : vinculumlaw04_PrimeRoots.f k a0 a1 a2 = some r) :
  Calls Tryd.prog 10 #[.int .u64 a0, .int .i64 a1, .int .u64 a2] w fun e w' => e = .returned (.bool r) ∧ Below w.heap.size w w' := by
 have HT_ := Aside0.mk hT_
 clear hT_
 have HB := Aside0.mk (Below.refl w.heap.size w)
 have H : (if a0 > 100000 then ((vinculumlaw04_awake.f k).bind fun t208 => (some t208)) else ((prime_Root.f k a0 a1).bind fun bt209 => ((prime_Order.f k a0 a2).bind fun bt211 => ((vinculumref04_Is.f k a0).bind fun t213 => (if t213 = true then ((vinculumref04_Root.f k a0 a1).bind fun bt215 => (if bt209.1 = bt215.1 then (vinculumlaw04_PrimeRoots.j0 k a0 a2 bt211.1 bt211.2 (bt209.2 != bt215.2)) else (vinculumlaw04_PrimeRoots.j0 k a0 a2 bt211.1 bt211.2 true))) else (if bt209.2 = 14 then (if bt209.1 = 0 then (if bt211.2 = 14 then (if bt211.1 = 0 then ((vinculumlaw04_awake.f k).bind fun t214 => (some t214)) else (none)) else (none)) else (none)) else (none))))))) = some r := h
 clear h
 by_cases c4 : a0 > 100000
 ·rw [if_pos c4] at H
  have c4b0 : decide (100000 < a0) = true := decide_eq_true c4
  clear c4
  replace H := Option.bind_eq_some_iff.mp H
  obtain ⟨t208, A50, H⟩ := H
  replace H : (some t208) = some r := H
  have A5 := Aside0.mk A50
  clear A50
  obtain rfl := Option.some.inj H
  go_enter Tryd.func10, Tryd.ntmps10
  go_wp2_with (first | ((with_reducible refine gate_callee (f := 12) rfl ?_); refine goesL_ (some 16) rfl rfl Tryd.func12 (by kernel_rfl) rfl #[] rfl (by (try simp only [List.map_toArray, List.map_cons, List.map_nil]); first | done | rfl | (simp only [List.length_drop, List.length_take]; rfl)) ?_; (with_reducible refine (vinculumlaw04_awake.calls k  t208 _ (by first | exact HT_.out | (refine tab_below HT_.out ?_; repeat (first | (with_reducible first | exact HB.out | apply below_alloc | apply pw_below_drewN | apply below_drew1) | exact HB.out)) | (repeat (first | exact HT_.out | apply tab_drewN | apply tab_drew))) A5.out).mono ?_); rintro e w6 ⟨rfl, hb⟩; refine ⟨_, rfl, ?_⟩; have n0_ := Aside0.mk (below_step (by repeat (first | (with_reducible first | exact HB.out | apply below_alloc | apply pw_below_drewN | apply below_drew1) | exact HB.out)) hb); clear HB; have HB := n0_; clear n0_; (try clear hb); (try clear hb2); (try clear hk); (try clear hi)))
  go_ret
  exact ⟨by first | rfl | (simp [errW_none, errW_some] <;> rfl) | (simp [*, errW_none, errW_some] <;> rfl), by repeat (first | (with_reducible first | exact HB.out | apply below_alloc | apply pw_below_drewN | apply below_drew1) | exact HB.out)⟩
 rw [if_neg c4] at H
 have c4b0 : decide (100000 < a0) = false := decide_eq_false c4
 clear c4
 replace H := Option.bind_eq_some_iff.mp H
 obtain ⟨⟨t209, t210⟩, A70, H⟩ := H
 replace H : ((prime_Order.f k a0 a2).bind fun bt211 => ((vinculumref04_Is.f k a0).bind fun t213 => (if t213 = true then ((vinculumref04_Root.f k a0 a1).bind fun bt215 => (if t209 = bt215.1 then (vinculumlaw04_PrimeRoots.j0 k a0 a2 bt211.1 bt211.2 (t210 != bt215.2)) else (vinculumlaw04_PrimeRoots.j0 k a0 a2 bt211.1 bt211.2 true))) else (if t210 = 14 then (if t209 = 0 then (if bt211.2 = 14 then (if bt211.1 = 0 then ((vinculumlaw04_awake.f k).bind fun t214 => (some t214)) else (none)) else (none)) else (none)) else (none))))) = some r := H
 have A7 := Aside0.mk A70
 clear A70
 replace H := Option.bind_eq_some_iff.mp H
 obtain ⟨⟨t211, t212⟩, A80, H⟩ := H
 replace H : ((vinculumref04_Is.f k a0).bind fun t213 => (if t213 = true then ((vinculumref04_Root.f k a0 a1).bind fun bt215 => (if t209 = bt215.1 then (vinculumlaw04_PrimeRoots.j0 k a0 a2 t211 t212 (t210 != bt215.2)) else (vinculumlaw04_PrimeRoots.j0 k a0 a2 t211 t212 true))) else (if t210 = 14 then (if t209 = 0 then (if t212 = 14 then (if t211 = 0 then ((vinculumlaw04_awake.f k).bind fun t214 => (some t214)) else (none)) else (none)) else (none)) else (none)))) = some r := H
 have A8 := Aside0.mk A80
 clear A80
 replace H := Option.bind_eq_some_iff.mp H
 obtain ⟨t213, A90, H⟩ := H
 replace H : (if t213 = true then ((vinculumref04_Root.f k a0 a1).bind fun bt215 => (if t209 = bt215.1 then (vinculumlaw04_PrimeRoots.j0 k a0 a2 t211 t212 (t210 != bt215.2)) else (vinculumlaw04_PrimeRoots.j0 k a0 a2 t211 t212 true))) else (if t210 = 14 then (if t209 = 0 then (if t212 = 14 then (if t211 = 0 then ((vinculumlaw04_awake.f k).bind fun t214 => (some t214)) else (none)) else (none)) else (none)) else (none))) = some r := H
 have A9 := Aside0.mk A90
 clear A90
 by_cases c10 : t213 = true
 ·subst c10
  have H1 : ((vinculumref04_Root.f k a0 a1).bind fun bt215 => (if t209 = bt215.1 then (vinculumlaw04_PrimeRoots.j0 k a0 a2 t211 t212 (t210 != bt215.2)) else (vinculumlaw04_PrimeRoots.j0 k a0 a2 t211 t212 true))) = some r := by rw [if_pos rfl] at H; exact H
  clear H
  have H := H1
  clear H1
  replace H := Option.bind_eq_some_iff.mp H
  obtain ⟨⟨t215, t216⟩, A110, H⟩ := H
  replace H : (if t209 = t215 then (vinculumlaw04_PrimeRoots.j0 k a0 a2 t211 t212 (t210 != t216)) else (vinculumlaw04_PrimeRoots.j0 k a0 a2 t211 t212 true)) = some r := H
  have A11 := Aside0.mk A110
  clear A110
  have HC12 := Aside0.mk H
  clear H
  go_enter Tryd.func10, Tryd.ntmps10
  go_upto_region 8 with (first | ((with_reducible refine gate_callee (f := 21) rfl ?_); refine goesL_ (some 20) rfl rfl Tryd.func21 (by kernel_rfl) rfl #[.int .u64 a0, .int .i64 a1] rfl (by (try simp only [List.map_toArray, List.map_cons, List.map_nil]); first | done | rfl | (simp only [List.length_drop, List.length_take]; rfl)) ?_; (with_reducible refine (prime_Root.calls k a0 a1 t209 t210 _ (by first | exact HT_.out | (refine tab_below HT_.out ?_; repeat (first | (with_reducible first | exact HB.out | apply below_alloc | apply pw_below_drewN | apply below_drew1) | exact HB.out)) | (repeat (first | exact HT_.out | apply tab_drewN | apply tab_drew))) A7.out).mono ?_); rintro e w13 ⟨rfl, hb⟩; refine ⟨_, rfl, ?_⟩; have n0_ := Aside0.mk (below_step (by repeat (first | (with_reducible first | exact HB.out | apply below_alloc | apply pw_below_drewN | apply below_drew1) | exact HB.out)) hb); clear HB; have HB := n0_; clear n0_; (try clear hb); (try clear hb2); (try clear hk); (try clear hi)) | ((with_reducible refine gate_callee (f := 22) rfl ?_); refine goesL_ (some 26) rfl rfl Tryd.func22 (by kernel_rfl) rfl #[.int .u64 a0, .int .u64 a2] rfl (by (try simp only [List.map_toArray, List.map_cons, List.map_nil]); first | done | rfl | (simp only [List.length_drop, List.length_take]; rfl)) ?_; (with_reducible refine (prime_Order.calls k a0 a2 t211 t212 _ (by first | exact HT_.out | (refine tab_below HT_.out ?_; repeat (first | (with_reducible first | exact HB.out | apply below_alloc | apply pw_below_drewN | apply below_drew1) | exact HB.out)) | (repeat (first | exact HT_.out | apply tab_drewN | apply tab_drew))) A8.out).mono ?_); rintro e w14 ⟨rfl, hb⟩; refine ⟨_, rfl, ?_⟩; have n0_ := Aside0.mk (below_step (by repeat (first | (with_reducible first | exact HB.out | apply below_alloc | apply pw_below_drewN | apply below_drew1) | exact HB.out)) hb); clear HB; have HB := n0_; clear n0_; (try clear hb); (try clear hb2); (try clear hk); (try clear hi)) | ((with_reducible refine gate_callee (f := 15) rfl ?_); refine goesL_ (some 30) rfl rfl Tryd.func15 (by kernel_rfl) rfl #[.int .u64 a0] rfl (by (try simp only [List.map_toArray, List.map_cons, List.map_nil]); first | done | rfl | (simp only [List.length_drop, List.length_take]; rfl)) ?_; (with_reducible refine (vinculumref04_Is.calls k a0 true _ A9.out).mono ?_); rintro e w' ⟨rfl, ⟨nd, rfl⟩⟩; refine ⟨_, rfl, ?_⟩) | ((with_reducible refine gate_callee (f := 23) rfl ?_); refine goesL_ (some 52) rfl rfl Tryd.func23 (by kernel_rfl) rfl #[.int .u64 a0, .int .i64 a1] rfl (by (try simp only [List.map_toArray, List.map_cons, List.map_nil]); first | done | rfl | (simp only [List.length_drop, List.length_take]; rfl)) ?_; (with_reducible refine (vinculumref04_Root.calls k a0 a1 t215 t216 _ A11.out).mono ?_); rintro e w' ⟨rfl, ⟨nd, rfl⟩⟩; refine ⟨_, rfl, ?_⟩))
  (try simp only [Act.put, List.setIfInBounds_toArray, List.set_cons_zero, List.set_cons_succ])
  go_cut [62] (fun v62 wc => ∃ (kq : Nat) (x62_11 : Bool), v62 = .bool x62_11 ∧ Aside0 (vinculumlaw04_PrimeRoots.j0 kq a0 a2 t211 t212 x62_11 = some r) ∧ Aside0 (kq ≤ k) ∧ Aside0 (Below w.heap.size w wc))
  case first =>
   have H := HC12.out
   clear HC12
   by_cases c15 : t209 = t215
   ·rw [if_pos c15] at H
    have c15b0 : (t209 == t215) = true := beq_iff_eq.mpr c15
    have c15b1 : (t209 != t215) = false := bne_eq_false_iff_eq.mpr c15
    clear c15
    (first | rw [c15b0] | (simp only [i64_w, i32_w]; rw [c15b0]) | skip)
    have H' := Aside0.mk H
    clear H
    go_wp2
    go_meet
    case rel => exact ⟨_, ((t210 != t216)), (by first | rfl | (simp; done) | (simp [*]; done)), H', ⟨by first | omega | exact Nat.le_refl _⟩, ⟨by repeat (first | (with_reducible first | exact HB.out | apply below_alloc | apply pw_below_drewN | apply below_drew1) | exact HB.out)⟩⟩
   rw [if_neg c15] at H
   have c15b0 : (t209 == t215) = false := beq_eq_false_iff_ne.mpr c15
   have c15b1 : (t209 != t215) = true := bne_iff_ne.mpr c15
   (first | rw [c15b0] | (simp only [i64_w, i32_w]; rw [c15b0]) | skip)
   have H' := Aside0.mk H
   clear H
   go_wp2
   go_meet
   case rel => exact ⟨_, (true), (by first | rfl | (simp; done) | (simp [*]; done)), H', ⟨by first | omega | exact Nat.le_refl _⟩, ⟨by repeat (first | (with_reducible first | exact HB.out | apply below_alloc | apply pw_below_drewN | apply below_drew1) | exact HB.out)⟩⟩
  case rest =>
   clear HC12
   try clear c1
   try clear c2
   try clear p2
   try clear c4
   try clear c4b0
   try clear c10
   try clear c12
   try clear c15
   try clear c15b0
   try clear c15b1
   obtain ⟨kq, x62_11, rfl, HA, HJ11, HB⟩ := hcut
   cases kq with
   | zero => exact absurd HA.out (by simp [vinculumlaw04_PrimeRoots.j0])
   | succ kj11 =>
    have H := HA.out
    clear HA
    simp only [vinculumlaw04_PrimeRoots.j0] at H
    by_cases c16 : x62_11 = true
    ·subst c16
     have H1 : (none) = some r := by rw [if_pos rfl] at H; exact H
     clear H
     have H := H1
     clear H1
     exact absurd H (by simp)
    replace c16 := Bool.eq_false_iff.mpr c16
    subst c16
    have H1 : (if a0 = 0 then (none) else (if (Int.tmod a2 a0) = 0 then (if t212 = 1 then (if t211 = 0 then ((vinculumlaw04_awake.f kj11).bind fun t217 => (some t217)) else (none)) else (none)) else ((vinculumref04_Order.f kj11 a0 a2).bind fun t218 => (if t218 < 0 then (if t212 = 19 then (if t211 = 0 then ((vinculumlaw04_awake.f kj11).bind fun t219 => (some t219)) else (none)) else (none)) else (if t212 = 0 then (if t211 = t218 then ((vinculumlaw04_awake.f kj11).bind fun t220 => (some t220)) else (none)) else (none)))))) = some r := by rw [if_neg (show ¬ (false = true) by decide)] at H; exact H
    clear H
    have H := H1
    clear H1
    by_cases c17 : a0 = 0
    ·rw [if_pos c17] at H
     exact absurd H (by simp)
    rw [if_neg c17] at H
    have c17b0 : (a0 == 0) = false := beq_eq_false_iff_ne.mpr c17
    have c17b1 : (a0 != 0) = true := bne_iff_ne.mpr c17
    by_cases c18 : (Int.tmod a2 a0) = 0
    ·rw [if_pos c18] at H
     have c18b0 : ((Int.tmod a2 a0) == 0) = true := beq_iff_eq.mpr c18
     have c18b1 : ((Int.tmod a2 a0) != 0) = false := bne_eq_false_iff_eq.mpr c18
     clear c18
     by_cases c19 : t212 = 1
     ·rw [if_pos c19] at H
      have c19b0 : (t212 == 1) = true := beq_iff_eq.mpr c19
      have c19b1 : (t212 != 1) = false := bne_eq_false_iff_eq.mpr c19
      clear c19
      by_cases c20 : t211 = 0
      ·rw [if_pos c20] at H
       have c20b0 : (t211 == 0) = true := beq_iff_eq.mpr c20
       have c20b1 : (t211 != 0) = false := bne_eq_false_iff_eq.mpr c20
       clear c20
       replace H := Option.bind_eq_some_iff.mp H
       obtain ⟨t217, A210, H⟩ := H
       replace H : (some t217) = some r := H
       have A21 := Aside0.mk A210
       clear A210
       obtain rfl := Option.some.inj H
       go_wp2_with (first | (go_at_call 12; (with_reducible refine (vinculumlaw04_awake.calls kj11  t217 _ (by first | exact HT_.out | (refine tab_below HT_.out ?_; repeat (first | (with_reducible first | exact HB.out | apply below_alloc | apply pw_below_drewN | apply below_drew1) | exact HB.out)) | (repeat (first | exact HT_.out | apply tab_drewN | apply tab_drew))) A21.out).mono ?_); rintro e w22 ⟨rfl, hb⟩; have n0_ := Aside0.mk (below_step (by repeat (first | (with_reducible first | exact HB.out | apply below_alloc | apply pw_below_drewN | apply below_drew1) | exact HB.out)) hb); clear HB; have HB := n0_; clear n0_; (try clear hb); (try clear hb2); (try clear hk); (try clear hi)))
       go_ret
       exact ⟨by first | rfl | (simp [errW_none, errW_some] <;> rfl) | (simp [*, errW_none, errW_some] <;> rfl), by repeat (first | (with_reducible first | exact HB.out | apply below_alloc | apply pw_below_drewN | apply below_drew1) | exact HB.out)⟩
      rw [if_neg c20] at H
      exact absurd H (by simp)
     rw [if_neg c19] at H
     exact absurd H (by simp)
    rw [if_neg c18] at H
    have c18b0 : ((Int.tmod a2 a0) == 0) = false := beq_eq_false_iff_ne.mpr c18
    have c18b1 : ((Int.tmod a2 a0) != 0) = true := bne_iff_ne.mpr c18
    replace H := Option.bind_eq_some_iff.mp H
    obtain ⟨t218, A230, H⟩ := H
    replace H : (if t218 < 0 then (if t212 = 19 then (if t211 = 0 then ((vinculumlaw04_awake.f kj11).bind fun t219 => (some t219)) else (none)) else (none)) else (if t212 = 0 then (if t211 = t218 then ((vinculumlaw04_awake.f kj11).bind fun t220 => (some t220)) else (none)) else (none))) = some r := H
    have A23 := Aside0.mk A230
    clear A230
    by_cases c24 : t218 < 0
    ·rw [if_pos c24] at H
     have c24b0 : decide (t218 < 0) = true := decide_eq_true c24
     clear c24
     by_cases c25 : t212 = 19
     ·rw [if_pos c25] at H
      have c25b0 : (t212 == 19) = true := beq_iff_eq.mpr c25
      have c25b1 : (t212 != 19) = false := bne_eq_false_iff_eq.mpr c25
      clear c25
      by_cases c26 : t211 = 0
      ·rw [if_pos c26] at H
       have c26b0 : (t211 == 0) = true := beq_iff_eq.mpr c26
       have c26b1 : (t211 != 0) = false := bne_eq_false_iff_eq.mpr c26
       clear c26
       replace H := Option.bind_eq_some_iff.mp H
       obtain ⟨t219, A270, H⟩ := H
       replace H : (some t219) = some r := H
       have A27 := Aside0.mk A270
       clear A270
       obtain rfl := Option.some.inj H
       go_wp2_with (first | ((with_reducible refine gate_callee (f := 24) rfl ?_); refine goesL_ (some 78) rfl rfl Tryd.func24 (by kernel_rfl) rfl #[.int .u64 a0, .int .u64 a2] rfl (by (try simp only [List.map_toArray, List.map_cons, List.map_nil]); first | done | rfl | (simp only [List.length_drop, List.length_take]; rfl)) ?_; (with_reducible refine (vinculumref04_Order.calls kj11 a0 a2 t218 _ A23.out).mono ?_); rintro e w' ⟨rfl, ⟨nd, rfl⟩⟩; refine ⟨_, rfl, ?_⟩) | (go_at_call 12; (with_reducible refine (vinculumlaw04_awake.calls kj11  t219 _ (by first | exact HT_.out | (refine tab_below HT_.out ?_; repeat (first | (with_reducible first | exact HB.out | apply below_alloc | apply pw_below_drewN | apply below_drew1) | exact HB.out)) | (repeat (first | exact HT_.out | apply tab_drewN | apply tab_drew))) A27.out).mono ?_); rintro e w28 ⟨rfl, hb⟩; have n0_ := Aside0.mk (below_step (by repeat (first | (with_reducible first | exact HB.out | apply below_alloc | apply pw_below_drewN | apply below_drew1) | exact HB.out)) hb); clear HB; have HB := n0_; clear n0_; (try clear hb); (try clear hb2); (try clear hk); (try clear hi)))
       go_ret
       exact ⟨by first | rfl | (simp [errW_none, errW_some] <;> rfl) | (simp [*, errW_none, errW_some] <;> rfl), by repeat (first | (with_reducible first | exact HB.out | apply below_alloc | apply pw_below_drewN | apply below_drew1) | exact HB.out)⟩
      rw [if_neg c26] at H
      exact absurd H (by simp)
     rw [if_neg c25] at H
     exact absurd H (by simp)
    rw [if_neg c24] at H
    have c24b0 : decide (t218 < 0) = false := decide_eq_false c24
    clear c24
    by_cases c29 : t212 = 0
    ·rw [if_pos c29] at H
     have c29b0 : (t212 == 0) = true := beq_iff_eq.mpr c29
     have c29b1 : (t212 != 0) = false := bne_eq_false_iff_eq.mpr c29
     clear c29
     by_cases c30 : t211 = t218
     ·rw [if_pos c30] at H
      have c30b0 : (t211 == t218) = true := beq_iff_eq.mpr c30
      have c30b1 : (t211 != t218) = false := bne_eq_false_iff_eq.mpr c30
      clear c30
      replace H := Option.bind_eq_some_iff.mp H
      obtain ⟨t220, A310, H⟩ := H
      replace H : (some t220) = some r := H
      have A31 := Aside0.mk A310
      clear A310
      obtain rfl := Option.some.inj H
      go_wp2_with (first | ((with_reducible refine gate_callee (f := 24) rfl ?_); refine goesL_ (some 78) rfl rfl Tryd.func24 (by kernel_rfl) rfl #[.int .u64 a0, .int .u64 a2] rfl (by (try simp only [List.map_toArray, List.map_cons, List.map_nil]); first | done | rfl | (simp only [List.length_drop, List.length_take]; rfl)) ?_; (with_reducible refine (vinculumref04_Order.calls kj11 a0 a2 t218 _ A23.out).mono ?_); rintro e w' ⟨rfl, ⟨nd, rfl⟩⟩; refine ⟨_, rfl, ?_⟩) | (go_at_call 12; (with_reducible refine (vinculumlaw04_awake.calls kj11  t220 _ (by first | exact HT_.out | (refine tab_below HT_.out ?_; repeat (first | (with_reducible first | exact HB.out | apply below_alloc | apply pw_below_drewN | apply below_drew1) | exact HB.out)) | (repeat (first | exact HT_.out | apply tab_drewN | apply tab_drew))) A31.out).mono ?_); rintro e w32 ⟨rfl, hb⟩; have n0_ := Aside0.mk (below_step (by repeat (first | (with_reducible first | exact HB.out | apply below_alloc | apply pw_below_drewN | apply below_drew1) | exact HB.out)) hb); clear HB; have HB := n0_; clear n0_; (try clear hb); (try clear hb2); (try clear hk); (try clear hi)))
      go_ret
      exact ⟨by first | rfl | (simp [errW_none, errW_some] <;> rfl) | (simp [*, errW_none, errW_some] <;> rfl), by repeat (first | (with_reducible first | exact HB.out | apply below_alloc | apply pw_below_drewN | apply below_drew1) | exact HB.out)⟩
     rw [if_neg c30] at H
     exact absurd H (by simp)
    rw [if_neg c29] at H
    exact absurd H (by simp)
 replace c10 := Bool.eq_false_iff.mpr c10
 subst c10
 have H1 : (if t210 = 14 then (if t209 = 0 then (if t212 = 14 then (if t211 = 0 then ((vinculumlaw04_awake.f k).bind fun t214 => (some t214)) else (none)) else (none)) else (none)) else (none)) = some r := by rw [if_neg (show ¬ (false = true) by decide)] at H; exact H
 clear H
 have H := H1
 clear H1
 by_cases c33 : t210 = 14
 ·rw [if_pos c33] at H
  have c33b0 : (t210 == 14) = true := beq_iff_eq.mpr c33
  have c33b1 : (t210 != 14) = false := bne_eq_false_iff_eq.mpr c33
  clear c33
  by_cases c34 : t209 = 0
  ·rw [if_pos c34] at H
   have c34b0 : (t209 == 0) = true := beq_iff_eq.mpr c34
   have c34b1 : (t209 != 0) = false := bne_eq_false_iff_eq.mpr c34
   clear c34
   by_cases c35 : t212 = 14
   ·rw [if_pos c35] at H
    have c35b0 : (t212 == 14) = true := beq_iff_eq.mpr c35
    have c35b1 : (t212 != 14) = false := bne_eq_false_iff_eq.mpr c35
    clear c35
    by_cases c36 : t211 = 0
    ·rw [if_pos c36] at H
     have c36b0 : (t211 == 0) = true := beq_iff_eq.mpr c36
     have c36b1 : (t211 != 0) = false := bne_eq_false_iff_eq.mpr c36
     clear c36
     replace H := Option.bind_eq_some_iff.mp H
     obtain ⟨t214, A370, H⟩ := H
     replace H : (some t214) = some r := H
     have A37 := Aside0.mk A370
     clear A370
     obtain rfl := Option.some.inj H
     go_enter Tryd.func10, Tryd.ntmps10
     go_wp2_with (first | ((with_reducible refine gate_callee (f := 21) rfl ?_); refine goesL_ (some 20) rfl rfl Tryd.func21 (by kernel_rfl) rfl #[.int .u64 a0, .int .i64 a1] rfl (by (try simp only [List.map_toArray, List.map_cons, List.map_nil]); first | done | rfl | (simp only [List.length_drop, List.length_take]; rfl)) ?_; (with_reducible refine (prime_Root.calls k a0 a1 t209 t210 _ (by first | exact HT_.out | (refine tab_below HT_.out ?_; repeat (first | (with_reducible first | exact HB.out | apply below_alloc | apply pw_below_drewN | apply below_drew1) | exact HB.out)) | (repeat (first | exact HT_.out | apply tab_drewN | apply tab_drew))) A7.out).mono ?_); rintro e w38 ⟨rfl, hb⟩; refine ⟨_, rfl, ?_⟩; have n0_ := Aside0.mk (below_step (by repeat (first | (with_reducible first | exact HB.out | apply below_alloc | apply pw_below_drewN | apply below_drew1) | exact HB.out)) hb); clear HB; have HB := n0_; clear n0_; (try clear hb); (try clear hb2); (try clear hk); (try clear hi)) | ((with_reducible refine gate_callee (f := 22) rfl ?_); refine goesL_ (some 26) rfl rfl Tryd.func22 (by kernel_rfl) rfl #[.int .u64 a0, .int .u64 a2] rfl (by (try simp only [List.map_toArray, List.map_cons, List.map_nil]); first | done | rfl | (simp only [List.length_drop, List.length_take]; rfl)) ?_; (with_reducible refine (prime_Order.calls k a0 a2 t211 t212 _ (by first | exact HT_.out | (refine tab_below HT_.out ?_; repeat (first | (with_reducible first | exact HB.out | apply below_alloc | apply pw_below_drewN | apply below_drew1) | exact HB.out)) | (repeat (first | exact HT_.out | apply tab_drewN | apply tab_drew))) A8.out).mono ?_); rintro e w39 ⟨rfl, hb⟩; refine ⟨_, rfl, ?_⟩; have n0_ := Aside0.mk (below_step (by repeat (first | (with_reducible first | exact HB.out | apply below_alloc | apply pw_below_drewN | apply below_drew1) | exact HB.out)) hb); clear HB; have HB := n0_; clear n0_; (try clear hb); (try clear hb2); (try clear hk); (try clear hi)) | ((with_reducible refine gate_callee (f := 15) rfl ?_); refine goesL_ (some 30) rfl rfl Tryd.func15 (by kernel_rfl) rfl #[.int .u64 a0] rfl (by (try simp only [List.map_toArray, List.map_cons, List.map_nil]); first | done | rfl | (simp only [List.length_drop, List.length_take]; rfl)) ?_; (with_reducible refine (vinculumref04_Is.calls k a0 false _ A9.out).mono ?_); rintro e w' ⟨rfl, ⟨nd, rfl⟩⟩; refine ⟨_, rfl, ?_⟩) | (go_at_call 12; (with_reducible refine (vinculumlaw04_awake.calls k  t214 _ (by first | exact HT_.out | (refine tab_below HT_.out ?_; repeat (first | (with_reducible first | exact HB.out | apply below_alloc | apply pw_below_drewN | apply below_drew1) | exact HB.out)) | (repeat (first | exact HT_.out | apply tab_drewN | apply tab_drew))) A37.out).mono ?_); rintro e w40 ⟨rfl, hb⟩; have n0_ := Aside0.mk (below_step (by repeat (first | (with_reducible first | exact HB.out | apply below_alloc | apply pw_below_drewN | apply below_drew1) | exact HB.out)) hb); clear HB; have HB := n0_; clear n0_; (try clear hb); (try clear hb2); (try clear hk); (try clear hi)))
     go_ret
     exact ⟨by first | rfl | (simp [errW_none, errW_some] <;> rfl) | (simp [*, errW_none, errW_some] <;> rfl), by repeat (first | (with_reducible first | exact HB.out | apply below_alloc | apply pw_below_drewN | apply below_drew1) | exact HB.out)⟩
    rw [if_neg c36] at H
    exact absurd H (by simp)
   rw [if_neg c35] at H
   exact absurd H (by simp)
  rw [if_neg c34] at H
  exact absurd H (by simp)
 rw [if_neg c33] at H
 exact absurd H (by simp)

/-- THE ONE PURE STATEMENT of vinculumlaw04_PrimeRoots: yours. -/
def vinculumlaw04_PrimeRoots.Pure : Prop := ∀ (a0 : Int) (a1 : Int) (a2 : Int), (Lit.int .u64 a0).wf = true → (Lit.int .i64 a1).wf = true → (Lit.int .u64 a2).wf = true → ∃ k, vinculumlaw04_PrimeRoots.f k a0 a1 a2 = some true
theorem vinculumlaw04_PrimeRoots.walk (P : vinculumlaw04_PrimeRoots.Pure) (a0 : Int) (a1 : Int) (a2 : Int) (w : World) (w0 : (Lit.int .u64 a0).wf = true) (w1 : (Lit.int .i64 a1).wf = true) (w2 : (Lit.int .u64 a2).wf = true) (hT_ : TabAt 0 Lib.deBruijn64tab w) :
  Calls Tryd.prog 10 #[.int .u64 a0, .int .i64 a1, .int .u64 a2] w fun e w' => e = .returned (.bool true) ∧ Below w.heap.size w w' := by
 have HT_ := Aside0.mk hT_
 clear hT_
 obtain ⟨k, h⟩ := P a0 a1 a2 w0 w1 w2
 refine (vinculumlaw04_PrimeRoots.calls k a0 a1 a2 true w (by first | exact HT_.out | (refine tab_below HT_.out ?_; repeat (first | (with_reducible first | exact HB.out | apply below_alloc | apply pw_below_drewN | apply below_drew1) | exact HB.out)) | (repeat (first | exact HT_.out | apply tab_drewN | apply tab_drew))) h).mono ?_
 rintro e w' ⟨rfl, hd⟩
 exact ⟨rfl, hd⟩

end Go.Proofs.YtnlklfhgdefbaaaDoor.GN
-- thin

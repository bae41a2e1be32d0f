-- Written by wip/tools/myprint.py (this session's program, over the kit's print.py).
import Derived.Test.YtnlklfhgdefbaaaDoorGNx0
import Derived.Test.YtnlklfhgdefbaaaDoorGNx2
import Derived.Test.YtnlklfhgdefbaaaDoorGNx3
import Derived.Test.YtnlklfhgdefbaaaDoorGNx4
namespace Go.Proofs.YtnlklfhgdefbaaaDoor.GN
open Go.RowKit Go.Proofs.YtnlklfhgdefbaaaDoorW.PrintWords Go.Proofs.YtnlklfhgdefbaaaDoorW.PrintLast Go.Proofs.YtnlklfhgdefbaaaDoorW.PrintMore
attribute [local go_sem] max2_int min2_int max_two min_two max_three min_three max_four min_four   -- for this text's walks alone
set_option linter.unusedVariables false
set_option linter.unusedSimpArgs false

/-! ### vinculumlaw04_PrimeProth: function 5 -/
mutual
def vinculumlaw04_PrimeProth.j0 : Nat → Int → Int → Int → Bool → Option (Bool)
 | 0, _, _, _, _ => none
 | k + 1, x0, x1, x2, x29 => if x29 = true then ((vinculumlaw04_awake.f k).bind fun t176 => (some t176)) else ((vinculumref03_Pow.f k 2 (IntKind.u64.wrap (x1)) 4611686018427387904).bind fun t177 => (if (IntKind.u64.wrap ((IntKind.u64.wrap (x0 * t177)) + 1)) = 0 then (none) else (if (Int.tmod x2 (IntKind.u64.wrap ((IntKind.u64.wrap (x0 * t177)) + 1))) = 0 then (vinculumlaw04_PrimeProth.j1 k (IntKind.u64.wrap ((IntKind.u64.wrap (x0 * t177)) + 1)) true) else ((vinculumref03_Pow.f k x2 (IntKind.u64.wrap (Int.tdiv (IntKind.u64.wrap ((IntKind.u64.wrap ((IntKind.u64.wrap (x0 * t177)) + 1)) - 1)) 2)) (IntKind.u64.wrap ((IntKind.u64.wrap (x0 * t177)) + 1))).bind fun t178 => (vinculumlaw04_PrimeProth.j1 k (IntKind.u64.wrap ((IntKind.u64.wrap (x0 * t177)) + 1)) (t178 != (IntKind.u64.wrap ((IntKind.u64.wrap ((IntKind.u64.wrap (x0 * t177)) + 1)) - 1))))))))
def vinculumlaw04_PrimeProth.j1 : Nat → Int → Bool → Option (Bool)
 | 0, _, _ => none
 | k + 1, x7, x51 => if x51 = true then ((vinculumlaw04_awake.f k).bind fun t179 => (some t179)) else ((prime_Is.f k x7).bind fun t180 => (if t180 = true then ((vinculumlaw04_awake.f k).bind fun t181 => (some t181)) else (none)))
end
def vinculumlaw04_PrimeProth.f (k : Nat) (a0 : Int) (a1 : Int) (a2 : Int) : Option (Bool) := if a1 < 1 then (vinculumlaw04_PrimeProth.j0 k a0 a1 a2 true) else (if a1 > 40 then (vinculumlaw04_PrimeProth.j0 k a0 a1 a2 true) else (if (Int.tmod a0 2) = 0 then (vinculumlaw04_PrimeProth.j0 k a0 a1 a2 true) else ((vinculumref03_Pow.f k 2 (IntKind.u64.wrap (a1)) 4611686018427387904).bind fun t175 => (if a0 ≥ t175 then (vinculumlaw04_PrimeProth.j0 k a0 a1 a2 true) else (vinculumlaw04_PrimeProth.j0 k a0 a1 a2 (decide (a0 ≥ 4194304)))))))
theorem vinculumlaw04_PrimeProth.mono_l : ∀ k, (∀ y0 y1 y2 y3, LeO (vinculumlaw04_PrimeProth.j0 k y0 y1 y2 y3) (vinculumlaw04_PrimeProth.j0 (k + 1) y0 y1 y2 y3)) ∧ (∀ y0 y1, LeO (vinculumlaw04_PrimeProth.j1 k y0 y1) (vinculumlaw04_PrimeProth.j1 (k + 1) y0 y1))
 | 0 => ⟨fun _ _ _ _ r h => by simp [vinculumlaw04_PrimeProth.j0] at h, fun _ _ r h => by simp [vinculumlaw04_PrimeProth.j1] at h⟩
 | k + 1 => by
  obtain ⟨ih0, ih1⟩ := vinculumlaw04_PrimeProth.mono_l k
  refine ⟨?_, ?_⟩
  ·intro y0 y1 y2 y3
   unfold vinculumlaw04_PrimeProth.j0
   repeat' first
   | (with_reducible exact ih0 _ _ _ _)
   | (with_reducible exact ih1 _ _)
   | (with_reducible exact prime_Is.mono _ _)
   | (with_reducible exact vinculumlaw04_awake.mono _)
   | (with_reducible exact vinculumref03_Pow.mono _ _ _ _)
   | (with_reducible exact LeO.refl _)
   | (with_reducible exact LeO.none _)
   | (with_reducible refine LeO.ite ?_ ?_)
   | (with_reducible refine LeO.bind ?_ (fun _ => ?_))
   | exact ih0 _ _ _ _
   | exact ih1 _ _
   | exact prime_Is.mono _ _
   | exact vinculumlaw04_awake.mono _
   | exact vinculumref03_Pow.mono _ _ _ _
   | exact LeO.none _
   | refine LeO.ite ?_ ?_
   | refine LeO.bind ?_ (fun _ => ?_)
  intro y0 y1
  unfold vinculumlaw04_PrimeProth.j1
  repeat' first
  | (with_reducible exact ih0 _ _ _ _)
  | (with_reducible exact ih1 _ _)
  | (with_reducible exact prime_Is.mono _ _)
  | (with_reducible exact vinculumlaw04_awake.mono _)
  | (with_reducible exact vinculumref03_Pow.mono _ _ _ _)
  | (with_reducible exact LeO.refl _)
  | (with_reducible exact LeO.none _)
  | (with_reducible refine LeO.ite ?_ ?_)
  | (with_reducible refine LeO.bind ?_ (fun _ => ?_))
  | exact ih0 _ _ _ _
  | exact ih1 _ _
  | exact prime_Is.mono _ _
  | exact vinculumlaw04_awake.mono _
  | exact vinculumref03_Pow.mono _ _ _ _
  | exact LeO.none _
  | refine LeO.ite ?_ ?_
  | refine LeO.bind ?_ (fun _ => ?_)
theorem vinculumlaw04_PrimeProth.mono : ∀ a0 a1 a2 k, LeO (vinculumlaw04_PrimeProth.f k a0 a1 a2) (vinculumlaw04_PrimeProth.f (k + 1) a0 a1 a2) := by
 intro a0 a1 a2 k
 obtain ⟨ih0, ih1⟩ := vinculumlaw04_PrimeProth.mono_l k
 unfold vinculumlaw04_PrimeProth.f
 repeat' first
   | (with_reducible exact ih0 _ _ _ _)
   | (with_reducible exact ih1 _ _)
   | (with_reducible exact prime_Is.mono _ _)
   | (with_reducible exact vinculumlaw04_awake.mono _)
   | (with_reducible exact vinculumref03_Pow.mono _ _ _ _)
   | (with_reducible exact LeO.refl _)
   | (with_reducible exact LeO.none _)
   | (with_reducible refine LeO.ite ?_ ?_)
   | (with_reducible refine LeO.bind ?_ (fun _ => ?_))
   | exact ih0 _ _ _ _
   | exact ih1 _ _
   | exact prime_Is.mono _ _
   | exact vinculumlaw04_awake.mono _
   | exact vinculumref03_Pow.mono _ _ _ _
   | exact LeO.none _
   | refine LeO.ite ?_ ?_
   | refine LeO.bind ?_ (fun _ => ?_)
set_option maxHeartbeats 8000000 in
set_option maxRecDepth 100000 in
theorem vinculumlaw04_PrimeProth.calls (k : Nat) (a0 : Int) (a1 : Int) (a2 : Int) (r : Bool) (w : World) (hT_ : TabAt 0 Lib.deBruijn64tab w) (h : vinculumlaw04_PrimeProth.f k a0 a1 a2 = some r) :
  Calls Tryd.prog 5 #[.int .u64 a0, .int .i64 a1, .int .u64 a2] w fun e w' => e = .returned (.bool r) ∧ Below w.heap.size w w' := by
 have HT_ := Aside0.mk hT_
 clear hT_
 have HB := Aside0.mk (Below.refl w.heap.size w)
 have H : (if a1 < 1 then (vinculumlaw04_PrimeProth.j0 k a0 a1 a2 true) else (if a1 > 40 then (vinculumlaw04_PrimeProth.j0 k a0 a1 a2 true) else (if (Int.tmod a0 2) = 0 then (vinculumlaw04_PrimeProth.j0 k a0 a1 a2 true) else ((vinculumref03_Pow.f k 2 (IntKind.u64.wrap (a1)) 4611686018427387904).bind fun t175 => (if a0 ≥ t175 then (vinculumlaw04_PrimeProth.j0 k a0 a1 a2 true) else (vinculumlaw04_PrimeProth.j0 k a0 a1 a2 (decide (a0 ≥ 4194304)))))))) = some r := h
 clear h
 have HC4 := Aside0.mk H
 clear H
 go_enter Tryd.func5, Tryd.ntmps5
 go_upto_region 1 with (fail)
 go_cut [29] (fun v29 wc => ∃ (kq : Nat) (x29_3 : Bool), v29 = .bool x29_3 ∧ Aside0 (vinculumlaw04_PrimeProth.j0 kq a0 a1 a2 x29_3 = some r) ∧ Aside0 (kq ≤ k) ∧ Aside0 (Below w.heap.size w wc))
 case first =>
  have H := HC4.out
  clear HC4
  by_cases c5 : a1 < 1
  ·rw [if_pos c5] at H
   have c5b0 : decide (a1 < 1) = true := decide_eq_true c5
   clear c5
   (first | rw [c5b0] | (simp only [i64_w, i32_w]; rw [c5b0]) | skip)
   have H' := Aside0.mk H
   clear H
   go_wp2
   go_meet
   case rel => exact ⟨_, (true), (by first | rfl | (simp; done) | (simp [*]; done)), H', ⟨by first | omega | exact Nat.le_refl _⟩, ⟨by repeat (first | (with_reducible first | exact HB.out | apply below_alloc | apply pw_below_drewN | apply below_drew1) | exact HB.out)⟩⟩
  rw [if_neg c5] at H
  have c5b0 : decide (a1 < 1) = false := decide_eq_false c5
  clear c5
  (first | rw [c5b0] | (simp only [i64_w, i32_w]; rw [c5b0]) | skip)
  by_cases c6 : a1 > 40
  ·rw [if_pos c6] at H
   have c6b0 : decide (40 < a1) = true := decide_eq_true c6
   clear c6
   have H' := Aside0.mk H
   clear H
   go_wp2
   go_meet
   case rel => exact ⟨_, (true), (by first | rfl | (simp; done) | (simp [*]; done)), H', ⟨by first | omega | exact Nat.le_refl _⟩, ⟨by repeat (first | (with_reducible first | exact HB.out | apply below_alloc | apply pw_below_drewN | apply below_drew1) | exact HB.out)⟩⟩
  rw [if_neg c6] at H
  have c6b0 : decide (40 < a1) = false := decide_eq_false c6
  clear c6
  by_cases c7 : (Int.tmod a0 2) = 0
  ·rw [if_pos c7] at H
   have c7b0 : ((Int.tmod a0 2) == 0) = true := beq_iff_eq.mpr c7
   have c7b1 : ((Int.tmod a0 2) != 0) = false := bne_eq_false_iff_eq.mpr c7
   clear c7
   have H' := Aside0.mk H
   clear H
   go_wp2
   go_meet
   case rel => exact ⟨_, (true), (by first | rfl | (simp; done) | (simp [*]; done)), H', ⟨by first | omega | exact Nat.le_refl _⟩, ⟨by repeat (first | (with_reducible first | exact HB.out | apply below_alloc | apply pw_below_drewN | apply below_drew1) | exact HB.out)⟩⟩
  rw [if_neg c7] at H
  have c7b0 : ((Int.tmod a0 2) == 0) = false := beq_eq_false_iff_ne.mpr c7
  have c7b1 : ((Int.tmod a0 2) != 0) = true := bne_iff_ne.mpr c7
  replace H := Option.bind_eq_some_iff.mp H
  obtain ⟨t175, A80, H⟩ := H
  replace H : (if a0 ≥ t175 then (vinculumlaw04_PrimeProth.j0 k a0 a1 a2 true) else (vinculumlaw04_PrimeProth.j0 k a0 a1 a2 (decide (a0 ≥ 4194304)))) = some r := H
  have A8 := Aside0.mk A80
  clear A80
  by_cases c9 : a0 ≥ t175
  ·rw [if_pos c9] at H
   have c9b0 : decide (t175 ≤ a0) = true := decide_eq_true c9
   clear c9
   have H' := Aside0.mk H
   clear H
   go_wp2_with (first | (go_at_call 17; (with_reducible refine (vinculumref03_Pow.calls k 2 (IntKind.u64.wrap (a1)) 4611686018427387904 t175 _ A8.out).mono ?_); rintro e w' ⟨rfl, ⟨nd, rfl⟩⟩))
   go_meet
   case rel => exact ⟨_, (true), (by first | rfl | (simp; done) | (simp [*]; done)), H', ⟨by first | omega | exact Nat.le_refl _⟩, ⟨by repeat (first | (with_reducible first | exact HB.out | apply below_alloc | apply pw_below_drewN | apply below_drew1) | exact HB.out)⟩⟩
  rw [if_neg c9] at H
  have c9b0 : decide (t175 ≤ a0) = false := decide_eq_false c9
  clear c9
  have H' := Aside0.mk H
  clear H
  go_wp2_with (first | (go_at_call 17; (with_reducible refine (vinculumref03_Pow.calls k 2 (IntKind.u64.wrap (a1)) 4611686018427387904 t175 _ A8.out).mono ?_); rintro e w' ⟨rfl, ⟨nd, rfl⟩⟩))
  go_meet
  case rel => exact ⟨_, (decide (a0 ≥ 4194304)), (by first | rfl | (simp; done) | (simp [*]; done)), H', ⟨by first | omega | exact Nat.le_refl _⟩, ⟨by repeat (first | (with_reducible first | exact HB.out | apply below_alloc | apply pw_below_drewN | apply below_drew1) | exact HB.out)⟩⟩
 case rest =>
  clear HC4
  try clear p2
  try clear c5
  try clear c5b0
  try clear c6
  try clear c6b0
  try clear c7
  try clear c7b0
  try clear c7b1
  try clear c9
  try clear c9b0
  obtain ⟨kq, x29_3, rfl, HA, HJ3, HB⟩ := hcut
  cases kq with
  | zero => exact absurd HA.out (by simp [vinculumlaw04_PrimeProth.j0])
  | succ kj3 =>
   have H := HA.out
   clear HA
   simp only [vinculumlaw04_PrimeProth.j0] at H
   by_cases c10 : x29_3 = true
   ·subst c10
    have H1 : ((vinculumlaw04_awake.f kj3).bind fun t176 => (some t176)) = some r := by rw [if_pos rfl] at H; exact H
    clear H
    have H := H1
    clear H1
    replace H := Option.bind_eq_some_iff.mp H
    obtain ⟨t176, A110, H⟩ := H
    replace H : (some t176) = some r := H
    have A11 := Aside0.mk A110
    clear A110
    obtain rfl := Option.some.inj H
    go_wp2_with (first | ((with_reducible refine gate_callee (f := 12) rfl ?_); refine goesL_ (some 30) rfl rfl Tryd.func12 (by kernel_rfl) rfl #[] rfl (by (try simp only [List.map_toArray, List.map_cons, List.map_nil]); first | done | rfl | (simp only [List.length_drop, List.length_take]; rfl)) ?_; (with_reducible refine (vinculumlaw04_awake.calls kj3  t176 _ (by first | exact HT_.out | (refine tab_below HT_.out ?_; repeat (first | (with_reducible first | exact HB.out | apply below_alloc | apply pw_below_drewN | apply below_drew1) | exact HB.out)) | (repeat (first | exact HT_.out | apply tab_drewN | apply tab_drew))) A11.out).mono ?_); rintro e w12 ⟨rfl, hb⟩; refine ⟨_, rfl, ?_⟩; have n0_ := Aside0.mk (below_step (by repeat (first | (with_reducible first | exact HB.out | apply below_alloc | apply pw_below_drewN | apply below_drew1) | exact HB.out)) hb); clear HB; have HB := n0_; clear n0_; (try clear hb); (try clear hb2); (try clear hk); (try clear hi)))
    go_ret
    exact ⟨by first | rfl | (simp [errW_none, errW_some] <;> rfl) | (simp [*, errW_none, errW_some] <;> rfl), by repeat (first | (with_reducible first | exact HB.out | apply below_alloc | apply pw_below_drewN | apply below_drew1) | exact HB.out)⟩
   replace c10 := Bool.eq_false_iff.mpr c10
   subst c10
   have H1 : ((vinculumref03_Pow.f kj3 2 (IntKind.u64.wrap (a1)) 4611686018427387904).bind fun t177 => (if (IntKind.u64.wrap ((IntKind.u64.wrap (a0 * t177)) + 1)) = 0 then (none) else (if (Int.tmod a2 (IntKind.u64.wrap ((IntKind.u64.wrap (a0 * t177)) + 1))) = 0 then (vinculumlaw04_PrimeProth.j1 kj3 (IntKind.u64.wrap ((IntKind.u64.wrap (a0 * t177)) + 1)) true) else ((vinculumref03_Pow.f kj3 a2 (IntKind.u64.wrap (Int.tdiv (IntKind.u64.wrap ((IntKind.u64.wrap ((IntKind.u64.wrap (a0 * t177)) + 1)) - 1)) 2)) (IntKind.u64.wrap ((IntKind.u64.wrap (a0 * t177)) + 1))).bind fun t178 => (vinculumlaw04_PrimeProth.j1 kj3 (IntKind.u64.wrap ((IntKind.u64.wrap (a0 * t177)) + 1)) (t178 != (IntKind.u64.wrap ((IntKind.u64.wrap ((IntKind.u64.wrap (a0 * t177)) + 1)) - 1)))))))) = some r := by rw [if_neg (show ¬ (false = true) by decide)] at H; exact H
   clear H
   have H := H1
   clear H1
   replace H := Option.bind_eq_some_iff.mp H
   obtain ⟨t177, A130, H⟩ := H
   replace H : (if (IntKind.u64.wrap ((IntKind.u64.wrap (a0 * t177)) + 1)) = 0 then (none) else (if (Int.tmod a2 (IntKind.u64.wrap ((IntKind.u64.wrap (a0 * t177)) + 1))) = 0 then (vinculumlaw04_PrimeProth.j1 kj3 (IntKind.u64.wrap ((IntKind.u64.wrap (a0 * t177)) + 1)) true) else ((vinculumref03_Pow.f kj3 a2 (IntKind.u64.wrap (Int.tdiv (IntKind.u64.wrap ((IntKind.u64.wrap ((IntKind.u64.wrap (a0 * t177)) + 1)) - 1)) 2)) (IntKind.u64.wrap ((IntKind.u64.wrap (a0 * t177)) + 1))).bind fun t178 => (vinculumlaw04_PrimeProth.j1 kj3 (IntKind.u64.wrap ((IntKind.u64.wrap (a0 * t177)) + 1)) (t178 != (IntKind.u64.wrap ((IntKind.u64.wrap ((IntKind.u64.wrap (a0 * t177)) + 1)) - 1))))))) = some r := H
   have A13 := Aside0.mk A130
   clear A130
   have HC14 := Aside0.mk H
   clear H
   go_upto_region 4 with (first | ((with_reducible refine gate_callee (f := 17) rfl ?_); refine goesL_ (some 34) rfl rfl Tryd.func17 (by kernel_rfl) rfl #[.int .u64 2, .int .u64 (IntKind.u64.wrap (a1)), .int .u64 4611686018427387904] rfl (by (try simp only [List.map_toArray, List.map_cons, List.map_nil]); first | done | rfl | (simp only [List.length_drop, List.length_take]; rfl)) ?_; (with_reducible refine (vinculumref03_Pow.calls kj3 2 (IntKind.u64.wrap (a1)) 4611686018427387904 t177 _ A13.out).mono ?_); rintro e w' ⟨rfl, ⟨nd, rfl⟩⟩; refine ⟨_, rfl, ?_⟩))
   (try simp only [Act.put, List.setIfInBounds_toArray, List.set_cons_zero, List.set_cons_succ])
   go_cut [51] (fun v51 wc => ∃ (kq : Nat) (x51_13 : Bool), v51 = .bool x51_13 ∧ Aside0 (vinculumlaw04_PrimeProth.j1 kq (IntKind.u64.wrap ((IntKind.u64.wrap (a0 * t177)) + 1)) x51_13 = some r) ∧ Aside0 (kq ≤ kj3) ∧ Aside0 (Below w.heap.size w wc))
   case first =>
    have H := HC14.out
    clear HC14
    by_cases c15 : (IntKind.u64.wrap ((IntKind.u64.wrap (a0 * t177)) + 1)) = 0
    ·rw [if_pos c15] at H
     exact absurd H (by simp)
    rw [if_neg c15] at H
    have c15b0 : ((IntKind.u64.wrap ((IntKind.u64.wrap (a0 * t177)) + 1)) == 0) = false := beq_eq_false_iff_ne.mpr c15
    have c15b1 : ((IntKind.u64.wrap ((IntKind.u64.wrap (a0 * t177)) + 1)) != 0) = true := bne_iff_ne.mpr c15
    (first | rw [c15b0] | (simp only [i64_w, i32_w]; rw [c15b0]) | skip)
    by_cases c16 : (Int.tmod a2 (IntKind.u64.wrap ((IntKind.u64.wrap (a0 * t177)) + 1))) = 0
    ·rw [if_pos c16] at H
     have c16b0 : ((Int.tmod a2 (IntKind.u64.wrap ((IntKind.u64.wrap (a0 * t177)) + 1))) == 0) = true := beq_iff_eq.mpr c16
     have c16b1 : ((Int.tmod a2 (IntKind.u64.wrap ((IntKind.u64.wrap (a0 * t177)) + 1))) != 0) = false := bne_eq_false_iff_eq.mpr c16
     clear c16
     have H' := Aside0.mk H
     clear H
     go_wp2
     go_meet
     case rel => exact ⟨_, (true), (by first | rfl | (simp; done) | (simp [*]; done)), H', ⟨by have := HJ3.out; first | omega | exact Nat.le_refl _⟩, ⟨by repeat (first | (with_reducible first | exact HB.out | apply below_alloc | apply pw_below_drewN | apply below_drew1) | exact HB.out)⟩⟩
    rw [if_neg c16] at H
    have c16b0 : ((Int.tmod a2 (IntKind.u64.wrap ((IntKind.u64.wrap (a0 * t177)) + 1))) == 0) = false := beq_eq_false_iff_ne.mpr c16
    have c16b1 : ((Int.tmod a2 (IntKind.u64.wrap ((IntKind.u64.wrap (a0 * t177)) + 1))) != 0) = true := bne_iff_ne.mpr c16
    replace H := Option.bind_eq_some_iff.mp H
    obtain ⟨t178, A170, H⟩ := H
    replace H : (vinculumlaw04_PrimeProth.j1 kj3 (IntKind.u64.wrap ((IntKind.u64.wrap (a0 * t177)) + 1)) (t178 != (IntKind.u64.wrap ((IntKind.u64.wrap ((IntKind.u64.wrap (a0 * t177)) + 1)) - 1)))) = some r := H
    have A17 := Aside0.mk A170
    clear A170
    have H' := Aside0.mk H
    clear H
    go_wp2_with (first | (go_at_call 17; (with_reducible refine (vinculumref03_Pow.calls kj3 a2 (IntKind.u64.wrap (Int.tdiv (IntKind.u64.wrap ((IntKind.u64.wrap ((IntKind.u64.wrap (a0 * t177)) + 1)) - 1)) 2)) (IntKind.u64.wrap ((IntKind.u64.wrap (a0 * t177)) + 1)) t178 _ A17.out).mono ?_); rintro e w' ⟨rfl, ⟨nd, rfl⟩⟩))
    go_meet
    case rel => exact ⟨_, ((t178 != (IntKind.u64.wrap ((IntKind.u64.wrap ((IntKind.u64.wrap (a0 * t177)) + 1)) - 1)))), (by first | rfl | (simp; done) | (simp [*]; done)), H', ⟨by have := HJ3.out; first | omega | exact Nat.le_refl _⟩, ⟨by repeat (first | (with_reducible first | exact HB.out | apply below_alloc | apply pw_below_drewN | apply below_drew1) | exact HB.out)⟩⟩
   case rest =>
    clear HC14
    try clear c1
    try clear p2
    try clear c5
    try clear c5b0
    try clear c6
    try clear c6b0
    try clear c7
    try clear c7b0
    try clear c7b1
    try clear c9
    try clear c9b0
    try clear c10
    try clear c12
    try clear c15
    try clear c15b0
    try clear c15b1
    try clear c16
    try clear c16b0
    try clear c16b1
    try clear c17
    try clear p2
    obtain ⟨kq, x51_13, rfl, HA, HJ13, HB⟩ := hcut
    cases kq with
    | zero => exact absurd HA.out (by simp [vinculumlaw04_PrimeProth.j1])
    | succ kj13 =>
     have H := HA.out
     clear HA
     simp only [vinculumlaw04_PrimeProth.j1] at H
     by_cases c18 : x51_13 = true
     ·subst c18
      have H1 : ((vinculumlaw04_awake.f kj13).bind fun t179 => (some t179)) = some r := by rw [if_pos rfl] at H; exact H
      clear H
      have H := H1
      clear H1
      replace H := Option.bind_eq_some_iff.mp H
      obtain ⟨t179, A190, H⟩ := H
      replace H : (some t179) = some r := H
      have A19 := Aside0.mk A190
      clear A190
      obtain rfl := Option.some.inj H
      go_wp2_with (first | ((with_reducible refine gate_callee (f := 12) rfl ?_); refine goesL_ (some 52) rfl rfl Tryd.func12 (by kernel_rfl) rfl #[] rfl (by (try simp only [List.map_toArray, List.map_cons, List.map_nil]); first | done | rfl | (simp only [List.length_drop, List.length_take]; rfl)) ?_; (with_reducible refine (vinculumlaw04_awake.calls kj13  t179 _ (by first | exact HT_.out | (refine tab_below HT_.out ?_; repeat (first | (with_reducible first | exact HB.out | apply below_alloc | apply pw_below_drewN | apply below_drew1) | exact HB.out)) | (repeat (first | exact HT_.out | apply tab_drewN | apply tab_drew))) A19.out).mono ?_); rintro e w20 ⟨rfl, hb⟩; refine ⟨_, rfl, ?_⟩; have n0_ := Aside0.mk (below_step (by repeat (first | (with_reducible first | exact HB.out | apply below_alloc | apply pw_below_drewN | apply below_drew1) | exact HB.out)) hb); clear HB; have HB := n0_; clear n0_; (try clear hb); (try clear hb2); (try clear hk); (try clear hi)))
      go_ret
      exact ⟨by first | rfl | (simp [errW_none, errW_some] <;> rfl) | (simp [*, errW_none, errW_some] <;> rfl), by repeat (first | (with_reducible first | exact HB.out | apply below_alloc | apply pw_below_drewN | apply below_drew1) | exact HB.out)⟩
     replace c18 := Bool.eq_false_iff.mpr c18
     subst c18
     have H1 : ((prime_Is.f kj13 (IntKind.u64.wrap ((IntKind.u64.wrap (a0 * t177)) + 1))).bind fun t180 => (if t180 = true then ((vinculumlaw04_awake.f kj13).bind fun t181 => (some t181)) else (none))) = some r := by rw [if_neg (show ¬ (false = true) by decide)] at H; exact H
     clear H
     have H := H1
     clear H1
     replace H := Option.bind_eq_some_iff.mp H
     obtain ⟨t180, A210, H⟩ := H
     replace H : (if t180 = true then ((vinculumlaw04_awake.f kj13).bind fun t181 => (some t181)) else (none)) = some r := H
     have A21 := Aside0.mk A210
     clear A210
     by_cases c22 : t180 = true
     ·subst c22
      have H1 : ((vinculumlaw04_awake.f kj13).bind fun t181 => (some t181)) = some r := by rw [if_pos rfl] at H; exact H
      clear H
      have H := H1
      clear H1
      replace H := Option.bind_eq_some_iff.mp H
      obtain ⟨t181, A230, H⟩ := H
      replace H : (some t181) = some r := H
      have A23 := Aside0.mk A230
      clear A230
      obtain rfl := Option.some.inj H
      go_wp2_with (first | ((with_reducible refine gate_callee (f := 14) rfl ?_); refine goesL_ (some 54) rfl rfl Tryd.func14 (by kernel_rfl) rfl #[.int .u64 (IntKind.u64.wrap ((IntKind.u64.wrap (a0 * t177)) + 1))] rfl (by (try simp only [List.map_toArray, List.map_cons, List.map_nil]); first | done | rfl | (simp only [List.length_drop, List.length_take]; rfl)) ?_; (with_reducible refine (prime_Is.calls kj13 (IntKind.u64.wrap ((IntKind.u64.wrap (a0 * t177)) + 1)) true _ (by first | exact HT_.out | (refine tab_below HT_.out ?_; repeat (first | (with_reducible first | exact HB.out | apply below_alloc | apply pw_below_drewN | apply below_drew1) | exact HB.out)) | (repeat (first | exact HT_.out | apply tab_drewN | apply tab_drew))) A21.out).mono ?_); rintro e w24 ⟨rfl, hb⟩; refine ⟨_, rfl, ?_⟩; have n0_ := Aside0.mk (below_step (by repeat (first | (with_reducible first | exact HB.out | apply below_alloc | apply pw_below_drewN | apply below_drew1) | exact HB.out)) hb); clear HB; have HB := n0_; clear n0_; (try clear hb); (try clear hb2); (try clear hk); (try clear hi)) | (go_at_call 12; (with_reducible refine (vinculumlaw04_awake.calls kj13  t181 _ (by first | exact HT_.out | (refine tab_below HT_.out ?_; repeat (first | (with_reducible first | exact HB.out | apply below_alloc | apply pw_below_drewN | apply below_drew1) | exact HB.out)) | (repeat (first | exact HT_.out | apply tab_drewN | apply tab_drew))) A23.out).mono ?_); rintro e w25 ⟨rfl, hb⟩; have n0_ := Aside0.mk (below_step (by repeat (first | (with_reducible first | exact HB.out | apply below_alloc | apply pw_below_drewN | apply below_drew1) | exact HB.out)) hb); clear HB; have HB := n0_; clear n0_; (try clear hb); (try clear hb2); (try clear hk); (try clear hi)))
      go_ret
      exact ⟨by first | rfl | (simp [errW_none, errW_some] <;> rfl) | (simp [*, errW_none, errW_some] <;> rfl), by repeat (first | (with_reducible first | exact HB.out | apply below_alloc | apply pw_below_drewN | apply below_drew1) | exact HB.out)⟩
     replace c22 := Bool.eq_false_iff.mpr c22
     subst c22
     have H1 : (none) = some r := by rw [if_neg (show ¬ (false = true) by decide)] at H; exact H
     clear H
     have H := H1
     clear H1
     exact absurd H (by simp)

/-- THE ONE PURE STATEMENT of vinculumlaw04_PrimeProth: yours. -/
def vinculumlaw04_PrimeProth.Pure : Prop := ∀ (a0 : Int) (a1 : Int) (a2 : Int), (Lit.int .u64 a0).wf = true → (Lit.int .i64 a1).wf = true → (Lit.int .u64 a2).wf = true → ∃ k, vinculumlaw04_PrimeProth.f k a0 a1 a2 = some true
theorem vinculumlaw04_PrimeProth.walk (P : vinculumlaw04_PrimeProth.Pure) (a0 : Int) (a1 : Int) (a2 : Int) (w : World) (w0 : (Lit.int .u64 a0).wf = true) (w1 : (Lit.int .i64 a1).wf = true) (w2 : (Lit.int .u64 a2).wf = true) (hT_ : TabAt 0 Lib.deBruijn64tab w) :
  Calls Tryd.prog 5 #[.int .u64 a0, .int .i64 a1, .int .u64 a2] w fun e w' => e = .returned (.bool true) ∧ Below w.heap.size w w' := by
 have HT_ := Aside0.mk hT_
 clear hT_
 obtain ⟨k, h⟩ := P a0 a1 a2 w0 w1 w2
 refine (vinculumlaw04_PrimeProth.calls k a0 a1 a2 true w (by first | exact HT_.out | (refine tab_below HT_.out ?_; repeat (first | (with_reducible first | exact HB.out | apply below_alloc | apply pw_below_drewN | apply below_drew1) | exact HB.out)) | (repeat (first | exact HT_.out | apply tab_drewN | apply tab_drew))) h).mono ?_
 rintro e w' ⟨rfl, hd⟩
 exact ⟨rfl, hd⟩

end Go.Proofs.YtnlklfhgdefbaaaDoor.GN
-- thin

-- Written by wip/tools/myprint.py (this session's program, over the kit's print.py).
import Derived.Test.YtnlklfhgdefbaaaDoorGNx0
import Derived.Test.YtnlklfhgdefbaaaDoorGNx2
import Derived.Test.YtnlklfhgdefbaaaDoorGNx3
import Derived.Test.YtnlklfhgdefbaaaDoorGNx6
namespace Go.Proofs.YtnlklfhgdefbaaaDoor.GN
open Go.RowKit Go.Proofs.YtnlklfhgdefbaaaDoorW.PrintWords Go.Proofs.YtnlklfhgdefbaaaDoorW.PrintLast Go.Proofs.YtnlklfhgdefbaaaDoorW.PrintMore
attribute [local go_sem] max2_int min2_int max_two min_two max_three min_three max_four min_four   -- for this text's walks alone
set_option linter.unusedVariables false
set_option linter.unusedSimpArgs false

/-! ### vinculumlaw04_PrimeGreat: function 9 -/
mutual
def vinculumlaw04_PrimeGreat.j0 : Nat → Int → Int → Int → Bool → Option (Bool)
 | 0, _, _, _, _ => none
 | k + 1, x0, x1, x2, x32 => if x32 = true then ((vinculumlaw04_awake.f k).bind fun t195 => (some t195)) else ((prime_Scan.f k x0 x1 x2).bind fun bt196 => (if bt196.2 = 0 then (vinculumlaw04_PrimeGreat.l0 k x0 x1 bt196.1 x2 0) else (if bt196.2 = 19 then (if (bt196.1.length : Int) = 0 then ((vinculumlaw04_awake.f k).bind fun t200 => (some t200)) else (none)) else (none))))
def vinculumlaw04_PrimeGreat.l0 : Nat → Int → Int → List Int → Int → Int → Option (Bool)
 | 0, _, _, _, _, _ => none
 | k + 1, x0, x1, x7, x9, x10 => if x10 < (x7.length : Int) then (if 0 ≤ x10 then (if (rd x7 x10) ≥ x9 then (none) else ((prime_Is.f k (rd x7 x10)).bind fun t204 => (if t204 = true then ((vinculumref04_Twos.f k (IntKind.u64.wrap ((rd x7 x10) - 1))).bind fun t206 => (if t206 < x0 then (none) else (vinculumlaw04_PrimeGreat.l0 k x0 x1 x7 (rd x7 x10) (wrap64 (x10 + 1))))) else (none)))) else (none)) else (if (x7.length : Int) = x1 then ((vinculumlaw04_awake.f k).bind fun t201 => (some t201)) else (none))
end
def vinculumlaw04_PrimeGreat.f (k : Nat) (a0 : Int) (a1 : Int) (a2 : Int) : Option (Bool) := if a0 < 1 then (vinculumlaw04_PrimeGreat.j0 k a0 a1 a2 true) else (if a0 > 40 then (vinculumlaw04_PrimeGreat.j0 k a0 a1 a2 true) else (if a1 < 1 then (vinculumlaw04_PrimeGreat.j0 k a0 a1 a2 true) else (if a1 > 8 then (vinculumlaw04_PrimeGreat.j0 k a0 a1 a2 true) else (if a2 < 1000000 then (vinculumlaw04_PrimeGreat.j0 k a0 a1 a2 true) else (vinculumlaw04_PrimeGreat.j0 k a0 a1 a2 (decide (a2 > 9223372036854775808)))))))
theorem vinculumlaw04_PrimeGreat.mono_l : ∀ k, (∀ y0 y1 y2 y3, LeO (vinculumlaw04_PrimeGreat.j0 k y0 y1 y2 y3) (vinculumlaw04_PrimeGreat.j0 (k + 1) y0 y1 y2 y3)) ∧ (∀ y0 y1 y2 y3 y4, LeO (vinculumlaw04_PrimeGreat.l0 k y0 y1 y2 y3 y4) (vinculumlaw04_PrimeGreat.l0 (k + 1) y0 y1 y2 y3 y4))
 | 0 => ⟨fun _ _ _ _ r h => by simp [vinculumlaw04_PrimeGreat.j0] at h, fun _ _ _ _ _ r h => by simp [vinculumlaw04_PrimeGreat.l0] at h⟩
 | k + 1 => by
  obtain ⟨ih0, ih1⟩ := vinculumlaw04_PrimeGreat.mono_l k
  refine ⟨?_, ?_⟩
  ·intro y0 y1 y2 y3
   unfold vinculumlaw04_PrimeGreat.j0
   repeat' first
   | (with_reducible exact ih0 _ _ _ _)
   | (with_reducible exact ih1 _ _ _ _ _)
   | (with_reducible exact prime_Is.mono _ _)
   | (with_reducible exact prime_Scan.mono _ _ _ _)
   | (with_reducible exact vinculumlaw04_awake.mono _)
   | (with_reducible exact vinculumref04_Twos.mono _ _)
   | (with_reducible exact LeO.refl _)
   | (with_reducible exact LeO.none _)
   | (with_reducible refine LeO.ite ?_ ?_)
   | (with_reducible refine LeO.bind ?_ (fun _ => ?_))
   | exact ih0 _ _ _ _
   | exact ih1 _ _ _ _ _
   | exact prime_Is.mono _ _
   | exact prime_Scan.mono _ _ _ _
   | exact vinculumlaw04_awake.mono _
   | exact vinculumref04_Twos.mono _ _
   | exact LeO.none _
   | refine LeO.ite ?_ ?_
   | refine LeO.bind ?_ (fun _ => ?_)
  intro y0 y1 y2 y3 y4
  unfold vinculumlaw04_PrimeGreat.l0
  repeat' first
  | (with_reducible exact ih0 _ _ _ _)
  | (with_reducible exact ih1 _ _ _ _ _)
  | (with_reducible exact prime_Is.mono _ _)
  | (with_reducible exact prime_Scan.mono _ _ _ _)
  | (with_reducible exact vinculumlaw04_awake.mono _)
  | (with_reducible exact vinculumref04_Twos.mono _ _)
  | (with_reducible exact LeO.refl _)
  | (with_reducible exact LeO.none _)
  | (with_reducible refine LeO.ite ?_ ?_)
  | (with_reducible refine LeO.bind ?_ (fun _ => ?_))
  | exact ih0 _ _ _ _
  | exact ih1 _ _ _ _ _
  | exact prime_Is.mono _ _
  | exact prime_Scan.mono _ _ _ _
  | exact vinculumlaw04_awake.mono _
  | exact vinculumref04_Twos.mono _ _
  | exact LeO.none _
  | refine LeO.ite ?_ ?_
  | refine LeO.bind ?_ (fun _ => ?_)
theorem vinculumlaw04_PrimeGreat.mono : ∀ a0 a1 a2 k, LeO (vinculumlaw04_PrimeGreat.f k a0 a1 a2) (vinculumlaw04_PrimeGreat.f (k + 1) a0 a1 a2) := by
 intro a0 a1 a2 k
 obtain ⟨ih0, ih1⟩ := vinculumlaw04_PrimeGreat.mono_l k
 unfold vinculumlaw04_PrimeGreat.f
 repeat' first
   | (with_reducible exact ih0 _ _ _ _)
   | (with_reducible exact ih1 _ _ _ _ _)
   | (with_reducible exact prime_Is.mono _ _)
   | (with_reducible exact prime_Scan.mono _ _ _ _)
   | (with_reducible exact vinculumlaw04_awake.mono _)
   | (with_reducible exact vinculumref04_Twos.mono _ _)
   | (with_reducible exact LeO.refl _)
   | (with_reducible exact LeO.none _)
   | (with_reducible refine LeO.ite ?_ ?_)
   | (with_reducible refine LeO.bind ?_ (fun _ => ?_))
   | exact ih0 _ _ _ _
   | exact ih1 _ _ _ _ _
   | exact prime_Is.mono _ _
   | exact prime_Scan.mono _ _ _ _
   | exact vinculumlaw04_awake.mono _
   | exact vinculumref04_Twos.mono _ _
   | exact LeO.none _
   | refine LeO.ite ?_ ?_
   | refine LeO.bind ?_ (fun _ => ?_)
set_option maxHeartbeats 8000000 in
set_option maxRecDepth 100000 in
theorem vinculumlaw04_PrimeGreat.calls (k : Nat) (a0 : Int) (a1 : Int) (a2 : Int) (r : Bool) (w : World) (hT_ : TabAt 0 Lib.deBruijn64tab w) (h : vinculumlaw04_PrimeGreat.f k a0 a1 a2 = some r) :
  Calls Tryd.prog 9 #[.int .i64 a0, .int .i64 a1, .int .u64 a2] w fun e w' => e = .returned (.bool r) ∧ Below w.heap.size w w' := by
 have HT_ := Aside0.mk hT_
 clear hT_
 have HB := Aside0.mk (Below.refl w.heap.size w)
 have H : (if a0 < 1 then (vinculumlaw04_PrimeGreat.j0 k a0 a1 a2 true) else (if a0 > 40 then (vinculumlaw04_PrimeGreat.j0 k a0 a1 a2 true) else (if a1 < 1 then (vinculumlaw04_PrimeGreat.j0 k a0 a1 a2 true) else (if a1 > 8 then (vinculumlaw04_PrimeGreat.j0 k a0 a1 a2 true) else (if a2 < 1000000 then (vinculumlaw04_PrimeGreat.j0 k a0 a1 a2 true) else (vinculumlaw04_PrimeGreat.j0 k a0 a1 a2 (decide (a2 > 9223372036854775808)))))))) = some r := h
 clear h
 have HC4 := Aside0.mk H
 clear H
 go_enter Tryd.func9, Tryd.ntmps9
 go_upto_region 1 with (fail)
 go_cut [32] (fun v32 wc => ∃ (kq : Nat) (x32_3 : Bool), v32 = .bool x32_3 ∧ Aside0 (vinculumlaw04_PrimeGreat.j0 kq a0 a1 a2 x32_3 = some r) ∧ Aside0 (kq ≤ k) ∧ Aside0 (Below w.heap.size w wc))
 case first =>
  have H := HC4.out
  clear HC4
  by_cases c5 : a0 < 1
  ·rw [if_pos c5] at H
   have c5b0 : decide (a0 < 1) = true := decide_eq_true c5
   clear c5
   (first | rw [c5b0] | (simp only [i64_w, i32_w]; rw [c5b0]) | skip)
   have H' := Aside0.mk H
   clear H
   go_wp2
   go_meet
   case rel => exact ⟨_, (true), (by first | rfl | (simp; done) | (simp [*]; done)), H', ⟨by first | omega | exact Nat.le_refl _⟩, ⟨by repeat (first | (with_reducible first | exact HB.out | apply below_alloc | apply pw_below_drewN | apply below_drew1) | exact HB.out)⟩⟩
  rw [if_neg c5] at H
  have c5b0 : decide (a0 < 1) = false := decide_eq_false c5
  clear c5
  (first | rw [c5b0] | (simp only [i64_w, i32_w]; rw [c5b0]) | skip)
  by_cases c6 : a0 > 40
  ·rw [if_pos c6] at H
   have c6b0 : decide (40 < a0) = true := decide_eq_true c6
   clear c6
   have H' := Aside0.mk H
   clear H
   go_wp2
   go_meet
   case rel => exact ⟨_, (true), (by first | rfl | (simp; done) | (simp [*]; done)), H', ⟨by first | omega | exact Nat.le_refl _⟩, ⟨by repeat (first | (with_reducible first | exact HB.out | apply below_alloc | apply pw_below_drewN | apply below_drew1) | exact HB.out)⟩⟩
  rw [if_neg c6] at H
  have c6b0 : decide (40 < a0) = false := decide_eq_false c6
  clear c6
  by_cases c7 : a1 < 1
  ·rw [if_pos c7] at H
   have c7b0 : decide (a1 < 1) = true := decide_eq_true c7
   clear c7
   have H' := Aside0.mk H
   clear H
   go_wp2
   go_meet
   case rel => exact ⟨_, (true), (by first | rfl | (simp; done) | (simp [*]; done)), H', ⟨by first | omega | exact Nat.le_refl _⟩, ⟨by repeat (first | (with_reducible first | exact HB.out | apply below_alloc | apply pw_below_drewN | apply below_drew1) | exact HB.out)⟩⟩
  rw [if_neg c7] at H
  have c7b0 : decide (a1 < 1) = false := decide_eq_false c7
  clear c7
  by_cases c8 : a1 > 8
  ·rw [if_pos c8] at H
   have c8b0 : decide (8 < a1) = true := decide_eq_true c8
   clear c8
   have H' := Aside0.mk H
   clear H
   go_wp2
   go_meet
   case rel => exact ⟨_, (true), (by first | rfl | (simp; done) | (simp [*]; done)), H', ⟨by first | omega | exact Nat.le_refl _⟩, ⟨by repeat (first | (with_reducible first | exact HB.out | apply below_alloc | apply pw_below_drewN | apply below_drew1) | exact HB.out)⟩⟩
  rw [if_neg c8] at H
  have c8b0 : decide (8 < a1) = false := decide_eq_false c8
  clear c8
  by_cases c9 : a2 < 1000000
  ·rw [if_pos c9] at H
   have c9b0 : decide (a2 < 1000000) = true := decide_eq_true c9
   clear c9
   have H' := Aside0.mk H
   clear H
   go_wp2
   go_meet
   case rel => exact ⟨_, (true), (by first | rfl | (simp; done) | (simp [*]; done)), H', ⟨by first | omega | exact Nat.le_refl _⟩, ⟨by repeat (first | (with_reducible first | exact HB.out | apply below_alloc | apply pw_below_drewN | apply below_drew1) | exact HB.out)⟩⟩
  rw [if_neg c9] at H
  have c9b0 : decide (a2 < 1000000) = false := decide_eq_false c9
  clear c9
  have H' := Aside0.mk H
  clear H
  go_wp2
  go_meet
  case rel => exact ⟨_, (decide (a2 > 9223372036854775808)), (by first | rfl | (simp; done) | (simp [*]; done)), H', ⟨by first | omega | exact Nat.le_refl _⟩, ⟨by repeat (first | (with_reducible first | exact HB.out | apply below_alloc | apply pw_below_drewN | apply below_drew1) | exact HB.out)⟩⟩
 case rest =>
  clear HC4
  try clear p2
  try clear c5
  try clear c5b0
  try clear c6
  try clear c6b0
  try clear c7
  try clear c7b0
  try clear c8
  try clear c8b0
  try clear c9
  try clear c9b0
  obtain ⟨kq, x32_3, rfl, HA, HJ3, HB⟩ := hcut
  cases kq with
  | zero => exact absurd HA.out (by simp [vinculumlaw04_PrimeGreat.j0])
  | succ kj3 =>
   have H := HA.out
   clear HA
   simp only [vinculumlaw04_PrimeGreat.j0] at H
   by_cases c10 : x32_3 = true
   ·subst c10
    have H1 : ((vinculumlaw04_awake.f kj3).bind fun t195 => (some t195)) = some r := by rw [if_pos rfl] at H; exact H
    clear H
    have H := H1
    clear H1
    replace H := Option.bind_eq_some_iff.mp H
    obtain ⟨t195, A110, H⟩ := H
    replace H : (some t195) = some r := H
    have A11 := Aside0.mk A110
    clear A110
    obtain rfl := Option.some.inj H
    go_wp2_with (first | ((with_reducible refine gate_callee (f := 12) rfl ?_); refine goesL_ (some 33) rfl rfl Tryd.func12 (by kernel_rfl) rfl #[] rfl (by (try simp only [List.map_toArray, List.map_cons, List.map_nil]); first | done | rfl | (simp only [List.length_drop, List.length_take]; rfl)) ?_; (with_reducible refine (vinculumlaw04_awake.calls kj3  t195 _ (by first | exact HT_.out | (refine tab_below HT_.out ?_; repeat (first | (with_reducible first | exact HB.out | apply below_alloc | apply pw_below_drewN | apply below_drew1) | exact HB.out)) | (repeat (first | exact HT_.out | apply tab_drewN | apply tab_drew))) A11.out).mono ?_); rintro e w12 ⟨rfl, hb⟩; refine ⟨_, rfl, ?_⟩; have n0_ := Aside0.mk (below_step (by repeat (first | (with_reducible first | exact HB.out | apply below_alloc | apply pw_below_drewN | apply below_drew1) | exact HB.out)) hb); clear HB; have HB := n0_; clear n0_; (try clear hb); (try clear hb2); (try clear hk); (try clear hi)))
    go_ret
    exact ⟨by first | rfl | (simp [errW_none, errW_some] <;> rfl) | (simp [*, errW_none, errW_some] <;> rfl), by repeat (first | (with_reducible first | exact HB.out | apply below_alloc | apply pw_below_drewN | apply below_drew1) | exact HB.out)⟩
   replace c10 := Bool.eq_false_iff.mpr c10
   subst c10
   have H1 : ((prime_Scan.f kj3 a0 a1 a2).bind fun bt196 => (if bt196.2 = 0 then (vinculumlaw04_PrimeGreat.l0 kj3 a0 a1 bt196.1 a2 0) else (if bt196.2 = 19 then (if (bt196.1.length : Int) = 0 then ((vinculumlaw04_awake.f kj3).bind fun t200 => (some t200)) else (none)) else (none)))) = some r := by rw [if_neg (show ¬ (false = true) by decide)] at H; exact H
   clear H
   have H := H1
   clear H1
   replace H := Option.bind_eq_some_iff.mp H
   obtain ⟨⟨t196, t197⟩, A130, H⟩ := H
   replace H : (if t197 = 0 then (vinculumlaw04_PrimeGreat.l0 kj3 a0 a1 t196 a2 0) else (if t197 = 19 then (if (t196.length : Int) = 0 then ((vinculumlaw04_awake.f kj3).bind fun t200 => (some t200)) else (none)) else (none))) = some r := H
   have A13 := Aside0.mk A130
   clear A130
   by_cases c14 : t197 = 0
   ·rw [if_pos c14] at H
    have c14b0 : (t197 == 0) = true := beq_iff_eq.mpr c14
    have c14b1 : (t197 != 0) = false := bne_eq_false_iff_eq.mpr c14
    clear c14
    have H' := Aside0.mk H
    clear H
    go_wp2_with (first | ((with_reducible refine gate_callee (f := 18) rfl ?_); refine goesL_ (some 38) rfl rfl Tryd.func18 (by kernel_rfl) rfl #[.int .i64 a0, .int .i64 a1, .int .u64 a2] rfl (by (try simp only [List.map_toArray, List.map_cons, List.map_nil]); first | done | rfl | (simp only [List.length_drop, List.length_take]; rfl)) ?_; (with_reducible refine (prime_Scan.calls kj3 a0 a1 a2 t196 t197 _ (by first | exact HT_.out | (refine tab_below HT_.out ?_; repeat (first | (with_reducible first | exact HB.out | apply below_alloc | apply pw_below_drewN | apply below_drew1) | exact HB.out)) | (repeat (first | exact HT_.out | apply tab_drewN | apply tab_drew))) A13.out).mono ?_); rintro e w15 ⟨v198, rfl, ho0, hb⟩; refine ⟨_, rfl, ?_⟩; have n0_ := Aside0.mk (Kd.R_lower ho0 (below_size (by repeat (first | (with_reducible first | exact HB.out | apply below_alloc | apply pw_below_drewN | apply below_drew1) | exact HB.out)))); have n1_ := Aside0.mk (below_step (by repeat (first | (with_reducible first | exact HB.out | apply below_alloc | apply pw_below_drewN | apply below_drew1) | exact HB.out)) hb); clear HB; have HO199 := n0_; have HB := n1_; clear n0_ n1_; (try clear hb); (try clear hb2); (try clear hk); (try clear hi); (try clear ho0)))
    go_loopg [9, 10] kj3 (fun kq v9 v10 w' => ∃ (x9_2 : Int) (x10_2 : Int), v9 = .int .u64 x9_2 ∧ v10 = .int .i64 x10_2 ∧ Aside0 (vinculumlaw04_PrimeGreat.l0 kq a0 a1 t196 x9_2 x10_2 = some r) ∧ Aside0 (kq ≤ kj3) ∧ Aside0 (Kd.R (Kd.int .u64) 22 w' w.heap.size (fun _ => True) v198 t196) ∧ Aside0 (Below w.heap.size w w'))
    case atStart => exact ⟨(a2), (0), (by first | rfl | (simp; done) | (simp [*]; done)), (by first | rfl | (simp; done) | (simp [*]; done)), H', ⟨Nat.le_refl _⟩, ⟨by (with_reducible repeat (first | apply Kd.R_alloc | apply Kd.R_drewN | apply Kd.R_drew)); exact HO199.out⟩, ⟨by repeat (first | (with_reducible first | exact HB.out | apply below_alloc | apply pw_below_drewN | apply below_drew1) | exact HB.out)⟩⟩
    case round =>
     clear H'
     try clear c1
     try clear p2
     try clear c5
     try clear c5b0
     try clear c6
     try clear c6b0
     try clear c7
     try clear c7b0
     try clear c8
     try clear c8b0
     try clear c9
     try clear c9b0
     try clear c10
     try clear c12
     try clear c14
     try clear c14b0
     try clear c14b1
     try clear p2
     obtain ⟨x9_2, x10_2, rfl, rfl, HA, HK2, HO_7, HB⟩ := hrel
     cases gk with
     | zero => exact absurd HA.out (by simp [vinculumlaw04_PrimeGreat.l0])
     | succ k2 =>
      have H := HA.out
      clear HA
      simp only [vinculumlaw04_PrimeGreat.l0] at H
      by_cases c16 : x10_2 < (t196.length : Int)
      ·rw [if_pos c16] at H
       have c16b0 : decide (x10_2 < (t196.length : Int)) = true := decide_eq_true c16
       clear c16
       by_cases c17 : 0 ≤ x10_2
       ·rw [if_pos c17] at H
        have c17b0 : decide (0 ≤ x10_2) = true := decide_eq_true c17
        clear c17
        by_cases c18 : (rd t196 x10_2) ≥ x9_2
        ·rw [if_pos c18] at H
         exact absurd H (by simp)
        rw [if_neg c18] at H
        have c18b0 : decide (x9_2 ≤ (rd t196 x10_2)) = false := decide_eq_false c18
        clear c18
        replace H := Option.bind_eq_some_iff.mp H
        obtain ⟨t204, A190, H⟩ := H
        replace H : (if t204 = true then ((vinculumref04_Twos.f k2 (IntKind.u64.wrap ((rd t196 x10_2) - 1))).bind fun t206 => (if t206 < a0 then (none) else (vinculumlaw04_PrimeGreat.l0 k2 a0 a1 t196 (rd t196 x10_2) (wrap64 (x10_2 + 1))))) else (none)) = some r := H
        have A19 := Aside0.mk A190
        clear A190
        by_cases c20 : t204 = true
        ·subst c20
         have H1 : ((vinculumref04_Twos.f k2 (IntKind.u64.wrap ((rd t196 x10_2) - 1))).bind fun t206 => (if t206 < a0 then (none) else (vinculumlaw04_PrimeGreat.l0 k2 a0 a1 t196 (rd t196 x10_2) (wrap64 (x10_2 + 1))))) = some r := by rw [if_pos rfl] at H; exact H
         clear H
         have H := H1
         clear H1
         replace H := Option.bind_eq_some_iff.mp H
         obtain ⟨t206, A210, H⟩ := H
         replace H : (if t206 < a0 then (none) else (vinculumlaw04_PrimeGreat.l0 k2 a0 a1 t196 (rd t196 x10_2) (wrap64 (x10_2 + 1)))) = some r := H
         have A21 := Aside0.mk A210
         clear A210
         by_cases c22 : t206 < a0
         ·rw [if_pos c22] at H
          exact absurd H (by simp)
         rw [if_neg c22] at H
         have c22b0 : decide (t206 < a0) = false := decide_eq_false c22
         clear c22
         have H' := Aside0.mk H
         clear H
         obtain ⟨Ao23, co23, eo23⟩ := Kd.R_slice HO_7.out
         subst eo23
         have p202 : 0 ≤ (x10_2 : Int) := of_decide_eq_true (by first | (with_reducible assumption) | assumption)
         have q202 : x10_2 < (t196.length : Int) := of_decide_eq_true (by first | (with_reducible assumption) | assumption)
         obtain ⟨ad202, e202, hx202_0⟩ := Kd.at_int (Kd.R_reads' HO_7.out).2.2 x10_2 p202 q202
         cases e202
         replace p202 := eq_true p202
         replace q202 := eq_true q202
         have p203 : 0 ≤ (x10_2 : Int) := of_decide_eq_true (by first | (with_reducible assumption) | assumption)
         have q203 : x10_2 < (t196.length : Int) := of_decide_eq_true (by first | (with_reducible assumption) | assumption)
         obtain ⟨ad203, e203, hx203_0⟩ := Kd.at_int (Kd.R_reads' HO_7.out).2.2 x10_2 p203 q203
         obtain rfl : ad202 = ad203 := (by injection e203)
         replace p203 := eq_true p203
         replace q203 := eq_true q203
         go_wp2_with (first | (go_at_call 14; (with_reducible refine (prime_Is.calls k2 (rd t196 x10_2) true _ (by first | exact HT_.out | (refine tab_below HT_.out ?_; repeat (first | (with_reducible first | exact HB.out | apply below_alloc | apply pw_below_drewN | apply below_drew1) | exact HB.out)) | (repeat (first | exact HT_.out | apply tab_drewN | apply tab_drew))) A19.out).mono ?_); rintro e w24 ⟨rfl, hb⟩; have n0_ := Aside0.mk (Kd.R_below (by (with_reducible repeat (first | apply Kd.R_alloc | apply Kd.R_drewN | apply Kd.R_drew)); exact HO_7.out) hb); have n1_ := Aside0.mk (below_step (by repeat (first | (with_reducible first | exact HB.out | apply below_alloc | apply pw_below_drewN | apply below_drew1) | exact HB.out)) hb); clear HO_7; clear HB; have HO_7 := n0_; have HB := n1_; clear n0_ n1_; (try clear hb); (try clear hb2); (try clear hk); (try clear hi); have p205 : 0 ≤ (x10_2 : Int) := of_decide_eq_true (by first | (with_reducible assumption) | assumption); have q205 : x10_2 < (t196.length : Int) := of_decide_eq_true (by first | (with_reducible assumption) | assumption); obtain ⟨ad205, e205, hx205_0⟩ := Kd.at_int (Kd.R_reads' HO_7.out).2.2 x10_2 p205 q205; obtain rfl : ad202 = ad205 := (by injection e205); replace p205 := eq_true p205; replace q205 := eq_true q205) | (go_at_call 20; (with_reducible refine (vinculumref04_Twos.calls k2 (IntKind.u64.wrap ((rd t196 x10_2) - 1)) t206 _ A21.out).mono ?_); rintro e w' ⟨rfl, ⟨nd, rfl⟩⟩; have p207 : 0 ≤ (x10_2 : Int) := of_decide_eq_true (by first | (with_reducible assumption) | assumption); have q207 : x10_2 < (t196.length : Int) := of_decide_eq_true (by first | (with_reducible assumption) | assumption); obtain ⟨ad207, e207, hx207_0⟩ := Kd.at_int (Kd.R_reads' HO_7.out).2.2 x10_2 p207 q207; obtain rfl : ad202 = ad207 := (by injection e207); replace p207 := eq_true p207; replace q207 := eq_true q207))
         go_roundg k2
         case measure => have := HJ3.out; have := HK2.out; omega
         case rel => exact ⟨(rd t196 x10_2), (wrap64 (x10_2 + 1)), (by first | rfl | (simp; done) | (simp [*]; done)), (by first | rfl | (simp; done) | (simp [*]; done)), H', ⟨by have := HJ3.out; have := HK2.out; omega⟩, ⟨by (with_reducible repeat (first | apply Kd.R_alloc | apply Kd.R_drewN | apply Kd.R_drew)); exact HO_7.out⟩, ⟨by repeat (first | (with_reducible first | exact HB.out | apply below_alloc | apply pw_below_drewN | apply below_drew1) | exact HB.out)⟩⟩
        replace c20 := Bool.eq_false_iff.mpr c20
        subst c20
        have H1 : (none) = some r := by rw [if_neg (show ¬ (false = true) by decide)] at H; exact H
        clear H
        have H := H1
        clear H1
        exact absurd H (by simp)
       rw [if_neg c17] at H
       exact absurd H (by simp)
      rw [if_neg c16] at H
      have c16b0 : decide (x10_2 < (t196.length : Int)) = false := decide_eq_false c16
      clear c16
      by_cases c25 : (t196.length : Int) = a1
      ·rw [if_pos c25] at H
       have c25b0 : ((t196.length : Int) == a1) = true := beq_iff_eq.mpr c25
       have c25b1 : ((t196.length : Int) != a1) = false := bne_eq_false_iff_eq.mpr c25
       clear c25
       replace H := Option.bind_eq_some_iff.mp H
       obtain ⟨t201, A260, H⟩ := H
       replace H : (some t201) = some r := H
       have A26 := Aside0.mk A260
       clear A260
       obtain rfl := Option.some.inj H
       obtain ⟨Ao27, co27, eo27⟩ := Kd.R_slice HO_7.out
       subst eo27
       go_wp2_with (first | (go_at_call 12; (with_reducible refine (vinculumlaw04_awake.calls k2  t201 _ (by first | exact HT_.out | (refine tab_below HT_.out ?_; repeat (first | (with_reducible first | exact HB.out | apply below_alloc | apply pw_below_drewN | apply below_drew1) | exact HB.out)) | (repeat (first | exact HT_.out | apply tab_drewN | apply tab_drew))) A26.out).mono ?_); rintro e w28 ⟨rfl, hb⟩; have n0_ := Aside0.mk (Kd.R_below (by (with_reducible repeat (first | apply Kd.R_alloc | apply Kd.R_drewN | apply Kd.R_drew)); exact HO_7.out) hb); have n1_ := Aside0.mk (below_step (by repeat (first | (with_reducible first | exact HB.out | apply below_alloc | apply pw_below_drewN | apply below_drew1) | exact HB.out)) hb); clear HO_7; clear HB; have HO_7 := n0_; have HB := n1_; clear n0_ n1_; (try clear hb); (try clear hb2); (try clear hk); (try clear hi)))
       go_ret
       exact ⟨by first | rfl | (simp [errW_none, errW_some] <;> rfl) | (simp [*, errW_none, errW_some] <;> rfl), by repeat (first | (with_reducible first | exact HB.out | apply below_alloc | apply pw_below_drewN | apply below_drew1) | exact HB.out)⟩
      rw [if_neg c25] at H
      exact absurd H (by simp)
   rw [if_neg c14] at H
   have c14b0 : (t197 == 0) = false := beq_eq_false_iff_ne.mpr c14
   have c14b1 : (t197 != 0) = true := bne_iff_ne.mpr c14
   by_cases c29 : t197 = 19
   ·rw [if_pos c29] at H
    have c29b0 : (t197 == 19) = true := beq_iff_eq.mpr c29
    have c29b1 : (t197 != 19) = false := bne_eq_false_iff_eq.mpr c29
    clear c29
    by_cases c30 : (t196.length : Int) = 0
    ·rw [if_pos c30] at H
     have c30b0 : ((t196.length : Int) == 0) = true := beq_iff_eq.mpr c30
     have c30b1 : ((t196.length : Int) != 0) = false := bne_eq_false_iff_eq.mpr c30
     clear c30
     replace H := Option.bind_eq_some_iff.mp H
     obtain ⟨t200, A310, H⟩ := H
     replace H : (some t200) = some r := H
     have A31 := Aside0.mk A310
     clear A310
     obtain rfl := Option.some.inj H
     go_wp2_with (first | ((with_reducible refine gate_callee (f := 18) rfl ?_); refine goesL_ (some 38) rfl rfl Tryd.func18 (by kernel_rfl) rfl #[.int .i64 a0, .int .i64 a1, .int .u64 a2] rfl (by (try simp only [List.map_toArray, List.map_cons, List.map_nil]); first | done | rfl | (simp only [List.length_drop, List.length_take]; rfl)) ?_; (with_reducible refine (prime_Scan.calls kj3 a0 a1 a2 t196 t197 _ (by first | exact HT_.out | (refine tab_below HT_.out ?_; repeat (first | (with_reducible first | exact HB.out | apply below_alloc | apply pw_below_drewN | apply below_drew1) | exact HB.out)) | (repeat (first | exact HT_.out | apply tab_drewN | apply tab_drew))) A13.out).mono ?_); rintro e w32 ⟨v198, rfl, ho0, hb⟩; refine ⟨_, rfl, ?_⟩; have n0_ := Aside0.mk (Kd.R_lower ho0 (below_size (by repeat (first | (with_reducible first | exact HB.out | apply below_alloc | apply pw_below_drewN | apply below_drew1) | exact HB.out)))); have n1_ := Aside0.mk (below_step (by repeat (first | (with_reducible first | exact HB.out | apply below_alloc | apply pw_below_drewN | apply below_drew1) | exact HB.out)) hb); clear HB; have HO199 := n0_; have HB := n1_; clear n0_ n1_; (try clear hb); (try clear hb2); (try clear hk); (try clear hi); (try clear ho0); obtain ⟨Ao33, co33, eo33⟩ := Kd.R_slice HO199.out; subst eo33) | (go_at_call 12; (with_reducible refine (vinculumlaw04_awake.calls kj3  t200 _ (by first | exact HT_.out | (refine tab_below HT_.out ?_; repeat (first | (with_reducible first | exact HB.out | apply below_alloc | apply pw_below_drewN | apply below_drew1) | exact HB.out)) | (repeat (first | exact HT_.out | apply tab_drewN | apply tab_drew))) A31.out).mono ?_); rintro e w34 ⟨rfl, hb⟩; have n0_ := Aside0.mk (Kd.R_below (by (with_reducible repeat (first | apply Kd.R_alloc | apply Kd.R_drewN | apply Kd.R_drew)); exact HO199.out) hb); have n1_ := Aside0.mk (below_step (by repeat (first | (with_reducible first | exact HB.out | apply below_alloc | apply pw_below_drewN | apply below_drew1) | exact HB.out)) hb); clear HO199; clear HB; have HO199 := n0_; have HB := n1_; clear n0_ n1_; (try clear hb); (try clear hb2); (try clear hk); (try clear hi)))
     go_ret
     exact ⟨by first | rfl | (simp [errW_none, errW_some] <;> rfl) | (simp [*, errW_none, errW_some] <;> rfl), by repeat (first | (with_reducible first | exact HB.out | apply below_alloc | apply pw_below_drewN | apply below_drew1) | exact HB.out)⟩
    rw [if_neg c30] at H
    exact absurd H (by simp)
   rw [if_neg c29] at H
   exact absurd H (by simp)

/-- THE ONE PURE STATEMENT of vinculumlaw04_PrimeGreat: yours. -/
def vinculumlaw04_PrimeGreat.Pure : Prop := ∀ (a0 : Int) (a1 : Int) (a2 : Int), (Lit.int .i64 a0).wf = true → (Lit.int .i64 a1).wf = true → (Lit.int .u64 a2).wf = true → ∃ k, vinculumlaw04_PrimeGreat.f k a0 a1 a2 = some true
theorem vinculumlaw04_PrimeGreat.walk (P : vinculumlaw04_PrimeGreat.Pure) (a0 : Int) (a1 : Int) (a2 : Int) (w : World) (w0 : (Lit.int .i64 a0).wf = true) (w1 : (Lit.int .i64 a1).wf = true) (w2 : (Lit.int .u64 a2).wf = true) (hT_ : TabAt 0 Lib.deBruijn64tab w) :
  Calls Tryd.prog 9 #[.int .i64 a0, .int .i64 a1, .int .u64 a2] w fun e w' => e = .returned (.bool true) ∧ Below w.heap.size w w' := by
 have HT_ := Aside0.mk hT_
 clear hT_
 obtain ⟨k, h⟩ := P a0 a1 a2 w0 w1 w2
 refine (vinculumlaw04_PrimeGreat.calls k a0 a1 a2 true w (by first | exact HT_.out | (refine tab_below HT_.out ?_; repeat (first | (with_reducible first | exact HB.out | apply below_alloc | apply pw_below_drewN | apply below_drew1) | exact HB.out)) | (repeat (first | exact HT_.out | apply tab_drewN | apply tab_drew))) h).mono ?_
 rintro e w' ⟨rfl, hd⟩
 exact ⟨rfl, hd⟩

end Go.Proofs.YtnlklfhgdefbaaaDoor.GN
-- thin

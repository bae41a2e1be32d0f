-- Written by wip/tools/myprint.py (this session's program, over the kit's print.py).
import Derived.Test.YtnlklfhgdefbaaaDoorGNx0
import Derived.Test.YtnlklfhgdefbaaaDoorGNx2
import Derived.Test.YtnlklfhgdefbaaaDoorGNx3
import Derived.Test.YtnlklfhgdefbaaaDoorGNx8
namespace Go.Proofs.YtnlklfhgdefbaaaDoor.GN
open Go.RowKit Go.Proofs.YtnlklfhgdefbaaaDoorW.PrintWords Go.Proofs.YtnlklfhgdefbaaaDoorW.PrintLast Go.Proofs.YtnlklfhgdefbaaaDoorW.PrintMore
attribute [local go_sem] max2_int min2_int max_two min_two max_three min_three max_four min_four   -- for this text's walks alone
set_option linter.unusedVariables false
set_option linter.unusedSimpArgs false

/-! ### vinculumlaw04_PrimeScans: function 8 -/
mutual
def vinculumlaw04_PrimeScans.j0 : Nat → Int → Int → Int → Bool → Option (Bool)
 | 0, _, _, _, _ => none
 | k + 1, x0, x1, x2, x16 => if x16 = true then ((vinculumlaw04_awake.f k).bind fun t182 => (some t182)) else ((prime_Scan.f k x0 x1 x2).bind fun bt183 => (if x0 < 1 then (vinculumlaw04_PrimeScans.j1 k x0 x1 x2 bt183.1 bt183.2 true) else (if x0 > 40 then (vinculumlaw04_PrimeScans.j1 k x0 x1 x2 bt183.1 bt183.2 true) else (if x1 < 1 then (vinculumlaw04_PrimeScans.j1 k x0 x1 x2 bt183.1 bt183.2 true) else (if x1 > 64 then (vinculumlaw04_PrimeScans.j1 k x0 x1 x2 bt183.1 bt183.2 true) else (vinculumlaw04_PrimeScans.j1 k x0 x1 x2 bt183.1 bt183.2 (decide (x2 > 9223372036854775808))))))))
def vinculumlaw04_PrimeScans.j1 : Nat → Int → Int → Int → List Int → Int → Bool → Option (Bool)
 | 0, _, _, _, _, _, _ => none
 | k + 1, x0, x1, x2, x7, x8, x42 => if x42 = true then (if x8 = 1 then (if (x7.length : Int) = 0 then ((vinculumlaw04_awake.f k).bind fun t187 => (some t187)) else (none)) else (none)) else ((vinculumref04_Scan.f k x0 x1 x2).bind fun t188 => (if (t188.length : Int) < x1 then (if x8 = 19 then (if (x7.length : Int) = 0 then ((vinculumlaw04_awake.f k).bind fun t191 => (some t191)) else (none)) else (none)) else (if x8 = 0 then (vinculumlaw04_PrimeScans.j2 k x7 t188 ((x7.length : Int) != (t188.length : Int))) else (vinculumlaw04_PrimeScans.j2 k x7 t188 true))))
def vinculumlaw04_PrimeScans.j2 : Nat → List Int → List Int → Bool → Option (Bool)
 | 0, _, _, _ => none
 | k + 1, x7, x9, x79 => if x79 = true then (none) else (vinculumlaw04_PrimeScans.l0 k x7 x9 0)
def vinculumlaw04_PrimeScans.l0 : Nat → List Int → List Int → Int → Option (Bool)
 | 0, _, _, _ => none
 | k + 1, x7, x9, x10 => if x10 < (x7.length : Int) then (if 0 ≤ x10 then (if x10 < (x9.length : Int) then (if (rd x7 x10) = (rd x9 x10) then (vinculumlaw04_PrimeScans.l0 k x7 x9 (wrap64 (x10 + 1))) else (none)) else (none)) else (none)) else ((vinculumlaw04_awake.f k).bind fun t194 => (some t194))
end
def vinculumlaw04_PrimeScans.f (k : Nat) (a0 : Int) (a1 : Int) (a2 : Int) : Option (Bool) := if a2 > 30000 then (vinculumlaw04_PrimeScans.j0 k a0 a1 a2 (decide (a2 ≤ 9223372036854775808))) else (vinculumlaw04_PrimeScans.j0 k a0 a1 a2 false)
theorem vinculumlaw04_PrimeScans.mono_l : ∀ k, (∀ y0 y1 y2 y3, LeO (vinculumlaw04_PrimeScans.j0 k y0 y1 y2 y3) (vinculumlaw04_PrimeScans.j0 (k + 1) y0 y1 y2 y3)) ∧ (∀ y0 y1 y2 y3 y4 y5, LeO (vinculumlaw04_PrimeScans.j1 k y0 y1 y2 y3 y4 y5) (vinculumlaw04_PrimeScans.j1 (k + 1) y0 y1 y2 y3 y4 y5)) ∧ (∀ y0 y1 y2, LeO (vinculumlaw04_PrimeScans.j2 k y0 y1 y2) (vinculumlaw04_PrimeScans.j2 (k + 1) y0 y1 y2)) ∧ (∀ y0 y1 y2, LeO (vinculumlaw04_PrimeScans.l0 k y0 y1 y2) (vinculumlaw04_PrimeScans.l0 (k + 1) y0 y1 y2))
 | 0 => ⟨fun _ _ _ _ r h => by simp [vinculumlaw04_PrimeScans.j0] at h, fun _ _ _ _ _ _ r h => by simp [vinculumlaw04_PrimeScans.j1] at h, fun _ _ _ r h => by simp [vinculumlaw04_PrimeScans.j2] at h, fun _ _ _ r h => by simp [vinculumlaw04_PrimeScans.l0] at h⟩
 | k + 1 => by
  obtain ⟨ih0, ih1, ih2, ih3⟩ := vinculumlaw04_PrimeScans.mono_l k
  refine ⟨?_, ?_, ?_, ?_⟩
  ·intro y0 y1 y2 y3
   unfold vinculumlaw04_PrimeScans.j0
   repeat' first
   | (with_reducible exact ih0 _ _ _ _)
   | (with_reducible exact ih1 _ _ _ _ _ _)
   | (with_reducible exact ih2 _ _ _)
   | (with_reducible exact ih3 _ _ _)
   | (with_reducible exact prime_Scan.mono _ _ _ _)
   | (with_reducible exact vinculumlaw04_awake.mono _)
   | (with_reducible exact vinculumref04_Scan.mono _ _ _ _)
   | (with_reducible exact LeO.refl _)
   | (with_reducible exact LeO.none _)
   | (with_reducible refine LeO.ite ?_ ?_)
   | (with_reducible refine LeO.bind ?_ (fun _ => ?_))
   | exact ih0 _ _ _ _
   | exact ih1 _ _ _ _ _ _
   | exact ih2 _ _ _
   | exact ih3 _ _ _
   | exact prime_Scan.mono _ _ _ _
   | exact vinculumlaw04_awake.mono _
   | exact vinculumref04_Scan.mono _ _ _ _
   | exact LeO.none _
   | refine LeO.ite ?_ ?_
   | refine LeO.bind ?_ (fun _ => ?_)
  ·intro y0 y1 y2 y3 y4 y5
   unfold vinculumlaw04_PrimeScans.j1
   repeat' first
   | (with_reducible exact ih0 _ _ _ _)
   | (with_reducible exact ih1 _ _ _ _ _ _)
   | (with_reducible exact ih2 _ _ _)
   | (with_reducible exact ih3 _ _ _)
   | (with_reducible exact prime_Scan.mono _ _ _ _)
   | (with_reducible exact vinculumlaw04_awake.mono _)
   | (with_reducible exact vinculumref04_Scan.mono _ _ _ _)
   | (with_reducible exact LeO.refl _)
   | (with_reducible exact LeO.none _)
   | (with_reducible refine LeO.ite ?_ ?_)
   | (with_reducible refine LeO.bind ?_ (fun _ => ?_))
   | exact ih0 _ _ _ _
   | exact ih1 _ _ _ _ _ _
   | exact ih2 _ _ _
   | exact ih3 _ _ _
   | exact prime_Scan.mono _ _ _ _
   | exact vinculumlaw04_awake.mono _
   | exact vinculumref04_Scan.mono _ _ _ _
   | exact LeO.none _
   | refine LeO.ite ?_ ?_
   | refine LeO.bind ?_ (fun _ => ?_)
  ·intro y0 y1 y2
   unfold vinculumlaw04_PrimeScans.j2
   repeat' first
   | (with_reducible exact ih0 _ _ _ _)
   | (with_reducible exact ih1 _ _ _ _ _ _)
   | (with_reducible exact ih2 _ _ _)
   | (with_reducible exact ih3 _ _ _)
   | (with_reducible exact prime_Scan.mono _ _ _ _)
   | (with_reducible exact vinculumlaw04_awake.mono _)
   | (with_reducible exact vinculumref04_Scan.mono _ _ _ _)
   | (with_reducible exact LeO.refl _)
   | (with_reducible exact LeO.none _)
   | (with_reducible refine LeO.ite ?_ ?_)
   | (with_reducible refine LeO.bind ?_ (fun _ => ?_))
   | exact ih0 _ _ _ _
   | exact ih1 _ _ _ _ _ _
   | exact ih2 _ _ _
   | exact ih3 _ _ _
   | exact prime_Scan.mono _ _ _ _
   | exact vinculumlaw04_awake.mono _
   | exact vinculumref04_Scan.mono _ _ _ _
   | exact LeO.none _
   | refine LeO.ite ?_ ?_
   | refine LeO.bind ?_ (fun _ => ?_)
  intro y0 y1 y2
  unfold vinculumlaw04_PrimeScans.l0
  repeat' first
  | (with_reducible exact ih0 _ _ _ _)
  | (with_reducible exact ih1 _ _ _ _ _ _)
  | (with_reducible exact ih2 _ _ _)
  | (with_reducible exact ih3 _ _ _)
  | (with_reducible exact prime_Scan.mono _ _ _ _)
  | (with_reducible exact vinculumlaw04_awake.mono _)
  | (with_reducible exact vinculumref04_Scan.mono _ _ _ _)
  | (with_reducible exact LeO.refl _)
  | (with_reducible exact LeO.none _)
  | (with_reducible refine LeO.ite ?_ ?_)
  | (with_reducible refine LeO.bind ?_ (fun _ => ?_))
  | exact ih0 _ _ _ _
  | exact ih1 _ _ _ _ _ _
  | exact ih2 _ _ _
  | exact ih3 _ _ _
  | exact prime_Scan.mono _ _ _ _
  | exact vinculumlaw04_awake.mono _
  | exact vinculumref04_Scan.mono _ _ _ _
  | exact LeO.none _
  | refine LeO.ite ?_ ?_
  | refine LeO.bind ?_ (fun _ => ?_)
theorem vinculumlaw04_PrimeScans.mono : ∀ a0 a1 a2 k, LeO (vinculumlaw04_PrimeScans.f k a0 a1 a2) (vinculumlaw04_PrimeScans.f (k + 1) a0 a1 a2) := by
 intro a0 a1 a2 k
 obtain ⟨ih0, ih1, ih2, ih3⟩ := vinculumlaw04_PrimeScans.mono_l k
 unfold vinculumlaw04_PrimeScans.f
 repeat' first
   | (with_reducible exact ih0 _ _ _ _)
   | (with_reducible exact ih1 _ _ _ _ _ _)
   | (with_reducible exact ih2 _ _ _)
   | (with_reducible exact ih3 _ _ _)
   | (with_reducible exact prime_Scan.mono _ _ _ _)
   | (with_reducible exact vinculumlaw04_awake.mono _)
   | (with_reducible exact vinculumref04_Scan.mono _ _ _ _)
   | (with_reducible exact LeO.refl _)
   | (with_reducible exact LeO.none _)
   | (with_reducible refine LeO.ite ?_ ?_)
   | (with_reducible refine LeO.bind ?_ (fun _ => ?_))
   | exact ih0 _ _ _ _
   | exact ih1 _ _ _ _ _ _
   | exact ih2 _ _ _
   | exact ih3 _ _ _
   | exact prime_Scan.mono _ _ _ _
   | exact vinculumlaw04_awake.mono _
   | exact vinculumref04_Scan.mono _ _ _ _
   | exact LeO.none _
   | refine LeO.ite ?_ ?_
   | refine LeO.bind ?_ (fun _ => ?_)
set_option maxHeartbeats 8000000 in
set_option maxRecDepth 100000 in
theorem vinculumlaw04_PrimeScans.calls (k : Nat) (a0 : Int) (a1 : Int) (a2 : Int) (r : Bool) (w : World) (hT_ : TabAt 0 Lib.deBruijn64tab w) (h : vinculumlaw04_PrimeScans.f k a0 a1 a2 = some r) :
  Calls Tryd.prog 8 #[.int .i64 a0, .int .i64 a1, .int .u64 a2] w fun e w' => e = .returned (.bool r) ∧ Below w.heap.size w w' := by
 have HT_ := Aside0.mk hT_
 clear hT_
 have HB := Aside0.mk (Below.refl w.heap.size w)
 have H : (if a2 > 30000 then (vinculumlaw04_PrimeScans.j0 k a0 a1 a2 (decide (a2 ≤ 9223372036854775808))) else (vinculumlaw04_PrimeScans.j0 k a0 a1 a2 false)) = some r := h
 clear h
 have HC4 := Aside0.mk H
 clear H
 go_enter Tryd.func8, Tryd.ntmps8
 go_upto_region 1 with (fail)
 repeat (go_quiet (fail); go_upto_region 1 with (fail))
 go_cut [16] (fun v16 wc => ∃ (kq : Nat) (x16_3 : Bool), v16 = .bool x16_3 ∧ Aside0 (vinculumlaw04_PrimeScans.j0 kq a0 a1 a2 x16_3 = some r) ∧ Aside0 (kq ≤ k) ∧ Aside0 (Below w.heap.size w wc))
 case first =>
  have H := HC4.out
  clear HC4
  by_cases c5 : a2 > 30000
  ·rw [if_pos c5] at H
   have c5b0 : decide (30000 < a2) = true := decide_eq_true c5
   clear c5
   (first | rw [c5b0] | (simp only [i64_w, i32_w]; rw [c5b0]) | skip)
   have H' := Aside0.mk H
   clear H
   go_wp2
   repeat (go_quiet (fail); try go_wp2)
   go_meet
   case rel => exact ⟨_, (decide (a2 ≤ 9223372036854775808)), (by first | rfl | (simp; done) | (simp [*]; done)), H', ⟨by first | omega | exact Nat.le_refl _⟩, ⟨by repeat (first | (with_reducible first | exact HB.out | apply below_alloc | apply pw_below_drewN | apply below_drew1) | exact HB.out)⟩⟩
  rw [if_neg c5] at H
  have c5b0 : decide (30000 < a2) = false := decide_eq_false c5
  clear c5
  (first | rw [c5b0] | (simp only [i64_w, i32_w]; rw [c5b0]) | skip)
  have H' := Aside0.mk H
  clear H
  go_wp2
  repeat (go_quiet (fail); try go_wp2)
  go_meet
  case rel => exact ⟨_, (false), (by first | rfl | (simp; done) | (simp [*]; done)), H', ⟨by first | omega | exact Nat.le_refl _⟩, ⟨by repeat (first | (with_reducible first | exact HB.out | apply below_alloc | apply pw_below_drewN | apply below_drew1) | exact HB.out)⟩⟩
 case rest =>
  clear HC4
  try clear p2
  try clear c5
  try clear c5b0
  obtain ⟨kq, x16_3, rfl, HA, HJ3, HB⟩ := hcut
  cases kq with
  | zero => exact absurd HA.out (by simp [vinculumlaw04_PrimeScans.j0])
  | succ kj3 =>
   have H := HA.out
   clear HA
   simp only [vinculumlaw04_PrimeScans.j0] at H
   by_cases c6 : x16_3 = true
   ·subst c6
    have H1 : ((vinculumlaw04_awake.f kj3).bind fun t182 => (some t182)) = some r := by rw [if_pos rfl] at H; exact H
    clear H
    have H := H1
    clear H1
    replace H := Option.bind_eq_some_iff.mp H
    obtain ⟨t182, A70, H⟩ := H
    replace H : (some t182) = some r := H
    have A7 := Aside0.mk A70
    clear A70
    obtain rfl := Option.some.inj H
    go_wp2_with (first | (go_at_call 12; (with_reducible refine (vinculumlaw04_awake.calls kj3  t182 _ (by first | exact HT_.out | (refine tab_below HT_.out ?_; repeat (first | (with_reducible first | exact HB.out | apply below_alloc | apply pw_below_drewN | apply below_drew1) | exact HB.out)) | (repeat (first | exact HT_.out | apply tab_drewN | apply tab_drew))) A7.out).mono ?_); rintro e w8 ⟨rfl, hb⟩; have n0_ := Aside0.mk (below_step (by repeat (first | (with_reducible first | exact HB.out | apply below_alloc | apply pw_below_drewN | apply below_drew1) | exact HB.out)) hb); clear HB; have HB := n0_; clear n0_; (try clear hb); (try clear hb2); (try clear hk); (try clear hi)))
    repeat (go_quiet (first | (go_at_call 12; (with_reducible refine (vinculumlaw04_awake.calls kj3  t182 _ (by first | exact HT_.out | (refine tab_below HT_.out ?_; repeat (first | (with_reducible first | exact HB.out | apply below_alloc | apply pw_below_drewN | apply below_drew1) | exact HB.out)) | (repeat (first | exact HT_.out | apply tab_drewN | apply tab_drew))) A7.out).mono ?_); rintro e w8 ⟨rfl, hb⟩; have n0_ := Aside0.mk (below_step (by repeat (first | (with_reducible first | exact HB.out | apply below_alloc | apply pw_below_drewN | apply below_drew1) | exact HB.out)) hb); clear HB; have HB := n0_; clear n0_; (try clear hb); (try clear hb2); (try clear hk); (try clear hi))); try go_wp2_with (first | (go_at_call 12; (with_reducible refine (vinculumlaw04_awake.calls kj3  t182 _ (by first | exact HT_.out | (refine tab_below HT_.out ?_; repeat (first | (with_reducible first | exact HB.out | apply below_alloc | apply pw_below_drewN | apply below_drew1) | exact HB.out)) | (repeat (first | exact HT_.out | apply tab_drewN | apply tab_drew))) A7.out).mono ?_); rintro e w8 ⟨rfl, hb⟩; have n0_ := Aside0.mk (below_step (by repeat (first | (with_reducible first | exact HB.out | apply below_alloc | apply pw_below_drewN | apply below_drew1) | exact HB.out)) hb); clear HB; have HB := n0_; clear n0_; (try clear hb); (try clear hb2); (try clear hk); (try clear hi))))
    go_ret
    exact ⟨by first | rfl | (simp [errW_none, errW_some] <;> rfl) | (simp [*, errW_none, errW_some] <;> rfl), by repeat (first | (with_reducible first | exact HB.out | apply below_alloc | apply pw_below_drewN | apply below_drew1) | exact HB.out)⟩
   replace c6 := Bool.eq_false_iff.mpr c6
   subst c6
   have H1 : ((prime_Scan.f kj3 a0 a1 a2).bind fun bt183 => (if a0 < 1 then (vinculumlaw04_PrimeScans.j1 kj3 a0 a1 a2 bt183.1 bt183.2 true) else (if a0 > 40 then (vinculumlaw04_PrimeScans.j1 kj3 a0 a1 a2 bt183.1 bt183.2 true) else (if a1 < 1 then (vinculumlaw04_PrimeScans.j1 kj3 a0 a1 a2 bt183.1 bt183.2 true) else (if a1 > 64 then (vinculumlaw04_PrimeScans.j1 kj3 a0 a1 a2 bt183.1 bt183.2 true) else (vinculumlaw04_PrimeScans.j1 kj3 a0 a1 a2 bt183.1 bt183.2 (decide (a2 > 9223372036854775808)))))))) = some r := by rw [if_neg (show ¬ (false = true) by decide)] at H; exact H
   clear H
   have H := H1
   clear H1
   replace H := Option.bind_eq_some_iff.mp H
   obtain ⟨⟨t183, t184⟩, A90, H⟩ := H
   replace H : (if a0 < 1 then (vinculumlaw04_PrimeScans.j1 kj3 a0 a1 a2 t183 t184 true) else (if a0 > 40 then (vinculumlaw04_PrimeScans.j1 kj3 a0 a1 a2 t183 t184 true) else (if a1 < 1 then (vinculumlaw04_PrimeScans.j1 kj3 a0 a1 a2 t183 t184 true) else (if a1 > 64 then (vinculumlaw04_PrimeScans.j1 kj3 a0 a1 a2 t183 t184 true) else (vinculumlaw04_PrimeScans.j1 kj3 a0 a1 a2 t183 t184 (decide (a2 > 9223372036854775808))))))) = some r := H
   have A9 := Aside0.mk A90
   clear A90
   have HC10 := Aside0.mk H
   clear H
   go_upto_region 4 with (first | (go_at_call 18; (with_reducible refine (prime_Scan.calls kj3 a0 a1 a2 t183 t184 _ (by first | exact HT_.out | (refine tab_below HT_.out ?_; repeat (first | (with_reducible first | exact HB.out | apply below_alloc | apply pw_below_drewN | apply below_drew1) | exact HB.out)) | (repeat (first | exact HT_.out | apply tab_drewN | apply tab_drew))) A9.out).mono ?_); rintro e w11 ⟨v185, rfl, ho0, hb⟩; have n0_ := Aside0.mk (Kd.R_lower ho0 (below_size (by repeat (first | (with_reducible first | exact HB.out | apply below_alloc | apply pw_below_drewN | apply below_drew1) | exact HB.out)))); have n1_ := Aside0.mk (below_step (by repeat (first | (with_reducible first | exact HB.out | apply below_alloc | apply pw_below_drewN | apply below_drew1) | exact HB.out)) hb); clear HB; have HO186 := n0_; have HB := n1_; clear n0_ n1_; (try clear hb); (try clear hb2); (try clear hk); (try clear hi); (try clear ho0)))
   repeat (go_quiet (first | (go_at_call 18; (with_reducible refine (prime_Scan.calls kj3 a0 a1 a2 t183 t184 _ (by first | exact HT_.out | (refine tab_below HT_.out ?_; repeat (first | (with_reducible first | exact HB.out | apply below_alloc | apply pw_below_drewN | apply below_drew1) | exact HB.out)) | (repeat (first | exact HT_.out | apply tab_drewN | apply tab_drew))) A9.out).mono ?_); rintro e w11 ⟨v185, rfl, ho0, hb⟩; have n0_ := Aside0.mk (Kd.R_lower ho0 (below_size (by repeat (first | (with_reducible first | exact HB.out | apply below_alloc | apply pw_below_drewN | apply below_drew1) | exact HB.out)))); have n1_ := Aside0.mk (below_step (by repeat (first | (with_reducible first | exact HB.out | apply below_alloc | apply pw_below_drewN | apply below_drew1) | exact HB.out)) hb); clear HB; have HO186 := n0_; have HB := n1_; clear n0_ n1_; (try clear hb); (try clear hb2); (try clear hk); (try clear hi); (try clear ho0))); go_upto_region 4 with (first | (go_at_call 18; (with_reducible refine (prime_Scan.calls kj3 a0 a1 a2 t183 t184 _ (by first | exact HT_.out | (refine tab_below HT_.out ?_; repeat (first | (with_reducible first | exact HB.out | apply below_alloc | apply pw_below_drewN | apply below_drew1) | exact HB.out)) | (repeat (first | exact HT_.out | apply tab_drewN | apply tab_drew))) A9.out).mono ?_); rintro e w11 ⟨v185, rfl, ho0, hb⟩; have n0_ := Aside0.mk (Kd.R_lower ho0 (below_size (by repeat (first | (with_reducible first | exact HB.out | apply below_alloc | apply pw_below_drewN | apply below_drew1) | exact HB.out)))); have n1_ := Aside0.mk (below_step (by repeat (first | (with_reducible first | exact HB.out | apply below_alloc | apply pw_below_drewN | apply below_drew1) | exact HB.out)) hb); clear HB; have HO186 := n0_; have HB := n1_; clear n0_ n1_; (try clear hb); (try clear hb2); (try clear hk); (try clear hi); (try clear ho0))))
   (try simp only [Act.put, List.setIfInBounds_toArray, List.set_cons_zero, List.set_cons_succ])
   go_cut [42] (fun v42 wc => ∃ (kq : Nat) (x42_9 : Bool), v42 = .bool x42_9 ∧ Aside0 (vinculumlaw04_PrimeScans.j1 kq a0 a1 a2 t183 t184 x42_9 = some r) ∧ Aside0 (kq ≤ kj3) ∧ Aside0 (Kd.R (Kd.int .u64) 22 wc w.heap.size (fun _ => True) v185 t183) ∧ Aside0 (Below w.heap.size w wc))
   case first =>
    have H := HC10.out
    clear HC10
    by_cases c12 : a0 < 1
    ·rw [if_pos c12] at H
     have c12b0 : decide (a0 < 1) = true := decide_eq_true c12
     clear c12
     (first | rw [c12b0] | (simp only [i64_w, i32_w]; rw [c12b0]) | skip)
     have H' := Aside0.mk H
     clear H
     go_wp2
     repeat (go_quiet (fail); try go_wp2)
     go_meet
     case rel => exact ⟨_, (true), (by first | rfl | (simp; done) | (simp [*]; done)), H', ⟨by have := HJ3.out; first | omega | exact Nat.le_refl _⟩, ⟨by (with_reducible repeat (first | apply Kd.R_alloc | apply Kd.R_drewN | apply Kd.R_drew)); exact HO186.out⟩, ⟨by repeat (first | (with_reducible first | exact HB.out | apply below_alloc | apply pw_below_drewN | apply below_drew1) | exact HB.out)⟩⟩
    rw [if_neg c12] at H
    have c12b0 : decide (a0 < 1) = false := decide_eq_false c12
    clear c12
    (first | rw [c12b0] | (simp only [i64_w, i32_w]; rw [c12b0]) | skip)
    by_cases c13 : a0 > 40
    ·rw [if_pos c13] at H
     have c13b0 : decide (40 < a0) = true := decide_eq_true c13
     clear c13
     have H' := Aside0.mk H
     clear H
     go_wp2
     repeat (go_quiet (fail); try go_wp2)
     go_meet
     case rel => exact ⟨_, (true), (by first | rfl | (simp; done) | (simp [*]; done)), H', ⟨by have := HJ3.out; first | omega | exact Nat.le_refl _⟩, ⟨by (with_reducible repeat (first | apply Kd.R_alloc | apply Kd.R_drewN | apply Kd.R_drew)); exact HO186.out⟩, ⟨by repeat (first | (with_reducible first | exact HB.out | apply below_alloc | apply pw_below_drewN | apply below_drew1) | exact HB.out)⟩⟩
    rw [if_neg c13] at H
    have c13b0 : decide (40 < a0) = false := decide_eq_false c13
    clear c13
    by_cases c14 : a1 < 1
    ·rw [if_pos c14] at H
     have c14b0 : decide (a1 < 1) = true := decide_eq_true c14
     clear c14
     have H' := Aside0.mk H
     clear H
     go_wp2
     repeat (go_quiet (fail); try go_wp2)
     go_meet
     case rel => exact ⟨_, (true), (by first | rfl | (simp; done) | (simp [*]; done)), H', ⟨by have := HJ3.out; first | omega | exact Nat.le_refl _⟩, ⟨by (with_reducible repeat (first | apply Kd.R_alloc | apply Kd.R_drewN | apply Kd.R_drew)); exact HO186.out⟩, ⟨by repeat (first | (with_reducible first | exact HB.out | apply below_alloc | apply pw_below_drewN | apply below_drew1) | exact HB.out)⟩⟩
    rw [if_neg c14] at H
    have c14b0 : decide (a1 < 1) = false := decide_eq_false c14
    clear c14
    by_cases c15 : a1 > 64
    ·rw [if_pos c15] at H
     have c15b0 : decide (64 < a1) = true := decide_eq_true c15
     clear c15
     have H' := Aside0.mk H
     clear H
     go_wp2
     repeat (go_quiet (fail); try go_wp2)
     go_meet
     case rel => exact ⟨_, (true), (by first | rfl | (simp; done) | (simp [*]; done)), H', ⟨by have := HJ3.out; first | omega | exact Nat.le_refl _⟩, ⟨by (with_reducible repeat (first | apply Kd.R_alloc | apply Kd.R_drewN | apply Kd.R_drew)); exact HO186.out⟩, ⟨by repeat (first | (with_reducible first | exact HB.out | apply below_alloc | apply pw_below_drewN | apply below_drew1) | exact HB.out)⟩⟩
    rw [if_neg c15] at H
    have c15b0 : decide (64 < a1) = false := decide_eq_false c15
    clear c15
    have H' := Aside0.mk H
    clear H
    go_wp2
    repeat (go_quiet (fail); try go_wp2)
    go_meet
    case rel => exact ⟨_, (decide (a2 > 9223372036854775808)), (by first | rfl | (simp; done) | (simp [*]; done)), H', ⟨by have := HJ3.out; first | omega | exact Nat.le_refl _⟩, ⟨by (with_reducible repeat (first | apply Kd.R_alloc | apply Kd.R_drewN | apply Kd.R_drew)); exact HO186.out⟩, ⟨by repeat (first | (with_reducible first | exact HB.out | apply below_alloc | apply pw_below_drewN | apply below_drew1) | exact HB.out)⟩⟩
   case rest =>
    clear HC10
    try clear c1
    try clear p2
    try clear c5
    try clear c5b0
    try clear c6
    try clear c8
    try clear c12
    try clear c12b0
    try clear c13
    try clear c13b0
    try clear c14
    try clear c14b0
    try clear c15
    try clear c15b0
    try clear p2
    obtain ⟨kq, x42_9, rfl, HA, HJ9, HO_7, HB⟩ := hcut
    cases kq with
    | zero => exact absurd HA.out (by simp [vinculumlaw04_PrimeScans.j1])
    | succ kj9 =>
     have H := HA.out
     clear HA
     simp only [vinculumlaw04_PrimeScans.j1] at H
     by_cases c16 : x42_9 = true
     ·subst c16
      have H1 : (if t184 = 1 then (if (t183.length : Int) = 0 then ((vinculumlaw04_awake.f kj9).bind fun t187 => (some t187)) else (none)) else (none)) = some r := by rw [if_pos rfl] at H; exact H
      clear H
      have H := H1
      clear H1
      by_cases c17 : t184 = 1
      ·rw [if_pos c17] at H
       have c17b0 : (t184 == 1) = true := beq_iff_eq.mpr c17
       have c17b1 : (t184 != 1) = false := bne_eq_false_iff_eq.mpr c17
       clear c17
       by_cases c18 : (t183.length : Int) = 0
       ·rw [if_pos c18] at H
        have c18b0 : ((t183.length : Int) == 0) = true := beq_iff_eq.mpr c18
        have c18b1 : ((t183.length : Int) != 0) = false := bne_eq_false_iff_eq.mpr c18
        clear c18
        replace H := Option.bind_eq_some_iff.mp H
        obtain ⟨t187, A190, H⟩ := H
        replace H : (some t187) = some r := H
        have A19 := Aside0.mk A190
        clear A190
        obtain rfl := Option.some.inj H
        obtain ⟨Ao20, co20, eo20⟩ := Kd.R_slice HO_7.out
        subst eo20
        go_wp2_with (first | (go_at_call 12; (with_reducible refine (vinculumlaw04_awake.calls kj9  t187 _ (by first | exact HT_.out | (refine tab_below HT_.out ?_; repeat (first | (with_reducible first | exact HB.out | apply below_alloc | apply pw_below_drewN | apply below_drew1) | exact HB.out)) | (repeat (first | exact HT_.out | apply tab_drewN | apply tab_drew))) A19.out).mono ?_); rintro e w21 ⟨rfl, hb⟩; have n0_ := Aside0.mk (Kd.R_below (by (with_reducible repeat (first | apply Kd.R_alloc | apply Kd.R_drewN | apply Kd.R_drew)); exact HO_7.out) hb); have n1_ := Aside0.mk (below_step (by repeat (first | (with_reducible first | exact HB.out | apply below_alloc | apply pw_below_drewN | apply below_drew1) | exact HB.out)) hb); clear HO_7; clear HB; have HO_7 := n0_; have HB := n1_; clear n0_ n1_; (try clear hb); (try clear hb2); (try clear hk); (try clear hi)))
        repeat (go_quiet (first | (go_at_call 12; (with_reducible refine (vinculumlaw04_awake.calls kj9  t187 _ (by first | exact HT_.out | (refine tab_below HT_.out ?_; repeat (first | (with_reducible first | exact HB.out | apply below_alloc | apply pw_below_drewN | apply below_drew1) | exact HB.out)) | (repeat (first | exact HT_.out | apply tab_drewN | apply tab_drew))) A19.out).mono ?_); rintro e w21 ⟨rfl, hb⟩; have n0_ := Aside0.mk (Kd.R_below (by (with_reducible repeat (first | apply Kd.R_alloc | apply Kd.R_drewN | apply Kd.R_drew)); exact HO_7.out) hb); have n1_ := Aside0.mk (below_step (by repeat (first | (with_reducible first | exact HB.out | apply below_alloc | apply pw_below_drewN | apply below_drew1) | exact HB.out)) hb); clear HO_7; clear HB; have HO_7 := n0_; have HB := n1_; clear n0_ n1_; (try clear hb); (try clear hb2); (try clear hk); (try clear hi))); try go_wp2_with (first | (go_at_call 12; (with_reducible refine (vinculumlaw04_awake.calls kj9  t187 _ (by first | exact HT_.out | (refine tab_below HT_.out ?_; repeat (first | (with_reducible first | exact HB.out | apply below_alloc | apply pw_below_drewN | apply below_drew1) | exact HB.out)) | (repeat (first | exact HT_.out | apply tab_drewN | apply tab_drew))) A19.out).mono ?_); rintro e w21 ⟨rfl, hb⟩; have n0_ := Aside0.mk (Kd.R_below (by (with_reducible repeat (first | apply Kd.R_alloc | apply Kd.R_drewN | apply Kd.R_drew)); exact HO_7.out) hb); have n1_ := Aside0.mk (below_step (by repeat (first | (with_reducible first | exact HB.out | apply below_alloc | apply pw_below_drewN | apply below_drew1) | exact HB.out)) hb); clear HO_7; clear HB; have HO_7 := n0_; have HB := n1_; clear n0_ n1_; (try clear hb); (try clear hb2); (try clear hk); (try clear hi))))
        go_ret
        exact ⟨by first | rfl | (simp [errW_none, errW_some] <;> rfl) | (simp [*, errW_none, errW_some] <;> rfl), by repeat (first | (with_reducible first | exact HB.out | apply below_alloc | apply pw_below_drewN | apply below_drew1) | exact HB.out)⟩
       rw [if_neg c18] at H
       exact absurd H (by simp)
      rw [if_neg c17] at H
      exact absurd H (by simp)
     replace c16 := Bool.eq_false_iff.mpr c16
     subst c16
     have H1 : ((vinculumref04_Scan.f kj9 a0 a1 a2).bind fun t188 => (if (t188.length : Int) < a1 then (if t184 = 19 then (if (t183.length : Int) = 0 then ((vinculumlaw04_awake.f kj9).bind fun t191 => (some t191)) else (none)) else (none)) else (if t184 = 0 then (vinculumlaw04_PrimeScans.j2 kj9 t183 t188 ((t183.length : Int) != (t188.length : Int))) else (vinculumlaw04_PrimeScans.j2 kj9 t183 t188 true)))) = some r := by rw [if_neg (show ¬ (false = true) by decide)] at H; exact H
     clear H
     have H := H1
     clear H1
     replace H := Option.bind_eq_some_iff.mp H
     obtain ⟨t188, A220, H⟩ := H
     replace H : (if (t188.length : Int) < a1 then (if t184 = 19 then (if (t183.length : Int) = 0 then ((vinculumlaw04_awake.f kj9).bind fun t191 => (some t191)) else (none)) else (none)) else (if t184 = 0 then (vinculumlaw04_PrimeScans.j2 kj9 t183 t188 ((t183.length : Int) != (t188.length : Int))) else (vinculumlaw04_PrimeScans.j2 kj9 t183 t188 true))) = some r := H
     have A22 := Aside0.mk A220
     clear A220
     by_cases c23 : (t188.length : Int) < a1
     ·rw [if_pos c23] at H
      have c23b0 : decide ((t188.length : Int) < a1) = true := decide_eq_true c23
      clear c23
      by_cases c24 : t184 = 19
      ·rw [if_pos c24] at H
       have c24b0 : (t184 == 19) = true := beq_iff_eq.mpr c24
       have c24b1 : (t184 != 19) = false := bne_eq_false_iff_eq.mpr c24
       clear c24
       by_cases c25 : (t183.length : Int) = 0
       ·rw [if_pos c25] at H
        have c25b0 : ((t183.length : Int) == 0) = true := beq_iff_eq.mpr c25
        have c25b1 : ((t183.length : Int) != 0) = false := bne_eq_false_iff_eq.mpr c25
        clear c25
        replace H := Option.bind_eq_some_iff.mp H
        obtain ⟨t191, A260, H⟩ := H
        replace H : (some t191) = some r := H
        have A26 := Aside0.mk A260
        clear A260
        obtain rfl := Option.some.inj H
        go_wp2_with (first | (go_at_call 19; (with_reducible refine (vinculumref04_Scan.calls kj9 a0 a1 a2 t188 _ A22.out).mono ?_); rintro e w27 ⟨v189, rfl, ho0, hb⟩; have n0_ := Aside0.mk (Kd.R_elder' (by (with_reducible repeat (first | apply Kd.R_alloc | apply Kd.R_drewN | apply Kd.R_drew)); exact HO_7.out) (Kd.R_base ho0) hb); have n1_ := Aside0.mk (Kd.R_lower (Kd.R_new' ho0 (Kd.R_lt (by (with_reducible repeat (first | apply Kd.R_alloc | apply Kd.R_drewN | apply Kd.R_drew)); exact HO_7.out))) (below_size (by repeat (first | (with_reducible first | exact HB.out | apply below_alloc | apply pw_below_drewN | apply below_drew1) | exact HB.out)))); have n2_ := Aside0.mk (below_step (by repeat (first | (with_reducible first | exact HB.out | apply below_alloc | apply pw_below_drewN | apply below_drew1) | exact HB.out)) hb); clear HO_7; clear HB; have HO_7 := n0_; have HO190 := n1_; have HB := n2_; clear n0_ n1_ n2_; (try clear hb); (try clear hb2); (try clear hk); (try clear hi); (try clear ho0); obtain ⟨Ao28, co28, eo28⟩ := Kd.R_slice HO190.out; subst eo28; obtain ⟨Ao29, co29, eo29⟩ := Kd.R_slice HO_7.out; subst eo29) | (go_at_call 12; (with_reducible refine (vinculumlaw04_awake.calls kj9  t191 _ (by first | exact HT_.out | (refine tab_below HT_.out ?_; repeat (first | (with_reducible first | exact HB.out | apply below_alloc | apply pw_below_drewN | apply below_drew1) | exact HB.out)) | (repeat (first | exact HT_.out | apply tab_drewN | apply tab_drew))) A26.out).mono ?_); rintro e w30 ⟨rfl, hb⟩; have n0_ := Aside0.mk (Kd.R_below (by (with_reducible repeat (first | apply Kd.R_alloc | apply Kd.R_drewN | apply Kd.R_drew)); exact HO_7.out) hb); have n1_ := Aside0.mk (Kd.R_below (by (with_reducible repeat (first | apply Kd.R_alloc | apply Kd.R_drewN | apply Kd.R_drew)); exact HO190.out) hb); have n2_ := Aside0.mk (below_step (by repeat (first | (with_reducible first | exact HB.out | apply below_alloc | apply pw_below_drewN | apply below_drew1) | exact HB.out)) hb); clear HO_7; clear HO190; clear HB; have HO_7 := n0_; have HO190 := n1_; have HB := n2_; clear n0_ n1_ n2_; (try clear hb); (try clear hb2); (try clear hk); (try clear hi)))
        repeat (go_quiet (first | (go_at_call 19; (with_reducible refine (vinculumref04_Scan.calls kj9 a0 a1 a2 t188 _ A22.out).mono ?_); rintro e w27 ⟨v189, rfl, ho0, hb⟩; have n0_ := Aside0.mk (Kd.R_elder' (by (with_reducible repeat (first | apply Kd.R_alloc | apply Kd.R_drewN | apply Kd.R_drew)); exact HO_7.out) (Kd.R_base ho0) hb); have n1_ := Aside0.mk (Kd.R_lower (Kd.R_new' ho0 (Kd.R_lt (by (with_reducible repeat (first | apply Kd.R_alloc | apply Kd.R_drewN | apply Kd.R_drew)); exact HO_7.out))) (below_size (by repeat (first | (with_reducible first | exact HB.out | apply below_alloc | apply pw_below_drewN | apply below_drew1) | exact HB.out)))); have n2_ := Aside0.mk (below_step (by repeat (first | (with_reducible first | exact HB.out | apply below_alloc | apply pw_below_drewN | apply below_drew1) | exact HB.out)) hb); clear HO_7; clear HB; have HO_7 := n0_; have HO190 := n1_; have HB := n2_; clear n0_ n1_ n2_; (try clear hb); (try clear hb2); (try clear hk); (try clear hi); (try clear ho0); obtain ⟨Ao28, co28, eo28⟩ := Kd.R_slice HO190.out; subst eo28; obtain ⟨Ao29, co29, eo29⟩ := Kd.R_slice HO_7.out; subst eo29) | (go_at_call 12; (with_reducible refine (vinculumlaw04_awake.calls kj9  t191 _ (by first | exact HT_.out | (refine tab_below HT_.out ?_; repeat (first | (with_reducible first | exact HB.out | apply below_alloc | apply pw_below_drewN | apply below_drew1) | exact HB.out)) | (repeat (first | exact HT_.out | apply tab_drewN | apply tab_drew))) A26.out).mono ?_); rintro e w30 ⟨rfl, hb⟩; have n0_ := Aside0.mk (Kd.R_below (by (with_reducible repeat (first | apply Kd.R_alloc | apply Kd.R_drewN | apply Kd.R_drew)); exact HO_7.out) hb); have n1_ := Aside0.mk (Kd.R_below (by (with_reducible repeat (first | apply Kd.R_alloc | apply Kd.R_drewN | apply Kd.R_drew)); exact HO190.out) hb); have n2_ := Aside0.mk (below_step (by repeat (first | (with_reducible first | exact HB.out | apply below_alloc | apply pw_below_drewN | apply below_drew1) | exact HB.out)) hb); clear HO_7; clear HO190; clear HB; have HO_7 := n0_; have HO190 := n1_; have HB := n2_; clear n0_ n1_ n2_; (try clear hb); (try clear hb2); (try clear hk); (try clear hi))); try go_wp2_with (first | (go_at_call 19; (with_reducible refine (vinculumref04_Scan.calls kj9 a0 a1 a2 t188 _ A22.out).mono ?_); rintro e w27 ⟨v189, rfl, ho0, hb⟩; have n0_ := Aside0.mk (Kd.R_elder' (by (with_reducible repeat (first | apply Kd.R_alloc | apply Kd.R_drewN | apply Kd.R_drew)); exact HO_7.out) (Kd.R_base ho0) hb); have n1_ := Aside0.mk (Kd.R_lower (Kd.R_new' ho0 (Kd.R_lt (by (with_reducible repeat (first | apply Kd.R_alloc | apply Kd.R_drewN | apply Kd.R_drew)); exact HO_7.out))) (below_size (by repeat (first | (with_reducible first | exact HB.out | apply below_alloc | apply pw_below_drewN | apply below_drew1) | exact HB.out)))); have n2_ := Aside0.mk (below_step (by repeat (first | (with_reducible first | exact HB.out | apply below_alloc | apply pw_below_drewN | apply below_drew1) | exact HB.out)) hb); clear HO_7; clear HB; have HO_7 := n0_; have HO190 := n1_; have HB := n2_; clear n0_ n1_ n2_; (try clear hb); (try clear hb2); (try clear hk); (try clear hi); (try clear ho0); obtain ⟨Ao28, co28, eo28⟩ := Kd.R_slice HO190.out; subst eo28; obtain ⟨Ao29, co29, eo29⟩ := Kd.R_slice HO_7.out; subst eo29) | (go_at_call 12; (with_reducible refine (vinculumlaw04_awake.calls kj9  t191 _ (by first | exact HT_.out | (refine tab_below HT_.out ?_; repeat (first | (with_reducible first | exact HB.out | apply below_alloc | apply pw_below_drewN | apply below_drew1) | exact HB.out)) | (repeat (first | exact HT_.out | apply tab_drewN | apply tab_drew))) A26.out).mono ?_); rintro e w30 ⟨rfl, hb⟩; have n0_ := Aside0.mk (Kd.R_below (by (with_reducible repeat (first | apply Kd.R_alloc | apply Kd.R_drewN | apply Kd.R_drew)); exact HO_7.out) hb); have n1_ := Aside0.mk (Kd.R_below (by (with_reducible repeat (first | apply Kd.R_alloc | apply Kd.R_drewN | apply Kd.R_drew)); exact HO190.out) hb); have n2_ := Aside0.mk (below_step (by repeat (first | (with_reducible first | exact HB.out | apply below_alloc | apply pw_below_drewN | apply below_drew1) | exact HB.out)) hb); clear HO_7; clear HO190; clear HB; have HO_7 := n0_; have HO190 := n1_; have HB := n2_; clear n0_ n1_ n2_; (try clear hb); (try clear hb2); (try clear hk); (try clear hi))))
        go_ret
        exact ⟨by first | rfl | (simp [errW_none, errW_some] <;> rfl) | (simp [*, errW_none, errW_some] <;> rfl), by repeat (first | (with_reducible first | exact HB.out | apply below_alloc | apply pw_below_drewN | apply below_drew1) | exact HB.out)⟩
       rw [if_neg c25] at H
       exact absurd H (by simp)
      rw [if_neg c24] at H
      exact absurd H (by simp)
     rw [if_neg c23] at H
     have c23b0 : decide ((t188.length : Int) < a1) = false := decide_eq_false c23
     clear c23
     have HC31 := Aside0.mk H
     clear H
     go_upto_region 9 with (first | (go_at_call 19; (with_reducible refine (vinculumref04_Scan.calls kj9 a0 a1 a2 t188 _ A22.out).mono ?_); rintro e w32 ⟨v189, rfl, ho0, hb⟩; have n0_ := Aside0.mk (Kd.R_elder' (by (with_reducible repeat (first | apply Kd.R_alloc | apply Kd.R_drewN | apply Kd.R_drew)); exact HO_7.out) (Kd.R_base ho0) hb); have n1_ := Aside0.mk (Kd.R_lower (Kd.R_new' ho0 (Kd.R_lt (by (with_reducible repeat (first | apply Kd.R_alloc | apply Kd.R_drewN | apply Kd.R_drew)); exact HO_7.out))) (below_size (by repeat (first | (with_reducible first | exact HB.out | apply below_alloc | apply pw_below_drewN | apply below_drew1) | exact HB.out)))); have n2_ := Aside0.mk (below_step (by repeat (first | (with_reducible first | exact HB.out | apply below_alloc | apply pw_below_drewN | apply below_drew1) | exact HB.out)) hb); clear HO_7; clear HB; have HO_7 := n0_; have HO190 := n1_; have HB := n2_; clear n0_ n1_ n2_; (try clear hb); (try clear hb2); (try clear hk); (try clear hi); (try clear ho0); obtain ⟨Ao33, co33, eo33⟩ := Kd.R_slice HO190.out; subst eo33))
     repeat (go_quiet (first | (go_at_call 19; (with_reducible refine (vinculumref04_Scan.calls kj9 a0 a1 a2 t188 _ A22.out).mono ?_); rintro e w32 ⟨v189, rfl, ho0, hb⟩; have n0_ := Aside0.mk (Kd.R_elder' (by (with_reducible repeat (first | apply Kd.R_alloc | apply Kd.R_drewN | apply Kd.R_drew)); exact HO_7.out) (Kd.R_base ho0) hb); have n1_ := Aside0.mk (Kd.R_lower (Kd.R_new' ho0 (Kd.R_lt (by (with_reducible repeat (first | apply Kd.R_alloc | apply Kd.R_drewN | apply Kd.R_drew)); exact HO_7.out))) (below_size (by repeat (first | (with_reducible first | exact HB.out | apply below_alloc | apply pw_below_drewN | apply below_drew1) | exact HB.out)))); have n2_ := Aside0.mk (below_step (by repeat (first | (with_reducible first | exact HB.out | apply below_alloc | apply pw_below_drewN | apply below_drew1) | exact HB.out)) hb); clear HO_7; clear HB; have HO_7 := n0_; have HO190 := n1_; have HB := n2_; clear n0_ n1_ n2_; (try clear hb); (try clear hb2); (try clear hk); (try clear hi); (try clear ho0); obtain ⟨Ao33, co33, eo33⟩ := Kd.R_slice HO190.out; subst eo33)); go_upto_region 9 with (first | (go_at_call 19; (with_reducible refine (vinculumref04_Scan.calls kj9 a0 a1 a2 t188 _ A22.out).mono ?_); rintro e w32 ⟨v189, rfl, ho0, hb⟩; have n0_ := Aside0.mk (Kd.R_elder' (by (with_reducible repeat (first | apply Kd.R_alloc | apply Kd.R_drewN | apply Kd.R_drew)); exact HO_7.out) (Kd.R_base ho0) hb); have n1_ := Aside0.mk (Kd.R_lower (Kd.R_new' ho0 (Kd.R_lt (by (with_reducible repeat (first | apply Kd.R_alloc | apply Kd.R_drewN | apply Kd.R_drew)); exact HO_7.out))) (below_size (by repeat (first | (with_reducible first | exact HB.out | apply below_alloc | apply pw_below_drewN | apply below_drew1) | exact HB.out)))); have n2_ := Aside0.mk (below_step (by repeat (first | (with_reducible first | exact HB.out | apply below_alloc | apply pw_below_drewN | apply below_drew1) | exact HB.out)) hb); clear HO_7; clear HB; have HO_7 := n0_; have HO190 := n1_; have HB := n2_; clear n0_ n1_ n2_; (try clear hb); (try clear hb2); (try clear hk); (try clear hi); (try clear ho0); obtain ⟨Ao33, co33, eo33⟩ := Kd.R_slice HO190.out; subst eo33)))
     (try simp only [Act.put, List.setIfInBounds_toArray, List.set_cons_zero, List.set_cons_succ])
     go_cut [79] (fun v79 wc => ∃ (kq : Nat) (x79_30 : Bool), v79 = .bool x79_30 ∧ Aside0 (vinculumlaw04_PrimeScans.j2 kq t183 t188 x79_30 = some r) ∧ Aside0 (kq ≤ kj9) ∧ Aside0 (Kd.R (Kd.int .u64) 22 wc w.heap.size (fun k_ => some k_ ≠ ((.slice Ao33 t188.length co33) : Value).ownBlock) v185 t183) ∧ Aside0 (Kd.R (Kd.int .u64) 22 wc w.heap.size (fun k_ => some k_ ≠ (v185 : Value).ownBlock) (.slice Ao33 t188.length co33) t188) ∧ Aside0 (Below w.heap.size w wc))
     case first =>
      have H := HC31.out
      clear HC31
      by_cases c34 : t184 = 0
      ·rw [if_pos c34] at H
       have c34b0 : (t184 == 0) = true := beq_iff_eq.mpr c34
       have c34b1 : (t184 != 0) = false := bne_eq_false_iff_eq.mpr c34
       clear c34
       (first | rw [c34b0] | (simp only [i64_w, i32_w]; rw [c34b0]) | skip)
       have H' := Aside0.mk H
       clear H
       obtain ⟨Ao35, co35, eo35⟩ := Kd.R_slice HO_7.out
       subst eo35
       go_wp2
       repeat (go_quiet (fail); try go_wp2)
       go_meet
       case rel => exact ⟨_, (((t183.length : Int) != (t188.length : Int))), (by first | rfl | (simp; done) | (simp [*]; done)), H', ⟨by have := HJ3.out; have := HJ9.out; first | omega | exact Nat.le_refl _⟩, ⟨by (with_reducible repeat (first | apply Kd.R_alloc | apply Kd.R_drewN | apply Kd.R_drew)); exact Kd.R_mono HO_7.out (fun _ hk => hk.2)⟩, ⟨by (with_reducible repeat (first | apply Kd.R_alloc | apply Kd.R_drewN | apply Kd.R_drew)); exact Kd.R_mono HO190.out (fun _ hk => hk.2)⟩, ⟨by repeat (first | (with_reducible first | exact HB.out | apply below_alloc | apply pw_below_drewN | apply below_drew1) | exact HB.out)⟩⟩
      rw [if_neg c34] at H
      have c34b0 : (t184 == 0) = false := beq_eq_false_iff_ne.mpr c34
      have c34b1 : (t184 != 0) = true := bne_iff_ne.mpr c34
      (first | rw [c34b0] | (simp only [i64_w, i32_w]; rw [c34b0]) | skip)
      have H' := Aside0.mk H
      clear H
      go_wp2
      repeat (go_quiet (fail); try go_wp2)
      go_meet
      case rel => exact ⟨_, (true), (by first | rfl | (simp; done) | (simp [*]; done)), H', ⟨by have := HJ3.out; have := HJ9.out; first | omega | exact Nat.le_refl _⟩, ⟨by (with_reducible repeat (first | apply Kd.R_alloc | apply Kd.R_drewN | apply Kd.R_drew)); exact Kd.R_mono HO_7.out (fun _ hk => hk.2)⟩, ⟨by (with_reducible repeat (first | apply Kd.R_alloc | apply Kd.R_drewN | apply Kd.R_drew)); exact Kd.R_mono HO190.out (fun _ hk => hk.2)⟩, ⟨by repeat (first | (with_reducible first | exact HB.out | apply below_alloc | apply pw_below_drewN | apply below_drew1) | exact HB.out)⟩⟩
     case rest =>
      clear HC31
      try clear c1
      try clear c2
      try clear p2
      try clear c3
      try clear c5
      try clear c5b0
      try clear c6
      try clear c8
      try clear c12
      try clear c12b0
      try clear c13
      try clear c13b0
      try clear c14
      try clear c14b0
      try clear c15
      try clear c15b0
      try clear c16
      try clear c17
      try clear c17b0
      try clear c17b1
      try clear c18
      try clear c18b0
      try clear c18b1
      try clear c23
      try clear c23b0
      try clear c24
      try clear c24b0
      try clear c24b1
      try clear c25
      try clear c25b0
      try clear c25b1
      try clear c34
      try clear c34b0
      try clear c34b1
      try clear p2
      obtain ⟨kq, x79_30, rfl, HA, HJ30, HO_7, HO_9, HB⟩ := hcut
      cases kq with
      | zero => exact absurd HA.out (by simp [vinculumlaw04_PrimeScans.j2])
      | succ kj30 =>
       have H := HA.out
       clear HA
       simp only [vinculumlaw04_PrimeScans.j2] at H
       by_cases c36 : x79_30 = true
       ·subst c36
        have H1 : (none) = some r := by rw [if_pos rfl] at H; exact H
        clear H
        have H := H1
        clear H1
        exact absurd H (by simp)
       replace c36 := Bool.eq_false_iff.mpr c36
       subst c36
       have H1 : (vinculumlaw04_PrimeScans.l0 kj30 t183 t188 0) = some r := by rw [if_neg (show ¬ (false = true) by decide)] at H; exact H
       clear H
       have H := H1
       clear H1
       have H' := Aside0.mk H
       clear H
       go_wp2
       repeat (go_quiet (fail); try go_wp2)
       go_loopg [10] kj30 (fun kq v10 w' => ∃ (x10_4 : Int), v10 = .int .i64 x10_4 ∧ Aside0 (vinculumlaw04_PrimeScans.l0 kq t183 t188 x10_4 = some r) ∧ Aside0 (kq ≤ kj30) ∧ Aside0 (Kd.R (Kd.int .u64) 22 w' w.heap.size (fun k_ => some k_ ≠ ((.slice Ao33 t188.length co33) : Value).ownBlock) v185 t183) ∧ Aside0 (Kd.R (Kd.int .u64) 22 w' w.heap.size (fun k_ => some k_ ≠ (v185 : Value).ownBlock) (.slice Ao33 t188.length co33) t188) ∧ Aside0 (Below w.heap.size w w'))
       case atStart => exact ⟨(0), (by first | rfl | (simp; done) | (simp [*]; done)), H', ⟨Nat.le_refl _⟩, ⟨by (with_reducible repeat (first | apply Kd.R_alloc | apply Kd.R_drewN | apply Kd.R_drew)); exact HO_7.out⟩, ⟨by (with_reducible repeat (first | apply Kd.R_alloc | apply Kd.R_drewN | apply Kd.R_drew)); exact HO_9.out⟩, ⟨by repeat (first | (with_reducible first | exact HB.out | apply below_alloc | apply pw_below_drewN | apply below_drew1) | exact HB.out)⟩⟩
       case round =>
        clear H'
        try clear c1
        try clear c2
        try clear p2
        try clear c3
        try clear c5
        try clear c5b0
        try clear c6
        try clear c8
        try clear c12
        try clear c12b0
        try clear c13
        try clear c13b0
        try clear c14
        try clear c14b0
        try clear c15
        try clear c15b0
        try clear c16
        try clear c17
        try clear c17b0
        try clear c17b1
        try clear c18
        try clear c18b0
        try clear c18b1
        try clear c23
        try clear c23b0
        try clear c24
        try clear c24b0
        try clear c24b1
        try clear c25
        try clear c25b0
        try clear c25b1
        try clear c34
        try clear c34b0
        try clear c34b1
        try clear c36
        try clear p2
        obtain ⟨x10_4, rfl, HA, HK4, HO_7, HO_9, HB⟩ := hrel
        cases gk with
        | zero => exact absurd HA.out (by simp [vinculumlaw04_PrimeScans.l0])
        | succ k4 =>
         have H := HA.out
         clear HA
         simp only [vinculumlaw04_PrimeScans.l0] at H
         by_cases c37 : x10_4 < (t183.length : Int)
         ·rw [if_pos c37] at H
          have c37b0 : decide (x10_4 < (t183.length : Int)) = true := decide_eq_true c37
          clear c37
          by_cases c38 : 0 ≤ x10_4
          ·rw [if_pos c38] at H
           have c38b0 : decide (0 ≤ x10_4) = true := decide_eq_true c38
           clear c38
           by_cases c39 : x10_4 < (t188.length : Int)
           ·rw [if_pos c39] at H
            have c39b0 : decide (x10_4 < (t188.length : Int)) = true := decide_eq_true c39
            clear c39
            by_cases c40 : (rd t183 x10_4) = (rd t188 x10_4)
            ·rw [if_pos c40] at H
             have c40b0 : ((rd t183 x10_4) == (rd t188 x10_4)) = true := beq_iff_eq.mpr c40
             have c40b1 : ((rd t183 x10_4) != (rd t188 x10_4)) = false := bne_eq_false_iff_eq.mpr c40
             clear c40
             have H' := Aside0.mk H
             clear H
             obtain ⟨Ao41, co41, eo41⟩ := Kd.R_slice HO_7.out
             subst eo41
             have p192 : 0 ≤ (x10_4 : Int) := of_decide_eq_true (by first | (with_reducible assumption) | assumption)
             have q192 : x10_4 < (t183.length : Int) := of_decide_eq_true (by first | (with_reducible assumption) | assumption)
             obtain ⟨ad192, e192, hx192_0⟩ := Kd.at_int (Kd.R_reads' HO_7.out).2.2 x10_4 p192 q192
             cases e192
             replace p192 := eq_true p192
             replace q192 := eq_true q192
             have p193 : 0 ≤ (x10_4 : Int) := of_decide_eq_true (by first | (with_reducible assumption) | assumption)
             have q193 : x10_4 < (t188.length : Int) := of_decide_eq_true (by first | (with_reducible assumption) | assumption)
             obtain ⟨ad193, e193, hx193_0⟩ := Kd.at_int (Kd.R_reads' HO_9.out).2.2 x10_4 p193 q193
             cases e193
             replace p193 := eq_true p193
             replace q193 := eq_true q193
             go_wp2
             repeat (go_quiet (fail); try go_wp2)
             go_roundg k4
             case measure => have := HJ3.out; have := HJ9.out; have := HJ30.out; have := HK4.out; omega
             case rel => exact ⟨(wrap64 (x10_4 + 1)), (by first | rfl | (simp; done) | (simp [*]; done)), H', ⟨by have := HJ3.out; have := HJ9.out; have := HJ30.out; have := HK4.out; omega⟩, ⟨by (with_reducible repeat (first | apply Kd.R_alloc | apply Kd.R_drewN | apply Kd.R_drew)); exact HO_7.out⟩, ⟨by (with_reducible repeat (first | apply Kd.R_alloc | apply Kd.R_drewN | apply Kd.R_drew)); exact HO_9.out⟩, ⟨by repeat (first | (with_reducible first | exact HB.out | apply below_alloc | apply pw_below_drewN | apply below_drew1) | exact HB.out)⟩⟩
            rw [if_neg c40] at H
            exact absurd H (by simp)
           rw [if_neg c39] at H
           exact absurd H (by simp)
          rw [if_neg c38] at H
          exact absurd H (by simp)
         rw [if_neg c37] at H
         have c37b0 : decide (x10_4 < (t183.length : Int)) = false := decide_eq_false c37
         clear c37
         replace H := Option.bind_eq_some_iff.mp H
         obtain ⟨t194, A420, H⟩ := H
         replace H : (some t194) = some r := H
         have A42 := Aside0.mk A420
         clear A420
         obtain rfl := Option.some.inj H
         obtain ⟨Ao43, co43, eo43⟩ := Kd.R_slice HO_7.out
         subst eo43
         go_wp2_with (first | (go_at_call 12; (with_reducible refine (vinculumlaw04_awake.calls k4  t194 _ (by first | exact HT_.out | (refine tab_below HT_.out ?_; repeat (first | (with_reducible first | exact HB.out | apply below_alloc | apply pw_below_drewN | apply below_drew1) | exact HB.out)) | (repeat (first | exact HT_.out | apply tab_drewN | apply tab_drew))) A42.out).mono ?_); rintro e w44 ⟨rfl, hb⟩; have n0_ := Aside0.mk (Kd.R_below (by (with_reducible repeat (first | apply Kd.R_alloc | apply Kd.R_drewN | apply Kd.R_drew)); exact HO_7.out) hb); have n1_ := Aside0.mk (Kd.R_below (by (with_reducible repeat (first | apply Kd.R_alloc | apply Kd.R_drewN | apply Kd.R_drew)); exact HO_9.out) hb); have n2_ := Aside0.mk (below_step (by repeat (first | (with_reducible first | exact HB.out | apply below_alloc | apply pw_below_drewN | apply below_drew1) | exact HB.out)) hb); clear HO_7; clear HO_9; clear HB; have HO_7 := n0_; have HO_9 := n1_; have HB := n2_; clear n0_ n1_ n2_; (try clear hb); (try clear hb2); (try clear hk); (try clear hi)))
         repeat (go_quiet (first | (go_at_call 12; (with_reducible refine (vinculumlaw04_awake.calls k4  t194 _ (by first | exact HT_.out | (refine tab_below HT_.out ?_; repeat (first | (with_reducible first | exact HB.out | apply below_alloc | apply pw_below_drewN | apply below_drew1) | exact HB.out)) | (repeat (first | exact HT_.out | apply tab_drewN | apply tab_drew))) A42.out).mono ?_); rintro e w44 ⟨rfl, hb⟩; have n0_ := Aside0.mk (Kd.R_below (by (with_reducible repeat (first | apply Kd.R_alloc | apply Kd.R_drewN | apply Kd.R_drew)); exact HO_7.out) hb); have n1_ := Aside0.mk (Kd.R_below (by (with_reducible repeat (first | apply Kd.R_alloc | apply Kd.R_drewN | apply Kd.R_drew)); exact HO_9.out) hb); have n2_ := Aside0.mk (below_step (by repeat (first | (with_reducible first | exact HB.out | apply below_alloc | apply pw_below_drewN | apply below_drew1) | exact HB.out)) hb); clear HO_7; clear HO_9; clear HB; have HO_7 := n0_; have HO_9 := n1_; have HB := n2_; clear n0_ n1_ n2_; (try clear hb); (try clear hb2); (try clear hk); (try clear hi))); try go_wp2_with (first | (go_at_call 12; (with_reducible refine (vinculumlaw04_awake.calls k4  t194 _ (by first | exact HT_.out | (refine tab_below HT_.out ?_; repeat (first | (with_reducible first | exact HB.out | apply below_alloc | apply pw_below_drewN | apply below_drew1) | exact HB.out)) | (repeat (first | exact HT_.out | apply tab_drewN | apply tab_drew))) A42.out).mono ?_); rintro e w44 ⟨rfl, hb⟩; have n0_ := Aside0.mk (Kd.R_below (by (with_reducible repeat (first | apply Kd.R_alloc | apply Kd.R_drewN | apply Kd.R_drew)); exact HO_7.out) hb); have n1_ := Aside0.mk (Kd.R_below (by (with_reducible repeat (first | apply Kd.R_alloc | apply Kd.R_drewN | apply Kd.R_drew)); exact HO_9.out) hb); have n2_ := Aside0.mk (below_step (by repeat (first | (with_reducible first | exact HB.out | apply below_alloc | apply pw_below_drewN | apply below_drew1) | exact HB.out)) hb); clear HO_7; clear HO_9; clear HB; have HO_7 := n0_; have HO_9 := n1_; have HB := n2_; clear n0_ n1_ n2_; (try clear hb); (try clear hb2); (try clear hk); (try clear hi))))
         go_ret
         exact ⟨by first | rfl | (simp [errW_none, errW_some] <;> rfl) | (simp [*, errW_none, errW_some] <;> rfl), by repeat (first | (with_reducible first | exact HB.out | apply below_alloc | apply pw_below_drewN | apply below_drew1) | exact HB.out)⟩

/-- THE ONE PURE STATEMENT of vinculumlaw04_PrimeScans: yours. -/
def vinculumlaw04_PrimeScans.Pure : Prop := ∀ (a0 : Int) (a1 : Int) (a2 : Int), (Lit.int .i64 a0).wf = true → (Lit.int .i64 a1).wf = true → (Lit.int .u64 a2).wf = true → ∃ k, vinculumlaw04_PrimeScans.f k a0 a1 a2 = some true
theorem vinculumlaw04_PrimeScans.walk (P : vinculumlaw04_PrimeScans.Pure) (a0 : Int) (a1 : Int) (a2 : Int) (w : World) (w0 : (Lit.int .i64 a0).wf = true) (w1 : (Lit.int .i64 a1).wf = true) (w2 : (Lit.int .u64 a2).wf = true) (hT_ : TabAt 0 Lib.deBruijn64tab w) :
  Calls Tryd.prog 8 #[.int .i64 a0, .int .i64 a1, .int .u64 a2] w fun e w' => e = .returned (.bool true) ∧ Below w.heap.size w w' := by
 have HT_ := Aside0.mk hT_
 clear hT_
 obtain ⟨k, h⟩ := P a0 a1 a2 w0 w1 w2
 refine (vinculumlaw04_PrimeScans.calls k a0 a1 a2 true w (by first | exact HT_.out | (refine tab_below HT_.out ?_; repeat (first | (with_reducible first | exact HB.out | apply below_alloc | apply pw_below_drewN | apply below_drew1) | exact HB.out)) | (repeat (first | exact HT_.out | apply tab_drewN | apply tab_drew))) h).mono ?_
 rintro e w' ⟨rfl, hd⟩
 exact ⟨rfl, hd⟩

end Go.Proofs.YtnlklfhgdefbaaaDoor.GN
-- thin

-- Written by wip/tools/myprint.py (this session's program, over the kit's print.py).
import Derived.Test.YtnlklfhgdefbaaaDoorGNx0
import Derived.Test.YtnlklfhgdefbaaaDoorGNx4
import Derived.Test.YtnlklfhgdefbaaaDoorGNx5
namespace Go.Proofs.YtnlklfhgdefbaaaDoor.GN
open Go.RowKit Go.Proofs.YtnlklfhgdefbaaaDoorW.PrintWords Go.Proofs.YtnlklfhgdefbaaaDoorW.PrintLast Go.Proofs.YtnlklfhgdefbaaaDoorW.PrintMore
attribute [local go_sem] max2_int min2_int max_two min_two max_three min_three max_four min_four   -- for this text's walks alone
set_option linter.unusedVariables false
set_option linter.unusedSimpArgs false

/-! ### vinculumref04_Scan: function 19 -/
mutual
def vinculumref04_Scan.l0 : Nat → Int → Int → List Int → Int → Option (List Int)
 | 0, _, _, _, _ => none
 | k + 1, x1, x7, x8, x9 => if x9 > x7 then (vinculumref04_Scan.j1 k x1 x7 x8 x9 (decide ((x8.length : Int) < x1))) else (vinculumref04_Scan.j1 k x1 x7 x8 x9 false)
def vinculumref04_Scan.j1 : Nat → Int → Int → List Int → Int → Bool → Option (List Int)
 | 0, _, _, _, _, _ => none
 | k + 1, x1, x7, x8, x9, x22 => if x22 = true then (if x7 = 0 then (none) else (if (Int.tmod (IntKind.u64.wrap (x9 - 1)) x7) = ((1 : Int) % x7) then ((vinculumref04_Is.f k (IntKind.u64.wrap (x9 - 1))).bind fun t163 => (if t163 = true then (if x8.length < 17592186044416 then (vinculumref04_Scan.l0 k x1 x7 (x8 ++ [IntKind.u64.wrap (x9 - 1)]) (IntKind.u64.wrap (x9 - 1))) else (none)) else (vinculumref04_Scan.l0 k x1 x7 x8 (IntKind.u64.wrap (x9 - 1))))) else (vinculumref04_Scan.l0 k x1 x7 x8 (IntKind.u64.wrap (x9 - 1))))) else (some x8)
end
def vinculumref04_Scan.f (k : Nat) (a0 : Int) (a1 : Int) (a2 : Int) : Option (List Int) := (vinculumref03_Pow.f k 2 (IntKind.u64.wrap (a0)) 4611686018427387904).bind fun t162 => (vinculumref04_Scan.l0 k a1 t162 ([] : List Int) a2)
theorem vinculumref04_Scan.mono_l : ∀ k, (∀ y0 y1 y2 y3, LeO (vinculumref04_Scan.l0 k y0 y1 y2 y3) (vinculumref04_Scan.l0 (k + 1) y0 y1 y2 y3)) ∧ (∀ y0 y1 y2 y3 y4, LeO (vinculumref04_Scan.j1 k y0 y1 y2 y3 y4) (vinculumref04_Scan.j1 (k + 1) y0 y1 y2 y3 y4))
 | 0 => ⟨fun _ _ _ _ r h => by simp [vinculumref04_Scan.l0] at h, fun _ _ _ _ _ r h => by simp [vinculumref04_Scan.j1] at h⟩
 | k + 1 => by
  obtain ⟨ih0, ih1⟩ := vinculumref04_Scan.mono_l k
  refine ⟨?_, ?_⟩
  ·intro y0 y1 y2 y3
   unfold vinculumref04_Scan.l0
   repeat' first
   | (with_reducible exact ih0 _ _ _ _)
   | (with_reducible exact ih1 _ _ _ _ _)
   | (with_reducible exact vinculumref03_Pow.mono _ _ _ _)
   | (with_reducible exact vinculumref04_Is.mono _ _)
   | (with_reducible exact LeO.refl _)
   | (with_reducible exact LeO.none _)
   | (with_reducible refine LeO.ite ?_ ?_)
   | (with_reducible refine LeO.bind ?_ (fun _ => ?_))
   | exact ih0 _ _ _ _
   | exact ih1 _ _ _ _ _
   | exact vinculumref03_Pow.mono _ _ _ _
   | exact vinculumref04_Is.mono _ _
   | exact LeO.none _
   | refine LeO.ite ?_ ?_
   | refine LeO.bind ?_ (fun _ => ?_)
  intro y0 y1 y2 y3 y4
  unfold vinculumref04_Scan.j1
  repeat' first
  | (with_reducible exact ih0 _ _ _ _)
  | (with_reducible exact ih1 _ _ _ _ _)
  | (with_reducible exact vinculumref03_Pow.mono _ _ _ _)
  | (with_reducible exact vinculumref04_Is.mono _ _)
  | (with_reducible exact LeO.refl _)
  | (with_reducible exact LeO.none _)
  | (with_reducible refine LeO.ite ?_ ?_)
  | (with_reducible refine LeO.bind ?_ (fun _ => ?_))
  | exact ih0 _ _ _ _
  | exact ih1 _ _ _ _ _
  | exact vinculumref03_Pow.mono _ _ _ _
  | exact vinculumref04_Is.mono _ _
  | exact LeO.none _
  | refine LeO.ite ?_ ?_
  | refine LeO.bind ?_ (fun _ => ?_)
theorem vinculumref04_Scan.mono : ∀ a0 a1 a2 k, LeO (vinculumref04_Scan.f k a0 a1 a2) (vinculumref04_Scan.f (k + 1) a0 a1 a2) := by
 intro a0 a1 a2 k
 obtain ⟨ih0, ih1⟩ := vinculumref04_Scan.mono_l k
 unfold vinculumref04_Scan.f
 repeat' first
   | (with_reducible exact ih0 _ _ _ _)
   | (with_reducible exact ih1 _ _ _ _ _)
   | (with_reducible exact vinculumref03_Pow.mono _ _ _ _)
   | (with_reducible exact vinculumref04_Is.mono _ _)
   | (with_reducible exact LeO.refl _)
   | (with_reducible exact LeO.none _)
   | (with_reducible refine LeO.ite ?_ ?_)
   | (with_reducible refine LeO.bind ?_ (fun _ => ?_))
   | exact ih0 _ _ _ _
   | exact ih1 _ _ _ _ _
   | exact vinculumref03_Pow.mono _ _ _ _
   | exact vinculumref04_Is.mono _ _
   | exact LeO.none _
   | refine LeO.ite ?_ ?_
   | refine LeO.bind ?_ (fun _ => ?_)
set_option maxHeartbeats 8000000 in
set_option maxRecDepth 100000 in
theorem vinculumref04_Scan.calls (k : Nat) (a0 : Int) (a1 : Int) (a2 : Int) (r : List Int) (w : World) (h : vinculumref04_Scan.f k a0 a1 a2 = some r) :
  Calls Tryd.prog 19 #[.int .i64 a0, .int .i64 a1, .int .u64 a2] w fun e w' => ∃ v0_ : Value, e = .returned (v0_) ∧ Kd.R (Kd.int .u64) 22 w' w.heap.size (fun _ => True) v0_ r ∧ Below w.heap.size w w' := by
 have HB := Aside0.mk (Below.refl w.heap.size w)
 have H : ((vinculumref03_Pow.f k 2 (IntKind.u64.wrap (a0)) 4611686018427387904).bind fun t162 => (vinculumref04_Scan.l0 k a1 t162 ([] : List Int) a2)) = some r := h
 clear h
 replace H := Option.bind_eq_some_iff.mp H
 obtain ⟨t162, A40, H⟩ := H
 replace H : (vinculumref04_Scan.l0 k a1 t162 ([] : List Int) a2) = some r := H
 have A4 := Aside0.mk A40
 clear A40
 have H' := Aside0.mk H
 clear H
 go_enter Tryd.func19, Tryd.ntmps19
 go_wp2_with (first | (go_at_call 17; (with_reducible refine (vinculumref03_Pow.calls k 2 (IntKind.u64.wrap (a0)) 4611686018427387904 t162 _ A4.out).mono ?_); rintro e w' ⟨rfl, ⟨nd, rfl⟩⟩; (try first | exact ⟨rfl, _, World.drewN_drewN _ _ _⟩ | exact ⟨rfl, _, Eq.trans (World.drewN_drewN _ _ _) (congrArg (World.drewN _) (Nat.add_assoc _ _ _))⟩)))
 repeat (go_quiet (first | (go_at_call 17; (with_reducible refine (vinculumref03_Pow.calls k 2 (IntKind.u64.wrap (a0)) 4611686018427387904 t162 _ A4.out).mono ?_); rintro e w' ⟨rfl, ⟨nd, rfl⟩⟩; (try first | exact ⟨rfl, _, World.drewN_drewN _ _ _⟩ | exact ⟨rfl, _, Eq.trans (World.drewN_drewN _ _ _) (congrArg (World.drewN _) (Nat.add_assoc _ _ _))⟩))); try go_wp2_with (first | (go_at_call 17; (with_reducible refine (vinculumref03_Pow.calls k 2 (IntKind.u64.wrap (a0)) 4611686018427387904 t162 _ A4.out).mono ?_); rintro e w' ⟨rfl, ⟨nd, rfl⟩⟩; (try first | exact ⟨rfl, _, World.drewN_drewN _ _ _⟩ | exact ⟨rfl, _, Eq.trans (World.drewN_drewN _ _ _) (congrArg (World.drewN _) (Nat.add_assoc _ _ _))⟩))))
 go_loopg [8, 9] k (fun kq v8 v9 w' => ∃ (x8_1 : List Int) (x9_1 : Int), v9 = .int .u64 x9_1 ∧ Aside0 (vinculumref04_Scan.l0 kq a1 t162 x8_1 x9_1 = some r) ∧ Aside0 (kq ≤ k) ∧ Aside0 (Kd.R (Kd.int .u64) 22 w' w.heap.size (fun _ => True) v8 x8_1) ∧ Aside0 (Below w.heap.size w w'))
 case atStart => exact ⟨(([] : List Int)), (a2), (by first | rfl | (simp; done) | (simp [*]; done)), H', ⟨Nat.le_refl _⟩, ⟨by first | exact Kd.R_nil _ _ _ _ _ | exact Kd.N_nil _ _ _ _ _ | exact Kd.V_nil _ _ _ _ _ | exact Kd.Q_nil _ _ _ _ _ | exact Kd.S_nil _ _ _ _ _⟩, ⟨by repeat (first | (with_reducible first | exact HB.out | apply below_alloc | apply pw_below_drewN | apply below_drew1) | exact HB.out)⟩⟩
 case round =>
  clear H'
  try clear c1
  try clear p2
  obtain ⟨x8_1, x9_1, rfl, HA, HK1, HO_8, HB⟩ := hrel
  cases gk with
  | zero => exact absurd HA.out (by simp [vinculumref04_Scan.l0])
  | succ k1 =>
   have H := HA.out
   clear HA
   simp only [vinculumref04_Scan.l0] at H
   have HC5 := Aside0.mk H
   clear H
   go_upto_region 4 with (fail)
   repeat (go_quiet (fail); go_upto_region 4 with (fail))
   go_cut [22] (fun v22 wc => ∃ (kq : Nat) (x22_4 : Bool), v22 = .bool x22_4 ∧ Aside0 (vinculumref04_Scan.j1 kq a1 t162 x8_1 x9_1 x22_4 = some r) ∧ Aside0 (kq ≤ k1) ∧ Aside0 (Kd.R (Kd.int .u64) 22 wc w.heap.size (fun _ => True) u8 x8_1) ∧ Aside0 (Below w.heap.size w wc))
   case first =>
    have H := HC5.out
    clear HC5
    by_cases c6 : x9_1 > t162
    ·rw [if_pos c6] at H
     have c6b0 : decide (t162 < x9_1) = true := decide_eq_true c6
     clear c6
     (first | rw [c6b0] | (simp only [i64_w, i32_w]; rw [c6b0]) | skip)
     have H' := Aside0.mk H
     clear H
     obtain ⟨Ao7, co7, eo7⟩ := Kd.R_slice HO_8.out
     subst eo7
     go_wp2
     repeat (go_quiet (fail); try go_wp2)
     go_meet
     case rel => exact ⟨_, (decide ((x8_1.length : Int) < a1)), (by first | rfl | (simp; done) | (simp [*]; done)), H', ⟨by have := HK1.out; first | omega | exact Nat.le_refl _⟩, ⟨by (with_reducible repeat (first | apply Kd.R_alloc | apply Kd.R_drewN | apply Kd.R_drew)); exact HO_8.out⟩, ⟨by repeat (first | (with_reducible first | exact HB.out | apply below_alloc | apply pw_below_drewN | apply below_drew1) | exact HB.out)⟩⟩
    rw [if_neg c6] at H
    have c6b0 : decide (t162 < x9_1) = false := decide_eq_false c6
    clear c6
    (first | rw [c6b0] | (simp only [i64_w, i32_w]; rw [c6b0]) | skip)
    have H' := Aside0.mk H
    clear H
    go_wp2
    repeat (go_quiet (fail); try go_wp2)
    go_meet
    case rel => exact ⟨_, (false), (by first | rfl | (simp; done) | (simp [*]; done)), H', ⟨by have := HK1.out; first | omega | exact Nat.le_refl _⟩, ⟨by (with_reducible repeat (first | apply Kd.R_alloc | apply Kd.R_drewN | apply Kd.R_drew)); exact HO_8.out⟩, ⟨by repeat (first | (with_reducible first | exact HB.out | apply below_alloc | apply pw_below_drewN | apply below_drew1) | exact HB.out)⟩⟩
   case rest =>
    clear HC5
    try clear c1
    try clear p2
    try clear c6
    try clear c6b0
    try clear p2
    obtain ⟨kq, x22_4, rfl, HA, HJ4, HO_8, HB⟩ := hcut
    cases kq with
    | zero => exact absurd HA.out (by simp [vinculumref04_Scan.j1])
    | succ kj4 =>
     have H := HA.out
     clear HA
     simp only [vinculumref04_Scan.j1] at H
     by_cases c8 : x22_4 = true
     ·subst c8
      have H1 : (if t162 = 0 then (none) else (if (Int.tmod (IntKind.u64.wrap (x9_1 - 1)) t162) = ((1 : Int) % t162) then ((vinculumref04_Is.f kj4 (IntKind.u64.wrap (x9_1 - 1))).bind fun t163 => (if t163 = true then (if x8_1.length < 17592186044416 then (vinculumref04_Scan.l0 kj4 a1 t162 (x8_1 ++ [IntKind.u64.wrap (x9_1 - 1)]) (IntKind.u64.wrap (x9_1 - 1))) else (none)) else (vinculumref04_Scan.l0 kj4 a1 t162 x8_1 (IntKind.u64.wrap (x9_1 - 1))))) else (vinculumref04_Scan.l0 kj4 a1 t162 x8_1 (IntKind.u64.wrap (x9_1 - 1))))) = some r := by rw [if_pos rfl] at H; exact H
      clear H
      have H := H1
      clear H1
      by_cases c9 : t162 = 0
      ·rw [if_pos c9] at H
       exact absurd H (by simp)
      rw [if_neg c9] at H
      have c9b0 : (t162 == 0) = false := beq_eq_false_iff_ne.mpr c9
      have c9b1 : (t162 != 0) = true := bne_iff_ne.mpr c9
      by_cases c10 : (Int.tmod (IntKind.u64.wrap (x9_1 - 1)) t162) = ((1 : Int) % t162)
      ·rw [if_pos c10] at H
       have c10b0 : ((Int.tmod (IntKind.u64.wrap (x9_1 - 1)) t162) == ((1 : Int) % t162)) = true := beq_iff_eq.mpr c10
       have c10b1 : ((Int.tmod (IntKind.u64.wrap (x9_1 - 1)) t162) != ((1 : Int) % t162)) = false := bne_eq_false_iff_eq.mpr c10
       clear c10
       replace H := Option.bind_eq_some_iff.mp H
       obtain ⟨t163, A110, H⟩ := H
       replace H : (if t163 = true then (if x8_1.length < 17592186044416 then (vinculumref04_Scan.l0 kj4 a1 t162 (x8_1 ++ [IntKind.u64.wrap (x9_1 - 1)]) (IntKind.u64.wrap (x9_1 - 1))) else (none)) else (vinculumref04_Scan.l0 kj4 a1 t162 x8_1 (IntKind.u64.wrap (x9_1 - 1)))) = some r := H
       have A11 := Aside0.mk A110
       clear A110
       by_cases c12 : t163 = true
       ·subst c12
        have H1 : (if x8_1.length < 17592186044416 then (vinculumref04_Scan.l0 kj4 a1 t162 (x8_1 ++ [IntKind.u64.wrap (x9_1 - 1)]) (IntKind.u64.wrap (x9_1 - 1))) else (none)) = some r := by rw [if_pos rfl] at H; exact H
        clear H
        have H := H1
        clear H1
        by_cases c13 : x8_1.length < 17592186044416
        ·rw [if_pos c13] at H
         have LMc13 := Aside0.mk c13
         clear c13
         obtain ⟨y164, hy164⟩ : ∃ y_ : List Int, y_ = (x8_1 ++ [IntKind.u64.wrap (x9_1 - 1)]) := ⟨_, rfl⟩
         replace H : (vinculumref04_Scan.l0 kj4 a1 t162 y164 (IntKind.u64.wrap (x9_1 - 1))) = some r := by first | (rw [hy164]; with_reducible exact H) | (have H2_ := (Option.bind_some _ _).symm.trans H; rw [hy164]; with_reducible exact H2_) | (have H2_ := (Option.bind_some _ _).symm.trans H; with_reducible exact H2_) | with_reducible exact H | (rw [hy164]; exact H) | exact H
         have Ny164 := Aside0.mk hy164
         clear hy164
         have H' := Aside0.mk H
         clear H
         go_wp2_with (first | (go_at_call 15; (with_reducible refine (vinculumref04_Is.calls kj4 (IntKind.u64.wrap (x9_1 - 1)) true _ A11.out).mono ?_); rintro e w' ⟨rfl, ⟨nd, rfl⟩⟩; (try first | exact ⟨rfl, _, World.drewN_drewN _ _ _⟩ | exact ⟨rfl, _, Eq.trans (World.drewN_drewN _ _ _) (congrArg (World.drewN _) (Nat.add_assoc _ _ _))⟩)) | ((with_reducible refine gate_builtin (b := .append) (xs := #[.tmp 37, .tmp 40]) rfl ?_); (try (refine gate_guard (by rfl) ?_; dsimp only)); at_builtin; refine Kd.R_append (Kd.int .u64) (w0 := w) w.heap.size rfl (.tmp 37) (.tmp 40) 32 22 (.int .u64 0) 8 rfl Tryd.underlying32 info22 rfl (by decide) (by omega) u8 x8_1 (IntKind.u64.wrap (x9_1 - 1)) [.int .u64 (IntKind.u64.wrap (x9_1 - 1))] (fun _ => True) (fun _ => False) rfl rfl ?aP (fun _ hk => hk.elim) ?aF ?aO ?aB ?aS ?aL ?_; (case aP => exact rfl); (case aB => exact (by repeat (first | (with_reducible first | exact HB.out | apply below_alloc | apply pw_below_drewN | apply below_drew1) | exact HB.out))); (case aF => exact (fun _ _ => trivial)); (case aO => exact (by (with_reducible repeat (first | apply Kd.R_alloc | apply Kd.R_drewN | apply Kd.R_drew)); exact HO_8.out)); (case aS => exact (below_size (by repeat (first | (with_reducible first | exact HB.out | apply below_alloc | apply pw_below_drewN | apply below_drew1) | exact HB.out)))); (case aL => have := LMc13.out; omega); intro v165 w14 ho hb hg hat; rw [← Ny164.out] at ho; have n0_ := Aside0.mk (hb); have n1_ := Aside0.mk (ho); clear HB; clear HO_8; have HB := n0_; have HO166 := n1_; clear n0_ n1_; clear ho hb hg hat))
         repeat (go_quiet (first | (go_at_call 15; (with_reducible refine (vinculumref04_Is.calls kj4 (IntKind.u64.wrap (x9_1 - 1)) true _ A11.out).mono ?_); rintro e w' ⟨rfl, ⟨nd, rfl⟩⟩; (try first | exact ⟨rfl, _, World.drewN_drewN _ _ _⟩ | exact ⟨rfl, _, Eq.trans (World.drewN_drewN _ _ _) (congrArg (World.drewN _) (Nat.add_assoc _ _ _))⟩)) | ((with_reducible refine gate_builtin (b := .append) (xs := #[.tmp 37, .tmp 40]) rfl ?_); (try (refine gate_guard (by rfl) ?_; dsimp only)); at_builtin; refine Kd.R_append (Kd.int .u64) (w0 := w) w.heap.size rfl (.tmp 37) (.tmp 40) 32 22 (.int .u64 0) 8 rfl Tryd.underlying32 info22 rfl (by decide) (by omega) u8 x8_1 (IntKind.u64.wrap (x9_1 - 1)) [.int .u64 (IntKind.u64.wrap (x9_1 - 1))] (fun _ => True) (fun _ => False) rfl rfl ?aP (fun _ hk => hk.elim) ?aF ?aO ?aB ?aS ?aL ?_; (case aP => exact rfl); (case aB => exact (by repeat (first | (with_reducible first | exact HB.out | apply below_alloc | apply pw_below_drewN | apply below_drew1) | exact HB.out))); (case aF => exact (fun _ _ => trivial)); (case aO => exact (by (with_reducible repeat (first | apply Kd.R_alloc | apply Kd.R_drewN | apply Kd.R_drew)); exact HO_8.out)); (case aS => exact (below_size (by repeat (first | (with_reducible first | exact HB.out | apply below_alloc | apply pw_below_drewN | apply below_drew1) | exact HB.out)))); (case aL => have := LMc13.out; omega); intro v165 w14 ho hb hg hat; rw [← Ny164.out] at ho; have n0_ := Aside0.mk (hb); have n1_ := Aside0.mk (ho); clear HB; clear HO_8; have HB := n0_; have HO166 := n1_; clear n0_ n1_; clear ho hb hg hat)); try go_wp2_with (first | (go_at_call 15; (with_reducible refine (vinculumref04_Is.calls kj4 (IntKind.u64.wrap (x9_1 - 1)) true _ A11.out).mono ?_); rintro e w' ⟨rfl, ⟨nd, rfl⟩⟩; (try first | exact ⟨rfl, _, World.drewN_drewN _ _ _⟩ | exact ⟨rfl, _, Eq.trans (World.drewN_drewN _ _ _) (congrArg (World.drewN _) (Nat.add_assoc _ _ _))⟩)) | ((with_reducible refine gate_builtin (b := .append) (xs := #[.tmp 37, .tmp 40]) rfl ?_); (try (refine gate_guard (by rfl) ?_; dsimp only)); at_builtin; refine Kd.R_append (Kd.int .u64) (w0 := w) w.heap.size rfl (.tmp 37) (.tmp 40) 32 22 (.int .u64 0) 8 rfl Tryd.underlying32 info22 rfl (by decide) (by omega) u8 x8_1 (IntKind.u64.wrap (x9_1 - 1)) [.int .u64 (IntKind.u64.wrap (x9_1 - 1))] (fun _ => True) (fun _ => False) rfl rfl ?aP (fun _ hk => hk.elim) ?aF ?aO ?aB ?aS ?aL ?_; (case aP => exact rfl); (case aB => exact (by repeat (first | (with_reducible first | exact HB.out | apply below_alloc | apply pw_below_drewN | apply below_drew1) | exact HB.out))); (case aF => exact (fun _ _ => trivial)); (case aO => exact (by (with_reducible repeat (first | apply Kd.R_alloc | apply Kd.R_drewN | apply Kd.R_drew)); exact HO_8.out)); (case aS => exact (below_size (by repeat (first | (with_reducible first | exact HB.out | apply below_alloc | apply pw_below_drewN | apply below_drew1) | exact HB.out)))); (case aL => have := LMc13.out; omega); intro v165 w14 ho hb hg hat; rw [← Ny164.out] at ho; have n0_ := Aside0.mk (hb); have n1_ := Aside0.mk (ho); clear HB; clear HO_8; have HB := n0_; have HO166 := n1_; clear n0_ n1_; clear ho hb hg hat)))
         go_roundg kj4
         case measure => have := HK1.out; have := HJ4.out; omega
         case rel => exact ⟨(y164), (IntKind.u64.wrap (x9_1 - 1)), (by first | rfl | (simp; done) | (simp [*]; done)), H', ⟨by have := HK1.out; have := HJ4.out; omega⟩, ⟨by (with_reducible repeat (first | apply Kd.R_alloc | apply Kd.R_drewN | apply Kd.R_drew)); exact HO166.out⟩, ⟨by repeat (first | (with_reducible first | exact HB.out | apply below_alloc | apply pw_below_drewN | apply below_drew1) | exact HB.out)⟩⟩
        rw [if_neg c13] at H
        exact absurd H (by simp)
       replace c12 := Bool.eq_false_iff.mpr c12
       subst c12
       have H1 : (vinculumref04_Scan.l0 kj4 a1 t162 x8_1 (IntKind.u64.wrap (x9_1 - 1))) = some r := by rw [if_neg (show ¬ (false = true) by decide)] at H; exact H
       clear H
       have H := H1
       clear H1
       have H' := Aside0.mk H
       clear H
       go_wp2_with (first | (go_at_call 15; (with_reducible refine (vinculumref04_Is.calls kj4 (IntKind.u64.wrap (x9_1 - 1)) false _ A11.out).mono ?_); rintro e w' ⟨rfl, ⟨nd, rfl⟩⟩; (try first | exact ⟨rfl, _, World.drewN_drewN _ _ _⟩ | exact ⟨rfl, _, Eq.trans (World.drewN_drewN _ _ _) (congrArg (World.drewN _) (Nat.add_assoc _ _ _))⟩)))
       repeat (go_quiet (first | (go_at_call 15; (with_reducible refine (vinculumref04_Is.calls kj4 (IntKind.u64.wrap (x9_1 - 1)) false _ A11.out).mono ?_); rintro e w' ⟨rfl, ⟨nd, rfl⟩⟩; (try first | exact ⟨rfl, _, World.drewN_drewN _ _ _⟩ | exact ⟨rfl, _, Eq.trans (World.drewN_drewN _ _ _) (congrArg (World.drewN _) (Nat.add_assoc _ _ _))⟩))); try go_wp2_with (first | (go_at_call 15; (with_reducible refine (vinculumref04_Is.calls kj4 (IntKind.u64.wrap (x9_1 - 1)) false _ A11.out).mono ?_); rintro e w' ⟨rfl, ⟨nd, rfl⟩⟩; (try first | exact ⟨rfl, _, World.drewN_drewN _ _ _⟩ | exact ⟨rfl, _, Eq.trans (World.drewN_drewN _ _ _) (congrArg (World.drewN _) (Nat.add_assoc _ _ _))⟩))))
       go_roundg kj4
       case measure => have := HK1.out; have := HJ4.out; omega
       case rel => exact ⟨(x8_1), (IntKind.u64.wrap (x9_1 - 1)), (by first | rfl | (simp; done) | (simp [*]; done)), H', ⟨by have := HK1.out; have := HJ4.out; omega⟩, ⟨by (with_reducible repeat (first | apply Kd.R_alloc | apply Kd.R_drewN | apply Kd.R_drew)); exact HO_8.out⟩, ⟨by repeat (first | (with_reducible first | exact HB.out | apply below_alloc | apply pw_below_drewN | apply below_drew1) | exact HB.out)⟩⟩
      rw [if_neg c10] at H
      have c10b0 : ((Int.tmod (IntKind.u64.wrap (x9_1 - 1)) t162) == ((1 : Int) % t162)) = false := beq_eq_false_iff_ne.mpr c10
      have c10b1 : ((Int.tmod (IntKind.u64.wrap (x9_1 - 1)) t162) != ((1 : Int) % t162)) = true := bne_iff_ne.mpr c10
      have H' := Aside0.mk H
      clear H
      go_wp2
      repeat (go_quiet (fail); try go_wp2)
      go_roundg kj4
      case measure => have := HK1.out; have := HJ4.out; omega
      case rel => exact ⟨(x8_1), (IntKind.u64.wrap (x9_1 - 1)), (by first | rfl | (simp; done) | (simp [*]; done)), H', ⟨by have := HK1.out; have := HJ4.out; omega⟩, ⟨by (with_reducible repeat (first | apply Kd.R_alloc | apply Kd.R_drewN | apply Kd.R_drew)); exact HO_8.out⟩, ⟨by repeat (first | (with_reducible first | exact HB.out | apply below_alloc | apply pw_below_drewN | apply below_drew1) | exact HB.out)⟩⟩
     replace c8 := Bool.eq_false_iff.mpr c8
     subst c8
     have H1 : (some x8_1) = some r := by rw [if_neg (show ¬ (false = true) by decide)] at H; exact H
     clear H
     have H := H1
     clear H1
     obtain rfl := Option.some.inj H
     go_wp2
     repeat (go_quiet (fail); try go_wp2)
     go_ret
     exact ⟨_, by first | rfl | (simp [errW_none, errW_some] <;> rfl) | (simp [*, errW_none, errW_some] <;> rfl), by (with_reducible repeat (first | apply Kd.R_alloc | apply Kd.R_drewN | apply Kd.R_drew)); exact HO_8.out, by repeat (first | (with_reducible first | exact HB.out | apply below_alloc | apply pw_below_drewN | apply below_drew1) | exact HB.out)⟩

end Go.Proofs.YtnlklfhgdefbaaaDoor.GN
-- thin

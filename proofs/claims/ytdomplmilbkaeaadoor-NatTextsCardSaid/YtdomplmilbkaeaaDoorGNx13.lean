-- Written by wip/tools/myprint.py (this session's program, over the kit's print.py).
import Derived.Test.YtdomplmilbkaeaaDoorGNx0
import Derived.Test.YtdomplmilbkaeaaDoorGNx9
namespace Go.Proofs.YtdomplmilbkaeaaDoor.GN
set_option maxRecDepth 100000
set_option maxHeartbeats 8000000
open Go.RowKit Go.Proofs.YtdomplmilbkaeaaDoorW.PrintWords Go.Proofs.YtdomplmilbkaeaaDoorW.PrintLast Go.Proofs.YtdomplmilbkaeaaDoorW.PrintMore
attribute [local go_sem] adRun sbRun
attribute [local go_sem] max2_int min2_int max_two min_two max_three min_three max_four min_four   -- for this text's walks alone
set_option linter.unusedVariables false
set_option linter.unusedSimpArgs false

/-! ### vinculumref01_Cmp: function 31 -/
def vinculumref01_Cmp.f (a0 : ByteArray) (a1 : ByteArray) : Option (Int) := if (a0.size : Int) = (a1.size : Int) then (if (Op.bytesLess a0.toList a1.toList) = true then (some (-1)) else (if a0.toList = a1.toList then (some 0) else (some 1))) else (if (a0.size : Int) < (a1.size : Int) then (some (-1)) else (some 1))
theorem vinculumref01_Cmp.calls (a0 : ByteArray) (a1 : ByteArray) (r : Int) (w : World) (h : vinculumref01_Cmp.f a0 a1 = some r) :
  Calls Tryd.prog 31 #[.string a0, .string a1] w fun e w' => e = .returned (.int .i64 r) ∧ Drawn0 w w' := by
 have H : (if (a0.size : Int) = (a1.size : Int) then (if (Op.bytesLess a0.toList a1.toList) = true then (some (-1)) else (if a0.toList = a1.toList then (some 0) else (some 1))) else (if (a0.size : Int) < (a1.size : Int) then (some (-1)) else (some 1))) = some r := h
 clear h
 by_cases c3 : (a0.size : Int) = (a1.size : Int)
 ·rw [if_pos c3] at H
  have c3b0 : ((a0.size : Int) == (a1.size : Int)) = true := beq_iff_eq.mpr c3
  have c3b1 : ((a0.size : Int) != (a1.size : Int)) = false := bne_eq_false_iff_eq.mpr c3
  have c3b2 : (a0.size == a1.size) = true := by first | simpa using c3 | (simp at c3 ⊢; omega)
  clear c3
  by_cases c4 : (Op.bytesLess a0.toList a1.toList) = true
  ·rw [if_pos c4] at H
   have c4b0 : (Op.bytesLess a0.toList a1.toList) = true := c4
   clear c4
   obtain rfl := Option.some.inj H
   go_enter Tryd.func31, Tryd.ntmps31
   go_wp2
   go_ret
   exact ⟨by first | rfl | (simp; done) | (simp [*]; done), by repeat (first | exact Drawn0.refl _ | apply Drawn0.step)⟩
  rw [if_neg c4] at H
  have c4b0 : (Op.bytesLess a0.toList a1.toList) = false := by first | exact Bool.eq_false_iff.mpr c4 | (simpa using c4)
  clear c4
  by_cases c5 : a0.toList = a1.toList
  ·rw [if_pos c5] at H
   have c5b0 : (a0.toList == a1.toList) = true := beq_iff_eq.mpr c5
   have c5b1 : (a0.toList != a1.toList) = false := bne_eq_false_iff_eq.mpr c5
   clear c5
   obtain rfl := Option.some.inj H
   go_enter Tryd.func31, Tryd.ntmps31
   go_wp2
   go_ret
   exact ⟨by first | rfl | (simp; done) | (simp [*]; done), by repeat (first | exact Drawn0.refl _ | apply Drawn0.step)⟩
  rw [if_neg c5] at H
  have c5b0 : (a0.toList == a1.toList) = false := beq_eq_false_iff_ne.mpr c5
  have c5b1 : (a0.toList != a1.toList) = true := bne_iff_ne.mpr c5
  obtain rfl := Option.some.inj H
  go_enter Tryd.func31, Tryd.ntmps31
  go_wp2
  go_ret
  exact ⟨by first | rfl | (simp; done) | (simp [*]; done), by repeat (first | exact Drawn0.refl _ | apply Drawn0.step)⟩
 rw [if_neg c3] at H
 have c3b0 : ((a0.size : Int) == (a1.size : Int)) = false := beq_eq_false_iff_ne.mpr c3
 have c3b1 : ((a0.size : Int) != (a1.size : Int)) = true := bne_iff_ne.mpr c3
 have c3b2 : (a0.size == a1.size) = false := by first | simpa using c3 | (simp at c3 ⊢; omega)
 by_cases c6 : (a0.size : Int) < (a1.size : Int)
 ·rw [if_pos c6] at H
  have c6b0 : decide ((a0.size : Int) < (a1.size : Int)) = true := decide_eq_true c6
  have c6b1 : decide (a0.size < a1.size) = true := decide_eq_true (Int.ofNat_lt.mp c6)
  clear c6
  obtain rfl := Option.some.inj H
  go_enter Tryd.func31, Tryd.ntmps31
  go_wp2
  go_ret
  exact ⟨by first | rfl | (simp; done) | (simp [*]; done), by repeat (first | exact Drawn0.refl _ | apply Drawn0.step)⟩
 rw [if_neg c6] at H
 have c6b0 : decide ((a0.size : Int) < (a1.size : Int)) = false := decide_eq_false c6
 have c6b1 : decide (a0.size < a1.size) = false := decide_eq_false (fun h => c6 (Int.ofNat_lt.mpr h))
 clear c6
 obtain rfl := Option.some.inj H
 go_enter Tryd.func31, Tryd.ntmps31
 go_wp2
 go_ret
 exact ⟨by first | rfl | (simp; done) | (simp [*]; done), by repeat (first | exact Drawn0.refl _ | apply Drawn0.step)⟩

/-! ### vinculumref01_Sub: function 33 -/
def vinculumref01_Sub.l0 : Nat → ByteArray → ByteArray → List Int → Int → Int → Option (ByteArray)
 | 0, _, _, _, _, _ => none
 | k + 1, x0, x1, x5, x6, x7 => if x7 < (x0.size : Int) then ((vinculumref01_digit.f x0 x7).bind fun t377 => ((vinculumref01_digit.f x1 x7).bind fun t378 => (if (wrap64 ((wrap64 (t377 - t378)) - x6)) < 0 then (if x5.length < 140737488355328 then (vinculumref01_Sub.l0 k x0 x1 (x5 ++ [(wrap64 (48 + (wrap64 ((wrap64 ((wrap64 (t377 - t378)) - x6)) + 10)))) % 256]) 1 (wrap64 (x7 + 1))) else (none)) else (if x5.length < 140737488355328 then (vinculumref01_Sub.l0 k x0 x1 (x5 ++ [(wrap64 (48 + (wrap64 ((wrap64 (t377 - t378)) - x6)))) % 256]) 0 (wrap64 (x7 + 1))) else (none))))) else ((vinculumref01_turned.f k x5).bind fun t375 => ((vinculumref01_strip.f k t375).bind fun t376 => (some t376)))
def vinculumref01_Sub.f (k : Nat) (a0 : ByteArray) (a1 : ByteArray) : Option (ByteArray) := vinculumref01_Sub.l0 k a0 a1 ([] : List Int) 0 0
theorem vinculumref01_Sub.mono_l : ∀ k, (∀ y0 y1 y2 y3 y4, LeO (vinculumref01_Sub.l0 k y0 y1 y2 y3 y4) (vinculumref01_Sub.l0 (k + 1) y0 y1 y2 y3 y4))
 | 0 => fun _ _ _ _ _ r h => by simp [vinculumref01_Sub.l0] at h
 | k + 1 => by
  have ih0 := vinculumref01_Sub.mono_l k
  ·intro y0 y1 y2 y3 y4
   unfold vinculumref01_Sub.l0
   repeat' first
   | (with_reducible exact ih0 _ _ _ _ _)
   | (with_reducible exact vinculumref01_strip.mono _ _)
   | (with_reducible exact vinculumref01_turned.mono _ _)
   | (with_reducible exact LeO.refl _)
   | (with_reducible exact LeO.none _)
   | (with_reducible refine LeO.ite ?_ ?_)
   | (with_reducible refine LeO.bind ?_ (fun _ => ?_))
   | exact ih0 _ _ _ _ _
   | exact vinculumref01_strip.mono _ _
   | exact vinculumref01_turned.mono _ _
   | exact LeO.none _
   | refine LeO.ite ?_ ?_
   | refine LeO.bind ?_ (fun _ => ?_)
theorem vinculumref01_Sub.mono : ∀ a0 a1 k, LeO (vinculumref01_Sub.f k a0 a1) (vinculumref01_Sub.f (k + 1) a0 a1) := by
 intro a0 a1 k
 have ih0 := vinculumref01_Sub.mono_l k
 unfold vinculumref01_Sub.f
 repeat' first
   | (with_reducible exact ih0 _ _ _ _ _)
   | (with_reducible exact vinculumref01_strip.mono _ _)
   | (with_reducible exact vinculumref01_turned.mono _ _)
   | (with_reducible exact LeO.refl _)
   | (with_reducible exact LeO.none _)
   | (with_reducible refine LeO.ite ?_ ?_)
   | (with_reducible refine LeO.bind ?_ (fun _ => ?_))
   | exact ih0 _ _ _ _ _
   | exact vinculumref01_strip.mono _ _
   | exact vinculumref01_turned.mono _ _
   | exact LeO.none _
   | refine LeO.ite ?_ ?_
   | refine LeO.bind ?_ (fun _ => ?_)
theorem vinculumref01_Sub.calls (k : Nat) (a0 : ByteArray) (a1 : ByteArray) (r : ByteArray) (w : World) (h : vinculumref01_Sub.f k a0 a1 = some r) :
  Calls Tryd.prog 33 #[.string a0, .string a1] w fun e w' => e = .returned (.string r) ∧ Below w.heap.size w w' := by
 have HB := Aside0.mk (Below.refl w.heap.size w)
 have H : (vinculumref01_Sub.l0 k a0 a1 ([] : List Int) 0 0) = some r := h
 clear h
 have H' := Aside0.mk H
 clear H
 go_enter Tryd.func33, Tryd.ntmps33
 go_wp2
 go_loopg [5, 6, 7] k (fun kq v5 v6 v7 w' => ∃ (x5_1 : List Int) (x6_1 : Int) (x7_1 : Int), v6 = .int .i64 x6_1 ∧ v7 = .int .i64 x7_1 ∧ Aside0 (vinculumref01_Sub.l0 kq a0 a1 x5_1 x6_1 x7_1 = some r) ∧ Aside0 (kq ≤ k) ∧ Aside0 (Kd.R (Kd.int .u8) 5 w' w.heap.size (fun _ => True) v5 x5_1) ∧ Aside0 (Below w.heap.size w w'))
 case atStart => exact ⟨(([] : List Int)), (0), (0), (by first | rfl | (simp; done) | (simp [*]; done)), (by first | rfl | (simp; done) | (simp [*]; done)), H', ⟨Nat.le_refl _⟩, ⟨by first | exact Kd.R_nil _ _ _ _ _ | exact Kd.N_nil _ _ _ _ _ | exact Kd.V_nil _ _ _ _ _ | exact Kd.Q_nil _ _ _ _ _ | exact Kd.S_nil _ _ _ _ _⟩, ⟨by repeat (first | (with_reducible first | exact HB.out | apply below_alloc | apply pw_below_drewN | apply below_drew1) | exact HB.out)⟩⟩
 case round =>
  clear H'
  try clear p2
  obtain ⟨x5_1, x6_1, x7_1, rfl, rfl, HA, HK1, HO_5, HB⟩ := hrel
  cases gk with
  | zero => exact absurd HA.out (by simp [vinculumref01_Sub.l0])
  | succ k1 =>
   have H := HA.out
   clear HA
   simp only [vinculumref01_Sub.l0] at H
   by_cases c3 : x7_1 < (a0.size : Int)
   ·rw [if_pos c3] at H
    have c3b0 : decide (x7_1 < (a0.size : Int)) = true := decide_eq_true c3
    clear c3
    replace H := Option.bind_eq_some_iff.mp H
    obtain ⟨t377, A40, H⟩ := H
    replace H : ((vinculumref01_digit.f a1 x7_1).bind fun t378 => (if (wrap64 ((wrap64 (t377 - t378)) - x6_1)) < 0 then (if x5_1.length < 140737488355328 then (vinculumref01_Sub.l0 k1 a0 a1 (x5_1 ++ [(wrap64 (48 + (wrap64 ((wrap64 ((wrap64 (t377 - t378)) - x6_1)) + 10)))) % 256]) 1 (wrap64 (x7_1 + 1))) else (none)) else (if x5_1.length < 140737488355328 then (vinculumref01_Sub.l0 k1 a0 a1 (x5_1 ++ [(wrap64 (48 + (wrap64 ((wrap64 (t377 - t378)) - x6_1)))) % 256]) 0 (wrap64 (x7_1 + 1))) else (none)))) = some r := H
    have A4 := Aside0.mk A40
    clear A40
    replace H := Option.bind_eq_some_iff.mp H
    obtain ⟨t378, A50, H⟩ := H
    replace H : (if (wrap64 ((wrap64 (t377 - t378)) - x6_1)) < 0 then (if x5_1.length < 140737488355328 then (vinculumref01_Sub.l0 k1 a0 a1 (x5_1 ++ [(wrap64 (48 + (wrap64 ((wrap64 ((wrap64 (t377 - t378)) - x6_1)) + 10)))) % 256]) 1 (wrap64 (x7_1 + 1))) else (none)) else (if x5_1.length < 140737488355328 then (vinculumref01_Sub.l0 k1 a0 a1 (x5_1 ++ [(wrap64 (48 + (wrap64 ((wrap64 (t377 - t378)) - x6_1)))) % 256]) 0 (wrap64 (x7_1 + 1))) else (none))) = some r := H
    have A5 := Aside0.mk A50
    clear A50
    by_cases c6 : (wrap64 ((wrap64 (t377 - t378)) - x6_1)) < 0
    ·rw [if_pos c6] at H
     have c6b0 : decide ((wrap64 ((wrap64 (t377 - t378)) - x6_1)) < 0) = true := decide_eq_true c6
     clear c6
     by_cases c7 : x5_1.length < 140737488355328
     ·rw [if_pos c7] at H
      have LMc7 := Aside0.mk c7
      clear c7
      obtain ⟨y379, hy379⟩ : ∃ y_ : List Int, y_ = (x5_1 ++ [(wrap64 (48 + (wrap64 ((wrap64 ((wrap64 (t377 - t378)) - x6_1)) + 10)))) % 256]) := ⟨_, rfl⟩
      replace H : (vinculumref01_Sub.l0 k1 a0 a1 y379 1 (wrap64 (x7_1 + 1))) = some r := by first | (rw [hy379]; with_reducible exact H) | (have H2_ := (Option.bind_some _ _).symm.trans H; rw [hy379]; with_reducible exact H2_) | (have H2_ := (Option.bind_some _ _).symm.trans H; with_reducible exact H2_) | with_reducible exact H | (rw [hy379]; exact H) | exact H
      have Ny379 := Aside0.mk hy379
      clear hy379
      have H' := Aside0.mk H
      clear H
      go_wp2_with (first | ((with_reducible refine gate_callee (f := 55) rfl ?_); refine goesL_ (some 17) rfl rfl Tryd.func55 (by kernel_rfl) rfl #[.string a0, .int .i64 x7_1] rfl (by (try simp only [List.map_toArray, List.map_cons, List.map_nil]); first | done | rfl | (simp only [List.length_drop, List.length_take]; rfl)) ?_; (with_reducible refine (vinculumref01_digit.calls a0 x7_1 t377 _ A4.out).mono ?_); rintro e w' ⟨rfl, ⟨nd, rfl⟩⟩; refine ⟨_, rfl, ?_⟩) | ((with_reducible refine gate_callee (f := 55) rfl ?_); refine goesL_ (some 20) rfl rfl Tryd.func55 (by kernel_rfl) rfl #[.string a1, .int .i64 x7_1] rfl (by (try simp only [List.map_toArray, List.map_cons, List.map_nil]); first | done | rfl | (simp only [List.length_drop, List.length_take]; rfl)) ?_; (with_reducible refine (vinculumref01_digit.calls a1 x7_1 t378 _ A5.out).mono ?_); rintro e w' ⟨rfl, ⟨nd, rfl⟩⟩; refine ⟨_, rfl, ?_⟩) | ((with_reducible refine gate_builtin (b := .append) (xs := #[.tmp 28, .tmp 32]) rfl ?_); at_builtin; refine Kd.R_append (Kd.int .u8) (w0 := w) w.heap.size rfl (.tmp 28) (.tmp 32) 65 5 (.int .u8 0) 1 rfl Tryd.underlying65 info5 rfl (by decide) (by omega) u5 x5_1 ((wrap64 (48 + (wrap64 ((wrap64 ((wrap64 (t377 - t378)) - x6_1)) + 10)))) % 256) [.int .u8 ((wrap64 (48 + (wrap64 ((wrap64 ((wrap64 (t377 - t378)) - x6_1)) + 10)))) % 256)] (fun _ => True) (fun _ => False) rfl rfl ?aP (fun _ hk => hk.elim) ?aF ?aO ?aB ?aS ?aL ?_; (case aP => exact rfl); (case aB => exact (by repeat (first | (with_reducible first | exact HB.out | apply below_alloc | apply pw_below_drewN | apply below_drew1) | exact HB.out))); (case aF => exact (fun _ _ => trivial)); (case aO => exact (by (with_reducible repeat (first | apply Kd.R_alloc | apply Kd.R_drewN | apply Kd.R_drew)); exact HO_5.out)); (case aS => exact (below_size (by repeat (first | (with_reducible first | exact HB.out | apply below_alloc | apply pw_below_drewN | apply below_drew1) | exact HB.out)))); (case aL => have := LMc7.out; omega); intro v380 w8 ho hb hg hat; rw [← Ny379.out] at ho; have n0_ := Aside0.mk (hb); have n1_ := Aside0.mk (ho); clear HB; clear HO_5; have HB := n0_; have HO381 := n1_; clear n0_ n1_; clear ho hb hg hat))
      go_roundg k1
      case measure => have := HK1.out; omega
      case rel => exact ⟨(y379), (1), (wrap64 (x7_1 + 1)), (by first | rfl | (simp; done) | (simp [*]; done)), (by first | rfl | (simp; done) | (simp [*]; done)), H', ⟨by have := HK1.out; omega⟩, ⟨by (with_reducible repeat (first | apply Kd.R_alloc | apply Kd.R_drewN | apply Kd.R_drew)); exact HO381.out⟩, ⟨by repeat (first | (with_reducible first | exact HB.out | apply below_alloc | apply pw_below_drewN | apply below_drew1) | exact HB.out)⟩⟩
     rw [if_neg c7] at H
     exact absurd H (by simp)
    rw [if_neg c6] at H
    have c6b0 : decide ((wrap64 ((wrap64 (t377 - t378)) - x6_1)) < 0) = false := decide_eq_false c6
    clear c6
    by_cases c9 : x5_1.length < 140737488355328
    ·rw [if_pos c9] at H
     have LMc9 := Aside0.mk c9
     clear c9
     obtain ⟨y382, hy382⟩ : ∃ y_ : List Int, y_ = (x5_1 ++ [(wrap64 (48 + (wrap64 ((wrap64 (t377 - t378)) - x6_1)))) % 256]) := ⟨_, rfl⟩
     replace H : (vinculumref01_Sub.l0 k1 a0 a1 y382 0 (wrap64 (x7_1 + 1))) = some r := by first | (rw [hy382]; with_reducible exact H) | (have H2_ := (Option.bind_some _ _).symm.trans H; rw [hy382]; with_reducible exact H2_) | (have H2_ := (Option.bind_some _ _).symm.trans H; with_reducible exact H2_) | with_reducible exact H | (rw [hy382]; exact H) | exact H
     have Ny382 := Aside0.mk hy382
     clear hy382
     have H' := Aside0.mk H
     clear H
     go_wp2_with (first | ((with_reducible refine gate_callee (f := 55) rfl ?_); refine goesL_ (some 17) rfl rfl Tryd.func55 (by kernel_rfl) rfl #[.string a0, .int .i64 x7_1] rfl (by (try simp only [List.map_toArray, List.map_cons, List.map_nil]); first | done | rfl | (simp only [List.length_drop, List.length_take]; rfl)) ?_; (with_reducible refine (vinculumref01_digit.calls a0 x7_1 t377 _ A4.out).mono ?_); rintro e w' ⟨rfl, ⟨nd, rfl⟩⟩; refine ⟨_, rfl, ?_⟩) | ((with_reducible refine gate_callee (f := 55) rfl ?_); refine goesL_ (some 20) rfl rfl Tryd.func55 (by kernel_rfl) rfl #[.string a1, .int .i64 x7_1] rfl (by (try simp only [List.map_toArray, List.map_cons, List.map_nil]); first | done | rfl | (simp only [List.length_drop, List.length_take]; rfl)) ?_; (with_reducible refine (vinculumref01_digit.calls a1 x7_1 t378 _ A5.out).mono ?_); rintro e w' ⟨rfl, ⟨nd, rfl⟩⟩; refine ⟨_, rfl, ?_⟩) | ((with_reducible refine gate_builtin (b := .append) (xs := #[.tmp 28, .tmp 32]) rfl ?_); at_builtin; refine Kd.R_append (Kd.int .u8) (w0 := w) w.heap.size rfl (.tmp 28) (.tmp 32) 65 5 (.int .u8 0) 1 rfl Tryd.underlying65 info5 rfl (by decide) (by omega) u5 x5_1 ((wrap64 (48 + (wrap64 ((wrap64 (t377 - t378)) - x6_1)))) % 256) [.int .u8 ((wrap64 (48 + (wrap64 ((wrap64 (t377 - t378)) - x6_1)))) % 256)] (fun _ => True) (fun _ => False) rfl rfl ?aP (fun _ hk => hk.elim) ?aF ?aO ?aB ?aS ?aL ?_; (case aP => exact rfl); (case aB => exact (by repeat (first | (with_reducible first | exact HB.out | apply below_alloc | apply pw_below_drewN | apply below_drew1) | exact HB.out))); (case aF => exact (fun _ _ => trivial)); (case aO => exact (by (with_reducible repeat (first | apply Kd.R_alloc | apply Kd.R_drewN | apply Kd.R_drew)); exact HO_5.out)); (case aS => exact (below_size (by repeat (first | (with_reducible first | exact HB.out | apply below_alloc | apply pw_below_drewN | apply below_drew1) | exact HB.out)))); (case aL => have := LMc9.out; omega); intro v383 w10 ho hb hg hat; rw [← Ny382.out] at ho; have n0_ := Aside0.mk (hb); have n1_ := Aside0.mk (ho); clear HB; clear HO_5; have HB := n0_; have HO384 := n1_; clear n0_ n1_; clear ho hb hg hat))
     go_roundg k1
     case measure => have := HK1.out; omega
     case rel => exact ⟨(y382), (0), (wrap64 (x7_1 + 1)), (by first | rfl | (simp; done) | (simp [*]; done)), (by first | rfl | (simp; done) | (simp [*]; done)), H', ⟨by have := HK1.out; omega⟩, ⟨by (with_reducible repeat (first | apply Kd.R_alloc | apply Kd.R_drewN | apply Kd.R_drew)); exact HO384.out⟩, ⟨by repeat (first | (with_reducible first | exact HB.out | apply below_alloc | apply pw_below_drewN | apply below_drew1) | exact HB.out)⟩⟩
    rw [if_neg c9] at H
    exact absurd H (by simp)
   rw [if_neg c3] at H
   have c3b0 : decide (x7_1 < (a0.size : Int)) = false := decide_eq_false c3
   clear c3
   replace H := Option.bind_eq_some_iff.mp H
   obtain ⟨t375, A110, H⟩ := H
   replace H : ((vinculumref01_strip.f k1 t375).bind fun t376 => (some t376)) = some r := H
   have A11 := Aside0.mk A110
   clear A110
   replace H := Option.bind_eq_some_iff.mp H
   obtain ⟨t376, A120, H⟩ := H
   replace H : (some t376) = some r := H
   have A12 := Aside0.mk A120
   clear A120
   obtain rfl := Option.some.inj H
   obtain ⟨Ao13, co13, eo13⟩ := Kd.R_slice HO_5.out
   subst eo13
   go_wp2_with (first | ((with_reducible refine gate_callee (f := 50) rfl ?_); refine goesL_ (some 35) rfl rfl Tryd.func50 (by kernel_rfl) rfl #[.slice Ao13 x5_1.length co13] rfl (by (try simp only [List.map_toArray, List.map_cons, List.map_nil]); first | done | rfl | (simp only [List.length_drop, List.length_take]; rfl)) ?_; (with_reducible refine (vinculumref01_turned.calls k1 _ _ x5_1 t375 _ ?side1 ?side2 A11.out).mono ?_); (case side1 => repeat (first | exact (Kd.R_reads' HO_5.out).2.2 | (with_reducible refine Kd.C_alloc ?_ _) | (with_reducible refine Kd.C_drewN ?_ _) | (with_reducible refine Kd.C_drew ?_))); (case side2 => exact (Kd.R_reads' HO_5.out).2.1); rintro e w14 ⟨rfl, hb⟩; refine ⟨_, rfl, ?_⟩; have n0_ := Aside0.mk (Kd.R_below (by (with_reducible repeat (first | apply Kd.R_alloc | apply Kd.R_drewN | apply Kd.R_drew)); exact HO_5.out) hb); have n1_ := Aside0.mk (below_step (by repeat (first | (with_reducible first | exact HB.out | apply below_alloc | apply pw_below_drewN | apply below_drew1) | exact HB.out)) hb); clear HO_5; clear HB; have HO_5 := n0_; have HB := n1_; clear n0_ n1_; (try clear hb); (try clear hb2); (try clear hk); (try clear hi)) | ((with_reducible refine gate_callee (f := 49) rfl ?_); refine goesL_ (some 36) rfl rfl Tryd.func49 (by kernel_rfl) rfl #[.string t375] rfl (by (try simp only [List.map_toArray, List.map_cons, List.map_nil]); first | done | rfl | (simp only [List.length_drop, List.length_take]; rfl)) ?_; (with_reducible refine (vinculumref01_strip.calls k1 t375 t376 _ A12.out).mono ?_); rintro e w' ⟨rfl, ⟨nd, rfl⟩⟩; refine ⟨_, rfl, ?_⟩))
   go_ret
   exact ⟨by first | rfl | (simp [errW_none, errW_some] <;> rfl) | (simp [*, errW_none, errW_some] <;> rfl), by repeat (first | (with_reducible first | exact HB.out | apply below_alloc | apply pw_below_drewN | apply below_drew1) | exact HB.out)⟩

end Go.Proofs.YtdomplmilbkaeaaDoor.GN
-- thin

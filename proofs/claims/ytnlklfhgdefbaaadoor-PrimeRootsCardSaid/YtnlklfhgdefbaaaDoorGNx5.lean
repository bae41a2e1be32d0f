-- Written by wip/tools/myprint.py (this session's program, over the kit's print.py).
import Derived.Test.YtnlklfhgdefbaaaDoorGNx0
namespace Go.Proofs.YtnlklfhgdefbaaaDoor.GN
open Go.RowKit Go.Proofs.YtnlklfhgdefbaaaDoorW.PrintWords Go.Proofs.YtnlklfhgdefbaaaDoorW.PrintLast Go.Proofs.YtnlklfhgdefbaaaDoorW.PrintMore
attribute [local go_sem] max2_int min2_int max_two min_two max_three min_three max_four min_four   -- for this text's walks alone
set_option linter.unusedVariables false
set_option linter.unusedSimpArgs false

/-! ### vinculumref04_Is: function 15 -/
def vinculumref04_Is.l0 : Nat → Int → Int → Option (Bool)
 | 0, _, _ => none
 | k + 1, x0, x3 => if (IntKind.u64.wrap (x3 * x3)) ≤ x0 then (if x3 = 0 then (none) else (if (Int.tmod x0 x3) = 0 then (some false) else (vinculumref04_Is.l0 k x0 (IntKind.u64.wrap (x3 + 1))))) else (some true)
def vinculumref04_Is.f (k : Nat) (a0 : Int) : Option (Bool) := if a0 < 2 then (some false) else (vinculumref04_Is.l0 k a0 2)
theorem vinculumref04_Is.mono_l : ∀ k, (∀ y0 y1, LeO (vinculumref04_Is.l0 k y0 y1) (vinculumref04_Is.l0 (k + 1) y0 y1))
 | 0 => fun _ _ r h => by simp [vinculumref04_Is.l0] at h
 | k + 1 => by
  have ih0 := vinculumref04_Is.mono_l k
  ·intro y0 y1
   unfold vinculumref04_Is.l0
   repeat' first
   | (with_reducible exact ih0 _ _)
   | (with_reducible exact LeO.refl _)
   | (with_reducible exact LeO.none _)
   | (with_reducible refine LeO.ite ?_ ?_)
   | (with_reducible refine LeO.bind ?_ (fun _ => ?_))
   | exact ih0 _ _
   | exact LeO.none _
   | refine LeO.ite ?_ ?_
   | refine LeO.bind ?_ (fun _ => ?_)
theorem vinculumref04_Is.mono : ∀ a0 k, LeO (vinculumref04_Is.f k a0) (vinculumref04_Is.f (k + 1) a0) := by
 intro a0 k
 have ih0 := vinculumref04_Is.mono_l k
 unfold vinculumref04_Is.f
 repeat' first
   | (with_reducible exact ih0 _ _)
   | (with_reducible exact LeO.refl _)
   | (with_reducible exact LeO.none _)
   | (with_reducible refine LeO.ite ?_ ?_)
   | (with_reducible refine LeO.bind ?_ (fun _ => ?_))
   | exact ih0 _ _
   | exact LeO.none _
   | refine LeO.ite ?_ ?_
   | refine LeO.bind ?_ (fun _ => ?_)
set_option maxHeartbeats 8000000 in
set_option maxRecDepth 100000 in
theorem vinculumref04_Is.calls (k : Nat) (a0 : Int) (r : Bool) (w : World) (h : vinculumref04_Is.f k a0 = some r) :
  Calls Tryd.prog 15 #[.int .u64 a0] w fun e w' => e = .returned (.bool r) ∧ Drawn0 w w' := by
 have H : (if a0 < 2 then (some false) else (vinculumref04_Is.l0 k a0 2)) = some r := h
 clear h
 by_cases c2 : a0 < 2
 ·rw [if_pos c2] at H
  have c2b0 : decide (a0 < 2) = true := decide_eq_true c2
  clear c2
  obtain rfl := Option.some.inj H
  go_enter Tryd.func15, Tryd.ntmps15
  go_wp2
  go_ret
  exact ⟨by first | rfl | (simp; done) | (simp [*]; done), by repeat (first | exact Drawn0.refl _ | apply Drawn0.step)⟩
 rw [if_neg c2] at H
 have c2b0 : decide (a0 < 2) = false := decide_eq_false c2
 clear c2
 have H' := Aside0.mk H
 clear H
 go_enter Tryd.func15, Tryd.ntmps15
 go_wp2
 go_loopg [3] k (fun kq v3 w' => ∃ (x3_1 : Int), v3 = .int .u64 x3_1 ∧ Aside0 (vinculumref04_Is.l0 kq a0 x3_1 = some r) ∧ Aside0 (kq ≤ k) ∧ Drawn0 w w')
 case atStart => exact ⟨(2), (by first | rfl | (simp; done) | (simp [*]; done)), H', ⟨Nat.le_refl _⟩, by repeat (first | exact Drawn0.refl _ | apply Drawn0.step)⟩
 case round =>
  clear H'
  try clear c1
  try clear c2
  try clear c2b0
  try clear p2
  obtain ⟨x3_1, rfl, HA, HK1, ⟨m1, rfl⟩⟩ := hrel
  cases gk with
  | zero => exact absurd HA.out (by simp [vinculumref04_Is.l0])
  | succ k1 =>
   have H := HA.out
   clear HA
   simp only [vinculumref04_Is.l0] at H
   by_cases c3 : (IntKind.u64.wrap (x3_1 * x3_1)) ≤ a0
   ·rw [if_pos c3] at H
    have c3b0 : decide ((IntKind.u64.wrap (x3_1 * x3_1)) ≤ a0) = true := decide_eq_true c3
    clear c3
    by_cases c4 : x3_1 = 0
    ·rw [if_pos c4] at H
     exact absurd H (by simp)
    rw [if_neg c4] at H
    have c4b0 : (x3_1 == 0) = false := beq_eq_false_iff_ne.mpr c4
    have c4b1 : (x3_1 != 0) = true := bne_iff_ne.mpr c4
    by_cases c5 : (Int.tmod a0 x3_1) = 0
    ·rw [if_pos c5] at H
     have c5b0 : ((Int.tmod a0 x3_1) == 0) = true := beq_iff_eq.mpr c5
     have c5b1 : ((Int.tmod a0 x3_1) != 0) = false := bne_eq_false_iff_eq.mpr c5
     clear c5
     obtain rfl := Option.some.inj H
     go_wp2
     go_ret
     exact ⟨by first | rfl | (simp; done) | (simp [*]; done), by repeat (first | exact Drawn0.refl _ | apply Drawn0.step)⟩
    rw [if_neg c5] at H
    have c5b0 : ((Int.tmod a0 x3_1) == 0) = false := beq_eq_false_iff_ne.mpr c5
    have c5b1 : ((Int.tmod a0 x3_1) != 0) = true := bne_iff_ne.mpr c5
    have H' := Aside0.mk H
    clear H
    go_wp2
    go_roundg k1
    case measure => have := HK1.out; omega
    case rel => exact ⟨(IntKind.u64.wrap (x3_1 + 1)), (by first | rfl | (simp; done) | (simp [*]; done)), H', ⟨by have := HK1.out; omega⟩, by repeat (first | exact Drawn0.refl _ | apply Drawn0.step)⟩
   rw [if_neg c3] at H
   have c3b0 : decide ((IntKind.u64.wrap (x3_1 * x3_1)) ≤ a0) = false := decide_eq_false c3
   clear c3
   obtain rfl := Option.some.inj H
   go_wp2
   go_ret
   exact ⟨by first | rfl | (simp; done) | (simp [*]; done), by repeat (first | exact Drawn0.refl _ | apply Drawn0.step)⟩

end Go.Proofs.YtnlklfhgdefbaaaDoor.GN
-- thin

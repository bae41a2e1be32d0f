-- Written by wip/tools/myprint.py (this session's program, over the kit's print.py).
import Derived.Test.YtnlklfhgdefbaaaDoorGNx0
import Derived.Test.YtnlklfhgdefbaaaDoorGNx5
namespace Go.Proofs.YtnlklfhgdefbaaaDoor.GN
open Go.RowKit Go.Proofs.YtnlklfhgdefbaaaDoorW.PrintWords Go.Proofs.YtnlklfhgdefbaaaDoorW.PrintLast Go.Proofs.YtnlklfhgdefbaaaDoorW.PrintMore
attribute [local go_sem] max2_int min2_int max_two min_two max_three min_three max_four min_four   -- for this text's walks alone
set_option linter.unusedVariables false
set_option linter.unusedSimpArgs false

/-! ### vinculumref04_Next: function 16 -/
def vinculumref04_Next.l0 : Nat → Int → Option (Int)
 | 0, _ => none
 | k + 1, x0 => (vinculumref04_Is.f k x0).bind fun t167 => (if t167 = true then (some x0) else (vinculumref04_Next.l0 k (IntKind.u64.wrap (x0 + 1))))
def vinculumref04_Next.f (k : Nat) (a0 : Int) : Option (Int) := vinculumref04_Next.l0 k a0
theorem vinculumref04_Next.mono_l : ∀ k, (∀ y0, LeO (vinculumref04_Next.l0 k y0) (vinculumref04_Next.l0 (k + 1) y0))
 | 0 => fun _ r h => by simp [vinculumref04_Next.l0] at h
 | k + 1 => by
  have ih0 := vinculumref04_Next.mono_l k
  ·intro y0
   unfold vinculumref04_Next.l0
   repeat' first
   | (with_reducible exact ih0 _)
   | (with_reducible exact vinculumref04_Is.mono _ _)
   | (with_reducible exact LeO.refl _)
   | (with_reducible exact LeO.none _)
   | (with_reducible refine LeO.ite ?_ ?_)
   | (with_reducible refine LeO.bind ?_ (fun _ => ?_))
   | exact ih0 _
   | exact vinculumref04_Is.mono _ _
   | exact LeO.none _
   | refine LeO.ite ?_ ?_
   | refine LeO.bind ?_ (fun _ => ?_)
theorem vinculumref04_Next.mono : ∀ a0 k, LeO (vinculumref04_Next.f k a0) (vinculumref04_Next.f (k + 1) a0) := by
 intro a0 k
 have ih0 := vinculumref04_Next.mono_l k
 unfold vinculumref04_Next.f
 repeat' first
   | (with_reducible exact ih0 _)
   | (with_reducible exact vinculumref04_Is.mono _ _)
   | (with_reducible exact LeO.refl _)
   | (with_reducible exact LeO.none _)
   | (with_reducible refine LeO.ite ?_ ?_)
   | (with_reducible refine LeO.bind ?_ (fun _ => ?_))
   | exact ih0 _
   | exact vinculumref04_Is.mono _ _
   | exact LeO.none _
   | refine LeO.ite ?_ ?_
   | refine LeO.bind ?_ (fun _ => ?_)
set_option maxHeartbeats 8000000 in
set_option maxRecDepth 100000 in
theorem vinculumref04_Next.calls (k : Nat) (a0 : Int) (r : Int) (w : World) (h : vinculumref04_Next.f k a0 = some r) :
  Calls Tryd.prog 16 #[.int .u64 a0] w fun e w' => e = .returned (.int .u64 r) ∧ Drawn0 w w' := by
 have H : (vinculumref04_Next.l0 k a0) = some r := h
 clear h
 have H' := Aside0.mk H
 clear H
 go_enter Tryd.func16, Tryd.ntmps16
 go_wp2
 go_loopg [0] k (fun kq v0 w' => ∃ (x0_1 : Int), v0 = .int .u64 x0_1 ∧ Aside0 (vinculumref04_Next.l0 kq x0_1 = some r) ∧ Aside0 (kq ≤ k) ∧ Drawn0 w w')
 case atStart => exact ⟨(a0), (by first | rfl | (simp; done) | (simp [*]; done)), H', ⟨Nat.le_refl _⟩, by repeat (first | exact Drawn0.refl _ | apply Drawn0.step)⟩
 case round =>
  clear H'
  try clear c1
  obtain ⟨x0_1, rfl, HA, HK1, ⟨m1, rfl⟩⟩ := hrel
  cases gk with
  | zero => exact absurd HA.out (by simp [vinculumref04_Next.l0])
  | succ k1 =>
   have H := HA.out
   clear HA
   simp only [vinculumref04_Next.l0] at H
   replace H := Option.bind_eq_some_iff.mp H
   obtain ⟨t167, A20, H⟩ := H
   replace H : (if t167 = true then (some x0_1) else (vinculumref04_Next.l0 k1 (IntKind.u64.wrap (x0_1 + 1)))) = some r := H
   have A2 := Aside0.mk A20
   clear A20
   by_cases c3 : t167 = true
   ·subst c3
    have H1 : (some x0_1) = some r := by rw [if_pos rfl] at H; exact H
    clear H
    have H := H1
    clear H1
    obtain rfl := Option.some.inj H
    go_wp2_with (first | ((with_reducible refine gate_callee (f := 15) rfl ?_); refine goesL_ (some 4) rfl rfl Tryd.func15 (by kernel_rfl) rfl #[.int .u64 x0_1] rfl (by (try simp only [List.map_toArray, List.map_cons, List.map_nil]); first | done | rfl | (simp only [List.length_drop, List.length_take]; rfl)) ?_; (with_reducible refine (vinculumref04_Is.calls k1 x0_1 true _ A2.out).mono ?_); rintro e w' ⟨rfl, ⟨nd, rfl⟩⟩; refine ⟨_, rfl, ?_⟩))
    go_ret
    exact ⟨by first | rfl | (simp; done) | (simp [*]; done), by repeat (first | exact Drawn0.refl _ | apply Drawn0.step)⟩
   replace c3 := Bool.eq_false_iff.mpr c3
   subst c3
   have H1 : (vinculumref04_Next.l0 k1 (IntKind.u64.wrap (x0_1 + 1))) = some r := by rw [if_neg (show ¬ (false = true) by decide)] at H; exact H
   clear H
   have H := H1
   clear H1
   have H' := Aside0.mk H
   clear H
   go_wp2_with (first | ((with_reducible refine gate_callee (f := 15) rfl ?_); refine goesL_ (some 4) rfl rfl Tryd.func15 (by kernel_rfl) rfl #[.int .u64 x0_1] rfl (by (try simp only [List.map_toArray, List.map_cons, List.map_nil]); first | done | rfl | (simp only [List.length_drop, List.length_take]; rfl)) ?_; (with_reducible refine (vinculumref04_Is.calls k1 x0_1 false _ A2.out).mono ?_); rintro e w' ⟨rfl, ⟨nd, rfl⟩⟩; refine ⟨_, rfl, ?_⟩))
   go_roundg k1
   case measure => have := HK1.out; omega
   case rel => exact ⟨(IntKind.u64.wrap (x0_1 + 1)), (by first | rfl | (simp; done) | (simp [*]; done)), H', ⟨by have := HK1.out; omega⟩, by repeat (first | exact Drawn0.refl _ | apply Drawn0.step)⟩

end Go.Proofs.YtnlklfhgdefbaaaDoor.GN
-- thin

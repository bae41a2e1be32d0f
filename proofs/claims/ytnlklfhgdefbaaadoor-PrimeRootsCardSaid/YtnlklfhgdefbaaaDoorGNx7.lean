-- Written by wip/tools/myprint.py (this session's program, over the kit's print.py).
import Derived.Test.YtnlklfhgdefbaaaDoorGNx0
import Derived.Test.YtnlklfhgdefbaaaDoorGNx3
import Derived.Test.YtnlklfhgdefbaaaDoorGNx4
import Derived.Test.YtnlklfhgdefbaaaDoorGNx6
namespace Go.Proofs.YtnlklfhgdefbaaaDoor.GN
set_option maxRecDepth 100000
set_option maxHeartbeats 8000000
open Go.RowKit Go.Proofs.YtnlklfhgdefbaaaDoorW.PrintWords Go.Proofs.YtnlklfhgdefbaaaDoorW.PrintLast Go.Proofs.YtnlklfhgdefbaaaDoorW.PrintMore
attribute [local go_sem] max2_int min2_int max_two min_two max_three min_three max_four min_four   -- for this text's walks alone
set_option linter.unusedVariables false
set_option linter.unusedSimpArgs false

/-! ### prime_Order: function 22 -/
/-- prime.Order: by prime.field and prime.order. -/
def prime_Order.f (K : Nat) (p x : Int) : Option (Int × Int) := (prime_field.f K p).bind fun o => match o with
 | none => some (0, 14)
 | some s => if p = 0 then none else if Int.tmod x p = 0 then some (0, 1) else (prime_order.f K s.1 s.2.1 s.2.2 (Int.tmod x p)).bind fun u => if u.2.1 = true then some (u.1, 0) else some (0, 19)
theorem prime_Order.mono : ∀ a0 a1 K, LeO (prime_Order.f K a0 a1) (prime_Order.f (K + 1) a0 a1) := by
 intro a0 a1 K
 unfold prime_Order.f
 refine LeO.bind (prime_field.mono _ _) fun o => ?_
 cases o with
 | none => exact LeO.refl _
 | some s => exact LeO.ite (LeO.refl _) (LeO.ite (LeO.refl _) (LeO.bind (prime_order.mono _ _ _ _ _) fun _ => LeO.refl _))
theorem prime_Order.calls (K : Nat) (p x r1 r2 : Int) (w : World) (hT_ : TabAt 0 Lib.deBruijn64tab w) (h : prime_Order.f K p x = some (r1, r2)) :
  Calls Tryd.prog 22 #[.int .u64 p, .int .u64 x] w fun e w' => e = .returned (.tuple #[.int .i64 r1, .int .i64 r2]) ∧ Below w.heap.size w w' := by
 have HB := Aside0.mk (Below.refl w.heap.size w)
 have HT_ := Aside0.mk hT_
 clear hT_
 unfold prime_Order.f at h
 obtain ⟨o, A10, H⟩ := Option.bind_eq_some_iff.mp h
 clear h
 have A1 := Aside0.mk A10
 clear A10
 cases o with
 | none =>
  simp only [Option.some.injEq, Prod.mk.injEq] at H
  obtain ⟨rfl, rfl⟩ := H
  go_enter Tryd.func22, Tryd.ntmps22
  go_wp2_with (first | ((with_reducible refine gate_callee (f := 28) rfl ?_); refine goesL_ (some 12) rfl rfl Tryd.func28 (by kernel_rfl) rfl #[.int .u64 p] rfl (by (try simp only [List.map_toArray, List.map_cons, List.map_nil]); first | done | rfl) ?_; (with_reducible refine (prime_field.bad K p _ (tab_below HT_.out HB.out) A1.out).mono ?_); rintro e w5 ⟨rfl, hb⟩; refine ⟨_, rfl, ?_⟩; have n1_ := Aside0.mk (below_step HB.out hb); clear HB; have HB := n1_; clear n1_ hb))
  refine bodyPost_ret (results_tmp2 rfl _ _ _) rfl ?_
  exact ⟨rfl, HB.out⟩
 | some s =>
  obtain ⟨s0, s1, s2⟩ := s
  replace H : (if p = 0 then none else if Int.tmod x p = 0 then some (0, 1) else (prime_order.f K s0 s1 s2 (Int.tmod x p)).bind fun u => if u.2.1 = true then some (u.1, 0) else some (0, 19)) = some (r1, r2) := H
  by_cases c1 : p = 0
  ·rw [if_pos c1] at H; cases H
  rw [if_neg c1] at H
  have c1b0 : (p == 0) = false := beq_eq_false_iff_ne.mpr c1
  have c1b1 : (p != 0) = true := bne_iff_ne.mpr c1
  by_cases c2 : Int.tmod x p = 0
  ·rw [if_pos c2] at H
   simp only [Option.some.injEq, Prod.mk.injEq] at H
   obtain ⟨rfl, rfl⟩ := H
   have c2b0 : (Int.tmod x p == 0) = true := beq_iff_eq.mpr c2
   clear c2
   go_enter Tryd.func22, Tryd.ntmps22
   go_wp2_with (first | ((with_reducible refine gate_callee (f := 28) rfl ?_); refine goesL_ (some 12) rfl rfl Tryd.func28 (by kernel_rfl) rfl #[.int .u64 p] rfl (by (try simp only [List.map_toArray, List.map_cons, List.map_nil]); first | done | rfl) ?_; (with_reducible refine (prime_field.calls K p s0 s1 s2 _ (tab_below HT_.out HB.out) A1.out).mono ?_); rintro e w5 ⟨g, rfl, hi, hb⟩; refine ⟨_, rfl, ?_⟩; have n1_ := Aside0.mk (below_step HB.out hb); have n2_ : Aside0 (IsS55 w w5 g s0 s1 s2) := ⟨⟨hi.1, Nat.le_trans (below_size HB.out) hi.2⟩⟩; clear HB; have HB := n1_; have HI := n2_; clear n1_ n2_ hb hi))
   refine bodyPost_ret (results_tmp2 rfl _ _ _) rfl ?_
   exact ⟨rfl, HB.out⟩
  rw [if_neg c2] at H
  have c2b0 : (Int.tmod x p == 0) = false := beq_eq_false_iff_ne.mpr c2
  clear c2
  replace H := Option.bind_eq_some_iff.mp H
  obtain ⟨⟨n, b, v0, v1, v2⟩, A20, H⟩ := H
  replace H : (if b = true then some (n, 0) else some (0, 19)) = some (r1, r2) := H
  have A2 := Aside0.mk A20
  clear A20
  cases b with
  | true =>
   rw [if_pos rfl] at H
   simp only [Option.some.injEq, Prod.mk.injEq] at H
   obtain ⟨rfl, rfl⟩ := H
   go_enter Tryd.func22, Tryd.ntmps22
   go_wp2_with (first | ((with_reducible refine gate_callee (f := 28) rfl ?_); refine goesL_ (some 12) rfl rfl Tryd.func28 (by kernel_rfl) rfl #[.int .u64 p] rfl (by (try simp only [List.map_toArray, List.map_cons, List.map_nil]); first | done | rfl) ?_; (with_reducible refine (prime_field.calls K p s0 s1 s2 _ (tab_below HT_.out HB.out) A1.out).mono ?_); rintro e w5 ⟨g, rfl, hi, hb⟩; refine ⟨_, rfl, ?_⟩; have n1_ := Aside0.mk (below_step HB.out hb); have n2_ : Aside0 (IsS55 w w5 g s0 s1 s2) := ⟨⟨hi.1, Nat.le_trans (below_size HB.out) hi.2⟩⟩; clear HB; have HB := n1_; have HI := n2_; clear n1_ n2_ hb hi) | ((with_reducible refine gate_callee (f := 30) rfl ?_); refine goesL_ (some 29) rfl rfl Tryd.func30 (by kernel_rfl) rfl #[.pointer (some ⟨_, 0, none⟩), .int .u64 (Int.tmod x p)] rfl (by (try simp only [List.map_toArray, List.map_cons, List.map_nil]); first | done | rfl) ?_; (with_reducible refine (prime_order.calls K _ s0 s1 s2 (Int.tmod x p) n _ v0 v1 v2 w _ ?side1 ?side2 A2.out).mono ?_); (case side1 => exact HI.out); (case side2 => exact HB.out); rintro e w7 ⟨rfl, hi, hb, hk⟩; refine ⟨_, rfl, ?_⟩; have n0_ := Aside0.mk hi; have n1_ := Aside0.mk hb; clear HB; clear HI; have HI := n0_; have HB := n1_; clear n0_ n1_ hi hb hk))
   refine bodyPost_ret (results_tmp2 rfl _ _ _) rfl ?_
   exact ⟨rfl, HB.out⟩
  | false =>
   rw [if_neg (by decide)] at H
   simp only [Option.some.injEq, Prod.mk.injEq] at H
   obtain ⟨rfl, rfl⟩ := H
   go_enter Tryd.func22, Tryd.ntmps22
   go_wp2_with (first | ((with_reducible refine gate_callee (f := 28) rfl ?_); refine goesL_ (some 12) rfl rfl Tryd.func28 (by kernel_rfl) rfl #[.int .u64 p] rfl (by (try simp only [List.map_toArray, List.map_cons, List.map_nil]); first | done | rfl) ?_; (with_reducible refine (prime_field.calls K p s0 s1 s2 _ (tab_below HT_.out HB.out) A1.out).mono ?_); rintro e w5 ⟨g, rfl, hi, hb⟩; refine ⟨_, rfl, ?_⟩; have n1_ := Aside0.mk (below_step HB.out hb); have n2_ : Aside0 (IsS55 w w5 g s0 s1 s2) := ⟨⟨hi.1, Nat.le_trans (below_size HB.out) hi.2⟩⟩; clear HB; have HB := n1_; have HI := n2_; clear n1_ n2_ hb hi) | ((with_reducible refine gate_callee (f := 30) rfl ?_); refine goesL_ (some 29) rfl rfl Tryd.func30 (by kernel_rfl) rfl #[.pointer (some ⟨_, 0, none⟩), .int .u64 (Int.tmod x p)] rfl (by (try simp only [List.map_toArray, List.map_cons, List.map_nil]); first | done | rfl) ?_; (with_reducible refine (prime_order.calls K _ s0 s1 s2 (Int.tmod x p) n _ v0 v1 v2 w _ ?side1 ?side2 A2.out).mono ?_); (case side1 => exact HI.out); (case side2 => exact HB.out); rintro e w7 ⟨rfl, hi, hb, hk⟩; refine ⟨_, rfl, ?_⟩; have n0_ := Aside0.mk hi; have n1_ := Aside0.mk hb; clear HB; clear HI; have HI := n0_; have HB := n1_; clear n0_ n1_ hi hb hk))
   refine bodyPost_ret (results_tmp2 rfl _ _ _) rfl ?_
   exact ⟨rfl, HB.out⟩

/-! ### vinculumref04_Order: function 24 -/
def vinculumref04_Order.l0 : Nat → Int → Int → Int → Option (Int)
 | 0, _, _, _ => none
 | k + 1, x0, x1, x5 => if x5 < 64 then (if x0 = 0 then (none) else (if x1 = ((1 : Int) % x0) then (some x5) else ((vinculumref03_Mul.f k x1 x1 x0).bind fun t157 => (vinculumref04_Order.l0 k x0 t157 (wrap64 (x5 + 1)))))) else (some (-1))
def vinculumref04_Order.f (k : Nat) (a0 : Int) (a1 : Int) : Option (Int) := if a0 = 0 then (none) else (vinculumref04_Order.l0 k a0 (Int.tmod a1 a0) 0)
theorem vinculumref04_Order.mono_l : ∀ k, (∀ y0 y1 y2, LeO (vinculumref04_Order.l0 k y0 y1 y2) (vinculumref04_Order.l0 (k + 1) y0 y1 y2))
 | 0 => fun _ _ _ r h => by simp [vinculumref04_Order.l0] at h
 | k + 1 => by
  have ih0 := vinculumref04_Order.mono_l k
  ·intro y0 y1 y2
   unfold vinculumref04_Order.l0
   repeat' first
   | (with_reducible exact ih0 _ _ _)
   | (with_reducible exact vinculumref03_Mul.mono _ _ _ _)
   | (with_reducible exact LeO.refl _)
   | (with_reducible exact LeO.none _)
   | (with_reducible refine LeO.ite ?_ ?_)
   | (with_reducible refine LeO.bind ?_ (fun _ => ?_))
   | exact ih0 _ _ _
   | exact vinculumref03_Mul.mono _ _ _ _
   | exact LeO.none _
   | refine LeO.ite ?_ ?_
   | refine LeO.bind ?_ (fun _ => ?_)
theorem vinculumref04_Order.mono : ∀ a0 a1 k, LeO (vinculumref04_Order.f k a0 a1) (vinculumref04_Order.f (k + 1) a0 a1) := by
 intro a0 a1 k
 have ih0 := vinculumref04_Order.mono_l k
 unfold vinculumref04_Order.f
 repeat' first
   | (with_reducible exact ih0 _ _ _)
   | (with_reducible exact vinculumref03_Mul.mono _ _ _ _)
   | (with_reducible exact LeO.refl _)
   | (with_reducible exact LeO.none _)
   | (with_reducible refine LeO.ite ?_ ?_)
   | (with_reducible refine LeO.bind ?_ (fun _ => ?_))
   | exact ih0 _ _ _
   | exact vinculumref03_Mul.mono _ _ _ _
   | exact LeO.none _
   | refine LeO.ite ?_ ?_
   | refine LeO.bind ?_ (fun _ => ?_)
theorem vinculumref04_Order.calls (k : Nat) (a0 : Int) (a1 : Int) (r : Int) (w : World) (h : vinculumref04_Order.f k a0 a1 = some r) :
  Calls Tryd.prog 24 #[.int .u64 a0, .int .u64 a1] w fun e w' => e = .returned (.int .i64 r) ∧ Drawn0 w w' := by
 have H : (if a0 = 0 then (none) else (vinculumref04_Order.l0 k a0 (Int.tmod a1 a0) 0)) = some r := h
 clear h
 by_cases c3 : a0 = 0
 ·rw [if_pos c3] at H
  exact absurd H (by simp)
 rw [if_neg c3] at H
 have c3b0 : (a0 == 0) = false := beq_eq_false_iff_ne.mpr c3
 have c3b1 : (a0 != 0) = true := bne_iff_ne.mpr c3
 have H' := Aside0.mk H
 clear H
 go_enter Tryd.func24, Tryd.ntmps24
 go_wp2
 go_loopg [1, 5] k (fun kq v1 v5 w' => ∃ (x1_1 : Int) (x5_1 : Int), v1 = .int .u64 x1_1 ∧ v5 = .int .i64 x5_1 ∧ Aside0 (vinculumref04_Order.l0 kq a0 x1_1 x5_1 = some r) ∧ Aside0 (kq ≤ k) ∧ Drawn0 w w')
 case atStart => exact ⟨(Int.tmod a1 a0), (0), (by first | rfl | (simp; done) | (simp [*]; done)), (by first | rfl | (simp; done) | (simp [*]; done)), H', ⟨Nat.le_refl _⟩, by repeat (first | exact Drawn0.refl _ | apply Drawn0.step)⟩
 case round =>
  clear H'
  try clear c2
  try clear p2
  try clear c3
  try clear c3b0
  try clear c3b1
  obtain ⟨x1_1, x5_1, rfl, rfl, HA, HK1, ⟨m1, rfl⟩⟩ := hrel
  cases gk with
  | zero => exact absurd HA.out (by simp [vinculumref04_Order.l0])
  | succ k1 =>
   have H := HA.out
   clear HA
   simp only [vinculumref04_Order.l0] at H
   by_cases c4 : x5_1 < 64
   ·rw [if_pos c4] at H
    have c4b0 : decide (x5_1 < 64) = true := decide_eq_true c4
    clear c4
    by_cases c5 : a0 = 0
    ·rw [if_pos c5] at H
     exact absurd H (by simp)
    rw [if_neg c5] at H
    have c5b0 : (a0 == 0) = false := beq_eq_false_iff_ne.mpr c5
    have c5b1 : (a0 != 0) = true := bne_iff_ne.mpr c5
    by_cases c6 : x1_1 = ((1 : Int) % a0)
    ·rw [if_pos c6] at H
     have c6b0 : (x1_1 == ((1 : Int) % a0)) = true := beq_iff_eq.mpr c6
     have c6b1 : (x1_1 != ((1 : Int) % a0)) = false := bne_eq_false_iff_eq.mpr c6
     clear c6
     obtain rfl := Option.some.inj H
     go_wp2
     go_ret
     exact ⟨by first | rfl | (simp; done) | (simp [*]; done), by repeat (first | exact Drawn0.refl _ | apply Drawn0.step)⟩
    rw [if_neg c6] at H
    have c6b0 : (x1_1 == ((1 : Int) % a0)) = false := beq_eq_false_iff_ne.mpr c6
    have c6b1 : (x1_1 != ((1 : Int) % a0)) = true := bne_iff_ne.mpr c6
    replace H := Option.bind_eq_some_iff.mp H
    obtain ⟨t157, A70, H⟩ := H
    replace H : (vinculumref04_Order.l0 k1 a0 t157 (wrap64 (x5_1 + 1))) = some r := H
    have A7 := Aside0.mk A70
    clear A70
    have H' := Aside0.mk H
    clear H
    go_wp2_with (first | ((with_reducible refine gate_callee (f := 25) rfl ?_); refine goesL_ (some 21) rfl rfl Tryd.func25 (by kernel_rfl) rfl #[.int .u64 x1_1, .int .u64 x1_1, .int .u64 a0] rfl (by (try simp only [List.map_toArray, List.map_cons, List.map_nil]); first | done | rfl | (simp only [List.length_drop, List.length_take]; rfl)) ?_; (with_reducible refine (vinculumref03_Mul.calls k1 x1_1 x1_1 a0 t157 _ A7.out).mono ?_); rintro e w' ⟨rfl, ⟨nd, rfl⟩⟩; refine ⟨_, rfl, ?_⟩))
    go_roundg k1
    case measure => have := HK1.out; omega
    case rel => exact ⟨(t157), (wrap64 (x5_1 + 1)), (by first | rfl | (simp; done) | (simp [*]; done)), (by first | rfl | (simp; done) | (simp [*]; done)), H', ⟨by have := HK1.out; omega⟩, by repeat (first | exact Drawn0.refl _ | apply Drawn0.step)⟩
   rw [if_neg c4] at H
   have c4b0 : decide (x5_1 < 64) = false := decide_eq_false c4
   clear c4
   obtain rfl := Option.some.inj H
   go_wp2
   go_ret
   exact ⟨by first | rfl | (simp; done) | (simp [*]; done), by repeat (first | exact Drawn0.refl _ | apply Drawn0.step)⟩

/-! ### vinculumref04_Root: function 23 -/
mutual
def vinculumref04_Root.j0 : Nat → Int → Int → Bool → Option (Int × Int)
 | 0, _, _, _ => none
 | k + 1, x0, x1, x29 => if x29 = true then (some (0, 1)) else (vinculumref04_Root.l0 k x0 x1 (IntKind.u64.wrap (x0 - 1)) 0)
def vinculumref04_Root.l0 : Nat → Int → Int → Int → Int → Option (Int × Int)
 | 0, _, _, _, _ => none
 | k + 1, x0, x1, x6, x7 => if x7 < x1 then (vinculumref04_Root.l0 k x0 x1 (IntKind.u64.wrap (Int.tdiv x6 2)) (wrap64 (x7 + 1))) else (vinculumref04_Root.l1 k x0 x1 x6 1)
def vinculumref04_Root.l1 : Nat → Int → Int → Int → Int → Option (Int × Int)
 | 0, _, _, _, _ => none
 | k + 1, x0, x1, x6, x8 => (vinculumref03_Pow.f k x8 x6 x0).bind fun t159 => ((vinculumref04_Order.f k x0 t159).bind fun t160 => (if t160 = x1 then ((vinculumref03_Pow.f k x8 x6 x0).bind fun t161 => (some (t161, 0))) else (vinculumref04_Root.l1 k x0 x1 x6 (IntKind.u64.wrap (x8 + 1)))))
end
def vinculumref04_Root.f (k : Nat) (a0 : Int) (a1 : Int) : Option (Int × Int) := if a1 < 0 then (vinculumref04_Root.j0 k a0 a1 true) else ((vinculumref04_Twos.f k (IntKind.u64.wrap (a0 - 1))).bind fun t158 => (if a1 > t158 then (if a0 > 2 then (vinculumref04_Root.j0 k a0 a1 true) else (if a0 = 2 then (vinculumref04_Root.j0 k a0 a1 (decide (a1 > 0))) else (vinculumref04_Root.j0 k a0 a1 false))) else (if a0 = 2 then (vinculumref04_Root.j0 k a0 a1 (decide (a1 > 0))) else (vinculumref04_Root.j0 k a0 a1 false))))
theorem vinculumref04_Root.mono_l : ∀ k, (∀ y0 y1 y2, LeO (vinculumref04_Root.j0 k y0 y1 y2) (vinculumref04_Root.j0 (k + 1) y0 y1 y2)) ∧ (∀ y0 y1 y2 y3, LeO (vinculumref04_Root.l0 k y0 y1 y2 y3) (vinculumref04_Root.l0 (k + 1) y0 y1 y2 y3)) ∧ (∀ y0 y1 y2 y3, LeO (vinculumref04_Root.l1 k y0 y1 y2 y3) (vinculumref04_Root.l1 (k + 1) y0 y1 y2 y3))
 | 0 => ⟨fun _ _ _ r h => by simp [vinculumref04_Root.j0] at h, fun _ _ _ _ r h => by simp [vinculumref04_Root.l0] at h, fun _ _ _ _ r h => by simp [vinculumref04_Root.l1] at h⟩
 | k + 1 => by
  obtain ⟨ih0, ih1, ih2⟩ := vinculumref04_Root.mono_l k
  refine ⟨?_, ?_, ?_⟩
  ·intro y0 y1 y2
   unfold vinculumref04_Root.j0
   repeat' first
   | (with_reducible exact ih0 _ _ _)
   | (with_reducible exact ih1 _ _ _ _)
   | (with_reducible exact ih2 _ _ _ _)
   | (with_reducible exact vinculumref03_Pow.mono _ _ _ _)
   | (with_reducible exact vinculumref04_Order.mono _ _ _)
   | (with_reducible exact vinculumref04_Twos.mono _ _)
   | (with_reducible exact LeO.refl _)
   | (with_reducible exact LeO.none _)
   | (with_reducible refine LeO.ite ?_ ?_)
   | (with_reducible refine LeO.bind ?_ (fun _ => ?_))
   | exact ih0 _ _ _
   | exact ih1 _ _ _ _
   | exact ih2 _ _ _ _
   | exact vinculumref03_Pow.mono _ _ _ _
   | exact vinculumref04_Order.mono _ _ _
   | exact vinculumref04_Twos.mono _ _
   | exact LeO.none _
   | refine LeO.ite ?_ ?_
   | refine LeO.bind ?_ (fun _ => ?_)
  ·intro y0 y1 y2 y3
   unfold vinculumref04_Root.l0
   repeat' first
   | (with_reducible exact ih0 _ _ _)
   | (with_reducible exact ih1 _ _ _ _)
   | (with_reducible exact ih2 _ _ _ _)
   | (with_reducible exact vinculumref03_Pow.mono _ _ _ _)
   | (with_reducible exact vinculumref04_Order.mono _ _ _)
   | (with_reducible exact vinculumref04_Twos.mono _ _)
   | (with_reducible exact LeO.refl _)
   | (with_reducible exact LeO.none _)
   | (with_reducible refine LeO.ite ?_ ?_)
   | (with_reducible refine LeO.bind ?_ (fun _ => ?_))
   | exact ih0 _ _ _
   | exact ih1 _ _ _ _
   | exact ih2 _ _ _ _
   | exact vinculumref03_Pow.mono _ _ _ _
   | exact vinculumref04_Order.mono _ _ _
   | exact vinculumref04_Twos.mono _ _
   | exact LeO.none _
   | refine LeO.ite ?_ ?_
   | refine LeO.bind ?_ (fun _ => ?_)
  intro y0 y1 y2 y3
  unfold vinculumref04_Root.l1
  repeat' first
  | (with_reducible exact ih0 _ _ _)
  | (with_reducible exact ih1 _ _ _ _)
  | (with_reducible exact ih2 _ _ _ _)
  | (with_reducible exact vinculumref03_Pow.mono _ _ _ _)
  | (with_reducible exact vinculumref04_Order.mono _ _ _)
  | (with_reducible exact vinculumref04_Twos.mono _ _)
  | (with_reducible exact LeO.refl _)
  | (with_reducible exact LeO.none _)
  | (with_reducible refine LeO.ite ?_ ?_)
  | (with_reducible refine LeO.bind ?_ (fun _ => ?_))
  | exact ih0 _ _ _
  | exact ih1 _ _ _ _
  | exact ih2 _ _ _ _
  | exact vinculumref03_Pow.mono _ _ _ _
  | exact vinculumref04_Order.mono _ _ _
  | exact vinculumref04_Twos.mono _ _
  | exact LeO.none _
  | refine LeO.ite ?_ ?_
  | refine LeO.bind ?_ (fun _ => ?_)
theorem vinculumref04_Root.mono : ∀ a0 a1 k, LeO (vinculumref04_Root.f k a0 a1) (vinculumref04_Root.f (k + 1) a0 a1) := by
 intro a0 a1 k
 obtain ⟨ih0, ih1, ih2⟩ := vinculumref04_Root.mono_l k
 unfold vinculumref04_Root.f
 repeat' first
   | (with_reducible exact ih0 _ _ _)
   | (with_reducible exact ih1 _ _ _ _)
   | (with_reducible exact ih2 _ _ _ _)
   | (with_reducible exact vinculumref03_Pow.mono _ _ _ _)
   | (with_reducible exact vinculumref04_Order.mono _ _ _)
   | (with_reducible exact vinculumref04_Twos.mono _ _)
   | (with_reducible exact LeO.refl _)
   | (with_reducible exact LeO.none _)
   | (with_reducible refine LeO.ite ?_ ?_)
   | (with_reducible refine LeO.bind ?_ (fun _ => ?_))
   | exact ih0 _ _ _
   | exact ih1 _ _ _ _
   | exact ih2 _ _ _ _
   | exact vinculumref03_Pow.mono _ _ _ _
   | exact vinculumref04_Order.mono _ _ _
   | exact vinculumref04_Twos.mono _ _
   | exact LeO.none _
   | refine LeO.ite ?_ ?_
   | refine LeO.bind ?_ (fun _ => ?_)
theorem vinculumref04_Root.calls (k : Nat) (a0 : Int) (a1 : Int) (r1 : Int) (r2 : Int) (w : World) (h : vinculumref04_Root.f k a0 a1 = some (r1, r2)) :
  Calls Tryd.prog 23 #[.int .u64 a0, .int .i64 a1] w fun e w' => e = .returned (.tuple #[.int .u64 r1, .int .i64 r2]) ∧ Drawn0 w w' := by
 have H : (if a1 < 0 then (vinculumref04_Root.j0 k a0 a1 true) else ((vinculumref04_Twos.f k (IntKind.u64.wrap (a0 - 1))).bind fun t158 => (if a1 > t158 then (if a0 > 2 then (vinculumref04_Root.j0 k a0 a1 true) else (if a0 = 2 then (vinculumref04_Root.j0 k a0 a1 (decide (a1 > 0))) else (vinculumref04_Root.j0 k a0 a1 false))) else (if a0 = 2 then (vinculumref04_Root.j0 k a0 a1 (decide (a1 > 0))) else (vinculumref04_Root.j0 k a0 a1 false))))) = some (r1, r2) := h
 clear h
 have HC3 := Aside0.mk H
 clear H
 go_enter Tryd.func23, Tryd.ntmps23
 go_upto_region 1 with (fail)
 go_cut [29] (fun v29 wc => ∃ (kq : Nat) (x29_2 : Bool), v29 = .bool x29_2 ∧ Aside0 (vinculumref04_Root.j0 kq a0 a1 x29_2 = some (r1, r2)) ∧ Aside0 (kq ≤ k) ∧ Drawn0 w wc)
 case first =>
  have H := HC3.out
  clear HC3
  by_cases c4 : a1 < 0
  ·rw [if_pos c4] at H
   have c4b0 : decide (a1 < 0) = true := decide_eq_true c4
   clear c4
   (first | rw [c4b0] | (simp only [i64_w, i32_w]; rw [c4b0]) | skip)
   have H' := Aside0.mk H
   clear H
   go_wp2
   go_meet
   case rel => exact ⟨_, (true), (by first | rfl | (simp; done) | (simp [*]; done)), H', ⟨by first | omega | exact Nat.le_refl _⟩, by repeat (first | exact Drawn0.refl _ | apply Drawn0.step)⟩
  rw [if_neg c4] at H
  have c4b0 : decide (a1 < 0) = false := decide_eq_false c4
  clear c4
  (first | rw [c4b0] | (simp only [i64_w, i32_w]; rw [c4b0]) | skip)
  replace H := Option.bind_eq_some_iff.mp H
  obtain ⟨t158, A50, H⟩ := H
  replace H : (if a1 > t158 then (if a0 > 2 then (vinculumref04_Root.j0 k a0 a1 true) else (if a0 = 2 then (vinculumref04_Root.j0 k a0 a1 (decide (a1 > 0))) else (vinculumref04_Root.j0 k a0 a1 false))) else (if a0 = 2 then (vinculumref04_Root.j0 k a0 a1 (decide (a1 > 0))) else (vinculumref04_Root.j0 k a0 a1 false))) = some (r1, r2) := H
  have A5 := Aside0.mk A50
  clear A50
  by_cases c6 : a1 > t158
  ·rw [if_pos c6] at H
   have c6b0 : decide (t158 < a1) = true := decide_eq_true c6
   clear c6
   by_cases c7 : a0 > 2
   ·rw [if_pos c7] at H
    have c7b0 : decide (2 < a0) = true := decide_eq_true c7
    clear c7
    have H' := Aside0.mk H
    clear H
    go_wp2_with (first | (go_at_call 20; (with_reducible refine (vinculumref04_Twos.calls k (IntKind.u64.wrap (a0 - 1)) t158 _ A5.out).mono ?_); rintro e w' ⟨rfl, ⟨nd, rfl⟩⟩))
    go_meet
    case rel => exact ⟨_, (true), (by first | rfl | (simp; done) | (simp [*]; done)), H', ⟨by first | omega | exact Nat.le_refl _⟩, by repeat (first | exact Drawn0.refl _ | apply Drawn0.step)⟩
   rw [if_neg c7] at H
   have c7b0 : decide (2 < a0) = false := decide_eq_false c7
   clear c7
   by_cases c8 : a0 = 2
   ·rw [if_pos c8] at H
    have c8b0 : (a0 == 2) = true := beq_iff_eq.mpr c8
    have c8b1 : (a0 != 2) = false := bne_eq_false_iff_eq.mpr c8
    clear c8
    have H' := Aside0.mk H
    clear H
    go_wp2_with (first | (go_at_call 20; (with_reducible refine (vinculumref04_Twos.calls k (IntKind.u64.wrap (a0 - 1)) t158 _ A5.out).mono ?_); rintro e w' ⟨rfl, ⟨nd, rfl⟩⟩))
    go_meet
    case rel => exact ⟨_, (decide (a1 > 0)), (by first | rfl | (simp; done) | (simp [*]; done)), H', ⟨by first | omega | exact Nat.le_refl _⟩, by repeat (first | exact Drawn0.refl _ | apply Drawn0.step)⟩
   rw [if_neg c8] at H
   have c8b0 : (a0 == 2) = false := beq_eq_false_iff_ne.mpr c8
   have c8b1 : (a0 != 2) = true := bne_iff_ne.mpr c8
   have H' := Aside0.mk H
   clear H
   go_wp2_with (first | (go_at_call 20; (with_reducible refine (vinculumref04_Twos.calls k (IntKind.u64.wrap (a0 - 1)) t158 _ A5.out).mono ?_); rintro e w' ⟨rfl, ⟨nd, rfl⟩⟩))
   go_meet
   case rel => exact ⟨_, (false), (by first | rfl | (simp; done) | (simp [*]; done)), H', ⟨by first | omega | exact Nat.le_refl _⟩, by repeat (first | exact Drawn0.refl _ | apply Drawn0.step)⟩
  rw [if_neg c6] at H
  have c6b0 : decide (t158 < a1) = false := decide_eq_false c6
  clear c6
  by_cases c9 : a0 = 2
  ·rw [if_pos c9] at H
   have c9b0 : (a0 == 2) = true := beq_iff_eq.mpr c9
   have c9b1 : (a0 != 2) = false := bne_eq_false_iff_eq.mpr c9
   clear c9
   have H' := Aside0.mk H
   clear H
   go_wp2_with (first | (go_at_call 20; (with_reducible refine (vinculumref04_Twos.calls k (IntKind.u64.wrap (a0 - 1)) t158 _ A5.out).mono ?_); rintro e w' ⟨rfl, ⟨nd, rfl⟩⟩))
   go_meet
   case rel => exact ⟨_, (decide (a1 > 0)), (by first | rfl | (simp; done) | (simp [*]; done)), H', ⟨by first | omega | exact Nat.le_refl _⟩, by repeat (first | exact Drawn0.refl _ | apply Drawn0.step)⟩
  rw [if_neg c9] at H
  have c9b0 : (a0 == 2) = false := beq_eq_false_iff_ne.mpr c9
  have c9b1 : (a0 != 2) = true := bne_iff_ne.mpr c9
  have H' := Aside0.mk H
  clear H
  go_wp2_with (first | (go_at_call 20; (with_reducible refine (vinculumref04_Twos.calls k (IntKind.u64.wrap (a0 - 1)) t158 _ A5.out).mono ?_); rintro e w' ⟨rfl, ⟨nd, rfl⟩⟩))
  go_meet
  case rel => exact ⟨_, (false), (by first | rfl | (simp; done) | (simp [*]; done)), H', ⟨by first | omega | exact Nat.le_refl _⟩, by repeat (first | exact Drawn0.refl _ | apply Drawn0.step)⟩
 case rest =>
  clear HC3
  try clear c2
  try clear p2
  try clear c4
  try clear c4b0
  try clear c6
  try clear c6b0
  try clear c7
  try clear c7b0
  try clear c8
  try clear c8b0
  try clear c8b1
  try clear c9
  try clear c9b0
  try clear c9b1
  obtain ⟨kq, x29_2, rfl, HA, HJ2, ⟨mc2, rfl⟩⟩ := hcut
  cases kq with
  | zero => exact absurd HA.out (by simp [vinculumref04_Root.j0])
  | succ kj2 =>
   have H := HA.out
   clear HA
   simp only [vinculumref04_Root.j0] at H
   by_cases c10 : x29_2 = true
   ·subst c10
    have H1 : (some (0, 1)) = some (r1, r2) := by rw [if_pos rfl] at H; exact H
    clear H
    have H := H1
    clear H1
    simp only [Option.some.injEq, Prod.mk.injEq] at H
    obtain ⟨rfl, rfl⟩ := H
    go_wp2
    go_ret2
    exact ⟨by first | rfl | (simp; done) | (simp [*]; done), by repeat (first | exact Drawn0.refl _ | apply Drawn0.step)⟩
   replace c10 := Bool.eq_false_iff.mpr c10
   subst c10
   have H1 : (vinculumref04_Root.l0 kj2 a0 a1 (IntKind.u64.wrap (a0 - 1)) 0) = some (r1, r2) := by rw [if_neg (show ¬ (false = true) by decide)] at H; exact H
   clear H
   have H := H1
   clear H1
   have H' := Aside0.mk H
   clear H
   go_wp2
   go_loopg [6, 7] kj2 (fun kq v6 v7 w' => ∃ (x6_2 : Int) (x7_2 : Int), v6 = .int .u64 x6_2 ∧ v7 = .int .i64 x7_2 ∧ Aside0 (vinculumref04_Root.l0 kq a0 a1 x6_2 x7_2 = some (r1, r2)) ∧ Aside0 (kq ≤ kj2) ∧ Drawn0 w w')
   case atStart => exact ⟨(IntKind.u64.wrap (a0 - 1)), (0), (by first | rfl | (simp; done) | (simp [*]; done)), (by first | rfl | (simp; done) | (simp [*]; done)), H', ⟨Nat.le_refl _⟩, by repeat (first | exact Drawn0.refl _ | apply Drawn0.step)⟩
   case round =>
    clear H'
    try clear c1
    try clear c2
    try clear p2
    try clear c4
    try clear c4b0
    try clear c6
    try clear c6b0
    try clear c7
    try clear c7b0
    try clear c8
    try clear c8b0
    try clear c8b1
    try clear c9
    try clear c9b0
    try clear c9b1
    try clear c10
    try clear p2
    obtain ⟨x6_2, x7_2, rfl, rfl, HA, HK2, ⟨m2, rfl⟩⟩ := hrel
    cases gk with
    | zero => exact absurd HA.out (by simp [vinculumref04_Root.l0])
    | succ k2 =>
     have H := HA.out
     clear HA
     simp only [vinculumref04_Root.l0] at H
     by_cases c11 : x7_2 < a1
     ·rw [if_pos c11] at H
      have c11b0 : decide (x7_2 < a1) = true := decide_eq_true c11
      clear c11
      have H' := Aside0.mk H
      clear H
      go_wp2
      go_roundg k2
      case measure => have := HJ2.out; have := HK2.out; omega
      case rel => exact ⟨(IntKind.u64.wrap (Int.tdiv x6_2 2)), (wrap64 (x7_2 + 1)), (by first | rfl | (simp; done) | (simp [*]; done)), (by first | rfl | (simp; done) | (simp [*]; done)), H', ⟨by have := HJ2.out; have := HK2.out; omega⟩, by repeat (first | exact Drawn0.refl _ | apply Drawn0.step)⟩
     rw [if_neg c11] at H
     have c11b0 : decide (x7_2 < a1) = false := decide_eq_false c11
     clear c11
     have H' := Aside0.mk H
     clear H
     go_wp2
     go_loopg [8] k2 (fun kq v8 w' => ∃ (x8_3 : Int), v8 = .int .u64 x8_3 ∧ Aside0 (vinculumref04_Root.l1 kq a0 a1 x6_2 x8_3 = some (r1, r2)) ∧ Aside0 (kq ≤ k2) ∧ Drawn0 w w')
     case atStart => exact ⟨(1), (by first | rfl | (simp; done) | (simp [*]; done)), H', ⟨Nat.le_refl _⟩, by repeat (first | exact Drawn0.refl _ | apply Drawn0.step)⟩
     case round =>
      clear H'
      try clear c1
      try clear c2
      try clear p2
      try clear c4
      try clear c4b0
      try clear c6
      try clear c6b0
      try clear p6
      try clear c7
      try clear c7b0
      try clear c8
      try clear c8b0
      try clear c8b1
      try clear c9
      try clear c9b0
      try clear c9b1
      try clear c10
      try clear c11
      try clear c11b0
      try clear p2
      obtain ⟨x8_3, rfl, HA, HK3, ⟨m3, rfl⟩⟩ := hrel
      cases gk with
      | zero => exact absurd HA.out (by simp [vinculumref04_Root.l1])
      | succ k3 =>
       have H := HA.out
       clear HA
       simp only [vinculumref04_Root.l1] at H
       replace H := Option.bind_eq_some_iff.mp H
       obtain ⟨t159, A120, H⟩ := H
       replace H : ((vinculumref04_Order.f k3 a0 t159).bind fun t160 => (if t160 = a1 then ((vinculumref03_Pow.f k3 x8_3 x6_2 a0).bind fun t161 => (some (t161, 0))) else (vinculumref04_Root.l1 k3 a0 a1 x6_2 (IntKind.u64.wrap (x8_3 + 1))))) = some (r1, r2) := H
       have A12 := Aside0.mk A120
       clear A120
       replace H := Option.bind_eq_some_iff.mp H
       obtain ⟨t160, A130, H⟩ := H
       replace H : (if t160 = a1 then ((vinculumref03_Pow.f k3 x8_3 x6_2 a0).bind fun t161 => (some (t161, 0))) else (vinculumref04_Root.l1 k3 a0 a1 x6_2 (IntKind.u64.wrap (x8_3 + 1)))) = some (r1, r2) := H
       have A13 := Aside0.mk A130
       clear A130
       by_cases c14 : t160 = a1
       ·rw [if_pos c14] at H
        have c14b0 : (t160 == a1) = true := beq_iff_eq.mpr c14
        have c14b1 : (t160 != a1) = false := bne_eq_false_iff_eq.mpr c14
        clear c14
        replace H := Option.bind_eq_some_iff.mp H
        obtain ⟨t161, A150, H⟩ := H
        replace H : (some (t161, 0)) = some (r1, r2) := H
        have A15 := Aside0.mk A150
        clear A150
        simp only [Option.some.injEq, Prod.mk.injEq] at H
        obtain ⟨rfl, rfl⟩ := H
        go_wp2_with (first | ((with_reducible refine gate_callee (f := 17) rfl ?_); refine goesL_ (some 43) rfl rfl Tryd.func17 (by kernel_rfl) rfl #[.int .u64 x8_3, .int .u64 x6_2, .int .u64 a0] rfl (by (try simp only [List.map_toArray, List.map_cons, List.map_nil]); first | done | rfl | (simp only [List.length_drop, List.length_take]; rfl)) ?_; (with_reducible refine (vinculumref03_Pow.calls k3 x8_3 x6_2 a0 t159 _ A12.out).mono ?_); rintro e w' ⟨rfl, ⟨nd, rfl⟩⟩; refine ⟨_, rfl, ?_⟩) | ((with_reducible refine gate_callee (f := 24) rfl ?_); refine goesL_ (some 44) rfl rfl Tryd.func24 (by kernel_rfl) rfl #[.int .u64 a0, .int .u64 t159] rfl (by (try simp only [List.map_toArray, List.map_cons, List.map_nil]); first | done | rfl | (simp only [List.length_drop, List.length_take]; rfl)) ?_; (with_reducible refine (vinculumref04_Order.calls k3 a0 t159 t160 _ A13.out).mono ?_); rintro e w' ⟨rfl, ⟨nd, rfl⟩⟩; refine ⟨_, rfl, ?_⟩) | ((with_reducible refine gate_callee (f := 17) rfl ?_); refine goesL_ (some 52) rfl rfl Tryd.func17 (by kernel_rfl) rfl #[.int .u64 x8_3, .int .u64 x6_2, .int .u64 a0] rfl (by (try simp only [List.map_toArray, List.map_cons, List.map_nil]); first | done | rfl | (simp only [List.length_drop, List.length_take]; rfl)) ?_; (with_reducible refine (vinculumref03_Pow.calls k3 x8_3 x6_2 a0 t161 _ A15.out).mono ?_); rintro e w' ⟨rfl, ⟨nd, rfl⟩⟩; refine ⟨_, rfl, ?_⟩))
        go_ret2
        exact ⟨by first | rfl | (simp; done) | (simp [*]; done), by repeat (first | exact Drawn0.refl _ | apply Drawn0.step)⟩
       rw [if_neg c14] at H
       have c14b0 : (t160 == a1) = false := beq_eq_false_iff_ne.mpr c14
       have c14b1 : (t160 != a1) = true := bne_iff_ne.mpr c14
       have H' := Aside0.mk H
       clear H
       go_wp2_with (first | ((with_reducible refine gate_callee (f := 17) rfl ?_); refine goesL_ (some 43) rfl rfl Tryd.func17 (by kernel_rfl) rfl #[.int .u64 x8_3, .int .u64 x6_2, .int .u64 a0] rfl (by (try simp only [List.map_toArray, List.map_cons, List.map_nil]); first | done | rfl | (simp only [List.length_drop, List.length_take]; rfl)) ?_; (with_reducible refine (vinculumref03_Pow.calls k3 x8_3 x6_2 a0 t159 _ A12.out).mono ?_); rintro e w' ⟨rfl, ⟨nd, rfl⟩⟩; refine ⟨_, rfl, ?_⟩) | ((with_reducible refine gate_callee (f := 24) rfl ?_); refine goesL_ (some 44) rfl rfl Tryd.func24 (by kernel_rfl) rfl #[.int .u64 a0, .int .u64 t159] rfl (by (try simp only [List.map_toArray, List.map_cons, List.map_nil]); first | done | rfl | (simp only [List.length_drop, List.length_take]; rfl)) ?_; (with_reducible refine (vinculumref04_Order.calls k3 a0 t159 t160 _ A13.out).mono ?_); rintro e w' ⟨rfl, ⟨nd, rfl⟩⟩; refine ⟨_, rfl, ?_⟩))
       go_roundg k3
       case measure => have := HJ2.out; have := HK2.out; have := HK3.out; omega
       case rel => exact ⟨(IntKind.u64.wrap (x8_3 + 1)), (by first | rfl | (simp; done) | (simp [*]; done)), H', ⟨by have := HJ2.out; have := HK2.out; have := HK3.out; omega⟩, by repeat (first | exact Drawn0.refl _ | apply Drawn0.step)⟩

end Go.Proofs.YtnlklfhgdefbaaaDoor.GN
-- thin

-- Written by wip/tools/myprint.py (this session's program, over the kit's print.py).
import Derived.Test.YtnlklfhgdefbaaaDoorGNx0
import Derived.Test.YtnlklfhgdefbaaaDoorGNx1
namespace Go.Proofs.YtnlklfhgdefbaaaDoor.GN
set_option maxRecDepth 100000
set_option maxHeartbeats 8000000
open Go.RowKit Go.Proofs.YtnlklfhgdefbaaaDoorW.PrintWords Go.Proofs.YtnlklfhgdefbaaaDoorW.PrintLast Go.Proofs.YtnlklfhgdefbaaaDoorW.PrintMore
attribute [local go_sem] max2_int min2_int max_two min_two max_three min_three max_four min_four   -- for this text's walks alone
set_option linter.unusedVariables false
set_option linter.unusedSimpArgs false

/-! ### bits_Rem64: function 38 -/
def bits_Rem64.f (k : Nat) (a0 : Int) (a1 : Int) (a2 : Int) : Option (Int) := if a2 = 0 then (none) else ((bits_Div64.f k (Int.tmod a0 a2) a1 a2).bind fun bt103 => (some bt103.2))
theorem bits_Rem64.mono : ∀ a0 a1 a2 k, LeO (bits_Rem64.f k a0 a1 a2) (bits_Rem64.f (k + 1) a0 a1 a2) := by
 intro a0 a1 a2 k
 unfold bits_Rem64.f
 repeat' first
   | (with_reducible exact bits_Div64.mono _ _ _ _)
   | (with_reducible exact LeO.refl _)
   | (with_reducible exact LeO.none _)
   | (with_reducible refine LeO.ite ?_ ?_)
   | (with_reducible refine LeO.bind ?_ (fun _ => ?_))
   | exact bits_Div64.mono _ _ _ _
   | exact LeO.none _
   | refine LeO.ite ?_ ?_
   | refine LeO.bind ?_ (fun _ => ?_)
theorem bits_Rem64.calls (k : Nat) (a0 : Int) (a1 : Int) (a2 : Int) (r : Int) (w : World) (h : bits_Rem64.f k a0 a1 a2 = some r) :
  Calls Tryd.prog 38 #[.int .u64 a0, .int .u64 a1, .int .u64 a2] w fun e w' => e = .returned (.int .u64 r) ∧ Drawn0 w w' := by
 have H : (if a2 = 0 then (none) else ((bits_Div64.f k (Int.tmod a0 a2) a1 a2).bind fun bt103 => (some bt103.2))) = some r := h
 clear h
 by_cases c4 : a2 = 0
 ·rw [if_pos c4] at H
  exact absurd H (by simp)
 rw [if_neg c4] at H
 have c4b0 : (a2 == 0) = false := beq_eq_false_iff_ne.mpr c4
 have c4b1 : (a2 != 0) = true := bne_iff_ne.mpr c4
 replace H := Option.bind_eq_some_iff.mp H
 obtain ⟨⟨t103, t104⟩, A50, H⟩ := H
 replace H : (some t104) = some r := H
 have A5 := Aside0.mk A50
 clear A50
 obtain rfl := Option.some.inj H
 go_enter Tryd.func38, Tryd.ntmps38
 go_wp2_with (first | ((with_reducible refine gate_callee (f := 39) rfl ?_); refine goesL_ (some 15) rfl rfl Tryd.func39 (by kernel_rfl) rfl #[.int .u64 (Int.tmod a0 a2), .int .u64 a1, .int .u64 a2] rfl (by (try simp only [List.map_toArray, List.map_cons, List.map_nil]); first | done | rfl | (simp only [List.length_drop, List.length_take]; rfl)) ?_; (with_reducible refine (bits_Div64.calls k (Int.tmod a0 a2) a1 a2 t103 t104 _ A5.out).mono ?_); rintro e w' ⟨rfl, ⟨nd, rfl⟩⟩; refine ⟨_, rfl, ?_⟩))
 go_ret
 exact ⟨by first | rfl | (simp; done) | (simp [*]; done), by repeat (first | exact Drawn0.refl _ | apply Drawn0.step)⟩

/-! ### prime_mul: function 33 -/
def prime_mul.f (k : Nat) (a0 : Int) (a1 : Int) (a2 : Int) : Option (Int) := (bits_Mul64.f a0 a1).bind fun bt105 => ((bits_Rem64.f k bt105.1 bt105.2 a2).bind fun t107 => (some t107))
theorem prime_mul.mono : ∀ a0 a1 a2 k, LeO (prime_mul.f k a0 a1 a2) (prime_mul.f (k + 1) a0 a1 a2) := by
 intro a0 a1 a2 k
 unfold prime_mul.f
 repeat' first
   | (with_reducible exact bits_Rem64.mono _ _ _ _)
   | (with_reducible exact LeO.refl _)
   | (with_reducible exact LeO.none _)
   | (with_reducible refine LeO.ite ?_ ?_)
   | (with_reducible refine LeO.bind ?_ (fun _ => ?_))
   | exact bits_Rem64.mono _ _ _ _
   | exact LeO.none _
   | refine LeO.ite ?_ ?_
   | refine LeO.bind ?_ (fun _ => ?_)
theorem prime_mul.calls (k : Nat) (a0 : Int) (a1 : Int) (a2 : Int) (r : Int) (w : World) (h : prime_mul.f k a0 a1 a2 = some r) :
  Calls Tryd.prog 33 #[.int .u64 a0, .int .u64 a1, .int .u64 a2] w fun e w' => e = .returned (.int .u64 r) ∧ Drawn0 w w' := by
 have H : ((bits_Mul64.f a0 a1).bind fun bt105 => ((bits_Rem64.f k bt105.1 bt105.2 a2).bind fun t107 => (some t107))) = some r := h
 clear h
 replace H := Option.bind_eq_some_iff.mp H
 obtain ⟨⟨t105, t106⟩, A40, H⟩ := H
 replace H : ((bits_Rem64.f k t105 t106 a2).bind fun t107 => (some t107)) = some r := H
 have A4 := Aside0.mk A40
 clear A40
 replace H := Option.bind_eq_some_iff.mp H
 obtain ⟨t107, A50, H⟩ := H
 replace H : (some t107) = some r := H
 have A5 := Aside0.mk A50
 clear A50
 obtain rfl := Option.some.inj H
 go_enter Tryd.func33, Tryd.ntmps33
 go_wp2_with (first | ((with_reducible refine gate_callee (f := 37) rfl ?_); refine goesL_ (some 12) rfl rfl Tryd.func37 (by kernel_rfl) rfl #[.int .u64 a0, .int .u64 a1] rfl (by (try simp only [List.map_toArray, List.map_cons, List.map_nil]); first | done | rfl | (simp only [List.length_drop, List.length_take]; rfl)) ?_; (with_reducible refine (bits_Mul64.calls a0 a1 t105 t106 _ A4.out).mono ?_); rintro e w' ⟨rfl, ⟨nd, rfl⟩⟩; refine ⟨_, rfl, ?_⟩) | ((with_reducible refine gate_callee (f := 38) rfl ?_); refine goesL_ (some 18) rfl rfl Tryd.func38 (by kernel_rfl) rfl #[.int .u64 t105, .int .u64 t106, .int .u64 a2] rfl (by (try simp only [List.map_toArray, List.map_cons, List.map_nil]); first | done | rfl | (simp only [List.length_drop, List.length_take]; rfl)) ?_; (with_reducible refine (bits_Rem64.calls k t105 t106 a2 t107 _ A5.out).mono ?_); rintro e w' ⟨rfl, ⟨nd, rfl⟩⟩; refine ⟨_, rfl, ?_⟩))
 go_ret
 exact ⟨by first | rfl | (simp; done) | (simp [*]; done), by repeat (first | exact Drawn0.refl _ | apply Drawn0.step)⟩

/-! ### prime_strong: function 27 -/
mutual
def prime_strong.l0 : Nat → Int → Int → Int → Int → Int → Option (Bool)
 | 0, _, _, _, _, _ => none
 | k + 1, x0, x5, x6, x7, x8 => if x8 > 0 then (if (Go.bits .and .u64 x8 1) = 1 then ((prime_mul.f k x6 x7 x0).bind fun t109 => ((prime_mul.f k x7 x7 x0).bind fun t110 => (prime_strong.l0 k x0 x5 t109 t110 (x8 / 2)))) else ((prime_mul.f k x7 x7 x0).bind fun t111 => (prime_strong.l0 k x0 x5 x6 t111 (x8 / 2)))) else (if x6 = 1 then (some true) else (prime_strong.l1 k x0 x6 x5 0))
def prime_strong.l1 : Nat → Int → Int → Int → Int → Option (Bool)
 | 0, _, _, _, _ => none
 | k + 1, x0, x6, x37, x38 => if x38 < x37 then (if x6 = (IntKind.u64.wrap (x0 - 1)) then (some true) else ((prime_mul.f k x6 x6 x0).bind fun t112 => (prime_strong.l1 k x0 t112 x37 (wrap64 (x38 + 1))))) else (some false)
end
def prime_strong.f (k : Nat) (a0 : Int) (a1 : Int) : Option (Bool) := (bits_TrailingZeros64.f (IntKind.u64.wrap (a0 - 1))).bind fun t108 => (if a0 = 0 then (none) else (if 0 ≤ (IntKind.u64.wrap (t108)) then (prime_strong.l0 k a0 t108 1 (Int.tmod a1 a0) (shr .u64 (IntKind.u64.wrap (a0 - 1)) (IntKind.u64.wrap (t108)))) else (none)))
theorem prime_strong.mono_l : ∀ k, (∀ y0 y1 y2 y3 y4, LeO (prime_strong.l0 k y0 y1 y2 y3 y4) (prime_strong.l0 (k + 1) y0 y1 y2 y3 y4)) ∧ (∀ y0 y1 y2 y3, LeO (prime_strong.l1 k y0 y1 y2 y3) (prime_strong.l1 (k + 1) y0 y1 y2 y3))
 | 0 => ⟨fun _ _ _ _ _ r h => by simp [prime_strong.l0] at h, fun _ _ _ _ r h => by simp [prime_strong.l1] at h⟩
 | k + 1 => by
  obtain ⟨ih0, ih1⟩ := prime_strong.mono_l k
  refine ⟨?_, ?_⟩
  ·intro y0 y1 y2 y3 y4
   unfold prime_strong.l0
   repeat' first
   | (with_reducible exact ih0 _ _ _ _ _)
   | (with_reducible exact ih1 _ _ _ _)
   | (with_reducible exact prime_mul.mono _ _ _ _)
   | (with_reducible exact LeO.refl _)
   | (with_reducible exact LeO.none _)
   | (with_reducible refine LeO.ite ?_ ?_)
   | (with_reducible refine LeO.bind ?_ (fun _ => ?_))
   | exact ih0 _ _ _ _ _
   | exact ih1 _ _ _ _
   | exact prime_mul.mono _ _ _ _
   | exact LeO.none _
   | refine LeO.ite ?_ ?_
   | refine LeO.bind ?_ (fun _ => ?_)
  intro y0 y1 y2 y3
  unfold prime_strong.l1
  repeat' first
  | (with_reducible exact ih0 _ _ _ _ _)
  | (with_reducible exact ih1 _ _ _ _)
  | (with_reducible exact prime_mul.mono _ _ _ _)
  | (with_reducible exact LeO.refl _)
  | (with_reducible exact LeO.none _)
  | (with_reducible refine LeO.ite ?_ ?_)
  | (with_reducible refine LeO.bind ?_ (fun _ => ?_))
  | exact ih0 _ _ _ _ _
  | exact ih1 _ _ _ _
  | exact prime_mul.mono _ _ _ _
  | exact LeO.none _
  | refine LeO.ite ?_ ?_
  | refine LeO.bind ?_ (fun _ => ?_)
theorem prime_strong.mono : ∀ a0 a1 k, LeO (prime_strong.f k a0 a1) (prime_strong.f (k + 1) a0 a1) := by
 intro a0 a1 k
 obtain ⟨ih0, ih1⟩ := prime_strong.mono_l k
 unfold prime_strong.f
 repeat' first
   | (with_reducible exact ih0 _ _ _ _ _)
   | (with_reducible exact ih1 _ _ _ _)
   | (with_reducible exact prime_mul.mono _ _ _ _)
   | (with_reducible exact LeO.refl _)
   | (with_reducible exact LeO.none _)
   | (with_reducible refine LeO.ite ?_ ?_)
   | (with_reducible refine LeO.bind ?_ (fun _ => ?_))
   | exact ih0 _ _ _ _ _
   | exact ih1 _ _ _ _
   | exact prime_mul.mono _ _ _ _
   | exact LeO.none _
   | refine LeO.ite ?_ ?_
   | refine LeO.bind ?_ (fun _ => ?_)
theorem prime_strong.calls (k : Nat) (a0 : Int) (a1 : Int) (r : Bool) (w : World) (hT_ : TabAt 0 Lib.deBruijn64tab w) (h : prime_strong.f k a0 a1 = some r) :
  Calls Tryd.prog 27 #[.int .u64 a0, .int .u64 a1] w fun e w' => e = .returned (.bool r) ∧ Drawn0 w w' := by
 have HT_ := Aside0.mk hT_
 clear hT_
 have H : ((bits_TrailingZeros64.f (IntKind.u64.wrap (a0 - 1))).bind fun t108 => (if a0 = 0 then (none) else (if 0 ≤ (IntKind.u64.wrap (t108)) then (prime_strong.l0 k a0 t108 1 (Int.tmod a1 a0) (shr .u64 (IntKind.u64.wrap (a0 - 1)) (IntKind.u64.wrap (t108)))) else (none)))) = some r := h
 clear h
 replace H := Option.bind_eq_some_iff.mp H
 obtain ⟨t108, A30, H⟩ := H
 replace H : (if a0 = 0 then (none) else (if 0 ≤ (IntKind.u64.wrap (t108)) then (prime_strong.l0 k a0 t108 1 (Int.tmod a1 a0) (shr .u64 (IntKind.u64.wrap (a0 - 1)) (IntKind.u64.wrap (t108)))) else (none))) = some r := H
 have A3 := Aside0.mk A30
 clear A30
 by_cases c4 : a0 = 0
 ·rw [if_pos c4] at H
  exact absurd H (by simp)
 rw [if_neg c4] at H
 have c4b0 : (a0 == 0) = false := beq_eq_false_iff_ne.mpr c4
 have c4b1 : (a0 != 0) = true := bne_iff_ne.mpr c4
 obtain ⟨ji5, hji5⟩ : ∃ j_ : Int, (IntKind.u64.wrap (t108)) = j_ := ⟨_, rfl⟩
 replace H : (if 0 ≤ (ji5) then (prime_strong.l0 k a0 t108 1 (Int.tmod a1 a0) (shr .u64 (IntKind.u64.wrap (a0 - 1)) (ji5))) else (none)) = some r := by first | (rw [hji5] at H; exact H) | (simp only [hji5] at H ⊢; exact H)
 (try rw [hji5] at A3)
 by_cases c6 : 0 ≤ (ji5)
 ·rw [if_pos c6] at H
  have c6b0 := eq_true c6
  have c6b1 : decide (0 ≤ (ji5)) = true := decide_eq_true c6
  clear c6
  obtain ⟨ji7, hji7⟩ : ∃ j_ : Int, (shr .u64 (IntKind.u64.wrap (a0 - 1)) (ji5)) = j_ := ⟨_, rfl⟩
  replace H : (prime_strong.l0 k a0 t108 1 (Int.tmod a1 a0) ji7) = some r := by first | (rw [hji7] at H; exact H) | (simp only [hji7] at H ⊢; exact H)
  (try rw [hji7] at A3)
  have hji7_ : ((IntKind.u64.wrap (a0 - 1)) / 2 ^ min (ji5).toNat 64) = ji7 := hji7
  have hji7z : (ji5) ≤ 64 → ((IntKind.u64.wrap (a0 - 1)) / 2 ^ (ji5).toNat) = ji7 := shr_small hji7
  have H' := Aside0.mk H
  clear H
  go_enter Tryd.func27, Tryd.ntmps27
  go_wp2_with (first | (go_at_call 32; (with_reducible refine (bits_TrailingZeros64.calls (IntKind.u64.wrap (a0 - 1)) t108 _ (by first | exact HT_.out | (refine tab_below HT_.out ?_; repeat (first | (with_reducible first | exact HB.out | apply below_alloc | apply pw_below_drewN | apply below_drew1) | exact HB.out)) | (repeat (first | exact HT_.out | apply tab_drewN | apply tab_drew))) A3.out).mono ?_); rintro e w' ⟨rfl, ⟨nd, rfl⟩⟩; (try first | exact ⟨rfl, _, World.drewN_drewN _ _ _⟩ | exact ⟨rfl, _, Eq.trans (World.drewN_drewN _ _ _) (congrArg (World.drewN _) (Nat.add_assoc _ _ _))⟩)))
  repeat (go_quiet (first | (go_at_call 32; (with_reducible refine (bits_TrailingZeros64.calls (IntKind.u64.wrap (a0 - 1)) t108 _ (by first | exact HT_.out | (refine tab_below HT_.out ?_; repeat (first | (with_reducible first | exact HB.out | apply below_alloc | apply pw_below_drewN | apply below_drew1) | exact HB.out)) | (repeat (first | exact HT_.out | apply tab_drewN | apply tab_drew))) A3.out).mono ?_); rintro e w' ⟨rfl, ⟨nd, rfl⟩⟩; (try first | exact ⟨rfl, _, World.drewN_drewN _ _ _⟩ | exact ⟨rfl, _, Eq.trans (World.drewN_drewN _ _ _) (congrArg (World.drewN _) (Nat.add_assoc _ _ _))⟩))); try go_wp2_with (first | (go_at_call 32; (with_reducible refine (bits_TrailingZeros64.calls (IntKind.u64.wrap (a0 - 1)) t108 _ (by first | exact HT_.out | (refine tab_below HT_.out ?_; repeat (first | (with_reducible first | exact HB.out | apply below_alloc | apply pw_below_drewN | apply below_drew1) | exact HB.out)) | (repeat (first | exact HT_.out | apply tab_drewN | apply tab_drew))) A3.out).mono ?_); rintro e w' ⟨rfl, ⟨nd, rfl⟩⟩; (try first | exact ⟨rfl, _, World.drewN_drewN _ _ _⟩ | exact ⟨rfl, _, Eq.trans (World.drewN_drewN _ _ _) (congrArg (World.drewN _) (Nat.add_assoc _ _ _))⟩))))
  go_loopg [6, 7, 8] k (fun kq v6 v7 v8 w' => ∃ (x6_1 : Int) (x7_1 : Int) (x8_1 : Int), v6 = .int .u64 x6_1 ∧ v7 = .int .u64 x7_1 ∧ v8 = .int .u64 x8_1 ∧ Aside0 (prime_strong.l0 kq a0 t108 x6_1 x7_1 x8_1 = some r) ∧ Aside0 (kq ≤ k) ∧ Drawn0 w w')
  case atStart => exact ⟨(1), (Int.tmod a1 a0), (ji7), (by first | rfl | (simp; done) | (simp [*]; done)), (by first | rfl | (simp; done) | (simp [*]; done)), (by first | rfl | (simp; done) | (simp only [← hji7] <;> (first | rfl | simp)) | (simp [*]; done)), H', ⟨Nat.le_refl _⟩, by repeat (first | exact Drawn0.refl _ | apply Drawn0.step)⟩
  case round =>
   clear H'
   try clear c2
   try clear p2
   try clear c4
   try clear c4b0
   try clear c4b1
   try clear c6
   try clear c6b0
   try clear c6b1
   obtain ⟨x6_1, x7_1, x8_1, rfl, rfl, rfl, HA, HK1, ⟨m1, rfl⟩⟩ := hrel
   cases gk with
   | zero => exact absurd HA.out (by simp [prime_strong.l0])
   | succ k1 =>
    have H := HA.out
    clear HA
    simp only [prime_strong.l0] at H
    by_cases c8 : x8_1 > 0
    ·rw [if_pos c8] at H
     have c8b0 : decide (0 < x8_1) = true := decide_eq_true c8
     clear c8
     by_cases c9 : (Go.bits .and .u64 x8_1 1) = 1
     ·rw [if_pos c9] at H
      have c9b0 : ((Go.bits .and .u64 x8_1 1) == 1) = true := beq_iff_eq.mpr c9
      have c9b1 : ((Go.bits .and .u64 x8_1 1) != 1) = false := bne_eq_false_iff_eq.mpr c9
      clear c9
      replace H := Option.bind_eq_some_iff.mp H
      obtain ⟨t109, A100, H⟩ := H
      replace H : ((prime_mul.f k1 x7_1 x7_1 a0).bind fun t110 => (prime_strong.l0 k1 a0 t108 t109 t110 (x8_1 / 2))) = some r := H
      have A10 := Aside0.mk A100
      clear A100
      replace H := Option.bind_eq_some_iff.mp H
      obtain ⟨t110, A110, H⟩ := H
      replace H : (prime_strong.l0 k1 a0 t108 t109 t110 (x8_1 / 2)) = some r := H
      have A11 := Aside0.mk A110
      clear A110
      have H' := Aside0.mk H
      clear H
      go_wp2_with (first | (go_at_call 33; (with_reducible refine (prime_mul.calls k1 x6_1 x7_1 a0 t109 _ A10.out).mono ?_); rintro e w' ⟨rfl, ⟨nd, rfl⟩⟩; (try first | exact ⟨rfl, _, World.drewN_drewN _ _ _⟩ | exact ⟨rfl, _, Eq.trans (World.drewN_drewN _ _ _) (congrArg (World.drewN _) (Nat.add_assoc _ _ _))⟩)) | (go_at_call 33; (with_reducible refine (prime_mul.calls k1 x7_1 x7_1 a0 t110 _ A11.out).mono ?_); rintro e w' ⟨rfl, ⟨nd, rfl⟩⟩; (try first | exact ⟨rfl, _, World.drewN_drewN _ _ _⟩ | exact ⟨rfl, _, Eq.trans (World.drewN_drewN _ _ _) (congrArg (World.drewN _) (Nat.add_assoc _ _ _))⟩)))
      repeat (go_quiet (first | (go_at_call 33; (with_reducible refine (prime_mul.calls k1 x6_1 x7_1 a0 t109 _ A10.out).mono ?_); rintro e w' ⟨rfl, ⟨nd, rfl⟩⟩; (try first | exact ⟨rfl, _, World.drewN_drewN _ _ _⟩ | exact ⟨rfl, _, Eq.trans (World.drewN_drewN _ _ _) (congrArg (World.drewN _) (Nat.add_assoc _ _ _))⟩)) | (go_at_call 33; (with_reducible refine (prime_mul.calls k1 x7_1 x7_1 a0 t110 _ A11.out).mono ?_); rintro e w' ⟨rfl, ⟨nd, rfl⟩⟩; (try first | exact ⟨rfl, _, World.drewN_drewN _ _ _⟩ | exact ⟨rfl, _, Eq.trans (World.drewN_drewN _ _ _) (congrArg (World.drewN _) (Nat.add_assoc _ _ _))⟩))); try go_wp2_with (first | (go_at_call 33; (with_reducible refine (prime_mul.calls k1 x6_1 x7_1 a0 t109 _ A10.out).mono ?_); rintro e w' ⟨rfl, ⟨nd, rfl⟩⟩; (try first | exact ⟨rfl, _, World.drewN_drewN _ _ _⟩ | exact ⟨rfl, _, Eq.trans (World.drewN_drewN _ _ _) (congrArg (World.drewN _) (Nat.add_assoc _ _ _))⟩)) | (go_at_call 33; (with_reducible refine (prime_mul.calls k1 x7_1 x7_1 a0 t110 _ A11.out).mono ?_); rintro e w' ⟨rfl, ⟨nd, rfl⟩⟩; (try first | exact ⟨rfl, _, World.drewN_drewN _ _ _⟩ | exact ⟨rfl, _, Eq.trans (World.drewN_drewN _ _ _) (congrArg (World.drewN _) (Nat.add_assoc _ _ _))⟩))))
      go_roundg k1
      case measure => have := HK1.out; omega
      case rel => exact ⟨(t109), (t110), (x8_1 / 2), (by first | rfl | (simp; done) | (simp [*]; done)), (by first | rfl | (simp; done) | (simp [*]; done)), (by first | rfl | (simp; done) | (simp [*]; done)), H', ⟨by have := HK1.out; omega⟩, by repeat (first | exact Drawn0.refl _ | apply Drawn0.step)⟩
     rw [if_neg c9] at H
     have c9b0 : ((Go.bits .and .u64 x8_1 1) == 1) = false := beq_eq_false_iff_ne.mpr c9
     have c9b1 : ((Go.bits .and .u64 x8_1 1) != 1) = true := bne_iff_ne.mpr c9
     replace H := Option.bind_eq_some_iff.mp H
     obtain ⟨t111, A120, H⟩ := H
     replace H : (prime_strong.l0 k1 a0 t108 x6_1 t111 (x8_1 / 2)) = some r := H
     have A12 := Aside0.mk A120
     clear A120
     have H' := Aside0.mk H
     clear H
     go_wp2_with (first | (go_at_call 33; (with_reducible refine (prime_mul.calls k1 x7_1 x7_1 a0 t111 _ A12.out).mono ?_); rintro e w' ⟨rfl, ⟨nd, rfl⟩⟩; (try first | exact ⟨rfl, _, World.drewN_drewN _ _ _⟩ | exact ⟨rfl, _, Eq.trans (World.drewN_drewN _ _ _) (congrArg (World.drewN _) (Nat.add_assoc _ _ _))⟩)))
     repeat (go_quiet (first | (go_at_call 33; (with_reducible refine (prime_mul.calls k1 x7_1 x7_1 a0 t111 _ A12.out).mono ?_); rintro e w' ⟨rfl, ⟨nd, rfl⟩⟩; (try first | exact ⟨rfl, _, World.drewN_drewN _ _ _⟩ | exact ⟨rfl, _, Eq.trans (World.drewN_drewN _ _ _) (congrArg (World.drewN _) (Nat.add_assoc _ _ _))⟩))); try go_wp2_with (first | (go_at_call 33; (with_reducible refine (prime_mul.calls k1 x7_1 x7_1 a0 t111 _ A12.out).mono ?_); rintro e w' ⟨rfl, ⟨nd, rfl⟩⟩; (try first | exact ⟨rfl, _, World.drewN_drewN _ _ _⟩ | exact ⟨rfl, _, Eq.trans (World.drewN_drewN _ _ _) (congrArg (World.drewN _) (Nat.add_assoc _ _ _))⟩))))
     go_roundg k1
     case measure => have := HK1.out; omega
     case rel => exact ⟨(x6_1), (t111), (x8_1 / 2), (by first | rfl | (simp; done) | (simp [*]; done)), (by first | rfl | (simp; done) | (simp [*]; done)), (by first | rfl | (simp; done) | (simp [*]; done)), H', ⟨by have := HK1.out; omega⟩, by repeat (first | exact Drawn0.refl _ | apply Drawn0.step)⟩
    rw [if_neg c8] at H
    have c8b0 : decide (0 < x8_1) = false := decide_eq_false c8
    clear c8
    by_cases c13 : x6_1 = 1
    ·rw [if_pos c13] at H
     have c13b0 : (x6_1 == 1) = true := beq_iff_eq.mpr c13
     have c13b1 : (x6_1 != 1) = false := bne_eq_false_iff_eq.mpr c13
     clear c13
     obtain rfl := Option.some.inj H
     go_wp2
     repeat (go_quiet (fail); try go_wp2)
     go_ret
     exact ⟨by first | rfl | (simp; done) | (simp only [← hji5, ← hji7] <;> (first | rfl | simp)) | (simp [*]; done), by repeat (first | exact Drawn0.refl _ | apply Drawn0.step)⟩
    rw [if_neg c13] at H
    have c13b0 : (x6_1 == 1) = false := beq_eq_false_iff_ne.mpr c13
    have c13b1 : (x6_1 != 1) = true := bne_iff_ne.mpr c13
    have H' := Aside0.mk H
    clear H
    go_wp2
    repeat (go_quiet (fail); try go_wp2)
    go_loopg [6, 38] k1 (fun kq v6 v38 w' => ∃ (x6_2 : Int) (x38_2 : Int), v6 = .int .u64 x6_2 ∧ v38 = .int .i64 x38_2 ∧ Aside0 (prime_strong.l1 kq a0 x6_2 t108 x38_2 = some r) ∧ Aside0 (kq ≤ k1) ∧ Drawn0 w w')
    case atStart => exact ⟨(x6_1), (0), (by first | rfl | (simp; done) | (simp [*]; done)), (by first | rfl | (simp; done) | (simp [*]; done)), H', ⟨Nat.le_refl _⟩, by repeat (first | exact Drawn0.refl _ | apply Drawn0.step)⟩
    case round =>
     clear H'
     try clear c1
     try clear c2
     try clear p2
     try clear c4
     try clear c4b0
     try clear c4b1
     try clear c6
     try clear c6b0
     try clear c6b1
     try clear c8
     try clear c8b0
     try clear c9
     try clear c9b0
     try clear c9b1
     try clear c13
     try clear c13b0
     try clear c13b1
     try clear p2
     obtain ⟨x6_2, x38_2, rfl, rfl, HA, HK2, ⟨m2, rfl⟩⟩ := hrel
     cases gk with
     | zero => exact absurd HA.out (by simp [prime_strong.l1])
     | succ k2 =>
      have H := HA.out
      clear HA
      simp only [prime_strong.l1] at H
      by_cases c14 : x38_2 < t108
      ·rw [if_pos c14] at H
       have c14b0 : decide (x38_2 < t108) = true := decide_eq_true c14
       clear c14
       by_cases c15 : x6_2 = (IntKind.u64.wrap (a0 - 1))
       ·rw [if_pos c15] at H
        have c15b0 : (x6_2 == (IntKind.u64.wrap (a0 - 1))) = true := beq_iff_eq.mpr c15
        have c15b1 : (x6_2 != (IntKind.u64.wrap (a0 - 1))) = false := bne_eq_false_iff_eq.mpr c15
        clear c15
        obtain rfl := Option.some.inj H
        go_wp2
        repeat (go_quiet (fail); try go_wp2)
        go_ret
        exact ⟨by first | rfl | (simp; done) | (simp only [← hji5, ← hji7] <;> (first | rfl | simp)) | (simp [*]; done), by repeat (first | exact Drawn0.refl _ | apply Drawn0.step)⟩
       rw [if_neg c15] at H
       have c15b0 : (x6_2 == (IntKind.u64.wrap (a0 - 1))) = false := beq_eq_false_iff_ne.mpr c15
       have c15b1 : (x6_2 != (IntKind.u64.wrap (a0 - 1))) = true := bne_iff_ne.mpr c15
       replace H := Option.bind_eq_some_iff.mp H
       obtain ⟨t112, A160, H⟩ := H
       replace H : (prime_strong.l1 k2 a0 t112 t108 (wrap64 (x38_2 + 1))) = some r := H
       have A16 := Aside0.mk A160
       clear A160
       have H' := Aside0.mk H
       clear H
       go_wp2_with (first | (go_at_call 33; (with_reducible refine (prime_mul.calls k2 x6_2 x6_2 a0 t112 _ A16.out).mono ?_); rintro e w' ⟨rfl, ⟨nd, rfl⟩⟩; (try first | exact ⟨rfl, _, World.drewN_drewN _ _ _⟩ | exact ⟨rfl, _, Eq.trans (World.drewN_drewN _ _ _) (congrArg (World.drewN _) (Nat.add_assoc _ _ _))⟩)))
       repeat (go_quiet (first | (go_at_call 33; (with_reducible refine (prime_mul.calls k2 x6_2 x6_2 a0 t112 _ A16.out).mono ?_); rintro e w' ⟨rfl, ⟨nd, rfl⟩⟩; (try first | exact ⟨rfl, _, World.drewN_drewN _ _ _⟩ | exact ⟨rfl, _, Eq.trans (World.drewN_drewN _ _ _) (congrArg (World.drewN _) (Nat.add_assoc _ _ _))⟩))); try go_wp2_with (first | (go_at_call 33; (with_reducible refine (prime_mul.calls k2 x6_2 x6_2 a0 t112 _ A16.out).mono ?_); rintro e w' ⟨rfl, ⟨nd, rfl⟩⟩; (try first | exact ⟨rfl, _, World.drewN_drewN _ _ _⟩ | exact ⟨rfl, _, Eq.trans (World.drewN_drewN _ _ _) (congrArg (World.drewN _) (Nat.add_assoc _ _ _))⟩))))
       go_roundg k2
       case measure => have := HK1.out; have := HK2.out; omega
       case rel => exact ⟨(t112), (wrap64 (x38_2 + 1)), (by first | rfl | (simp; done) | (simp [*]; done)), (by first | rfl | (simp; done) | (simp [*]; done)), H', ⟨by have := HK1.out; have := HK2.out; omega⟩, by repeat (first | exact Drawn0.refl _ | apply Drawn0.step)⟩
      rw [if_neg c14] at H
      have c14b0 : decide (x38_2 < t108) = false := decide_eq_false c14
      clear c14
      obtain rfl := Option.some.inj H
      go_wp2
      repeat (go_quiet (fail); try go_wp2)
      go_ret
      exact ⟨by first | rfl | (simp; done) | (simp only [← hji5, ← hji7] <;> (first | rfl | simp)) | (simp [*]; done), by repeat (first | exact Drawn0.refl _ | apply Drawn0.step)⟩
 rw [if_neg c6] at H
 exact absurd H (by simp)

/-! ### prime_Is: function 14 -/
/-- prime.Is: the twelve bases one by one (prime.bases' array by value). -/
def prime_Is.BL : List Int := [2, 3, 5, 7, 11, 13, 17, 19, 23, 29, 31, 37]
theorem prime_Is.at_ (i : Int) (h0 : 0 ≤ i) (h : i < 12) : (i = 0 ∧ rd prime_Is.BL i = 2) ∨ (i = 1 ∧ rd prime_Is.BL i = 3) ∨ (i = 2 ∧ rd prime_Is.BL i = 5) ∨ (i = 3 ∧ rd prime_Is.BL i = 7) ∨ (i = 4 ∧ rd prime_Is.BL i = 11) ∨ (i = 5 ∧ rd prime_Is.BL i = 13) ∨ (i = 6 ∧ rd prime_Is.BL i = 17) ∨ (i = 7 ∧ rd prime_Is.BL i = 19) ∨ (i = 8 ∧ rd prime_Is.BL i = 23) ∨ (i = 9 ∧ rd prime_Is.BL i = 29) ∨ (i = 10 ∧ rd prime_Is.BL i = 31) ∨ (i = 11 ∧ rd prime_Is.BL i = 37) := by
 have : i = 0 ∨ i = 1 ∨ i = 2 ∨ i = 3 ∨ i = 4 ∨ i = 5 ∨ i = 6 ∨ i = 7 ∨ i = 8 ∨ i = 9 ∨ i = 10 ∨ i = 11 := by omega
 rcases this with rfl | rfl | rfl | rfl | rfl | rfl | rfl | rfl | rfl | rfl | rfl | rfl <;> decide
theorem prime_Is.bases (w : World) : Calls Tryd.prog 26 #[] w fun e w' => e = .returned (.agg #[.int .u64 2, .int .u64 3, .int .u64 5, .int .u64 7, .int .u64 11, .int .u64 13, .int .u64 17, .int .u64 19, .int .u64 23, .int .u64 29, .int .u64 31, .int .u64 37]) ∧ Below w.heap.size w w' := by
 go_enter Tryd.func26, Tryd.ntmps26
 go_wp2
 refine bodyPost_ret (results_cell_row rfl _ _ w.heap.size 42 #[.int .u64 2, .int .u64 3, .int .u64 5, .int .u64 7, .int .u64 11, .int .u64 13, .int .u64 17, .int .u64 19, .int .u64 23, .int .u64 29, .int .u64 31, .int .u64 37] (0, 0) _ rfl (heap_alloc_new _ _) Tryd.underlying42 rfl (by kernel_rfl)) rfl ?_
 exact ⟨rfl, below_alloc (Below.refl _ _) _⟩
theorem prime_Is.ix (i : Int) (h0 : 0 ≤ i) (h : i < 12) (W : World) : (Instr.index 42 (.agg #[.int .u64 2, .int .u64 3, .int .u64 5, .int .u64 7, .int .u64 11, .int .u64 13, .int .u64 17, .int .u64 19, .int .u64 23, .int .u64 29, .int .u64 31, .int .u64 37]) (.int .i64 i)).run Tryd.prog W = .ok (.int .u64 (rd prime_Is.BL i)) W := by
 have : i = 0 ∨ i = 1 ∨ i = 2 ∨ i = 3 ∨ i = 4 ∨ i = 5 ∨ i = 6 ∨ i = 7 ∨ i = 8 ∨ i = 9 ∨ i = 10 ∨ i = 11 := by omega
 rcases this with rfl | rfl | rfl | rfl | rfl | rfl | rfl | rfl | rfl | rfl | rfl | rfl <;> rfl
def prime_Is.l1 : Nat → Int → Int → Option (Bool)
 | 0, _, _ => none
 | k + 1, n, i => if i < 12 then ((prime_strong.f k n (rd prime_Is.BL i)).bind fun t => if t = true then prime_Is.l1 k n (i + 1) else some false) else some true
def prime_Is.l0 : Nat → Int → Int → Option (Bool)
 | 0, _, _ => none
 | k + 1, n, i => if i < 12 then (if Int.tmod n (rd prime_Is.BL i) = 0 then some (n == rd prime_Is.BL i) else prime_Is.l0 k n (i + 1)) else prime_Is.l1 k n 0
def prime_Is.f (k : Nat) (a0 : Int) : Option (Bool) := if a0 < 2 then (some false) else prime_Is.l0 k a0 0
theorem prime_Is.mono_l1 : ∀ k, (∀ y0 y1, LeO (prime_Is.l1 k y0 y1) (prime_Is.l1 (k + 1) y0 y1))
 | 0 => fun _ _ r h => by simp [prime_Is.l1] at h
 | k + 1 => by
  have ih0 := prime_Is.mono_l1 k
  intro y0 y1
  rw [prime_Is.l1, prime_Is.l1]
  refine LeO.ite ?_ (LeO.refl _)
  refine LeO.bind (prime_strong.mono _ _ _) (fun t => ?_)
  exact LeO.ite (ih0 _ _) (LeO.refl _)
theorem prime_Is.mono_l0 : ∀ k, (∀ y0 y1, LeO (prime_Is.l0 k y0 y1) (prime_Is.l0 (k + 1) y0 y1))
 | 0 => fun _ _ r h => by simp [prime_Is.l0] at h
 | k + 1 => by
  have ih0 := prime_Is.mono_l0 k
  intro y0 y1
  rw [prime_Is.l0, prime_Is.l0]
  refine LeO.ite ?_ (prime_Is.mono_l1 k _ _)
  exact LeO.ite (LeO.refl _) (ih0 _ _)
theorem prime_Is.mono : ∀ a0 k, LeO (prime_Is.f k a0) (prime_Is.f (k + 1) a0) := by
 intro a0 k
 unfold prime_Is.f
 exact LeO.ite (LeO.refl _) (prime_Is.mono_l0 k _ _)
theorem prime_Is.calls (k : Nat) (a0 : Int) (r : Bool) (w : World) (hT_ : TabAt 0 Lib.deBruijn64tab w) (h : prime_Is.f k a0 = some r) :
  Calls Tryd.prog 14 #[.int .u64 a0] w fun e w' => e = .returned (.bool r) ∧ Below w.heap.size w w' := by
 have HT_ := Aside0.mk hT_
 clear hT_
 have HB := Aside0.mk (Below.refl w.heap.size w)
 have H : (if a0 < 2 then (some false) else prime_Is.l0 k a0 0) = some r := h
 clear h
 by_cases c2 : a0 < 2
 ·rw [if_pos c2] at H
  have c2b0 : decide (a0 < 2) = true := decide_eq_true c2
  clear c2
  obtain rfl := Option.some.inj H
  go_enter Tryd.func14, Tryd.ntmps14
  go_wp2
  go_ret
  exact ⟨rfl, HB.out⟩
 rw [if_neg c2] at H
 have c2b0 : decide (a0 < 2) = false := decide_eq_false c2
 clear c2
 have H' := Aside0.mk H
 clear H
 go_enter Tryd.func14, Tryd.ntmps14
 go_wp2_with (first | ((with_reducible refine gate_callee (f := 26) rfl ?_); refine goesL_ (some 9) rfl rfl Tryd.func26 (by kernel_rfl) rfl #[] rfl (by (try simp only [List.map_toArray, List.map_cons, List.map_nil]); first | done | rfl) ?_; (with_reducible refine (prime_Is.bases _).mono ?_); rintro e w5 ⟨rfl, hb⟩; refine ⟨_, rfl, ?_⟩; have n1_ := Aside0.mk (below_step HB.out hb); clear HB; have HB := n1_; clear n1_; clear hb))
 go_loopg [10] k (fun kq v10 w' => ∃ (i : Int), v10 = .int .i64 i ∧ Aside0 (prime_Is.l0 kq a0 i = some r) ∧ Aside0 (kq ≤ k) ∧ Aside0 (0 ≤ i) ∧ Aside0 (Below w.heap.size w w'))
 case atStart => exact ⟨0, rfl, H', ⟨Nat.le_refl _⟩, ⟨Int.le_refl _⟩, HB⟩
 case round =>
  clear H' HB
  obtain ⟨i, rfl, HA, HK1, H0, HB⟩ := hrel
  cases gk with
  | zero => exact absurd HA.out (by simp [prime_Is.l0])
  | succ k1 =>
   have H := HA.out
   clear HA
   rw [prime_Is.l0] at H
   by_cases c3 : i < 12
   ·rw [if_pos c3] at H
    have hix := prime_Is.ix i H0.out c3
    rcases prime_Is.at_ i H0.out c3 with ⟨rfl, hb⟩ | ⟨rfl, hb⟩ | ⟨rfl, hb⟩ | ⟨rfl, hb⟩ | ⟨rfl, hb⟩ | ⟨rfl, hb⟩ | ⟨rfl, hb⟩ | ⟨rfl, hb⟩ | ⟨rfl, hb⟩ | ⟨rfl, hb⟩ | ⟨rfl, hb⟩ | ⟨rfl, hb⟩
    all_goals
     rw [hb] at H
     simp only [hb] at hix
     clear hb c3 H0
     split at H
     ·rename_i c5
      have c5b0 := beq_iff_eq.mpr c5
      clear c5
      obtain rfl := Option.some.inj H
      go_wp2
      go_ret
      exact ⟨rfl, HB.out⟩
     rename_i c5
     have c5b0 := beq_eq_false_iff_ne.mpr c5
     clear c5
     have H' := Aside0.mk H
     clear H
     go_wp2
     go_roundg k1
     case measure => have := HK1.out; omega
     case rel => exact ⟨_, rfl, H', ⟨by have := HK1.out; omega⟩, ⟨by decide⟩, HB⟩
   rw [if_neg c3] at H
   have c3b0 : decide (i < 12) = false := decide_eq_false c3
   clear c3
   have H' := Aside0.mk H
   clear H
   go_wp2_with (first | ((with_reducible refine gate_callee (f := 26) rfl ?_); refine goesL_ (some 21) rfl rfl Tryd.func26 (by kernel_rfl) rfl #[] rfl (by (try simp only [List.map_toArray, List.map_cons, List.map_nil]); first | done | rfl) ?_; (with_reducible refine (prime_Is.bases _).mono ?_); rintro e w5 ⟨rfl, hb⟩; refine ⟨_, rfl, ?_⟩; have n1_ := Aside0.mk (below_step HB.out hb); clear HB; have HB := n1_; clear n1_; clear hb))
   go_loopg [22] k1 (fun kq v22 w' => ∃ (i : Int), v22 = .int .i64 i ∧ Aside0 (prime_Is.l1 kq a0 i = some r) ∧ Aside0 (kq ≤ k1) ∧ Aside0 (0 ≤ i) ∧ Aside0 (Below w.heap.size w w'))
   case atStart => exact ⟨0, rfl, H', ⟨Nat.le_refl _⟩, ⟨Int.le_refl _⟩, HB⟩
   case round =>
    clear H' HB H0 c3b0
    obtain ⟨j, rfl, HA, HK2, H0, HB⟩ := hrel
    cases gk with
    | zero => exact absurd HA.out (by simp [prime_Is.l1])
    | succ k2 =>
     have H := HA.out
     clear HA
     rw [prime_Is.l1] at H
     by_cases c3 : j < 12
     ·rw [if_pos c3] at H
      have hix := prime_Is.ix j H0.out c3
      rcases prime_Is.at_ j H0.out c3 with ⟨rfl, hb⟩ | ⟨rfl, hb⟩ | ⟨rfl, hb⟩ | ⟨rfl, hb⟩ | ⟨rfl, hb⟩ | ⟨rfl, hb⟩ | ⟨rfl, hb⟩ | ⟨rfl, hb⟩ | ⟨rfl, hb⟩ | ⟨rfl, hb⟩ | ⟨rfl, hb⟩ | ⟨rfl, hb⟩
      all_goals
       rw [hb] at H
       simp only [hb] at hix
       clear hb c3 H0
       replace H := Option.bind_eq_some_iff.mp H
       obtain ⟨t, A50, H⟩ := H
       have A5 := Aside0.mk A50
       clear A50
       cases t with
       | false =>
        rw [if_neg (by decide)] at H
        obtain rfl := Option.some.inj H
        go_wp2_with (first | ((with_reducible refine gate_callee (f := 27) rfl ?_); refine goesL_ (some 27) rfl rfl Tryd.func27 (by kernel_rfl) rfl #[.int .u64 a0, .int .u64 _] rfl (by (try simp only [List.map_toArray, List.map_cons, List.map_nil]); first | done | rfl) ?_; (with_reducible refine (prime_strong.calls k2 a0 _ false _ (tab_below HT_.out HB.out) A5.out).mono ?_); rintro e w' ⟨rfl, ⟨nd, rfl⟩⟩; refine ⟨_, rfl, ?_⟩; have n1_ := Aside0.mk (pw_below_drewN HB.out nd); clear HB; have HB := n1_; clear n1_))
        go_ret
        exact ⟨rfl, HB.out⟩
       | true =>
        rw [if_pos rfl] at H
        have H' := Aside0.mk H
        clear H
        go_wp2_with (first | ((with_reducible refine gate_callee (f := 27) rfl ?_); refine goesL_ (some 27) rfl rfl Tryd.func27 (by kernel_rfl) rfl #[.int .u64 a0, .int .u64 _] rfl (by (try simp only [List.map_toArray, List.map_cons, List.map_nil]); first | done | rfl) ?_; (with_reducible refine (prime_strong.calls k2 a0 _ true _ (tab_below HT_.out HB.out) A5.out).mono ?_); rintro e w' ⟨rfl, ⟨nd, rfl⟩⟩; refine ⟨_, rfl, ?_⟩; have n1_ := Aside0.mk (pw_below_drewN HB.out nd); clear HB; have HB := n1_; clear n1_))
        go_roundg k2
        case measure => have := HK2.out; omega
        case rel => exact ⟨_, rfl, H', ⟨by have := HK2.out; omega⟩, ⟨by decide⟩, HB⟩
     rw [if_neg c3] at H
     have c3b0 : decide (j < 12) = false := decide_eq_false c3
     clear c3
     obtain rfl := Option.some.inj H
     go_wp2
     go_ret
     exact ⟨rfl, HB.out⟩

/-! ### prime_Next: function 13 -/
def prime_Next.l0 : Nat → Int → Option (Int × Int)
 | 0, _ => none
 | k + 1, x0 => if x0 < 9223372036854775808 then ((prime_Is.f k x0).bind fun t113 => (if t113 = true then (some (x0, 0)) else (prime_Next.l0 k (IntKind.u64.wrap (x0 + 1))))) else (some (0, 19))
def prime_Next.f (k : Nat) (a0 : Int) : Option (Int × Int) := prime_Next.l0 k a0
theorem prime_Next.mono_l : ∀ k, (∀ y0, LeO (prime_Next.l0 k y0) (prime_Next.l0 (k + 1) y0))
 | 0 => fun _ r h => by simp [prime_Next.l0] at h
 | k + 1 => by
  have ih0 := prime_Next.mono_l k
  ·intro y0
   unfold prime_Next.l0
   repeat' first
   | (with_reducible exact ih0 _)
   | (with_reducible exact prime_Is.mono _ _)
   | (with_reducible exact LeO.refl _)
   | (with_reducible exact LeO.none _)
   | (with_reducible refine LeO.ite ?_ ?_)
   | (with_reducible refine LeO.bind ?_ (fun _ => ?_))
   | exact ih0 _
   | exact prime_Is.mono _ _
   | exact LeO.none _
   | refine LeO.ite ?_ ?_
   | refine LeO.bind ?_ (fun _ => ?_)
theorem prime_Next.mono : ∀ a0 k, LeO (prime_Next.f k a0) (prime_Next.f (k + 1) a0) := by
 intro a0 k
 have ih0 := prime_Next.mono_l k
 unfold prime_Next.f
 repeat' first
   | (with_reducible exact ih0 _)
   | (with_reducible exact prime_Is.mono _ _)
   | (with_reducible exact LeO.refl _)
   | (with_reducible exact LeO.none _)
   | (with_reducible refine LeO.ite ?_ ?_)
   | (with_reducible refine LeO.bind ?_ (fun _ => ?_))
   | exact ih0 _
   | exact prime_Is.mono _ _
   | exact LeO.none _
   | refine LeO.ite ?_ ?_
   | refine LeO.bind ?_ (fun _ => ?_)
theorem prime_Next.calls (k : Nat) (a0 : Int) (r1 : Int) (r2 : Int) (w : World) (hT_ : TabAt 0 Lib.deBruijn64tab w) (h : prime_Next.f k a0 = some (r1, r2)) :
  Calls Tryd.prog 13 #[.int .u64 a0] w fun e w' => e = .returned (.tuple #[.int .u64 r1, .int .i64 r2]) ∧ Below w.heap.size w w' := by
 have HT_ := Aside0.mk hT_
 clear hT_
 have HB := Aside0.mk (Below.refl w.heap.size w)
 have H : (prime_Next.l0 k a0) = some (r1, r2) := h
 clear h
 have H' := Aside0.mk H
 clear H
 go_enter Tryd.func13, Tryd.ntmps13
 go_wp2
 go_loopg [0] k (fun kq v0 w' => ∃ (x0_1 : Int), v0 = .int .u64 x0_1 ∧ Aside0 (prime_Next.l0 kq x0_1 = some (r1, r2)) ∧ Aside0 (kq ≤ k) ∧ Aside0 (Below w.heap.size w w'))
 case atStart => exact ⟨(a0), (by first | rfl | (simp; done) | (simp [*]; done)), H', ⟨Nat.le_refl _⟩, ⟨by repeat (first | (with_reducible first | exact HB.out | apply below_alloc | apply pw_below_drewN | apply below_drew1) | exact HB.out)⟩⟩
 case round =>
  clear H'
  try clear c1
  obtain ⟨x0_1, rfl, HA, HK1, HB⟩ := hrel
  cases gk with
  | zero => exact absurd HA.out (by simp [prime_Next.l0])
  | succ k1 =>
   have H := HA.out
   clear HA
   simp only [prime_Next.l0] at H
   by_cases c2 : x0_1 < 9223372036854775808
   ·rw [if_pos c2] at H
    have c2b0 : decide (x0_1 < 9223372036854775808) = true := decide_eq_true c2
    clear c2
    replace H := Option.bind_eq_some_iff.mp H
    obtain ⟨t113, A30, H⟩ := H
    replace H : (if t113 = true then (some (x0_1, 0)) else (prime_Next.l0 k1 (IntKind.u64.wrap (x0_1 + 1)))) = some (r1, r2) := H
    have A3 := Aside0.mk A30
    clear A30
    by_cases c4 : t113 = true
    ·subst c4
     have H1 : (some (x0_1, 0)) = some (r1, r2) := by rw [if_pos rfl] at H; exact H
     clear H
     have H := H1
     clear H1
     simp only [Option.some.injEq, Prod.mk.injEq] at H
     obtain ⟨rfl, rfl⟩ := H
     go_wp2_with (first | ((with_reducible refine gate_callee (f := 14) rfl ?_); refine goesL_ (some 9) rfl rfl Tryd.func14 (by kernel_rfl) rfl #[.int .u64 x0_1] rfl (by (try simp only [List.map_toArray, List.map_cons, List.map_nil]); first | done | rfl | (simp only [List.length_drop, List.length_take]; rfl)) ?_; (with_reducible refine (prime_Is.calls k1 x0_1 true _ (by first | exact HT_.out | (refine tab_below HT_.out ?_; repeat (first | (with_reducible first | exact HB.out | apply below_alloc | apply pw_below_drewN | apply below_drew1) | exact HB.out)) | (repeat (first | exact HT_.out | apply tab_drewN | apply tab_drew))) A3.out).mono ?_); rintro e w5 ⟨rfl, hb⟩; refine ⟨_, rfl, ?_⟩; have n0_ := Aside0.mk (below_step (by repeat (first | (with_reducible first | exact HB.out | apply below_alloc | apply pw_below_drewN | apply below_drew1) | exact HB.out)) hb); clear HB; have HB := n0_; clear n0_; (try clear hb); (try clear hb2); (try clear hk); (try clear hi)))
     go_ret2
     exact ⟨by first | rfl | (simp [errW_none, errW_some] <;> rfl) | (simp [*, errW_none, errW_some] <;> rfl), by repeat (first | (with_reducible first | exact HB.out | apply below_alloc | apply pw_below_drewN | apply below_drew1) | exact HB.out)⟩
    replace c4 := Bool.eq_false_iff.mpr c4
    subst c4
    have H1 : (prime_Next.l0 k1 (IntKind.u64.wrap (x0_1 + 1))) = some (r1, r2) := by rw [if_neg (show ¬ (false = true) by decide)] at H; exact H
    clear H
    have H := H1
    clear H1
    have H' := Aside0.mk H
    clear H
    go_wp2_with (first | ((with_reducible refine gate_callee (f := 14) rfl ?_); refine goesL_ (some 9) rfl rfl Tryd.func14 (by kernel_rfl) rfl #[.int .u64 x0_1] rfl (by (try simp only [List.map_toArray, List.map_cons, List.map_nil]); first | done | rfl | (simp only [List.length_drop, List.length_take]; rfl)) ?_; (with_reducible refine (prime_Is.calls k1 x0_1 false _ (by first | exact HT_.out | (refine tab_below HT_.out ?_; repeat (first | (with_reducible first | exact HB.out | apply below_alloc | apply pw_below_drewN | apply below_drew1) | exact HB.out)) | (repeat (first | exact HT_.out | apply tab_drewN | apply tab_drew))) A3.out).mono ?_); rintro e w6 ⟨rfl, hb⟩; refine ⟨_, rfl, ?_⟩; have n0_ := Aside0.mk (below_step (by repeat (first | (with_reducible first | exact HB.out | apply below_alloc | apply pw_below_drewN | apply below_drew1) | exact HB.out)) hb); clear HB; have HB := n0_; clear n0_; (try clear hb); (try clear hb2); (try clear hk); (try clear hi)))
    go_roundg k1
    case measure => have := HK1.out; omega
    case rel => exact ⟨(IntKind.u64.wrap (x0_1 + 1)), (by first | rfl | (simp; done) | (simp [*]; done)), H', ⟨by have := HK1.out; omega⟩, ⟨by repeat (first | (with_reducible first | exact HB.out | apply below_alloc | apply pw_below_drewN | apply below_drew1) | exact HB.out)⟩⟩
   rw [if_neg c2] at H
   have c2b0 : decide (x0_1 < 9223372036854775808) = false := decide_eq_false c2
   clear c2
   simp only [Option.some.injEq, Prod.mk.injEq] at H
   obtain ⟨rfl, rfl⟩ := H
   go_wp2
   go_ret2
   exact ⟨by first | rfl | (simp [errW_none, errW_some] <;> rfl) | (simp [*, errW_none, errW_some] <;> rfl), by repeat (first | (with_reducible first | exact HB.out | apply below_alloc | apply pw_below_drewN | apply below_drew1) | exact HB.out)⟩

/-! ### prime_Scan: function 18 -/
mutual
def prime_Scan.j0 : Nat → Int → Int → Int → Bool → Option (List Int × Int)
 | 0, _, _, _, _ => none
 | k + 1, x0, x1, x2, x29 => if x29 = true then (some (([] : List Int), 1)) else (if 0 ≤ (IntKind.u64.wrap (x0)) then (if x2 < 2 then (some (([] : List Int), 19)) else (if (shl .u64 1 (IntKind.u64.wrap (x0))) = 0 then (none) else (prime_Scan.l0 k x1 (shl .u64 1 (IntKind.u64.wrap (x0))) ([] : List Int) (IntKind.u64.wrap (Int.tdiv (IntKind.u64.wrap (x2 - 2)) (shl .u64 1 (IntKind.u64.wrap (x0)))))))) else (none))
def prime_Scan.l0 : Nat → Int → Int → List Int → Int → Option (List Int × Int)
 | 0, _, _, _, _ => none
 | k + 1, x1, x8, x9, x10 => if x10 > 0 then ((prime_Is.f k (IntKind.u64.wrap ((IntKind.u64.wrap (x10 * x8)) + 1))).bind fun t114 => (if t114 = true then (if x9.length < 17592186044416 then ((some (x9 ++ [IntKind.u64.wrap ((IntKind.u64.wrap (x10 * x8)) + 1)] : List Int)).bind fun y115 => (if (y115.length : Int) = x1 then (some (y115, 0)) else (prime_Scan.l0 k x1 x8 y115 (IntKind.u64.wrap (x10 - 1))))) else (none)) else (if (x9.length : Int) = x1 then (some (x9, 0)) else (prime_Scan.l0 k x1 x8 x9 (IntKind.u64.wrap (x10 - 1)))))) else (some (([] : List Int), 19))
end
def prime_Scan.f (k : Nat) (a0 : Int) (a1 : Int) (a2 : Int) : Option (List Int × Int) := if a0 < 1 then (prime_Scan.j0 k a0 a1 a2 true) else (if a0 > 40 then (prime_Scan.j0 k a0 a1 a2 true) else (if a1 < 1 then (prime_Scan.j0 k a0 a1 a2 true) else (if a1 > 64 then (prime_Scan.j0 k a0 a1 a2 true) else (prime_Scan.j0 k a0 a1 a2 (decide (a2 > 9223372036854775808))))))
theorem prime_Scan.mono_l : ∀ k, (∀ y0 y1 y2 y3, LeO (prime_Scan.j0 k y0 y1 y2 y3) (prime_Scan.j0 (k + 1) y0 y1 y2 y3)) ∧ (∀ y0 y1 y2 y3, LeO (prime_Scan.l0 k y0 y1 y2 y3) (prime_Scan.l0 (k + 1) y0 y1 y2 y3))
 | 0 => ⟨fun _ _ _ _ r h => by simp [prime_Scan.j0] at h, fun _ _ _ _ r h => by simp [prime_Scan.l0] at h⟩
 | k + 1 => by
  obtain ⟨ih0, ih1⟩ := prime_Scan.mono_l k
  refine ⟨?_, ?_⟩
  ·intro y0 y1 y2 y3
   unfold prime_Scan.j0
   repeat' first
   | (with_reducible exact ih0 _ _ _ _)
   | (with_reducible exact ih1 _ _ _ _)
   | (with_reducible exact prime_Is.mono _ _)
   | (with_reducible exact LeO.refl _)
   | (with_reducible exact LeO.none _)
   | (with_reducible refine LeO.ite ?_ ?_)
   | (with_reducible refine LeO.bind ?_ (fun _ => ?_))
   | exact ih0 _ _ _ _
   | exact ih1 _ _ _ _
   | exact prime_Is.mono _ _
   | exact LeO.none _
   | refine LeO.ite ?_ ?_
   | refine LeO.bind ?_ (fun _ => ?_)
  intro y0 y1 y2 y3
  unfold prime_Scan.l0
  repeat' first
  | (with_reducible exact ih0 _ _ _ _)
  | (with_reducible exact ih1 _ _ _ _)
  | (with_reducible exact prime_Is.mono _ _)
  | (with_reducible exact LeO.refl _)
  | (with_reducible exact LeO.none _)
  | (with_reducible refine LeO.ite ?_ ?_)
  | (with_reducible refine LeO.bind ?_ (fun _ => ?_))
  | exact ih0 _ _ _ _
  | exact ih1 _ _ _ _
  | exact prime_Is.mono _ _
  | exact LeO.none _
  | refine LeO.ite ?_ ?_
  | refine LeO.bind ?_ (fun _ => ?_)
theorem prime_Scan.mono : ∀ a0 a1 a2 k, LeO (prime_Scan.f k a0 a1 a2) (prime_Scan.f (k + 1) a0 a1 a2) := by
 intro a0 a1 a2 k
 obtain ⟨ih0, ih1⟩ := prime_Scan.mono_l k
 unfold prime_Scan.f
 repeat' first
   | (with_reducible exact ih0 _ _ _ _)
   | (with_reducible exact ih1 _ _ _ _)
   | (with_reducible exact prime_Is.mono _ _)
   | (with_reducible exact LeO.refl _)
   | (with_reducible exact LeO.none _)
   | (with_reducible refine LeO.ite ?_ ?_)
   | (with_reducible refine LeO.bind ?_ (fun _ => ?_))
   | exact ih0 _ _ _ _
   | exact ih1 _ _ _ _
   | exact prime_Is.mono _ _
   | exact LeO.none _
   | refine LeO.ite ?_ ?_
   | refine LeO.bind ?_ (fun _ => ?_)
theorem prime_Scan.calls (k : Nat) (a0 : Int) (a1 : Int) (a2 : Int) (r1 : List Int) (r2 : Int) (w : World) (hT_ : TabAt 0 Lib.deBruijn64tab w) (h : prime_Scan.f k a0 a1 a2 = some (r1, r2)) :
  Calls Tryd.prog 18 #[.int .i64 a0, .int .i64 a1, .int .u64 a2] w fun e w' => ∃ v0_ : Value, e = .returned (.tuple #[v0_, .int .i64 r2]) ∧ Kd.R (Kd.int .u64) 22 w' w.heap.size (fun _ => True) v0_ r1 ∧ Below w.heap.size w w' := by
 have HT_ := Aside0.mk hT_
 clear hT_
 have HB := Aside0.mk (Below.refl w.heap.size w)
 have H : (if a0 < 1 then (prime_Scan.j0 k a0 a1 a2 true) else (if a0 > 40 then (prime_Scan.j0 k a0 a1 a2 true) else (if a1 < 1 then (prime_Scan.j0 k a0 a1 a2 true) else (if a1 > 64 then (prime_Scan.j0 k a0 a1 a2 true) else (prime_Scan.j0 k a0 a1 a2 (decide (a2 > 9223372036854775808))))))) = some (r1, r2) := h
 clear h
 have HC4 := Aside0.mk H
 clear H
 go_enter Tryd.func18, Tryd.ntmps18
 go_upto_region 1 with (fail)
 go_cut [29] (fun v29 wc => ∃ (kq : Nat) (x29_3 : Bool), v29 = .bool x29_3 ∧ Aside0 (prime_Scan.j0 kq a0 a1 a2 x29_3 = some (r1, r2)) ∧ Aside0 (kq ≤ k) ∧ Aside0 (Below w.heap.size w wc))
 case first =>
  have H := HC4.out
  clear HC4
  by_cases c5 : a0 < 1
  ·rw [if_pos c5] at H
   have c5b0 : decide (a0 < 1) = true := decide_eq_true c5
   clear c5
   (first | rw [c5b0] | (simp only [i64_w, i32_w]; rw [c5b0]) | skip)
   have H' := Aside0.mk H
   clear H
   go_wp2
   go_meet
   case rel => exact ⟨_, (true), (by first | rfl | (simp; done) | (simp [*]; done)), H', ⟨by first | omega | exact Nat.le_refl _⟩, ⟨by repeat (first | (with_reducible first | exact HB.out | apply below_alloc | apply pw_below_drewN | apply below_drew1) | exact HB.out)⟩⟩
  rw [if_neg c5] at H
  have c5b0 : decide (a0 < 1) = false := decide_eq_false c5
  clear c5
  (first | rw [c5b0] | (simp only [i64_w, i32_w]; rw [c5b0]) | skip)
  by_cases c6 : a0 > 40
  ·rw [if_pos c6] at H
   have c6b0 : decide (40 < a0) = true := decide_eq_true c6
   clear c6
   have H' := Aside0.mk H
   clear H
   go_wp2
   go_meet
   case rel => exact ⟨_, (true), (by first | rfl | (simp; done) | (simp [*]; done)), H', ⟨by first | omega | exact Nat.le_refl _⟩, ⟨by repeat (first | (with_reducible first | exact HB.out | apply below_alloc | apply pw_below_drewN | apply below_drew1) | exact HB.out)⟩⟩
  rw [if_neg c6] at H
  have c6b0 : decide (40 < a0) = false := decide_eq_false c6
  clear c6
  by_cases c7 : a1 < 1
  ·rw [if_pos c7] at H
   have c7b0 : decide (a1 < 1) = true := decide_eq_true c7
   clear c7
   have H' := Aside0.mk H
   clear H
   go_wp2
   go_meet
   case rel => exact ⟨_, (true), (by first | rfl | (simp; done) | (simp [*]; done)), H', ⟨by first | omega | exact Nat.le_refl _⟩, ⟨by repeat (first | (with_reducible first | exact HB.out | apply below_alloc | apply pw_below_drewN | apply below_drew1) | exact HB.out)⟩⟩
  rw [if_neg c7] at H
  have c7b0 : decide (a1 < 1) = false := decide_eq_false c7
  clear c7
  by_cases c8 : a1 > 64
  ·rw [if_pos c8] at H
   have c8b0 : decide (64 < a1) = true := decide_eq_true c8
   clear c8
   have H' := Aside0.mk H
   clear H
   go_wp2
   go_meet
   case rel => exact ⟨_, (true), (by first | rfl | (simp; done) | (simp [*]; done)), H', ⟨by first | omega | exact Nat.le_refl _⟩, ⟨by repeat (first | (with_reducible first | exact HB.out | apply below_alloc | apply pw_below_drewN | apply below_drew1) | exact HB.out)⟩⟩
  rw [if_neg c8] at H
  have c8b0 : decide (64 < a1) = false := decide_eq_false c8
  clear c8
  have H' := Aside0.mk H
  clear H
  go_wp2
  go_meet
  case rel => exact ⟨_, (decide (a2 > 9223372036854775808)), (by first | rfl | (simp; done) | (simp [*]; done)), H', ⟨by first | omega | exact Nat.le_refl _⟩, ⟨by repeat (first | (with_reducible first | exact HB.out | apply below_alloc | apply pw_below_drewN | apply below_drew1) | exact HB.out)⟩⟩
 case rest =>
  clear HC4
  try clear c1
  try clear p2
  try clear c5
  try clear c5b0
  try clear c6
  try clear c6b0
  try clear c7
  try clear c7b0
  try clear c8
  try clear c8b0
  obtain ⟨kq, x29_3, rfl, HA, HJ3, HB⟩ := hcut
  cases kq with
  | zero => exact absurd HA.out (by simp [prime_Scan.j0])
  | succ kj3 =>
   have H := HA.out
   clear HA
   simp only [prime_Scan.j0] at H
   by_cases c9 : x29_3 = true
   ·subst c9
    have H1 : (some (([] : List Int), 1)) = some (r1, r2) := by rw [if_pos rfl] at H; exact H
    clear H
    have H := H1
    clear H1
    simp only [Option.some.injEq, Prod.mk.injEq] at H
    obtain ⟨rfl, rfl⟩ := H
    go_wp2
    go_ret2
    exact ⟨_, by first | rfl | (simp [errW_none, errW_some] <;> rfl) | (simp [*, errW_none, errW_some] <;> rfl), by first | exact Kd.R_nil _ _ _ _ _ | exact Kd.N_nil _ _ _ _ _ | exact Kd.V_nil _ _ _ _ _ | exact Kd.Q_nil _ _ _ _ _ | exact Kd.S_nil _ _ _ _ _, by repeat (first | (with_reducible first | exact HB.out | apply below_alloc | apply pw_below_drewN | apply below_drew1) | exact HB.out)⟩
   replace c9 := Bool.eq_false_iff.mpr c9
   subst c9
   have H1 : (if 0 ≤ (IntKind.u64.wrap (a0)) then (if a2 < 2 then (some (([] : List Int), 19)) else (if (shl .u64 1 (IntKind.u64.wrap (a0))) = 0 then (none) else (prime_Scan.l0 kj3 a1 (shl .u64 1 (IntKind.u64.wrap (a0))) ([] : List Int) (IntKind.u64.wrap (Int.tdiv (IntKind.u64.wrap (a2 - 2)) (shl .u64 1 (IntKind.u64.wrap (a0)))))))) else (none)) = some (r1, r2) := by rw [if_neg (show ¬ (false = true) by decide)] at H; exact H
   clear H
   have H := H1
   clear H1
   obtain ⟨ji10, hji10⟩ : ∃ j_ : Int, (IntKind.u64.wrap (a0)) = j_ := ⟨_, rfl⟩
   replace H : (if 0 ≤ (ji10) then (if a2 < 2 then (some (([] : List Int), 19)) else (if (shl .u64 1 (ji10)) = 0 then (none) else (prime_Scan.l0 kj3 a1 (shl .u64 1 (ji10)) ([] : List Int) (IntKind.u64.wrap (Int.tdiv (IntKind.u64.wrap (a2 - 2)) (shl .u64 1 (ji10))))))) else (none)) = some (r1, r2) := by first | (rw [hji10] at H; exact H) | (simp only [hji10] at H ⊢; exact H)
   by_cases c11 : 0 ≤ (ji10)
   ·rw [if_pos c11] at H
    have c11b0 := eq_true c11
    have c11b1 : decide (0 ≤ (ji10)) = true := decide_eq_true c11
    clear c11
    obtain ⟨ji12, hji12⟩ : ∃ j_ : Int, (shl .u64 1 (ji10)) = j_ := ⟨_, rfl⟩
    replace H : (if a2 < 2 then (some (([] : List Int), 19)) else (if (ji12) = 0 then (none) else (prime_Scan.l0 kj3 a1 ji12 ([] : List Int) (IntKind.u64.wrap (Int.tdiv (IntKind.u64.wrap (a2 - 2)) (ji12)))))) = some (r1, r2) := by first | (rw [hji12] at H; exact H) | (simp only [hji12] at H ⊢; exact H)
    have hji12_ : (IntKind.u64.wrap (1 * 2 ^ min (ji10).toNat 64)) = ji12 := hji12
    have hji12z : (ji10) ≤ 64 → (IntKind.u64.wrap (1 * 2 ^ (ji10).toNat)) = ji12 := shl_small hji12
    have hji12u : (IntKind.u64.wrap (2 ^ min (ji10).toNat 64)) = ji12 := by have h_ := hji12_; rw [Int.one_mul] at h_; exact h_
    have hji12v : (ji10) ≤ 64 → (IntKind.u64.wrap (2 ^ (ji10).toNat)) = ji12 := fun hle_ => by have h_ := hji12z hle_; rw [Int.one_mul] at h_; exact h_
    by_cases c13 : a2 < 2
    ·rw [if_pos c13] at H
     have c13b0 : decide (a2 < 2) = true := decide_eq_true c13
     clear c13
     simp only [Option.some.injEq, Prod.mk.injEq] at H
     obtain ⟨rfl, rfl⟩ := H
     go_wp2
     go_ret2
     exact ⟨_, by first | rfl | (simp [errW_none, errW_some] <;> rfl) | (simp only [← hji10, ← hji12]; first | rfl | (simp [errW_none, errW_some] <;> rfl)) | (simp [*, errW_none, errW_some] <;> rfl), by first | exact Kd.R_nil _ _ _ _ _ | exact Kd.N_nil _ _ _ _ _ | exact Kd.V_nil _ _ _ _ _ | exact Kd.Q_nil _ _ _ _ _ | exact Kd.S_nil _ _ _ _ _, by repeat (first | (with_reducible first | exact HB.out | apply below_alloc | apply pw_below_drewN | apply below_drew1) | exact HB.out)⟩
    rw [if_neg c13] at H
    have c13b0 : decide (a2 < 2) = false := decide_eq_false c13
    clear c13
    by_cases c14 : (ji12) = 0
    ·rw [if_pos c14] at H
     exact absurd H (by simp)
    rw [if_neg c14] at H
    have c14b0 : ((ji12) == 0) = false := beq_eq_false_iff_ne.mpr c14
    have c14b1 : ((ji12) != 0) = true := bne_iff_ne.mpr c14
    have H' := Aside0.mk H
    clear H
    go_wp2
    go_loopg [9, 10] kj3 (fun kq v9 v10 w' => ∃ (x9_2 : List Int) (x10_2 : Int), v10 = .int .u64 x10_2 ∧ Aside0 (prime_Scan.l0 kq a1 ji12 x9_2 x10_2 = some (r1, r2)) ∧ Aside0 (kq ≤ kj3) ∧ Aside0 (Kd.R (Kd.int .u64) 22 w' w.heap.size (fun _ => True) v9 x9_2) ∧ Aside0 (Below w.heap.size w w'))
    case atStart => exact ⟨(([] : List Int)), (IntKind.u64.wrap (Int.tdiv (IntKind.u64.wrap (a2 - 2)) (ji12))), (by first | rfl | (simp; done) | (simp only [← hji12] <;> (first | rfl | simp)) | (simp [*]; done)), H', ⟨Nat.le_refl _⟩, ⟨by first | exact Kd.R_nil _ _ _ _ _ | exact Kd.N_nil _ _ _ _ _ | exact Kd.V_nil _ _ _ _ _ | exact Kd.Q_nil _ _ _ _ _ | exact Kd.S_nil _ _ _ _ _⟩, ⟨by repeat (first | (with_reducible first | exact HB.out | apply below_alloc | apply pw_below_drewN | apply below_drew1) | exact HB.out)⟩⟩
    case round =>
     clear H'
     try clear c1
     try clear p2
     try clear c5
     try clear c5b0
     try clear c6
     try clear c6b0
     try clear c7
     try clear c7b0
     try clear c8
     try clear c8b0
     try clear c9
     try clear c11
     try clear c11b0
     try clear c11b1
     try clear c13
     try clear c13b0
     try clear c14
     try clear c14b0
     try clear c14b1
     try clear p2
     obtain ⟨x9_2, x10_2, rfl, HA, HK2, HO_9, HB⟩ := hrel
     cases gk with
     | zero => exact absurd HA.out (by simp [prime_Scan.l0])
     | succ k2 =>
      have H := HA.out
      clear HA
      simp only [prime_Scan.l0] at H
      by_cases c15 : x10_2 > 0
      ·rw [if_pos c15] at H
       have c15b0 : decide (0 < x10_2) = true := decide_eq_true c15
       clear c15
       replace H := Option.bind_eq_some_iff.mp H
       obtain ⟨t114, A160, H⟩ := H
       replace H : (if t114 = true then (if x9_2.length < 17592186044416 then ((some (x9_2 ++ [IntKind.u64.wrap ((IntKind.u64.wrap (x10_2 * ji12)) + 1)] : List Int)).bind fun y115 => (if (y115.length : Int) = a1 then (some (y115, 0)) else (prime_Scan.l0 k2 a1 ji12 y115 (IntKind.u64.wrap (x10_2 - 1))))) else (none)) else (if (x9_2.length : Int) = a1 then (some (x9_2, 0)) else (prime_Scan.l0 k2 a1 ji12 x9_2 (IntKind.u64.wrap (x10_2 - 1))))) = some (r1, r2) := H
       have A16 := Aside0.mk A160
       clear A160
       by_cases c17 : t114 = true
       ·subst c17
        have H1 : (if x9_2.length < 17592186044416 then ((some (x9_2 ++ [IntKind.u64.wrap ((IntKind.u64.wrap (x10_2 * ji12)) + 1)] : List Int)).bind fun y115 => (if (y115.length : Int) = a1 then (some (y115, 0)) else (prime_Scan.l0 k2 a1 ji12 y115 (IntKind.u64.wrap (x10_2 - 1))))) else (none)) = some (r1, r2) := by rw [if_pos rfl] at H; exact H
        clear H
        have H := H1
        clear H1
        by_cases c18 : x9_2.length < 17592186044416
        ·rw [if_pos c18] at H
         have LMc18 := Aside0.mk c18
         clear c18
         obtain ⟨y115, hy115⟩ : ∃ y_ : List Int, y_ = (x9_2 ++ [IntKind.u64.wrap ((IntKind.u64.wrap (x10_2 * ji12)) + 1)]) := ⟨_, rfl⟩
         replace H : (if (y115.length : Int) = a1 then (some (y115, 0)) else (prime_Scan.l0 k2 a1 ji12 y115 (IntKind.u64.wrap (x10_2 - 1)))) = some (r1, r2) := by first | (rw [hy115]; with_reducible exact H) | (have H2_ := (Option.bind_some _ _).symm.trans H; rw [hy115]; with_reducible exact H2_) | (have H2_ := (Option.bind_some _ _).symm.trans H; with_reducible exact H2_) | with_reducible exact H | (rw [hy115]; exact H) | exact H
         have Ny115 := Aside0.mk hy115
         clear hy115
         by_cases c19 : (y115.length : Int) = a1
         ·rw [if_pos c19] at H
          have c19b0 : ((y115.length : Int) == a1) = true := beq_iff_eq.mpr c19
          have c19b1 : ((y115.length : Int) != a1) = false := bne_eq_false_iff_eq.mpr c19
          clear c19
          simp only [Option.some.injEq, Prod.mk.injEq] at H
          obtain ⟨rfl, rfl⟩ := H
          go_wp2_with (first | ((with_reducible refine gate_callee (f := 14) rfl ?_); refine goesL_ (some 48) rfl rfl Tryd.func14 (by kernel_rfl) rfl #[.int .u64 (IntKind.u64.wrap ((IntKind.u64.wrap (x10_2 * ji12)) + 1))] rfl (by (try simp only [List.map_toArray, List.map_cons, List.map_nil]); first | done | (simp only [hji12]; rfl) | rfl | (simp only [List.length_drop, List.length_take]; rfl)) ?_; (with_reducible refine (prime_Is.calls k2 (IntKind.u64.wrap ((IntKind.u64.wrap (x10_2 * ji12)) + 1)) true _ (by first | exact HT_.out | (refine tab_below HT_.out ?_; repeat (first | (with_reducible first | exact HB.out | apply below_alloc | apply pw_below_drewN | apply below_drew1) | exact HB.out)) | (repeat (first | exact HT_.out | apply tab_drewN | apply tab_drew))) A16.out).mono ?_); rintro e w20 ⟨rfl, hb⟩; refine ⟨_, rfl, ?_⟩; have n0_ := Aside0.mk (Kd.R_below (by (with_reducible repeat (first | apply Kd.R_alloc | apply Kd.R_drewN | apply Kd.R_drew)); exact HO_9.out) hb); have n1_ := Aside0.mk (below_step (by repeat (first | (with_reducible first | exact HB.out | apply below_alloc | apply pw_below_drewN | apply below_drew1) | exact HB.out)) hb); clear HO_9; clear HB; have HO_9 := n0_; have HB := n1_; clear n0_ n1_; (try clear hb); (try clear hb2); (try clear hk); (try clear hi)) | ((with_reducible refine gate_builtin (b := .append) (xs := #[.tmp 49, .tmp 51]) rfl ?_); at_builtin; refine Kd.R_append (Kd.int .u64) (w0 := w) w.heap.size rfl (.tmp 49) (.tmp 51) 32 22 (.int .u64 0) 8 rfl Tryd.underlying32 info22 rfl (by decide) (by omega) u9 x9_2 (IntKind.u64.wrap ((IntKind.u64.wrap (x10_2 * ji12)) + 1)) [.int .u64 (IntKind.u64.wrap ((IntKind.u64.wrap (x10_2 * ji12)) + 1))] (fun _ => True) (fun _ => False) rfl rfl ?aP (fun _ hk => hk.elim) ?aF ?aO ?aB ?aS ?aL ?_; (case aP => exact rfl); (case aB => exact (by repeat (first | (with_reducible first | exact HB.out | apply below_alloc | apply pw_below_drewN | apply below_drew1) | exact HB.out))); (case aF => exact (fun _ _ => trivial)); (case aO => exact (by (with_reducible repeat (first | apply Kd.R_alloc | apply Kd.R_drewN | apply Kd.R_drew)); exact HO_9.out)); (case aS => exact (below_size (by repeat (first | (with_reducible first | exact HB.out | apply below_alloc | apply pw_below_drewN | apply below_drew1) | exact HB.out)))); (case aL => have := LMc18.out; omega); intro v116 w21 ho hb hg hat; rw [← Ny115.out] at ho; have n0_ := Aside0.mk (hb); have n1_ := Aside0.mk (ho); clear HB; clear HO_9; have HB := n0_; have HO117 := n1_; clear n0_ n1_; clear ho hb hg hat; obtain ⟨Ao22, co22, eo22⟩ := Kd.R_slice HO117.out; subst eo22))
          go_ret2
          exact ⟨_, by first | rfl | (simp [errW_none, errW_some] <;> rfl) | (simp only [← hji10, ← hji12]; first | rfl | (simp [errW_none, errW_some] <;> rfl)) | (simp [*, errW_none, errW_some] <;> rfl), by (with_reducible repeat (first | apply Kd.R_alloc | apply Kd.R_drewN | apply Kd.R_drew)); exact HO117.out, by repeat (first | (with_reducible first | exact HB.out | apply below_alloc | apply pw_below_drewN | apply below_drew1) | exact HB.out)⟩
         rw [if_neg c19] at H
         have c19b0 : ((y115.length : Int) == a1) = false := beq_eq_false_iff_ne.mpr c19
         have c19b1 : ((y115.length : Int) != a1) = true := bne_iff_ne.mpr c19
         have H' := Aside0.mk H
         clear H
         go_wp2_with (first | ((with_reducible refine gate_callee (f := 14) rfl ?_); refine goesL_ (some 48) rfl rfl Tryd.func14 (by kernel_rfl) rfl #[.int .u64 (IntKind.u64.wrap ((IntKind.u64.wrap (x10_2 * ji12)) + 1))] rfl (by (try simp only [List.map_toArray, List.map_cons, List.map_nil]); first | done | (simp only [hji12]; rfl) | rfl | (simp only [List.length_drop, List.length_take]; rfl)) ?_; (with_reducible refine (prime_Is.calls k2 (IntKind.u64.wrap ((IntKind.u64.wrap (x10_2 * ji12)) + 1)) true _ (by first | exact HT_.out | (refine tab_below HT_.out ?_; repeat (first | (with_reducible first | exact HB.out | apply below_alloc | apply pw_below_drewN | apply below_drew1) | exact HB.out)) | (repeat (first | exact HT_.out | apply tab_drewN | apply tab_drew))) A16.out).mono ?_); rintro e w23 ⟨rfl, hb⟩; refine ⟨_, rfl, ?_⟩; have n0_ := Aside0.mk (Kd.R_below (by (with_reducible repeat (first | apply Kd.R_alloc | apply Kd.R_drewN | apply Kd.R_drew)); exact HO_9.out) hb); have n1_ := Aside0.mk (below_step (by repeat (first | (with_reducible first | exact HB.out | apply below_alloc | apply pw_below_drewN | apply below_drew1) | exact HB.out)) hb); clear HO_9; clear HB; have HO_9 := n0_; have HB := n1_; clear n0_ n1_; (try clear hb); (try clear hb2); (try clear hk); (try clear hi)) | ((with_reducible refine gate_builtin (b := .append) (xs := #[.tmp 49, .tmp 51]) rfl ?_); at_builtin; refine Kd.R_append (Kd.int .u64) (w0 := w) w.heap.size rfl (.tmp 49) (.tmp 51) 32 22 (.int .u64 0) 8 rfl Tryd.underlying32 info22 rfl (by decide) (by omega) u9 x9_2 (IntKind.u64.wrap ((IntKind.u64.wrap (x10_2 * ji12)) + 1)) [.int .u64 (IntKind.u64.wrap ((IntKind.u64.wrap (x10_2 * ji12)) + 1))] (fun _ => True) (fun _ => False) rfl rfl ?aP (fun _ hk => hk.elim) ?aF ?aO ?aB ?aS ?aL ?_; (case aP => exact rfl); (case aB => exact (by repeat (first | (with_reducible first | exact HB.out | apply below_alloc | apply pw_below_drewN | apply below_drew1) | exact HB.out))); (case aF => exact (fun _ _ => trivial)); (case aO => exact (by (with_reducible repeat (first | apply Kd.R_alloc | apply Kd.R_drewN | apply Kd.R_drew)); exact HO_9.out)); (case aS => exact (below_size (by repeat (first | (with_reducible first | exact HB.out | apply below_alloc | apply pw_below_drewN | apply below_drew1) | exact HB.out)))); (case aL => have := LMc18.out; omega); intro v116 w24 ho hb hg hat; rw [← Ny115.out] at ho; have n0_ := Aside0.mk (hb); have n1_ := Aside0.mk (ho); clear HB; clear HO_9; have HB := n0_; have HO117 := n1_; clear n0_ n1_; clear ho hb hg hat; obtain ⟨Ao25, co25, eo25⟩ := Kd.R_slice HO117.out; subst eo25))
         go_roundg k2
         case measure => have := HJ3.out; have := HK2.out; omega
         case rel => exact ⟨(y115), (IntKind.u64.wrap (x10_2 - 1)), (by first | rfl | (simp; done) | (simp [*]; done)), H', ⟨by have := HJ3.out; have := HK2.out; omega⟩, ⟨by (with_reducible repeat (first | apply Kd.R_alloc | apply Kd.R_drewN | apply Kd.R_drew)); exact HO117.out⟩, ⟨by repeat (first | (with_reducible first | exact HB.out | apply below_alloc | apply pw_below_drewN | apply below_drew1) | exact HB.out)⟩⟩
        rw [if_neg c18] at H
        exact absurd H (by simp)
       replace c17 := Bool.eq_false_iff.mpr c17
       subst c17
       have H1 : (if (x9_2.length : Int) = a1 then (some (x9_2, 0)) else (prime_Scan.l0 k2 a1 ji12 x9_2 (IntKind.u64.wrap (x10_2 - 1)))) = some (r1, r2) := by rw [if_neg (show ¬ (false = true) by decide)] at H; exact H
       clear H
       have H := H1
       clear H1
       by_cases c26 : (x9_2.length : Int) = a1
       ·rw [if_pos c26] at H
        have c26b0 : ((x9_2.length : Int) == a1) = true := beq_iff_eq.mpr c26
        have c26b1 : ((x9_2.length : Int) != a1) = false := bne_eq_false_iff_eq.mpr c26
        clear c26
        simp only [Option.some.injEq, Prod.mk.injEq] at H
        obtain ⟨rfl, rfl⟩ := H
        go_wp2_with (first | ((with_reducible refine gate_callee (f := 14) rfl ?_); refine goesL_ (some 48) rfl rfl Tryd.func14 (by kernel_rfl) rfl #[.int .u64 (IntKind.u64.wrap ((IntKind.u64.wrap (x10_2 * ji12)) + 1))] rfl (by (try simp only [List.map_toArray, List.map_cons, List.map_nil]); first | done | (simp only [hji12]; rfl) | rfl | (simp only [List.length_drop, List.length_take]; rfl)) ?_; (with_reducible refine (prime_Is.calls k2 (IntKind.u64.wrap ((IntKind.u64.wrap (x10_2 * ji12)) + 1)) false _ (by first | exact HT_.out | (refine tab_below HT_.out ?_; repeat (first | (with_reducible first | exact HB.out | apply below_alloc | apply pw_below_drewN | apply below_drew1) | exact HB.out)) | (repeat (first | exact HT_.out | apply tab_drewN | apply tab_drew))) A16.out).mono ?_); rintro e w27 ⟨rfl, hb⟩; refine ⟨_, rfl, ?_⟩; have n0_ := Aside0.mk (Kd.R_below (by (with_reducible repeat (first | apply Kd.R_alloc | apply Kd.R_drewN | apply Kd.R_drew)); exact HO_9.out) hb); have n1_ := Aside0.mk (below_step (by repeat (first | (with_reducible first | exact HB.out | apply below_alloc | apply pw_below_drewN | apply below_drew1) | exact HB.out)) hb); clear HO_9; clear HB; have HO_9 := n0_; have HB := n1_; clear n0_ n1_; (try clear hb); (try clear hb2); (try clear hk); (try clear hi); obtain ⟨Ao28, co28, eo28⟩ := Kd.R_slice HO_9.out; subst eo28))
        go_ret2
        exact ⟨_, by first | rfl | (simp [errW_none, errW_some] <;> rfl) | (simp only [← hji10, ← hji12]; first | rfl | (simp [errW_none, errW_some] <;> rfl)) | (simp [*, errW_none, errW_some] <;> rfl), by (with_reducible repeat (first | apply Kd.R_alloc | apply Kd.R_drewN | apply Kd.R_drew)); exact HO_9.out, by repeat (first | (with_reducible first | exact HB.out | apply below_alloc | apply pw_below_drewN | apply below_drew1) | exact HB.out)⟩
       rw [if_neg c26] at H
       have c26b0 : ((x9_2.length : Int) == a1) = false := beq_eq_false_iff_ne.mpr c26
       have c26b1 : ((x9_2.length : Int) != a1) = true := bne_iff_ne.mpr c26
       have H' := Aside0.mk H
       clear H
       go_wp2_with (first | ((with_reducible refine gate_callee (f := 14) rfl ?_); refine goesL_ (some 48) rfl rfl Tryd.func14 (by kernel_rfl) rfl #[.int .u64 (IntKind.u64.wrap ((IntKind.u64.wrap (x10_2 * ji12)) + 1))] rfl (by (try simp only [List.map_toArray, List.map_cons, List.map_nil]); first | done | (simp only [hji12]; rfl) | rfl | (simp only [List.length_drop, List.length_take]; rfl)) ?_; (with_reducible refine (prime_Is.calls k2 (IntKind.u64.wrap ((IntKind.u64.wrap (x10_2 * ji12)) + 1)) false _ (by first | exact HT_.out | (refine tab_below HT_.out ?_; repeat (first | (with_reducible first | exact HB.out | apply below_alloc | apply pw_below_drewN | apply below_drew1) | exact HB.out)) | (repeat (first | exact HT_.out | apply tab_drewN | apply tab_drew))) A16.out).mono ?_); rintro e w29 ⟨rfl, hb⟩; refine ⟨_, rfl, ?_⟩; have n0_ := Aside0.mk (Kd.R_below (by (with_reducible repeat (first | apply Kd.R_alloc | apply Kd.R_drewN | apply Kd.R_drew)); exact HO_9.out) hb); have n1_ := Aside0.mk (below_step (by repeat (first | (with_reducible first | exact HB.out | apply below_alloc | apply pw_below_drewN | apply below_drew1) | exact HB.out)) hb); clear HO_9; clear HB; have HO_9 := n0_; have HB := n1_; clear n0_ n1_; (try clear hb); (try clear hb2); (try clear hk); (try clear hi); obtain ⟨Ao30, co30, eo30⟩ := Kd.R_slice HO_9.out; subst eo30))
       go_roundg k2
       case measure => have := HJ3.out; have := HK2.out; omega
       case rel => exact ⟨(x9_2), (IntKind.u64.wrap (x10_2 - 1)), (by first | rfl | (simp; done) | (simp [*]; done)), H', ⟨by have := HJ3.out; have := HK2.out; omega⟩, ⟨by (with_reducible repeat (first | apply Kd.R_alloc | apply Kd.R_drewN | apply Kd.R_drew)); exact HO_9.out⟩, ⟨by repeat (first | (with_reducible first | exact HB.out | apply below_alloc | apply pw_below_drewN | apply below_drew1) | exact HB.out)⟩⟩
      rw [if_neg c15] at H
      have c15b0 : decide (0 < x10_2) = false := decide_eq_false c15
      clear c15
      simp only [Option.some.injEq, Prod.mk.injEq] at H
      obtain ⟨rfl, rfl⟩ := H
      go_wp2
      go_ret2
      exact ⟨_, by first | rfl | (simp [errW_none, errW_some] <;> rfl) | (simp only [← hji10, ← hji12]; first | rfl | (simp [errW_none, errW_some] <;> rfl)) | (simp [*, errW_none, errW_some] <;> rfl), by first | exact Kd.R_nil _ _ _ _ _ | exact Kd.N_nil _ _ _ _ _ | exact Kd.V_nil _ _ _ _ _ | exact Kd.Q_nil _ _ _ _ _ | exact Kd.S_nil _ _ _ _ _, by repeat (first | (with_reducible first | exact HB.out | apply below_alloc | apply pw_below_drewN | apply below_drew1) | exact HB.out)⟩
   rw [if_neg c11] at H
   exact absurd H (by simp)

end Go.Proofs.YtnlklfhgdefbaaaDoor.GN
-- thin

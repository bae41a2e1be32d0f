-- Written by wip/tools/myprint.py (this session's program, over the kit's print.py).
import Derived.Test.YtdomplmilbkaeaaDoorGNx0
import Derived.Test.YtdomplmilbkaeaaDoorGNx1
import Derived.Test.YtdomplmilbkaeaaDoorGNx2
import Derived.Test.YtdomplmilbkaeaaDoorGNx3
import Derived.Test.YtdomplmilbkaeaaDoorGNx4
import Derived.Test.YtdomplmilbkaeaaDoorGNx5
namespace Go.Proofs.YtdomplmilbkaeaaDoor.GN
open Go.RowKit Go.Proofs.YtdomplmilbkaeaaDoorW.PrintWords Go.Proofs.YtdomplmilbkaeaaDoorW.PrintLast Go.Proofs.YtdomplmilbkaeaaDoorW.PrintMore
attribute [local go_sem] adRun sbRun
attribute [local go_sem] max2_int min2_int max_two min_two max_three min_three max_four min_four   -- for this text's walks alone
set_option linter.unusedVariables false
set_option linter.unusedSimpArgs false

/-! ### nat_DivMod: function 16 -/
def nat_DivMod.l0 : Nat → Int → List Int → List Int → Int → List Int → Int → Option (List Int × List Int × Int)
 | 0, _, _, _, _, _, _ => none
 | k + 1, x10, x11, x12, x13, x14, x15 => if x15 ≥ 0 then (if 0 ≤ (wrap64 (x15 + x13)) then (if (wrap64 (x15 + x13)) < (x11.length : Int) then (if 0 ≤ (wrap64 ((wrap64 (x15 + x13)) - 1)) then (if (wrap64 ((wrap64 (x15 + x13)) - 1)) < (x11.length : Int) then (if 0 ≤ (wrap64 ((wrap64 (x15 + x13)) - 2)) then (if (wrap64 ((wrap64 (x15 + x13)) - 2)) < (x11.length : Int) then (if 0 ≤ (wrap64 (x13 - 1)) then (if (wrap64 (x13 - 1)) < (x12.length : Int) then (if 0 ≤ (wrap64 (x13 - 2)) then (if (wrap64 (x13 - 2)) < (x12.length : Int) then ((nat_guess.f k (rd x11 (wrap64 (x15 + x13))) (rd x11 (wrap64 ((wrap64 (x15 + x13)) - 1))) (rd x11 (wrap64 ((wrap64 (x15 + x13)) - 2))) (rd x12 (wrap64 (x13 - 1))) (rd x12 (wrap64 (x13 - 2)))).bind fun t227 => ((nat_takes.f k x11 x12 t227 x15).bind fun bt228 => (if bt228.1 = true then ((nat_gives.f k bt228.2 x12 x15).bind fun t230 => (if 0 ≤ x15 then (if x15 < (x14.length : Int) then (nat_DivMod.l0 k x10 t230 x12 x13 (x14.set (x15 : Int).toNat (IntKind.u64.wrap (t227 - 1))) (wrap64 (x15 - 1))) else (none)) else (none))) else (if 0 ≤ x15 then (if x15 < (x14.length : Int) then (nat_DivMod.l0 k x10 bt228.2 x12 x13 (x14.set (x15 : Int).toNat t227) (wrap64 (x15 - 1))) else (none)) else (none))))) else (none)) else (none)) else (none)) else (none)) else (none)) else (none)) else (none)) else (none)) else (none)) else (none)) else ((nat_Shr.f k x11 (wrap64 (x10))).bind fun bt215 => ((nat_trim.f k x14).bind fun t219 => (some (t219, bt215.1, bt215.2))))
def nat_DivMod.f (k : Nat) (l0 : List Int) (l1 : List Int) : Option (List Int × List Int × Int) := (nat_trim.f k l0).bind fun t179 => ((nat_trim.f k l1).bind fun t182 => (if (t182.length : Int) = 0 then (some (([] : List Int), ([] : List Int), 10)) else ((nat_Cmp.f k t179 t182).bind fun t185 => (if t185 < 0 then ((nat_Norm.f k t179).bind fun t186 => (some (([] : List Int), t186, 0))) else (if (t182.length : Int) = 1 then (if 0 < (t182.length : Int) then ((nat_DivWord.f k t179 (rd t182 0)).bind fun bt190 => ((nat_Norm.f k (([bt190.2.1] : List Int))).bind fun t198 => (some (bt190.1, t198, bt190.2.2)))) else (none)) else (if 0 ≤ (wrap64 ((t182.length : Int) - 1)) then (if (wrap64 ((t182.length : Int) - 1)) < (t182.length : Int) then ((bits_LeadingZeros64.f k (rd t182 (wrap64 ((t182.length : Int) - 1)))).bind fun t202 => ((nat_shifted.f k t179 (IntKind.u64.wrap (t202))).bind fun t203 => ((nat_shifted.f k t182 (IntKind.u64.wrap (t202))).bind fun t206 => ((nat_trim.f k t206).bind fun t209 => (if 0 ≤ (wrap64 ((t203.length : Int) - (t209.length : Int))) then (if (wrap64 ((t203.length : Int) - (t209.length : Int)) : Int).toNat ≤ 35184372088832 then ((some (List.replicate (wrap64 ((t203.length : Int) - (t209.length : Int)) : Int).toNat 0 : List Int)).bind fun y212 => (nat_DivMod.l0 k (IntKind.u64.wrap (t202)) t203 t209 (t209.length : Int) y212 (wrap64 ((y212.length : Int) - 1)))) else (none)) else (none)))))) else (none)) else (none)))))))
theorem nat_DivMod.mono_l : ∀ k, (∀ y0 y1 y2 y3 y4 y5, LeO (nat_DivMod.l0 k y0 y1 y2 y3 y4 y5) (nat_DivMod.l0 (k + 1) y0 y1 y2 y3 y4 y5))
 | 0 => fun _ _ _ _ _ _ r h => by simp [nat_DivMod.l0] at h
 | k + 1 => by
  have ih0 := nat_DivMod.mono_l k
  ·intro y0 y1 y2 y3 y4 y5
   unfold nat_DivMod.l0
   repeat' first
   | (with_reducible exact ih0 _ _ _ _ _ _)
   | (with_reducible exact bits_LeadingZeros64.mono _ _)
   | (with_reducible exact nat_Cmp.mono _ _ _)
   | (with_reducible exact nat_DivWord.mono _ _ _)
   | (with_reducible exact nat_Norm.mono _ _)
   | (with_reducible exact nat_Shr.mono _ _ _)
   | (with_reducible exact nat_gives.mono _ _ _ _)
   | (with_reducible exact nat_guess.mono _ _ _ _ _ _)
   | (with_reducible exact nat_shifted.mono _ _ _)
   | (with_reducible exact nat_takes.mono _ _ _ _ _)
   | (with_reducible exact nat_trim.mono _ _)
   | (with_reducible exact LeO.refl _)
   | (with_reducible exact LeO.none _)
   | (with_reducible refine LeO.ite ?_ ?_)
   | (with_reducible refine LeO.bind ?_ (fun _ => ?_))
   | exact ih0 _ _ _ _ _ _
   | exact bits_LeadingZeros64.mono _ _
   | exact nat_Cmp.mono _ _ _
   | exact nat_DivWord.mono _ _ _
   | exact nat_Norm.mono _ _
   | exact nat_Shr.mono _ _ _
   | exact nat_gives.mono _ _ _ _
   | exact nat_guess.mono _ _ _ _ _ _
   | exact nat_shifted.mono _ _ _
   | exact nat_takes.mono _ _ _ _ _
   | exact nat_trim.mono _ _
   | exact LeO.none _
   | refine LeO.ite ?_ ?_
   | refine LeO.bind ?_ (fun _ => ?_)
theorem nat_DivMod.mono : ∀ a0 a1 k, LeO (nat_DivMod.f k a0 a1) (nat_DivMod.f (k + 1) a0 a1) := by
 intro a0 a1 k
 have ih0 := nat_DivMod.mono_l k
 unfold nat_DivMod.f
 repeat' first
   | (with_reducible exact ih0 _ _ _ _ _ _)
   | (with_reducible exact bits_LeadingZeros64.mono _ _)
   | (with_reducible exact nat_Cmp.mono _ _ _)
   | (with_reducible exact nat_DivWord.mono _ _ _)
   | (with_reducible exact nat_Norm.mono _ _)
   | (with_reducible exact nat_Shr.mono _ _ _)
   | (with_reducible exact nat_gives.mono _ _ _ _)
   | (with_reducible exact nat_guess.mono _ _ _ _ _ _)
   | (with_reducible exact nat_shifted.mono _ _ _)
   | (with_reducible exact nat_takes.mono _ _ _ _ _)
   | (with_reducible exact nat_trim.mono _ _)
   | (with_reducible exact LeO.refl _)
   | (with_reducible exact LeO.none _)
   | (with_reducible refine LeO.ite ?_ ?_)
   | (with_reducible refine LeO.bind ?_ (fun _ => ?_))
   | exact ih0 _ _ _ _ _ _
   | exact bits_LeadingZeros64.mono _ _
   | exact nat_Cmp.mono _ _ _
   | exact nat_DivWord.mono _ _ _
   | exact nat_Norm.mono _ _
   | exact nat_Shr.mono _ _ _
   | exact nat_gives.mono _ _ _ _
   | exact nat_guess.mono _ _ _ _ _ _
   | exact nat_shifted.mono _ _ _
   | exact nat_takes.mono _ _ _ _ _
   | exact nat_trim.mono _ _
   | exact LeO.none _
   | refine LeO.ite ?_ ?_
   | refine LeO.bind ?_ (fun _ => ?_)
def nat_DivMod.T16 : Bool × List (List Nat × List Nat) := (true, [([], []), ([], []), ([], []), ([1, 2], [1, 2]), ([0, 3], [0, 3]), ([4], [4]), ([], []), ([], []), ([], []), ([7, 8], [7, 8]), ([9], [9]), ([6, 10], [6, 10]), ([11], [11]), ([], []), ([], []), ([], []), ([14, 15], [14, 15]), ([16], [16]), ([13, 17], [13, 17]), ([18], [18]), ([], []), ([], []), ([21], [21]), ([20, 22], [20, 22]), ([23], [23]), ([], []), ([], []), ([26], [26]), ([25, 27], [25, 27]), ([28], [28]), ([5, 12, 19, 24, 29], [5, 12, 19, 24, 29]), ([30, 30, 0, 1, 2, 3, 4, 5, 6, 7, 8, 9, 10, 11, 12, 13, 14, 15, 16, 17, 18, 19, 20, 21, 22, 23, 24, 25, 26, 27, 28, 29, 30], [30])])
def nat_DivMod.B16 : List Nat := [0, 0, 0, 6, 15, 31, 0, 0, 0, 384, 896, 1984, 4032, 0, 0, 0, 49152, 114688, 253952, 516096, 0, 0, 2097152, 7340032, 15728640, 0, 0, 67108864, 234881024, 503316480, 1073741823, 2147483647]
theorem nat_DivMod.tab16 : rtab .any (opsOf Tryd.f16 16) = nat_DivMod.T16 := by kernel_rfl
theorem nat_DivMod.bits16 : waitsOk nat_DivMod.T16.2 nat_DivMod.B16 = true := by kernel_rfl
set_option maxHeartbeats 8000000 in
set_option maxRecDepth 100000 in
theorem nat_DivMod.calls (k : Nat) (P0_ : Nat → Prop) (A0 : Option Addr) (c0 : Nat) (l0 : List Int) (P1_ : Nat → Prop) (A1 : Option Addr) (c1 : Nat) (l1 : List Int) (r1 : List Int) (r2 : List Int) (r3 : Int) (w : World) (hs0 : Kd.V (Kd.int .u64) 24 w w.heap.size (fun k_ => P0_ k_) (.slice A0 l0.length c0) l0) (hs1 : Kd.V (Kd.int .u64) 24 w w.heap.size (fun k_ => P1_ k_) (.slice A1 l1.length c1) l1) (h : nat_DivMod.f k l0 l1 = some (r1, r2, r3)) :
  Calls Tryd.prog 16 #[.slice A0 l0.length c0, .slice A1 l1.length c1] w fun e w' => ∃ v0_ v1_ : Value, e = .returned (.tuple #[v0_, v1_, .int .i64 r3]) ∧ Kd.V (Kd.int .u64) 24 w' w.heap.size (fun k_ => ((P0_ k_ ∨ P1_ k_) ∨ w.heap.size ≤ k_)) v0_ r1 ∧ Kd.V (Kd.int .u64) 24 w' w.heap.size (fun k_ => ((P0_ k_ ∨ P1_ k_) ∨ w.heap.size ≤ k_)) v1_ r2 ∧ Below w.heap.size w w' := by
 have HO0 := Aside0.mk (show Kd.V (Kd.int .u64) 24 w w.heap.size (fun k_ => ((P0_ k_ ∨ P1_ k_) ∨ w.heap.size ≤ k_)) (.slice A0 l0.length c0) l0 from Kd.V_mono hs0 (fun k_ hk => .inl (.inl hk)))
 have HO1 := Aside0.mk (show Kd.V (Kd.int .u64) 24 w w.heap.size (fun k_ => ((P0_ k_ ∨ P1_ k_) ∨ w.heap.size ≤ k_)) (.slice A1 l1.length c1) l1 from Kd.V_mono hs1 (fun k_ hk => .inl (.inr hk)))
 have HB := Aside0.mk (Below.refl w.heap.size w)
 have H : ((nat_trim.f k l0).bind fun t179 => ((nat_trim.f k l1).bind fun t182 => (if (t182.length : Int) = 0 then (some (([] : List Int), ([] : List Int), 10)) else ((nat_Cmp.f k t179 t182).bind fun t185 => (if t185 < 0 then ((nat_Norm.f k t179).bind fun t186 => (some (([] : List Int), t186, 0))) else (if (t182.length : Int) = 1 then (if 0 < (t182.length : Int) then ((nat_DivWord.f k t179 (rd t182 0)).bind fun bt190 => ((nat_Norm.f k (([bt190.2.1] : List Int))).bind fun t198 => (some (bt190.1, t198, bt190.2.2)))) else (none)) else (if 0 ≤ (wrap64 ((t182.length : Int) - 1)) then (if (wrap64 ((t182.length : Int) - 1)) < (t182.length : Int) then ((bits_LeadingZeros64.f k (rd t182 (wrap64 ((t182.length : Int) - 1)))).bind fun t202 => ((nat_shifted.f k t179 (IntKind.u64.wrap (t202))).bind fun t203 => ((nat_shifted.f k t182 (IntKind.u64.wrap (t202))).bind fun t206 => ((nat_trim.f k t206).bind fun t209 => (if 0 ≤ (wrap64 ((t203.length : Int) - (t209.length : Int))) then (if (wrap64 ((t203.length : Int) - (t209.length : Int)) : Int).toNat ≤ 35184372088832 then ((some (List.replicate (wrap64 ((t203.length : Int) - (t209.length : Int)) : Int).toNat 0 : List Int)).bind fun y212 => (nat_DivMod.l0 k (IntKind.u64.wrap (t202)) t203 t209 (t209.length : Int) y212 (wrap64 ((y212.length : Int) - 1)))) else (none)) else (none)))))) else (none)) else (none)))))))) = some (r1, r2, r3) := h
 clear h
 replace H := Option.bind_eq_some_iff.mp H
 obtain ⟨t179, A30, H⟩ := H
 replace H : ((nat_trim.f k l1).bind fun t182 => (if (t182.length : Int) = 0 then (some (([] : List Int), ([] : List Int), 10)) else ((nat_Cmp.f k t179 t182).bind fun t185 => (if t185 < 0 then ((nat_Norm.f k t179).bind fun t186 => (some (([] : List Int), t186, 0))) else (if (t182.length : Int) = 1 then (if 0 < (t182.length : Int) then ((nat_DivWord.f k t179 (rd t182 0)).bind fun bt190 => ((nat_Norm.f k (([bt190.2.1] : List Int))).bind fun t198 => (some (bt190.1, t198, bt190.2.2)))) else (none)) else (if 0 ≤ (wrap64 ((t182.length : Int) - 1)) then (if (wrap64 ((t182.length : Int) - 1)) < (t182.length : Int) then ((bits_LeadingZeros64.f k (rd t182 (wrap64 ((t182.length : Int) - 1)))).bind fun t202 => ((nat_shifted.f k t179 (IntKind.u64.wrap (t202))).bind fun t203 => ((nat_shifted.f k t182 (IntKind.u64.wrap (t202))).bind fun t206 => ((nat_trim.f k t206).bind fun t209 => (if 0 ≤ (wrap64 ((t203.length : Int) - (t209.length : Int))) then (if (wrap64 ((t203.length : Int) - (t209.length : Int)) : Int).toNat ≤ 35184372088832 then ((some (List.replicate (wrap64 ((t203.length : Int) - (t209.length : Int)) : Int).toNat 0 : List Int)).bind fun y212 => (nat_DivMod.l0 k (IntKind.u64.wrap (t202)) t203 t209 (t209.length : Int) y212 (wrap64 ((y212.length : Int) - 1)))) else (none)) else (none)))))) else (none)) else (none))))))) = some (r1, r2, r3) := H
 have A3 := Aside0.mk A30
 clear A30
 replace H := Option.bind_eq_some_iff.mp H
 obtain ⟨t182, A40, H⟩ := H
 replace H : (if (t182.length : Int) = 0 then (some (([] : List Int), ([] : List Int), 10)) else ((nat_Cmp.f k t179 t182).bind fun t185 => (if t185 < 0 then ((nat_Norm.f k t179).bind fun t186 => (some (([] : List Int), t186, 0))) else (if (t182.length : Int) = 1 then (if 0 < (t182.length : Int) then ((nat_DivWord.f k t179 (rd t182 0)).bind fun bt190 => ((nat_Norm.f k (([bt190.2.1] : List Int))).bind fun t198 => (some (bt190.1, t198, bt190.2.2)))) else (none)) else (if 0 ≤ (wrap64 ((t182.length : Int) - 1)) then (if (wrap64 ((t182.length : Int) - 1)) < (t182.length : Int) then ((bits_LeadingZeros64.f k (rd t182 (wrap64 ((t182.length : Int) - 1)))).bind fun t202 => ((nat_shifted.f k t179 (IntKind.u64.wrap (t202))).bind fun t203 => ((nat_shifted.f k t182 (IntKind.u64.wrap (t202))).bind fun t206 => ((nat_trim.f k t206).bind fun t209 => (if 0 ≤ (wrap64 ((t203.length : Int) - (t209.length : Int))) then (if (wrap64 ((t203.length : Int) - (t209.length : Int)) : Int).toNat ≤ 35184372088832 then ((some (List.replicate (wrap64 ((t203.length : Int) - (t209.length : Int)) : Int).toNat 0 : List Int)).bind fun y212 => (nat_DivMod.l0 k (IntKind.u64.wrap (t202)) t203 t209 (t209.length : Int) y212 (wrap64 ((y212.length : Int) - 1)))) else (none)) else (none)))))) else (none)) else (none)))))) = some (r1, r2, r3) := H
 have A4 := Aside0.mk A40
 clear A40
 by_cases c5 : (t182.length : Int) = 0
 ·rw [if_pos c5] at H
  have c5b0 : ((t182.length : Int) == 0) = true := beq_iff_eq.mpr c5
  have c5b1 : ((t182.length : Int) != 0) = false := bne_eq_false_iff_eq.mpr c5
  clear c5
  simp only [Option.some.injEq, Prod.mk.injEq] at H
  obtain ⟨rfl, rfl, rfl⟩ := H
  go_enter Tryd.func16, Tryd.ntmps16
  go_wp2_with (first | ((with_reducible refine gate_callee (f := 42) rfl ?_); refine goesL_ (some 20) rfl rfl Tryd.func42 (by kernel_rfl) rfl #[.slice A0 l0.length c0] rfl (by (try simp only [List.map_toArray, List.map_cons, List.map_nil]); first | done | rfl | (simp only [List.length_drop, List.length_take]; rfl)) ?_; (with_reducible refine (nat_trim.calls k (fun k_ => ((P0_ k_ ∨ P1_ k_) ∨ w.heap.size ≤ k_)) _ _ l0 t179 _ ?side1 A3.out).mono ?_); (case side1 => exact HO0.out); rintro e w6 ⟨v180, rfl, ho0, hb⟩; refine ⟨_, rfl, ?_⟩; have n0_ := Aside0.mk (Kd.V_below (by (with_reducible repeat (first | apply Kd.V_alloc | apply Kd.V_drewN | apply Kd.V_drew)); exact HO0.out) hb); have n1_ := Aside0.mk (Kd.V_below (by (with_reducible repeat (first | apply Kd.V_alloc | apply Kd.V_drewN | apply Kd.V_drew)); exact HO1.out) hb); have n2_ := Aside0.mk (Kd.V_lower (Kd.V_mono (ok' := fun k_ => ((P0_ k_ ∨ P1_ k_) ∨ w.heap.size ≤ k_)) ho0 (fun k_ hk_ => Or.elim hk_ (fun hs_ => hs_) (fun hn_ => (.inr (Nat.le_trans (below_size (by repeat (first | (with_reducible first | exact HB.out | apply below_alloc | apply pw_below_drewN | apply below_drew1) | exact HB.out))) hn_))))) (below_size (by repeat (first | (with_reducible first | exact HB.out | apply below_alloc | apply pw_below_drewN | apply below_drew1) | exact HB.out)))); have n3_ := Aside0.mk (below_step (by repeat (first | (with_reducible first | exact HB.out | apply below_alloc | apply pw_below_drewN | apply below_drew1) | exact HB.out)) hb); clear HO0; clear HO1; clear HB; have HO0 := n0_; have HO1 := n1_; have HO181 := n2_; have HB := n3_; clear n0_ n1_ n2_ n3_; (try clear hb); (try clear hb2); (try clear hk); (try clear hi); (try clear ho0)) | ((with_reducible refine gate_callee (f := 42) rfl ?_); refine goesL_ (some 22) rfl rfl Tryd.func42 (by kernel_rfl) rfl #[.slice A1 l1.length c1] rfl (by (try simp only [List.map_toArray, List.map_cons, List.map_nil]); first | done | rfl | (simp only [List.length_drop, List.length_take]; rfl)) ?_; (with_reducible refine (nat_trim.calls k (fun k_ => ((P0_ k_ ∨ P1_ k_) ∨ w.heap.size ≤ k_)) _ _ l1 t182 _ ?side1 A4.out).mono ?_); (case side1 => exact HO1.out); rintro e w7 ⟨v183, rfl, ho0, hb⟩; refine ⟨_, rfl, ?_⟩; have n0_ := Aside0.mk (Kd.V_below (by (with_reducible repeat (first | apply Kd.V_alloc | apply Kd.V_drewN | apply Kd.V_drew)); exact HO0.out) hb); have n1_ := Aside0.mk (Kd.V_below (by (with_reducible repeat (first | apply Kd.V_alloc | apply Kd.V_drewN | apply Kd.V_drew)); exact HO1.out) hb); have n2_ := Aside0.mk (Kd.V_below (by (with_reducible repeat (first | apply Kd.V_alloc | apply Kd.V_drewN | apply Kd.V_drew)); exact HO181.out) hb); have n3_ := Aside0.mk (Kd.V_lower (Kd.V_mono (ok' := fun k_ => ((P0_ k_ ∨ P1_ k_) ∨ w.heap.size ≤ k_)) ho0 (fun k_ hk_ => Or.elim hk_ (fun hs_ => hs_) (fun hn_ => (.inr (Nat.le_trans (below_size (by repeat (first | (with_reducible first | exact HB.out | apply below_alloc | apply pw_below_drewN | apply below_drew1) | exact HB.out))) hn_))))) (below_size (by repeat (first | (with_reducible first | exact HB.out | apply below_alloc | apply pw_below_drewN | apply below_drew1) | exact HB.out)))); have n4_ := Aside0.mk (below_step (by repeat (first | (with_reducible first | exact HB.out | apply below_alloc | apply pw_below_drewN | apply below_drew1) | exact HB.out)) hb); clear HO0; clear HO1; clear HO181; clear HB; have HO0 := n0_; have HO1 := n1_; have HO181 := n2_; have HO184 := n3_; have HB := n4_; clear n0_ n1_ n2_ n3_ n4_; (try clear hb); (try clear hb2); (try clear hk); (try clear hi); (try clear ho0); obtain ⟨Ao8, co8, eo8⟩ := Kd.V_slice HO184.out; subst eo8))
  go_ret3
  exact ⟨_, _, by first | rfl | (simp [errW_none, errW_some] <;> rfl) | (simp [*, errW_none, errW_some] <;> rfl), (by exact Kd.V_nil _ _ _ _ _), (by exact Kd.V_nil _ _ _ _ _), by repeat (first | (with_reducible first | exact HB.out | apply below_alloc | apply pw_below_drewN | apply below_drew1) | exact HB.out)⟩
 rw [if_neg c5] at H
 have c5b0 : ((t182.length : Int) == 0) = false := beq_eq_false_iff_ne.mpr c5
 have c5b1 : ((t182.length : Int) != 0) = true := bne_iff_ne.mpr c5
 have c5b2 : ¬ (t182 = []) := fun h_ => c5 (by rw [h_]; rfl)
 replace H := Option.bind_eq_some_iff.mp H
 obtain ⟨t185, A90, H⟩ := H
 replace H : (if t185 < 0 then ((nat_Norm.f k t179).bind fun t186 => (some (([] : List Int), t186, 0))) else (if (t182.length : Int) = 1 then (if 0 < (t182.length : Int) then ((nat_DivWord.f k t179 (rd t182 0)).bind fun bt190 => ((nat_Norm.f k (([bt190.2.1] : List Int))).bind fun t198 => (some (bt190.1, t198, bt190.2.2)))) else (none)) else (if 0 ≤ (wrap64 ((t182.length : Int) - 1)) then (if (wrap64 ((t182.length : Int) - 1)) < (t182.length : Int) then ((bits_LeadingZeros64.f k (rd t182 (wrap64 ((t182.length : Int) - 1)))).bind fun t202 => ((nat_shifted.f k t179 (IntKind.u64.wrap (t202))).bind fun t203 => ((nat_shifted.f k t182 (IntKind.u64.wrap (t202))).bind fun t206 => ((nat_trim.f k t206).bind fun t209 => (if 0 ≤ (wrap64 ((t203.length : Int) - (t209.length : Int))) then (if (wrap64 ((t203.length : Int) - (t209.length : Int)) : Int).toNat ≤ 35184372088832 then ((some (List.replicate (wrap64 ((t203.length : Int) - (t209.length : Int)) : Int).toNat 0 : List Int)).bind fun y212 => (nat_DivMod.l0 k (IntKind.u64.wrap (t202)) t203 t209 (t209.length : Int) y212 (wrap64 ((y212.length : Int) - 1)))) else (none)) else (none)))))) else (none)) else (none)))) = some (r1, r2, r3) := H
 have A9 := Aside0.mk A90
 clear A90
 by_cases c10 : t185 < 0
 ·rw [if_pos c10] at H
  have c10b0 : decide (t185 < 0) = true := decide_eq_true c10
  clear c10
  replace H := Option.bind_eq_some_iff.mp H
  obtain ⟨t186, A110, H⟩ := H
  replace H : (some (([] : List Int), t186, 0)) = some (r1, r2, r3) := H
  have A11 := Aside0.mk A110
  clear A110
  simp only [Option.some.injEq, Prod.mk.injEq] at H
  obtain ⟨rfl, rfl, rfl⟩ := H
  go_enter Tryd.func16, Tryd.ntmps16
  go_wp2_with (first | ((with_reducible refine gate_callee (f := 42) rfl ?_); refine goesL_ (some 20) rfl rfl Tryd.func42 (by kernel_rfl) rfl #[.slice A0 l0.length c0] rfl (by (try simp only [List.map_toArray, List.map_cons, List.map_nil]); first | done | rfl | (simp only [List.length_drop, List.length_take]; rfl)) ?_; (with_reducible refine (nat_trim.calls k (fun k_ => ((P0_ k_ ∨ P1_ k_) ∨ w.heap.size ≤ k_)) _ _ l0 t179 _ ?side1 A3.out).mono ?_); (case side1 => exact HO0.out); rintro e w12 ⟨v180, rfl, ho0, hb⟩; refine ⟨_, rfl, ?_⟩; have n0_ := Aside0.mk (Kd.V_below (by (with_reducible repeat (first | apply Kd.V_alloc | apply Kd.V_drewN | apply Kd.V_drew)); exact HO0.out) hb); have n1_ := Aside0.mk (Kd.V_below (by (with_reducible repeat (first | apply Kd.V_alloc | apply Kd.V_drewN | apply Kd.V_drew)); exact HO1.out) hb); have n2_ := Aside0.mk (Kd.V_lower (Kd.V_mono (ok' := fun k_ => ((P0_ k_ ∨ P1_ k_) ∨ w.heap.size ≤ k_)) ho0 (fun k_ hk_ => Or.elim hk_ (fun hs_ => hs_) (fun hn_ => (.inr (Nat.le_trans (below_size (by repeat (first | (with_reducible first | exact HB.out | apply below_alloc | apply pw_below_drewN | apply below_drew1) | exact HB.out))) hn_))))) (below_size (by repeat (first | (with_reducible first | exact HB.out | apply below_alloc | apply pw_below_drewN | apply below_drew1) | exact HB.out)))); have n3_ := Aside0.mk (below_step (by repeat (first | (with_reducible first | exact HB.out | apply below_alloc | apply pw_below_drewN | apply below_drew1) | exact HB.out)) hb); clear HO0; clear HO1; clear HB; have HO0 := n0_; have HO1 := n1_; have HO181 := n2_; have HB := n3_; clear n0_ n1_ n2_ n3_; (try clear hb); (try clear hb2); (try clear hk); (try clear hi); (try clear ho0)) | ((with_reducible refine gate_callee (f := 42) rfl ?_); refine goesL_ (some 22) rfl rfl Tryd.func42 (by kernel_rfl) rfl #[.slice A1 l1.length c1] rfl (by (try simp only [List.map_toArray, List.map_cons, List.map_nil]); first | done | rfl | (simp only [List.length_drop, List.length_take]; rfl)) ?_; (with_reducible refine (nat_trim.calls k (fun k_ => ((P0_ k_ ∨ P1_ k_) ∨ w.heap.size ≤ k_)) _ _ l1 t182 _ ?side1 A4.out).mono ?_); (case side1 => exact HO1.out); rintro e w13 ⟨v183, rfl, ho0, hb⟩; refine ⟨_, rfl, ?_⟩; have n0_ := Aside0.mk (Kd.V_below (by (with_reducible repeat (first | apply Kd.V_alloc | apply Kd.V_drewN | apply Kd.V_drew)); exact HO0.out) hb); have n1_ := Aside0.mk (Kd.V_below (by (with_reducible repeat (first | apply Kd.V_alloc | apply Kd.V_drewN | apply Kd.V_drew)); exact HO1.out) hb); have n2_ := Aside0.mk (Kd.V_below (by (with_reducible repeat (first | apply Kd.V_alloc | apply Kd.V_drewN | apply Kd.V_drew)); exact HO181.out) hb); have n3_ := Aside0.mk (Kd.V_lower (Kd.V_mono (ok' := fun k_ => ((P0_ k_ ∨ P1_ k_) ∨ w.heap.size ≤ k_)) ho0 (fun k_ hk_ => Or.elim hk_ (fun hs_ => hs_) (fun hn_ => (.inr (Nat.le_trans (below_size (by repeat (first | (with_reducible first | exact HB.out | apply below_alloc | apply pw_below_drewN | apply below_drew1) | exact HB.out))) hn_))))) (below_size (by repeat (first | (with_reducible first | exact HB.out | apply below_alloc | apply pw_below_drewN | apply below_drew1) | exact HB.out)))); have n4_ := Aside0.mk (below_step (by repeat (first | (with_reducible first | exact HB.out | apply below_alloc | apply pw_below_drewN | apply below_drew1) | exact HB.out)) hb); clear HO0; clear HO1; clear HO181; clear HB; have HO0 := n0_; have HO1 := n1_; have HO181 := n2_; have HO184 := n3_; have HB := n4_; clear n0_ n1_ n2_ n3_ n4_; (try clear hb); (try clear hb2); (try clear hk); (try clear hi); (try clear ho0); obtain ⟨Ao14, co14, eo14⟩ := Kd.V_slice HO184.out; subst eo14; obtain ⟨Ao15, co15, eo15⟩ := Kd.V_slice HO181.out; subst eo15) | ((with_reducible refine gate_callee (f := 24) rfl ?_); refine goesL_ (some 30) rfl rfl Tryd.func24 (by kernel_rfl) rfl #[.slice Ao15 t179.length co15, .slice Ao14 t182.length co14] rfl (by (try simp only [List.map_toArray, List.map_cons, List.map_nil]); first | done | rfl | (simp only [List.length_drop, List.length_take]; rfl)) ?_; (with_reducible refine (nat_Cmp.calls k _ _ t179 _ _ t182 t185 _ ?side1 ?side2 ?side3 ?side4 A9.out).mono ?_); (case side1 => repeat (first | exact (Kd.V_reads' HO181.out).2.2 | (with_reducible refine Kd.C_alloc ?_ _) | (with_reducible refine Kd.C_drewN ?_ _) | (with_reducible refine Kd.C_drew ?_))); (case side2 => exact (Kd.V_reads' HO181.out).2.1); (case side3 => repeat (first | exact (Kd.V_reads' HO184.out).2.2 | (with_reducible refine Kd.C_alloc ?_ _) | (with_reducible refine Kd.C_drewN ?_ _) | (with_reducible refine Kd.C_drew ?_))); (case side4 => exact (Kd.V_reads' HO184.out).2.1); rintro e w16 ⟨rfl, hb⟩; refine ⟨_, rfl, ?_⟩; have n0_ := Aside0.mk (Kd.V_below (by (with_reducible repeat (first | apply Kd.V_alloc | apply Kd.V_drewN | apply Kd.V_drew)); exact HO0.out) hb); have n1_ := Aside0.mk (Kd.V_below (by (with_reducible repeat (first | apply Kd.V_alloc | apply Kd.V_drewN | apply Kd.V_drew)); exact HO1.out) hb); have n2_ := Aside0.mk (Kd.V_below (by (with_reducible repeat (first | apply Kd.V_alloc | apply Kd.V_drewN | apply Kd.V_drew)); exact HO181.out) hb); have n3_ := Aside0.mk (Kd.V_below (by (with_reducible repeat (first | apply Kd.V_alloc | apply Kd.V_drewN | apply Kd.V_drew)); exact HO184.out) hb); have n4_ := Aside0.mk (below_step (by repeat (first | (with_reducible first | exact HB.out | apply below_alloc | apply pw_below_drewN | apply below_drew1) | exact HB.out)) hb); clear HO0; clear HO1; clear HO181; clear HO184; clear HB; have HO0 := n0_; have HO1 := n1_; have HO181 := n2_; have HO184 := n3_; have HB := n4_; clear n0_ n1_ n2_ n3_ n4_; (try clear hb); (try clear hb2); (try clear hk); (try clear hi)) | ((with_reducible refine gate_callee (f := 29) rfl ?_); refine goesL_ (some 33) rfl rfl Tryd.func29 (by kernel_rfl) rfl #[.slice Ao15 t179.length co15] rfl (by (try simp only [List.map_toArray, List.map_cons, List.map_nil]); first | done | rfl | (simp only [List.length_drop, List.length_take]; rfl)) ?_; (with_reducible refine (nat_Norm.calls k _ _ t179 t186 _ ?side1 ?side2 A11.out).mono ?_); (case side1 => repeat (first | exact (Kd.V_reads' HO181.out).2.2 | (with_reducible refine Kd.C_alloc ?_ _) | (with_reducible refine Kd.C_drewN ?_ _) | (with_reducible refine Kd.C_drew ?_))); (case side2 => exact (Kd.V_reads' HO181.out).2.1); rintro e w17 ⟨v187, rfl, ho0, hb⟩; refine ⟨_, rfl, ?_⟩; have n0_ := Aside0.mk (Kd.V_elder' (by (with_reducible repeat (first | apply Kd.V_alloc | apply Kd.V_drewN | apply Kd.V_drew)); exact HO0.out) (Kd.R_base ho0) hb); have n1_ := Aside0.mk (Kd.V_elder' (by (with_reducible repeat (first | apply Kd.V_alloc | apply Kd.V_drewN | apply Kd.V_drew)); exact HO1.out) (Kd.R_base ho0) hb); have n2_ := Aside0.mk (Kd.V_elder' (by (with_reducible repeat (first | apply Kd.V_alloc | apply Kd.V_drewN | apply Kd.V_drew)); exact HO181.out) (Kd.R_base ho0) hb); have n3_ := Aside0.mk (Kd.V_elder' (by (with_reducible repeat (first | apply Kd.V_alloc | apply Kd.V_drewN | apply Kd.V_drew)); exact HO184.out) (Kd.R_base ho0) hb); have n4_ := Aside0.mk (Kd.R_lower (Kd.R_newM (M := fun k_ => (w.heap.size ≤ k_)) ho0 (below_size (by repeat (first | (with_reducible first | exact HB.out | apply below_alloc | apply pw_below_drewN | apply below_drew1) | exact HB.out))) (fun k_ h_ => h_)) (below_size (by repeat (first | (with_reducible first | exact HB.out | apply below_alloc | apply pw_below_drewN | apply below_drew1) | exact HB.out)))); have n5_ := Aside0.mk (below_step (by repeat (first | (with_reducible first | exact HB.out | apply below_alloc | apply pw_below_drewN | apply below_drew1) | exact HB.out)) hb); clear HO0; clear HO1; clear HO181; clear HO184; clear HB; have HO0 := n0_; have HO1 := n1_; have HO181 := n2_; have HO184 := n3_; have HO188 := n4_; have HB := n5_; clear n0_ n1_ n2_ n3_ n4_ n5_; (try clear hb); (try clear hb2); (try clear hk); (try clear hi); (try clear ho0)))
  go_ret3
  exact ⟨_, _, by first | rfl | (simp [errW_none, errW_some] <;> rfl) | (simp [*, errW_none, errW_some] <;> rfl), (by exact Kd.V_nil _ _ _ _ _), Kd.V_mono (Kd.R_V (by (with_reducible repeat (first | apply Kd.R_alloc | apply Kd.R_drewN | apply Kd.R_drew)); exact Kd.R_mono HO188.out (fun _ hk => hk.1))) (fun k_ hk => by first | exact ⟨(.inr (hk.1)), hk.2⟩ | exact (.inr (hk))), by repeat (first | (with_reducible first | exact HB.out | apply below_alloc | apply pw_below_drewN | apply below_drew1) | exact HB.out)⟩
 rw [if_neg c10] at H
 have c10b0 : decide (t185 < 0) = false := decide_eq_false c10
 clear c10
 by_cases c18 : (t182.length : Int) = 1
 ·rw [if_pos c18] at H
  have c18b0 : ((t182.length : Int) == 1) = true := beq_iff_eq.mpr c18
  have c18b1 : ((t182.length : Int) != 1) = false := bne_eq_false_iff_eq.mpr c18
  clear c18
  by_cases c19 : 0 < (t182.length : Int)
  ·rw [if_pos c19] at H
   have c19b0 : decide (0 < (t182.length : Int)) = true := decide_eq_true c19
   have c19b1 : decide (0 < t182.length) = true := decide_eq_true (by omega)
   clear c19
   replace H := Option.bind_eq_some_iff.mp H
   obtain ⟨⟨t190, t193, t194⟩, A200, H⟩ := H
   replace H : ((nat_Norm.f k (([t193] : List Int))).bind fun t198 => (some (t190, t198, t194))) = some (r1, r2, r3) := H
   have A20 := Aside0.mk A200
   clear A200
   obtain ⟨y195, hy195⟩ : ∃ y_ : List Int, y_ = (([t193] : List Int)) := ⟨_, rfl⟩
   replace H : ((nat_Norm.f k y195).bind fun t198 => (some (t190, t198, t194))) = some (r1, r2, r3) := by first | (rw [hy195]; with_reducible exact H) | (have H2_ := (Option.bind_some _ _).symm.trans H; rw [hy195]; with_reducible exact H2_) | (have H2_ := (Option.bind_some _ _).symm.trans H; with_reducible exact H2_) | with_reducible exact H | (rw [hy195]; exact H) | exact H
   have Ny195 := Aside0.mk hy195
   clear hy195
   replace H := Option.bind_eq_some_iff.mp H
   obtain ⟨t198, A210, H⟩ := H
   replace H : (some (t190, t198, t194)) = some (r1, r2, r3) := H
   have A21 := Aside0.mk A210
   clear A210
   simp only [Option.some.injEq, Prod.mk.injEq] at H
   obtain ⟨rfl, rfl, rfl⟩ := H
   go_enter Tryd.func16, Tryd.ntmps16
   go_wp2_with (first | ((with_reducible refine gate_callee (f := 42) rfl ?_); refine goesL_ (some 20) rfl rfl Tryd.func42 (by kernel_rfl) rfl #[.slice A0 l0.length c0] rfl (by (try simp only [List.map_toArray, List.map_cons, List.map_nil]); first | done | rfl | (simp only [List.length_drop, List.length_take]; rfl)) ?_; (with_reducible refine (nat_trim.calls k (fun k_ => ((P0_ k_ ∨ P1_ k_) ∨ w.heap.size ≤ k_)) _ _ l0 t179 _ ?side1 A3.out).mono ?_); (case side1 => exact HO0.out); rintro e w22 ⟨v180, rfl, ho0, hb⟩; refine ⟨_, rfl, ?_⟩; have n0_ := Aside0.mk (Kd.V_below (by (with_reducible repeat (first | apply Kd.V_alloc | apply Kd.V_drewN | apply Kd.V_drew)); exact HO0.out) hb); have n1_ := Aside0.mk (Kd.V_below (by (with_reducible repeat (first | apply Kd.V_alloc | apply Kd.V_drewN | apply Kd.V_drew)); exact HO1.out) hb); have n2_ := Aside0.mk (Kd.V_lower (Kd.V_mono (ok' := fun k_ => ((P0_ k_ ∨ P1_ k_) ∨ w.heap.size ≤ k_)) ho0 (fun k_ hk_ => Or.elim hk_ (fun hs_ => hs_) (fun hn_ => (.inr (Nat.le_trans (below_size (by repeat (first | (with_reducible first | exact HB.out | apply below_alloc | apply pw_below_drewN | apply below_drew1) | exact HB.out))) hn_))))) (below_size (by repeat (first | (with_reducible first | exact HB.out | apply below_alloc | apply pw_below_drewN | apply below_drew1) | exact HB.out)))); have n3_ := Aside0.mk (below_step (by repeat (first | (with_reducible first | exact HB.out | apply below_alloc | apply pw_below_drewN | apply below_drew1) | exact HB.out)) hb); clear HO0; clear HO1; clear HB; have HO0 := n0_; have HO1 := n1_; have HO181 := n2_; have HB := n3_; clear n0_ n1_ n2_ n3_; (try clear hb); (try clear hb2); (try clear hk); (try clear hi); (try clear ho0)) | ((with_reducible refine gate_callee (f := 42) rfl ?_); refine goesL_ (some 22) rfl rfl Tryd.func42 (by kernel_rfl) rfl #[.slice A1 l1.length c1] rfl (by (try simp only [List.map_toArray, List.map_cons, List.map_nil]); first | done | rfl | (simp only [List.length_drop, List.length_take]; rfl)) ?_; (with_reducible refine (nat_trim.calls k (fun k_ => ((P0_ k_ ∨ P1_ k_) ∨ w.heap.size ≤ k_)) _ _ l1 t182 _ ?side1 A4.out).mono ?_); (case side1 => exact HO1.out); rintro e w23 ⟨v183, rfl, ho0, hb⟩; refine ⟨_, rfl, ?_⟩; have n0_ := Aside0.mk (Kd.V_below (by (with_reducible repeat (first | apply Kd.V_alloc | apply Kd.V_drewN | apply Kd.V_drew)); exact HO0.out) hb); have n1_ := Aside0.mk (Kd.V_below (by (with_reducible repeat (first | apply Kd.V_alloc | apply Kd.V_drewN | apply Kd.V_drew)); exact HO1.out) hb); have n2_ := Aside0.mk (Kd.V_below (by (with_reducible repeat (first | apply Kd.V_alloc | apply Kd.V_drewN | apply Kd.V_drew)); exact HO181.out) hb); have n3_ := Aside0.mk (Kd.V_lower (Kd.V_mono (ok' := fun k_ => ((P0_ k_ ∨ P1_ k_) ∨ w.heap.size ≤ k_)) ho0 (fun k_ hk_ => Or.elim hk_ (fun hs_ => hs_) (fun hn_ => (.inr (Nat.le_trans (below_size (by repeat (first | (with_reducible first | exact HB.out | apply below_alloc | apply pw_below_drewN | apply below_drew1) | exact HB.out))) hn_))))) (below_size (by repeat (first | (with_reducible first | exact HB.out | apply below_alloc | apply pw_below_drewN | apply below_drew1) | exact HB.out)))); have n4_ := Aside0.mk (below_step (by repeat (first | (with_reducible first | exact HB.out | apply below_alloc | apply pw_below_drewN | apply below_drew1) | exact HB.out)) hb); clear HO0; clear HO1; clear HO181; clear HB; have HO0 := n0_; have HO1 := n1_; have HO181 := n2_; have HO184 := n3_; have HB := n4_; clear n0_ n1_ n2_ n3_ n4_; (try clear hb); (try clear hb2); (try clear hk); (try clear hi); (try clear ho0); obtain ⟨Ao24, co24, eo24⟩ := Kd.V_slice HO184.out; subst eo24; obtain ⟨Ao25, co25, eo25⟩ := Kd.V_slice HO181.out; subst eo25) | ((with_reducible refine gate_callee (f := 24) rfl ?_); refine goesL_ (some 30) rfl rfl Tryd.func24 (by kernel_rfl) rfl #[.slice Ao25 t179.length co25, .slice Ao24 t182.length co24] rfl (by (try simp only [List.map_toArray, List.map_cons, List.map_nil]); first | done | rfl | (simp only [List.length_drop, List.length_take]; rfl)) ?_; (with_reducible refine (nat_Cmp.calls k _ _ t179 _ _ t182 t185 _ ?side1 ?side2 ?side3 ?side4 A9.out).mono ?_); (case side1 => repeat (first | exact (Kd.V_reads' HO181.out).2.2 | (with_reducible refine Kd.C_alloc ?_ _) | (with_reducible refine Kd.C_drewN ?_ _) | (with_reducible refine Kd.C_drew ?_))); (case side2 => exact (Kd.V_reads' HO181.out).2.1); (case side3 => repeat (first | exact (Kd.V_reads' HO184.out).2.2 | (with_reducible refine Kd.C_alloc ?_ _) | (with_reducible refine Kd.C_drewN ?_ _) | (with_reducible refine Kd.C_drew ?_))); (case side4 => exact (Kd.V_reads' HO184.out).2.1); rintro e w26 ⟨rfl, hb⟩; refine ⟨_, rfl, ?_⟩; have n0_ := Aside0.mk (Kd.V_below (by (with_reducible repeat (first | apply Kd.V_alloc | apply Kd.V_drewN | apply Kd.V_drew)); exact HO0.out) hb); have n1_ := Aside0.mk (Kd.V_below (by (with_reducible repeat (first | apply Kd.V_alloc | apply Kd.V_drewN | apply Kd.V_drew)); exact HO1.out) hb); have n2_ := Aside0.mk (Kd.V_below (by (with_reducible repeat (first | apply Kd.V_alloc | apply Kd.V_drewN | apply Kd.V_drew)); exact HO181.out) hb); have n3_ := Aside0.mk (Kd.V_below (by (with_reducible repeat (first | apply Kd.V_alloc | apply Kd.V_drewN | apply Kd.V_drew)); exact HO184.out) hb); have n4_ := Aside0.mk (below_step (by repeat (first | (with_reducible first | exact HB.out | apply below_alloc | apply pw_below_drewN | apply below_drew1) | exact HB.out)) hb); clear HO0; clear HO1; clear HO181; clear HO184; clear HB; have HO0 := n0_; have HO1 := n1_; have HO181 := n2_; have HO184 := n3_; have HB := n4_; clear n0_ n1_ n2_ n3_ n4_; (try clear hb); (try clear hb2); (try clear hk); (try clear hi); have p189 : 0 ≤ (0 : Int) := (by omega); have q189 : 0 < (t182.length : Int) := of_decide_eq_true (by first | (with_reducible assumption) | assumption); obtain ⟨ad189, e189, hx189_0⟩ := Kd.at_int (Kd.V_reads' HO184.out).2.2 0 p189 q189; cases e189; have qi189 : (0 < t182.length) = True := eq_true (by omega); (try rw [show ((0 : Int)).toNat = 0 from rfl] at hx189_0); (try rw [Addr.add_zero'] at hx189_0); replace p189 := eq_true p189; replace q189 := eq_true q189) | ((with_reducible refine gate_callee (f := 17) rfl ?_); refine goesL_ (some 43) rfl rfl Tryd.func17 (by kernel_rfl) rfl #[.slice Ao25 t179.length co25, .int .u64 (rd t182 0)] rfl (by (try simp only [List.map_toArray, List.map_cons, List.map_nil]); first | done | rfl | (simp only [List.length_drop, List.length_take]; rfl)) ?_; (with_reducible refine (nat_DivWord.calls k _ _ t179 (rd t182 0) t190 t193 t194 _ ?side1 ?side2 A20.out).mono ?_); (case side1 => repeat (first | exact (Kd.V_reads' HO181.out).2.2 | (with_reducible refine Kd.C_alloc ?_ _) | (with_reducible refine Kd.C_drewN ?_ _) | (with_reducible refine Kd.C_drew ?_))); (case side2 => exact (Kd.V_reads' HO181.out).2.1); rintro e w27 ⟨v191, rfl, ho0, hb⟩; refine ⟨_, rfl, ?_⟩; have n0_ := Aside0.mk (Kd.V_below (by (with_reducible repeat (first | apply Kd.V_alloc | apply Kd.V_drewN | apply Kd.V_drew)); exact HO0.out) hb); have n1_ := Aside0.mk (Kd.V_below (by (with_reducible repeat (first | apply Kd.V_alloc | apply Kd.V_drewN | apply Kd.V_drew)); exact HO1.out) hb); have n2_ := Aside0.mk (Kd.V_below (by (with_reducible repeat (first | apply Kd.V_alloc | apply Kd.V_drewN | apply Kd.V_drew)); exact HO181.out) hb); have n3_ := Aside0.mk (Kd.V_below (by (with_reducible repeat (first | apply Kd.V_alloc | apply Kd.V_drewN | apply Kd.V_drew)); exact HO184.out) hb); have n4_ := Aside0.mk (Kd.V_lower (Kd.V_mono (ok' := fun k_ => ((P0_ k_ ∨ P1_ k_) ∨ w.heap.size ≤ k_)) ho0 (fun k_ hk_ => (.inr (Nat.le_trans (below_size (by repeat (first | (with_reducible first | exact HB.out | apply below_alloc | apply pw_below_drewN | apply below_drew1) | exact HB.out))) hk_)))) (below_size (by repeat (first | (with_reducible first | exact HB.out | apply below_alloc | apply pw_below_drewN | apply below_drew1) | exact HB.out)))); have n5_ := Aside0.mk (below_step (by repeat (first | (with_reducible first | exact HB.out | apply below_alloc | apply pw_below_drewN | apply below_drew1) | exact HB.out)) hb); clear HO0; clear HO1; clear HO181; clear HO184; clear HB; have HO0 := n0_; have HO1 := n1_; have HO181 := n2_; have HO184 := n3_; have HO192 := n4_; have HB := n5_; clear n0_ n1_ n2_ n3_ n4_ n5_; (try clear hb); (try clear hb2); (try clear hk); (try clear hi); (try clear ho0)) | ((with_reducible refine gate_dst (N := 49) rfl ?_); refine Kd.R_lit (Kd.int .u64) _ 24 ?hg (N := 49) ?hd (xs := ([t193] : List Int)) (inner := [.int .u64 t193]) (ok := fun _ => True) (okp := fun _ => True) ?hr ?hp (fun _ hk => hk) trivial (Below.refl _ _) (Nat.le_refl _) (by simp) ?_; (case hd => rfl); (case hg => rfl); (case hr => first | (go_simp; done) | (go_simp; rfl)); (case hp => exact (Reps.one (show Kd.M (Kd.int .u64) _ _ _ t193 [.int .u64 t193] from rfl) (Reps.none _ _))); intro v196 w28 ho29 hb hg_ hnew_; clear hg_ hnew_; (first | rw [← Ny195.out] at ho29 | (simp only [Int.reduceToNat] at ho29; rw [← Ny195.out] at ho29)); have n0_ := Aside0.mk (Kd.V_elder' (by (with_reducible repeat (first | apply Kd.V_alloc | apply Kd.V_drewN | apply Kd.V_drew)); exact HO0.out) (Kd.R_base ho29) hb); have n1_ := Aside0.mk (Kd.V_elder' (by (with_reducible repeat (first | apply Kd.V_alloc | apply Kd.V_drewN | apply Kd.V_drew)); exact HO1.out) (Kd.R_base ho29) hb); have n2_ := Aside0.mk (Kd.V_elder' (by (with_reducible repeat (first | apply Kd.V_alloc | apply Kd.V_drewN | apply Kd.V_drew)); exact HO181.out) (Kd.R_base ho29) hb); have n3_ := Aside0.mk (Kd.V_elder' (by (with_reducible repeat (first | apply Kd.V_alloc | apply Kd.V_drewN | apply Kd.V_drew)); exact HO184.out) (Kd.R_base ho29) hb); have n4_ := Aside0.mk (Kd.V_elder' (by (with_reducible repeat (first | apply Kd.V_alloc | apply Kd.V_drewN | apply Kd.V_drew)); exact HO192.out) (Kd.R_base ho29) hb); have n5_ := Aside0.mk (Kd.R_lower (Kd.R_newM (M := fun k_ => (w.heap.size ≤ k_)) ho29 (below_size (by repeat (first | (with_reducible first | exact HB.out | apply below_alloc | apply pw_below_drewN | apply below_drew1) | exact HB.out))) (fun k_ h_ => h_)) (below_size (by repeat (first | (with_reducible first | exact HB.out | apply below_alloc | apply pw_below_drewN | apply below_drew1) | exact HB.out)))); have n6_ := Aside0.mk (below_step (by repeat (first | (with_reducible first | exact HB.out | apply below_alloc | apply pw_below_drewN | apply below_drew1) | exact HB.out)) hb); clear HO0; clear HO1; clear HO181; clear HO184; clear HO192; clear HB; have HO0 := n0_; have HO1 := n1_; have HO181 := n2_; have HO184 := n3_; have HO192 := n4_; have HO197 := n5_; have HB := n6_; clear n0_ n1_ n2_ n3_ n4_ n5_ n6_; clear hb ho29; obtain ⟨Ao30, co30, eo30⟩ := Kd.R_slice HO197.out; subst eo30) | ((with_reducible refine gate_callee (f := 29) rfl ?_); refine goesL_ (some 50) rfl rfl Tryd.func29 (by kernel_rfl) rfl #[.slice Ao30 y195.length co30] rfl (by (try simp only [List.map_toArray, List.map_cons, List.map_nil]); first | done | rfl | (simp only [List.length_drop, List.length_take]; rfl)) ?_; (with_reducible refine (nat_Norm.calls k _ _ y195 t198 _ ?side1 ?side2 A21.out).mono ?_); (case side1 => repeat (first | exact (Kd.R_reads' HO197.out).2.2 | (with_reducible refine Kd.C_alloc ?_ _) | (with_reducible refine Kd.C_drewN ?_ _) | (with_reducible refine Kd.C_drew ?_))); (case side2 => exact (Kd.R_reads' HO197.out).2.1); rintro e w31 ⟨v199, rfl, ho0, hb⟩; refine ⟨_, rfl, ?_⟩; have n0_ := Aside0.mk (Kd.V_elder' (by (with_reducible repeat (first | apply Kd.V_alloc | apply Kd.V_drewN | apply Kd.V_drew)); exact HO0.out) (Kd.R_base ho0) hb); have n1_ := Aside0.mk (Kd.V_elder' (by (with_reducible repeat (first | apply Kd.V_alloc | apply Kd.V_drewN | apply Kd.V_drew)); exact HO1.out) (Kd.R_base ho0) hb); have n2_ := Aside0.mk (Kd.V_elder' (by (with_reducible repeat (first | apply Kd.V_alloc | apply Kd.V_drewN | apply Kd.V_drew)); exact HO181.out) (Kd.R_base ho0) hb); have n3_ := Aside0.mk (Kd.V_elder' (by (with_reducible repeat (first | apply Kd.V_alloc | apply Kd.V_drewN | apply Kd.V_drew)); exact HO184.out) (Kd.R_base ho0) hb); have n4_ := Aside0.mk (Kd.V_elder' (by (with_reducible repeat (first | apply Kd.V_alloc | apply Kd.V_drewN | apply Kd.V_drew)); exact HO192.out) (Kd.R_base ho0) hb); have n5_ := Aside0.mk (Kd.R_elder' (by (with_reducible repeat (first | apply Kd.R_alloc | apply Kd.R_drewN | apply Kd.R_drew)); exact HO197.out) (Kd.R_base ho0) hb); have n6_ := Aside0.mk (Kd.R_lower (Kd.R_new' (Kd.R_newM (M := fun k_ => (w.heap.size ≤ k_)) ho0 (below_size (by repeat (first | (with_reducible first | exact HB.out | apply below_alloc | apply pw_below_drewN | apply below_drew1) | exact HB.out))) (fun k_ h_ => h_)) (Kd.R_lt (by (with_reducible repeat (first | apply Kd.R_alloc | apply Kd.R_drewN | apply Kd.R_drew)); exact HO197.out))) (below_size (by repeat (first | (with_reducible first | exact HB.out | apply below_alloc | apply pw_below_drewN | apply below_drew1) | exact HB.out)))); have n7_ := Aside0.mk (below_step (by repeat (first | (with_reducible first | exact HB.out | apply below_alloc | apply pw_below_drewN | apply below_drew1) | exact HB.out)) hb); clear HO0; clear HO1; clear HO181; clear HO184; clear HO192; clear HO197; clear HB; have HO0 := n0_; have HO1 := n1_; have HO181 := n2_; have HO184 := n3_; have HO192 := n4_; have HO197 := n5_; have HO200 := n6_; have HB := n7_; clear n0_ n1_ n2_ n3_ n4_ n5_ n6_ n7_; (try clear hb); (try clear hb2); (try clear hk); (try clear hi); (try clear ho0)))
   go_ret3
   exact ⟨_, _, by first | rfl | (simp [errW_none, errW_some] <;> rfl) | (simp [*, errW_none, errW_some] <;> rfl), by (with_reducible repeat (first | apply Kd.V_alloc | apply Kd.V_drewN | apply Kd.V_drew)); exact Kd.V_mono HO192.out (fun _ hk => hk.1.1), Kd.V_mono (Kd.R_V (by (with_reducible repeat (first | apply Kd.R_alloc | apply Kd.R_drewN | apply Kd.R_drew)); exact Kd.R_mono HO200.out (fun _ hk => hk.1.1))) (fun k_ hk => by first | exact ⟨(.inr (hk.1)), hk.2⟩ | exact (.inr (hk))), by repeat (first | (with_reducible first | exact HB.out | apply below_alloc | apply pw_below_drewN | apply below_drew1) | exact HB.out)⟩
  rw [if_neg c19] at H
  exact absurd H (by simp)
 rw [if_neg c18] at H
 have c18b0 : ((t182.length : Int) == 1) = false := beq_eq_false_iff_ne.mpr c18
 have c18b1 : ((t182.length : Int) != 1) = true := bne_iff_ne.mpr c18
 obtain ⟨ji32, hji32⟩ : ∃ j_ : Int, (wrap64 ((t182.length : Int) - 1)) = j_ := ⟨_, rfl⟩
 replace H : (if 0 ≤ (ji32) then (if (ji32) < (t182.length : Int) then ((bits_LeadingZeros64.f k (rd t182 (ji32))).bind fun t202 => ((nat_shifted.f k t179 (IntKind.u64.wrap (t202))).bind fun t203 => ((nat_shifted.f k t182 (IntKind.u64.wrap (t202))).bind fun t206 => ((nat_trim.f k t206).bind fun t209 => (if 0 ≤ (wrap64 ((t203.length : Int) - (t209.length : Int))) then (if (wrap64 ((t203.length : Int) - (t209.length : Int)) : Int).toNat ≤ 35184372088832 then ((some (List.replicate (wrap64 ((t203.length : Int) - (t209.length : Int)) : Int).toNat 0 : List Int)).bind fun y212 => (nat_DivMod.l0 k (IntKind.u64.wrap (t202)) t203 t209 (t209.length : Int) y212 (wrap64 ((y212.length : Int) - 1)))) else (none)) else (none)))))) else (none)) else (none)) = some (r1, r2, r3) := by first | (rw [hji32] at H; exact H) | (simp only [hji32] at H ⊢; exact H)
 (try rw [hji32] at A3)
 (try rw [hji32] at A4)
 (try rw [hji32] at A9)
 have hji32w : (IntKind.i64.wrap ((t182.length : Int) - 1)) = ji32 := (i64_w _).trans hji32
 by_cases c33 : 0 ≤ (ji32)
 ·rw [if_pos c33] at H
  have c33b0 : decide (0 ≤ (ji32)) = true := decide_eq_true c33
  clear c33
  by_cases c34 : (ji32) < (t182.length : Int)
  ·rw [if_pos c34] at H
   have c34b0 : decide ((ji32) < (t182.length : Int)) = true := decide_eq_true c34
   clear c34
   replace H := Option.bind_eq_some_iff.mp H
   obtain ⟨t202, A350, H⟩ := H
   replace H : ((nat_shifted.f k t179 (IntKind.u64.wrap (t202))).bind fun t203 => ((nat_shifted.f k t182 (IntKind.u64.wrap (t202))).bind fun t206 => ((nat_trim.f k t206).bind fun t209 => (if 0 ≤ (wrap64 ((t203.length : Int) - (t209.length : Int))) then (if (wrap64 ((t203.length : Int) - (t209.length : Int)) : Int).toNat ≤ 35184372088832 then ((some (List.replicate (wrap64 ((t203.length : Int) - (t209.length : Int)) : Int).toNat 0 : List Int)).bind fun y212 => (nat_DivMod.l0 k (IntKind.u64.wrap (t202)) t203 t209 (t209.length : Int) y212 (wrap64 ((y212.length : Int) - 1)))) else (none)) else (none))))) = some (r1, r2, r3) := H
   have A35 := Aside0.mk A350
   clear A350
   replace H := Option.bind_eq_some_iff.mp H
   obtain ⟨t203, A360, H⟩ := H
   replace H : ((nat_shifted.f k t182 (IntKind.u64.wrap (t202))).bind fun t206 => ((nat_trim.f k t206).bind fun t209 => (if 0 ≤ (wrap64 ((t203.length : Int) - (t209.length : Int))) then (if (wrap64 ((t203.length : Int) - (t209.length : Int)) : Int).toNat ≤ 35184372088832 then ((some (List.replicate (wrap64 ((t203.length : Int) - (t209.length : Int)) : Int).toNat 0 : List Int)).bind fun y212 => (nat_DivMod.l0 k (IntKind.u64.wrap (t202)) t203 t209 (t209.length : Int) y212 (wrap64 ((y212.length : Int) - 1)))) else (none)) else (none)))) = some (r1, r2, r3) := H
   have A36 := Aside0.mk A360
   clear A360
   replace H := Option.bind_eq_some_iff.mp H
   obtain ⟨t206, A370, H⟩ := H
   replace H : ((nat_trim.f k t206).bind fun t209 => (if 0 ≤ (wrap64 ((t203.length : Int) - (t209.length : Int))) then (if (wrap64 ((t203.length : Int) - (t209.length : Int)) : Int).toNat ≤ 35184372088832 then ((some (List.replicate (wrap64 ((t203.length : Int) - (t209.length : Int)) : Int).toNat 0 : List Int)).bind fun y212 => (nat_DivMod.l0 k (IntKind.u64.wrap (t202)) t203 t209 (t209.length : Int) y212 (wrap64 ((y212.length : Int) - 1)))) else (none)) else (none))) = some (r1, r2, r3) := H
   have A37 := Aside0.mk A370
   clear A370
   replace H := Option.bind_eq_some_iff.mp H
   obtain ⟨t209, A380, H⟩ := H
   replace H : (if 0 ≤ (wrap64 ((t203.length : Int) - (t209.length : Int))) then (if (wrap64 ((t203.length : Int) - (t209.length : Int)) : Int).toNat ≤ 35184372088832 then ((some (List.replicate (wrap64 ((t203.length : Int) - (t209.length : Int)) : Int).toNat 0 : List Int)).bind fun y212 => (nat_DivMod.l0 k (IntKind.u64.wrap (t202)) t203 t209 (t209.length : Int) y212 (wrap64 ((y212.length : Int) - 1)))) else (none)) else (none)) = some (r1, r2, r3) := H
   have A38 := Aside0.mk A380
   clear A380
   obtain ⟨ji39, hji39⟩ : ∃ j_ : Int, (wrap64 ((t203.length : Int) - (t209.length : Int))) = j_ := ⟨_, rfl⟩
   replace H : (if 0 ≤ (ji39) then (if (ji39 : Int).toNat ≤ 35184372088832 then ((some (List.replicate (ji39 : Int).toNat 0 : List Int)).bind fun y212 => (nat_DivMod.l0 k (IntKind.u64.wrap (t202)) t203 t209 (t209.length : Int) y212 (wrap64 ((y212.length : Int) - 1)))) else (none)) else (none)) = some (r1, r2, r3) := by first | (rw [hji39] at H; exact H) | (simp only [hji39] at H ⊢; exact H)
   (try rw [hji39] at A3)
   (try rw [hji39] at A4)
   (try rw [hji39] at A9)
   (try rw [hji39] at A35)
   (try rw [hji39] at A36)
   (try rw [hji39] at A37)
   (try rw [hji39] at A38)
   have hji39w : (IntKind.i64.wrap ((t203.length : Int) - (t209.length : Int))) = ji39 := (i64_w _).trans hji39
   by_cases c40 : 0 ≤ (ji39)
   ·rw [if_pos c40] at H
    have c40b0 := eq_true c40
    have c40b1 : decide (0 ≤ (ji39)) = true := decide_eq_true c40
    clear c40
    by_cases c41 : (ji39 : Int).toNat ≤ 35184372088832
    ·rw [if_pos c41] at H
     have c41b0 := eq_true c41
     have c41b1 : decide ((ji39 : Int).toNat ≤ 35184372088832) = true := decide_eq_true c41
     clear c41
     obtain ⟨y212, hy212⟩ : ∃ y_ : List Int, y_ = (List.replicate (ji39 : Int).toNat 0) := ⟨_, rfl⟩
     replace H : (nat_DivMod.l0 k (IntKind.u64.wrap (t202)) t203 t209 (t209.length : Int) y212 (wrap64 ((y212.length : Int) - 1))) = some (r1, r2, r3) := by first | (rw [hy212]; with_reducible exact H) | (have H2_ := (Option.bind_some _ _).symm.trans H; rw [hy212]; with_reducible exact H2_) | (have H2_ := (Option.bind_some _ _).symm.trans H; with_reducible exact H2_) | with_reducible exact H | (rw [hy212]; exact H) | exact H
     have Ny212 := Aside0.mk hy212
     clear hy212
     have H' := Aside0.mk H
     clear H
     go_enter Tryd.func16, Tryd.ntmps16
     go_wp2_with (first | ((with_reducible refine gate_callee (f := 42) rfl ?_); refine goesL_ (some 20) rfl rfl Tryd.func42 (by kernel_rfl) rfl #[.slice A0 l0.length c0] rfl (by (try simp only [List.map_toArray, List.map_cons, List.map_nil]); first | done | rfl | (simp only [List.length_drop, List.length_take]; rfl)) ?_; (with_reducible refine (nat_trim.calls k (fun k_ => ((P0_ k_ ∨ P1_ k_) ∨ w.heap.size ≤ k_)) _ _ l0 t179 _ ?side1 A3.out).mono ?_); (case side1 => exact HO0.out); rintro e w42 ⟨v180, rfl, ho0, hb⟩; refine ⟨_, rfl, ?_⟩; have n0_ := Aside0.mk (Kd.V_below (by (with_reducible repeat (first | apply Kd.V_alloc | apply Kd.V_drewN | apply Kd.V_drew)); exact HO0.out) hb); have n1_ := Aside0.mk (Kd.V_below (by (with_reducible repeat (first | apply Kd.V_alloc | apply Kd.V_drewN | apply Kd.V_drew)); exact HO1.out) hb); have n2_ := Aside0.mk (Kd.V_lower (Kd.V_mono (ok' := fun k_ => ((P0_ k_ ∨ P1_ k_) ∨ w.heap.size ≤ k_)) ho0 (fun k_ hk_ => Or.elim hk_ (fun hs_ => hs_) (fun hn_ => (.inr (Nat.le_trans (below_size (by repeat (first | (with_reducible first | exact HB.out | apply below_alloc | apply pw_below_drewN | apply below_drew1) | exact HB.out))) hn_))))) (below_size (by repeat (first | (with_reducible first | exact HB.out | apply below_alloc | apply pw_below_drewN | apply below_drew1) | exact HB.out)))); have n3_ := Aside0.mk (below_step (by repeat (first | (with_reducible first | exact HB.out | apply below_alloc | apply pw_below_drewN | apply below_drew1) | exact HB.out)) hb); clear HO0; clear HO1; clear HB; have HO0 := n0_; have HO1 := n1_; have HO181 := n2_; have HB := n3_; clear n0_ n1_ n2_ n3_; (try clear hb); (try clear hb2); (try clear hk); (try clear hi); (try clear ho0)) | ((with_reducible refine gate_callee (f := 42) rfl ?_); refine goesL_ (some 22) rfl rfl Tryd.func42 (by kernel_rfl) rfl #[.slice A1 l1.length c1] rfl (by (try simp only [List.map_toArray, List.map_cons, List.map_nil]); first | done | rfl | (simp only [List.length_drop, List.length_take]; rfl)) ?_; (with_reducible refine (nat_trim.calls k (fun k_ => ((P0_ k_ ∨ P1_ k_) ∨ w.heap.size ≤ k_)) _ _ l1 t182 _ ?side1 A4.out).mono ?_); (case side1 => exact HO1.out); rintro e w43 ⟨v183, rfl, ho0, hb⟩; refine ⟨_, rfl, ?_⟩; have n0_ := Aside0.mk (Kd.V_below (by (with_reducible repeat (first | apply Kd.V_alloc | apply Kd.V_drewN | apply Kd.V_drew)); exact HO0.out) hb); have n1_ := Aside0.mk (Kd.V_below (by (with_reducible repeat (first | apply Kd.V_alloc | apply Kd.V_drewN | apply Kd.V_drew)); exact HO1.out) hb); have n2_ := Aside0.mk (Kd.V_below (by (with_reducible repeat (first | apply Kd.V_alloc | apply Kd.V_drewN | apply Kd.V_drew)); exact HO181.out) hb); have n3_ := Aside0.mk (Kd.V_lower (Kd.V_mono (ok' := fun k_ => ((P0_ k_ ∨ P1_ k_) ∨ w.heap.size ≤ k_)) ho0 (fun k_ hk_ => Or.elim hk_ (fun hs_ => hs_) (fun hn_ => (.inr (Nat.le_trans (below_size (by repeat (first | (with_reducible first | exact HB.out | apply below_alloc | apply pw_below_drewN | apply below_drew1) | exact HB.out))) hn_))))) (below_size (by repeat (first | (with_reducible first | exact HB.out | apply below_alloc | apply pw_below_drewN | apply below_drew1) | exact HB.out)))); have n4_ := Aside0.mk (below_step (by repeat (first | (with_reducible first | exact HB.out | apply below_alloc | apply pw_below_drewN | apply below_drew1) | exact HB.out)) hb); clear HO0; clear HO1; clear HO181; clear HB; have HO0 := n0_; have HO1 := n1_; have HO181 := n2_; have HO184 := n3_; have HB := n4_; clear n0_ n1_ n2_ n3_ n4_; (try clear hb); (try clear hb2); (try clear hk); (try clear hi); (try clear ho0); obtain ⟨Ao44, co44, eo44⟩ := Kd.V_slice HO184.out; subst eo44; obtain ⟨Ao45, co45, eo45⟩ := Kd.V_slice HO181.out; subst eo45) | ((with_reducible refine gate_callee (f := 24) rfl ?_); refine goesL_ (some 30) rfl rfl Tryd.func24 (by kernel_rfl) rfl #[.slice Ao45 t179.length co45, .slice Ao44 t182.length co44] rfl (by (try simp only [List.map_toArray, List.map_cons, List.map_nil]); first | done | rfl | (simp only [List.length_drop, List.length_take]; rfl)) ?_; (with_reducible refine (nat_Cmp.calls k _ _ t179 _ _ t182 t185 _ ?side1 ?side2 ?side3 ?side4 A9.out).mono ?_); (case side1 => repeat (first | exact (Kd.V_reads' HO181.out).2.2 | (with_reducible refine Kd.C_alloc ?_ _) | (with_reducible refine Kd.C_drewN ?_ _) | (with_reducible refine Kd.C_drew ?_))); (case side2 => exact (Kd.V_reads' HO181.out).2.1); (case side3 => repeat (first | exact (Kd.V_reads' HO184.out).2.2 | (with_reducible refine Kd.C_alloc ?_ _) | (with_reducible refine Kd.C_drewN ?_ _) | (with_reducible refine Kd.C_drew ?_))); (case side4 => exact (Kd.V_reads' HO184.out).2.1); rintro e w46 ⟨rfl, hb⟩; refine ⟨_, rfl, ?_⟩; have n0_ := Aside0.mk (Kd.V_below (by (with_reducible repeat (first | apply Kd.V_alloc | apply Kd.V_drewN | apply Kd.V_drew)); exact HO0.out) hb); have n1_ := Aside0.mk (Kd.V_below (by (with_reducible repeat (first | apply Kd.V_alloc | apply Kd.V_drewN | apply Kd.V_drew)); exact HO1.out) hb); have n2_ := Aside0.mk (Kd.V_below (by (with_reducible repeat (first | apply Kd.V_alloc | apply Kd.V_drewN | apply Kd.V_drew)); exact HO181.out) hb); have n3_ := Aside0.mk (Kd.V_below (by (with_reducible repeat (first | apply Kd.V_alloc | apply Kd.V_drewN | apply Kd.V_drew)); exact HO184.out) hb); have n4_ := Aside0.mk (below_step (by repeat (first | (with_reducible first | exact HB.out | apply below_alloc | apply pw_below_drewN | apply below_drew1) | exact HB.out)) hb); clear HO0; clear HO1; clear HO181; clear HO184; clear HB; have HO0 := n0_; have HO1 := n1_; have HO181 := n2_; have HO184 := n3_; have HB := n4_; clear n0_ n1_ n2_ n3_ n4_; (try clear hb); (try clear hb2); (try clear hk); (try clear hi); have p201 : 0 ≤ ((ji32) : Int) := of_decide_eq_true (by first | (with_reducible assumption) | assumption); have q201 : (ji32) < (t182.length : Int) := of_decide_eq_true (by first | (with_reducible assumption) | assumption); obtain ⟨ad201, e201, hx201_0⟩ := Kd.at_int (Kd.V_reads' HO184.out).2.2 (ji32) p201 q201; cases e201; replace p201 := eq_true p201; replace q201 := eq_true q201) | ((with_reducible refine gate_callee (f := 43) rfl ?_); refine goesL_ (some 58) rfl rfl Tryd.func43 (by kernel_rfl) rfl #[.int .u64 (rd t182 (ji32))] rfl (by (try simp only [List.map_toArray, List.map_cons, List.map_nil]); first | done | (simp only [hji32]; rfl) | rfl | (simp only [List.length_drop, List.length_take]; rfl)) ?_; (with_reducible refine (bits_LeadingZeros64.calls k (rd t182 (ji32)) t202 _ A35.out).mono ?_); rintro e w' ⟨rfl, ⟨nd, rfl⟩⟩; refine ⟨_, rfl, ?_⟩) | ((with_reducible refine gate_callee (f := 44) rfl ?_); refine goesL_ (some 62) rfl rfl Tryd.func44 (by kernel_rfl) rfl #[.slice Ao45 t179.length co45, .int .u64 (IntKind.u64.wrap (t202))] rfl (by (try simp only [List.map_toArray, List.map_cons, List.map_nil]); first | done | rfl | (simp only [List.length_drop, List.length_take]; rfl)) ?_; (with_reducible refine (nat_shifted.calls k _ _ t179 (IntKind.u64.wrap (t202)) t203 _ ?side1 ?side2 A36.out).mono ?_); (case side1 => repeat (first | exact (Kd.V_reads' HO181.out).2.2 | (with_reducible refine Kd.C_alloc ?_ _) | (with_reducible refine Kd.C_drewN ?_ _) | (with_reducible refine Kd.C_drew ?_))); (case side2 => exact (Kd.V_reads' HO181.out).2.1); rintro e w47 ⟨v204, rfl, ho0, hb⟩; refine ⟨_, rfl, ?_⟩; have n0_ := Aside0.mk (Kd.V_elder' (by (with_reducible repeat (first | apply Kd.V_alloc | apply Kd.V_drewN | apply Kd.V_drew)); exact HO0.out) (Kd.R_base ho0) hb); have n1_ := Aside0.mk (Kd.V_elder' (by (with_reducible repeat (first | apply Kd.V_alloc | apply Kd.V_drewN | apply Kd.V_drew)); exact HO1.out) (Kd.R_base ho0) hb); have n2_ := Aside0.mk (Kd.V_elder' (by (with_reducible repeat (first | apply Kd.V_alloc | apply Kd.V_drewN | apply Kd.V_drew)); exact HO181.out) (Kd.R_base ho0) hb); have n3_ := Aside0.mk (Kd.V_elder' (by (with_reducible repeat (first | apply Kd.V_alloc | apply Kd.V_drewN | apply Kd.V_drew)); exact HO184.out) (Kd.R_base ho0) hb); have n4_ := Aside0.mk (Kd.R_lower (Kd.R_newM (M := fun k_ => (w.heap.size ≤ k_)) ho0 (below_size (by repeat (first | (with_reducible first | exact HB.out | apply below_alloc | apply pw_below_drewN | apply below_drew1) | exact HB.out))) (fun k_ h_ => h_)) (below_size (by repeat (first | (with_reducible first | exact HB.out | apply below_alloc | apply pw_below_drewN | apply below_drew1) | exact HB.out)))); have n5_ := Aside0.mk (below_step (by repeat (first | (with_reducible first | exact HB.out | apply below_alloc | apply pw_below_drewN | apply below_drew1) | exact HB.out)) hb); clear HO0; clear HO1; clear HO181; clear HO184; clear HB; have HO0 := n0_; have HO1 := n1_; have HO181 := n2_; have HO184 := n3_; have HO205 := n4_; have HB := n5_; clear n0_ n1_ n2_ n3_ n4_ n5_; (try clear hb); (try clear hb2); (try clear hk); (try clear hi); (try clear ho0)) | ((with_reducible refine gate_callee (f := 44) rfl ?_); refine goesL_ (some 65) rfl rfl Tryd.func44 (by kernel_rfl) rfl #[.slice (some ad201) t182.length co44, .int .u64 (IntKind.u64.wrap (t202))] rfl (by (try simp only [List.map_toArray, List.map_cons, List.map_nil]); first | done | rfl | (simp only [List.length_drop, List.length_take]; rfl)) ?_; (with_reducible refine (nat_shifted.calls k _ _ t182 (IntKind.u64.wrap (t202)) t206 _ ?side1 ?side2 A37.out).mono ?_); (case side1 => repeat (first | exact (Kd.V_reads' HO184.out).2.2 | (with_reducible refine Kd.C_alloc ?_ _) | (with_reducible refine Kd.C_drewN ?_ _) | (with_reducible refine Kd.C_drew ?_))); (case side2 => exact (Kd.V_reads' HO184.out).2.1); rintro e w48 ⟨v207, rfl, ho0, hb⟩; refine ⟨_, rfl, ?_⟩; have n0_ := Aside0.mk (Kd.V_elder' (by (with_reducible repeat (first | apply Kd.V_alloc | apply Kd.V_drewN | apply Kd.V_drew)); exact HO0.out) (Kd.R_base ho0) hb); have n1_ := Aside0.mk (Kd.V_elder' (by (with_reducible repeat (first | apply Kd.V_alloc | apply Kd.V_drewN | apply Kd.V_drew)); exact HO1.out) (Kd.R_base ho0) hb); have n2_ := Aside0.mk (Kd.V_elder' (by (with_reducible repeat (first | apply Kd.V_alloc | apply Kd.V_drewN | apply Kd.V_drew)); exact HO181.out) (Kd.R_base ho0) hb); have n3_ := Aside0.mk (Kd.V_elder' (by (with_reducible repeat (first | apply Kd.V_alloc | apply Kd.V_drewN | apply Kd.V_drew)); exact HO184.out) (Kd.R_base ho0) hb); have n4_ := Aside0.mk (Kd.R_elder' (by (with_reducible repeat (first | apply Kd.R_alloc | apply Kd.R_drewN | apply Kd.R_drew)); exact HO205.out) (Kd.R_base ho0) hb); have n5_ := Aside0.mk (Kd.R_lower (Kd.R_new' (Kd.R_newM (M := fun k_ => (w.heap.size ≤ k_)) ho0 (below_size (by repeat (first | (with_reducible first | exact HB.out | apply below_alloc | apply pw_below_drewN | apply below_drew1) | exact HB.out))) (fun k_ h_ => h_)) (Kd.R_lt (by (with_reducible repeat (first | apply Kd.R_alloc | apply Kd.R_drewN | apply Kd.R_drew)); exact HO205.out))) (below_size (by repeat (first | (with_reducible first | exact HB.out | apply below_alloc | apply pw_below_drewN | apply below_drew1) | exact HB.out)))); have n6_ := Aside0.mk (below_step (by repeat (first | (with_reducible first | exact HB.out | apply below_alloc | apply pw_below_drewN | apply below_drew1) | exact HB.out)) hb); clear HO0; clear HO1; clear HO181; clear HO184; clear HO205; clear HB; have HO0 := n0_; have HO1 := n1_; have HO181 := n2_; have HO184 := n3_; have HO205 := n4_; have HO208 := n5_; have HB := n6_; clear n0_ n1_ n2_ n3_ n4_ n5_ n6_; (try clear hb); (try clear hb2); (try clear hk); (try clear hi); (try clear ho0); obtain ⟨Ao49, co49, eo49⟩ := Kd.R_slice HO208.out; subst eo49) | ((with_reducible refine gate_callee (f := 42) rfl ?_); refine goesL_ (some 66) rfl rfl Tryd.func42 (by kernel_rfl) rfl #[.slice Ao49 t206.length co49] rfl (by (try simp only [List.map_toArray, List.map_cons, List.map_nil]); first | done | rfl | (simp only [List.length_drop, List.length_take]; rfl)) ?_; (with_reducible refine (nat_trim.calls k (fun k_ => some k_ = (.slice Ao49 t206.length co49 : Value).ownBlock) _ _ t206 t209 _ ?side1 A38.out).mono ?_); (case side1 => exact Kd.R_V (Kd.R_tight rfl (HO208.out))); rintro e w50 ⟨v210, rfl, ho0, hb⟩; refine ⟨_, rfl, ?_⟩; have n0_ := Aside0.mk (Kd.V_below (by (with_reducible repeat (first | apply Kd.V_alloc | apply Kd.V_drewN | apply Kd.V_drew)); exact HO0.out) hb); have n1_ := Aside0.mk (Kd.V_below (by (with_reducible repeat (first | apply Kd.V_alloc | apply Kd.V_drewN | apply Kd.V_drew)); exact HO1.out) hb); have n2_ := Aside0.mk (Kd.V_below (by (with_reducible repeat (first | apply Kd.V_alloc | apply Kd.V_drewN | apply Kd.V_drew)); exact HO181.out) hb); have n3_ := Aside0.mk (Kd.V_below (by (with_reducible repeat (first | apply Kd.V_alloc | apply Kd.V_drewN | apply Kd.V_drew)); exact HO184.out) hb); have n4_ := Aside0.mk (Kd.R_below (by (with_reducible repeat (first | apply Kd.R_alloc | apply Kd.R_drewN | apply Kd.R_drew)); exact HO205.out) hb); have n5_ := Aside0.mk (Kd.R_below (by (with_reducible repeat (first | apply Kd.R_alloc | apply Kd.R_drewN | apply Kd.R_drew)); exact HO208.out) hb); have n6_ := Aside0.mk (Kd.V_lower (Kd.V_mono (ok' := fun k_ => ((P0_ k_ ∨ P1_ k_) ∨ w.heap.size ≤ k_) ∧ some k_ ≠ (v204 : Value).ownBlock) ho0 (fun k_ hk_ => ⟨Or.elim hk_ (fun hs_ => (.inr (((HO208.out).1 k_ hs_.symm).1.1))) (fun hn_ => (.inr (Nat.le_trans (below_size (by repeat (first | (with_reducible first | exact HB.out | apply below_alloc | apply pw_below_drewN | apply below_drew1) | exact HB.out))) hn_))), Or.elim hk_ (fun hs_ => ((HO208.out).1 k_ hs_.symm).2) (fun hn_ => (Kd.fresh' (Kd.R_lt (by (with_reducible repeat (first | apply Kd.R_alloc | apply Kd.R_drewN | apply Kd.R_drew)); exact HO205.out)) k_ hn_))⟩)) (below_size (by repeat (first | (with_reducible first | exact HB.out | apply below_alloc | apply pw_below_drewN | apply below_drew1) | exact HB.out)))); have n7_ := Aside0.mk (below_step (by repeat (first | (with_reducible first | exact HB.out | apply below_alloc | apply pw_below_drewN | apply below_drew1) | exact HB.out)) hb); clear HO0; clear HO1; clear HO181; clear HO184; clear HO205; clear HO208; clear HB; have HO0 := n0_; have HO1 := n1_; have HO181 := n2_; have HO184 := n3_; have HO205 := n4_; have HO208 := n5_; have HO211 := n6_; have HB := n7_; clear n0_ n1_ n2_ n3_ n4_ n5_ n6_ n7_; (try clear hb); (try clear hb2); (try clear hk); (try clear hi); (try clear ho0); obtain ⟨Ao51, co51, eo51⟩ := Kd.V_slice HO211.out; subst eo51; obtain ⟨Ao52, co52, eo52⟩ := Kd.R_slice HO205.out; subst eo52) | ((with_reducible refine gate_dst (N := 73) rfl ?_); refine Kd.R_make (Kd.int .u64) _ 24 rfl (N := 73) rfl 23 _ _ rfl ji39 rfl rfl Tryd.underlying23 (.int .u64 0) 8 info24 rfl (by decide) (by omega) 0 (ok := fun _ => True) (okp := fun _ => True) rfl (fun _ hk => hk) trivial (of_decide_eq_true (by first | (with_reducible assumption) | assumption)) (Nat.le_trans (Nat.mul_le_mul_right _ (of_decide_eq_true (by first | (with_reducible assumption) | assumption) : ji39.toNat ≤ 35184372088832)) (by omega)) (Below.refl _ _) (Nat.le_refl _) ?_; intro v213 w53 ho54 hb hg_ hnew_; clear hg_ hnew_; (first | rw [← Ny212.out] at ho54 | (simp only [Int.reduceToNat] at ho54; rw [← Ny212.out] at ho54)); have n0_ := Aside0.mk (Kd.V_elder' (by (with_reducible repeat (first | apply Kd.V_alloc | apply Kd.V_drewN | apply Kd.V_drew)); exact HO0.out) (Kd.R_base ho54) hb); have n1_ := Aside0.mk (Kd.V_elder' (by (with_reducible repeat (first | apply Kd.V_alloc | apply Kd.V_drewN | apply Kd.V_drew)); exact HO1.out) (Kd.R_base ho54) hb); have n2_ := Aside0.mk (Kd.V_elder' (by (with_reducible repeat (first | apply Kd.V_alloc | apply Kd.V_drewN | apply Kd.V_drew)); exact HO181.out) (Kd.R_base ho54) hb); have n3_ := Aside0.mk (Kd.V_elder' (by (with_reducible repeat (first | apply Kd.V_alloc | apply Kd.V_drewN | apply Kd.V_drew)); exact HO184.out) (Kd.R_base ho54) hb); have n4_ := Aside0.mk (Kd.R_elder' (by (with_reducible repeat (first | apply Kd.R_alloc | apply Kd.R_drewN | apply Kd.R_drew)); exact HO205.out) (Kd.R_base ho54) hb); have n5_ := Aside0.mk (Kd.R_elder' (by (with_reducible repeat (first | apply Kd.R_alloc | apply Kd.R_drewN | apply Kd.R_drew)); exact HO208.out) (Kd.R_base ho54) hb); have n6_ := Aside0.mk (Kd.V_elder' (by (with_reducible repeat (first | apply Kd.V_alloc | apply Kd.V_drewN | apply Kd.V_drew)); exact HO211.out) (Kd.R_base ho54) hb); have n7_ := Aside0.mk (Kd.R_lower (Kd.R_new' (Kd.R_new' (Kd.R_newM (M := fun k_ => (w.heap.size ≤ k_)) ho54 (below_size (by repeat (first | (with_reducible first | exact HB.out | apply below_alloc | apply pw_below_drewN | apply below_drew1) | exact HB.out))) (fun k_ h_ => h_)) (Kd.R_lt (by (with_reducible repeat (first | apply Kd.R_alloc | apply Kd.R_drewN | apply Kd.R_drew)); exact HO205.out))) (Kd.R_lt (by (with_reducible repeat (first | apply Kd.R_alloc | apply Kd.R_drewN | apply Kd.R_drew)); exact HO208.out))) (below_size (by repeat (first | (with_reducible first | exact HB.out | apply below_alloc | apply pw_below_drewN | apply below_drew1) | exact HB.out)))); have n8_ := Aside0.mk (below_step (by repeat (first | (with_reducible first | exact HB.out | apply below_alloc | apply pw_below_drewN | apply below_drew1) | exact HB.out)) hb); clear HO0; clear HO1; clear HO181; clear HO184; clear HO205; clear HO208; clear HO211; clear HB; have HO0 := n0_; have HO1 := n1_; have HO181 := n2_; have HO184 := n3_; have HO205 := n4_; have HO208 := n5_; have HO211 := n6_; have HO214 := n7_; have HB := n8_; clear n0_ n1_ n2_ n3_ n4_ n5_ n6_ n7_ n8_; clear hb ho54; obtain ⟨Ao55, co55, eo55⟩ := Kd.R_slice HO214.out; subst eo55))
     go_loopg [15] k (fun kq v15 w' => ∃ (x11_1 : List Int) (x14_1 : List Int) (x15_1 : Int), v15 = .int .i64 x15_1 ∧ Aside0 (nat_DivMod.l0 kq (IntKind.u64.wrap (t202)) x11_1 t209 (t209.length : Int) x14_1 x15_1 = some (r1, r2, r3)) ∧ Aside0 (kq ≤ k) ∧ Aside0 (Kd.R (Kd.int .u64) 24 w' w.heap.size (fun k_ => (w.heap.size ≤ k_) ∧ some k_ ≠ ((.slice Ao55 y212.length co55) : Value).ownBlock) (.slice Ao52 t203.length co52) x11_1) ∧ Aside0 (Kd.V (Kd.int .u64) 24 w' w.heap.size (fun k_ => ((P0_ k_ ∨ P1_ k_) ∨ w.heap.size ≤ k_) ∧ some k_ ≠ ((.slice Ao52 t203.length co52) : Value).ownBlock ∧ some k_ ≠ ((.slice Ao55 y212.length co55) : Value).ownBlock) (.slice Ao51 t209.length co51) t209) ∧ Aside0 (Kd.R (Kd.int .u64) 24 w' w.heap.size (fun k_ => (w.heap.size ≤ k_) ∧ some k_ ≠ ((.slice Ao52 t203.length co52) : Value).ownBlock) (.slice Ao55 y212.length co55) x14_1) ∧ Aside0 (Below w.heap.size w w'))
     case atStart => exact ⟨(t203), (y212), (wrap64 ((y212.length : Int) - 1)), (by first | rfl | (simp; done) | (simp [*]; done)), H', ⟨Nat.le_refl _⟩, ⟨by (with_reducible repeat (first | apply Kd.R_alloc | apply Kd.R_drewN | apply Kd.R_drew)); exact Kd.R_mono HO205.out (fun _ hk => ⟨hk.1.1.1, hk.2⟩)⟩, ⟨by (with_reducible repeat (first | apply Kd.V_alloc | apply Kd.V_drewN | apply Kd.V_drew)); exact Kd.V_mono HO211.out (fun _ hk => ⟨hk.1.1, ⟨hk.1.2, hk.2⟩⟩)⟩, ⟨by (with_reducible repeat (first | apply Kd.R_alloc | apply Kd.R_drewN | apply Kd.R_drew)); exact Kd.R_mono HO214.out (fun _ hk => ⟨hk.1.1.1, hk.1.2⟩)⟩, ⟨by repeat (first | (with_reducible first | exact HB.out | apply below_alloc | apply pw_below_drewN | apply below_drew1) | exact HB.out)⟩⟩
     case round =>
      clear H'
      try clear c1
      try clear p1
      try clear q1
      try clear hx1
      try clear qi1
      try clear c2
      try clear p2
      try clear q2
      try clear hx2
      try clear c3
      try clear c4
      try clear c5
      try clear c5b0
      try clear c5b1
      try clear c5b2
      try clear p6
      try clear c10
      try clear c10b0
      try clear c16
      try clear c17
      try clear c18
      try clear c18b0
      try clear c18b1
      try clear p18
      try clear q18
      try clear hx18
      try clear qi18
      try clear c19
      try clear c19b0
      try clear c19b1
      try clear p20
      try clear q20
      try clear hx20
      try clear c24
      try clear c29
      try clear c33
      try clear c33b0
      try clear c34
      try clear c34b0
      try clear c40
      try clear c40b0
      try clear c40b1
      try clear c41
      try clear c41b0
      try clear c41b1
      try clear c42
      try clear c43
      try clear c44
      try clear hx189_0
      try clear hx201_0
      try clear p189
      try clear p201
      try clear q189
      try clear q201
      obtain ⟨x11_1, x14_1, x15_1, rfl, HA, HK1, HO_11, HO_12, HO_14, HB⟩ := hrel
      have hl11_1 := (Kd.R_reads' HO_11.out).1
      rw [hl11_1] at HO_11
      (try simp only [hl11_1])
      (try simp only [hl11_1] at HO_12)
      (try simp only [hl11_1] at HO_14)
      have hl14_1 := (Kd.R_reads' HO_14.out).1
      rw [hl14_1] at HO_14
      (try simp only [hl14_1])
      (try simp only [hl14_1] at HO_11)
      (try simp only [hl14_1] at HO_12)
      cases gk with
      | zero => exact absurd HA.out (by simp [nat_DivMod.l0])
      | succ k1 =>
       have H := HA.out
       clear HA
       simp only [nat_DivMod.l0] at H
       by_cases c56 : x15_1 ≥ 0
       ·rw [if_pos c56] at H
        have c56b0 : decide (0 ≤ x15_1) = true := decide_eq_true c56
        clear c56
        obtain ⟨ji57, hji57⟩ : ∃ j_ : Int, (wrap64 (x15_1 + (t209.length : Int))) = j_ := ⟨_, rfl⟩
        replace H : (if 0 ≤ (ji57) then (if (ji57) < (x11_1.length : Int) then (if 0 ≤ (wrap64 ((ji57) - 1)) then (if (wrap64 ((ji57) - 1)) < (x11_1.length : Int) then (if 0 ≤ (wrap64 ((ji57) - 2)) then (if (wrap64 ((ji57) - 2)) < (x11_1.length : Int) then (if 0 ≤ (wrap64 ((t209.length : Int) - 1)) then (if (wrap64 ((t209.length : Int) - 1)) < (t209.length : Int) then (if 0 ≤ (wrap64 ((t209.length : Int) - 2)) then (if (wrap64 ((t209.length : Int) - 2)) < (t209.length : Int) then ((nat_guess.f k1 (rd x11_1 (ji57)) (rd x11_1 (wrap64 ((ji57) - 1))) (rd x11_1 (wrap64 ((ji57) - 2))) (rd t209 (wrap64 ((t209.length : Int) - 1))) (rd t209 (wrap64 ((t209.length : Int) - 2)))).bind fun t227 => ((nat_takes.f k1 x11_1 t209 t227 x15_1).bind fun bt228 => (if bt228.1 = true then ((nat_gives.f k1 bt228.2 t209 x15_1).bind fun t230 => (if 0 ≤ x15_1 then (if x15_1 < (x14_1.length : Int) then (nat_DivMod.l0 k1 (IntKind.u64.wrap (t202)) t230 t209 (t209.length : Int) (x14_1.set (x15_1 : Int).toNat (IntKind.u64.wrap (t227 - 1))) (wrap64 (x15_1 - 1))) else (none)) else (none))) else (if 0 ≤ x15_1 then (if x15_1 < (x14_1.length : Int) then (nat_DivMod.l0 k1 (IntKind.u64.wrap (t202)) bt228.2 t209 (t209.length : Int) (x14_1.set (x15_1 : Int).toNat t227) (wrap64 (x15_1 - 1))) else (none)) else (none))))) else (none)) else (none)) else (none)) else (none)) else (none)) else (none)) else (none)) else (none)) else (none)) else (none)) = some (r1, r2, r3) := by first | (rw [hji57] at H; exact H) | (simp only [hji57] at H ⊢; exact H)
        have hji57w : (IntKind.i64.wrap (x15_1 + (t209.length : Int))) = ji57 := (i64_w _).trans hji57
        by_cases c58 : 0 ≤ (ji57)
        ·rw [if_pos c58] at H
         have c58b0 : decide (0 ≤ (ji57)) = true := decide_eq_true c58
         clear c58
         by_cases c59 : (ji57) < (x11_1.length : Int)
         ·rw [if_pos c59] at H
          have c59b0 : decide ((ji57) < (x11_1.length : Int)) = true := decide_eq_true c59
          (try rw [hl11_1] at c59b0)
          (try rw [hl14_1] at c59b0)
          clear c59
          obtain ⟨ji60, hji60⟩ : ∃ j_ : Int, (wrap64 ((ji57) - 1)) = j_ := ⟨_, rfl⟩
          replace H : (if 0 ≤ (ji60) then (if (ji60) < (x11_1.length : Int) then (if 0 ≤ (wrap64 ((ji57) - 2)) then (if (wrap64 ((ji57) - 2)) < (x11_1.length : Int) then (if 0 ≤ (wrap64 ((t209.length : Int) - 1)) then (if (wrap64 ((t209.length : Int) - 1)) < (t209.length : Int) then (if 0 ≤ (wrap64 ((t209.length : Int) - 2)) then (if (wrap64 ((t209.length : Int) - 2)) < (t209.length : Int) then ((nat_guess.f k1 (rd x11_1 (ji57)) (rd x11_1 (ji60)) (rd x11_1 (wrap64 ((ji57) - 2))) (rd t209 (wrap64 ((t209.length : Int) - 1))) (rd t209 (wrap64 ((t209.length : Int) - 2)))).bind fun t227 => ((nat_takes.f k1 x11_1 t209 t227 x15_1).bind fun bt228 => (if bt228.1 = true then ((nat_gives.f k1 bt228.2 t209 x15_1).bind fun t230 => (if 0 ≤ x15_1 then (if x15_1 < (x14_1.length : Int) then (nat_DivMod.l0 k1 (IntKind.u64.wrap (t202)) t230 t209 (t209.length : Int) (x14_1.set (x15_1 : Int).toNat (IntKind.u64.wrap (t227 - 1))) (wrap64 (x15_1 - 1))) else (none)) else (none))) else (if 0 ≤ x15_1 then (if x15_1 < (x14_1.length : Int) then (nat_DivMod.l0 k1 (IntKind.u64.wrap (t202)) bt228.2 t209 (t209.length : Int) (x14_1.set (x15_1 : Int).toNat t227) (wrap64 (x15_1 - 1))) else (none)) else (none))))) else (none)) else (none)) else (none)) else (none)) else (none)) else (none)) else (none)) else (none)) = some (r1, r2, r3) := by first | (rw [hji60] at H; exact H) | (simp only [hji60] at H ⊢; exact H)
          have hji60w : (IntKind.i64.wrap ((ji57) - 1)) = ji60 := (i64_w _).trans hji60
          by_cases c61 : 0 ≤ (ji60)
          ·rw [if_pos c61] at H
           have c61b0 : decide (0 ≤ (ji60)) = true := decide_eq_true c61
           clear c61
           by_cases c62 : (ji60) < (x11_1.length : Int)
           ·rw [if_pos c62] at H
            have c62b0 : decide ((ji60) < (x11_1.length : Int)) = true := decide_eq_true c62
            (try rw [hl11_1] at c62b0)
            (try rw [hl14_1] at c62b0)
            clear c62
            obtain ⟨ji63, hji63⟩ : ∃ j_ : Int, (wrap64 ((ji57) - 2)) = j_ := ⟨_, rfl⟩
            replace H : (if 0 ≤ (ji63) then (if (ji63) < (x11_1.length : Int) then (if 0 ≤ (wrap64 ((t209.length : Int) - 1)) then (if (wrap64 ((t209.length : Int) - 1)) < (t209.length : Int) then (if 0 ≤ (wrap64 ((t209.length : Int) - 2)) then (if (wrap64 ((t209.length : Int) - 2)) < (t209.length : Int) then ((nat_guess.f k1 (rd x11_1 (ji57)) (rd x11_1 (ji60)) (rd x11_1 (ji63)) (rd t209 (wrap64 ((t209.length : Int) - 1))) (rd t209 (wrap64 ((t209.length : Int) - 2)))).bind fun t227 => ((nat_takes.f k1 x11_1 t209 t227 x15_1).bind fun bt228 => (if bt228.1 = true then ((nat_gives.f k1 bt228.2 t209 x15_1).bind fun t230 => (if 0 ≤ x15_1 then (if x15_1 < (x14_1.length : Int) then (nat_DivMod.l0 k1 (IntKind.u64.wrap (t202)) t230 t209 (t209.length : Int) (x14_1.set (x15_1 : Int).toNat (IntKind.u64.wrap (t227 - 1))) (wrap64 (x15_1 - 1))) else (none)) else (none))) else (if 0 ≤ x15_1 then (if x15_1 < (x14_1.length : Int) then (nat_DivMod.l0 k1 (IntKind.u64.wrap (t202)) bt228.2 t209 (t209.length : Int) (x14_1.set (x15_1 : Int).toNat t227) (wrap64 (x15_1 - 1))) else (none)) else (none))))) else (none)) else (none)) else (none)) else (none)) else (none)) else (none)) = some (r1, r2, r3) := by first | (rw [hji63] at H; exact H) | (simp only [hji63] at H ⊢; exact H)
            have hji63w : (IntKind.i64.wrap ((ji57) - 2)) = ji63 := (i64_w _).trans hji63
            by_cases c64 : 0 ≤ (ji63)
            ·rw [if_pos c64] at H
             have c64b0 : decide (0 ≤ (ji63)) = true := decide_eq_true c64
             clear c64
             by_cases c65 : (ji63) < (x11_1.length : Int)
             ·rw [if_pos c65] at H
              have c65b0 : decide ((ji63) < (x11_1.length : Int)) = true := decide_eq_true c65
              (try rw [hl11_1] at c65b0)
              (try rw [hl14_1] at c65b0)
              clear c65
              obtain ⟨ji66, hji66⟩ : ∃ j_ : Int, (wrap64 ((t209.length : Int) - 1)) = j_ := ⟨_, rfl⟩
              replace H : (if 0 ≤ (ji66) then (if (ji66) < (t209.length : Int) then (if 0 ≤ (wrap64 ((t209.length : Int) - 2)) then (if (wrap64 ((t209.length : Int) - 2)) < (t209.length : Int) then ((nat_guess.f k1 (rd x11_1 (ji57)) (rd x11_1 (ji60)) (rd x11_1 (ji63)) (rd t209 (ji66)) (rd t209 (wrap64 ((t209.length : Int) - 2)))).bind fun t227 => ((nat_takes.f k1 x11_1 t209 t227 x15_1).bind fun bt228 => (if bt228.1 = true then ((nat_gives.f k1 bt228.2 t209 x15_1).bind fun t230 => (if 0 ≤ x15_1 then (if x15_1 < (x14_1.length : Int) then (nat_DivMod.l0 k1 (IntKind.u64.wrap (t202)) t230 t209 (t209.length : Int) (x14_1.set (x15_1 : Int).toNat (IntKind.u64.wrap (t227 - 1))) (wrap64 (x15_1 - 1))) else (none)) else (none))) else (if 0 ≤ x15_1 then (if x15_1 < (x14_1.length : Int) then (nat_DivMod.l0 k1 (IntKind.u64.wrap (t202)) bt228.2 t209 (t209.length : Int) (x14_1.set (x15_1 : Int).toNat t227) (wrap64 (x15_1 - 1))) else (none)) else (none))))) else (none)) else (none)) else (none)) else (none)) = some (r1, r2, r3) := by first | (rw [hji66] at H; exact H) | (simp only [hji66] at H ⊢; exact H)
              have hji66w : (IntKind.i64.wrap ((t209.length : Int) - 1)) = ji66 := (i64_w _).trans hji66
              by_cases c67 : 0 ≤ (ji66)
              ·rw [if_pos c67] at H
               have c67b0 : decide (0 ≤ (ji66)) = true := decide_eq_true c67
               clear c67
               by_cases c68 : (ji66) < (t209.length : Int)
               ·rw [if_pos c68] at H
                have c68b0 : decide ((ji66) < (t209.length : Int)) = true := decide_eq_true c68
                (try rw [hl11_1] at c68b0)
                (try rw [hl14_1] at c68b0)
                clear c68
                obtain ⟨ji69, hji69⟩ : ∃ j_ : Int, (wrap64 ((t209.length : Int) - 2)) = j_ := ⟨_, rfl⟩
                replace H : (if 0 ≤ (ji69) then (if (ji69) < (t209.length : Int) then ((nat_guess.f k1 (rd x11_1 (ji57)) (rd x11_1 (ji60)) (rd x11_1 (ji63)) (rd t209 (ji66)) (rd t209 (ji69))).bind fun t227 => ((nat_takes.f k1 x11_1 t209 t227 x15_1).bind fun bt228 => (if bt228.1 = true then ((nat_gives.f k1 bt228.2 t209 x15_1).bind fun t230 => (if 0 ≤ x15_1 then (if x15_1 < (x14_1.length : Int) then (nat_DivMod.l0 k1 (IntKind.u64.wrap (t202)) t230 t209 (t209.length : Int) (x14_1.set (x15_1 : Int).toNat (IntKind.u64.wrap (t227 - 1))) (wrap64 (x15_1 - 1))) else (none)) else (none))) else (if 0 ≤ x15_1 then (if x15_1 < (x14_1.length : Int) then (nat_DivMod.l0 k1 (IntKind.u64.wrap (t202)) bt228.2 t209 (t209.length : Int) (x14_1.set (x15_1 : Int).toNat t227) (wrap64 (x15_1 - 1))) else (none)) else (none))))) else (none)) else (none)) = some (r1, r2, r3) := by first | (rw [hji69] at H; exact H) | (simp only [hji69] at H ⊢; exact H)
                have hji69w : (IntKind.i64.wrap ((t209.length : Int) - 2)) = ji69 := (i64_w _).trans hji69
                by_cases c70 : 0 ≤ (ji69)
                ·rw [if_pos c70] at H
                 have c70b0 : decide (0 ≤ (ji69)) = true := decide_eq_true c70
                 clear c70
                 by_cases c71 : (ji69) < (t209.length : Int)
                 ·rw [if_pos c71] at H
                  have c71b0 : decide ((ji69) < (t209.length : Int)) = true := decide_eq_true c71
                  (try rw [hl11_1] at c71b0)
                  (try rw [hl14_1] at c71b0)
                  clear c71
                  replace H := Option.bind_eq_some_iff.mp H
                  obtain ⟨t227, A720, H⟩ := H
                  replace H : ((nat_takes.f k1 x11_1 t209 t227 x15_1).bind fun bt228 => (if bt228.1 = true then ((nat_gives.f k1 bt228.2 t209 x15_1).bind fun t230 => (if 0 ≤ x15_1 then (if x15_1 < (x14_1.length : Int) then (nat_DivMod.l0 k1 (IntKind.u64.wrap (t202)) t230 t209 (t209.length : Int) (x14_1.set (x15_1 : Int).toNat (IntKind.u64.wrap (t227 - 1))) (wrap64 (x15_1 - 1))) else (none)) else (none))) else (if 0 ≤ x15_1 then (if x15_1 < (x14_1.length : Int) then (nat_DivMod.l0 k1 (IntKind.u64.wrap (t202)) bt228.2 t209 (t209.length : Int) (x14_1.set (x15_1 : Int).toNat t227) (wrap64 (x15_1 - 1))) else (none)) else (none)))) = some (r1, r2, r3) := H
                  have A72 := Aside0.mk A720
                  clear A720
                  replace H := Option.bind_eq_some_iff.mp H
                  obtain ⟨⟨t228, t229⟩, A730, H⟩ := H
                  replace H : (if t228 = true then ((nat_gives.f k1 t229 t209 x15_1).bind fun t230 => (if 0 ≤ x15_1 then (if x15_1 < (x14_1.length : Int) then (nat_DivMod.l0 k1 (IntKind.u64.wrap (t202)) t230 t209 (t209.length : Int) (x14_1.set (x15_1 : Int).toNat (IntKind.u64.wrap (t227 - 1))) (wrap64 (x15_1 - 1))) else (none)) else (none))) else (if 0 ≤ x15_1 then (if x15_1 < (x14_1.length : Int) then (nat_DivMod.l0 k1 (IntKind.u64.wrap (t202)) t229 t209 (t209.length : Int) (x14_1.set (x15_1 : Int).toNat t227) (wrap64 (x15_1 - 1))) else (none)) else (none))) = some (r1, r2, r3) := H
                  have A73 := Aside0.mk A730
                  clear A730
                  by_cases c74 : t228 = true
                  ·subst c74
                   have H1 : ((nat_gives.f k1 t229 t209 x15_1).bind fun t230 => (if 0 ≤ x15_1 then (if x15_1 < (x14_1.length : Int) then (nat_DivMod.l0 k1 (IntKind.u64.wrap (t202)) t230 t209 (t209.length : Int) (x14_1.set (x15_1 : Int).toNat (IntKind.u64.wrap (t227 - 1))) (wrap64 (x15_1 - 1))) else (none)) else (none))) = some (r1, r2, r3) := by rw [if_pos rfl] at H; exact H
                   clear H
                   have H := H1
                   clear H1
                   replace H := Option.bind_eq_some_iff.mp H
                   obtain ⟨t230, A750, H⟩ := H
                   replace H : (if 0 ≤ x15_1 then (if x15_1 < (x14_1.length : Int) then (nat_DivMod.l0 k1 (IntKind.u64.wrap (t202)) t230 t209 (t209.length : Int) (x14_1.set (x15_1 : Int).toNat (IntKind.u64.wrap (t227 - 1))) (wrap64 (x15_1 - 1))) else (none)) else (none)) = some (r1, r2, r3) := H
                   have A75 := Aside0.mk A750
                   clear A750
                   by_cases c76 : 0 ≤ x15_1
                   ·rw [if_pos c76] at H
                    have c76b0 : decide (0 ≤ x15_1) = true := decide_eq_true c76
                    clear c76
                    by_cases c77 : x15_1 < (x14_1.length : Int)
                    ·rw [if_pos c77] at H
                     have c77b0 : decide (x15_1 < (x14_1.length : Int)) = true := decide_eq_true c77
                     (try rw [hl11_1] at c77b0)
                     (try rw [hl14_1] at c77b0)
                     clear c77
                     obtain ⟨y231, hy231⟩ : ∃ y_ : List Int, y_ = (x14_1.set (x15_1 : Int).toNat (IntKind.u64.wrap (t227 - 1))) := ⟨_, rfl⟩
                     replace H : (nat_DivMod.l0 k1 (IntKind.u64.wrap (t202)) t230 t209 (t209.length : Int) y231 (wrap64 (x15_1 - 1))) = some (r1, r2, r3) := by first | (rw [hy231]; with_reducible exact H) | (have H2_ := (Option.bind_some _ _).symm.trans H; rw [hy231]; with_reducible exact H2_) | (have H2_ := (Option.bind_some _ _).symm.trans H; with_reducible exact H2_) | with_reducible exact H | (rw [hy231]; exact H) | exact H
                     have Ny231 := Aside0.mk hy231
                     clear hy231
                     have H' := Aside0.mk H
                     clear H
                     try go_wp2
                     have n0_ := Aside0.mk (Kd.R_drew HO_11.out)
                     have n1_ := Aside0.mk (Kd.V_drew HO_12.out)
                     have n2_ := Aside0.mk (Kd.R_drew HO_14.out)
                     have n3_ := Aside0.mk (below_drew1 HB.out)
                     clear HO_11
                     clear HO_12
                     clear HO_14
                     clear HB
                     have HO_11 := n0_
                     have HO_12 := n1_
                     have HO_14 := n2_
                     have HB := n3_
                     clear n0_ n1_ n2_ n3_
                     have p222 : 0 ≤ ((ji57) : Int) := of_decide_eq_true (by first | (with_reducible assumption) | assumption)
                     have q222 : (ji57) < (x11_1.length : Int) := of_decide_eq_true (by first | (with_reducible assumption) | assumption)
                     obtain ⟨ad222, e222, hx222_0⟩ := Kd.at_int (Kd.R_reads' HO_11.out).2.2 (ji57) p222 q222
                     cases e222
                     replace p222 := eq_true p222
                     replace q222 := eq_true q222
                     have p223 : 0 ≤ ((ji60) : Int) := of_decide_eq_true (by first | (with_reducible assumption) | assumption)
                     have q223 : (ji60) < (x11_1.length : Int) := of_decide_eq_true (by first | (with_reducible assumption) | assumption)
                     obtain ⟨ad223, e223, hx223_0⟩ := Kd.at_int (Kd.R_reads' HO_11.out).2.2 (ji60) p223 q223
                     obtain rfl : ad222 = ad223 := (by injection e223)
                     replace p223 := eq_true p223
                     replace q223 := eq_true q223
                     have p224 : 0 ≤ ((ji63) : Int) := of_decide_eq_true (by first | (with_reducible assumption) | assumption)
                     have q224 : (ji63) < (x11_1.length : Int) := of_decide_eq_true (by first | (with_reducible assumption) | assumption)
                     obtain ⟨ad224, e224, hx224_0⟩ := Kd.at_int (Kd.R_reads' HO_11.out).2.2 (ji63) p224 q224
                     obtain rfl : ad222 = ad224 := (by injection e224)
                     replace p224 := eq_true p224
                     replace q224 := eq_true q224
                     have p225 : 0 ≤ ((ji66) : Int) := of_decide_eq_true (by first | (with_reducible assumption) | assumption)
                     have q225 : (ji66) < (t209.length : Int) := of_decide_eq_true (by first | (with_reducible assumption) | assumption)
                     obtain ⟨ad225, e225, hx225_0⟩ := Kd.at_int (Kd.V_reads' HO_12.out).2.2 (ji66) p225 q225
                     cases e225
                     replace p225 := eq_true p225
                     replace q225 := eq_true q225
                     have p226 : 0 ≤ ((ji69) : Int) := of_decide_eq_true (by first | (with_reducible assumption) | assumption)
                     have q226 : (ji69) < (t209.length : Int) := of_decide_eq_true (by first | (with_reducible assumption) | assumption)
                     obtain ⟨ad226, e226, hx226_0⟩ := Kd.at_int (Kd.V_reads' HO_12.out).2.2 (ji69) p226 q226
                     obtain rfl : ad225 = ad226 := (by injection e226)
                     replace p226 := eq_true p226
                     replace q226 := eq_true q226
                     refine start_ (n := 32) (S := fun w' => w'.cell? (ad222.add ((ji57)).toNat) = some (.int .u64 (rd x11_1 (ji57))) ∧ w'.cell? (ad222.add ((ji60)).toNat) = some (.int .u64 (rd x11_1 (ji60))) ∧ w'.cell? (ad222.add ((ji63)).toNat) = some (.int .u64 (rd x11_1 (ji63))) ∧ w'.cell? (ad225.add ((ji66)).toNat) = some (.int .u64 (rd t209 (ji66))) ∧ w'.cell? (ad225.add ((ji69)).toNat) = some (.int .u64 (rd t209 (ji69)))) (ds := []) #[false, false, false, false, false, false, false, false, false, false, false, false, false, false, false, false, false, false, false, false, false, false, false, false, false, false, false, false, false, false, false, false] (by kernel_rfl) rfl rfl ⟨hx222_0, hx223_0, hx224_0, hx225_0, hx226_0⟩ (fun hHeld => ?_); refine with_tabW nat_DivMod.tab16 nat_DivMod.bits16 (fun HT_ HW_ => ?_)
                     generalize wr.drew = w79 at HO_11 HO_12 HO_14 HB hx222_0 hx223_0 hx224_0 hx225_0 hx226_0 hHeld ⊢
                     refine pure_ (i := 0) (N := some 81) (v := ?_) (a' := ?_) #[true, false, false, false, false, false, false, false, false, false, false, false, false, false, false, false, false, false, false, false, false, false, false, false, false, false, false, false, false, false, false, false] rfl rfl (any_of HT_.out (by kernel_rfl)) (fun _ _ _ h => h) (Or.inl ⟨by rfl, ?_⟩) ?_ ?_
                     rotate_left
                     ·intro w'
                      go_simp
                      with_reducible rfl
                     rotate_left
                     ·simp only [Act.put, List.setIfInBounds_toArray, List.set_cons_zero, List.set_cons_succ, i64_w, i32_w]
                      rfl
                     refine pure_ (i := 1) (N := some 82) (v := ?_) (a' := ?_) #[true, true, false, false, false, false, false, false, false, false, false, false, false, false, false, false, false, false, false, false, false, false, false, false, false, false, false, false, false, false, false, false] rfl rfl (any_of HT_.out (by kernel_rfl)) (fun _ _ _ h => h) (Or.inl ⟨by rfl, ?_⟩) ?_ ?_
                     rotate_left
                     ·intro w'
                      go_simp
                      with_reducible rfl
                     rotate_left
                     ·simp only [Act.put, List.setIfInBounds_toArray, List.set_cons_zero, List.set_cons_succ, i64_w, i32_w]
                      rfl
                     refine pure_ (i := 2) (N := some 83) (v := ?_) (a' := ?_) #[true, true, true, false, false, false, false, false, false, false, false, false, false, false, false, false, false, false, false, false, false, false, false, false, false, false, false, false, false, false, false, false] rfl rfl (any_of HT_.out (by kernel_rfl)) (fun _ _ _ h => h) (Or.inl ⟨by rfl, ?_⟩) ?_ ?_
                     rotate_left
                     ·intro w'
                      go_simp
                      with_reducible rfl
                     rotate_left
                     ·simp only [Act.put, List.setIfInBounds_toArray, List.set_cons_zero, List.set_cons_succ, i64_w, i32_w]
                      rfl
                     refine pure_ (i := 3) (N := some 84) (v := ?_) (a' := ?_) #[true, true, true, true, false, false, false, false, false, false, false, false, false, false, false, false, false, false, false, false, false, false, false, false, false, false, false, false, false, false, false, false] rfl rfl (any_of HT_.out (by kernel_rfl)) (fun _ _ _ h => h) (Or.inl ⟨by rfl, ?_⟩) ?_ ?_
                     rotate_left
                     ·intro w'
                      go_simp
                      with_reducible rfl
                     rotate_left
                     ·simp only [Act.put, List.setIfInBounds_toArray, List.set_cons_zero, List.set_cons_succ, i64_w, i32_w]
                      rfl
                     refine pure_ (i := 4) (N := some 85) (v := ?_) (a' := ?_) #[true, true, true, true, true, false, false, false, false, false, false, false, false, false, false, false, false, false, false, false, false, false, false, false, false, false, false, false, false, false, false, false] rfl rfl (any_of HT_.out (by kernel_rfl)) (fun _ _ _ h => h) (Or.inl ⟨by rfl, ?_⟩) ?_ ?_
                     rotate_left
                     ·intro w'
                      go_simp
                      with_reducible rfl
                     rotate_left
                     ·simp only [Act.put, List.setIfInBounds_toArray, List.set_cons_zero, List.set_cons_succ, i64_w, i32_w]
                      rfl
                     refine pure_ (i := 6) (N := some 87) (v := ?_) (a' := ?_) #[true, true, true, true, true, false, true, false, false, false, false, false, false, false, false, false, false, false, false, false, false, false, false, false, false, false, false, false, false, false, false, false] rfl rfl (any_of HT_.out (by kernel_rfl)) (fun _ _ _ h => h) (Or.inl ⟨by rfl, ?_⟩) ?_ ?_
                     rotate_left
                     ·intro w'
                      go_simp
                      with_reducible rfl
                     rotate_left
                     ·simp only [Act.put, List.setIfInBounds_toArray, List.set_cons_zero, List.set_cons_succ, i64_w, i32_w]
                      rfl
                     refine pure_ (i := 7) (N := some 88) (v := ?_) (a' := ?_) #[true, true, true, true, true, false, true, true, false, false, false, false, false, false, false, false, false, false, false, false, false, false, false, false, false, false, false, false, false, false, false, false] rfl rfl (any_of HT_.out (by kernel_rfl)) (fun _ _ _ h => h) (Or.inl ⟨by rfl, ?_⟩) ?_ ?_
                     rotate_left
                     ·intro w'
                      go_simp
                      with_reducible rfl
                     rotate_left
                     ·simp only [Act.put, List.setIfInBounds_toArray, List.set_cons_zero, List.set_cons_succ, i64_w, i32_w]
                      rfl
                     refine pure_ (i := 8) (N := some 89) (v := ?_) (a' := ?_) #[true, true, true, true, true, false, true, true, true, false, false, false, false, false, false, false, false, false, false, false, false, false, false, false, false, false, false, false, false, false, false, false] rfl rfl (any_of HT_.out (by kernel_rfl)) (fun _ _ _ h => h) (Or.inl ⟨by rfl, ?_⟩) ?_ ?_
                     rotate_left
                     ·intro w'
                      go_simp
                      with_reducible rfl
                     rotate_left
                     ·simp only [Act.put, List.setIfInBounds_toArray, List.set_cons_zero, List.set_cons_succ, i64_w, i32_w]
                      rfl
                     refine pure_ (i := 9) (N := some 90) (v := ?_) (a' := ?_) #[true, true, true, true, true, false, true, true, true, true, false, false, false, false, false, false, false, false, false, false, false, false, false, false, false, false, false, false, false, false, false, false] rfl rfl (any_of HT_.out (by kernel_rfl)) (fun _ _ _ h => h) (Or.inl ⟨by rfl, ?_⟩) ?_ ?_
                     rotate_left
                     ·intro w'
                      go_simp
                      with_reducible rfl
                     rotate_left
                     ·simp only [Act.put, List.setIfInBounds_toArray, List.set_cons_zero, List.set_cons_succ, i64_w, i32_w]
                      rfl
                     refine pure_ (i := 10) (N := some 91) (v := ?_) (a' := ?_) #[true, true, true, true, true, false, true, true, true, true, true, false, false, false, false, false, false, false, false, false, false, false, false, false, false, false, false, false, false, false, false, false] rfl rfl (any_of HT_.out (by kernel_rfl)) (fun _ _ _ h => h) (Or.inl ⟨by rfl, ?_⟩) ?_ ?_
                     rotate_left
                     ·intro w'
                      go_simp
                      with_reducible rfl
                     rotate_left
                     ·simp only [Act.put, List.setIfInBounds_toArray, List.set_cons_zero, List.set_cons_succ, i64_w, i32_w]
                      rfl
                     refine pure_ (i := 11) (N := some 92) (v := ?_) (a' := ?_) #[true, true, true, true, true, false, true, true, true, true, true, true, false, false, false, false, false, false, false, false, false, false, false, false, false, false, false, false, false, false, false, false] rfl rfl (any_of HT_.out (by kernel_rfl)) (fun _ _ _ h => h) (Or.inl ⟨by rfl, ?_⟩) ?_ ?_
                     rotate_left
                     ·intro w'
                      go_simp
                      with_reducible rfl
                     rotate_left
                     ·simp only [Act.put, List.setIfInBounds_toArray, List.set_cons_zero, List.set_cons_succ, i64_w, i32_w]
                      rfl
                     refine pure_ (i := 13) (N := some 94) (v := ?_) (a' := ?_) #[true, true, true, true, true, false, true, true, true, true, true, true, false, true, false, false, false, false, false, false, false, false, false, false, false, false, false, false, false, false, false, false] rfl rfl (any_of HT_.out (by kernel_rfl)) (fun _ _ _ h => h) (Or.inl ⟨by rfl, ?_⟩) ?_ ?_
                     rotate_left
                     ·intro w'
                      go_simp
                      with_reducible rfl
                     rotate_left
                     ·simp only [Act.put, List.setIfInBounds_toArray, List.set_cons_zero, List.set_cons_succ, i64_w, i32_w]
                      rfl
                     refine pure_ (i := 14) (N := some 95) (v := ?_) (a' := ?_) #[true, true, true, true, true, false, true, true, true, true, true, true, false, true, true, false, false, false, false, false, false, false, false, false, false, false, false, false, false, false, false, false] rfl rfl (any_of HT_.out (by kernel_rfl)) (fun _ _ _ h => h) (Or.inl ⟨by rfl, ?_⟩) ?_ ?_
                     rotate_left
                     ·intro w'
                      go_simp
                      with_reducible rfl
                     rotate_left
                     ·simp only [Act.put, List.setIfInBounds_toArray, List.set_cons_zero, List.set_cons_succ, i64_w, i32_w]
                      rfl
                     refine pure_ (i := 15) (N := some 96) (v := ?_) (a' := ?_) #[true, true, true, true, true, false, true, true, true, true, true, true, false, true, true, true, false, false, false, false, false, false, false, false, false, false, false, false, false, false, false, false] rfl rfl (any_of HT_.out (by kernel_rfl)) (fun _ _ _ h => h) (Or.inl ⟨by rfl, ?_⟩) ?_ ?_
                     rotate_left
                     ·intro w'
                      go_simp
                      with_reducible rfl
                     rotate_left
                     ·simp only [Act.put, List.setIfInBounds_toArray, List.set_cons_zero, List.set_cons_succ, i64_w, i32_w]
                      rfl
                     refine pure_ (i := 16) (N := some 97) (v := ?_) (a' := ?_) #[true, true, true, true, true, false, true, true, true, true, true, true, false, true, true, true, true, false, false, false, false, false, false, false, false, false, false, false, false, false, false, false] rfl rfl (any_of HT_.out (by kernel_rfl)) (fun _ _ _ h => h) (Or.inl ⟨by rfl, ?_⟩) ?_ ?_
                     rotate_left
                     ·intro w'
                      go_simp
                      with_reducible rfl
                     rotate_left
                     ·simp only [Act.put, List.setIfInBounds_toArray, List.set_cons_zero, List.set_cons_succ, i64_w, i32_w]
                      rfl
                     refine pure_ (i := 17) (N := some 98) (v := ?_) (a' := ?_) #[true, true, true, true, true, false, true, true, true, true, true, true, false, true, true, true, true, true, false, false, false, false, false, false, false, false, false, false, false, false, false, false] rfl rfl (any_of HT_.out (by kernel_rfl)) (fun _ _ _ h => h) (Or.inl ⟨by rfl, ?_⟩) ?_ ?_
                     rotate_left
                     ·intro w'
                      go_simp
                      with_reducible rfl
                     rotate_left
                     ·simp only [Act.put, List.setIfInBounds_toArray, List.set_cons_zero, List.set_cons_succ, i64_w, i32_w]
                      rfl
                     refine pure_ (i := 18) (N := some 99) (v := ?_) (a' := ?_) #[true, true, true, true, true, false, true, true, true, true, true, true, false, true, true, true, true, true, true, false, false, false, false, false, false, false, false, false, false, false, false, false] rfl rfl (any_of HT_.out (by kernel_rfl)) (fun _ _ _ h => h) (Or.inl ⟨by rfl, ?_⟩) ?_ ?_
                     rotate_left
                     ·intro w'
                      go_simp
                      with_reducible rfl
                     rotate_left
                     ·simp only [Act.put, List.setIfInBounds_toArray, List.set_cons_zero, List.set_cons_succ, i64_w, i32_w]
                      rfl
                     refine pure_ (i := 20) (N := some 101) (v := ?_) (a' := ?_) #[true, true, true, true, true, false, true, true, true, true, true, true, false, true, true, true, true, true, true, false, true, false, false, false, false, false, false, false, false, false, false, false] rfl rfl (any_of HT_.out (by kernel_rfl)) (fun _ _ _ h => h) (Or.inl ⟨by rfl, ?_⟩) ?_ ?_
                     rotate_left
                     ·intro w'
                      go_simp
                      with_reducible rfl
                     rotate_left
                     ·simp only [Act.put, List.setIfInBounds_toArray, List.set_cons_zero, List.set_cons_succ, i64_w, i32_w]
                      rfl
                     refine pure_ (i := 21) (N := some 102) (v := ?_) (a' := ?_) #[true, true, true, true, true, false, true, true, true, true, true, true, false, true, true, true, true, true, true, false, true, true, false, false, false, false, false, false, false, false, false, false] rfl rfl (any_of HT_.out (by kernel_rfl)) (fun _ _ _ h => h) (Or.inl ⟨by rfl, ?_⟩) ?_ ?_
                     rotate_left
                     ·intro w'
                      go_simp
                      with_reducible rfl
                     rotate_left
                     ·simp only [Act.put, List.setIfInBounds_toArray, List.set_cons_zero, List.set_cons_succ, i64_w, i32_w]
                      rfl
                     refine pure_ (i := 22) (N := some 103) (v := ?_) (a' := ?_) #[true, true, true, true, true, false, true, true, true, true, true, true, false, true, true, true, true, true, true, false, true, true, true, false, false, false, false, false, false, false, false, false] rfl rfl (any_of HT_.out (by kernel_rfl)) (fun _ _ _ h => h) (Or.inl ⟨by rfl, ?_⟩) ?_ ?_
                     rotate_left
                     ·intro w'
                      go_simp
                      with_reducible rfl
                     rotate_left
                     ·simp only [Act.put, List.setIfInBounds_toArray, List.set_cons_zero, List.set_cons_succ, i64_w, i32_w]
                      rfl
                     refine pure_ (i := 23) (N := some 104) (v := ?_) (a' := ?_) #[true, true, true, true, true, false, true, true, true, true, true, true, false, true, true, true, true, true, true, false, true, true, true, true, false, false, false, false, false, false, false, false] rfl rfl (any_of HT_.out (by kernel_rfl)) (fun _ _ _ h => h) (Or.inl ⟨by rfl, ?_⟩) ?_ ?_
                     rotate_left
                     ·intro w'
                      go_simp
                      with_reducible rfl
                     rotate_left
                     ·simp only [Act.put, List.setIfInBounds_toArray, List.set_cons_zero, List.set_cons_succ, i64_w, i32_w]
                      rfl
                     refine pure_ (i := 25) (N := some 106) (v := ?_) (a' := ?_) #[true, true, true, true, true, false, true, true, true, true, true, true, false, true, true, true, true, true, true, false, true, true, true, true, false, true, false, false, false, false, false, false] rfl rfl (any_of HT_.out (by kernel_rfl)) (fun _ _ _ h => h) (Or.inl ⟨by rfl, ?_⟩) ?_ ?_
                     rotate_left
                     ·intro w'
                      go_simp
                      with_reducible rfl
                     rotate_left
                     ·simp only [Act.put, List.setIfInBounds_toArray, List.set_cons_zero, List.set_cons_succ, i64_w, i32_w]
                      rfl
                     refine pure_ (i := 26) (N := some 107) (v := ?_) (a' := ?_) #[true, true, true, true, true, false, true, true, true, true, true, true, false, true, true, true, true, true, true, false, true, true, true, true, false, true, true, false, false, false, false, false] rfl rfl (any_of HT_.out (by kernel_rfl)) (fun _ _ _ h => h) (Or.inl ⟨by rfl, ?_⟩) ?_ ?_
                     rotate_left
                     ·intro w'
                      go_simp
                      with_reducible rfl
                     rotate_left
                     ·simp only [Act.put, List.setIfInBounds_toArray, List.set_cons_zero, List.set_cons_succ, i64_w, i32_w]
                      rfl
                     refine pure_ (i := 27) (N := some 108) (v := ?_) (a' := ?_) #[true, true, true, true, true, false, true, true, true, true, true, true, false, true, true, true, true, true, true, false, true, true, true, true, false, true, true, true, false, false, false, false] rfl rfl (any_of HT_.out (by kernel_rfl)) (fun _ _ _ h => h) (Or.inl ⟨by rfl, ?_⟩) ?_ ?_
                     rotate_left
                     ·intro w'
                      go_simp
                      with_reducible rfl
                     rotate_left
                     ·simp only [Act.put, List.setIfInBounds_toArray, List.set_cons_zero, List.set_cons_succ, i64_w, i32_w]
                      rfl
                     refine pure_ (i := 28) (N := some 109) (v := ?_) (a' := ?_) #[true, true, true, true, true, false, true, true, true, true, true, true, false, true, true, true, true, true, true, false, true, true, true, true, false, true, true, true, true, false, false, false] rfl rfl (any_of HT_.out (by kernel_rfl)) (fun _ _ _ h => h) (Or.inl ⟨by rfl, ?_⟩) ?_ ?_
                     rotate_left
                     ·intro w'
                      go_simp
                      with_reducible rfl
                     rotate_left
                     ·simp only [Act.put, List.setIfInBounds_toArray, List.set_cons_zero, List.set_cons_succ, i64_w, i32_w]
                      rfl
                     refine take_ (i := 5) (N := some 86) (v := ?_) (a' := ?_) #[true, true, true, true, true, true, true, true, true, true, true, true, false, true, true, true, true, true, true, false, true, true, true, true, false, true, true, true, true, false, false, false] rfl rfl (take_ofW HT_.out HW_.out (by kernel_rfl)) (fun _ _ _ h => h) (Or.inl ⟨by rfl, ?_⟩) hHeld ?_ ?_
                     rotate_left
                     ·rintro w' ⟨s0, s1, s2, s3, s4⟩
                      go_simp
                      with_reducible rfl
                     rotate_left
                     ·simp only [Act.put, List.setIfInBounds_toArray, List.set_cons_zero, List.set_cons_succ, i64_w, i32_w]
                      rfl
                     refine take_ (i := 12) (N := some 93) (v := ?_) (a' := ?_) #[true, true, true, true, true, true, true, true, true, true, true, true, true, true, true, true, true, true, true, false, true, true, true, true, false, true, true, true, true, false, false, false] rfl rfl (take_ofW HT_.out HW_.out (by kernel_rfl)) (fun _ _ _ h => h) (Or.inl ⟨by rfl, ?_⟩) hHeld ?_ ?_
                     rotate_left
                     ·rintro w' ⟨s0, s1, s2, s3, s4⟩
                      go_simp
                      with_reducible rfl
                     rotate_left
                     ·simp only [Act.put, List.setIfInBounds_toArray, List.set_cons_zero, List.set_cons_succ, i64_w, i32_w]
                      rfl
                     refine take_ (i := 19) (N := some 100) (v := ?_) (a' := ?_) #[true, true, true, true, true, true, true, true, true, true, true, true, true, true, true, true, true, true, true, true, true, true, true, true, false, true, true, true, true, false, false, false] rfl rfl (take_ofW HT_.out HW_.out (by kernel_rfl)) (fun _ _ _ h => h) (Or.inl ⟨by rfl, ?_⟩) hHeld ?_ ?_
                     rotate_left
                     ·rintro w' ⟨s0, s1, s2, s3, s4⟩
                      go_simp
                      with_reducible rfl
                     rotate_left
                     ·simp only [Act.put, List.setIfInBounds_toArray, List.set_cons_zero, List.set_cons_succ, i64_w, i32_w]
                      rfl
                     refine take_ (i := 24) (N := some 105) (v := ?_) (a' := ?_) #[true, true, true, true, true, true, true, true, true, true, true, true, true, true, true, true, true, true, true, true, true, true, true, true, true, true, true, true, true, false, false, false] rfl rfl (take_ofW HT_.out HW_.out (by kernel_rfl)) (fun _ _ _ h => h) (Or.inl ⟨by rfl, ?_⟩) hHeld ?_ ?_
                     rotate_left
                     ·rintro w' ⟨s0, s1, s2, s3, s4⟩
                      go_simp
                      with_reducible rfl
                     rotate_left
                     ·simp only [Act.put, List.setIfInBounds_toArray, List.set_cons_zero, List.set_cons_succ, i64_w, i32_w]
                      rfl
                     refine take_ (i := 29) (N := some 110) (v := ?_) (a' := ?_) #[true, true, true, true, true, true, true, true, true, true, true, true, true, true, true, true, true, true, true, true, true, true, true, true, true, true, true, true, true, true, false, false] rfl rfl (take_ofW HT_.out HW_.out (by kernel_rfl)) (fun _ _ _ h => h) (Or.inl ⟨by rfl, ?_⟩) hHeld ?_ ?_
                     rotate_left
                     ·rintro w' ⟨s0, s1, s2, s3, s4⟩
                      go_simp
                      with_reducible rfl
                     rotate_left
                     ·simp only [Act.put, List.setIfInBounds_toArray, List.set_cons_zero, List.set_cons_succ, i64_w, i32_w]
                      rfl
                     refine one_ (i := 30) (N := some 111) #[true, true, true, true, true, true, true, true, true, true, true, true, true, true, true, true, true, true, true, true, true, true, true, true, true, true, true, true, true, true, true, false] rfl rfl (one_of HT_.out (by kernel_rfl)) (by decide) (fun K hK => ?_)
                     refine goes_ Tryd.func45 (by kernel_rfl) rfl #[.int .u64 (rd x11_1 (ji57)), .int .u64 (rd x11_1 (ji60)), .int .u64 (rd x11_1 (ji63)), .int .u64 (rd t209 (ji66)), .int .u64 (rd t209 (ji69))] (by rfl) rfl rfl (by (try simp only [List.map_toArray, List.map_cons, List.map_nil]); first | done | (simp only [hji57, hji60, hji63, hji66, hji69]; rfl) | rfl | (simp only [List.length_drop, List.length_take]; rfl)) ?_
                     with_reducible refine (nat_guess.calls k1 (rd x11_1 (ji57)) (rd x11_1 (ji60)) (rd x11_1 (ji63)) (rd t209 (ji66)) (rd t209 (ji69)) t227 _ A72.out).mono ?_
                     rintro e w' ⟨rfl, ⟨nd, rfl⟩⟩
                     refine ⟨_, rfl, ?_⟩
                     refine hK.out _ _ ⟨hHeld.1, hHeld.2.1, hHeld.2.2.1, hHeld.2.2.2.1, hHeld.2.2.2.2⟩ (fun hHeld => ?_)
                     clear hK K
                     refine norm_ (a' := ?_) ?_ ?_
                     rotate_left
                     ·show Act.put _ (some 111) _ = _
                      simp only [Act.put, List.setIfInBounds_toArray, List.set_cons_zero, List.set_cons_succ, i64_w, i32_w]
                      rfl
                     refine pure_ (i := 31) (N := some 16) (v := ?_) (a' := ?_) #[true, true, true, true, true, true, true, true, true, true, true, true, true, true, true, true, true, true, true, true, true, true, true, true, true, true, true, true, true, true, true, true] rfl rfl (any_of HT_.out (by kernel_rfl)) (fun _ _ _ h => h) (Or.inl ⟨by rfl, ?_⟩) ?_ ?_
                     rotate_left
                     ·intro w'
                      go_simp
                      with_reducible rfl
                     rotate_left
                     ·simp only [Act.put, List.setIfInBounds_toArray, List.set_cons_zero, List.set_cons_succ, i64_w, i32_w]
                      rfl
                     refine done_ (done_of HT_.out (by kernel_rfl)) ?_
                     try go_wp2_with (first | ((with_reducible refine gate_callee (f := 46) rfl ?_); refine goesL_ (some 116) rfl rfl Tryd.func46 (by kernel_rfl) rfl #[.slice (some ad222) x11_1.length co52, .slice (some ad225) t209.length co51, .int .u64 t227, .int .i64 x15_1] rfl (by (try simp only [List.map_toArray, List.map_cons, List.map_nil]); first | done | (simp only [hl11_1, hl14_1]; done) | (simp only [hl11_1, hl14_1]; rfl) | rfl | (simp only [List.length_drop, List.length_take]; rfl)) ?_; (with_reducible refine (nat_takes.calls k1 (fun k_ => some k_ = (.slice (some ad222) x11_1.length co52 : Value).ownBlock) (.slice (some ad222) x11_1.length co52) x11_1 _ _ t209 t227 x15_1 true t229 w _ ?side1 ?side2 ?side3 ?side4 A73.out).mono ?_); (case side1 => repeat (first | (with_reducible first | exact HB.out | apply below_alloc | apply pw_below_drewN | apply below_drew1) | exact HB.out)); (case side2 => exact Kd.R_tight rfl HO_11.out); (case side3 => exact Kd.C_kept_ownV (e := 24) (base := w.heap.size) (HO_12.out) (fun k_ hk_ hs_ => (hk_.2.1) hs_)); (case side4 => exact (Kd.V_reads' HO_12.out).2.1); rintro e w80 ⟨rfl, hy0, hb, hkp⟩; refine ⟨_, rfl, ?_⟩; have n0_ := Aside0.mk (Kd.R_reok rfl hy0 (fun k_ e_ => HO_11.out.1 k_ e_)); have n1_ := Aside0.mk (Kd.V_mono (ok' := fun k_ => ((P0_ k_ ∨ P1_ k_) ∨ w.heap.size ≤ k_) ∧ some k_ ≠ (.slice (some ad222) x11_1.length co52 : Value).ownBlock ∧ some k_ ≠ (.slice Ao55 x14_1.length co55 : Value).ownBlock) (Kd.V_keptB (HO_12.out) hkp (fun k_ hk_ hs_ => (hk_.2.1) hs_)) (fun k_ hk_ => ⟨hk_.1.1, hk_.1.2.1, hk_.1.2.2⟩)); have n2_ := Aside0.mk (Kd.R_mono (ok' := fun k_ => (w.heap.size ≤ k_) ∧ some k_ ≠ (.slice (some ad222) x11_1.length co52 : Value).ownBlock) (Kd.R_keptB (HO_14.out) hkp (fun k_ hk_ hs_ => (hk_.2) hs_)) (fun k_ hk_ => ⟨hk_.1.1, hk_.1.2⟩)); have n3_ := Aside0.mk (hb); clear HO_11; clear HO_12; clear HO_14; clear HB; have HO_11 := n0_; have HO_12 := n1_; have HO_14 := n2_; have HB := n3_; clear n0_ n1_ n2_ n3_; (try clear hb); (try clear hkp); (try clear hy0)) | ((with_reducible refine gate_callee (f := 47) rfl ?_); refine goesL_ (some 122) rfl rfl Tryd.func47 (by kernel_rfl) rfl #[.slice (some ad222) x11_1.length co52, .slice (some ad225) t209.length co51, .int .i64 x15_1] rfl (by (try simp only [List.map_toArray, List.map_cons, List.map_nil]); first | done | (simp only [hl11_1, hl14_1]; done) | (simp only [hl11_1, hl14_1]; rfl) | rfl | (simp only [List.length_drop, List.length_take]; rfl)) ?_; (with_reducible refine (nat_gives.calls k1 (fun k_ => some k_ = (.slice (some ad222) x11_1.length co52 : Value).ownBlock) (.slice (some ad222) x11_1.length co52) t229 _ _ t209 x15_1 t230 w _ ?side1 ?side2 ?side3 ?side4 A75.out).mono ?_); (case side1 => repeat (first | (with_reducible first | exact HB.out | apply below_alloc | apply pw_below_drewN | apply below_drew1) | exact HB.out)); (case side2 => exact Kd.R_tight rfl HO_11.out); (case side3 => exact Kd.C_kept_ownV (e := 24) (base := w.heap.size) (HO_12.out) (fun k_ hk_ hs_ => (hk_.2.1) hs_)); (case side4 => exact (Kd.V_reads' HO_12.out).2.1); rintro e w81 ⟨rfl, hy0, hb, hkp⟩; refine ⟨_, rfl, ?_⟩; have n0_ := Aside0.mk (Kd.R_reok rfl hy0 (fun k_ e_ => HO_11.out.1 k_ e_)); have n1_ := Aside0.mk (Kd.V_mono (ok' := fun k_ => ((P0_ k_ ∨ P1_ k_) ∨ w.heap.size ≤ k_) ∧ some k_ ≠ (.slice (some ad222) x11_1.length co52 : Value).ownBlock ∧ some k_ ≠ (.slice Ao55 x14_1.length co55 : Value).ownBlock) (Kd.V_keptB (HO_12.out) hkp (fun k_ hk_ hs_ => (hk_.2.1) hs_)) (fun k_ hk_ => ⟨hk_.1.1, hk_.1.2.1, hk_.1.2.2⟩)); have n2_ := Aside0.mk (Kd.R_mono (ok' := fun k_ => (w.heap.size ≤ k_) ∧ some k_ ≠ (.slice (some ad222) x11_1.length co52 : Value).ownBlock) (Kd.R_keptB (HO_14.out) hkp (fun k_ hk_ hs_ => (hk_.2) hs_)) (fun k_ hk_ => ⟨hk_.1.1, hk_.1.2⟩)); have n3_ := Aside0.mk (hb); clear HO_11; clear HO_12; clear HO_14; clear HB; have HO_11 := n0_; have HO_12 := n1_; have HO_14 := n2_; have HB := n3_; clear n0_ n1_ n2_ n3_; (try clear hb); (try clear hkp); (try clear hy0); have p78 : 0 ≤ (x15_1 : Int) := of_decide_eq_true (by first | (with_reducible assumption) | assumption); have q78 : (x15_1 : Int) < ((x14_1.length : Int) : Int) := of_decide_eq_true (by first | (with_reducible assumption) | assumption); obtain ⟨go78, co78, eo78, gb78, gl78, cl78, HG78⟩ := Kd.R_form HO_14.out (by omega); (first | cases eo78 | (injection eo78 with ea_ en_ ec_; (first | subst ea_ | (injection ea_ with ea_; subst ea_)); subst ec_; clear en_)); have GB78 := Aside0.mk gb78; have GG78 := Aside0.mk HG78; clear gb78 gl78 HG78; obtain ⟨hx78_0, hf78_0⟩ := Kd.R_celln 0 HO_14.out (x15_1 : Int) p78 q78; replace p78 := eq_true p78; replace q78 := eq_true q78; obtain ⟨hy82_, hz82_⟩ := Kd.R_celln 0 HO_14.out (x15_1 : Int) (of_decide_eq_true (by first | (with_reducible assumption) | assumption)) (of_decide_eq_true (by first | (with_reducible assumption) | assumption)); have HP82 := Kd.R_putg HO_14.out (x15_1 : Int) (IntKind.u64.wrap (t227 - 1))) | ((with_reducible refine gate_store (t := 24) (p := 126) rfl ?_); refine store_event (t := 24) (p := 126) (v := ?vo_w83) (w1 := (w81.setCell ⟨go78, (x15_1 : Int).toNat, none⟩ (.int .u64 (IntKind.u64.wrap (t227 - 1))))) ?hg ?ho ?hn ?hr ?_; (case ho => rfl); (case hg => rfl); (case hn => rfl); (case hr => first | (go_simp; done) | (go_simp; rfl)); intro w83 hw; have hg : w81.grownBy w83 (some go78) := (by rw [hw]; exact HP82.2); have hp_ : Kd.R (Kd.int .u64) 24 w83 w.heap.size (fun k_ => (w.heap.size ≤ k_) ∧ some k_ ≠ (.slice (some ad222) x11_1.length co52 : Value).ownBlock) (.slice (some ⟨go78, 0, none⟩) x14_1.length co55) y231 := (by rw [hw, Ny231.out]; exact HP82.1); clear HP82; have n0_ := Aside0.mk (Kd.R_after (v := (.slice (some ⟨go78, 0, none⟩) x14_1.length co55)) (v1 := (.slice (some ⟨go78, 0, none⟩) x14_1.length co55)) (ok := (fun k_ => (w.heap.size ≤ k_))) (by (with_reducible repeat (first | apply Kd.R_alloc | apply Kd.R_drewN | apply Kd.R_drew)); exact HO_11.out) hg (.inl rfl)); have n1_ := Aside0.mk (Kd.V_afterv (v := (.slice (some ⟨go78, 0, none⟩) x14_1.length co55)) (v1 := (.slice (some ⟨go78, 0, none⟩) x14_1.length co55)) (ok := (fun k_ => ((P0_ k_ ∨ P1_ k_) ∨ w.heap.size ≤ k_) ∧ some k_ ≠ (.slice (some ad222) x11_1.length co52 : Value).ownBlock)) (by (with_reducible repeat (first | apply Kd.V_alloc | apply Kd.V_drewN | apply Kd.V_drew)); exact Kd.V_mono HO_12.out (fun _ hk => ⟨⟨hk.1, hk.2.1⟩, hk.2.2⟩)) hg (.inl rfl)); have n2_ := Aside0.mk (hp_); have n3_ := Aside0.mk ((by rw [hw]; exact below_set (HB.out) GB78.out : Below w.heap.size w w83)); clear HO_11; clear HO_12; clear HO_14; clear HB; have HO_11 := n0_; have HO_12 := n1_; have HO_14 := n2_; have HB := n3_; clear n0_ n1_ n2_ n3_; clear hg hw hp_))
                     (try simp only [← hl11_1, ← hl14_1])
                     go_roundg k1
                     case measure => have := HK1.out; omega
                     case rel => exact ⟨(t230), (y231), (wrap64 (x15_1 - 1)), (by first | rfl | (simp; done) | (simp [*]; done)), H', ⟨by have := HK1.out; omega⟩, ⟨by (try simp only [hl11_1]); (try simp only [hl14_1]); (with_reducible repeat (first | apply Kd.R_alloc | apply Kd.R_drewN | apply Kd.R_drew)); exact HO_11.out⟩, ⟨by (try simp only [hl11_1]); (try simp only [hl14_1]); (with_reducible repeat (first | apply Kd.V_alloc | apply Kd.V_drewN | apply Kd.V_drew)); exact Kd.V_mono HO_12.out (fun _ hk => ⟨hk.1.1, ⟨hk.1.2, hk.2⟩⟩)⟩, ⟨by (try simp only [hl11_1]); (try simp only [hl14_1]); (with_reducible repeat (first | apply Kd.R_alloc | apply Kd.R_drewN | apply Kd.R_drew)); exact HO_14.out⟩, ⟨by repeat (first | (with_reducible first | exact HB.out | apply below_alloc | apply pw_below_drewN | apply below_drew1) | exact HB.out)⟩⟩
                    rw [if_neg c77] at H
                    exact absurd H (by simp)
                   rw [if_neg c76] at H
                   exact absurd H (by simp)
                  replace c74 := Bool.eq_false_iff.mpr c74
                  subst c74
                  have H1 : (if 0 ≤ x15_1 then (if x15_1 < (x14_1.length : Int) then (nat_DivMod.l0 k1 (IntKind.u64.wrap (t202)) t229 t209 (t209.length : Int) (x14_1.set (x15_1 : Int).toNat t227) (wrap64 (x15_1 - 1))) else (none)) else (none)) = some (r1, r2, r3) := by rw [if_neg (show ¬ (false = true) by decide)] at H; exact H
                  clear H
                  have H := H1
                  clear H1
                  by_cases c84 : 0 ≤ x15_1
                  ·rw [if_pos c84] at H
                   have c84b0 : decide (0 ≤ x15_1) = true := decide_eq_true c84
                   clear c84
                   by_cases c85 : x15_1 < (x14_1.length : Int)
                   ·rw [if_pos c85] at H
                    have c85b0 : decide (x15_1 < (x14_1.length : Int)) = true := decide_eq_true c85
                    (try rw [hl11_1] at c85b0)
                    (try rw [hl14_1] at c85b0)
                    clear c85
                    obtain ⟨y232, hy232⟩ : ∃ y_ : List Int, y_ = (x14_1.set (x15_1 : Int).toNat t227) := ⟨_, rfl⟩
                    replace H : (nat_DivMod.l0 k1 (IntKind.u64.wrap (t202)) t229 t209 (t209.length : Int) y232 (wrap64 (x15_1 - 1))) = some (r1, r2, r3) := by first | (rw [hy232]; with_reducible exact H) | (have H2_ := (Option.bind_some _ _).symm.trans H; rw [hy232]; with_reducible exact H2_) | (have H2_ := (Option.bind_some _ _).symm.trans H; with_reducible exact H2_) | with_reducible exact H | (rw [hy232]; exact H) | exact H
                    have Ny232 := Aside0.mk hy232
                    clear hy232
                    have H' := Aside0.mk H
                    clear H
                    try go_wp2
                    have n0_ := Aside0.mk (Kd.R_drew HO_11.out)
                    have n1_ := Aside0.mk (Kd.V_drew HO_12.out)
                    have n2_ := Aside0.mk (Kd.R_drew HO_14.out)
                    have n3_ := Aside0.mk (below_drew1 HB.out)
                    clear HO_11
                    clear HO_12
                    clear HO_14
                    clear HB
                    have HO_11 := n0_
                    have HO_12 := n1_
                    have HO_14 := n2_
                    have HB := n3_
                    clear n0_ n1_ n2_ n3_
                    have p222 : 0 ≤ ((ji57) : Int) := of_decide_eq_true (by first | (with_reducible assumption) | assumption)
                    have q222 : (ji57) < (x11_1.length : Int) := of_decide_eq_true (by first | (with_reducible assumption) | assumption)
                    obtain ⟨ad222, e222, hx222_0⟩ := Kd.at_int (Kd.R_reads' HO_11.out).2.2 (ji57) p222 q222
                    cases e222
                    replace p222 := eq_true p222
                    replace q222 := eq_true q222
                    have p223 : 0 ≤ ((ji60) : Int) := of_decide_eq_true (by first | (with_reducible assumption) | assumption)
                    have q223 : (ji60) < (x11_1.length : Int) := of_decide_eq_true (by first | (with_reducible assumption) | assumption)
                    obtain ⟨ad223, e223, hx223_0⟩ := Kd.at_int (Kd.R_reads' HO_11.out).2.2 (ji60) p223 q223
                    obtain rfl : ad222 = ad223 := (by injection e223)
                    replace p223 := eq_true p223
                    replace q223 := eq_true q223
                    have p224 : 0 ≤ ((ji63) : Int) := of_decide_eq_true (by first | (with_reducible assumption) | assumption)
                    have q224 : (ji63) < (x11_1.length : Int) := of_decide_eq_true (by first | (with_reducible assumption) | assumption)
                    obtain ⟨ad224, e224, hx224_0⟩ := Kd.at_int (Kd.R_reads' HO_11.out).2.2 (ji63) p224 q224
                    obtain rfl : ad222 = ad224 := (by injection e224)
                    replace p224 := eq_true p224
                    replace q224 := eq_true q224
                    have p225 : 0 ≤ ((ji66) : Int) := of_decide_eq_true (by first | (with_reducible assumption) | assumption)
                    have q225 : (ji66) < (t209.length : Int) := of_decide_eq_true (by first | (with_reducible assumption) | assumption)
                    obtain ⟨ad225, e225, hx225_0⟩ := Kd.at_int (Kd.V_reads' HO_12.out).2.2 (ji66) p225 q225
                    cases e225
                    replace p225 := eq_true p225
                    replace q225 := eq_true q225
                    have p226 : 0 ≤ ((ji69) : Int) := of_decide_eq_true (by first | (with_reducible assumption) | assumption)
                    have q226 : (ji69) < (t209.length : Int) := of_decide_eq_true (by first | (with_reducible assumption) | assumption)
                    obtain ⟨ad226, e226, hx226_0⟩ := Kd.at_int (Kd.V_reads' HO_12.out).2.2 (ji69) p226 q226
                    obtain rfl : ad225 = ad226 := (by injection e226)
                    replace p226 := eq_true p226
                    replace q226 := eq_true q226
                    refine start_ (n := 32) (S := fun w' => w'.cell? (ad222.add ((ji57)).toNat) = some (.int .u64 (rd x11_1 (ji57))) ∧ w'.cell? (ad222.add ((ji60)).toNat) = some (.int .u64 (rd x11_1 (ji60))) ∧ w'.cell? (ad222.add ((ji63)).toNat) = some (.int .u64 (rd x11_1 (ji63))) ∧ w'.cell? (ad225.add ((ji66)).toNat) = some (.int .u64 (rd t209 (ji66))) ∧ w'.cell? (ad225.add ((ji69)).toNat) = some (.int .u64 (rd t209 (ji69)))) (ds := []) #[false, false, false, false, false, false, false, false, false, false, false, false, false, false, false, false, false, false, false, false, false, false, false, false, false, false, false, false, false, false, false, false] (by kernel_rfl) rfl rfl ⟨hx222_0, hx223_0, hx224_0, hx225_0, hx226_0⟩ (fun hHeld => ?_); refine with_tabW nat_DivMod.tab16 nat_DivMod.bits16 (fun HT_ HW_ => ?_)
                    generalize wr.drew = w87 at HO_11 HO_12 HO_14 HB hx222_0 hx223_0 hx224_0 hx225_0 hx226_0 hHeld ⊢
                    refine pure_ (i := 0) (N := some 81) (v := ?_) (a' := ?_) #[true, false, false, false, false, false, false, false, false, false, false, false, false, false, false, false, false, false, false, false, false, false, false, false, false, false, false, false, false, false, false, false] rfl rfl (any_of HT_.out (by kernel_rfl)) (fun _ _ _ h => h) (Or.inl ⟨by rfl, ?_⟩) ?_ ?_
                    rotate_left
                    ·intro w'
                     go_simp
                     with_reducible rfl
                    rotate_left
                    ·simp only [Act.put, List.setIfInBounds_toArray, List.set_cons_zero, List.set_cons_succ, i64_w, i32_w]
                     rfl
                    refine pure_ (i := 1) (N := some 82) (v := ?_) (a' := ?_) #[true, true, false, false, false, false, false, false, false, false, false, false, false, false, false, false, false, false, false, false, false, false, false, false, false, false, false, false, false, false, false, false] rfl rfl (any_of HT_.out (by kernel_rfl)) (fun _ _ _ h => h) (Or.inl ⟨by rfl, ?_⟩) ?_ ?_
                    rotate_left
                    ·intro w'
                     go_simp
                     with_reducible rfl
                    rotate_left
                    ·simp only [Act.put, List.setIfInBounds_toArray, List.set_cons_zero, List.set_cons_succ, i64_w, i32_w]
                     rfl
                    refine pure_ (i := 2) (N := some 83) (v := ?_) (a' := ?_) #[true, true, true, false, false, false, false, false, false, false, false, false, false, false, false, false, false, false, false, false, false, false, false, false, false, false, false, false, false, false, false, false] rfl rfl (any_of HT_.out (by kernel_rfl)) (fun _ _ _ h => h) (Or.inl ⟨by rfl, ?_⟩) ?_ ?_
                    rotate_left
                    ·intro w'
                     go_simp
                     with_reducible rfl
                    rotate_left
                    ·simp only [Act.put, List.setIfInBounds_toArray, List.set_cons_zero, List.set_cons_succ, i64_w, i32_w]
                     rfl
                    refine pure_ (i := 3) (N := some 84) (v := ?_) (a' := ?_) #[true, true, true, true, false, false, false, false, false, false, false, false, false, false, false, false, false, false, false, false, false, false, false, false, false, false, false, false, false, false, false, false] rfl rfl (any_of HT_.out (by kernel_rfl)) (fun _ _ _ h => h) (Or.inl ⟨by rfl, ?_⟩) ?_ ?_
                    rotate_left
                    ·intro w'
                     go_simp
                     with_reducible rfl
                    rotate_left
                    ·simp only [Act.put, List.setIfInBounds_toArray, List.set_cons_zero, List.set_cons_succ, i64_w, i32_w]
                     rfl
                    refine pure_ (i := 4) (N := some 85) (v := ?_) (a' := ?_) #[true, true, true, true, true, false, false, false, false, false, false, false, false, false, false, false, false, false, false, false, false, false, false, false, false, false, false, false, false, false, false, false] rfl rfl (any_of HT_.out (by kernel_rfl)) (fun _ _ _ h => h) (Or.inl ⟨by rfl, ?_⟩) ?_ ?_
                    rotate_left
                    ·intro w'
                     go_simp
                     with_reducible rfl
                    rotate_left
                    ·simp only [Act.put, List.setIfInBounds_toArray, List.set_cons_zero, List.set_cons_succ, i64_w, i32_w]
                     rfl
                    refine pure_ (i := 6) (N := some 87) (v := ?_) (a' := ?_) #[true, true, true, true, true, false, true, false, false, false, false, false, false, false, false, false, false, false, false, false, false, false, false, false, false, false, false, false, false, false, false, false] rfl rfl (any_of HT_.out (by kernel_rfl)) (fun _ _ _ h => h) (Or.inl ⟨by rfl, ?_⟩) ?_ ?_
                    rotate_left
                    ·intro w'
                     go_simp
                     with_reducible rfl
                    rotate_left
                    ·simp only [Act.put, List.setIfInBounds_toArray, List.set_cons_zero, List.set_cons_succ, i64_w, i32_w]
                     rfl
                    refine pure_ (i := 7) (N := some 88) (v := ?_) (a' := ?_) #[true, true, true, true, true, false, true, true, false, false, false, false, false, false, false, false, false, false, false, false, false, false, false, false, false, false, false, false, false, false, false, false] rfl rfl (any_of HT_.out (by kernel_rfl)) (fun _ _ _ h => h) (Or.inl ⟨by rfl, ?_⟩) ?_ ?_
                    rotate_left
                    ·intro w'
                     go_simp
                     with_reducible rfl
                    rotate_left
                    ·simp only [Act.put, List.setIfInBounds_toArray, List.set_cons_zero, List.set_cons_succ, i64_w, i32_w]
                     rfl
                    refine pure_ (i := 8) (N := some 89) (v := ?_) (a' := ?_) #[true, true, true, true, true, false, true, true, true, false, false, false, false, false, false, false, false, false, false, false, false, false, false, false, false, false, false, false, false, false, false, false] rfl rfl (any_of HT_.out (by kernel_rfl)) (fun _ _ _ h => h) (Or.inl ⟨by rfl, ?_⟩) ?_ ?_
                    rotate_left
                    ·intro w'
                     go_simp
                     with_reducible rfl
                    rotate_left
                    ·simp only [Act.put, List.setIfInBounds_toArray, List.set_cons_zero, List.set_cons_succ, i64_w, i32_w]
                     rfl
                    refine pure_ (i := 9) (N := some 90) (v := ?_) (a' := ?_) #[true, true, true, true, true, false, true, true, true, true, false, false, false, false, false, false, false, false, false, false, false, false, false, false, false, false, false, false, false, false, false, false] rfl rfl (any_of HT_.out (by kernel_rfl)) (fun _ _ _ h => h) (Or.inl ⟨by rfl, ?_⟩) ?_ ?_
                    rotate_left
                    ·intro w'
                     go_simp
                     with_reducible rfl
                    rotate_left
                    ·simp only [Act.put, List.setIfInBounds_toArray, List.set_cons_zero, List.set_cons_succ, i64_w, i32_w]
                     rfl
                    refine pure_ (i := 10) (N := some 91) (v := ?_) (a' := ?_) #[true, true, true, true, true, false, true, true, true, true, true, false, false, false, false, false, false, false, false, false, false, false, false, false, false, false, false, false, false, false, false, false] rfl rfl (any_of HT_.out (by kernel_rfl)) (fun _ _ _ h => h) (Or.inl ⟨by rfl, ?_⟩) ?_ ?_
                    rotate_left
                    ·intro w'
                     go_simp
                     with_reducible rfl
                    rotate_left
                    ·simp only [Act.put, List.setIfInBounds_toArray, List.set_cons_zero, List.set_cons_succ, i64_w, i32_w]
                     rfl
                    refine pure_ (i := 11) (N := some 92) (v := ?_) (a' := ?_) #[true, true, true, true, true, false, true, true, true, true, true, true, false, false, false, false, false, false, false, false, false, false, false, false, false, false, false, false, false, false, false, false] rfl rfl (any_of HT_.out (by kernel_rfl)) (fun _ _ _ h => h) (Or.inl ⟨by rfl, ?_⟩) ?_ ?_
                    rotate_left
                    ·intro w'
                     go_simp
                     with_reducible rfl
                    rotate_left
                    ·simp only [Act.put, List.setIfInBounds_toArray, List.set_cons_zero, List.set_cons_succ, i64_w, i32_w]
                     rfl
                    refine pure_ (i := 13) (N := some 94) (v := ?_) (a' := ?_) #[true, true, true, true, true, false, true, true, true, true, true, true, false, true, false, false, false, false, false, false, false, false, false, false, false, false, false, false, false, false, false, false] rfl rfl (any_of HT_.out (by kernel_rfl)) (fun _ _ _ h => h) (Or.inl ⟨by rfl, ?_⟩) ?_ ?_
                    rotate_left
                    ·intro w'
                     go_simp
                     with_reducible rfl
                    rotate_left
                    ·simp only [Act.put, List.setIfInBounds_toArray, List.set_cons_zero, List.set_cons_succ, i64_w, i32_w]
                     rfl
                    refine pure_ (i := 14) (N := some 95) (v := ?_) (a' := ?_) #[true, true, true, true, true, false, true, true, true, true, true, true, false, true, true, false, false, false, false, false, false, false, false, false, false, false, false, false, false, false, false, false] rfl rfl (any_of HT_.out (by kernel_rfl)) (fun _ _ _ h => h) (Or.inl ⟨by rfl, ?_⟩) ?_ ?_
                    rotate_left
                    ·intro w'
                     go_simp
                     with_reducible rfl
                    rotate_left
                    ·simp only [Act.put, List.setIfInBounds_toArray, List.set_cons_zero, List.set_cons_succ, i64_w, i32_w]
                     rfl
                    refine pure_ (i := 15) (N := some 96) (v := ?_) (a' := ?_) #[true, true, true, true, true, false, true, true, true, true, true, true, false, true, true, true, false, false, false, false, false, false, false, false, false, false, false, false, false, false, false, false] rfl rfl (any_of HT_.out (by kernel_rfl)) (fun _ _ _ h => h) (Or.inl ⟨by rfl, ?_⟩) ?_ ?_
                    rotate_left
                    ·intro w'
                     go_simp
                     with_reducible rfl
                    rotate_left
                    ·simp only [Act.put, List.setIfInBounds_toArray, List.set_cons_zero, List.set_cons_succ, i64_w, i32_w]
                     rfl
                    refine pure_ (i := 16) (N := some 97) (v := ?_) (a' := ?_) #[true, true, true, true, true, false, true, true, true, true, true, true, false, true, true, true, true, false, false, false, false, false, false, false, false, false, false, false, false, false, false, false] rfl rfl (any_of HT_.out (by kernel_rfl)) (fun _ _ _ h => h) (Or.inl ⟨by rfl, ?_⟩) ?_ ?_
                    rotate_left
                    ·intro w'
                     go_simp
                     with_reducible rfl
                    rotate_left
                    ·simp only [Act.put, List.setIfInBounds_toArray, List.set_cons_zero, List.set_cons_succ, i64_w, i32_w]
                     rfl
                    refine pure_ (i := 17) (N := some 98) (v := ?_) (a' := ?_) #[true, true, true, true, true, false, true, true, true, true, true, true, false, true, true, true, true, true, false, false, false, false, false, false, false, false, false, false, false, false, false, false] rfl rfl (any_of HT_.out (by kernel_rfl)) (fun _ _ _ h => h) (Or.inl ⟨by rfl, ?_⟩) ?_ ?_
                    rotate_left
                    ·intro w'
                     go_simp
                     with_reducible rfl
                    rotate_left
                    ·simp only [Act.put, List.setIfInBounds_toArray, List.set_cons_zero, List.set_cons_succ, i64_w, i32_w]
                     rfl
                    refine pure_ (i := 18) (N := some 99) (v := ?_) (a' := ?_) #[true, true, true, true, true, false, true, true, true, true, true, true, false, true, true, true, true, true, true, false, false, false, false, false, false, false, false, false, false, false, false, false] rfl rfl (any_of HT_.out (by kernel_rfl)) (fun _ _ _ h => h) (Or.inl ⟨by rfl, ?_⟩) ?_ ?_
                    rotate_left
                    ·intro w'
                     go_simp
                     with_reducible rfl
                    rotate_left
                    ·simp only [Act.put, List.setIfInBounds_toArray, List.set_cons_zero, List.set_cons_succ, i64_w, i32_w]
                     rfl
                    refine pure_ (i := 20) (N := some 101) (v := ?_) (a' := ?_) #[true, true, true, true, true, false, true, true, true, true, true, true, false, true, true, true, true, true, true, false, true, false, false, false, false, false, false, false, false, false, false, false] rfl rfl (any_of HT_.out (by kernel_rfl)) (fun _ _ _ h => h) (Or.inl ⟨by rfl, ?_⟩) ?_ ?_
                    rotate_left
                    ·intro w'
                     go_simp
                     with_reducible rfl
                    rotate_left
                    ·simp only [Act.put, List.setIfInBounds_toArray, List.set_cons_zero, List.set_cons_succ, i64_w, i32_w]
                     rfl
                    refine pure_ (i := 21) (N := some 102) (v := ?_) (a' := ?_) #[true, true, true, true, true, false, true, true, true, true, true, true, false, true, true, true, true, true, true, false, true, true, false, false, false, false, false, false, false, false, false, false] rfl rfl (any_of HT_.out (by kernel_rfl)) (fun _ _ _ h => h) (Or.inl ⟨by rfl, ?_⟩) ?_ ?_
                    rotate_left
                    ·intro w'
                     go_simp
                     with_reducible rfl
                    rotate_left
                    ·simp only [Act.put, List.setIfInBounds_toArray, List.set_cons_zero, List.set_cons_succ, i64_w, i32_w]
                     rfl
                    refine pure_ (i := 22) (N := some 103) (v := ?_) (a' := ?_) #[true, true, true, true, true, false, true, true, true, true, true, true, false, true, true, true, true, true, true, false, true, true, true, false, false, false, false, false, false, false, false, false] rfl rfl (any_of HT_.out (by kernel_rfl)) (fun _ _ _ h => h) (Or.inl ⟨by rfl, ?_⟩) ?_ ?_
                    rotate_left
                    ·intro w'
                     go_simp
                     with_reducible rfl
                    rotate_left
                    ·simp only [Act.put, List.setIfInBounds_toArray, List.set_cons_zero, List.set_cons_succ, i64_w, i32_w]
                     rfl
                    refine pure_ (i := 23) (N := some 104) (v := ?_) (a' := ?_) #[true, true, true, true, true, false, true, true, true, true, true, true, false, true, true, true, true, true, true, false, true, true, true, true, false, false, false, false, false, false, false, false] rfl rfl (any_of HT_.out (by kernel_rfl)) (fun _ _ _ h => h) (Or.inl ⟨by rfl, ?_⟩) ?_ ?_
                    rotate_left
                    ·intro w'
                     go_simp
                     with_reducible rfl
                    rotate_left
                    ·simp only [Act.put, List.setIfInBounds_toArray, List.set_cons_zero, List.set_cons_succ, i64_w, i32_w]
                     rfl
                    refine pure_ (i := 25) (N := some 106) (v := ?_) (a' := ?_) #[true, true, true, true, true, false, true, true, true, true, true, true, false, true, true, true, true, true, true, false, true, true, true, true, false, true, false, false, false, false, false, false] rfl rfl (any_of HT_.out (by kernel_rfl)) (fun _ _ _ h => h) (Or.inl ⟨by rfl, ?_⟩) ?_ ?_
                    rotate_left
                    ·intro w'
                     go_simp
                     with_reducible rfl
                    rotate_left
                    ·simp only [Act.put, List.setIfInBounds_toArray, List.set_cons_zero, List.set_cons_succ, i64_w, i32_w]
                     rfl
                    refine pure_ (i := 26) (N := some 107) (v := ?_) (a' := ?_) #[true, true, true, true, true, false, true, true, true, true, true, true, false, true, true, true, true, true, true, false, true, true, true, true, false, true, true, false, false, false, false, false] rfl rfl (any_of HT_.out (by kernel_rfl)) (fun _ _ _ h => h) (Or.inl ⟨by rfl, ?_⟩) ?_ ?_
                    rotate_left
                    ·intro w'
                     go_simp
                     with_reducible rfl
                    rotate_left
                    ·simp only [Act.put, List.setIfInBounds_toArray, List.set_cons_zero, List.set_cons_succ, i64_w, i32_w]
                     rfl
                    refine pure_ (i := 27) (N := some 108) (v := ?_) (a' := ?_) #[true, true, true, true, true, false, true, true, true, true, true, true, false, true, true, true, true, true, true, false, true, true, true, true, false, true, true, true, false, false, false, false] rfl rfl (any_of HT_.out (by kernel_rfl)) (fun _ _ _ h => h) (Or.inl ⟨by rfl, ?_⟩) ?_ ?_
                    rotate_left
                    ·intro w'
                     go_simp
                     with_reducible rfl
                    rotate_left
                    ·simp only [Act.put, List.setIfInBounds_toArray, List.set_cons_zero, List.set_cons_succ, i64_w, i32_w]
                     rfl
                    refine pure_ (i := 28) (N := some 109) (v := ?_) (a' := ?_) #[true, true, true, true, true, false, true, true, true, true, true, true, false, true, true, true, true, true, true, false, true, true, true, true, false, true, true, true, true, false, false, false] rfl rfl (any_of HT_.out (by kernel_rfl)) (fun _ _ _ h => h) (Or.inl ⟨by rfl, ?_⟩) ?_ ?_
                    rotate_left
                    ·intro w'
                     go_simp
                     with_reducible rfl
                    rotate_left
                    ·simp only [Act.put, List.setIfInBounds_toArray, List.set_cons_zero, List.set_cons_succ, i64_w, i32_w]
                     rfl
                    refine take_ (i := 5) (N := some 86) (v := ?_) (a' := ?_) #[true, true, true, true, true, true, true, true, true, true, true, true, false, true, true, true, true, true, true, false, true, true, true, true, false, true, true, true, true, false, false, false] rfl rfl (take_ofW HT_.out HW_.out (by kernel_rfl)) (fun _ _ _ h => h) (Or.inl ⟨by rfl, ?_⟩) hHeld ?_ ?_
                    rotate_left
                    ·rintro w' ⟨s0, s1, s2, s3, s4⟩
                     go_simp
                     with_reducible rfl
                    rotate_left
                    ·simp only [Act.put, List.setIfInBounds_toArray, List.set_cons_zero, List.set_cons_succ, i64_w, i32_w]
                     rfl
                    refine take_ (i := 12) (N := some 93) (v := ?_) (a' := ?_) #[true, true, true, true, true, true, true, true, true, true, true, true, true, true, true, true, true, true, true, false, true, true, true, true, false, true, true, true, true, false, false, false] rfl rfl (take_ofW HT_.out HW_.out (by kernel_rfl)) (fun _ _ _ h => h) (Or.inl ⟨by rfl, ?_⟩) hHeld ?_ ?_
                    rotate_left
                    ·rintro w' ⟨s0, s1, s2, s3, s4⟩
                     go_simp
                     with_reducible rfl
                    rotate_left
                    ·simp only [Act.put, List.setIfInBounds_toArray, List.set_cons_zero, List.set_cons_succ, i64_w, i32_w]
                     rfl
                    refine take_ (i := 19) (N := some 100) (v := ?_) (a' := ?_) #[true, true, true, true, true, true, true, true, true, true, true, true, true, true, true, true, true, true, true, true, true, true, true, true, false, true, true, true, true, false, false, false] rfl rfl (take_ofW HT_.out HW_.out (by kernel_rfl)) (fun _ _ _ h => h) (Or.inl ⟨by rfl, ?_⟩) hHeld ?_ ?_
                    rotate_left
                    ·rintro w' ⟨s0, s1, s2, s3, s4⟩
                     go_simp
                     with_reducible rfl
                    rotate_left
                    ·simp only [Act.put, List.setIfInBounds_toArray, List.set_cons_zero, List.set_cons_succ, i64_w, i32_w]
                     rfl
                    refine take_ (i := 24) (N := some 105) (v := ?_) (a' := ?_) #[true, true, true, true, true, true, true, true, true, true, true, true, true, true, true, true, true, true, true, true, true, true, true, true, true, true, true, true, true, false, false, false] rfl rfl (take_ofW HT_.out HW_.out (by kernel_rfl)) (fun _ _ _ h => h) (Or.inl ⟨by rfl, ?_⟩) hHeld ?_ ?_
                    rotate_left
                    ·rintro w' ⟨s0, s1, s2, s3, s4⟩
                     go_simp
                     with_reducible rfl
                    rotate_left
                    ·simp only [Act.put, List.setIfInBounds_toArray, List.set_cons_zero, List.set_cons_succ, i64_w, i32_w]
                     rfl
                    refine take_ (i := 29) (N := some 110) (v := ?_) (a' := ?_) #[true, true, true, true, true, true, true, true, true, true, true, true, true, true, true, true, true, true, true, true, true, true, true, true, true, true, true, true, true, true, false, false] rfl rfl (take_ofW HT_.out HW_.out (by kernel_rfl)) (fun _ _ _ h => h) (Or.inl ⟨by rfl, ?_⟩) hHeld ?_ ?_
                    rotate_left
                    ·rintro w' ⟨s0, s1, s2, s3, s4⟩
                     go_simp
                     with_reducible rfl
                    rotate_left
                    ·simp only [Act.put, List.setIfInBounds_toArray, List.set_cons_zero, List.set_cons_succ, i64_w, i32_w]
                     rfl
                    refine one_ (i := 30) (N := some 111) #[true, true, true, true, true, true, true, true, true, true, true, true, true, true, true, true, true, true, true, true, true, true, true, true, true, true, true, true, true, true, true, false] rfl rfl (one_of HT_.out (by kernel_rfl)) (by decide) (fun K hK => ?_)
                    refine goes_ Tryd.func45 (by kernel_rfl) rfl #[.int .u64 (rd x11_1 (ji57)), .int .u64 (rd x11_1 (ji60)), .int .u64 (rd x11_1 (ji63)), .int .u64 (rd t209 (ji66)), .int .u64 (rd t209 (ji69))] (by rfl) rfl rfl (by (try simp only [List.map_toArray, List.map_cons, List.map_nil]); first | done | (simp only [hji57, hji60, hji63, hji66, hji69]; rfl) | rfl | (simp only [List.length_drop, List.length_take]; rfl)) ?_
                    with_reducible refine (nat_guess.calls k1 (rd x11_1 (ji57)) (rd x11_1 (ji60)) (rd x11_1 (ji63)) (rd t209 (ji66)) (rd t209 (ji69)) t227 _ A72.out).mono ?_
                    rintro e w' ⟨rfl, ⟨nd, rfl⟩⟩
                    refine ⟨_, rfl, ?_⟩
                    refine hK.out _ _ ⟨hHeld.1, hHeld.2.1, hHeld.2.2.1, hHeld.2.2.2.1, hHeld.2.2.2.2⟩ (fun hHeld => ?_)
                    clear hK K
                    refine norm_ (a' := ?_) ?_ ?_
                    rotate_left
                    ·show Act.put _ (some 111) _ = _
                     simp only [Act.put, List.setIfInBounds_toArray, List.set_cons_zero, List.set_cons_succ, i64_w, i32_w]
                     rfl
                    refine pure_ (i := 31) (N := some 16) (v := ?_) (a' := ?_) #[true, true, true, true, true, true, true, true, true, true, true, true, true, true, true, true, true, true, true, true, true, true, true, true, true, true, true, true, true, true, true, true] rfl rfl (any_of HT_.out (by kernel_rfl)) (fun _ _ _ h => h) (Or.inl ⟨by rfl, ?_⟩) ?_ ?_
                    rotate_left
                    ·intro w'
                     go_simp
                     with_reducible rfl
                    rotate_left
                    ·simp only [Act.put, List.setIfInBounds_toArray, List.set_cons_zero, List.set_cons_succ, i64_w, i32_w]
                     rfl
                    refine done_ (done_of HT_.out (by kernel_rfl)) ?_
                    try go_wp2_with (first | ((with_reducible refine gate_callee (f := 46) rfl ?_); refine goesL_ (some 116) rfl rfl Tryd.func46 (by kernel_rfl) rfl #[.slice (some ad222) x11_1.length co52, .slice (some ad225) t209.length co51, .int .u64 t227, .int .i64 x15_1] rfl (by (try simp only [List.map_toArray, List.map_cons, List.map_nil]); first | done | (simp only [hl11_1, hl14_1]; done) | (simp only [hl11_1, hl14_1]; rfl) | rfl | (simp only [List.length_drop, List.length_take]; rfl)) ?_; (with_reducible refine (nat_takes.calls k1 (fun k_ => some k_ = (.slice (some ad222) x11_1.length co52 : Value).ownBlock) (.slice (some ad222) x11_1.length co52) x11_1 _ _ t209 t227 x15_1 false t229 w _ ?side1 ?side2 ?side3 ?side4 A73.out).mono ?_); (case side1 => repeat (first | (with_reducible first | exact HB.out | apply below_alloc | apply pw_below_drewN | apply below_drew1) | exact HB.out)); (case side2 => exact Kd.R_tight rfl HO_11.out); (case side3 => exact Kd.C_kept_ownV (e := 24) (base := w.heap.size) (HO_12.out) (fun k_ hk_ hs_ => (hk_.2.1) hs_)); (case side4 => exact (Kd.V_reads' HO_12.out).2.1); rintro e w88 ⟨rfl, hy0, hb, hkp⟩; refine ⟨_, rfl, ?_⟩; have n0_ := Aside0.mk (Kd.R_reok rfl hy0 (fun k_ e_ => HO_11.out.1 k_ e_)); have n1_ := Aside0.mk (Kd.V_mono (ok' := fun k_ => ((P0_ k_ ∨ P1_ k_) ∨ w.heap.size ≤ k_) ∧ some k_ ≠ (.slice (some ad222) x11_1.length co52 : Value).ownBlock ∧ some k_ ≠ (.slice Ao55 x14_1.length co55 : Value).ownBlock) (Kd.V_keptB (HO_12.out) hkp (fun k_ hk_ hs_ => (hk_.2.1) hs_)) (fun k_ hk_ => ⟨hk_.1.1, hk_.1.2.1, hk_.1.2.2⟩)); have n2_ := Aside0.mk (Kd.R_mono (ok' := fun k_ => (w.heap.size ≤ k_) ∧ some k_ ≠ (.slice (some ad222) x11_1.length co52 : Value).ownBlock) (Kd.R_keptB (HO_14.out) hkp (fun k_ hk_ hs_ => (hk_.2) hs_)) (fun k_ hk_ => ⟨hk_.1.1, hk_.1.2⟩)); have n3_ := Aside0.mk (hb); clear HO_11; clear HO_12; clear HO_14; clear HB; have HO_11 := n0_; have HO_12 := n1_; have HO_14 := n2_; have HB := n3_; clear n0_ n1_ n2_ n3_; (try clear hb); (try clear hkp); (try clear hy0); have p86 : 0 ≤ (x15_1 : Int) := of_decide_eq_true (by first | (with_reducible assumption) | assumption); have q86 : (x15_1 : Int) < ((x14_1.length : Int) : Int) := of_decide_eq_true (by first | (with_reducible assumption) | assumption); obtain ⟨go86, co86, eo86, gb86, gl86, cl86, HG86⟩ := Kd.R_form HO_14.out (by omega); (first | cases eo86 | (injection eo86 with ea_ en_ ec_; (first | subst ea_ | (injection ea_ with ea_; subst ea_)); subst ec_; clear en_)); have GB86 := Aside0.mk gb86; have GG86 := Aside0.mk HG86; clear gb86 gl86 HG86; obtain ⟨hx86_0, hf86_0⟩ := Kd.R_celln 0 HO_14.out (x15_1 : Int) p86 q86; replace p86 := eq_true p86; replace q86 := eq_true q86; obtain ⟨hy89_, hz89_⟩ := Kd.R_celln 0 HO_14.out (x15_1 : Int) (of_decide_eq_true (by first | (with_reducible assumption) | assumption)) (of_decide_eq_true (by first | (with_reducible assumption) | assumption)); have HP89 := Kd.R_putg HO_14.out (x15_1 : Int) t227) | ((with_reducible refine gate_store (t := 24) (p := 126) rfl ?_); refine store_event (t := 24) (p := 126) (v := ?vo_w90) (w1 := (w88.setCell ⟨go86, (x15_1 : Int).toNat, none⟩ (.int .u64 t227))) ?hg ?ho ?hn ?hr ?_; (case ho => rfl); (case hg => rfl); (case hn => rfl); (case hr => first | (go_simp; done) | (go_simp; rfl)); intro w90 hw; have hg : w88.grownBy w90 (some go86) := (by rw [hw]; exact HP89.2); have hp_ : Kd.R (Kd.int .u64) 24 w90 w.heap.size (fun k_ => (w.heap.size ≤ k_) ∧ some k_ ≠ (.slice (some ad222) x11_1.length co52 : Value).ownBlock) (.slice (some ⟨go86, 0, none⟩) x14_1.length co55) y232 := (by rw [hw, Ny232.out]; exact HP89.1); clear HP89; have n0_ := Aside0.mk (Kd.R_after (v := (.slice (some ⟨go86, 0, none⟩) x14_1.length co55)) (v1 := (.slice (some ⟨go86, 0, none⟩) x14_1.length co55)) (ok := (fun k_ => (w.heap.size ≤ k_))) (by (with_reducible repeat (first | apply Kd.R_alloc | apply Kd.R_drewN | apply Kd.R_drew)); exact HO_11.out) hg (.inl rfl)); have n1_ := Aside0.mk (Kd.V_afterv (v := (.slice (some ⟨go86, 0, none⟩) x14_1.length co55)) (v1 := (.slice (some ⟨go86, 0, none⟩) x14_1.length co55)) (ok := (fun k_ => ((P0_ k_ ∨ P1_ k_) ∨ w.heap.size ≤ k_) ∧ some k_ ≠ (.slice (some ad222) x11_1.length co52 : Value).ownBlock)) (by (with_reducible repeat (first | apply Kd.V_alloc | apply Kd.V_drewN | apply Kd.V_drew)); exact Kd.V_mono HO_12.out (fun _ hk => ⟨⟨hk.1, hk.2.1⟩, hk.2.2⟩)) hg (.inl rfl)); have n2_ := Aside0.mk (hp_); have n3_ := Aside0.mk ((by rw [hw]; exact below_set (HB.out) GB86.out : Below w.heap.size w w90)); clear HO_11; clear HO_12; clear HO_14; clear HB; have HO_11 := n0_; have HO_12 := n1_; have HO_14 := n2_; have HB := n3_; clear n0_ n1_ n2_ n3_; clear hg hw hp_))
                    (try simp only [← hl11_1, ← hl14_1])
                    go_roundg k1
                    case measure => have := HK1.out; omega
                    case rel => exact ⟨(t229), (y232), (wrap64 (x15_1 - 1)), (by first | rfl | (simp; done) | (simp [*]; done)), H', ⟨by have := HK1.out; omega⟩, ⟨by (try simp only [hl11_1]); (try simp only [hl14_1]); (with_reducible repeat (first | apply Kd.R_alloc | apply Kd.R_drewN | apply Kd.R_drew)); exact HO_11.out⟩, ⟨by (try simp only [hl11_1]); (try simp only [hl14_1]); (with_reducible repeat (first | apply Kd.V_alloc | apply Kd.V_drewN | apply Kd.V_drew)); exact Kd.V_mono HO_12.out (fun _ hk => ⟨hk.1.1, ⟨hk.1.2, hk.2⟩⟩)⟩, ⟨by (try simp only [hl11_1]); (try simp only [hl14_1]); (with_reducible repeat (first | apply Kd.R_alloc | apply Kd.R_drewN | apply Kd.R_drew)); exact HO_14.out⟩, ⟨by repeat (first | (with_reducible first | exact HB.out | apply below_alloc | apply pw_below_drewN | apply below_drew1) | exact HB.out)⟩⟩
                   rw [if_neg c85] at H
                   exact absurd H (by simp)
                  rw [if_neg c84] at H
                  exact absurd H (by simp)
                 rw [if_neg c71] at H
                 exact absurd H (by simp)
                rw [if_neg c70] at H
                exact absurd H (by simp)
               rw [if_neg c68] at H
               exact absurd H (by simp)
              rw [if_neg c67] at H
              exact absurd H (by simp)
             rw [if_neg c65] at H
             exact absurd H (by simp)
            rw [if_neg c64] at H
            exact absurd H (by simp)
           rw [if_neg c62] at H
           exact absurd H (by simp)
          rw [if_neg c61] at H
          exact absurd H (by simp)
         rw [if_neg c59] at H
         exact absurd H (by simp)
        rw [if_neg c58] at H
        exact absurd H (by simp)
       rw [if_neg c56] at H
       have c56b0 : decide (0 ≤ x15_1) = false := decide_eq_false c56
       clear c56
       replace H := Option.bind_eq_some_iff.mp H
       obtain ⟨⟨t215, t218⟩, A910, H⟩ := H
       replace H : ((nat_trim.f k1 x14_1).bind fun t219 => (some (t219, t215, t218))) = some (r1, r2, r3) := H
       have A91 := Aside0.mk A910
       clear A910
       replace H := Option.bind_eq_some_iff.mp H
       obtain ⟨t219, A920, H⟩ := H
       replace H : (some (t219, t215, t218)) = some (r1, r2, r3) := H
       have A92 := Aside0.mk A920
       clear A920
       simp only [Option.some.injEq, Prod.mk.injEq] at H
       obtain ⟨rfl, rfl, rfl⟩ := H
       go_wp2_with (first | ((with_reducible refine gate_callee (f := 35) rfl ?_); refine goesL_ (some 131) rfl rfl Tryd.func35 (by kernel_rfl) rfl #[.slice Ao52 x11_1.length co52, .int .i64 (wrap64 ((IntKind.u64.wrap (t202))))] rfl (by (try simp only [List.map_toArray, List.map_cons, List.map_nil]); first | done | (simp only [hl11_1, hl14_1]; done) | (simp only [hl11_1, hl14_1]; rfl) | rfl | (simp only [List.length_drop, List.length_take]; rfl)) ?_; (with_reducible refine (nat_Shr.calls k1 (fun k_ => some k_ = (.slice Ao52 x11_1.length co52 : Value).ownBlock) _ _ x11_1 (wrap64 ((IntKind.u64.wrap (t202)))) t215 t218 _ ?side1 A91.out).mono ?_); (case side1 => exact Kd.R_V (Kd.R_tight rfl (HO_11.out))); rintro e w93 ⟨v216, rfl, ho0, hb⟩; refine ⟨_, rfl, ?_⟩; have n0_ := Aside0.mk (Kd.R_below (by (with_reducible repeat (first | apply Kd.R_alloc | apply Kd.R_drewN | apply Kd.R_drew)); exact HO_11.out) hb); have n1_ := Aside0.mk (Kd.V_below (by (with_reducible repeat (first | apply Kd.V_alloc | apply Kd.V_drewN | apply Kd.V_drew)); exact HO_12.out) hb); have n2_ := Aside0.mk (Kd.R_below (by (with_reducible repeat (first | apply Kd.R_alloc | apply Kd.R_drewN | apply Kd.R_drew)); exact HO_14.out) hb); have n3_ := Aside0.mk (Kd.V_lower (Kd.V_mono (ok' := fun k_ => ((P0_ k_ ∨ P1_ k_) ∨ w.heap.size ≤ k_) ∧ some k_ ≠ (.slice Ao55 x14_1.length co55 : Value).ownBlock) ho0 (fun k_ hk_ => ⟨Or.elim hk_ (fun hs_ => (.inr (((HO_11.out).1 k_ hs_.symm).1))) (fun hn_ => (.inr (Nat.le_trans (below_size (by repeat (first | (with_reducible first | exact HB.out | apply below_alloc | apply pw_below_drewN | apply below_drew1) | exact HB.out))) hn_))), Or.elim hk_ (fun hs_ => ((HO_11.out).1 k_ hs_.symm).2) (fun hn_ => (Kd.fresh' (Kd.R_lt (by (with_reducible repeat (first | apply Kd.R_alloc | apply Kd.R_drewN | apply Kd.R_drew)); exact HO_14.out)) k_ hn_))⟩)) (below_size (by repeat (first | (with_reducible first | exact HB.out | apply below_alloc | apply pw_below_drewN | apply below_drew1) | exact HB.out)))); have n4_ := Aside0.mk (below_step (by repeat (first | (with_reducible first | exact HB.out | apply below_alloc | apply pw_below_drewN | apply below_drew1) | exact HB.out)) hb); clear HO_11; clear HO_12; clear HO_14; clear HB; have HO_11 := n0_; have HO_12 := n1_; have HO_14 := n2_; have HO217 := n3_; have HB := n4_; clear n0_ n1_ n2_ n3_ n4_; (try clear hb); (try clear hb2); (try clear hk); (try clear hi); (try clear ho0)) | ((with_reducible refine gate_callee (f := 42) rfl ?_); refine goesL_ (some 135) rfl rfl Tryd.func42 (by kernel_rfl) rfl #[.slice Ao55 x14_1.length co55] rfl (by (try simp only [List.map_toArray, List.map_cons, List.map_nil]); first | done | (simp only [hl11_1, hl14_1]; done) | (simp only [hl11_1, hl14_1]; rfl) | rfl | (simp only [List.length_drop, List.length_take]; rfl)) ?_; (with_reducible refine (nat_trim.calls k1 (fun k_ => some k_ = (.slice Ao55 x14_1.length co55 : Value).ownBlock) _ _ x14_1 t219 _ ?side1 A92.out).mono ?_); (case side1 => exact Kd.R_V (Kd.R_tight rfl (HO_14.out))); rintro e w94 ⟨v220, rfl, ho0, hb⟩; refine ⟨_, rfl, ?_⟩; have n0_ := Aside0.mk (Kd.R_below (by (with_reducible repeat (first | apply Kd.R_alloc | apply Kd.R_drewN | apply Kd.R_drew)); exact HO_11.out) hb); have n1_ := Aside0.mk (Kd.V_below (by (with_reducible repeat (first | apply Kd.V_alloc | apply Kd.V_drewN | apply Kd.V_drew)); exact HO_12.out) hb); have n2_ := Aside0.mk (Kd.R_below (by (with_reducible repeat (first | apply Kd.R_alloc | apply Kd.R_drewN | apply Kd.R_drew)); exact HO_14.out) hb); have n3_ := Aside0.mk (Kd.V_below (by (with_reducible repeat (first | apply Kd.V_alloc | apply Kd.V_drewN | apply Kd.V_drew)); exact HO217.out) hb); have n4_ := Aside0.mk (Kd.V_lower (Kd.V_mono (ok' := fun k_ => ((P0_ k_ ∨ P1_ k_) ∨ w.heap.size ≤ k_) ∧ some k_ ≠ (.slice Ao52 x11_1.length co52 : Value).ownBlock) ho0 (fun k_ hk_ => ⟨Or.elim hk_ (fun hs_ => (.inr (((HO_14.out).1 k_ hs_.symm).1))) (fun hn_ => (.inr (Nat.le_trans (below_size (by repeat (first | (with_reducible first | exact HB.out | apply below_alloc | apply pw_below_drewN | apply below_drew1) | exact HB.out))) hn_))), Or.elim hk_ (fun hs_ => ((HO_14.out).1 k_ hs_.symm).2) (fun hn_ => (Kd.fresh' (Kd.R_lt (by (with_reducible repeat (first | apply Kd.R_alloc | apply Kd.R_drewN | apply Kd.R_drew)); exact HO_11.out)) k_ hn_))⟩)) (below_size (by repeat (first | (with_reducible first | exact HB.out | apply below_alloc | apply pw_below_drewN | apply below_drew1) | exact HB.out)))); have n5_ := Aside0.mk (below_step (by repeat (first | (with_reducible first | exact HB.out | apply below_alloc | apply pw_below_drewN | apply below_drew1) | exact HB.out)) hb); clear HO_11; clear HO_12; clear HO_14; clear HO217; clear HB; have HO_11 := n0_; have HO_12 := n1_; have HO_14 := n2_; have HO217 := n3_; have HO221 := n4_; have HB := n5_; clear n0_ n1_ n2_ n3_ n4_ n5_; (try clear hb); (try clear hb2); (try clear hk); (try clear hi); (try clear ho0)))
       go_ret3
       exact ⟨_, _, by first | rfl | (simp [errW_none, errW_some] <;> rfl) | (simp only [← hji32, ← hji39]; first | rfl | (simp [errW_none, errW_some] <;> rfl)) | (simp [*, errW_none, errW_some] <;> rfl), by (with_reducible repeat (first | apply Kd.V_alloc | apply Kd.V_drewN | apply Kd.V_drew)); exact Kd.V_mono HO221.out (fun _ hk => hk.1), by (with_reducible repeat (first | apply Kd.V_alloc | apply Kd.V_drewN | apply Kd.V_drew)); exact Kd.V_mono HO217.out (fun _ hk => hk.1), by repeat (first | (with_reducible first | exact HB.out | apply below_alloc | apply pw_below_drewN | apply below_drew1) | exact HB.out)⟩
    rw [if_neg c41] at H
    exact absurd H (by simp)
   rw [if_neg c40] at H
   exact absurd H (by simp)
  rw [if_neg c34] at H
  exact absurd H (by simp)
 rw [if_neg c33] at H
 exact absurd H (by simp)

end Go.Proofs.YtdomplmilbkaeaaDoor.GN
-- thin

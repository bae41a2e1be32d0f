-- Written by wip/tools/myprint.py (this session's program, over the kit's print.py).
import Derived.Test.YtnlklfhgdefbaaaDoorGNx0
import Derived.Test.YtnlklfhgdefbaaaDoorGNx2
import Derived.Test.YtnlklfhgdefbaaaDoorGNx3
import Derived.Test.YtnlklfhgdefbaaaDoorGNx5
import Derived.Test.YtnlklfhgdefbaaaDoorGNx9
namespace Go.Proofs.YtnlklfhgdefbaaaDoor.GN
open Go.RowKit Go.Proofs.YtnlklfhgdefbaaaDoorW.PrintWords Go.Proofs.YtnlklfhgdefbaaaDoorW.PrintLast Go.Proofs.YtnlklfhgdefbaaaDoorW.PrintMore
attribute [local go_sem] max2_int min2_int max_two min_two max_three min_three max_four min_four   -- for this text's walks alone
set_option linter.unusedVariables false
set_option linter.unusedSimpArgs false

/-! ### vinculumlaw04_PrimeTells: function 3 -/
def vinculumlaw04_PrimeTells.f (k : Nat) (a0 : Int) : Option (Bool) := if a0 > 1000000 then ((vinculumlaw04_awake.f k).bind fun t168 => (some t168)) else ((prime_Next.f k a0).bind fun bt169 => ((prime_Is.f k a0).bind fun t171 => ((vinculumref04_Is.f k a0).bind fun t172 => (if (t171 == t172) = true then ((vinculumref04_Next.f k a0).bind fun t173 => (if bt169.1 = t173 then (if bt169.2 = 0 then ((vinculumlaw04_awake.f k).bind fun t174 => (some t174)) else (none)) else (none))) else (none)))))
theorem vinculumlaw04_PrimeTells.mono : ∀ a0 k, LeO (vinculumlaw04_PrimeTells.f k a0) (vinculumlaw04_PrimeTells.f (k + 1) a0) := by
 intro a0 k
 unfold vinculumlaw04_PrimeTells.f
 repeat' first
   | (with_reducible exact prime_Is.mono _ _)
   | (with_reducible exact prime_Next.mono _ _)
   | (with_reducible exact vinculumlaw04_awake.mono _)
   | (with_reducible exact vinculumref04_Is.mono _ _)
   | (with_reducible exact vinculumref04_Next.mono _ _)
   | (with_reducible exact LeO.refl _)
   | (with_reducible exact LeO.none _)
   | (with_reducible refine LeO.ite ?_ ?_)
   | (with_reducible refine LeO.bind ?_ (fun _ => ?_))
   | exact prime_Is.mono _ _
   | exact prime_Next.mono _ _
   | exact vinculumlaw04_awake.mono _
   | exact vinculumref04_Is.mono _ _
   | exact vinculumref04_Next.mono _ _
   | exact LeO.none _
   | refine LeO.ite ?_ ?_
   | refine LeO.bind ?_ (fun _ => ?_)
set_option maxHeartbeats 8000000 in
set_option maxRecDepth 100000 in
theorem vinculumlaw04_PrimeTells.calls (k : Nat) (a0 : Int) (r : Bool) (w : World) (hT_ : TabAt 0 Lib.deBruijn64tab w) (h : vinculumlaw04_PrimeTells.f k a0 = some r) :
  Calls Tryd.prog 3 #[.int .u64 a0] w fun e w' => e = .returned (.bool r) ∧ Below w.heap.size w w' := by
 have HT_ := Aside0.mk hT_
 clear hT_
 have HB := Aside0.mk (Below.refl w.heap.size w)
 have H : (if a0 > 1000000 then ((vinculumlaw04_awake.f k).bind fun t168 => (some t168)) else ((prime_Next.f k a0).bind fun bt169 => ((prime_Is.f k a0).bind fun t171 => ((vinculumref04_Is.f k a0).bind fun t172 => (if (t171 == t172) = true then ((vinculumref04_Next.f k a0).bind fun t173 => (if bt169.1 = t173 then (if bt169.2 = 0 then ((vinculumlaw04_awake.f k).bind fun t174 => (some t174)) else (none)) else (none))) else (none)))))) = some r := h
 clear h
 by_cases c2 : a0 > 1000000
 ·rw [if_pos c2] at H
  have c2b0 : decide (1000000 < a0) = true := decide_eq_true c2
  clear c2
  replace H := Option.bind_eq_some_iff.mp H
  obtain ⟨t168, A30, H⟩ := H
  replace H : (some t168) = some r := H
  have A3 := Aside0.mk A30
  clear A30
  obtain rfl := Option.some.inj H
  go_enter Tryd.func3, Tryd.ntmps3
  go_wp2_with (first | ((with_reducible refine gate_callee (f := 12) rfl ?_); refine goesL_ (some 7) rfl rfl Tryd.func12 (by kernel_rfl) rfl #[] rfl (by (try simp only [List.map_toArray, List.map_cons, List.map_nil]); first | done | rfl | (simp only [List.length_drop, List.length_take]; rfl)) ?_; (with_reducible refine (vinculumlaw04_awake.calls k  t168 _ (by first | exact HT_.out | (refine tab_below HT_.out ?_; repeat (first | (with_reducible first | exact HB.out | apply below_alloc | apply pw_below_drewN | apply below_drew1) | exact HB.out)) | (repeat (first | exact HT_.out | apply tab_drewN | apply tab_drew))) A3.out).mono ?_); rintro e w4 ⟨rfl, hb⟩; refine ⟨_, rfl, ?_⟩; have n0_ := Aside0.mk (below_step (by repeat (first | (with_reducible first | exact HB.out | apply below_alloc | apply pw_below_drewN | apply below_drew1) | exact HB.out)) hb); clear HB; have HB := n0_; clear n0_; (try clear hb); (try clear hb2); (try clear hk); (try clear hi)))
  go_ret
  exact ⟨by first | rfl | (simp [errW_none, errW_some] <;> rfl) | (simp [*, errW_none, errW_some] <;> rfl), by repeat (first | (with_reducible first | exact HB.out | apply below_alloc | apply pw_below_drewN | apply below_drew1) | exact HB.out)⟩
 rw [if_neg c2] at H
 have c2b0 : decide (1000000 < a0) = false := decide_eq_false c2
 clear c2
 replace H := Option.bind_eq_some_iff.mp H
 obtain ⟨⟨t169, t170⟩, A50, H⟩ := H
 replace H : ((prime_Is.f k a0).bind fun t171 => ((vinculumref04_Is.f k a0).bind fun t172 => (if (t171 == t172) = true then ((vinculumref04_Next.f k a0).bind fun t173 => (if t169 = t173 then (if t170 = 0 then ((vinculumlaw04_awake.f k).bind fun t174 => (some t174)) else (none)) else (none))) else (none)))) = some r := H
 have A5 := Aside0.mk A50
 clear A50
 replace H := Option.bind_eq_some_iff.mp H
 obtain ⟨t171, A60, H⟩ := H
 replace H : ((vinculumref04_Is.f k a0).bind fun t172 => (if (t171 == t172) = true then ((vinculumref04_Next.f k a0).bind fun t173 => (if t169 = t173 then (if t170 = 0 then ((vinculumlaw04_awake.f k).bind fun t174 => (some t174)) else (none)) else (none))) else (none))) = some r := H
 have A6 := Aside0.mk A60
 clear A60
 replace H := Option.bind_eq_some_iff.mp H
 obtain ⟨t172, A70, H⟩ := H
 replace H : (if (t171 == t172) = true then ((vinculumref04_Next.f k a0).bind fun t173 => (if t169 = t173 then (if t170 = 0 then ((vinculumlaw04_awake.f k).bind fun t174 => (some t174)) else (none)) else (none))) else (none)) = some r := H
 have A7 := Aside0.mk A70
 clear A70
 by_cases c8 : (t171 == t172) = true
 ·rw [if_pos c8] at H
  have c8b0 : (t171 == t172) = true := c8
  (try (have c8b1 : decide (t171 = t172) = true := by simpa using c8))
  (try (have c8b2 : (t171 == t172) = true := by simpa using c8))
  clear c8
  replace H := Option.bind_eq_some_iff.mp H
  obtain ⟨t173, A90, H⟩ := H
  replace H : (if t169 = t173 then (if t170 = 0 then ((vinculumlaw04_awake.f k).bind fun t174 => (some t174)) else (none)) else (none)) = some r := H
  have A9 := Aside0.mk A90
  clear A90
  by_cases c10 : t169 = t173
  ·rw [if_pos c10] at H
   have c10b0 : (t169 == t173) = true := beq_iff_eq.mpr c10
   have c10b1 : (t169 != t173) = false := bne_eq_false_iff_eq.mpr c10
   clear c10
   by_cases c11 : t170 = 0
   ·rw [if_pos c11] at H
    have c11b0 : (t170 == 0) = true := beq_iff_eq.mpr c11
    have c11b1 : (t170 != 0) = false := bne_eq_false_iff_eq.mpr c11
    clear c11
    replace H := Option.bind_eq_some_iff.mp H
    obtain ⟨t174, A120, H⟩ := H
    replace H : (some t174) = some r := H
    have A12 := Aside0.mk A120
    clear A120
    obtain rfl := Option.some.inj H
    go_enter Tryd.func3, Tryd.ntmps3
    go_wp2_with (first | ((with_reducible refine gate_callee (f := 13) rfl ?_); refine goesL_ (some 10) rfl rfl Tryd.func13 (by kernel_rfl) rfl #[.int .u64 a0] rfl (by (try simp only [List.map_toArray, List.map_cons, List.map_nil]); first | done | rfl | (simp only [List.length_drop, List.length_take]; rfl)) ?_; (with_reducible refine (prime_Next.calls k a0 t169 t170 _ (by first | exact HT_.out | (refine tab_below HT_.out ?_; repeat (first | (with_reducible first | exact HB.out | apply below_alloc | apply pw_below_drewN | apply below_drew1) | exact HB.out)) | (repeat (first | exact HT_.out | apply tab_drewN | apply tab_drew))) A5.out).mono ?_); rintro e w13 ⟨rfl, hb⟩; refine ⟨_, rfl, ?_⟩; have n0_ := Aside0.mk (below_step (by repeat (first | (with_reducible first | exact HB.out | apply below_alloc | apply pw_below_drewN | apply below_drew1) | exact HB.out)) hb); clear HB; have HB := n0_; clear n0_; (try clear hb); (try clear hb2); (try clear hk); (try clear hi)) | ((with_reducible refine gate_callee (f := 14) rfl ?_); refine goesL_ (some 14) rfl rfl Tryd.func14 (by kernel_rfl) rfl #[.int .u64 a0] rfl (by (try simp only [List.map_toArray, List.map_cons, List.map_nil]); first | done | rfl | (simp only [List.length_drop, List.length_take]; rfl)) ?_; (with_reducible refine (prime_Is.calls k a0 t171 _ (by first | exact HT_.out | (refine tab_below HT_.out ?_; repeat (first | (with_reducible first | exact HB.out | apply below_alloc | apply pw_below_drewN | apply below_drew1) | exact HB.out)) | (repeat (first | exact HT_.out | apply tab_drewN | apply tab_drew))) A6.out).mono ?_); rintro e w14 ⟨rfl, hb⟩; refine ⟨_, rfl, ?_⟩; have n0_ := Aside0.mk (below_step (by repeat (first | (with_reducible first | exact HB.out | apply below_alloc | apply pw_below_drewN | apply below_drew1) | exact HB.out)) hb); clear HB; have HB := n0_; clear n0_; (try clear hb); (try clear hb2); (try clear hk); (try clear hi)) | ((with_reducible refine gate_callee (f := 15) rfl ?_); refine goesL_ (some 16) rfl rfl Tryd.func15 (by kernel_rfl) rfl #[.int .u64 a0] rfl (by (try simp only [List.map_toArray, List.map_cons, List.map_nil]); first | done | rfl | (simp only [List.length_drop, List.length_take]; rfl)) ?_; (with_reducible refine (vinculumref04_Is.calls k a0 t172 _ A7.out).mono ?_); rintro e w' ⟨rfl, ⟨nd, rfl⟩⟩; refine ⟨_, rfl, ?_⟩) | (go_at_call 16; (with_reducible refine (vinculumref04_Next.calls k a0 t173 _ A9.out).mono ?_); rintro e w' ⟨rfl, ⟨nd, rfl⟩⟩) | (go_at_call 12; (with_reducible refine (vinculumlaw04_awake.calls k  t174 _ (by first | exact HT_.out | (refine tab_below HT_.out ?_; repeat (first | (with_reducible first | exact HB.out | apply below_alloc | apply pw_below_drewN | apply below_drew1) | exact HB.out)) | (repeat (first | exact HT_.out | apply tab_drewN | apply tab_drew))) A12.out).mono ?_); rintro e w15 ⟨rfl, hb⟩; have n0_ := Aside0.mk (below_step (by repeat (first | (with_reducible first | exact HB.out | apply below_alloc | apply pw_below_drewN | apply below_drew1) | exact HB.out)) hb); clear HB; have HB := n0_; clear n0_; (try clear hb); (try clear hb2); (try clear hk); (try clear hi)))
    go_ret
    exact ⟨by first | rfl | (simp [errW_none, errW_some] <;> rfl) | (simp [*, errW_none, errW_some] <;> rfl), by repeat (first | (with_reducible first | exact HB.out | apply below_alloc | apply pw_below_drewN | apply below_drew1) | exact HB.out)⟩
   rw [if_neg c11] at H
   exact absurd H (by simp)
  rw [if_neg c10] at H
  exact absurd H (by simp)
 rw [if_neg c8] at H
 exact absurd H (by simp)

/-- THE ONE PURE STATEMENT of vinculumlaw04_PrimeTells: yours. -/
def vinculumlaw04_PrimeTells.Pure : Prop := ∀ (a0 : Int), (Lit.int .u64 a0).wf = true → ∃ k, vinculumlaw04_PrimeTells.f k a0 = some true
theorem vinculumlaw04_PrimeTells.walk (P : vinculumlaw04_PrimeTells.Pure) (a0 : Int) (w : World) (w0 : (Lit.int .u64 a0).wf = true) (hT_ : TabAt 0 Lib.deBruijn64tab w) :
  Calls Tryd.prog 3 #[.int .u64 a0] w fun e w' => e = .returned (.bool true) ∧ Below w.heap.size w w' := by
 have HT_ := Aside0.mk hT_
 clear hT_
 obtain ⟨k, h⟩ := P a0 w0
 refine (vinculumlaw04_PrimeTells.calls k a0 true w (by first | exact HT_.out | (refine tab_below HT_.out ?_; repeat (first | (with_reducible first | exact HB.out | apply below_alloc | apply pw_below_drewN | apply below_drew1) | exact HB.out)) | (repeat (first | exact HT_.out | apply tab_drewN | apply tab_drew))) h).mono ?_
 rintro e w' ⟨rfl, hd⟩
 exact ⟨rfl, hd⟩

end Go.Proofs.YtnlklfhgdefbaaaDoor.GN
-- thin

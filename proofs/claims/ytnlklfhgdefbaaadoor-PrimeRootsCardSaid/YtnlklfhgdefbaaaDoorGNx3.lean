-- Written by wip/tools/myprint.py (this session's program, over the kit's print.py).
import Derived.Test.YtnlklfhgdefbaaaDoorGNx0
import Derived.Test.YtnlklfhgdefbaaaDoorGNx1
import Derived.Test.YtnlklfhgdefbaaaDoorGNx2
namespace Go.Proofs.YtnlklfhgdefbaaaDoor.GN
set_option maxRecDepth 100000
set_option maxHeartbeats 8000000
open Go.RowKit Go.Proofs.YtnlklfhgdefbaaaDoorW.PrintWords Go.Proofs.YtnlklfhgdefbaaaDoorW.PrintLast Go.Proofs.YtnlklfhgdefbaaaDoorW.PrintMore
attribute [local go_sem] max2_int min2_int max_two min_two max_three min_three max_four min_four   -- for this text's walks alone
set_option linter.unusedVariables false
set_option linter.unusedSimpArgs false

/-- A state of type 55 at block g of W; what its slices lead to came in by w0. -/
def IsS55 (w0 W : World) (g : Nat) (f0 : Int) (f1 : Int) (f2 : Int) : Prop := W.heap[g]? = some (.cells #[.int .u64 f0, .int .u64 f1, .int .u64 f2] 55 (0, 0)) ∧ w0.heap.size ≤ g
theorem IsS55.grown {w0 W : World} {g : Nat} {f0 : Int} {f1 : Int} {f2 : Int} {W1 : World} {row : Option Nat} (h : IsS55 w0 W g f0 f1 f2) (hw : W.grownBy W1 row) (hne : some g ≠ row) : IsS55 w0 W1 g f0 f1 f2 := by
 obtain ⟨hb, hg⟩ := h
 exact ⟨blk_grown hb hw hne, hg⟩
theorem IsS55.own_neN {w0 W : World} {g : Nat} {f0 : Int} {f1 : Int} {f2 : Int} {α : Type} {d : Kd α} {e : Nat} {base : Nat} {ok : Nat → Prop} {v : Value} {xs : List α} (h : IsS55 w0 W g f0 f1 f2) (ho : Kd.N d e W base ok v xs) (ht : e ≠ 55) : some g ≠ v.ownBlock := by
 obtain ⟨hb, hg⟩ := h
 exact Kd.N_ne ho hb ht
theorem IsS55.fresh {w0 W : World} {g : Nat} {f0 : Int} {f1 : Int} {f2 : Int} (h : IsS55 w0 W g f0 f1 f2) : ∀ k, W.heap.size ≤ k → k ≠ g := by
 obtain ⟨hb, hg⟩ := h
 exact Kd.freshB hb
theorem IsS55.kept {w0 W : World} {g : Nat} {f0 : Int} {f1 : Int} {f2 : Int} {W1 : World} {S : Nat → Prop} (h : IsS55 w0 W g f0 f1 f2) (hk : Kept W W1 S) (hne : ¬ S g) : IsS55 w0 W1 g f0 f1 f2 := by
 obtain ⟨hb, hg⟩ := h
 exact ⟨blk_kept hb hk hne, hg⟩
theorem IsS55.below {w0 W : World} {g : Nat} {f0 : Int} {f1 : Int} {f2 : Int} {W1 : World} (h : IsS55 w0 W g f0 f1 f2) (hw : Below W.heap.size W W1) : IsS55 w0 W1 g f0 f1 f2 := h.grown (grown_of_below hw none) (by simp)
theorem IsS55.alloc {w0 W : World} {g : Nat} {f0 : Int} {f1 : Int} {f2 : Int} (h : IsS55 w0 W g f0 f1 f2) (o : Obj) : IsS55 w0 (W.alloc o) g f0 f1 f2 := h.below (below_alloc (Below.refl _ _) o)
theorem IsS55.drewN {w0 W : World} {g : Nat} {f0 : Int} {f1 : Int} {f2 : Int} (h : IsS55 w0 W g f0 f1 f2) (m : Nat) : IsS55 w0 (W.drewN m) g f0 f1 f2 := h
theorem IsS55.drew {w0 W : World} {g : Nat} {f0 : Int} {f1 : Int} {f2 : Int} (h : IsS55 w0 W g f0 f1 f2) : IsS55 w0 W.drew g f0 f1 f2 := h
theorem IsS55.at_ {w0 W : World} {g : Nat} {f0 : Int} {f1 : Int} {f2 : Int} {w' : World} {m : Nat} (hq : W.drewN m = w') (h : IsS55 w0 W g f0 f1 f2) : IsS55 w0 w' g f0 f1 f2 := by subst hq; exact IsS55.drewN h m
theorem IsS55.apart {w0 W : World} {g : Nat} {f0 : Int} {f1 : Int} {f2 : Int} {α : Type} {d : Kd α} {e : Nat} {base : Nat} {ok : Nat → Prop} {v : Value} {xs : List α} (h : IsS55 w0 W g f0 f1 f2) (ho : d.R e W base ok v xs) (ht : ∀ q, q ∈ e :: d.E → q ≠ 55) : d.R e W base (fun k => ok k ∧ k ≠ g) v xs := by
 obtain ⟨hb, hg⟩ := h
 exact Kd.R_types ho hb ht
theorem IsS55.own_ne {w0 W : World} {g : Nat} {f0 : Int} {f1 : Int} {f2 : Int} {α : Type} {d : Kd α} {e : Nat} {base : Nat} {ok : Nat → Prop} {v : Value} {xs : List α} (h : IsS55 w0 W g f0 f1 f2) (ho : d.R e W base ok v xs) (ht : e ≠ 55) : some g ≠ v.ownBlock := by
 obtain ⟨hb, hg⟩ := h
 exact Kd.R_ne ho hb ht
theorem IsS55.apartQ {w0 W : World} {g : Nat} {f0 : Int} {f1 : Int} {f2 : Int} {α : Type} {d : Kd α} {e : Nat} {base : Nat} {ok : Nat → Prop} {v : Value} {xs : List α} (h : IsS55 w0 W g f0 f1 f2) (ho : d.Q e W base ok v xs) (ht : ∀ q, q ∈ e :: d.E → q ≠ 55) : d.Q e W base (fun k => ok k ∧ k ≠ g) v xs := by
 obtain ⟨hb, hg⟩ := h
 exact Kd.Q_types ho hb ht
theorem IsS55.own_neQ {w0 W : World} {g : Nat} {f0 : Int} {f1 : Int} {f2 : Int} {α : Type} {d : Kd α} {e : Nat} {base : Nat} {ok : Nat → Prop} {v : Value} {xs : List α} (h : IsS55 w0 W g f0 f1 f2) (ho : d.Q e W base ok v xs) (ht : e ≠ 55) : some g ≠ v.ownBlock := by
 obtain ⟨hb, hg⟩ := h
 exact Kd.Q_ne ho hb ht
theorem IsS55.apartS {w0 W : World} {g : Nat} {f0 : Int} {f1 : Int} {f2 : Int} {α : Type} {d : Kd α} {e : Nat} {base : Nat} {ok : Nat → Prop} {v : Value} {xs : List α} (h : IsS55 w0 W g f0 f1 f2) (ho : d.S e W base ok v xs) (ht : ∀ q, q ∈ e :: d.E → q ≠ 55) : d.S e W base (fun k => ok k ∧ k ≠ g) v xs := by
 obtain ⟨hb, hg⟩ := h
 exact Kd.S_types ho hb ht
theorem IsS55.own_neS {w0 W : World} {g : Nat} {f0 : Int} {f1 : Int} {f2 : Int} {α : Type} {d : Kd α} {e : Nat} {base : Nat} {ok : Nat → Prop} {v : Value} {xs : List α} (h : IsS55 w0 W g f0 f1 f2) (ho : d.S e W base ok v xs) (ht : e ≠ 55) : some g ≠ v.ownBlock := by
 obtain ⟨hb, hg⟩ := h
 exact Kd.S_ne ho hb ht
theorem IsS55.lt {w0 W : World} {g : Nat} {f0 : Int} {f1 : Int} {f2 : Int} (h : IsS55 w0 W g f0 f1 f2) : g < W.heap.size := by
 obtain ⟨hb, hg⟩ := h
 exact blk_lt hb
theorem IsS55.ge {w0 W : World} {g : Nat} {f0 : Int} {f1 : Int} {f2 : Int} (h : IsS55 w0 W g f0 f1 f2) : w0.heap.size ≤ g := by
 obtain ⟨hb, hg⟩ := h
 exact hg
theorem IsS55.ne_blk {w0 W : World} {g : Nat} {f0 : Int} {f1 : Int} {f2 : Int} {a : Nat} {cs : Array Value} {t : TypeId} {fr : Nat × Nat} (h : IsS55 w0 W g f0 f1 f2) (hb2 : W.heap[a]? = some (.cells cs t fr)) (ht : t ≠ 55) : g ≠ a := by
 obtain ⟨hb, hg⟩ := h
 rintro rfl
 rw [hb] at hb2
 injection hb2 with hb2
 injection hb2 with _ ht2
 exact ht ht2.symm
theorem IsS55.far {w0 W : World} {g : Nat} {f0 : Int} {f1 : Int} {f2 : Int} {p : Addr} (h : IsS55 w0 W g f0 f1 f2) (hne : g ≠ p.block) (u : Value) : IsS55 w0 (W.setCell p u) g f0 f1 f2 := by
 obtain ⟨hb, hg⟩ := h
 exact ⟨blk_far hb hne u, hg⟩
theorem cellS55_0 {W : World} {g : Nat} {f0 : Int} {f1 : Int} {f2 : Int} (h : W.heap[g]? = some (.cells #[.int .u64 f0, .int .u64 f1, .int .u64 f2] 55 (0, 0))) : W.cell? ⟨g, 0, none⟩ = some (.int .u64 f0) := (blk_cell h 0).trans rfl
theorem IsS55.set_0 {w0 W : World} {g : Nat} {f0 : Int} {f1 : Int} {f2 : Int} (h : IsS55 w0 W g f0 f1 f2) (x : Int) : IsS55 w0 (W.setCell ⟨g, 0, none⟩ (.int .u64 x)) g x f1 f2 := by
 obtain ⟨hb, hg⟩ := h
 exact ⟨by simpa using blk_set hb 0 (.int .u64 x), hg⟩
theorem cellS55_1 {W : World} {g : Nat} {f0 : Int} {f1 : Int} {f2 : Int} (h : W.heap[g]? = some (.cells #[.int .u64 f0, .int .u64 f1, .int .u64 f2] 55 (0, 0))) : W.cell? ⟨g, 1, none⟩ = some (.int .u64 f1) := (blk_cell h 1).trans rfl
theorem IsS55.set_1 {w0 W : World} {g : Nat} {f0 : Int} {f1 : Int} {f2 : Int} (h : IsS55 w0 W g f0 f1 f2) (x : Int) : IsS55 w0 (W.setCell ⟨g, 1, none⟩ (.int .u64 x)) g f0 x f2 := by
 obtain ⟨hb, hg⟩ := h
 exact ⟨by simpa using blk_set hb 1 (.int .u64 x), hg⟩
theorem cellS55_2 {W : World} {g : Nat} {f0 : Int} {f1 : Int} {f2 : Int} (h : W.heap[g]? = some (.cells #[.int .u64 f0, .int .u64 f1, .int .u64 f2] 55 (0, 0))) : W.cell? ⟨g, 2, none⟩ = some (.int .u64 f2) := (blk_cell h 2).trans rfl
theorem IsS55.set_2 {w0 W : World} {g : Nat} {f0 : Int} {f1 : Int} {f2 : Int} (h : IsS55 w0 W g f0 f1 f2) (x : Int) : IsS55 w0 (W.setCell ⟨g, 2, none⟩ (.int .u64 x)) g f0 f1 x := by
 obtain ⟨hb, hg⟩ := h
 exact ⟨by simpa using blk_set hb 2 (.int .u64 x), hg⟩
theorem IsS55.new (w0 W : World) (f0 : Int) (f1 : Int) (f2 : Int) (hB : Below w0.heap.size w0 W) : IsS55 w0 (W.alloc (.cells #[.int .u64 f0, .int .u64 f1, .int .u64 f2] 55)) W.heap.size f0 f1 f2 := ⟨by simpa using heap_alloc_new W _, hB.size⟩

/-! ### word_Field_Mul: function 36 -/
def word_Field_Mul.f (k : Nat) (s0_0 : Int) (s0_1 : Int) (s0_2 : Int) (a1 : Int) (a2 : Int) : Option (Int × Int × Int × Int) := if s0_0 = 0 then (none) else ((bits_Mul64.f (Int.tmod a1 s0_0) (Int.tmod a2 s0_0)).bind fun bt118 => ((bits_Rem64.f k bt118.1 bt118.2 s0_0).bind fun t120 => (some (t120, s0_0, s0_1, s0_2))))
theorem word_Field_Mul.mono : ∀ a0 a1 a2 a3 a4 k, LeO (word_Field_Mul.f k a0 a1 a2 a3 a4) (word_Field_Mul.f (k + 1) a0 a1 a2 a3 a4) := by
 intro a0 a1 a2 a3 a4 k
 unfold word_Field_Mul.f
 repeat' first
   | (with_reducible exact bits_Rem64.mono _ _ _ _)
   | (with_reducible exact LeO.refl _)
   | (with_reducible exact LeO.none _)
   | (with_reducible refine LeO.ite ?_ ?_)
   | (with_reducible refine LeO.bind ?_ (fun _ => ?_))
   | exact bits_Rem64.mono _ _ _ _
   | exact LeO.none _
   | refine LeO.ite ?_ ?_
   | refine LeO.bind ?_ (fun _ => ?_)
theorem word_Field_Mul.calls (k : Nat) (g : Nat) (s0_0 : Int) (s0_1 : Int) (s0_2 : Int) (a1 : Int) (a2 : Int) (r1 : Int) (r2 : Int) (r3 : Int) (r4 : Int) (w0 w : World) (hI : IsS55 w0 w g s0_0 s0_1 s0_2) (hB : Below w0.heap.size w0 w) (h : word_Field_Mul.f k s0_0 s0_1 s0_2 a1 a2 = some (r1, r2, r3, r4)) :
  Calls Tryd.prog 36 #[.pointer (some ⟨g, 0, none⟩), .int .u64 a1, .int .u64 a2] w fun e w' => e = .returned (.int .u64 r1) ∧ IsS55 w0 w' g r2 r3 r4 ∧ Below w0.heap.size w0 w' ∧ KeepBut w w' g none := by
 have HI0 := Aside0.mk hI
 have HK := Aside0.mk (KeepBut.refl w g none)
 have HL := Aside0.mk hB.size
 clear hI
 have HW0 := Aside0.mk hB.size
 have HB := Aside0.mk hB
 clear hB
 have H : (if s0_0 = 0 then (none) else ((bits_Mul64.f (Int.tmod a1 s0_0) (Int.tmod a2 s0_0)).bind fun bt118 => ((bits_Rem64.f k bt118.1 bt118.2 s0_0).bind fun t120 => (some (t120, s0_0, s0_1, s0_2))))) = some (r1, r2, r3, r4) := h
 clear h
 by_cases c4 : s0_0 = 0
 ·rw [if_pos c4] at H
  exact absurd H (by simp)
 rw [if_neg c4] at H
 have c4b0 : (s0_0 == 0) = false := beq_eq_false_iff_ne.mpr c4
 have c4b1 : (s0_0 != 0) = true := bne_iff_ne.mpr c4
 replace H := Option.bind_eq_some_iff.mp H
 obtain ⟨⟨t118, t119⟩, A50, H⟩ := H
 replace H : ((bits_Rem64.f k t118 t119 s0_0).bind fun t120 => (some (t120, s0_0, s0_1, s0_2))) = some (r1, r2, r3, r4) := H
 have A5 := Aside0.mk A50
 clear A50
 replace H := Option.bind_eq_some_iff.mp H
 obtain ⟨t120, A60, H⟩ := H
 replace H : (some (t120, s0_0, s0_1, s0_2)) = some (r1, r2, r3, r4) := H
 have A6 := Aside0.mk A60
 clear A60
 simp only [Option.some.injEq, Prod.mk.injEq] at H
 obtain ⟨rfl, rfl, rfl, rfl⟩ := H
 obtain ⟨HGz7, hgz7⟩ := HI0.out
 have hcz7_0 := cellS55_0 HGz7
 have hcz7_1 := cellS55_1 HGz7
 have hcz7_2 := cellS55_2 HGz7
 have hfz7_0 := blk_frozen HGz7 0
 have hfz7_1 := blk_frozen HGz7 1
 have hfz7_2 := blk_frozen HGz7 2
 clear HGz7 hgz7
 go_enter Tryd.func36, Tryd.ntmps36
 go_wp2_with (first | (go_at_call 37; (with_reducible refine (bits_Mul64.calls (Int.tmod a1 s0_0) (Int.tmod a2 s0_0) t118 t119 _ A5.out).mono ?_); rintro e w' ⟨rfl, ⟨nd, rfl⟩⟩; (try first | exact ⟨rfl, _, World.drewN_drewN _ _ _⟩ | exact ⟨rfl, _, Eq.trans (World.drewN_drewN _ _ _) (congrArg (World.drewN _) (Nat.add_assoc _ _ _))⟩)) | (go_at_call 38; (with_reducible refine (bits_Rem64.calls k t118 t119 s0_0 t120 _ A6.out).mono ?_); rintro e w' ⟨rfl, ⟨nd, rfl⟩⟩; (try first | exact ⟨rfl, _, World.drewN_drewN _ _ _⟩ | exact ⟨rfl, _, Eq.trans (World.drewN_drewN _ _ _) (congrArg (World.drewN _) (Nat.add_assoc _ _ _))⟩)))
 repeat (go_quiet (first | (go_at_call 37; (with_reducible refine (bits_Mul64.calls (Int.tmod a1 s0_0) (Int.tmod a2 s0_0) t118 t119 _ A5.out).mono ?_); rintro e w' ⟨rfl, ⟨nd, rfl⟩⟩; (try first | exact ⟨rfl, _, World.drewN_drewN _ _ _⟩ | exact ⟨rfl, _, Eq.trans (World.drewN_drewN _ _ _) (congrArg (World.drewN _) (Nat.add_assoc _ _ _))⟩)) | (go_at_call 38; (with_reducible refine (bits_Rem64.calls k t118 t119 s0_0 t120 _ A6.out).mono ?_); rintro e w' ⟨rfl, ⟨nd, rfl⟩⟩; (try first | exact ⟨rfl, _, World.drewN_drewN _ _ _⟩ | exact ⟨rfl, _, Eq.trans (World.drewN_drewN _ _ _) (congrArg (World.drewN _) (Nat.add_assoc _ _ _))⟩))); try go_wp2_with (first | (go_at_call 37; (with_reducible refine (bits_Mul64.calls (Int.tmod a1 s0_0) (Int.tmod a2 s0_0) t118 t119 _ A5.out).mono ?_); rintro e w' ⟨rfl, ⟨nd, rfl⟩⟩; (try first | exact ⟨rfl, _, World.drewN_drewN _ _ _⟩ | exact ⟨rfl, _, Eq.trans (World.drewN_drewN _ _ _) (congrArg (World.drewN _) (Nat.add_assoc _ _ _))⟩)) | (go_at_call 38; (with_reducible refine (bits_Rem64.calls k t118 t119 s0_0 t120 _ A6.out).mono ?_); rintro e w' ⟨rfl, ⟨nd, rfl⟩⟩; (try first | exact ⟨rfl, _, World.drewN_drewN _ _ _⟩ | exact ⟨rfl, _, Eq.trans (World.drewN_drewN _ _ _) (congrArg (World.drewN _) (Nat.add_assoc _ _ _))⟩))))
 go_ret
 exact ⟨by first | rfl | (simp [errW_none, errW_some] <;> rfl) | (simp [*, errW_none, errW_some] <;> rfl), by repeat (first | (with_reducible first | exact HI0.out | apply IsS55.alloc | apply IsS55.drewN | apply IsS55.drew | apply IsS55.set_0 | apply IsS55.set_1 | apply IsS55.set_2) | exact HI0.out), by repeat (first | (with_reducible first | exact HB.out | apply below_alloc | apply pw_below_drewN | apply below_drew1 | refine below_set ?_ (IsS55.ge HI0.out)) | exact HB.out), by repeat (first | (with_reducible first | exact HK.out | apply KeepBut.set_ | apply keep_drewN | apply keep_drew | apply keep_alloc) | exact HK.out)⟩

/-! ### word_New: function 34 -/
/-- word.New: the three numbers of a field; how an odd word's inverse is found. -/
def word_New.l0 : Nat → Int → Int → Int → Option (Int × Int × Int)
 | 0, _, _, _ => none
 | k + 1, m, inv, i => if i < 5 then word_New.l0 k m (IntKind.u64.wrap (inv * (IntKind.u64.wrap (2 - (IntKind.u64.wrap (m * inv)))))) (wrap64 (i + 1)) else ((word_Field_Mul.f k m (IntKind.u64.wrap (-inv)) 0 (Int.tmod (IntKind.u64.wrap (-m)) m) (Int.tmod (IntKind.u64.wrap (-m)) m)).bind fun t => some (t.2.1, t.2.2.1, t.1))
def word_New.f (k : Nat) (m : Int) : Option (Int × Int × Int) := if m < 2 then none else if 9223372036854775808 ≤ m then none else if Go.bits .and .u64 m 1 = 1 then word_New.l0 k m m 0 else some (m, 0, 0)
theorem word_New.mono_l0 : ∀ k, (∀ y0 y1 y2, LeO (word_New.l0 k y0 y1 y2) (word_New.l0 (k + 1) y0 y1 y2))
 | 0 => fun _ _ _ r h => by simp [word_New.l0] at h
 | k + 1 => by
  have ih0 := word_New.mono_l0 k
  intro y0 y1 y2
  rw [word_New.l0, word_New.l0]
  refine LeO.ite (ih0 _ _ _) ?_
  exact LeO.bind (word_Field_Mul.mono _ _ _ _ _ _) (fun _ => LeO.refl _)
theorem word_New.mono : ∀ a0 k, LeO (word_New.f k a0) (word_New.f (k + 1) a0) := by
 intro a0 k
 unfold word_New.f
 exact LeO.ite (LeO.refl _) (LeO.ite (LeO.refl _) (LeO.ite (word_New.mono_l0 k _ _ _) (LeO.refl _)))
theorem word_New.bad (m : Int) (w : World) (h : m < 2 ∨ 9223372036854775808 ≤ m) :
  Calls Tryd.prog 34 #[.int .u64 m] w fun e w' => e = .returned (.tuple #[.pointer none, .int .i64 1]) ∧ Drawn0 w w' := by
 by_cases c1 : m < 2
 ·have c1b0 : decide (m < 2) = true := decide_eq_true c1
  clear c1 h
  go_enter Tryd.func34, Tryd.ntmps34
  go_wp2
  refine bodyPost_ret (results_tmp2 rfl _ _ _) rfl ?_
  exact ⟨rfl, Drawn0.refl _⟩
 have c1b0 : decide (m < 2) = false := decide_eq_false c1
 have c2b0 : decide (9223372036854775808 ≤ m) = true := decide_eq_true (h.resolve_left c1)
 clear c1 h
 go_enter Tryd.func34, Tryd.ntmps34
 go_wp2
 refine bodyPost_ret (results_tmp2 rfl _ _ _) rfl ?_
 exact ⟨rfl, Drawn0.refl _⟩
theorem word_New.calls (k : Nat) (m s0 s1 s2 : Int) (w : World) (h : word_New.f k m = some (s0, s1, s2)) :
  Calls Tryd.prog 34 #[.int .u64 m] w fun e w' => ∃ g, e = .returned (.tuple #[.pointer (some ⟨g, 0, none⟩), .int .i64 0]) ∧ IsS55 w w' g s0 s1 s2 ∧ Below w.heap.size w w' := by
 have HB := Aside0.mk (Below.refl w.heap.size w)
 have H : (if m < 2 then none else if 9223372036854775808 ≤ m then none else if Go.bits .and .u64 m 1 = 1 then word_New.l0 k m m 0 else some (m, 0, 0)) = some (s0, s1, s2) := h
 clear h
 by_cases c1 : m < 2
 ·rw [if_pos c1] at H; cases H
 rw [if_neg c1] at H
 have c1b0 : decide (m < 2) = false := decide_eq_false c1
 have hm0 := Aside0.mk (show ¬ m = 0 by omega)
 clear c1
 by_cases c2 : 9223372036854775808 ≤ m
 ·rw [if_pos c2] at H; cases H
 rw [if_neg c2] at H
 have c2b0 : decide (9223372036854775808 ≤ m) = false := decide_eq_false c2
 clear c2
 by_cases c3 : Go.bits .and .u64 m 1 = 1
 ·rw [if_pos c3] at H
  have c3b0 : (Go.bits .and .u64 m 1 == 1) = true := beq_iff_eq.mpr c3
  clear c3
  have H' := Aside0.mk H
  clear H
  go_enter Tryd.func34, Tryd.ntmps34
  go_wp2_with (first | ((with_reducible refine gate_dst (N := 15) rfl ?_); refine box_event ?hg (N := 15) ?hd (cs := #[.int .u64 m, .int .u64 0, .int .u64 0]) (t := 55) ?hr ?_; (case hd => rfl); (case hg => rfl); (case hr => first | (go_simp; done) | (go_simp; rfl)); intro gb hg w5 hbox hb; have n0_ := Aside0.mk (below_step HB.out hb); have n1_ : Aside0 (IsS55 w w5 gb m 0 0) := ⟨⟨hbox, by rw [hg]; exact below_size HB.out⟩⟩; clear HB; have HB := n0_; have HI := n1_; clear n0_ n1_; clear hb hbox hg))
  go_loopg [5, 20] k (fun kq v5 v20 w' => ∃ (inv i : Int), v5 = .int .u64 inv ∧ v20 = .int .i64 i ∧ Aside0 (word_New.l0 kq m inv i = some (s0, s1, s2)) ∧ Aside0 (kq ≤ k) ∧ Aside0 (IsS55 w w' gb m 0 0) ∧ Aside0 (Below w.heap.size w w'))
  case atStart => exact ⟨m, 0, rfl, rfl, H', ⟨Nat.le_refl _⟩, HI, HB⟩
  case round =>
   clear H' HB HI
   obtain ⟨inv, i, rfl, rfl, HA, HK1, HI, HB⟩ := hrel
   cases gk with
   | zero => exact absurd HA.out (by simp [word_New.l0])
   | succ k1 =>
    have H := HA.out
    clear HA
    rw [word_New.l0] at H
    by_cases c4 : i < 5
    ·rw [if_pos c4] at H
     have c4b0 : decide (i < 5) = true := decide_eq_true c4
     clear c4
     have H' := Aside0.mk H
     clear H
     go_wp2
     go_roundg k1
     case measure => have := HK1.out; omega
     case rel => exact ⟨_, _, rfl, rfl, H', ⟨by have := HK1.out; omega⟩, HI, HB⟩
    rw [if_neg c4] at H
    have c4b0 : decide (i < 5) = false := decide_eq_false c4
    clear c4
    replace H := Option.bind_eq_some_iff.mp H
    obtain ⟨⟨t, u0, u1, u2⟩, A50, H⟩ := H
    have A5 := Aside0.mk A50
    clear A50
    replace H : (some (u0, u1, t) : Option (Int × Int × Int)) = some (s0, s1, s2) := H
    simp only [Option.some.injEq, Prod.mk.injEq] at H
    obtain ⟨rfl, rfl, rfl⟩ := H
    have hm1 := hm0.out
    have hmz : (m == 0) = false := beq_eq_false_iff_ne.mpr hm1
    have hmz1 : (m != 0) = true := bne_iff_ne.mpr hm1
    obtain ⟨HGz, hgz⟩ := HI.out
    have hcz_1 := cellS55_1 HGz
    have hfz_1 := blk_frozen HGz 1
    clear HGz hgz
    go_wp2_with (first | ((with_reducible refine gate_callee (f := 36) rfl ?_); refine goesL_ (some 42) rfl rfl Tryd.func36 (by kernel_rfl) rfl #[.pointer (some ⟨gb, 0, none⟩), .int .u64 (Int.tmod (IntKind.u64.wrap (-m)) m), .int .u64 (Int.tmod (IntKind.u64.wrap (-m)) m)] rfl (by (try simp only [List.map_toArray, List.map_cons, List.map_nil]); first | done | rfl) ?_; (with_reducible refine (word_Field_Mul.calls k1 gb m (IntKind.u64.wrap (-inv)) 0 (Int.tmod (IntKind.u64.wrap (-m)) m) (Int.tmod (IntKind.u64.wrap (-m)) m) t u0 u1 u2 w _ ?side1 ?side2 A5.out).mono ?_); (case side1 => exact IsS55.set_1 HI.out _); (case side2 => exact below_set HB.out (IsS55.ge HI.out)); rintro e w6 ⟨rfl, hi, hb, hk⟩; refine ⟨_, rfl, ?_⟩; have n0_ := Aside0.mk hi; have n1_ := Aside0.mk hb; clear HB; clear HI; have HI := n0_; have HB := n1_; clear n0_ n1_ hi hb hk hcz_1 hfz_1; obtain ⟨HGz, hgz⟩ := HI.out; have hcz_2 := cellS55_2 HGz; have hfz_2 := blk_frozen HGz 2; clear HGz hgz))
    refine bodyPost_ret (results_tmp2 rfl _ _ _) rfl ?_
    exact ⟨_, rfl, IsS55.set_2 HI.out _, below_set HB.out (IsS55.ge HI.out)⟩
 rw [if_neg c3] at H
 have c3b0 : (Go.bits .and .u64 m 1 == 1) = false := beq_eq_false_iff_ne.mpr c3
 clear c3
 simp only [Option.some.injEq, Prod.mk.injEq] at H
 obtain ⟨rfl, rfl, rfl⟩ := H
 go_enter Tryd.func34, Tryd.ntmps34
 go_wp2_with (first | ((with_reducible refine gate_dst (N := 15) rfl ?_); refine box_event ?hg (N := 15) ?hd (cs := #[.int .u64 m, .int .u64 0, .int .u64 0]) (t := 55) ?hr ?_; (case hd => rfl); (case hg => rfl); (case hr => first | (go_simp; done) | (go_simp; rfl)); intro gb hg w5 hbox hb; have n0_ := Aside0.mk (below_step HB.out hb); have n1_ : Aside0 (IsS55 w w5 gb m 0 0) := ⟨⟨hbox, by rw [hg]; exact below_size HB.out⟩⟩; clear HB; have HB := n0_; have HI := n1_; clear n0_ n1_; clear hb hbox hg))
 refine bodyPost_ret (results_tmp2 rfl _ _ _) rfl ?_
 exact ⟨_, rfl, HI.out, HB.out⟩

/-! ### prime_field: function 28 -/
/-- prime.field: the numbers of a field, or none. -/
def prime_field.f (k : Nat) (p : Int) : Option (Option (Int × Int × Int)) := if 9223372036854775808 ≤ p then some none else ((prime_Is.f k p).bind fun t => if t = true then ((word_New.f k p).bind fun s => some (some s)) else some none)
theorem prime_field.mono : ∀ a0 k, LeO (prime_field.f k a0) (prime_field.f (k + 1) a0) := by
 intro a0 k
 unfold prime_field.f
 refine LeO.ite (LeO.refl _) (LeO.bind (prime_Is.mono _ _) fun t => ?_)
 exact LeO.ite (LeO.bind (word_New.mono _ _) fun _ => LeO.refl _) (LeO.refl _)
theorem prime_field.bad (k : Nat) (p : Int) (w : World) (hT_ : TabAt 0 Lib.deBruijn64tab w) (h : prime_field.f k p = some none) :
  Calls Tryd.prog 28 #[.int .u64 p] w fun e w' => e = .returned (.tuple #[.pointer none, .int .i64 14]) ∧ Below w.heap.size w w' := by
 have HB := Aside0.mk (Below.refl w.heap.size w)
 have HT_ := Aside0.mk hT_
 clear hT_
 have H : (if 9223372036854775808 ≤ p then (some none : Option (Option (Int × Int × Int))) else ((prime_Is.f k p).bind fun t => if t = true then ((word_New.f k p).bind fun s => some (some s)) else some none)) = some none := h
 clear h
 by_cases c1 : 9223372036854775808 ≤ p
 ·have c1b0 : decide (9223372036854775808 ≤ p) = true := decide_eq_true c1
  clear c1 H
  go_enter Tryd.func28, Tryd.ntmps28
  go_wp2
  refine bodyPost_ret (results_tmp2 rfl _ _ _) rfl ?_
  exact ⟨rfl, HB.out⟩
 rw [if_neg c1] at H
 have c1b0 : decide (9223372036854775808 ≤ p) = false := decide_eq_false c1
 clear c1
 replace H := Option.bind_eq_some_iff.mp H
 obtain ⟨t, A10, H⟩ := H
 have A1 := Aside0.mk A10
 clear A10
 cases t with
 | true =>
  rw [if_pos rfl] at H
  replace H := Option.bind_eq_some_iff.mp H
  obtain ⟨s, _, H⟩ := H
  exact absurd H (by simp)
 | false =>
  clear H
  go_enter Tryd.func28, Tryd.ntmps28
  go_wp2_with (first | ((with_reducible refine gate_callee (f := 14) rfl ?_); (try (refine gate_guard (by rfl) ?_; dsimp only)); refine goesL_ (some 8) rfl rfl Tryd.func14 (by kernel_rfl) rfl #[.int .u64 p] rfl (by (try simp only [List.map_toArray, List.map_cons, List.map_nil]); first | done | rfl) ?_; (with_reducible refine (prime_Is.calls k p false _ (tab_below HT_.out HB.out) A1.out).mono ?_); rintro e w5 ⟨rfl, hb⟩; refine ⟨_, rfl, ?_⟩; have n1_ := Aside0.mk (below_step HB.out hb); clear HB; have HB := n1_; clear n1_ hb))
  refine bodyPost_ret (results_tmp2 rfl _ _ _) rfl ?_
  exact ⟨rfl, HB.out⟩
theorem prime_field.calls (k : Nat) (p s0 s1 s2 : Int) (w : World) (hT_ : TabAt 0 Lib.deBruijn64tab w) (h : prime_field.f k p = some (some (s0, s1, s2))) :
  Calls Tryd.prog 28 #[.int .u64 p] w fun e w' => ∃ g, e = .returned (.tuple #[.pointer (some ⟨g, 0, none⟩), .int .i64 0]) ∧ IsS55 w w' g s0 s1 s2 ∧ Below w.heap.size w w' := by
 have HB := Aside0.mk (Below.refl w.heap.size w)
 have HT_ := Aside0.mk hT_
 clear hT_
 have H : (if 9223372036854775808 ≤ p then (some none : Option (Option (Int × Int × Int))) else ((prime_Is.f k p).bind fun t => if t = true then ((word_New.f k p).bind fun s => some (some s)) else some none)) = some (some (s0, s1, s2)) := h
 clear h
 by_cases c1 : 9223372036854775808 ≤ p
 ·rw [if_pos c1] at H
  exact absurd H (by simp)
 rw [if_neg c1] at H
 have c1b0 : decide (9223372036854775808 ≤ p) = false := decide_eq_false c1
 clear c1
 replace H := Option.bind_eq_some_iff.mp H
 obtain ⟨t, A10, H⟩ := H
 have A1 := Aside0.mk A10
 clear A10
 cases t with
 | false => exact absurd H (by simp)
 | true =>
  rw [if_pos rfl] at H
  replace H := Option.bind_eq_some_iff.mp H
  obtain ⟨s, A20, H⟩ := H
  have A2 := Aside0.mk A20
  clear A20
  simp only [Option.some.injEq] at H
  subst H
  go_enter Tryd.func28, Tryd.ntmps28
  go_wp2_with (first | ((with_reducible refine gate_callee (f := 14) rfl ?_); (try (refine gate_guard (by rfl) ?_; dsimp only)); refine goesL_ (some 8) rfl rfl Tryd.func14 (by kernel_rfl) rfl #[.int .u64 p] rfl (by (try simp only [List.map_toArray, List.map_cons, List.map_nil]); first | done | rfl) ?_; (with_reducible refine (prime_Is.calls k p true _ (tab_below HT_.out HB.out) A1.out).mono ?_); rintro e w5 ⟨rfl, hb⟩; refine ⟨_, rfl, ?_⟩; have n1_ := Aside0.mk (below_step HB.out hb); clear HB; have HB := n1_; clear n1_ hb) | ((with_reducible refine gate_callee (f := 34) rfl ?_); refine goesL_ (some 12) rfl rfl Tryd.func34 (by kernel_rfl) rfl #[.int .u64 p] rfl (by (try simp only [List.map_toArray, List.map_cons, List.map_nil]); first | done | rfl) ?_; (with_reducible refine (word_New.calls k p s0 s1 s2 _ A2.out).mono ?_); rintro e w6 ⟨g, rfl, hi, hb⟩; refine ⟨_, rfl, ?_⟩; have n1_ := Aside0.mk (below_step HB.out hb); have n2_ : Aside0 (IsS55 w w6 g s0 s1 s2) := ⟨⟨hi.1, Nat.le_trans (below_size HB.out) hi.2⟩⟩; clear HB; have HB := n1_; have HI := n2_; clear n1_ n2_ hb hi))
  refine bodyPost_ret (results_tmp2 rfl _ _ _) rfl ?_
  exact ⟨_, rfl, HI.out, HB.out⟩

/-! ### word_Field_Of: function 35 -/
def word_Field_Of.f (s0_0 : Int) (s0_1 : Int) (s0_2 : Int) (a1 : Int) : Option (Int × Int × Int × Int) := if s0_0 = 0 then (none) else (some (Int.tmod a1 s0_0, s0_0, s0_1, s0_2))
theorem word_Field_Of.calls (g : Nat) (s0_0 : Int) (s0_1 : Int) (s0_2 : Int) (a1 : Int) (r1 : Int) (r2 : Int) (r3 : Int) (r4 : Int) (w0 w : World) (hI : IsS55 w0 w g s0_0 s0_1 s0_2) (hB : Below w0.heap.size w0 w) (h : word_Field_Of.f s0_0 s0_1 s0_2 a1 = some (r1, r2, r3, r4)) :
  Calls Tryd.prog 35 #[.pointer (some ⟨g, 0, none⟩), .int .u64 a1] w fun e w' => e = .returned (.int .u64 r1) ∧ IsS55 w0 w' g r2 r3 r4 ∧ Below w0.heap.size w0 w' ∧ KeepBut w w' g none := by
 have HI0 := Aside0.mk hI
 have HK := Aside0.mk (KeepBut.refl w g none)
 have HL := Aside0.mk hB.size
 clear hI
 have HW0 := Aside0.mk hB.size
 have HB := Aside0.mk hB
 clear hB
 have H : (if s0_0 = 0 then (none) else (some (Int.tmod a1 s0_0, s0_0, s0_1, s0_2))) = some (r1, r2, r3, r4) := h
 clear h
 by_cases c3 : s0_0 = 0
 ·rw [if_pos c3] at H
  exact absurd H (by simp)
 rw [if_neg c3] at H
 have c3b0 : (s0_0 == 0) = false := beq_eq_false_iff_ne.mpr c3
 have c3b1 : (s0_0 != 0) = true := bne_iff_ne.mpr c3
 simp only [Option.some.injEq, Prod.mk.injEq] at H
 obtain ⟨rfl, rfl, rfl, rfl⟩ := H
 obtain ⟨HGz4, hgz4⟩ := HI0.out
 have hcz4_0 := cellS55_0 HGz4
 have hcz4_1 := cellS55_1 HGz4
 have hcz4_2 := cellS55_2 HGz4
 have hfz4_0 := blk_frozen HGz4 0
 have hfz4_1 := blk_frozen HGz4 1
 have hfz4_2 := blk_frozen HGz4 2
 clear HGz4 hgz4
 go_enter Tryd.func35, Tryd.ntmps35
 go_wp2
 go_ret
 exact ⟨by first | rfl | (simp [errW_none, errW_some] <;> rfl) | (simp [*, errW_none, errW_some] <;> rfl), by repeat (first | (with_reducible first | exact HI0.out | apply IsS55.alloc | apply IsS55.drewN | apply IsS55.drew | apply IsS55.set_0 | apply IsS55.set_1 | apply IsS55.set_2) | exact HI0.out), by repeat (first | (with_reducible first | exact HB.out | apply below_alloc | apply pw_below_drewN | apply below_drew1 | refine below_set ?_ (IsS55.ge HI0.out)) | exact HB.out), by repeat (first | (with_reducible first | exact HK.out | apply KeepBut.set_ | apply keep_drewN | apply keep_drew | apply keep_alloc) | exact HK.out)⟩

/-! ### word_Field_Pow: function 29 -/
def word_Field_Pow.l0 : Nat → Int → Int → Int → Int → Int → Int → Option (Int × Int × Int × Int)
 | 0, _, _, _, _, _, _ => none
 | k + 1, x1, x2, x7, x1000, x1001, x1002 => if x2 = 0 then (some (x7, x1000, x1001, x1002)) else (if (Go.bits .and .u64 x2 1) = 1 then ((word_Field_Mul.f k x1000 x1001 x1002 x7 x1).bind fun bt125 => ((word_Field_Mul.f k bt125.2.1 bt125.2.2.1 bt125.2.2.2 x1 x1).bind fun bt129 => (word_Field_Pow.l0 k bt129.1 (x2 / 2) bt125.1 bt129.2.1 bt129.2.2.1 bt129.2.2.2))) else ((word_Field_Mul.f k x1000 x1001 x1002 x1 x1).bind fun bt133 => (word_Field_Pow.l0 k bt133.1 (x2 / 2) x7 bt133.2.1 bt133.2.2.1 bt133.2.2.2)))
def word_Field_Pow.f (k : Nat) (s0_0 : Int) (s0_1 : Int) (s0_2 : Int) (a1 : Int) (a2 : Int) : Option (Int × Int × Int × Int) := (word_Field_Of.f s0_0 s0_1 s0_2 1).bind fun bt121 => (word_Field_Pow.l0 k a1 a2 bt121.1 bt121.2.1 bt121.2.2.1 bt121.2.2.2)
theorem word_Field_Pow.mono_l : ∀ k, (∀ y0 y1 y2 y3 y4 y5, LeO (word_Field_Pow.l0 k y0 y1 y2 y3 y4 y5) (word_Field_Pow.l0 (k + 1) y0 y1 y2 y3 y4 y5))
 | 0 => fun _ _ _ _ _ _ r h => by simp [word_Field_Pow.l0] at h
 | k + 1 => by
  have ih0 := word_Field_Pow.mono_l k
  ·intro y0 y1 y2 y3 y4 y5
   unfold word_Field_Pow.l0
   repeat' first
   | (with_reducible exact ih0 _ _ _ _ _ _)
   | (with_reducible exact word_Field_Mul.mono _ _ _ _ _ _)
   | (with_reducible exact LeO.refl _)
   | (with_reducible exact LeO.none _)
   | (with_reducible refine LeO.ite ?_ ?_)
   | (with_reducible refine LeO.bind ?_ (fun _ => ?_))
   | exact ih0 _ _ _ _ _ _
   | exact word_Field_Mul.mono _ _ _ _ _ _
   | exact LeO.none _
   | refine LeO.ite ?_ ?_
   | refine LeO.bind ?_ (fun _ => ?_)
theorem word_Field_Pow.mono : ∀ a0 a1 a2 a3 a4 k, LeO (word_Field_Pow.f k a0 a1 a2 a3 a4) (word_Field_Pow.f (k + 1) a0 a1 a2 a3 a4) := by
 intro a0 a1 a2 a3 a4 k
 have ih0 := word_Field_Pow.mono_l k
 unfold word_Field_Pow.f
 repeat' first
   | (with_reducible exact ih0 _ _ _ _ _ _)
   | (with_reducible exact word_Field_Mul.mono _ _ _ _ _ _)
   | (with_reducible exact LeO.refl _)
   | (with_reducible exact LeO.none _)
   | (with_reducible refine LeO.ite ?_ ?_)
   | (with_reducible refine LeO.bind ?_ (fun _ => ?_))
   | exact ih0 _ _ _ _ _ _
   | exact word_Field_Mul.mono _ _ _ _ _ _
   | exact LeO.none _
   | refine LeO.ite ?_ ?_
   | refine LeO.bind ?_ (fun _ => ?_)
theorem word_Field_Pow.calls (k : Nat) (g : Nat) (s0_0 : Int) (s0_1 : Int) (s0_2 : Int) (a1 : Int) (a2 : Int) (r1 : Int) (r2 : Int) (r3 : Int) (r4 : Int) (w0 w : World) (hI : IsS55 w0 w g s0_0 s0_1 s0_2) (hB : Below w0.heap.size w0 w) (h : word_Field_Pow.f k s0_0 s0_1 s0_2 a1 a2 = some (r1, r2, r3, r4)) :
  Calls Tryd.prog 29 #[.pointer (some ⟨g, 0, none⟩), .int .u64 a1, .int .u64 a2] w fun e w' => e = .returned (.int .u64 r1) ∧ IsS55 w0 w' g r2 r3 r4 ∧ Below w0.heap.size w0 w' ∧ KeepBut w w' g none := by
 have HI0 := Aside0.mk hI
 have HK := Aside0.mk (KeepBut.refl w g none)
 have HL := Aside0.mk hB.size
 clear hI
 have HW0 := Aside0.mk hB.size
 have HB := Aside0.mk hB
 clear hB
 have H : ((word_Field_Of.f s0_0 s0_1 s0_2 1).bind fun bt121 => (word_Field_Pow.l0 k a1 a2 bt121.1 bt121.2.1 bt121.2.2.1 bt121.2.2.2)) = some (r1, r2, r3, r4) := h
 clear h
 replace H := Option.bind_eq_some_iff.mp H
 obtain ⟨⟨t121, t122, t123, t124⟩, A40, H⟩ := H
 replace H : (word_Field_Pow.l0 k a1 a2 t121 t122 t123 t124) = some (r1, r2, r3, r4) := H
 have A4 := Aside0.mk A40
 clear A40
 have H' := Aside0.mk H
 clear H
 go_enter Tryd.func29, Tryd.ntmps29
 go_wp2
 try go_step3
 go_wp2_with (first | ((with_reducible refine gate_callee (f := 35) rfl ?_); refine goesL_ (some 9) rfl rfl Tryd.func35 (by kernel_rfl) rfl #[.pointer (some ⟨g, 0, none⟩), .int .u64 1] rfl (by (try simp only [List.map_toArray, List.map_cons, List.map_nil]); first | done | rfl | (simp only [List.length_drop, List.length_take]; rfl)) ?_; (with_reducible refine (word_Field_Of.calls g s0_0 s0_1 s0_2 1 t121 t122 t123 t124 w0 _ ?side1 ?side2 A4.out).mono ?_); (case side1 => repeat (first | (with_reducible first | exact HI0.out | apply IsS55.alloc | apply IsS55.drewN | apply IsS55.drew | apply IsS55.set_0 | apply IsS55.set_1 | apply IsS55.set_2) | exact HI0.out)); (case side2 => repeat (first | (with_reducible first | exact HB.out | apply below_alloc | apply pw_below_drewN | apply below_drew1 | refine below_set ?_ (IsS55.ge HI0.out)) | exact HB.out)); rintro e w5 ⟨rfl, hi, hb, hk⟩; refine ⟨_, rfl, ?_⟩; have n0_ := Aside0.mk (KeepBut.trans (by repeat (first | (with_reducible first | exact HK.out | apply KeepBut.set_ | apply keep_drewN | apply keep_drew | apply keep_alloc) | exact HK.out)) hk (.inl rfl)); have n1_ := Aside0.mk (hb); have n2_ := Aside0.mk (hi); clear HK; clear HB; clear HI0; have HK := n0_; have HB := n1_; have HI0 := n2_; clear n0_ n1_ n2_; (try clear hb); (try clear hb2); (try clear hk); (try clear hi)))
 try go_step3
 try go_wp2
 go_loopg [1, 2, 7] k (fun kq v1 v2 v7 w' => ∃ (x1_1 : Int) (x2_1 : Int) (x7_1 : Int) (x1000_1 : Int) (x1001_1 : Int) (x1002_1 : Int), v1 = .int .u64 x1_1 ∧ v2 = .int .u64 x2_1 ∧ v7 = .int .u64 x7_1 ∧ Aside0 (word_Field_Pow.l0 kq x1_1 x2_1 x7_1 x1000_1 x1001_1 x1002_1 = some (r1, r2, r3, r4)) ∧ Aside0 (kq ≤ k) ∧ Aside0 (IsS55 w0 w' g x1000_1 x1001_1 x1002_1) ∧ Aside0 (KeepBut w w' g none) ∧ Aside0 (Below w0.heap.size w0 w'))
 case atStart => exact ⟨(a1), (a2), (t121), (t122), (t123), (t124), (by first | rfl | (simp; done) | (simp [*]; done)), (by first | rfl | (simp; done) | (simp [*]; done)), (by first | rfl | (simp; done) | (simp [*]; done)), H', ⟨Nat.le_refl _⟩, ⟨by repeat (first | (with_reducible first | exact HI0.out | apply IsS55.alloc | apply IsS55.drewN | apply IsS55.drew | apply IsS55.set_0 | apply IsS55.set_1 | apply IsS55.set_2) | exact HI0.out)⟩, ⟨by repeat (first | (with_reducible first | exact HK.out | apply KeepBut.set_ | apply keep_drewN | apply keep_drew | apply keep_alloc) | exact HK.out)⟩, ⟨by repeat (first | (with_reducible first | exact HB.out | apply below_alloc | apply pw_below_drewN | apply below_drew1 | refine below_set ?_ (IsS55.ge HI0.out)) | exact HB.out)⟩⟩
 case round =>
  clear H'
  try clear c2
  try clear p2
  try clear c3
  obtain ⟨x1_1, x2_1, x7_1, x1000_1, x1001_1, x1002_1, rfl, rfl, rfl, HA, HK1, HI0, HK, HB⟩ := hrel
  cases gk with
  | zero => exact absurd HA.out (by simp [word_Field_Pow.l0])
  | succ k1 =>
   have H := HA.out
   clear HA
   simp only [word_Field_Pow.l0] at H
   by_cases c6 : x2_1 = 0
   ·rw [if_pos c6] at H
    have c6b0 : (x2_1 == 0) = true := beq_iff_eq.mpr c6
    have c6b1 : (x2_1 != 0) = false := bne_eq_false_iff_eq.mpr c6
    clear c6
    simp only [Option.some.injEq, Prod.mk.injEq] at H
    obtain ⟨rfl, rfl, rfl, rfl⟩ := H
    go_wp2
    try dsimp only [Exit.noGoto]
    go_ret
    exact ⟨by first | rfl | (simp [errW_none, errW_some] <;> rfl) | (simp [*, errW_none, errW_some] <;> rfl), by repeat (first | (with_reducible first | exact HI0.out | apply IsS55.alloc | apply IsS55.drewN | apply IsS55.drew | apply IsS55.set_0 | apply IsS55.set_1 | apply IsS55.set_2) | exact HI0.out), by repeat (first | (with_reducible first | exact HB.out | apply below_alloc | apply pw_below_drewN | apply below_drew1 | refine below_set ?_ (IsS55.ge HI0.out)) | exact HB.out), by repeat (first | (with_reducible first | exact HK.out | apply KeepBut.set_ | apply keep_drewN | apply keep_drew | apply keep_alloc) | exact HK.out)⟩
   rw [if_neg c6] at H
   have c6b0 : (x2_1 == 0) = false := beq_eq_false_iff_ne.mpr c6
   have c6b1 : (x2_1 != 0) = true := bne_iff_ne.mpr c6
   by_cases c7 : (Go.bits .and .u64 x2_1 1) = 1
   ·rw [if_pos c7] at H
    have c7b0 : ((Go.bits .and .u64 x2_1 1) == 1) = true := beq_iff_eq.mpr c7
    have c7b1 : ((Go.bits .and .u64 x2_1 1) != 1) = false := bne_eq_false_iff_eq.mpr c7
    clear c7
    replace H := Option.bind_eq_some_iff.mp H
    obtain ⟨⟨t125, t126, t127, t128⟩, A80, H⟩ := H
    replace H : ((word_Field_Mul.f k1 t126 t127 t128 x1_1 x1_1).bind fun bt129 => (word_Field_Pow.l0 k1 bt129.1 (x2_1 / 2) t125 bt129.2.1 bt129.2.2.1 bt129.2.2.2)) = some (r1, r2, r3, r4) := H
    have A8 := Aside0.mk A80
    clear A80
    replace H := Option.bind_eq_some_iff.mp H
    obtain ⟨⟨t129, t130, t131, t132⟩, A90, H⟩ := H
    replace H : (word_Field_Pow.l0 k1 t129 (x2_1 / 2) t125 t130 t131 t132) = some (r1, r2, r3, r4) := H
    have A9 := Aside0.mk A90
    clear A90
    have H' := Aside0.mk H
    clear H
    go_wp2_with (first | ((with_reducible refine gate_callee (f := 36) rfl ?_); refine goesL_ (some 20) rfl rfl Tryd.func36 (by kernel_rfl) rfl #[.pointer (some ⟨g, 0, none⟩), .int .u64 x7_1, .int .u64 x1_1] rfl (by (try simp only [List.map_toArray, List.map_cons, List.map_nil]); first | done | rfl | (simp only [List.length_drop, List.length_take]; rfl)) ?_; (with_reducible refine (word_Field_Mul.calls k1 g x1000_1 x1001_1 x1002_1 x7_1 x1_1 t125 t126 t127 t128 w0 _ ?side1 ?side2 A8.out).mono ?_); (case side1 => repeat (first | (with_reducible first | exact HI0.out | apply IsS55.alloc | apply IsS55.drewN | apply IsS55.drew | apply IsS55.set_0 | apply IsS55.set_1 | apply IsS55.set_2) | exact HI0.out)); (case side2 => repeat (first | (with_reducible first | exact HB.out | apply below_alloc | apply pw_below_drewN | apply below_drew1 | refine below_set ?_ (IsS55.ge HI0.out)) | exact HB.out)); rintro e w10 ⟨rfl, hi, hb, hk⟩; refine ⟨_, rfl, ?_⟩; have n0_ := Aside0.mk (KeepBut.trans (by repeat (first | (with_reducible first | exact HK.out | apply KeepBut.set_ | apply keep_drewN | apply keep_drew | apply keep_alloc) | exact HK.out)) hk (.inl rfl)); have n1_ := Aside0.mk (hb); have n2_ := Aside0.mk (hi); clear HK; clear HB; clear HI0; have HK := n0_; have HB := n1_; have HI0 := n2_; clear n0_ n1_ n2_; (try clear hb); (try clear hb2); (try clear hk); (try clear hi)) | ((with_reducible refine gate_callee (f := 36) rfl ?_); refine goesL_ (some 24) rfl rfl Tryd.func36 (by kernel_rfl) rfl #[.pointer (some ⟨g, 0, none⟩), .int .u64 x1_1, .int .u64 x1_1] rfl (by (try simp only [List.map_toArray, List.map_cons, List.map_nil]); first | done | rfl | (simp only [List.length_drop, List.length_take]; rfl)) ?_; (with_reducible refine (word_Field_Mul.calls k1 g t126 t127 t128 x1_1 x1_1 t129 t130 t131 t132 w0 _ ?side1 ?side2 A9.out).mono ?_); (case side1 => repeat (first | (with_reducible first | exact HI0.out | apply IsS55.alloc | apply IsS55.drewN | apply IsS55.drew | apply IsS55.set_0 | apply IsS55.set_1 | apply IsS55.set_2) | exact HI0.out)); (case side2 => repeat (first | (with_reducible first | exact HB.out | apply below_alloc | apply pw_below_drewN | apply below_drew1 | refine below_set ?_ (IsS55.ge HI0.out)) | exact HB.out)); rintro e w11 ⟨rfl, hi, hb, hk⟩; refine ⟨_, rfl, ?_⟩; have n0_ := Aside0.mk (KeepBut.trans (by repeat (first | (with_reducible first | exact HK.out | apply KeepBut.set_ | apply keep_drewN | apply keep_drew | apply keep_alloc) | exact HK.out)) hk (.inl rfl)); have n1_ := Aside0.mk (hb); have n2_ := Aside0.mk (hi); clear HK; clear HB; clear HI0; have HK := n0_; have HB := n1_; have HI0 := n2_; clear n0_ n1_ n2_; (try clear hb); (try clear hb2); (try clear hk); (try clear hi)))
    go_roundg k1
    case measure => have := HK1.out; omega
    case rel => exact ⟨(t129), (x2_1 / 2), (t125), (t130), (t131), (t132), (by first | rfl | (simp; done) | (simp [*]; done)), (by first | rfl | (simp; done) | (simp [*]; done)), (by first | rfl | (simp; done) | (simp [*]; done)), H', ⟨by have := HK1.out; omega⟩, ⟨by repeat (first | (with_reducible first | exact HI0.out | apply IsS55.alloc | apply IsS55.drewN | apply IsS55.drew | apply IsS55.set_0 | apply IsS55.set_1 | apply IsS55.set_2) | exact HI0.out)⟩, ⟨by repeat (first | (with_reducible first | exact HK.out | apply KeepBut.set_ | apply keep_drewN | apply keep_drew | apply keep_alloc) | exact HK.out)⟩, ⟨by repeat (first | (with_reducible first | exact HB.out | apply below_alloc | apply pw_below_drewN | apply below_drew1 | refine below_set ?_ (IsS55.ge HI0.out)) | exact HB.out)⟩⟩
   rw [if_neg c7] at H
   have c7b0 : ((Go.bits .and .u64 x2_1 1) == 1) = false := beq_eq_false_iff_ne.mpr c7
   have c7b1 : ((Go.bits .and .u64 x2_1 1) != 1) = true := bne_iff_ne.mpr c7
   replace H := Option.bind_eq_some_iff.mp H
   obtain ⟨⟨t133, t134, t135, t136⟩, A120, H⟩ := H
   replace H : (word_Field_Pow.l0 k1 t133 (x2_1 / 2) x7_1 t134 t135 t136) = some (r1, r2, r3, r4) := H
   have A12 := Aside0.mk A120
   clear A120
   have H' := Aside0.mk H
   clear H
   go_wp2_with (first | ((with_reducible refine gate_callee (f := 36) rfl ?_); refine goesL_ (some 24) rfl rfl Tryd.func36 (by kernel_rfl) rfl #[.pointer (some ⟨g, 0, none⟩), .int .u64 x1_1, .int .u64 x1_1] rfl (by (try simp only [List.map_toArray, List.map_cons, List.map_nil]); first | done | rfl | (simp only [List.length_drop, List.length_take]; rfl)) ?_; (with_reducible refine (word_Field_Mul.calls k1 g x1000_1 x1001_1 x1002_1 x1_1 x1_1 t133 t134 t135 t136 w0 _ ?side1 ?side2 A12.out).mono ?_); (case side1 => repeat (first | (with_reducible first | exact HI0.out | apply IsS55.alloc | apply IsS55.drewN | apply IsS55.drew | apply IsS55.set_0 | apply IsS55.set_1 | apply IsS55.set_2) | exact HI0.out)); (case side2 => repeat (first | (with_reducible first | exact HB.out | apply below_alloc | apply pw_below_drewN | apply below_drew1 | refine below_set ?_ (IsS55.ge HI0.out)) | exact HB.out)); rintro e w13 ⟨rfl, hi, hb, hk⟩; refine ⟨_, rfl, ?_⟩; have n0_ := Aside0.mk (KeepBut.trans (by repeat (first | (with_reducible first | exact HK.out | apply KeepBut.set_ | apply keep_drewN | apply keep_drew | apply keep_alloc) | exact HK.out)) hk (.inl rfl)); have n1_ := Aside0.mk (hb); have n2_ := Aside0.mk (hi); clear HK; clear HB; clear HI0; have HK := n0_; have HB := n1_; have HI0 := n2_; clear n0_ n1_ n2_; (try clear hb); (try clear hb2); (try clear hk); (try clear hi)))
   go_roundg k1
   case measure => have := HK1.out; omega
   case rel => exact ⟨(t133), (x2_1 / 2), (x7_1), (t134), (t135), (t136), (by first | rfl | (simp; done) | (simp [*]; done)), (by first | rfl | (simp; done) | (simp [*]; done)), (by first | rfl | (simp; done) | (simp [*]; done)), H', ⟨by have := HK1.out; omega⟩, ⟨by repeat (first | (with_reducible first | exact HI0.out | apply IsS55.alloc | apply IsS55.drewN | apply IsS55.drew | apply IsS55.set_0 | apply IsS55.set_1 | apply IsS55.set_2) | exact HI0.out)⟩, ⟨by repeat (first | (with_reducible first | exact HK.out | apply KeepBut.set_ | apply keep_drewN | apply keep_drew | apply keep_alloc) | exact HK.out)⟩, ⟨by repeat (first | (with_reducible first | exact HB.out | apply below_alloc | apply pw_below_drewN | apply below_drew1 | refine below_set ?_ (IsS55.ge HI0.out)) | exact HB.out)⟩⟩

/-! ### prime_order: function 30 -/
def prime_order.l0 : Nat → Int → Int → Int → Int → Int → Option (Int × Bool × Int × Int × Int)
 | 0, _, _, _, _, _ => none
 | k + 1, x1, x7, x1000, x1001, x1002 => if x7 < 63 then (if x1 = 1 then (some (x7, true, x1000, x1001, x1002)) else ((word_Field_Mul.f k x1000 x1001 x1002 x1 x1).bind fun bt137 => (prime_order.l0 k bt137.1 (wrap64 (x7 + 1)) bt137.2.1 bt137.2.2.1 bt137.2.2.2))) else (some (0, false, x1000, x1001, x1002))
def prime_order.f (k : Nat) (s0_0 : Int) (s0_1 : Int) (s0_2 : Int) (a1 : Int) : Option (Int × Bool × Int × Int × Int) := prime_order.l0 k a1 0 s0_0 s0_1 s0_2
theorem prime_order.mono_l : ∀ k, (∀ y0 y1 y2 y3 y4, LeO (prime_order.l0 k y0 y1 y2 y3 y4) (prime_order.l0 (k + 1) y0 y1 y2 y3 y4))
 | 0 => fun _ _ _ _ _ r h => by simp [prime_order.l0] at h
 | k + 1 => by
  have ih0 := prime_order.mono_l k
  ·intro y0 y1 y2 y3 y4
   unfold prime_order.l0
   repeat' first
   | (with_reducible exact ih0 _ _ _ _ _)
   | (with_reducible exact word_Field_Mul.mono _ _ _ _ _ _)
   | (with_reducible exact LeO.refl _)
   | (with_reducible exact LeO.none _)
   | (with_reducible refine LeO.ite ?_ ?_)
   | (with_reducible refine LeO.bind ?_ (fun _ => ?_))
   | exact ih0 _ _ _ _ _
   | exact word_Field_Mul.mono _ _ _ _ _ _
   | exact LeO.none _
   | refine LeO.ite ?_ ?_
   | refine LeO.bind ?_ (fun _ => ?_)
theorem prime_order.mono : ∀ a0 a1 a2 a3 k, LeO (prime_order.f k a0 a1 a2 a3) (prime_order.f (k + 1) a0 a1 a2 a3) := by
 intro a0 a1 a2 a3 k
 have ih0 := prime_order.mono_l k
 unfold prime_order.f
 repeat' first
   | (with_reducible exact ih0 _ _ _ _ _)
   | (with_reducible exact word_Field_Mul.mono _ _ _ _ _ _)
   | (with_reducible exact LeO.refl _)
   | (with_reducible exact LeO.none _)
   | (with_reducible refine LeO.ite ?_ ?_)
   | (with_reducible refine LeO.bind ?_ (fun _ => ?_))
   | exact ih0 _ _ _ _ _
   | exact word_Field_Mul.mono _ _ _ _ _ _
   | exact LeO.none _
   | refine LeO.ite ?_ ?_
   | refine LeO.bind ?_ (fun _ => ?_)
theorem prime_order.calls (k : Nat) (g : Nat) (s0_0 : Int) (s0_1 : Int) (s0_2 : Int) (a1 : Int) (r1 : Int) (r2 : Bool) (r3 : Int) (r4 : Int) (r5 : Int) (w0 w : World) (hI : IsS55 w0 w g s0_0 s0_1 s0_2) (hB : Below w0.heap.size w0 w) (h : prime_order.f k s0_0 s0_1 s0_2 a1 = some (r1, r2, r3, r4, r5)) :
  Calls Tryd.prog 30 #[.pointer (some ⟨g, 0, none⟩), .int .u64 a1] w fun e w' => e = .returned (.tuple #[.int .i64 r1, .bool r2]) ∧ IsS55 w0 w' g r3 r4 r5 ∧ Below w0.heap.size w0 w' ∧ KeepBut w w' g none := by
 have HI0 := Aside0.mk hI
 have HK := Aside0.mk (KeepBut.refl w g none)
 have HL := Aside0.mk hB.size
 clear hI
 have HW0 := Aside0.mk hB.size
 have HB := Aside0.mk hB
 clear hB
 have H : (prime_order.l0 k a1 0 s0_0 s0_1 s0_2) = some (r1, r2, r3, r4, r5) := h
 clear h
 have H' := Aside0.mk H
 clear H
 go_enter Tryd.func30, Tryd.ntmps30
 go_wp2
 go_loopg [1, 7] k (fun kq v1 v7 w' => ∃ (x1_1 : Int) (x7_1 : Int) (x1000_1 : Int) (x1001_1 : Int) (x1002_1 : Int), v1 = .int .u64 x1_1 ∧ v7 = .int .i64 x7_1 ∧ Aside0 (prime_order.l0 kq x1_1 x7_1 x1000_1 x1001_1 x1002_1 = some (r1, r2, r3, r4, r5)) ∧ Aside0 (kq ≤ k) ∧ Aside0 (IsS55 w0 w' g x1000_1 x1001_1 x1002_1) ∧ Aside0 (KeepBut w w' g none) ∧ Aside0 (Below w0.heap.size w0 w'))
 case atStart => exact ⟨(a1), (0), (s0_0), (s0_1), (s0_2), (by first | rfl | (simp; done) | (simp [*]; done)), (by first | rfl | (simp; done) | (simp [*]; done)), H', ⟨Nat.le_refl _⟩, ⟨by repeat (first | (with_reducible first | exact HI0.out | apply IsS55.alloc | apply IsS55.drewN | apply IsS55.drew | apply IsS55.set_0 | apply IsS55.set_1 | apply IsS55.set_2) | exact HI0.out)⟩, ⟨by repeat (first | (with_reducible first | exact HK.out | apply KeepBut.set_ | apply keep_drewN | apply keep_drew | apply keep_alloc) | exact HK.out)⟩, ⟨by repeat (first | (with_reducible first | exact HB.out | apply below_alloc | apply pw_below_drewN | apply below_drew1 | refine below_set ?_ (IsS55.ge HI0.out)) | exact HB.out)⟩⟩
 case round =>
  clear H'
  try clear p2
  obtain ⟨x1_1, x7_1, x1000_1, x1001_1, x1002_1, rfl, rfl, HA, HK1, HI0, HK, HB⟩ := hrel
  cases gk with
  | zero => exact absurd HA.out (by simp [prime_order.l0])
  | succ k1 =>
   have H := HA.out
   clear HA
   simp only [prime_order.l0] at H
   by_cases c3 : x7_1 < 63
   ·rw [if_pos c3] at H
    have c3b0 : decide (x7_1 < 63) = true := decide_eq_true c3
    clear c3
    by_cases c4 : x1_1 = 1
    ·rw [if_pos c4] at H
     have c4b0 : (x1_1 == 1) = true := beq_iff_eq.mpr c4
     have c4b1 : (x1_1 != 1) = false := bne_eq_false_iff_eq.mpr c4
     clear c4
     simp only [Option.some.injEq, Prod.mk.injEq] at H
     obtain ⟨rfl, rfl, rfl, rfl, rfl⟩ := H
     go_wp2
     go_ret2
     exact ⟨by first | rfl | (simp [errW_none, errW_some] <;> rfl) | (simp [*, errW_none, errW_some] <;> rfl), by repeat (first | (with_reducible first | exact HI0.out | apply IsS55.alloc | apply IsS55.drewN | apply IsS55.drew | apply IsS55.set_0 | apply IsS55.set_1 | apply IsS55.set_2) | exact HI0.out), by repeat (first | (with_reducible first | exact HB.out | apply below_alloc | apply pw_below_drewN | apply below_drew1 | refine below_set ?_ (IsS55.ge HI0.out)) | exact HB.out), by repeat (first | (with_reducible first | exact HK.out | apply KeepBut.set_ | apply keep_drewN | apply keep_drew | apply keep_alloc) | exact HK.out)⟩
    rw [if_neg c4] at H
    have c4b0 : (x1_1 == 1) = false := beq_eq_false_iff_ne.mpr c4
    have c4b1 : (x1_1 != 1) = true := bne_iff_ne.mpr c4
    replace H := Option.bind_eq_some_iff.mp H
    obtain ⟨⟨t137, t138, t139, t140⟩, A50, H⟩ := H
    replace H : (prime_order.l0 k1 t137 (wrap64 (x7_1 + 1)) t138 t139 t140) = some (r1, r2, r3, r4, r5) := H
    have A5 := Aside0.mk A50
    clear A50
    have H' := Aside0.mk H
    clear H
    go_wp2_with (first | ((with_reducible refine gate_callee (f := 36) rfl ?_); refine goesL_ (some 16) rfl rfl Tryd.func36 (by kernel_rfl) rfl #[.pointer (some ⟨g, 0, none⟩), .int .u64 x1_1, .int .u64 x1_1] rfl (by (try simp only [List.map_toArray, List.map_cons, List.map_nil]); first | done | rfl | (simp only [List.length_drop, List.length_take]; rfl)) ?_; (with_reducible refine (word_Field_Mul.calls k1 g x1000_1 x1001_1 x1002_1 x1_1 x1_1 t137 t138 t139 t140 w0 _ ?side1 ?side2 A5.out).mono ?_); (case side1 => repeat (first | (with_reducible first | exact HI0.out | apply IsS55.alloc | apply IsS55.drewN | apply IsS55.drew | apply IsS55.set_0 | apply IsS55.set_1 | apply IsS55.set_2) | exact HI0.out)); (case side2 => repeat (first | (with_reducible first | exact HB.out | apply below_alloc | apply pw_below_drewN | apply below_drew1 | refine below_set ?_ (IsS55.ge HI0.out)) | exact HB.out)); rintro e w6 ⟨rfl, hi, hb, hk⟩; refine ⟨_, rfl, ?_⟩; have n0_ := Aside0.mk (KeepBut.trans (by repeat (first | (with_reducible first | exact HK.out | apply KeepBut.set_ | apply keep_drewN | apply keep_drew | apply keep_alloc) | exact HK.out)) hk (.inl rfl)); have n1_ := Aside0.mk (hb); have n2_ := Aside0.mk (hi); clear HK; clear HB; clear HI0; have HK := n0_; have HB := n1_; have HI0 := n2_; clear n0_ n1_ n2_; (try clear hb); (try clear hb2); (try clear hk); (try clear hi)))
    go_roundg k1
    case measure => have := HK1.out; omega
    case rel => exact ⟨(t137), (wrap64 (x7_1 + 1)), (t138), (t139), (t140), (by first | rfl | (simp; done) | (simp [*]; done)), (by first | rfl | (simp; done) | (simp [*]; done)), H', ⟨by have := HK1.out; omega⟩, ⟨by repeat (first | (with_reducible first | exact HI0.out | apply IsS55.alloc | apply IsS55.drewN | apply IsS55.drew | apply IsS55.set_0 | apply IsS55.set_1 | apply IsS55.set_2) | exact HI0.out)⟩, ⟨by repeat (first | (with_reducible first | exact HK.out | apply KeepBut.set_ | apply keep_drewN | apply keep_drew | apply keep_alloc) | exact HK.out)⟩, ⟨by repeat (first | (with_reducible first | exact HB.out | apply below_alloc | apply pw_below_drewN | apply below_drew1 | refine below_set ?_ (IsS55.ge HI0.out)) | exact HB.out)⟩⟩
   rw [if_neg c3] at H
   have c3b0 : decide (x7_1 < 63) = false := decide_eq_false c3
   clear c3
   simp only [Option.some.injEq, Prod.mk.injEq] at H
   obtain ⟨rfl, rfl, rfl, rfl, rfl⟩ := H
   go_wp2
   go_ret2
   exact ⟨by first | rfl | (simp [errW_none, errW_some] <;> rfl) | (simp [*, errW_none, errW_some] <;> rfl), by repeat (first | (with_reducible first | exact HI0.out | apply IsS55.alloc | apply IsS55.drewN | apply IsS55.drew | apply IsS55.set_0 | apply IsS55.set_1 | apply IsS55.set_2) | exact HI0.out), by repeat (first | (with_reducible first | exact HB.out | apply below_alloc | apply pw_below_drewN | apply below_drew1 | refine below_set ?_ (IsS55.ge HI0.out)) | exact HB.out), by repeat (first | (with_reducible first | exact HK.out | apply KeepBut.set_ | apply keep_drewN | apply keep_drew | apply keep_alloc) | exact HK.out)⟩

/-! ### prime_Root: function 21 -/
/-- prime.Root: number after number is tried. -/
def prime_Root.l0 : Nat → Int → Int → Int → Int → Int → Int → Option (Int × Int)
 | 0, _, _, _, _, _, _ => none
 | K + 1, s0, s1, s2, p, k, x => (word_Field_Pow.f K s0 s1 s2 x (shr .u64 (IntKind.u64.wrap (p - 1)) (IntKind.u64.wrap k))).bind fun t => ((prime_order.f K t.2.1 t.2.2.1 t.2.2.2 t.1).bind fun u => if u.2.1 = true then (if u.1 = k then some (t.1, 0) else prime_Root.l0 K u.2.2.1 u.2.2.2.1 u.2.2.2.2 p k (IntKind.u64.wrap (x + 1))) else prime_Root.l0 K u.2.2.1 u.2.2.2.1 u.2.2.2.2 p k (IntKind.u64.wrap (x + 1)))
def prime_Root.f (K : Nat) (p k : Int) : Option (Int × Int) := (prime_field.f K p).bind fun o => match o with
 | none => some (0, 14)
 | some s => if k < 0 then some (0, 1) else if 62 < k then some (0, 1) else if Go.bits .and .u64 (IntKind.u64.wrap (p - 1)) (IntKind.u64.wrap (IntKind.u64.wrap (2 ^ min (IntKind.u64.wrap k).toNat 64) - 1)) = 0 then prime_Root.l0 K s.1 s.2.1 s.2.2 p k 1 else some (0, 1)
theorem prime_Root.mono_l0 : ∀ K, (∀ y0 y1 y2 y3 y4 y5, LeO (prime_Root.l0 K y0 y1 y2 y3 y4 y5) (prime_Root.l0 (K + 1) y0 y1 y2 y3 y4 y5))
 | 0 => fun _ _ _ _ _ _ r h => by simp [prime_Root.l0] at h
 | K + 1 => by
  have ih0 := prime_Root.mono_l0 K
  intro y0 y1 y2 y3 y4 y5
  rw [prime_Root.l0, prime_Root.l0]
  refine LeO.bind (word_Field_Pow.mono _ _ _ _ _ _) fun t => LeO.bind (prime_order.mono _ _ _ _ _) fun u => ?_
  exact LeO.ite (LeO.ite (LeO.refl _) (ih0 _ _ _ _ _ _)) (ih0 _ _ _ _ _ _)
theorem prime_Root.mono : ∀ a0 a1 K, LeO (prime_Root.f K a0 a1) (prime_Root.f (K + 1) a0 a1) := by
 intro a0 a1 K
 unfold prime_Root.f
 refine LeO.bind (prime_field.mono _ _) fun o => ?_
 cases o with
 | none => exact LeO.refl _
 | some s => exact LeO.ite (LeO.refl _) (LeO.ite (LeO.refl _) (LeO.ite (prime_Root.mono_l0 K _ _ _ _ _ _) (LeO.refl _)))
theorem prime_Root.wrap0 (x : Int) : 0 ≤ IntKind.u64.wrap x := by rw [IntKind.wrap_u64]; omega
theorem prime_Root.calls (K : Nat) (p k r1 r2 : Int) (w : World) (hT_ : TabAt 0 Lib.deBruijn64tab w) (h : prime_Root.f K p k = some (r1, r2)) :
  Calls Tryd.prog 21 #[.int .u64 p, .int .i64 k] w fun e w' => e = .returned (.tuple #[.int .u64 r1, .int .i64 r2]) ∧ Below w.heap.size w w' := by
 have HB := Aside0.mk (Below.refl w.heap.size w)
 have HT_ := Aside0.mk hT_
 clear hT_
 unfold prime_Root.f at h
 obtain ⟨o, A10, H⟩ := Option.bind_eq_some_iff.mp h
 clear h
 have A1 := Aside0.mk A10
 clear A10
 have hsh0 : decide (0 ≤ IntKind.u64.wrap k) = true := decide_eq_true (prime_Root.wrap0 k)
 cases o with
 | none =>
  simp only [Option.some.injEq, Prod.mk.injEq] at H
  obtain ⟨rfl, rfl⟩ := H
  go_enter Tryd.func21, Tryd.ntmps21
  go_wp2
  try go_step3
  go_wp2_with (first | ((with_reducible refine gate_callee (f := 28) rfl ?_); refine goesL_ (some 14) rfl rfl Tryd.func28 (by kernel_rfl) rfl #[.int .u64 p] rfl (by (try simp only [List.map_toArray, List.map_cons, List.map_nil]); first | done | rfl) ?_; (with_reducible refine (prime_field.bad K p _ (tab_below HT_.out HB.out) A1.out).mono ?_); rintro e w5 ⟨rfl, hb⟩; refine ⟨_, rfl, ?_⟩; have n1_ := Aside0.mk (below_step HB.out hb); clear HB; have HB := n1_; clear n1_ hb))
  try dsimp only [Exit.noGoto]
  refine bodyPost_ret (results_tmp2 rfl _ _ _) rfl ?_
  exact ⟨rfl, HB.out⟩
 | some s =>
  obtain ⟨s0, s1, s2⟩ := s
  replace H : (if k < 0 then some (0, 1) else if 62 < k then some (0, 1) else if Go.bits .and .u64 (IntKind.u64.wrap (p - 1)) (IntKind.u64.wrap (IntKind.u64.wrap (2 ^ min (IntKind.u64.wrap k).toNat 64) - 1)) = 0 then prime_Root.l0 K s0 s1 s2 p k 1 else some (0, 1)) = some (r1, r2) := H
  have rest : (k < 0 ∨ 62 < k ∨ ¬ Go.bits .and .u64 (IntKind.u64.wrap (p - 1)) (IntKind.u64.wrap (IntKind.u64.wrap (2 ^ min (IntKind.u64.wrap k).toNat 64) - 1)) = 0) ∧ r1 = 0 ∧ r2 = 1 ∨ (decide (k < 0) = false ∧ decide (62 < k) = false ∧ (Go.bits .and .u64 (IntKind.u64.wrap (p - 1)) (IntKind.u64.wrap (IntKind.u64.wrap (2 ^ min (IntKind.u64.wrap k).toNat 64) - 1)) != 0) = false ∧ prime_Root.l0 K s0 s1 s2 p k 1 = some (r1, r2)) := by
   by_cases c1 : k < 0
   ·rw [if_pos c1] at H
    simp only [Option.some.injEq, Prod.mk.injEq] at H
    exact .inl ⟨.inl c1, H.1.symm, H.2.symm⟩
   rw [if_neg c1] at H
   by_cases c2 : 62 < k
   ·rw [if_pos c2] at H
    simp only [Option.some.injEq, Prod.mk.injEq] at H
    exact .inl ⟨.inr (.inl c2), H.1.symm, H.2.symm⟩
   rw [if_neg c2] at H
   by_cases c3 : Go.bits .and .u64 (IntKind.u64.wrap (p - 1)) (IntKind.u64.wrap (IntKind.u64.wrap (2 ^ min (IntKind.u64.wrap k).toNat 64) - 1)) = 0
   ·rw [if_pos c3] at H
    exact .inr ⟨decide_eq_false c1, decide_eq_false c2, bne_eq_false_iff_eq.mpr c3, H⟩
   rw [if_neg c3] at H
   simp only [Option.some.injEq, Prod.mk.injEq] at H
   exact .inl ⟨.inr (.inr c3), H.1.symm, H.2.symm⟩
  clear H
  rcases rest with ⟨hc, rfl, rfl⟩ | ⟨hc1, hc2, hc3, H⟩
  ·by_cases c1 : k < 0
   ·have c1b0 : decide (k < 0) = true := decide_eq_true c1
    clear c1 hc
    go_enter Tryd.func21, Tryd.ntmps21
    go_wp2
    try go_step3
    go_wp2_with (first | ((with_reducible refine gate_callee (f := 28) rfl ?_); refine goesL_ (some 14) rfl rfl Tryd.func28 (by kernel_rfl) rfl #[.int .u64 p] rfl (by (try simp only [List.map_toArray, List.map_cons, List.map_nil]); first | done | rfl) ?_; (with_reducible refine (prime_field.calls K p s0 s1 s2 _ (tab_below HT_.out HB.out) A1.out).mono ?_); rintro e w5 ⟨g, rfl, hi, hb⟩; refine ⟨_, rfl, ?_⟩; have n1_ := Aside0.mk (below_step HB.out hb); have n2_ : Aside0 (IsS55 w w5 g s0 s1 s2) := ⟨⟨hi.1, Nat.le_trans (below_size HB.out) hi.2⟩⟩; clear HB; have HB := n1_; have HI := n2_; clear n1_ n2_ hb hi))
    try dsimp only [Exit.noGoto]
    refine bodyPost_ret (results_tmp2 rfl _ _ _) rfl ?_
    exact ⟨rfl, HB.out⟩
   have c1b0 : decide (k < 0) = false := decide_eq_false c1
   by_cases c2 : 62 < k
   ·have c2b0 : decide (62 < k) = true := decide_eq_true c2
    clear c1 c2 hc
    go_enter Tryd.func21, Tryd.ntmps21
    go_wp2
    try go_step3
    go_wp2_with (first | ((with_reducible refine gate_callee (f := 28) rfl ?_); refine goesL_ (some 14) rfl rfl Tryd.func28 (by kernel_rfl) rfl #[.int .u64 p] rfl (by (try simp only [List.map_toArray, List.map_cons, List.map_nil]); first | done | rfl) ?_; (with_reducible refine (prime_field.calls K p s0 s1 s2 _ (tab_below HT_.out HB.out) A1.out).mono ?_); rintro e w5 ⟨g, rfl, hi, hb⟩; refine ⟨_, rfl, ?_⟩; have n1_ := Aside0.mk (below_step HB.out hb); have n2_ : Aside0 (IsS55 w w5 g s0 s1 s2) := ⟨⟨hi.1, Nat.le_trans (below_size HB.out) hi.2⟩⟩; clear HB; have HB := n1_; have HI := n2_; clear n1_ n2_ hb hi))
    try dsimp only [Exit.noGoto]
    refine bodyPost_ret (results_tmp2 rfl _ _ _) rfl ?_
    exact ⟨rfl, HB.out⟩
   have c2b0 : decide (62 < k) = false := decide_eq_false c2
   have c3b0 : (Go.bits .and .u64 (IntKind.u64.wrap (p - 1)) (IntKind.u64.wrap (IntKind.u64.wrap (2 ^ min (IntKind.u64.wrap k).toNat 64) - 1)) != 0) = true := bne_iff_ne.mpr ((hc.resolve_left c1).resolve_left c2)
   clear c1 c2 hc
   go_enter Tryd.func21, Tryd.ntmps21
   go_wp2
   try go_step3
   go_wp2_with (first | ((with_reducible refine gate_callee (f := 28) rfl ?_); refine goesL_ (some 14) rfl rfl Tryd.func28 (by kernel_rfl) rfl #[.int .u64 p] rfl (by (try simp only [List.map_toArray, List.map_cons, List.map_nil]); first | done | rfl) ?_; (with_reducible refine (prime_field.calls K p s0 s1 s2 _ (tab_below HT_.out HB.out) A1.out).mono ?_); rintro e w5 ⟨g, rfl, hi, hb⟩; refine ⟨_, rfl, ?_⟩; have n1_ := Aside0.mk (below_step HB.out hb); have n2_ : Aside0 (IsS55 w w5 g s0 s1 s2) := ⟨⟨hi.1, Nat.le_trans (below_size HB.out) hi.2⟩⟩; clear HB; have HB := n1_; have HI := n2_; clear n1_ n2_ hb hi))
   try dsimp only [Exit.noGoto]
   refine bodyPost_ret (results_tmp2 rfl _ _ _) rfl ?_
   exact ⟨rfl, HB.out⟩
  have H' := Aside0.mk H
  clear H
  go_enter Tryd.func21, Tryd.ntmps21
  go_wp2
  try go_step3
  go_wp2_with (first | ((with_reducible refine gate_callee (f := 28) rfl ?_); refine goesL_ (some 14) rfl rfl Tryd.func28 (by kernel_rfl) rfl #[.int .u64 p] rfl (by (try simp only [List.map_toArray, List.map_cons, List.map_nil]); first | done | rfl) ?_; (with_reducible refine (prime_field.calls K p s0 s1 s2 _ (tab_below HT_.out HB.out) A1.out).mono ?_); rintro e w5 ⟨g, rfl, hi, hb⟩; refine ⟨_, rfl, ?_⟩; have n1_ := Aside0.mk (below_step HB.out hb); have n2_ : Aside0 (IsS55 w w5 g s0 s1 s2) := ⟨⟨hi.1, Nat.le_trans (below_size HB.out) hi.2⟩⟩; clear HB; have HB := n1_; have HI := n2_; clear n1_ n2_ hb hi))
  try go_step3
  try go_wp2
  go_loopg [8] K (fun kq v8 w' => ∃ (x t0 t1 t2 : Int), v8 = .int .u64 x ∧ Aside0 (prime_Root.l0 kq t0 t1 t2 p k x = some (r1, r2)) ∧ Aside0 (kq ≤ K) ∧ Aside0 (IsS55 w w' g t0 t1 t2) ∧ Aside0 (Below w.heap.size w w'))
  case atStart => exact ⟨1, s0, s1, s2, rfl, H', ⟨Nat.le_refl _⟩, HI, HB⟩
  case round =>
   clear H' HB HI
   obtain ⟨x, t0, t1, t2, rfl, HA, HK1, HI, HB⟩ := hrel
   cases gk with
   | zero => exact absurd HA.out (by simp [prime_Root.l0])
   | succ k1 =>
    have H := HA.out
    clear HA
    rw [prime_Root.l0] at H
    replace H := Option.bind_eq_some_iff.mp H
    obtain ⟨⟨y, u0, u1, u2⟩, A20, H⟩ := H
    have A2 := Aside0.mk A20
    clear A20
    replace H := Option.bind_eq_some_iff.mp H
    obtain ⟨⟨n, b, v0, v1, v2⟩, A30, H⟩ := H
    replace H : (if b = true then (if n = k then some (y, 0) else prime_Root.l0 k1 v0 v1 v2 p k (IntKind.u64.wrap (x + 1))) else prime_Root.l0 k1 v0 v1 v2 p k (IntKind.u64.wrap (x + 1))) = some (r1, r2) := H
    have A3 := Aside0.mk A30
    clear A30
    have fin : b = true ∧ (n != k) = false ∧ y = r1 ∧ 0 = r2 ∨ (b = false ∨ b = true ∧ (n != k) = true) ∧ prime_Root.l0 k1 v0 v1 v2 p k (IntKind.u64.wrap (x + 1)) = some (r1, r2) := by
     cases b with
     | false => exact .inr ⟨.inl rfl, H⟩
     | true =>
      rw [if_pos rfl] at H
      by_cases c : n = k
      ·rw [if_pos c] at H
       simp only [Option.some.injEq, Prod.mk.injEq] at H
       exact .inl ⟨rfl, bne_eq_false_iff_eq.mpr c, H.1, H.2⟩
      rw [if_neg c] at H
      exact .inr ⟨.inr ⟨rfl, bne_iff_ne.mpr c⟩, H⟩
    clear H
    rcases fin with ⟨rfl, c3, rfl, rfl⟩ | ⟨rfl | ⟨rfl, c3⟩, H⟩
    ·go_wp2_with (first | ((with_reducible refine gate_callee (f := 29) rfl ?_); refine goesL_ (some 47) rfl rfl Tryd.func29 (by kernel_rfl) rfl #[.pointer (some ⟨g, 0, none⟩), .int .u64 x, .int .u64 (shr .u64 (IntKind.u64.wrap (p - 1)) (IntKind.u64.wrap k))] rfl (by (try simp only [List.map_toArray, List.map_cons, List.map_nil]); first | done | rfl) ?_; (with_reducible refine (word_Field_Pow.calls k1 g t0 t1 t2 x (shr .u64 (IntKind.u64.wrap (p - 1)) (IntKind.u64.wrap k)) y u0 u1 u2 w _ ?side1 ?side2 A2.out).mono ?_); (case side1 => exact HI.out); (case side2 => exact HB.out); rintro e w6 ⟨rfl, hi, hb, hk⟩; refine ⟨_, rfl, ?_⟩; have n0_ := Aside0.mk hi; have n1_ := Aside0.mk hb; clear HB; clear HI; have HI := n0_; have HB := n1_; clear n0_ n1_ hi hb hk) | ((with_reducible refine gate_callee (f := 30) rfl ?_); refine goesL_ (some 51) rfl rfl Tryd.func30 (by kernel_rfl) rfl #[.pointer (some ⟨g, 0, none⟩), .int .u64 y] rfl (by (try simp only [List.map_toArray, List.map_cons, List.map_nil]); first | done | rfl) ?_; (with_reducible refine (prime_order.calls k1 g u0 u1 u2 y n _ v0 v1 v2 w _ ?side1 ?side2 A3.out).mono ?_); (case side1 => exact HI.out); (case side2 => exact HB.out); rintro e w7 ⟨rfl, hi, hb, hk⟩; refine ⟨_, rfl, ?_⟩; have n0_ := Aside0.mk hi; have n1_ := Aside0.mk hb; clear HB; clear HI; have HI := n0_; have HB := n1_; clear n0_ n1_ hi hb hk))
     try dsimp only [Exit.noGoto]
     refine bodyPost_ret (results_tmp2 rfl _ _ _) rfl ?_
     exact ⟨rfl, HB.out⟩
    ·have H' := Aside0.mk H
     clear H
     go_wp2_with (first | ((with_reducible refine gate_callee (f := 29) rfl ?_); refine goesL_ (some 47) rfl rfl Tryd.func29 (by kernel_rfl) rfl #[.pointer (some ⟨g, 0, none⟩), .int .u64 x, .int .u64 (shr .u64 (IntKind.u64.wrap (p - 1)) (IntKind.u64.wrap k))] rfl (by (try simp only [List.map_toArray, List.map_cons, List.map_nil]); first | done | rfl) ?_; (with_reducible refine (word_Field_Pow.calls k1 g t0 t1 t2 x (shr .u64 (IntKind.u64.wrap (p - 1)) (IntKind.u64.wrap k)) y u0 u1 u2 w _ ?side1 ?side2 A2.out).mono ?_); (case side1 => exact HI.out); (case side2 => exact HB.out); rintro e w6 ⟨rfl, hi, hb, hk⟩; refine ⟨_, rfl, ?_⟩; have n0_ := Aside0.mk hi; have n1_ := Aside0.mk hb; clear HB; clear HI; have HI := n0_; have HB := n1_; clear n0_ n1_ hi hb hk) | ((with_reducible refine gate_callee (f := 30) rfl ?_); refine goesL_ (some 51) rfl rfl Tryd.func30 (by kernel_rfl) rfl #[.pointer (some ⟨g, 0, none⟩), .int .u64 y] rfl (by (try simp only [List.map_toArray, List.map_cons, List.map_nil]); first | done | rfl) ?_; (with_reducible refine (prime_order.calls k1 g u0 u1 u2 y n _ v0 v1 v2 w _ ?side1 ?side2 A3.out).mono ?_); (case side1 => exact HI.out); (case side2 => exact HB.out); rintro e w7 ⟨rfl, hi, hb, hk⟩; refine ⟨_, rfl, ?_⟩; have n0_ := Aside0.mk hi; have n1_ := Aside0.mk hb; clear HB; clear HI; have HI := n0_; have HB := n1_; clear n0_ n1_ hi hb hk))
     go_roundg k1
     case measure => have := HK1.out; omega
     case rel => exact ⟨_, v0, v1, v2, rfl, H', ⟨by have := HK1.out; omega⟩, HI, HB⟩
    have H' := Aside0.mk H
    clear H
    go_wp2_with (first | ((with_reducible refine gate_callee (f := 29) rfl ?_); refine goesL_ (some 47) rfl rfl Tryd.func29 (by kernel_rfl) rfl #[.pointer (some ⟨g, 0, none⟩), .int .u64 x, .int .u64 (shr .u64 (IntKind.u64.wrap (p - 1)) (IntKind.u64.wrap k))] rfl (by (try simp only [List.map_toArray, List.map_cons, List.map_nil]); first | done | rfl) ?_; (with_reducible refine (word_Field_Pow.calls k1 g t0 t1 t2 x (shr .u64 (IntKind.u64.wrap (p - 1)) (IntKind.u64.wrap k)) y u0 u1 u2 w _ ?side1 ?side2 A2.out).mono ?_); (case side1 => exact HI.out); (case side2 => exact HB.out); rintro e w6 ⟨rfl, hi, hb, hk⟩; refine ⟨_, rfl, ?_⟩; have n0_ := Aside0.mk hi; have n1_ := Aside0.mk hb; clear HB; clear HI; have HI := n0_; have HB := n1_; clear n0_ n1_ hi hb hk) | ((with_reducible refine gate_callee (f := 30) rfl ?_); refine goesL_ (some 51) rfl rfl Tryd.func30 (by kernel_rfl) rfl #[.pointer (some ⟨g, 0, none⟩), .int .u64 y] rfl (by (try simp only [List.map_toArray, List.map_cons, List.map_nil]); first | done | rfl) ?_; (with_reducible refine (prime_order.calls k1 g u0 u1 u2 y n _ v0 v1 v2 w _ ?side1 ?side2 A3.out).mono ?_); (case side1 => exact HI.out); (case side2 => exact HB.out); rintro e w7 ⟨rfl, hi, hb, hk⟩; refine ⟨_, rfl, ?_⟩; have n0_ := Aside0.mk hi; have n1_ := Aside0.mk hb; clear HB; clear HI; have HI := n0_; have HB := n1_; clear n0_ n1_ hi hb hk))
    go_roundg k1
    case measure => have := HK1.out; omega
    case rel => exact ⟨_, v0, v1, v2, rfl, H', ⟨by have := HK1.out; omega⟩, HI, HB⟩

/-! ### vinculumlaw04_awake: function 12 -/
def vinculumlaw04_awake.f (k : Nat)  : Option (Bool) := (prime_Next.f k 90).bind fun bt141 => ((prime_Scan.f k 20 1 1000000000).bind fun bt143 => ((prime_Root.f k 17 2).bind fun bt147 => ((prime_Is.f k 91).bind fun t149 => (if t149 = true then (none) else (if bt141.1 = 97 then (if bt141.2 = 0 then (if bt143.2 = 0 then (if (bt143.1.length : Int) = 1 then (if 0 < (bt143.1.length : Int) then (if (rd bt143.1 0) = 998244353 then (if bt147.1 = 13 then (some (bt147.2 == 0)) else (none)) else (none)) else (none)) else (none)) else (none)) else (none)) else (none))))))
theorem vinculumlaw04_awake.mono : ∀ k, LeO (vinculumlaw04_awake.f k ) (vinculumlaw04_awake.f (k + 1) ) := by
 intro  k
 unfold vinculumlaw04_awake.f
 repeat' first
   | (with_reducible exact prime_Is.mono _ _)
   | (with_reducible exact prime_Next.mono _ _)
   | (with_reducible exact prime_Root.mono _ _ _)
   | (with_reducible exact prime_Scan.mono _ _ _ _)
   | (with_reducible exact LeO.refl _)
   | (with_reducible exact LeO.none _)
   | (with_reducible refine LeO.ite ?_ ?_)
   | (with_reducible refine LeO.bind ?_ (fun _ => ?_))
   | exact prime_Is.mono _ _
   | exact prime_Next.mono _ _
   | exact prime_Root.mono _ _ _
   | exact prime_Scan.mono _ _ _ _
   | exact LeO.none _
   | refine LeO.ite ?_ ?_
   | refine LeO.bind ?_ (fun _ => ?_)
theorem vinculumlaw04_awake.calls (k : Nat)  (r : Bool) (w : World) (hT_ : TabAt 0 Lib.deBruijn64tab w) (h : vinculumlaw04_awake.f k  = some r) :
  Calls Tryd.prog 12 #[] w fun e w' => e = .returned (.bool r) ∧ Below w.heap.size w w' := by
 have HT_ := Aside0.mk hT_
 clear hT_
 have HB := Aside0.mk (Below.refl w.heap.size w)
 have H : ((prime_Next.f k 90).bind fun bt141 => ((prime_Scan.f k 20 1 1000000000).bind fun bt143 => ((prime_Root.f k 17 2).bind fun bt147 => ((prime_Is.f k 91).bind fun t149 => (if t149 = true then (none) else (if bt141.1 = 97 then (if bt141.2 = 0 then (if bt143.2 = 0 then (if (bt143.1.length : Int) = 1 then (if 0 < (bt143.1.length : Int) then (if (rd bt143.1 0) = 998244353 then (if bt147.1 = 13 then (some (bt147.2 == 0)) else (none)) else (none)) else (none)) else (none)) else (none)) else (none)) else (none))))))) = some r := h
 clear h
 replace H := Option.bind_eq_some_iff.mp H
 obtain ⟨⟨t141, t142⟩, A10, H⟩ := H
 replace H : ((prime_Scan.f k 20 1 1000000000).bind fun bt143 => ((prime_Root.f k 17 2).bind fun bt147 => ((prime_Is.f k 91).bind fun t149 => (if t149 = true then (none) else (if t141 = 97 then (if t142 = 0 then (if bt143.2 = 0 then (if (bt143.1.length : Int) = 1 then (if 0 < (bt143.1.length : Int) then (if (rd bt143.1 0) = 998244353 then (if bt147.1 = 13 then (some (bt147.2 == 0)) else (none)) else (none)) else (none)) else (none)) else (none)) else (none)) else (none)))))) = some r := H
 have A1 := Aside0.mk A10
 clear A10
 replace H := Option.bind_eq_some_iff.mp H
 obtain ⟨⟨t143, t144⟩, A20, H⟩ := H
 replace H : ((prime_Root.f k 17 2).bind fun bt147 => ((prime_Is.f k 91).bind fun t149 => (if t149 = true then (none) else (if t141 = 97 then (if t142 = 0 then (if t144 = 0 then (if (t143.length : Int) = 1 then (if 0 < (t143.length : Int) then (if (rd t143 0) = 998244353 then (if bt147.1 = 13 then (some (bt147.2 == 0)) else (none)) else (none)) else (none)) else (none)) else (none)) else (none)) else (none))))) = some r := H
 have A2 := Aside0.mk A20
 clear A20
 replace H := Option.bind_eq_some_iff.mp H
 obtain ⟨⟨t147, t148⟩, A30, H⟩ := H
 replace H : ((prime_Is.f k 91).bind fun t149 => (if t149 = true then (none) else (if t141 = 97 then (if t142 = 0 then (if t144 = 0 then (if (t143.length : Int) = 1 then (if 0 < (t143.length : Int) then (if (rd t143 0) = 998244353 then (if t147 = 13 then (some (t148 == 0)) else (none)) else (none)) else (none)) else (none)) else (none)) else (none)) else (none)))) = some r := H
 have A3 := Aside0.mk A30
 clear A30
 replace H := Option.bind_eq_some_iff.mp H
 obtain ⟨t149, A40, H⟩ := H
 replace H : (if t149 = true then (none) else (if t141 = 97 then (if t142 = 0 then (if t144 = 0 then (if (t143.length : Int) = 1 then (if 0 < (t143.length : Int) then (if (rd t143 0) = 998244353 then (if t147 = 13 then (some (t148 == 0)) else (none)) else (none)) else (none)) else (none)) else (none)) else (none)) else (none))) = some r := H
 have A4 := Aside0.mk A40
 clear A40
 by_cases c5 : t149 = true
 ·subst c5
  have H1 : (none) = some r := by rw [if_pos rfl] at H; exact H
  clear H
  have H := H1
  clear H1
  exact absurd H (by simp)
 replace c5 := Bool.eq_false_iff.mpr c5
 subst c5
 have H1 : (if t141 = 97 then (if t142 = 0 then (if t144 = 0 then (if (t143.length : Int) = 1 then (if 0 < (t143.length : Int) then (if (rd t143 0) = 998244353 then (if t147 = 13 then (some (t148 == 0)) else (none)) else (none)) else (none)) else (none)) else (none)) else (none)) else (none)) = some r := by rw [if_neg (show ¬ (false = true) by decide)] at H; exact H
 clear H
 have H := H1
 clear H1
 by_cases c6 : t141 = 97
 ·rw [if_pos c6] at H
  have c6b0 : (t141 == 97) = true := beq_iff_eq.mpr c6
  have c6b1 : (t141 != 97) = false := bne_eq_false_iff_eq.mpr c6
  clear c6
  by_cases c7 : t142 = 0
  ·rw [if_pos c7] at H
   have c7b0 : (t142 == 0) = true := beq_iff_eq.mpr c7
   have c7b1 : (t142 != 0) = false := bne_eq_false_iff_eq.mpr c7
   clear c7
   by_cases c8 : t144 = 0
   ·rw [if_pos c8] at H
    have c8b0 : (t144 == 0) = true := beq_iff_eq.mpr c8
    have c8b1 : (t144 != 0) = false := bne_eq_false_iff_eq.mpr c8
    clear c8
    by_cases c9 : (t143.length : Int) = 1
    ·rw [if_pos c9] at H
     have c9b0 : ((t143.length : Int) == 1) = true := beq_iff_eq.mpr c9
     have c9b1 : ((t143.length : Int) != 1) = false := bne_eq_false_iff_eq.mpr c9
     clear c9
     by_cases c10 : 0 < (t143.length : Int)
     ·rw [if_pos c10] at H
      have c10b0 : decide (0 < (t143.length : Int)) = true := decide_eq_true c10
      have c10b1 : decide (0 < t143.length) = true := decide_eq_true (by omega)
      clear c10
      by_cases c11 : (rd t143 0) = 998244353
      ·rw [if_pos c11] at H
       have c11b0 : ((rd t143 0) == 998244353) = true := beq_iff_eq.mpr c11
       have c11b1 : ((rd t143 0) != 998244353) = false := bne_eq_false_iff_eq.mpr c11
       clear c11
       by_cases c12 : t147 = 13
       ·rw [if_pos c12] at H
        have c12b0 : (t147 == 13) = true := beq_iff_eq.mpr c12
        have c12b1 : (t147 != 13) = false := bne_eq_false_iff_eq.mpr c12
        clear c12
        obtain rfl := Option.some.inj H
        go_enter Tryd.func12, Tryd.ntmps12
        go_wp2_with (first | ((with_reducible refine gate_callee (f := 13) rfl ?_); refine goesL_ (some 8) rfl rfl Tryd.func13 (by kernel_rfl) rfl #[.int .u64 90] rfl (by (try simp only [List.map_toArray, List.map_cons, List.map_nil]); first | done | rfl | (simp only [List.length_drop, List.length_take]; rfl)) ?_; (with_reducible refine (prime_Next.calls k 90 t141 t142 _ (by first | exact HT_.out | (refine tab_below HT_.out ?_; repeat (first | (with_reducible first | exact HB.out | apply below_alloc | apply pw_below_drewN | apply below_drew1) | exact HB.out)) | (repeat (first | exact HT_.out | apply tab_drewN | apply tab_drew))) A1.out).mono ?_); rintro e w13 ⟨rfl, hb⟩; refine ⟨_, rfl, ?_⟩; have n0_ := Aside0.mk (below_step (by repeat (first | (with_reducible first | exact HB.out | apply below_alloc | apply pw_below_drewN | apply below_drew1) | exact HB.out)) hb); clear HB; have HB := n0_; clear n0_; (try clear hb); (try clear hb2); (try clear hk); (try clear hi)) | ((with_reducible refine gate_callee (f := 18) rfl ?_); refine goesL_ (some 12) rfl rfl Tryd.func18 (by kernel_rfl) rfl #[.int .i64 20, .int .i64 1, .int .u64 1000000000] rfl (by (try simp only [List.map_toArray, List.map_cons, List.map_nil]); first | done | rfl | (simp only [List.length_drop, List.length_take]; rfl)) ?_; (with_reducible refine (prime_Scan.calls k 20 1 1000000000 t143 t144 _ (by first | exact HT_.out | (refine tab_below HT_.out ?_; repeat (first | (with_reducible first | exact HB.out | apply below_alloc | apply pw_below_drewN | apply below_drew1) | exact HB.out)) | (repeat (first | exact HT_.out | apply tab_drewN | apply tab_drew))) A2.out).mono ?_); rintro e w14 ⟨v145, rfl, ho0, hb⟩; refine ⟨_, rfl, ?_⟩; have n0_ := Aside0.mk (Kd.R_lower ho0 (below_size (by repeat (first | (with_reducible first | exact HB.out | apply below_alloc | apply pw_below_drewN | apply below_drew1) | exact HB.out)))); have n1_ := Aside0.mk (below_step (by repeat (first | (with_reducible first | exact HB.out | apply below_alloc | apply pw_below_drewN | apply below_drew1) | exact HB.out)) hb); clear HB; have HO146 := n0_; have HB := n1_; clear n0_ n1_; (try clear hb); (try clear hb2); (try clear hk); (try clear hi); (try clear ho0)) | ((with_reducible refine gate_callee (f := 21) rfl ?_); refine goesL_ (some 16) rfl rfl Tryd.func21 (by kernel_rfl) rfl #[.int .u64 17, .int .i64 2] rfl (by (try simp only [List.map_toArray, List.map_cons, List.map_nil]); first | done | rfl | (simp only [List.length_drop, List.length_take]; rfl)) ?_; (with_reducible refine (prime_Root.calls k 17 2 t147 t148 _ (by first | exact HT_.out | (refine tab_below HT_.out ?_; repeat (first | (with_reducible first | exact HB.out | apply below_alloc | apply pw_below_drewN | apply below_drew1) | exact HB.out)) | (repeat (first | exact HT_.out | apply tab_drewN | apply tab_drew))) A3.out).mono ?_); rintro e w15 ⟨rfl, hb⟩; refine ⟨_, rfl, ?_⟩; have n0_ := Aside0.mk (Kd.R_below (by (with_reducible repeat (first | apply Kd.R_alloc | apply Kd.R_drewN | apply Kd.R_drew)); exact HO146.out) hb); have n1_ := Aside0.mk (below_step (by repeat (first | (with_reducible first | exact HB.out | apply below_alloc | apply pw_below_drewN | apply below_drew1) | exact HB.out)) hb); clear HO146; clear HB; have HO146 := n0_; have HB := n1_; clear n0_ n1_; (try clear hb); (try clear hb2); (try clear hk); (try clear hi)) | ((with_reducible refine gate_callee (f := 14) rfl ?_); refine goesL_ (some 19) rfl rfl Tryd.func14 (by kernel_rfl) rfl #[.int .u64 91] rfl (by (try simp only [List.map_toArray, List.map_cons, List.map_nil]); first | done | rfl | (simp only [List.length_drop, List.length_take]; rfl)) ?_; (with_reducible refine (prime_Is.calls k 91 false _ (by first | exact HT_.out | (refine tab_below HT_.out ?_; repeat (first | (with_reducible first | exact HB.out | apply below_alloc | apply pw_below_drewN | apply below_drew1) | exact HB.out)) | (repeat (first | exact HT_.out | apply tab_drewN | apply tab_drew))) A4.out).mono ?_); rintro e w16 ⟨rfl, hb⟩; refine ⟨_, rfl, ?_⟩; have n0_ := Aside0.mk (Kd.R_below (by (with_reducible repeat (first | apply Kd.R_alloc | apply Kd.R_drewN | apply Kd.R_drew)); exact HO146.out) hb); have n1_ := Aside0.mk (below_step (by repeat (first | (with_reducible first | exact HB.out | apply below_alloc | apply pw_below_drewN | apply below_drew1) | exact HB.out)) hb); clear HO146; clear HB; have HO146 := n0_; have HB := n1_; clear n0_ n1_; (try clear hb); (try clear hb2); (try clear hk); (try clear hi); obtain ⟨Ao17, co17, eo17⟩ := Kd.R_slice HO146.out; subst eo17; have p150 : 0 ≤ (0 : Int) := (by omega); have q150 : 0 < (t143.length : Int) := of_decide_eq_true (by first | (with_reducible assumption) | assumption); obtain ⟨ad150, e150, hx150_0⟩ := Kd.at_int (Kd.R_reads' HO146.out).2.2 0 p150 q150; cases e150; have qi150 : (0 < t143.length) = True := eq_true (by omega); (try rw [show ((0 : Int)).toNat = 0 from rfl] at hx150_0); (try rw [Addr.add_zero'] at hx150_0); replace p150 := eq_true p150; replace q150 := eq_true q150))
        go_ret
        exact ⟨by first | rfl | (simp [errW_none, errW_some] <;> rfl) | (simp [*, errW_none, errW_some] <;> rfl), by repeat (first | (with_reducible first | exact HB.out | apply below_alloc | apply pw_below_drewN | apply below_drew1) | exact HB.out)⟩
       rw [if_neg c12] at H
       exact absurd H (by simp)
      rw [if_neg c11] at H
      exact absurd H (by simp)
     rw [if_neg c10] at H
     exact absurd H (by simp)
    rw [if_neg c9] at H
    exact absurd H (by simp)
   rw [if_neg c8] at H
   exact absurd H (by simp)
  rw [if_neg c7] at H
  exact absurd H (by simp)
 rw [if_neg c6] at H
 exact absurd H (by simp)

end Go.Proofs.YtnlklfhgdefbaaaDoor.GN
-- thin

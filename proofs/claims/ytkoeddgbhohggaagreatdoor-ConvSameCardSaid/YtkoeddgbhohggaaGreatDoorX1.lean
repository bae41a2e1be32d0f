/-
  Texts of this proof, one behind the other: WWords, WLast, WApart, WArr, WFoot, WKept, WShare, WZeros, WN, WFootNe, WAt, WEqStruct, WTab, WFour, WGuard, WInv, WInvWords, WQPut, WNEv, WMore, WRepsOne, WSized, EA, EB, EC, ED, EE, EF, EG, EH. No condition of their own.
-/
import Derived.Below
import Derived.Deep.Draws
import Derived.Deep.AppendLies
import Derived.Maps.AppendAt
import Derived.OwnWalk
import Derived.Laws.BytesArg
import Derived.Laws.MakeOwn
import Derived.Laws.OwnMore
import Derived.Deep.OwnRows
import Derived.Tactics
import Derived.Lib.ConvBytes
import Derived.Laws.Slices
import Derived.WalkKit
import Derived.KernelRfl
import Derived.RowKit3
import Derived.Deep.LoopGhost
import Derived.Deep.QuietTactic
import Derived.BigQuiet
import Derived.WideLaws
import Derived.Deep.DeepCutAuto
import Derived.Deep.CutBlock
import Derived.Deep.RegionHeld3
import Derived.Laws.Rows
import Derived.Lib.AppendStr
import Derived.ArgAppend
import Derived.Laws.IdiomCopy
import Derived.RowKit
import Derived.OrdersHeld
import Derived.Laws.BitsLemmas
import Derived.Laws.StructEq
import Derived.SizedLaws
import Derived.ChangeSlices
import Derived.Laws.CopyRow
import Derived.Laws.AppendOwn
import Derived.Laws.Append
section
set_option linter.unusedVariables false
set_option linter.unusedSimpArgs false
namespace Go.Proofs.YtkoeddgbhohggaaGreatDoorW.PrintWords
open Go.RowKit
structure Aside0 (p : Prop) : Prop where mk :: (out : p)
structure Drawn0 (w w' : World) : Prop where mk :: (out : ∃ n, w' = w.drewN n)
theorem Drawn0.refl (w : World) : Drawn0 w w := ⟨⟨0, rfl⟩⟩
theorem Drawn0.step {w w' : World} (h : Drawn0 w w') (n : Nat) : Drawn0 w (w'.drewN n) := by
 obtain ⟨m, rfl⟩ := h
 exact ⟨⟨m + n, World.drewN_drewN ..⟩⟩
theorem Drawn0.grown {w w' : World} (h : Drawn0 w w') : Grown w w' := by
 obtain ⟨n, rfl⟩ := h
 induction n with
 | zero => exact Grown.refl _
 | succ n ih => rw [← World.drew_drewN]; exact Grown.drew ih
theorem Drawn0.below {w w' : World} (h : Drawn0 w w') : Below w.heap.size w w' := by
 obtain ⟨n, rfl⟩ := h
 induction n with
 | zero => exact Below.refl _ _
 | succ n ih => rw [← World.drew_drewN]; exact ih.drew
def rd (xs : List Int) (i : Int) : Int := xs.getD i.toNat 0
def bt (s : ByteArray) (i : Int) : Int := if h : i.toNat < s.size then ((s[i.toNat]'h).toNat : Int) else 0
theorem below_alloc {w W : World} (h : Below w.heap.size w W) (o : Obj) : Below w.heap.size w (W.alloc o) := h.alloc h.size o
theorem grown_of_below {w w1 : World} (h : Below w.heap.size w w1) (row : Option Nat) : w.grownBy w1 row := ⟨h.os, h.tape, h.output, h.size, fun i hi _ => h.block i hi⟩
theorem pw_cell_below {w w1 : World} (h : Below w.heap.size w w1) {a : Addr} {v : Value} (hc : w.cell? a = some v) : w1.cell? a = some v := (h.cell (World.block_lt_of_cell? w a hc)).trans hc
def ReadsInt (w : World) (k : IntKind) (A : Option Addr) (n : Nat) (xs : List Int) : Prop :=
 xs.length = n ∧ n ≤ 9223372036854775807 ∧ (0 < n → ∃ ad, A = some ad ∧ ∀ j, j < n → w.cell? (ad.add j) = some (.int k (xs.getD j 0)))
theorem ReadsInt.below {w w1 : World} {k : IntKind} {A : Option Addr} {n : Nat} {xs : List Int} (h : ReadsInt w k A n xs) (hb : Below w.heap.size w w1) : ReadsInt w1 k A n xs :=
 ⟨h.1, h.2.1, fun hn => by
  obtain ⟨ad, e, hc⟩ := h.2.2 hn
  exact ⟨ad, e, fun j hj => pw_cell_below hb (hc j hj)⟩⟩
theorem own_base {w : World} {base : Nat} {e : TypeId} {size n : Nat} {v : Value} {xs : List Value} (h : w.ownsRow base e size v n xs) (k : Nat) (hk : v.ownBlock = some k) : base ≤ k := by
 rcases h.2 with ⟨rfl, _⟩ | ⟨g, cap, cur, rfl, hb, _⟩
 ·simp [Value.ownBlock] at hk
 ·have : g = k := by simpa [Value.ownBlock] using hk
  omega
theorem own_lt {w : World} {base : Nat} {e : TypeId} {size n : Nat} {v : Value} {xs : List Value} (h : w.ownsRow base e size v n xs) (k : Nat) (hk : v.ownBlock = some k) : k < w.heap.size := by
 rcases h.2 with ⟨rfl, _⟩ | ⟨g, cap, cur, rfl, hb, hh, _⟩
 ·simp [Value.ownBlock] at hk
 ·have : g = k := by simpa [Value.ownBlock] using hk
  subst this
  exact (Array.getElem?_eq_some_iff.1 hh).1
theorem pw_own_below {w w1 : World} {base : Nat} {e : TypeId} {size n : Nat} {v : Value} {xs : List Value} (h : w.ownsRow base e size v n xs) (hb : Below w.heap.size w w1) : w1.ownsRow base e size v n xs :=
 h.kept (grown_of_below hb none) (by cases v.ownBlock <;> simp)
theorem own_other {w w1 : World} {base : Nat} {e : TypeId} {size n : Nat} {v : Value} {xs : List Value} (h : w.ownsRow base e size v n xs) {row : Option Nat} (hg : w.grownBy w1 row) (hne : v.ownBlock = none ∨ v.ownBlock ≠ row) : w1.ownsRow base e size v n xs := h.kept hg hne
theorem own_slice {w : World} {base n : Nat} {e : TypeId} {size : Nat} {v : Value} {xs : List Value} (h : w.ownsRow base e size v n xs) : ∃ A c, v = .slice A n c := by
 rcases h.2 with ⟨rfl, rfl⟩ | ⟨g, cap, cur, rfl, _⟩
 ·exact ⟨none, 0, rfl⟩
 ·exact ⟨_, cap, rfl⟩
def bytesOf (s : ByteArray) : List Int := s.data.toList.map fun b => (b.toNat : Int)
theorem data_length (s : ByteArray) : s.data.toList.length = s.size := by rw [Array.length_toList]; rfl
theorem bytesOf_length (s : ByteArray) : (bytesOf s).length = s.size := by rw [bytesOf, List.length_map, data_length]
theorem bytes_below {B : Nat} {w W : World} (h : Below B w W) (hB : B ≤ W.heap.size) (e : TypeId) (s : ByteArray) : Below B w (Lib.bytesWorld W e s) :=
 h.trans ⟨rfl, rfl, rfl, by rw [Lib.bytesWorld_size]; omega, fun i hi => Lib.bytesWorld_at_old W e s i (by omega)⟩
def LeO {α : Type} (a b : Option α) : Prop := ∀ r, a = some r → b = some r
theorem LeO.refl {α : Type} (a : Option α) : LeO a a := fun _ h => h
theorem LeO.none {α : Type} (b : Option α) : LeO Option.none b := fun _ h => by cases h
theorem LeO.trans {α : Type} {a b c : Option α} (h : LeO a b) (k : LeO b c) : LeO a c := fun r hr => k r (h r hr)
theorem LeO.bind {α β : Type} {a a' : Option α} {f f' : α → Option β} (h : LeO a a') (k : ∀ x, LeO (f x) (f' x)) : LeO (a.bind f) (a'.bind f') := by
 intro r hr
 obtain ⟨x, hx, hf⟩ := Option.bind_eq_some_iff.1 hr
 exact Option.bind_eq_some_iff.2 ⟨x, h x hx, k x r hf⟩
theorem LeO.map {α β : Type} {a a' : Option α} (f : α → β) (h : LeO a a') : LeO (a.map f) (a'.map f) := by
 intro r hr
 obtain ⟨x, hx, hf⟩ := Option.map_eq_some_iff.1 hr
 exact Option.map_eq_some_iff.2 ⟨x, h x hx, hf⟩
theorem more_rounds {α : Type} {g : Nat → Option α} (h : ∀ k, LeO (g k) (g (k + 1))) (k : Nat) : ∀ j, LeO (g k) (g (k + j))
 | 0 => LeO.refl _
 | j + 1 => (more_rounds h k j).trans (h (k + j))
theorem at_rounds {α : Type} {g : Nat → Option α} (h : ∀ k, LeO (g k) (g (k + 1))) {k k' : Nat} (hk : k ≤ k') {r : α} (hr : g k = some r) : g k' = some r := by
 have := more_rounds h k (k' - k) r hr
 rwa [Nat.add_sub_cancel' hk] at this
def Reps {α : Type} (R : α → List Value → Prop) (size : Nat) (ps : List α) (cs : List Value) : Prop :=
 cs.length = ps.length * size ∧ ∀ j p, ps[j]? = some p → R p ((cs.drop (j * size)).take size)
theorem Reps.none {α : Type} (R : α → List Value → Prop) (size : Nat) : Reps R size [] [] := ⟨by simp, fun j p h => by simp at h⟩
theorem Reps.snoc {α : Type} {R : α → List Value → Prop} {size : Nat} {ps : List α} {cs c : List Value} {p : α} (h : Reps R size ps cs) (hp : R p c) (hc : c.length = size) : Reps R size (ps ++ [p]) (cs ++ c) := by
 refine ⟨by rw [List.length_append, h.1, hc, List.length_append, List.length_singleton, Nat.add_mul, Nat.one_mul], fun j q hq => ?_⟩
 rcases Nat.lt_or_ge j ps.length with hj | hj
 ·rw [List.getElem?_append_left hj] at hq
  have h1 : j * size + size ≤ cs.length := by rw [h.1, ← Nat.succ_mul]; exact Nat.mul_le_mul_right _ hj
  have h2 := h.2 j q hq
  rw [List.drop_append_of_le_length (by omega), List.take_append_of_le_length (by rw [List.length_drop]; omega)]
  exact h2
 ·have hj' : j = ps.length := by
   have := (List.getElem?_eq_some_iff.1 hq).1
   rw [List.length_append, List.length_singleton] at this
   omega
  subst hj'
  have hq' : p = q := by simpa using hq
  subst hq'
  rw [← h.1, List.drop_left, ← hc, List.take_length]
  exact hp
theorem Reps.imp_ {α : Type} {R R' : α → List Value → Prop} {size : Nat} {ps : List α} {cs : List Value} (h : Reps R size ps cs) (hR : ∀ p c, R p c → R' p c) : Reps R' size ps cs := ⟨h.1, fun j p hj => hR _ _ (h.2 j p hj)⟩
def ReadsRow {α : Type} (R : α → List Value → Prop) (size : Nat) (w : World) (A : Option Addr) (n : Nat) (ps : List α) : Prop :=
 ps.length = n ∧ n ≤ 9223372036854775807 ∧ (0 < n → ∃ ad, A = some ad ∧ ∀ j p, ps[j]? = some p → ∃ c, c.length = size ∧ R p c ∧ ∀ i u, c[i]? = some u → w.cell? (ad.add (j * size + i)) = some u)
theorem ReadsRow.imp_ {α : Type} {R R' : α → List Value → Prop} {size : Nat} {w w1 : World} {A : Option Addr} {n : Nat} {ps : List α} (h : ReadsRow R size w A n ps) (hb : Below w.heap.size w w1) (hR : ∀ p c, R p c → R' p c) : ReadsRow R' size w1 A n ps :=
 ⟨h.1, h.2.1, fun hn => by
  obtain ⟨ad, e, hc⟩ := h.2.2 hn
  refine ⟨ad, e, fun j p hj => ?_⟩
  obtain ⟨c, hs, hr, hcell⟩ := hc j p hj
  exact ⟨c, hs, hR _ _ hr, fun i u hu => pw_cell_below hb (hcell i u hu)⟩⟩
theorem own_reads_row {α : Type} {R : α → List Value → Prop} {w : World} {base n size : Nat} {e : TypeId} {v : Value} {ps : List α} {cs : List Value} (h : w.ownsRow base e size v n cs) (hR : Reps R size ps cs) (hn : ps.length = n) :
  ∃ A c, v = .slice A n c ∧ ReadsRow R size w A n ps := by
 rcases Nat.eq_zero_or_pos n with h0 | h0
 ·rcases h.2 with ⟨rfl, rfl⟩ | ⟨g, cap, cur, rfl, _⟩
  ·exact ⟨none, 0, rfl, hn, by omega, fun hp => absurd hp (by omega)⟩
  ·exact ⟨_, cap, rfl, hn, by omega, fun hp => absurd hp (by omega)⟩
 ·obtain ⟨g, cap, rfl, _, _⟩ := h.form h0
  have hm : n ≤ 9223372036854775807 := by
   rcases h.2 with ⟨_, h1⟩ | ⟨g', cap', cur, he, _, _, h1, h2, _⟩
   ·omega
   ·simp only [maxLen] at h2
    omega
  refine ⟨_, cap, rfl, hn, hm, fun _ => ⟨_, rfl, fun j p hj => ⟨(cs.drop (j * size)).take size, ?_, hR.2 j p hj, fun i u hu => ?_⟩⟩⟩
  ·have hjl := (List.getElem?_eq_some_iff.1 hj).1
   have h1 : j * size + size ≤ cs.length := by rw [hR.1, ← Nat.succ_mul]; exact Nat.mul_le_mul_right _ hjl
   rw [List.length_take, List.length_drop]
   omega
  ·refine h.cells (g := g) rfl _ u ?_
   rw [List.getElem?_take] at hu
   split at hu
   ·rw [List.getElem?_drop] at hu
    exact hu
   ·cases hu
section
variable {P : Program} {ops : Array Oper} {rest : List Oper} {o : Oper} {a : Act} {Q : Exit → Act → World → Prop}
theorem print_append_cells {w0 W : World} (base : Nat) (hgd : o.guard = none) (s x : Operand) (t e : TypeId) (z : Value) (size bytes : Nat)
  (ho : o.op = .call { callee := .builtin .append, args := #[s, x], argTypes := #[t, t] })
  (ht : P.underlying t = some (.slice e)) (hinfo : (P.info? e).map (fun i => (i.zero, i.size, i.bytes)) = some (some z, size, bytes)) (hz : z.cells.size = size) (hs0 : 0 < size) (hb0 : 0 < bytes)
  (v : Value) (n : Nat) (xs ys : List Value) (hs : a.eval s = v) (hx : a.eval x = .slice (some ⟨W.heap.size, 0, none⟩) 1 1) (hys : ys.length = size) (h1 : ∀ u ∈ ys, u.oneCell' = true)
  (HO : W.ownsRow base e size v n xs) (HB : Below base w0 W) (hbase : base ≤ W.heap.size) (hl : (n + 1) * bytes ≤ 140737488355328)
  (h : ∀ v1 w1, w1.ownsRow base e size v1 (n + 1) (xs ++ ys) → Below base w0 w1 → W.grownBy w1 v.ownBlock → (v1.ownBlock = v.ownBlock ∨ ∃ b, v1.ownBlock = some b ∧ W.heap.size ≤ b) → wpList P ops Q rest (a.put o.dst v1) w1) :
  wpList P ops Q (o :: rest) a (W.alloc (.cells ys.toArray e)) := by
 obtain ⟨i0, hi, hzz⟩ := Option.map_eq_some_iff.1 hinfo
 simp only [Prod.mk.injEq] at hzz
 obtain ⟨hz0, hz1, hz2⟩ := hzz
 have hlen : n + 1 ≤ 140737488355328 := Nat.le_trans (Nat.le_mul_of_pos_right _ hb0) hl
 refine wpList_append_own_at (W.alloc (.cells ys.toArray e)) hgd s x t ho base e i0 z size bytes ht hi hz0 hz1 hz2 hz hs0 v n xs hs (HO.alloc _) ⟨W.heap.size, 0, none⟩ 1 1 ys hx (by rw [hys]; simp)
  (by simpa using World.news_of_block (cs := ys.toArray) (t := e) (fr := (0, 0)) (heap_alloc_new W (.cells ys.toArray e))) h1 (by simp only [maxLen]; omega) hl (by simp; omega) ?_
 intro v1 w1 hown hg _ hat
 refine h v1 w1 hown ((HB.alloc hbase _).grown hg (by simp; omega) (own_base HO)) (World.grownBy.trans (World.grownBy_alloc W _ _) hg) ?_
 rcases hat with hat | hat
 ·exact .inl hat
 ·exact .inr ⟨_, hat, by simp⟩
end
theorem blk_set {w : World} {g : Nat} {t : TypeId} {cs : Array Value} (h : w.heap[g]? = some (.cells cs t (0, 0))) (i : Nat) (u : Value) : (w.setCell ⟨g, i, none⟩ u).heap[g]? = some (.cells (cs.setIfInBounds i u) t (0, 0)) := by
 simp [World.setCell, Array.getElem?_modify, h]
theorem blk_lt {w : World} {g : Nat} {o : Obj} (h : w.heap[g]? = some o) : g < w.heap.size := (Array.getElem?_eq_some_iff.1 h).1
theorem blk_frozen {w : World} {g : Nat} {t : TypeId} {cs : Array Value} (h : w.heap[g]? = some (.cells cs t (0, 0))) (i : Nat) : w.frozen? ⟨g, i, none⟩ = false := by simp [World.frozen?, h]
def KeepBut (w w' : World) (g : Nat) (row : Option Nat) : Prop := w.heap.size ≤ w'.heap.size ∧ ∀ i, i < w.heap.size → i ≠ g → some i ≠ row → w'.heap[i]? = w.heap[i]?
theorem KeepBut.refl (w : World) (g : Nat) (row : Option Nat) : KeepBut w w g row := ⟨Nat.le_refl _, fun _ _ _ _ => rfl⟩
theorem KeepBut.of_below {w w1 : World} (h : Below w.heap.size w w1) (g : Nat) (row : Option Nat) : KeepBut w w1 g row := ⟨h.size, fun i hi _ _ => h.block i hi⟩
theorem KeepBut.trans {w w1 w2 : World} {g : Nat} {row row1 : Option Nat} (h : KeepBut w w1 g row) (k : KeepBut w1 w2 g row1) (hr : row1 = row ∨ ∃ b, row1 = some b ∧ w.heap.size ≤ b) : KeepBut w w2 g row :=
 ⟨Nat.le_trans h.1 k.1, fun i hi hg hn => by
  refine (k.2 i (Nat.lt_of_lt_of_le hi h.1) hg ?_).trans (h.2 i hi hg hn)
  rcases hr with rfl | ⟨b, rfl, hb⟩
  ·exact hn
  ·intro e
   injection e with e
   omega⟩
theorem KeepBut.blk {w w1 : World} {g g' : Nat} {row : Option Nat} {o : Obj} (h : KeepBut w w1 g row) (hb : w.heap[g']? = some o) (hg : g' ≠ g) (hr : some g' ≠ row) : w1.heap[g']? = some o := (h.2 g' (blk_lt hb) hg hr).trans hb
theorem KeepBut.own {w w1 : World} {g : Nat} {row : Option Nat} {base : Nat} {e : TypeId} {size n : Nat} {v : Value} {xs : List Value} (h : KeepBut w w1 g row) (ho : w.ownsRow base e size v n xs) (hg : v.ownBlock ≠ some g) (hr : v.ownBlock = none ∨ v.ownBlock ≠ row) : w1.ownsRow base e size v n xs := by
 obtain ⟨h1, h2⟩ := ho
 refine ⟨h1, ?_⟩
 rcases h2 with h2 | ⟨b, cap, cur, rfl, hb, hh, r⟩
 ·exact .inl h2
 ·refine .inr ⟨b, cap, cur, rfl, hb, h.blk hh ?_ ?_, r⟩
  ·intro e
   exact hg (by rw [← e]; rfl)
  ·rcases hr with hr | hr
   ·simp [Value.ownBlock] at hr
   ·exact hr
def Ev {α : Type} (g : Nat → Option α) (r : α) : Prop := ∃ K, ∀ k, K ≤ k → g k = some r
theorem Ev.of {α : Type} {g : Nat → Option α} {r : α} (hg : ∀ k, LeO (g k) (g (k + 1))) {k : Nat} (h : g k = some r) : Ev g r := ⟨k, fun _ hk => at_rounds hg hk h⟩
theorem Ev.now {α : Type} (r : α) : Ev (fun _ => some r) r := ⟨0, fun _ _ => rfl⟩
theorem Ev.rounds {α : Type} {g : Nat → Option α} {r : α} (h : Ev g r) : ∃ k, g k = some r := by
 obtain ⟨K, h⟩ := h
 exact ⟨K, h K (Nat.le_refl _)⟩
theorem Ev.bind {α β : Type} {g : Nat → Option α} {f : Nat → α → Option β} {a : α} {r : β} (h : Ev g a) (k : Ev (fun n => f n a) r) : Ev (fun n => (g n).bind (f n)) r := by
 obtain ⟨K, h⟩ := h
 obtain ⟨K', k⟩ := k
 refine ⟨max K K', fun n hn => ?_⟩
 have h1 := h n (by omega)
 have h2 := k n (by omega)
 simp only [h1, Option.bind_some]
 exact h2
theorem Ev.step {α : Type} {g f : Nat → Option α} {r : α} (h : ∀ k, g (k + 1) = f k) (k : Ev f r) : Ev g r := by
 obtain ⟨K, k⟩ := k
 refine ⟨K + 1, fun n hn => ?_⟩
 obtain ⟨m, rfl⟩ : ∃ m, n = m + 1 := ⟨n - 1, by omega⟩
 rw [h]
 exact k m (by omega)
theorem Ev.congr {α : Type} {g f : Nat → Option α} {r : α} (h : ∀ k, g k = f k) (k : Ev f r) : Ev g r := by
 obtain ⟨K, k⟩ := k
 exact ⟨K, fun n hn => (h n).trans (k n hn)⟩
theorem own_weaken {w : World} {base base' : Nat} {e : TypeId} {size n : Nat} {v : Value} {xs : List Value} (h : w.ownsRow base e size v n xs) (hb : base' ≤ base) : w.ownsRow base' e size v n xs := by
 obtain ⟨h1, h2⟩ := h
 refine ⟨h1, ?_⟩
 rcases h2 with h2 | ⟨g, cap, cur, rfl, hg, r⟩
 ·exact .inl h2
 ·exact .inr ⟨g, cap, cur, rfl, Nat.le_trans hb hg, r⟩
section
variable {α : Type} {enc : α → Value} {d : α}
def rdOf (d : α) (xs : List α) (i : Int) : α := xs.getD i.toNat d
def ReadsOf (enc : α → Value) (d : α) (w : World) (A : Option Addr) (n : Nat) (xs : List α) : Prop :=
 xs.length = n ∧ n ≤ 9223372036854775807 ∧ (0 < n → ∃ ad, A = some ad ∧ ∀ j, j < n → w.cell? (ad.add j) = some (enc (xs.getD j d)))
theorem ReadsOf.below {w w1 : World} {A : Option Addr} {n : Nat} {xs : List α} (h : ReadsOf enc d w A n xs) (hb : Below w.heap.size w w1) : ReadsOf enc d w1 A n xs :=
 ⟨h.1, h.2.1, fun hn => by
  obtain ⟨ad, e, hc⟩ := h.2.2 hn
  exact ⟨ad, e, fun j hj => pw_cell_below hb (hc j hj)⟩⟩
end
section
variable {P : Program}
theorem results_ct {fn : Func} {p u : Tmp} {ty : TypeId} (h : fn.results = #[.cell p ty, .tmp u]) (tmps : Array Value) (w : World) (g : Nat) (t : TypeId) (cs : Array Value) (fr : Nat × Nat) (d : TypeDesc)
  (hp : tmps.getD p undef = .pointer (some ⟨g, 0, none⟩)) (hg : w.heap[g]? = some (.cells cs t fr))
  (hu : P.underlying ty = some d) (hd : (match d with | .struct _ | .array _ _ => true | _ => false) = true) (hi : (P.info? ty).map (·.size) = some cs.size) :
  (results fn tmps).run P w = .ok (.tuple #[.agg cs, tmps.getD u undef]) w := by
 have hp' : tmps[p]?.getD undef = .pointer (some ⟨g, 0, none⟩) := by simpa using hp
 simp [results, h, hp', asAddr, run_loadVar_row w g t ty cs fr d hg hu hd hi]
end
theorem own_le {w : World} {base n m c size : Nat} {e : TypeId} {A : Option Addr} {xs : List Value} (h : w.ownsRow base e size (.slice A m c) n xs) : m ≤ c := by
 rcases h.2 with ⟨he, _⟩ | ⟨g, cap, cur, he, _, _, hnc, _⟩
 ·injection he with _ h2 h3
  omega
 ·injection he with _ h2 h3
  omega
def OwnRow {α : Type} (R : α → List Value → Prop) (e : TypeId) (size : Nat) (w : World) (base : Nat) (v : Value) (ps : List α) : Prop :=
 ∃ inner, w.ownsRow base e size v ps.length inner ∧ Reps R size ps inner
section
variable {α : Type} {R R' : α → List Value → Prop} {e : TypeId} {size : Nat} {w w1 : World} {base : Nat} {v : Value} {ps : List α}
theorem OwnRow.imp_ (h : OwnRow R e size w base v ps) (hR : ∀ p c, R p c → R' p c) : OwnRow R' e size w base v ps := by
 obtain ⟨inner, ho, hr⟩ := h
 exact ⟨inner, ho, hr.imp_ hR⟩
theorem OwnRow.below (h : OwnRow R e size w base v ps) (hb : Below w.heap.size w w1) : OwnRow R e size w1 base v ps := by
 obtain ⟨inner, ho, hr⟩ := h
 exact ⟨inner, pw_own_below ho hb, hr⟩
theorem OwnRow.other (h : OwnRow R e size w base v ps) {row : Option Nat} (hg : w.grownBy w1 row) (hne : v.ownBlock = none ∨ v.ownBlock ≠ row) : OwnRow R e size w1 base v ps := by
 obtain ⟨inner, ho, hr⟩ := h
 exact ⟨inner, own_other ho hg hne, hr⟩
theorem OwnRow.reads (h : OwnRow R e size w base v ps) : ∃ A c, v = .slice A ps.length c ∧ ps.length ≤ c ∧ ReadsRow R size w A ps.length ps := by
 obtain ⟨inner, ho, hr⟩ := h
 obtain ⟨A, c, rfl, hrow⟩ := own_reads_row ho hr rfl
 exact ⟨A, c, rfl, own_le ho, hrow⟩
end
section
variable {P : Program} {ops : Array Oper} {rest : List Oper} {o : Oper} {a : Act} {Q : Exit → Act → World → Prop} {α : Type} {R : α → List Value → Prop}
theorem OwnRow.append {w0 W : World} (base : Nat) (hgd : o.guard = none) (s x : Operand) (t e : TypeId) (z : Value) (size bytes : Nat)
  (ho : o.op = .call { callee := .builtin .append, args := #[s, x], argTypes := #[t, t] })
  (ht : P.underlying t = some (.slice e)) (hinfo : (P.info? e).map (fun i => (i.zero, i.size, i.bytes)) = some (some z, size, bytes)) (hz : z.cells.size = size) (hs0 : 0 < size) (hb0 : 0 < bytes)
  (v : Value) (ps : List α) (p : α) (cs : List Value) (hs : a.eval s = v) (hx : a.eval x = .slice (some ⟨W.heap.size, 0, none⟩) 1 1) (hp : R p cs) (hcs : cs.length = size) (h1 : ∀ u ∈ cs, u.oneCell' = true)
  (HO : OwnRow R e size W base v ps) (HB : Below base w0 W) (hbase : base ≤ W.heap.size) (hl : (ps.length + 1) * bytes ≤ 140737488355328)
  (h : ∀ v1 w1, OwnRow R e size w1 base v1 (ps ++ [p]) → Below base w0 w1 → W.grownBy w1 v.ownBlock → (v1.ownBlock = v.ownBlock ∨ ∃ b, v1.ownBlock = some b ∧ W.heap.size ≤ b) → wpList P ops Q rest (a.put o.dst v1) w1) :
  wpList P ops Q (o :: rest) a (W.alloc (.cells cs.toArray e)) := by
 obtain ⟨inner, hown, hr⟩ := HO
 refine print_append_cells base hgd s x t e z size bytes ho ht hinfo hz hs0 hb0 v ps.length inner cs hs hx hcs h1 hown HB hbase hl ?_
 intro v1 w1 hown1 hb1 hg1 hat1
 exact h v1 w1 ⟨inner ++ cs, by rw [List.length_append, List.length_singleton]; exact hown1, hr.snoc hp hcs⟩ hb1 hg1 hat1
end
structure Kd (α : Type) where
 sz : Nat
 E : List Nat
 K : World → α → List Value → Prop
 M : World → Nat → (Nat → Prop) → α → List Value → Prop
 K_len : ∀ {w x cs}, K w x cs → cs.length = sz
 K_one : ∀ {w x cs}, K w x cs → ∀ u ∈ cs, u.oneCell' = true
 K_below : ∀ {w w1 : World} {x cs}, Below w.heap.size w w1 → K w x cs → K w1 x cs
 K_of_M : ∀ {w base ok x cs}, M w base ok x cs → K w x cs
 M_mono : ∀ {w base ok ok' x cs}, (∀ k, ok k → ok' k) → M w base ok x cs → M w base ok' x cs
 M_bound : ∀ {w : World} {base ok x cs}, M w base ok x cs → M w base (fun k => ok k ∧ base ≤ k ∧ k < w.heap.size ∧ ∃ q, q ∈ E ∧ ∃ cells, w.heap[k]? = some (.cells cells q (0, 0))) x cs
 M_move : ∀ {w w1 : World} {base ok x cs}, (∀ k, ok k → w1.heap[k]? = w.heap[k]?) → M w base ok x cs → M w1 base ok x cs
 M_lower : ∀ {w base base' ok x cs}, base' ≤ base → M w base ok x cs → M w base' ok x cs
theorem own_move {w w1 : World} {base : Nat} {e : TypeId} {size n : Nat} {v : Value} {xs : List Value} (h : w.ownsRow base e size v n xs) (hm : ∀ k, v.ownBlock = some k → w1.heap[k]? = w.heap[k]?) : w1.ownsRow base e size v n xs := by
 obtain ⟨h1, h2⟩ := h
 refine ⟨h1, ?_⟩
 rcases h2 with h2 | ⟨g, cap, cur, rfl, hg, hh, r⟩
 ·exact .inl h2
 ·exact .inr ⟨g, cap, cur, rfl, hg, (hm g (by simp [Value.ownBlock])).trans hh, r⟩
theorem own_typed {w : World} {base : Nat} {e : TypeId} {size n : Nat} {v : Value} {xs : List Value} (h : w.ownsRow base e size v n xs) (k : Nat) (hk : v.ownBlock = some k) : ∃ cells, w.heap[k]? = some (.cells cells e (0, 0)) := by
 rcases h.2 with ⟨rfl, _⟩ | ⟨g, cap, cur, rfl, hg, hh, r⟩
 ·simp [Value.ownBlock] at hk
 ·have : g = k := by simpa [Value.ownBlock] using hk
  subst this
  exact ⟨cur, hh⟩
namespace Kd
def C {α : Type} (d : Kd α) (w : World) (A : Option Addr) (n : Nat) (xs : List α) : Prop := ReadsRow (d.K w) d.sz w A n xs
def R {α : Type} (d : Kd α) (e : Nat) (w : World) (base : Nat) (ok : Nat → Prop) (v : Value) (xs : List α) : Prop :=
 (∀ k, v.ownBlock = some k → ok k) ∧ OwnRow (d.M w base (fun k => ok k ∧ some k ≠ v.ownBlock)) e d.sz w base v xs
section
variable {α : Type} {d : Kd α} {e : Nat} {w w1 : World} {base : Nat} {ok ok' : Nat → Prop} {v : Value} {xs : List α}
theorem C_below {A : Option Addr} {n : Nat} (h : d.C w A n xs) (hb : Below w.heap.size w w1) : d.C w1 A n xs := ReadsRow.imp_ h hb (fun _ _ hp => d.K_below hb hp)
theorem R_mono (h : d.R e w base ok v xs) (hok : ∀ k, ok k → ok' k) : d.R e w base ok' v xs := ⟨fun k hk => hok k (h.1 k hk), h.2.imp_ (fun _ _ hp => d.M_mono (fun k hk => ⟨hok k hk.1, hk.2⟩) hp)⟩
theorem R_bound (h : d.R e w base ok v xs) : d.R e w base (fun k => ok k ∧ base ≤ k ∧ k < w.heap.size ∧ ∃ q, q ∈ e :: d.E ∧ ∃ cells, w.heap[k]? = some (.cells cells q (0, 0))) v xs := by
 obtain ⟨h0, inner, ho, hr⟩ := h
 refine ⟨fun k hk => ?_, inner, ho, hr.imp_ (fun _ _ hp => d.M_mono (fun k hk => ?_) (d.M_bound hp))⟩
 ·obtain ⟨cells, hc⟩ := own_typed ho k hk
  exact ⟨h0 k hk, own_base ho k hk, own_lt ho k hk, e, List.mem_cons_self, cells, hc⟩
 ·obtain ⟨⟨h1, h2⟩, h3, h4, q, hq, hc⟩ := hk
  exact ⟨⟨h1, h3, h4, q, List.mem_cons_of_mem _ hq, hc⟩, h2⟩
theorem R_move (h : d.R e w base ok v xs) (hm : ∀ k, ok k → w1.heap[k]? = w.heap[k]?) : d.R e w1 base ok v xs := by
 obtain ⟨h0, inner, ho, hr⟩ := h
 exact ⟨h0, inner, own_move ho (fun k hk => hm k (h0 k hk)), hr.imp_ (fun _ _ hp => d.M_move (fun k hk => hm k hk.1) hp)⟩
theorem R_lower {base' : Nat} (h : d.R e w base ok v xs) (hb : base' ≤ base) : d.R e w base' ok v xs := by
 obtain ⟨h0, inner, ho, hr⟩ := h
 exact ⟨h0, inner, own_weaken ho hb, hr.imp_ (fun _ _ hp => d.M_lower hb hp)⟩
theorem R_reads (h : d.R e w base ok v xs) : ∃ A c, v = .slice A xs.length c ∧ xs.length ≤ c ∧ d.C w A xs.length xs := by
 obtain ⟨A, c, he, hl, hr⟩ := OwnRow.reads h.2
 exact ⟨A, c, he, hl, hr.imp_ (Below.refl _ _) (fun _ _ hp => d.K_of_M hp)⟩
end
def scalar {α : Type} (enc : α → Value) (h1 : ∀ x, (enc x).oneCell' = true) : Kd α where
 sz := 1
 E := []
 K := fun _ x cs => cs = [enc x]
 M := fun _ _ _ x cs => cs = [enc x]
 K_len := fun h => by rw [h]; rfl
 K_one := fun h u hu => by
  rw [h] at hu
  rw [List.mem_singleton.1 hu]
  exact h1 _
 K_below := fun _ h => h
 K_of_M := fun h => h
 M_mono := fun _ h => h
 M_bound := fun h => h
 M_move := fun _ h => h
 M_lower := fun _ h => h
def int (k : IntKind) : Kd Int := scalar (Value.int k) (fun _ => rfl)
def bool : Kd Bool := scalar Value.bool (fun _ => rfl)
def string : Kd ByteArray := scalar Value.string (fun _ => rfl)
def slice {α : Type} (e : Nat) (d : Kd α) : Kd (List α) where
 sz := 1
 E := e :: d.E
 K := fun w xs cs => ∃ A c, cs = [.slice A xs.length c] ∧ xs.length ≤ c ∧ d.C w A xs.length xs
 M := fun w base ok xs cs => ∃ v, cs = [v] ∧ d.R e w base ok v xs
 K_len := by
  rintro w x cs ⟨A, c, rfl, _⟩
  rfl
 K_one := by
  rintro w x cs ⟨A, c, rfl, _⟩ u hu
  rw [List.mem_singleton.1 hu]
  rfl
 K_below := by
  rintro w w1 x cs hb ⟨A, c, rfl, hl, hr⟩
  exact ⟨A, c, rfl, hl, C_below hr hb⟩
 K_of_M := by
  rintro w base ok x cs ⟨v, rfl, h⟩
  obtain ⟨A, c, rfl, hl, hr⟩ := R_reads h
  exact ⟨A, c, rfl, hl, hr⟩
 M_mono := by
  rintro w base ok ok' x cs hok ⟨v, rfl, h⟩
  exact ⟨v, rfl, R_mono h hok⟩
 M_bound := by
  rintro w base ok x cs ⟨v, rfl, h⟩
  exact ⟨v, rfl, R_bound h⟩
 M_move := by
  rintro w w1 base ok x cs hm ⟨v, rfl, h⟩
  exact ⟨v, rfl, R_move h hm⟩
 M_lower := by
  rintro w base base' ok x cs hb ⟨v, rfl, h⟩
  exact ⟨v, rfl, R_lower h hb⟩
def bot {α : Type} (sz : Nat) (E : List Nat) : Kd α where
 sz := sz
 E := E
 K := fun _ _ _ => False
 M := fun _ _ _ _ _ => False
 K_len := fun h => h.elim
 K_one := fun h => h.elim
 K_below := fun _ h => h
 K_of_M := fun h => h
 M_mono := fun _ h => h
 M_bound := fun h => h
 M_move := fun _ h => h
 M_lower := fun _ h => h
def upto {α : Type} (F : Kd α → Kd α) (sz : Nat) (E : List Nat) : Nat → Kd α
 | 0 => bot sz E
 | n + 1 => F (upto F sz E n)
end Kd
namespace Kd
end Kd
namespace Kd
end Kd
namespace Kd
end Kd
theorem own_take {w : World} {base n m c size : Nat} {e : TypeId} {A : Option Addr} {xs : List Value} (h : w.ownsRow base e size (.slice A n c) n xs) (hm : m ≤ n) : w.ownsRow base e size (.slice A m c) m (xs.take (m * size)) := by
 obtain ⟨h1, h2⟩ := h
 refine ⟨by rw [List.length_take, h1]; exact Nat.min_eq_left (Nat.mul_le_mul_right _ hm), ?_⟩
 rcases h2 with ⟨he, h0⟩ | ⟨g, cap, cur, he, hb, hh, hnc, hcm, hcs, ht⟩
 ·injection he with ha _ hc
  subst ha; subst hc
  exact .inl ⟨by rw [show m = 0 by omega], by omega⟩
 ·injection he with ha _ hc
  subst ha; subst hc
  refine .inr ⟨g, c, cur, rfl, hb, hh, by omega, hcm, hcs, ?_⟩
  rw [← ht, List.take_take, Nat.min_eq_left (Nat.mul_le_mul_right _ hm)]
def QRow (w : World) (base : Nat) (e : TypeId) (size : Nat) (v : Value) (n : Nat) (xs : List Value) : Prop :=
 xs.length = n * size ∧
 ((n = 0 ∧ ∃ A, v = .slice A 0 0 ∧ ∀ a, A = some a → base ≤ a.block ∧ ∃ cur, w.heap[a.block]? = some (.cells cur e (0, 0))) ∨
 ∃ g off cap cur, v = .slice (some ⟨g, off * size, none⟩) n cap ∧ base ≤ g ∧ w.heap[g]? = some (.cells cur e (0, 0)) ∧ n ≤ cap ∧ off + cap ≤ maxLen ∧ cur.size = (off + cap) * size ∧ (cur.toList.drop (off * size)).take (n * size) = xs)
section
variable {w w1 : World} {base n size : Nat} {e : TypeId} {v : Value} {xs : List Value}
theorem q_typed (h : QRow w base e size v n xs) (k : Nat) (hk : v.ownBlock = some k) : base ≤ k ∧ ∃ cells, w.heap[k]? = some (.cells cells e (0, 0)) := by
 rcases h.2 with ⟨_, A, rfl, hA⟩ | ⟨g, off, cap, cur, rfl, hg, hh, r⟩
 ·cases A with
  | none => simp [Value.ownBlock] at hk
  | some a =>
   have : a.block = k := by simpa [Value.ownBlock] using hk
   subst this
   exact hA a rfl
 ·have : g = k := by simpa [Value.ownBlock] using hk
  subst this
  exact ⟨hg, cur, hh⟩
theorem q_slice (h : QRow w base e size v n xs) : ∃ A c, v = .slice A n c ∧ n ≤ c := by
 rcases h.2 with ⟨h0, A, rfl, _⟩ | ⟨g, off, cap, cur, rfl, hg, hh, hnc, r⟩
 ·exact ⟨A, 0, by rw [h0], by omega⟩
 ·exact ⟨_, cap, rfl, hnc⟩
theorem q_max (h : QRow w base e size v n xs) : n ≤ 9223372036854775807 := by
 rcases h.2 with ⟨h0, _⟩ | ⟨g, off, cap, cur, rfl, hg, hh, hnc, hm, r⟩
 ·omega
 ·simp only [maxLen] at hm
  omega
theorem add_at (g o j : Nat) : (⟨g, o, none⟩ : Addr).add j = ⟨g, o + j, none⟩ := by unfold Addr.add; split <;> simp_all
theorem q_cells {A : Option Addr} {c : Nat} (h : QRow w base e size (.slice A n c) n xs) (hn : 0 < n) : ∃ ad, A = some ad ∧ ∀ j u, xs[j]? = some u → w.cell? (ad.add j) = some u := by
 rcases h.2 with ⟨h0, _⟩ | ⟨g, off, cap, cur, he, hg, hh, hnc, hm, hcs, ht⟩
 ·omega
 ·injection he with ha _ hc
  subst ha
  refine ⟨_, rfl, fun j u hu => ?_⟩
  rw [add_at, cell_of_row w g _ cur e (0, 0) hh]
  rw [← ht, List.getElem?_take] at hu
  split at hu
  ·rw [List.getElem?_drop] at hu
   rw [← Array.getElem?_toList]
   exact hu
  ·cases hu
theorem setCells_far {g : Nat} : ∀ (vs : List Value) (o : Nat) {w : World} (k : Nat), k ≠ g → (w.setCells g o vs).heap[k]? = w.heap[k]?
 | [], _, _, _, _ => rfl
 | v :: r, o, w, k, hk => by
  rw [World.setCells, setCells_far r (o + 1) k hk]
  exact Below.heap_setCell w ⟨g, o, none⟩ v k hk
theorem setCells_same (g : Nat) : ∀ (vs : List Value) (o : Nat) (w : World), (w.setCells g o vs).os = w.os ∧ (w.setCells g o vs).tape = w.tape ∧ (w.setCells g o vs).output = w.output ∧ (w.setCells g o vs).heap.size = w.heap.size
 | [], _, _ => ⟨rfl, rfl, rfl, rfl⟩
 | v :: r, o, w => by
  obtain ⟨h1, h2, h3, h4⟩ := setCells_same g r (o + 1) (w.setCell ⟨g, o, none⟩ v)
  rw [World.setCells]
  exact ⟨h1, h2, h3, by rw [h4]; simp [World.setCell]⟩
theorem setCells_row {g : Nat} {e : TypeId} : ∀ (vs : List Value) (o : Nat) (w : World) (cur : Array Value), w.heap[g]? = some (.cells cur e (0, 0)) → o + vs.length ≤ cur.size →
  ∃ cur', (w.setCells g o vs).heap[g]? = some (.cells cur' e (0, 0)) ∧ cur'.size = cur.size ∧ cur'.toList = cur.toList.take o ++ vs ++ cur.toList.drop (o + vs.length)
 | [], o, w, cur, h, _ => ⟨cur, h, rfl, by simp⟩
 | v :: r, o, w, cur, h, hl => by
  have h2 := blk_set h o v
  simp only [List.length_cons] at hl
  obtain ⟨cur', h3, h4, h5⟩ := setCells_row r (o + 1) (w.setCell ⟨g, o, none⟩ v) _ h2 (by simp; omega)
  refine ⟨cur', h3, by rw [h4]; simp, ?_⟩
  rw [h5, Array.toList_setIfInBounds]
  have ho : o < cur.toList.length := by rw [Array.length_toList]; omega
  rw [List.take_set, List.drop_set_of_lt (by omega)]
  simp only [List.length_cons]
  rw [show o + 1 + r.length = o + (r.length + 1) by omega]
  congr 1
  rw [List.take_succ_eq_append_getElem ho, List.set_append_right _ _ (by rw [List.length_take]; omega)]
  have ho' : o < cur.size := by omega
  simp [Nat.min_eq_left (Nat.le_of_lt ho')]
end
namespace Kd
theorem reps_take {α : Type} {R : α → List Value → Prop} {size m : Nat} {ps : List α} {cs : List Value} (h : Reps R size ps cs) (hm : m ≤ ps.length) : Reps R size (ps.take m) (cs.take (m * size)) := by
 refine ⟨by rw [List.length_take, List.length_take, h.1, Nat.min_eq_left hm, Nat.min_eq_left (Nat.mul_le_mul_right _ hm)], fun j p hj => ?_⟩
 rw [List.getElem?_take] at hj
 split at hj
 ·rename_i hjm
  have := h.2 j p hj
  have hle : j * size + size ≤ m * size := by rw [← Nat.succ_mul]; exact Nat.mul_le_mul_right _ hjm
  rw [List.drop_take, List.take_take, Nat.min_eq_left (by omega)]
  exact this
 ·cases hj
theorem R_take {α : Type} {d : Kd α} {e m n c : Nat} {w : World} {base : Nat} {ok : Nat → Prop} {A : Option Addr} {xs : List α} (h : d.R e w base ok (.slice A n c) xs) (hm : m ≤ xs.length) : d.R e w base ok (.slice A m c) (xs.take m) := by
 obtain ⟨h0, inner, ho, hr⟩ := h
 have hn : n = xs.length := by
  obtain ⟨A', c', he⟩ := own_slice ho
  injection he
 subst hn
 have hb : ∀ x y : Nat, (Value.slice A x c).ownBlock = (Value.slice A y c).ownBlock := by
  intro x y
  cases A <;> rfl
 refine ⟨fun k hk => h0 k (by rw [hb _ m]; exact hk), inner.take (m * d.sz), ?_, ?_⟩
 ·rw [List.length_take, Nat.min_eq_left hm]
  exact own_take ho hm
 ·rw [hb m xs.length]
  exact reps_take hr hm
def Q {α : Type} (d : Kd α) (e : Nat) (w : World) (base : Nat) (ok : Nat → Prop) (v : Value) (xs : List α) : Prop :=
 (∀ k, v.ownBlock = some k → ok k) ∧ ∃ inner, QRow w base e d.sz v xs.length inner ∧ Reps (d.M w base (fun k => ok k ∧ some k ≠ v.ownBlock)) d.sz xs inner
section
variable {α : Type} {d : Kd α} {e : Nat} {w w1 W : World} {base : Nat} {ok ok' : Nat → Prop} {v : Value} {xs : List α}
theorem Q_reads' {A : Option Addr} {n c : Nat} (h : d.Q e w base ok (.slice A n c) xs) : n = xs.length ∧ n ≤ c ∧ d.C w A xs.length xs := by
 obtain ⟨_, inner, ho, hr⟩ := h
 obtain ⟨A', c', he, hl⟩ := q_slice ho
 injection he with h1 h2 h3
 subst h1; subst h2; subst h3
 refine ⟨rfl, hl, rfl, q_max ho, fun hp => ?_⟩
 obtain ⟨ad, ha, hc⟩ := q_cells ho hp
 refine ⟨ad, ha, fun j p hj => ⟨(inner.drop (j * d.sz)).take d.sz, ?_, d.K_of_M (hr.2 j p hj), fun i u hu => ?_⟩⟩
 ·have hjl := (List.getElem?_eq_some_iff.1 hj).1
  have h1 : j * d.sz + d.sz ≤ inner.length := by rw [hr.1, ← Nat.succ_mul]; exact Nat.mul_le_mul_right _ hjl
  rw [List.length_take, List.length_drop]
  omega
 ·refine hc _ u ?_
  rw [List.getElem?_take] at hu
  split at hu
  ·rw [List.getElem?_drop] at hu
   exact hu
  ·cases hu
end
end Kd
namespace Kd
end Kd
theorem seg_get {α : Type} (a seg : List α) (o : Nat) (h : o + seg.length ≤ a.length) (q : Nat) :
  (a.take o ++ seg ++ a.drop (o + seg.length))[q]? = if q < o then a[q]? else if q < o + seg.length then seg[q - o]? else a[q]? := by
 have hl : (a.take o).length = o := by rw [List.length_take]; omega
 rw [List.append_assoc]
 by_cases h1 : q < o
 ·rw [if_pos h1, List.getElem?_append_left (by omega), List.getElem?_take, if_pos h1]
 ·rw [if_neg h1, List.getElem?_append_right (by omega), hl]
  by_cases h2 : q < o + seg.length
  ·rw [if_pos h2, List.getElem?_append_left (by omega)]
  ·rw [if_neg h2, List.getElem?_append_right (by omega), List.getElem?_drop]
   congr 1
   omega
namespace Kd
end Kd
namespace Kd
def fixed {α : Type} (d : Kd α) (w0 : World) : Kd α where
 sz := d.sz
 E := []
 K := fun _ x cs => d.K w0 x cs
 M := fun _ _ _ x cs => d.K w0 x cs
 K_len := d.K_len
 K_one := d.K_one
 K_below := fun _ h => h
 K_of_M := fun h => h
 M_mono := fun _ h => h
 M_bound := fun h => h
 M_move := fun _ h => h
 M_lower := fun _ h => h
def or_ {α : Type} (a b : Kd α) (h : b.sz = a.sz) : Kd α where
 sz := a.sz
 E := a.E ++ b.E
 K := fun w x cs => a.K w x cs ∨ b.K w x cs
 M := fun w base ok x cs => a.M w base ok x cs ∨ b.M w base ok x cs
 K_len := fun hk => hk.elim a.K_len (fun hk => (b.K_len hk).trans h)
 K_one := fun hk => hk.elim a.K_one b.K_one
 K_below := fun hb hk => hk.imp (a.K_below hb) (b.K_below hb)
 K_of_M := fun hk => hk.imp a.K_of_M b.K_of_M
 M_mono := fun hok hk => hk.imp (a.M_mono hok) (b.M_mono hok)
 M_bound := fun hk => hk.imp
  (fun hk => a.M_mono (fun _ ⟨h1, h2, h3, q, hq, hc⟩ => ⟨h1, h2, h3, q, List.mem_append_left _ hq, hc⟩) (a.M_bound hk))
  (fun hk => b.M_mono (fun _ ⟨h1, h2, h3, q, hq, hc⟩ => ⟨h1, h2, h3, q, List.mem_append_right _ hq, hc⟩) (b.M_bound hk))
 M_move := fun hm hk => hk.imp (a.M_move hm) (b.M_move hm)
 M_lower := fun hb hk => hk.imp (a.M_lower hb) (b.M_lower hb)
end Kd
namespace Kd
end Kd
namespace Kd
end Kd
namespace Kd
end Kd
theorem string_of_reads {P : Program} {w : World} {src dst e : TypeId} {A : Option Addr} {n c : Nat} {xs : List Int} (hs : P.underlying src = some (.slice e)) (he : P.underlying e = some (.int .u8)) (hd : P.underlying dst = some .string)
  (h : ReadsInt w .u8 A n xs) : (convert src dst (.slice A n c)).run P w = .ok (.string (strOfNums xs)) w := by
 have hn : xs.length = n := h.1
 rcases A with _ | ad
 ·have h0 : n = 0 := by
   rcases Nat.eq_zero_or_pos n with h0 | h0
   ·exact h0
   ·obtain ⟨ad, h', _⟩ := h.2.2 h0
    cases h'
  subst h0
  obtain rfl : xs = [] := List.eq_nil_of_length_eq_zero hn
  exact run_convert_bytes_nil w src e hs he 0 c dst hd
 ·have hl : (loadCells ad n).run P w = .ok (xs.map (Value.int .u8)).toArray w := by
   have := run_loadCells_list (P := P) w ad (xs.map (Value.int .u8)) (fun j v hj => by
    have hjl : j < xs.length := by
     rcases Nat.lt_or_ge j xs.length with h' | h'
     ·exact h'
     ·rw [List.getElem?_eq_none (by rw [List.length_map]; exact h')] at hj
      cases hj
    obtain ⟨ad', he', hc⟩ := h.2.2 (by omega)
    injection he' with he'
    subst he'
    rw [hc j (by omega)]
    rw [List.getElem?_map, List.getElem?_eq_getElem hjl] at hj
    simp at hj
    subst hj
    simp [List.getD_eq_getElem?_getD, List.getElem?_eq_getElem hjl])
   simpa [hn] using this
  rw [run_convert_bytes_string w src dst e _ n c hs he hd, run_bytesToString w ad n c xs hl, foldl_push_bytes]
  simp [strOfNums, ByteArray.empty, ByteArray.emptyWithCapacity]
  rfl
theorem ReadsInt.nil (W : World) (k : IntKind) : ReadsInt W k none ([] : List Int).length [] := ⟨rfl, by simp, fun h => absurd h (Nat.lt_irrefl 0)⟩
theorem ReadsInt.drewN {W : World} {k : IntKind} {A : Option Addr} {n : Nat} {xs : List Int} (h : ReadsInt W k A n xs) (m : Nat) : ReadsInt (W.drewN m) k A n xs := h
theorem ReadsOf.nil {α : Type} (enc : α → Value) (d : α) (W : World) : ReadsOf enc d W none ([] : List α).length [] := ⟨rfl, by simp, fun h => absurd h (Nat.lt_irrefl 0)⟩
theorem ReadsOf.drewN {α : Type} {enc : α → Value} {d : α} {W : World} {A : Option Addr} {n : Nat} {xs : List α} (h : ReadsOf enc d W A n xs) (m : Nat) : ReadsOf enc d (W.drewN m) A n xs := h
namespace Kd
end Kd
namespace Kd
end Kd
namespace Kd
end Kd
namespace Kd
end Kd
section
variable {P : Program} {ops : Array Oper} {o : Oper} {a : Act} {Q : Exit → Act → World → Prop} {Kc : Act → World → Prop}
namespace Kd
variable {α : Type}
end Kd
end
inductive Vals (P : Program) (tmps : Array Value) (w : World) : List ResultVar → List Value → Prop where
 | nil : Vals P tmps w [] []
 | tmp {u : Tmp} {rs : List ResultVar} {vs : List Value} (h : Vals P tmps w rs vs) : Vals P tmps w (.tmp u :: rs) (tmps.getD u undef :: vs)
 | cell {p : Tmp} {ty : TypeId} {rs : List ResultVar} {vs : List Value} (g : Nat) (t : TypeId) (cs : Array Value) (fr : Nat × Nat) (d : TypeDesc)
   (hp : tmps.getD p undef = .pointer (some ⟨g, 0, none⟩)) (hg : w.heap[g]? = some (.cells cs t fr))
   (hu : P.underlying ty = some d) (hd : (match d with | .struct _ | .array _ _ => true | _ => false) = true) (hi : (P.info? ty).map (·.size) = some cs.size)
   (h : Vals P tmps w rs vs) : Vals P tmps w (.cell p ty :: rs) (.agg cs :: vs)
section
variable {P : Program} {tmps : Array Value} {w : World}
theorem vals_run {rs : List ResultVar} {vs : List Value} (hv : Vals P tmps w rs vs) (f : ResultVar → Sem Value) (hf : ∀ u, f (.tmp u) = pure (tmps.getD u undef)) (hc : ∀ a t, f (.cell a t) = (do loadVar t (← asAddr (tmps.getD a undef)))) :
  (rs.mapM f).run P w = .ok vs w := by
 induction hv with
 | nil => simp
 | tmp h ih => simp [List.mapM_cons, hf, ih]
 | cell g t cs fr d hp hg hu hd hi h ih =>
  rw [List.mapM_cons, hc, hp]
  simp [asAddr, run_loadVar_row w g t _ cs fr d hg hu hd hi, ih]
theorem results_list {fn : Func} {rs : List ResultVar} {vs : List Value} (h : fn.results = rs.toArray) (hl : vs.length ≠ 1) (hv : Vals P tmps w rs vs) : (results fn tmps).run P w = .ok (.tuple vs.toArray) w := by
 unfold results
 rw [h, List.mapM_toArray]
 simp only [Sem.run_bind, Sem.run_map]
 rw [vals_run hv]
 ·simp [hl]
 ·intro u
  rfl
 ·intro a t
  rfl
theorem results_single {fn : Func} {r : ResultVar} {v : Value} (h : fn.results = #[r]) (hv : Vals P tmps w [r] [v]) : (results fn tmps).run P w = .ok v w := by
 unfold results
 rw [show fn.results = [r].toArray from h, List.mapM_toArray]
 simp only [Sem.run_bind, Sem.run_map]
 rw [vals_run hv]
 ·simp
 ·intro u
  rfl
 ·intro a t
  rfl
end
namespace Kd
end Kd
end Go.Proofs.YtkoeddgbhohggaaGreatDoorW.PrintWords
end
section
namespace Go.Proofs.YtkoeddgbhohggaaGreatDoorW.PrintLast
section
variable {P : Program} {ops : Array Oper} {Q : Exit → Act → World → Prop} {md : Region.Mode} {S : World → Prop} {ds : List Nat}
def Region.reachB (md : Region.Mode) (ops : Array Oper) (i : Nat) : Nat → Nat → Bool
 | 0, _ => false
 | fuel + 1, d => match ops[d]? with
  | some o => o.after.any fun e => Region.binds md e && (e.on == i || Region.reachB md ops i fuel e.on)
  | none => false
def Region.lastB (md : Region.Mode) (ops : Array Oper) (listed : Array Bool) (ds : List Nat) (i : Nat) : Bool :=
 ds.all fun d => listed.getD d true || Region.reachB md ops i ops.size d
def ListedClosed (md : Region.Mode) (ops : Array Oper) (listed : Array Bool) : Prop :=
 ∀ j oj, ops[j]? = some oj → listed.getD j false = true → ∀ e ∈ oj.after, Region.binds md e = true → listed.getD e.on false = true
theorem ListedClosed.set {listed : Array Bool} {i : Nat} (h : ListedClosed md ops listed) (hi : i ∈ Region.ready md ops listed) : ListedClosed md ops (listed.setIfInBounds i true) := by
 obtain ⟨_, oi, hoi, hall⟩ := mem_ready.1 hi
 intro j oj hj hl e he hb
 by_cases hij : i = j
 ·subst hij
  have : oj = oi := Option.some.inj (hj.symm.trans hoi)
  subst this
  exact getD_set_true (hall e he hb)
 ·rw [getD_set_ne false hij] at hl
  exact getD_set_true (h j oj hj hl e he hb)
def wpAnyLast (P : Program) (md : Region.Mode) (ops : Array Oper) (Q : Exit → Act → World → Prop) (S : World → Prop) (ds : List Nat) : Nat → Array Bool → Act → World → Prop
 | 0, listed, a, w => Region.ready md ops listed = [] ∧ Q .normal a w
 | fuel + 1, listed, a, w =>
  (Region.ready md ops listed = [] → Q .normal a w) ∧
  ∀ i ∈ Region.ready md ops listed, wpOp P ops Q i (fun a' w' => (i ∉ ds → S w → S w') ∧ wpAnyLast P md ops Q S ds fuel (listed.setIfInBounds i true) a' w') a w
theorem wpAny_of_last : ∀ (fuel : Nat) (listed : Array Bool) (a : Act) (w : World), wpAnyLast P md ops Q S ds fuel listed a w → wpAny P md ops Q fuel listed a w
 | 0, _, _, _, h => h
 | fuel + 1, _, _, _, h => ⟨h.1, fun i hi => wpOp_mono (fun a' w' h' => wpAny_of_last fuel _ a' w' h'.2) (h.2 i hi)⟩
theorem wpAnyLast_all {rs : List Nat} {fuel : Nat} {listed : Array Bool} {a : Act} {w : World} (hr : Region.ready md ops listed = rs) (hne : rs ≠ [])
  (h : ∀ i ∈ rs, wpOp P ops Q i (fun a' w' => (i ∉ ds → S w → S w') ∧ wpAnyLast P md ops Q S ds fuel (listed.setIfInBounds i true) a' w') a w) : wpAnyLast P md ops Q S ds (fuel + 1) listed a w :=
 ⟨fun h0 => absurd (hr ▸ h0) hne, hr ▸ h⟩
theorem wp_region_last {id : Nat} {a : Act} {w : World} (hm : P.follows .mixedOrders = true)
  (h : wpAnyLast P .any ops Q S ds ops.size (Array.replicate ops.size false) a { w with drawn := w.drawn + 1 }) : (Code.region id ops true).wp P Q a w :=
 wp_region_any hm (wpAny_of_last _ _ _ _ h)
end
section
variable {P : Program} {ops : Array Oper} {Q : Exit → Act → World → Prop} {md : Region.Mode} {S : World → Prop} {ds : List Nat}
def AllReadyL (P : Program) (md : Region.Mode) (ops : Array Oper) (Q : Exit → Act → World → Prop) (S : World → Prop) (ds : List Nat) (fuel : Nat) (listed : Array Bool) (a : Act) (w : World) (rs : List Nat) : Prop :=
 ∀ i ∈ rs, wpOp P ops Q i (fun a' w' => (i ∉ ds → S w → S w') ∧ wpAnyLast P md ops Q S ds fuel (listed.setIfInBounds i true) a' w') a w
theorem AllReadyL.nil {fuel : Nat} {listed : Array Bool} {a : Act} {w : World} : AllReadyL P md ops Q S ds fuel listed a w [] := fun _ h => by cases h
theorem AllReadyL.cons {fuel : Nat} {listed : Array Bool} {a : Act} {w : World} {i : Nat} {o : Oper} {rs : List Nat} (ho : ops[i]? = some o) (hd : i ∉ ds)
  (h : ∀ K' : Act → World → Prop, Shut (∀ a w, S w → (S w → wpAnyLast P md ops Q S ds fuel (listed.setIfInBounds i true) a w) → K' a w) → if Region.wanted o (yielded ops a.tmps) = true then Oper.wp P o a w K' Q else K' (a.put o.dst undef) w)
  (hs : AllReadyL P md ops Q S ds fuel listed a w rs) : AllReadyL P md ops Q S ds fuel listed a w (i :: rs) := fun j hj => by
 rcases List.mem_cons.1 hj with rfl | hj
 ·exact wpOp_step ho (fun K' hK => h K' (fun a w hS hW => hK a w ⟨fun _ _ => hS, hW hS⟩))
 ·exact hs j hj
theorem wpAnyLast_ready {rs : List Nat} {fuel : Nat} {listed : Array Bool} {a : Act} {w : World} (hr : Region.ready md ops listed = rs) (hne : rs ≠ [])
  (h : AllReadyL P md ops Q S ds fuel listed a w rs) : wpAnyLast P md ops Q S ds (fuel + 1) listed a w := wpAnyLast_all hr hne h
theorem start_ {id n : Nat} {a : Act} {w : World} (l : Array Bool) (hm : P.follows .mixedOrders = true) (hn : ops.size = n) (hl : Array.replicate n false = l) (hS : S w.drew)
  (h : S w.drew → wpAnyLast P .any ops Q S ds n l a w.drew) : (Code.region id ops true).wp P Q a w := by
 subst hn
 subst hl
 exact wp_region_last hm (h hS)
def readyB (md : Region.Mode) (ops : Array Oper) (l l' : Array Bool) (i : Nat) : Bool := (Region.ready md ops l == [i]) && (l.setIfInBounds i true == l')
theorem one_ {i : Nat} {N : Option Tmp} {oi : Oper} {fuel : Nat} {l : Array Bool} {a : Act} {w : World} (l' : Array Bool) (hi : ops[i]? = some oi) (hN : oi.dst = N) (hc : readyB md ops l l' i = true) (hd : i ∉ ds)
  (h : ∀ K : Act → World → Prop, Shut (∀ a' w', S w' → (S w' → wpAnyLast P md ops Q S ds fuel l' a' w') → K a' w') → if Region.wanted oi (yielded ops a.tmps) = true then Oper.wp P oi a w K Q else K (a.put N undef) w) :
  wpAnyLast P md ops Q S ds (fuel + 1) l a w := by
 subst hN
 simp only [readyB, Bool.and_eq_true, beq_iff_eq] at hc
 obtain ⟨h1, h2⟩ := hc
 subst h2
 exact wpAnyLast_ready h1 (by simp) (AllReadyL.cons hi hd (fun K hK => h K hK) AllReadyL.nil)
theorem two_ {i j : Nat} {Ni Nj : Option Tmp} {oi oj : Oper} {fuel : Nat} {l : Array Bool} {a : Act} {w : World} (li lj : Array Bool) (hi : ops[i]? = some oi) (hj : ops[j]? = some oj) (hNi : oi.dst = Ni) (hNj : oj.dst = Nj)
  (hc : (Region.ready md ops l == [i, j] && l.setIfInBounds i true == li && l.setIfInBounds j true == lj) = true) (hdi : i ∉ ds) (hdj : j ∉ ds)
  (h1 : ∀ K : Act → World → Prop, Shut (∀ a' w', S w' → (S w' → wpAnyLast P md ops Q S ds fuel li a' w') → K a' w') → if Region.wanted oi (yielded ops a.tmps) = true then Oper.wp P oi a w K Q else K (a.put Ni undef) w)
  (h2 : ∀ K : Act → World → Prop, Shut (∀ a' w', S w' → (S w' → wpAnyLast P md ops Q S ds fuel lj a' w') → K a' w') → if Region.wanted oj (yielded ops a.tmps) = true then Oper.wp P oj a w K Q else K (a.put Nj undef) w) :
  wpAnyLast P md ops Q S ds (fuel + 1) l a w := by
 subst hNi
 subst hNj
 simp only [Bool.and_eq_true, beq_iff_eq] at hc
 obtain ⟨⟨h3, h4⟩, h5⟩ := hc
 subst h4
 subst h5
 exact wpAnyLast_ready h3 (by simp) (AllReadyL.cons hi hdi (fun K hK => h1 K hK) (AllReadyL.cons hj hdj (fun K hK => h2 K hK) AllReadyL.nil))
theorem three_ {i j k : Nat} {Ni Nj Nk : Option Tmp} {oi oj ok : Oper} {fuel : Nat} {l : Array Bool} {a : Act} {w : World} (li lj lk : Array Bool) (hi : ops[i]? = some oi) (hj : ops[j]? = some oj) (hk : ops[k]? = some ok) (hNi : oi.dst = Ni) (hNj : oj.dst = Nj) (hNk : ok.dst = Nk)
  (hc : (Region.ready md ops l == [i, j, k] && l.setIfInBounds i true == li && l.setIfInBounds j true == lj && l.setIfInBounds k true == lk) = true) (hdi : i ∉ ds) (hdj : j ∉ ds) (hdk : k ∉ ds)
  (h1 : ∀ K : Act → World → Prop, Shut (∀ a' w', S w' → (S w' → wpAnyLast P md ops Q S ds fuel li a' w') → K a' w') → if Region.wanted oi (yielded ops a.tmps) = true then Oper.wp P oi a w K Q else K (a.put Ni undef) w)
  (h2 : ∀ K : Act → World → Prop, Shut (∀ a' w', S w' → (S w' → wpAnyLast P md ops Q S ds fuel lj a' w') → K a' w') → if Region.wanted oj (yielded ops a.tmps) = true then Oper.wp P oj a w K Q else K (a.put Nj undef) w)
  (h3 : ∀ K : Act → World → Prop, Shut (∀ a' w', S w' → (S w' → wpAnyLast P md ops Q S ds fuel lk a' w') → K a' w') → if Region.wanted ok (yielded ops a.tmps) = true then Oper.wp P ok a w K Q else K (a.put Nk undef) w) :
  wpAnyLast P md ops Q S ds (fuel + 1) l a w := by
 subst hNi
 subst hNj
 subst hNk
 simp only [Bool.and_eq_true, beq_iff_eq] at hc
 obtain ⟨⟨⟨h4, h5⟩, h6⟩, h7⟩ := hc
 subst h5
 subst h6
 subst h7
 exact wpAnyLast_ready h4 (by simp) (AllReadyL.cons hi hdi (fun K hK => h1 K hK) (AllReadyL.cons hj hdj (fun K hK => h2 K hK) (AllReadyL.cons hk hdk (fun K hK => h3 K hK) AllReadyL.nil)))
def putAll : Act → List (Tmp × Value) → Act
 | a, [] => a
 | a, (n, v) :: r => putAll (a.put (some n) v) r
theorem join_ {σ : Type} {fuel : Nat} {l : Array Bool} {a : Act} {w : World} (fuel' : Nat) (l' : Array Bool) (ns : σ → List (Tmp × Value)) (F : σ → World → Prop)
  (hcont : ∀ s w', F s w' → wpAnyLast P md ops Q S ds fuel' l' (putAll a (ns s)) w')
  (h : (∀ s w', F s w' → wpAnyLast P md ops Q S ds fuel' l' (putAll a (ns s)) w') → wpAnyLast P md ops Q S ds fuel l a w) : wpAnyLast P md ops Q S ds fuel l a w := h hcont
theorem enters_ {f : FuncId} {fn : Func} (hf : P.funcs[f]? = some fn) (hname : (fn.name == "runtime.NumGoroutine") = false) (hb : fn.body.isSome = true) (args : Array Value) (w : World) : (callFunc f args).run P w = .ok (.enter f args) w := by
 have h1 : fn.name ≠ "runtime.NumGoroutine" := by simpa using hname
 obtain ⟨c, hc⟩ := Option.isSome_iff_exists.1 hb
 simp [callFunc, hf, h1, hc]
theorem i64_w (n : Int) : IntKind.i64.wrap n = Go.RowKit.wrap64 n := by unfold Go.RowKit.wrap64; exact IntKind.wrap_i64 n
end
end Go.Proofs.YtkoeddgbhohggaaGreatDoorW.PrintLast
end
section
namespace Go.Proofs.YtkoeddgbhohggaaGreatDoorW.PrintWords
open Go.RowKit
namespace Kd
def tag {α : Type} (f : Nat → Nat) (d : Kd α) : Kd (α × Nat) where
 sz := d.sz
 E := d.E
 K := fun w x cs => d.K w x.1 cs
 M := fun w base ok x cs => d.M w base (fun k => ok k ∧ f k = x.2) x.1 cs
 K_len := fun h => d.K_len h
 K_one := fun h => d.K_one h
 K_below := fun hb h => d.K_below hb h
 K_of_M := fun h => d.K_of_M h
 M_mono := fun hok h => d.M_mono (fun k hk => ⟨hok k hk.1, hk.2⟩) h
 M_bound := fun h => d.M_mono (fun _ hk => ⟨⟨hk.1.1, hk.2⟩, hk.1.2⟩) (d.M_bound h)
 M_move := fun hm h => d.M_move (fun k hk => hm k hk.1) h
 M_lower := fun hb h => d.M_lower hb h
def raw (sz : Nat) : Kd (List Value) where
 sz := sz
 E := []
 K := fun _ x cs => cs = x ∧ cs.length = sz ∧ ∀ u ∈ cs, u.oneCell' = true
 M := fun _ _ _ x cs => cs = x ∧ cs.length = sz ∧ ∀ u ∈ cs, u.oneCell' = true
 K_len := fun h => h.2.1
 K_one := fun h => h.2.2
 K_below := fun _ h => h
 K_of_M := fun h => h
 M_mono := fun _ h => h
 M_bound := fun h => h
 M_move := fun _ h => h
 M_lower := fun _ h => h
def S {α : Type} (d : Kd α) (e : Nat) (w : World) (base : Nat) (ok : Nat → Prop) (v : Value) (xs : List α) : Prop := ∃ f, (tag f d).R e w base ok v xs.zipIdx
def gap {α : Type} (f : Nat → Nat) (d : Kd α) (i : Nat) (c : List Value) : Kd (α × Nat) where
 sz := d.sz
 E := d.E
 K := fun w x cs => (x.2 = i → cs = c ∧ cs.length = d.sz ∧ ∀ u ∈ cs, u.oneCell' = true) ∧ (x.2 ≠ i → d.K w x.1 cs)
 M := fun w base ok x cs => (x.2 = i → cs = c ∧ cs.length = d.sz ∧ ∀ u ∈ cs, u.oneCell' = true) ∧ (x.2 ≠ i → d.M w base (fun k => ok k ∧ f k = x.2) x.1 cs)
 K_len := fun {w x cs} h => by
  by_cases hx : x.2 = i
  ·exact (h.1 hx).2.1
  ·exact d.K_len (h.2 hx)
 K_one := fun {w x cs} h => by
  by_cases hx : x.2 = i
  ·exact (h.1 hx).2.2
  ·exact d.K_one (h.2 hx)
 K_below := fun hb h => ⟨h.1, fun hx => d.K_below hb (h.2 hx)⟩
 K_of_M := fun h => ⟨h.1, fun hx => d.K_of_M (h.2 hx)⟩
 M_mono := fun hok h => ⟨h.1, fun hx => d.M_mono (fun k hk => ⟨hok k hk.1, hk.2⟩) (h.2 hx)⟩
 M_bound := fun h => ⟨h.1, fun hx => d.M_mono (fun _ hk => ⟨⟨hk.1.1, hk.2⟩, hk.1.2⟩) (d.M_bound (h.2 hx))⟩
 M_move := fun hm h => ⟨h.1, fun hx => d.M_move (fun k hk => hm k hk.1) (h.2 hx)⟩
 M_lower := fun hb h => ⟨h.1, fun hx => d.M_lower hb (h.2 hx)⟩
def H {α : Type} (d : Kd α) (e : Nat) (w : World) (base : Nat) (ok : Nat → Prop) (v : Value) (xs : List α) (i : Int) (oki : Nat → Prop) (c : List Value) : Prop :=
 (∀ k, oki k → ok k) ∧ ∃ f, (gap f d i.toNat c).R e w base (fun k => ok k ∧ ¬ oki k) v xs.zipIdx
end Kd
end Go.Proofs.YtkoeddgbhohggaaGreatDoorW.PrintWords
end
section
namespace Go.Proofs.YtkoeddgbhohggaaGreatDoorW.PrintWords
open Go.RowKit
namespace Kd
end Kd
end Go.Proofs.YtkoeddgbhohggaaGreatDoorW.PrintWords
end
section
namespace Go.Proofs.YtkoeddgbhohggaaGreatDoorW.PrintWords
open Go.RowKit
namespace Kd
structure Heap {α : Type} (d : Kd α) : Prop where
 K : ∀ {w w1 : World} {x : α} {cs : List Value}, (∀ k, k < w.heap.size → w1.heap[k]? = w.heap[k]?) → d.K w x cs → d.K w1 x cs
theorem cell_heap {w w1 : World} (hb : ∀ k, k < w.heap.size → w1.heap[k]? = w.heap[k]?) {a : Addr} {v : Value} (h : w.cell? a = some v) : w1.cell? a = some v := by
 have := hb a.block (World.block_lt_of_cell? w a h)
 simpa [World.cell?, this] using h
theorem Heap.C {α : Type} {d : Kd α} (hd : Heap d) {w w1 : World} {A : Option Addr} {n : Nat} {xs : List α} (hb : ∀ k, k < w.heap.size → w1.heap[k]? = w.heap[k]?) (h : d.C w A n xs) : d.C w1 A n xs :=
 ⟨h.1, h.2.1, fun hn => by
  obtain ⟨ad, e, hc⟩ := h.2.2 hn
  refine ⟨ad, e, fun j p hj => ?_⟩
  obtain ⟨c, hs, hr, hcell⟩ := hc j p hj
  exact ⟨c, hs, hd.K hb hr, fun i u hu => cell_heap hb (hcell i u hu)⟩⟩
end Kd
end Go.Proofs.YtkoeddgbhohggaaGreatDoorW.PrintWords
end
section
namespace Go.Proofs.YtkoeddgbhohggaaGreatDoorW.PrintWords
open Go.RowKit
def Kept (w W : World) (S : Nat → Prop) : Prop := w.heap.size ≤ W.heap.size ∧ ∀ i, i < w.heap.size → ¬ S i → W.heap[i]? = w.heap[i]?
section
variable {w W W2 : World} {S S2 S' : Nat → Prop}
theorem Kept.refl (w : World) (S : Nat → Prop) : Kept w w S := ⟨Nat.le_refl _, fun _ _ _ => rfl⟩
theorem Kept.of_below (h : Below w.heap.size w W) (S : Nat → Prop) : Kept w W S := ⟨h.size, fun i hi _ => h.block i hi⟩
theorem Kept.then_ (h : Kept w W S) (k : Kept W W2 S2) (hs : ∀ k, S2 k → S k ∨ w.heap.size ≤ k) : Kept w W2 S :=
 ⟨Nat.le_trans h.1 k.1, fun i hi hn => (k.2 i (Nat.lt_of_lt_of_le hi h.1) (fun h2 => (hs i h2).elim hn (fun h3 => by omega))).trans (h.2 i hi hn)⟩
theorem Kept.below (h : Kept w W S) (hb : Below W.heap.size W W2) : Kept w W2 S := h.then_ (Kept.of_below hb (fun _ => False)) (fun _ hk => hk.elim)
theorem Kept.alloc (h : Kept w W S) (o : Obj) : Kept w (W.alloc o) S := h.below (below_alloc (Below.refl _ _) o)
theorem Kept.drew (h : Kept w W S) : Kept w W.drew S := h
theorem Kept.drewN (h : Kept w W S) (m : Nat) : Kept w (W.drewN m) S := h
theorem Kept.setCell (h : Kept w W S) {p : Addr} (hp : S p.block ∨ w.heap.size ≤ p.block) (u : Value) : Kept w (W.setCell p u) S :=
 h.then_ (S2 := fun k => k = p.block) ⟨by simp [World.setCell], fun i _ hn => Below.heap_setCell W p u i hn⟩ (fun k hk => by rw [hk]; exact hp)
end
namespace Kd
end Kd
end Go.Proofs.YtkoeddgbhohggaaGreatDoorW.PrintWords
end
section
namespace Go.Proofs.YtkoeddgbhohggaaGreatDoorW.PrintWords
open Go.RowKit
def Foot (P : World → Prop) (W : World) (ok : Nat → Prop) : Prop := ∀ W' : World, (∀ k, ok k → k < W.heap.size → W'.heap[k]? = W.heap[k]?) → P W'
theorem heap_lt {W W1 : World} {k : Nat} (h : W1.heap[k]? = W.heap[k]?) (hlt : k < W.heap.size) : k < W1.heap.size := by
 rw [Array.getElem?_eq_getElem hlt] at h
 exact (Array.getElem?_eq_some_iff.1 h).1
namespace Foot
variable {P Q : World → Prop} {W W1 : World} {ok ok' : Nat → Prop}
theorem now (h : Foot P W ok) : P W := h W (fun _ _ _ => rfl)
theorem mono (h : Foot P W ok) (hok : ∀ k, ok k → ok' k) : Foot P W ok' := fun W' hW => h W' (fun k hk hlt => hW k (hok k hk) hlt)
theorem bound (h : Foot P W ok) : Foot P W (fun k => ok k ∧ k < W.heap.size) := fun W' hW => h W' (fun k hk hlt => hW k ⟨hk, hlt⟩ hlt)
theorem step (h : Foot P W ok) (hm : ∀ k, ok k → k < W.heap.size → W1.heap[k]? = W.heap[k]?) : Foot P W1 ok := fun W' hW => h W' (fun k hk hlt => (hW k hk (heap_lt (hm k hk hlt) hlt)).trans (hm k hk hlt))
theorem imp (h : Foot P W ok) (hi : ∀ W', P W' → Q W') : Foot Q W ok := fun W' hW => hi W' (h W' hW)
theorem old (h : Foot P W ok) (hb : Below W.heap.size W W1) : Foot P W1 (fun k => ok k ∧ k < W.heap.size) := (h.bound).step (fun k _ hlt => hb.block k hlt)
end Foot
namespace Kd
def F {α : Type} (d : Kd α) (W : World) (ok : Nat → Prop) (A : Option Addr) (n : Nat) (xs : List α) : Prop := Foot (fun W => d.C W A n xs) W ok
def FK {α : Type} (d : Kd α) (W : World) (ok : Nat → Prop) (x : α) (c : List Value) : Prop := Foot (fun W => d.K W x c) W ok
end Kd
end Go.Proofs.YtkoeddgbhohggaaGreatDoorW.PrintWords
end
section
namespace Go.Proofs.YtkoeddgbhohggaaGreatDoorW.PrintWords
open Go.RowKit
namespace Kd
end Kd
end Go.Proofs.YtkoeddgbhohggaaGreatDoorW.PrintWords
end
section
namespace Go.Proofs.YtkoeddgbhohggaaGreatDoorW.PrintWords
open Go.RowKit
namespace Kd
section
variable {α : Type} {d : Kd α} {e base n cc g : Nat} {ok ok' okp S : Nat → Prop} {w w1 W W1 : World} {A : Option Addr} {u v v1 : Value} {xs : List α} {x : α} {c : List Value}
def N {α : Type} (d : Kd α) (e : Nat) (w : World) (base : Nat) (ok : Nat → Prop) (v : Value) (xs : List α) : Prop :=
 (∀ k, v.ownBlock = some k → ok k) ∧ ∃ rows : List (List Value), rows.length = xs.length ∧ (raw d.sz).R e w base (fun k => some k = v.ownBlock) v rows ∧ ∀ (j : Nat) (x : α) (c : List Value), xs[j]? = some x → rows[j]? = some c → FK d w (fun k => ok k ∧ some k ≠ v.ownBlock) x c
end
end Kd
end Go.Proofs.YtkoeddgbhohggaaGreatDoorW.PrintWords
end
section
namespace Go.Proofs.YtkoeddgbhohggaaGreatDoorW.PrintWords
open Go.RowKit
namespace Kd
end Kd
end Go.Proofs.YtkoeddgbhohggaaGreatDoorW.PrintWords
end
section
namespace Go.Proofs.YtkoeddgbhohggaaGreatDoorW.PrintWords
open Go.RowKit
namespace Kd
end Kd
end Go.Proofs.YtkoeddgbhohggaaGreatDoorW.PrintWords
end
section
namespace Go.Proofs.YtkoeddgbhohggaaGreatDoorW.PrintWords
open Go.RowKit
end Go.Proofs.YtkoeddgbhohggaaGreatDoorW.PrintWords
end
section
namespace Go.Proofs.YtkoeddgbhohggaaGreatDoorW.PrintLast
open Go.Proofs.YtkoeddgbhohggaaGreatDoorW.PrintWords (Aside0)
def needsOf (md : Region.Mode) (o : Oper) : List Nat := (o.after.toList.filter (fun e => Region.binds md e)).map (fun e => e.on)
def clashOf (md : Region.Mode) (ops : Array Oper) (i : Nat) (oi : Oper) : List Nat := (List.range ops.size).filter fun j => !(j == i) && match ops[j]? with
 | some oj => !(oj.after.any (fun e => Region.binds md e && e.on == i) || oi.apart ops oj)
 | none => false
def rtab (md : Region.Mode) (ops : Array Oper) : Bool × List (List Nat × List Nat) := (Region.noSelect ops, (List.range ops.size).map fun i => match ops[i]? with
 | some o => (needsOf md o, clashOf md ops i o)
 | none => ([], []))
def readyAt (T : List (List Nat × List Nat)) (l : List Bool) (i : Nat) : Bool := !l.getD i true && match T[i]? with
 | some r => r.1.all (fun j => l.getD j false)
 | none => false
def readyT (T : List (List Nat × List Nat)) (l : List Bool) : List Nat := (List.range T.length).filter (readyAt T l)
section
variable {md : Region.Mode} {ops : Array Oper} {T : Bool × List (List Nat × List Nat)} {l l' li lj lk : Array Bool} {ds : List Nat} {i j k : Nat}
theorem gd (l : Array Bool) (j : Nat) (b : Bool) : l.getD j b = l.toList.getD j b := by simp [Array.getD_eq_getD_getElem?, List.getD_eq_getElem?_getD]
theorem needs_all (o : Oper) (p : Nat → Bool) : o.after.all (fun e => !Region.binds md e || p e.on) = (needsOf md o).all p := by
 unfold needsOf
 rw [← Array.all_toList]
 induction o.after.toList with
 | nil => rfl
 | cons e r ih =>
  rw [List.all_cons, ih, List.filter_cons]
  cases h : Region.binds md e <;> simp
theorem rtab_length : (rtab md ops).2.length = ops.size := by simp [rtab]
theorem rtab_some {o : Oper} (h : ops[i]? = some o) : (rtab md ops).2[i]? = some (needsOf md o, clashOf md ops i o) := by
 have hi := (Array.getElem?_eq_some_iff.1 h).1
 unfold rtab
 rw [List.getElem?_map, List.getElem?_range hi, Option.map_some, h]
theorem rtab_none (h : ops[i]? = none) : (rtab md ops).2[i]? = none := by
 have hi : ops.size ≤ i := Array.getElem?_eq_none_iff.1 h
 exact List.getElem?_eq_none (by rw [rtab_length]; exact hi)
theorem readyAt_eq : readyAt (rtab md ops).2 l.toList i = (!l.getD i true && ((ops[i]?).map (·.after.all fun e => !Region.binds md e || l.getD e.on false)).getD false) := by
 unfold readyAt
 rw [gd]
 cases h : ops[i]? with
 | none => rw [rtab_none h]; rfl
 | some o =>
  rw [rtab_some h]
  simp only [Option.map_some, Option.getD_some]
  rw [← needs_all]
  simp only [gd]
theorem ready_eq : Region.ready md ops l = readyT (rtab md ops).2 l.toList := by
 unfold Region.ready readyT
 rw [rtab_length]
 refine List.filter_congr (fun i _ => ?_)
 rw [readyAt_eq]
def upM (B : List Nat) (d : Nat) : List Nat → Nat
 | [] => 0
 | n :: r => (2 ^ n ||| (if n < d then B.getD n 0 else 0)) ||| upM B d r
def waitsOk (T : List (List Nat × List Nat)) (B : List Nat) : Bool := (List.range T.length).all fun d => match T[d]? with
 | some r => (B.getD d 0 ||| upM B d r.1) == upM B d r.1
 | none => false
theorem upM_bit {B : List Nat} {d i : Nat} : ∀ {ns : List Nat}, (upM B d ns).testBit i = true → ∃ n ∈ ns, n = i ∨ (n < d ∧ (B.getD n 0).testBit i = true)
 | [], h => by simp [upM] at h
 | n :: r, h => by
  unfold upM at h
  rw [Nat.testBit_or, Nat.testBit_or, Bool.or_eq_true, Bool.or_eq_true] at h
  rcases h with (h | h) | h
  ·rw [Nat.testBit_two_pow] at h
   exact ⟨n, List.mem_cons_self, .inl (by simpa using h)⟩
  ·by_cases hn : n < d
   ·rw [if_pos hn] at h
    exact ⟨n, List.mem_cons_self, .inr ⟨hn, h⟩⟩
   ·rw [if_neg hn] at h
    simp at h
  ·obtain ⟨m, hm, h2⟩ := upM_bit h
   exact ⟨m, List.mem_cons_of_mem _ hm, h2⟩
end
end Go.Proofs.YtkoeddgbhohggaaGreatDoorW.PrintLast
end
section
namespace Go.Proofs.YtkoeddgbhohggaaGreatDoorW.PrintLast
end Go.Proofs.YtkoeddgbhohggaaGreatDoorW.PrintLast
end
section
namespace Go.Proofs.YtkoeddgbhohggaaGreatDoorW.PrintWords
open Go.RowKit
end Go.Proofs.YtkoeddgbhohggaaGreatDoorW.PrintWords
end
section
namespace Go.Proofs.YtkoeddgbhohggaaGreatDoorW.PrintLast
def up (b : Nat → Bool) (i : Nat) : Nat → Bool := fun j => if j = i then true else b j
theorem up_self (b : Nat → Bool) (i : Nat) : up b i i = true := by simp [up]
theorem up_ne {b : Nat → Bool} {i j : Nat} (h : j ≠ i) : up b i j = b j := by simp [up, h]
def lof (n : Nat) (O : List Nat) (b : Nat → Bool) : List Bool := (List.range n).map fun j => if O.contains j then b j else true
section
variable {P : Program} {ops : Array Oper} {Q : Exit → Act → World → Prop} {md : Region.Mode} {T : Bool × List (List Nat × List Nat)} {B : List Nat} {O : List Nat} {b : Nat → Bool} {i j n : Nat}
theorem lof_length : (lof n O b).length = n := by simp [lof]
theorem lof_get {d : Bool} (hj : j < n) : (lof n O b).getD j d = if O.contains j then b j else true := by
 simp [lof, List.getD_eq_getElem?_getD, hj]
theorem lof_up (hi : O.contains i = true) : (lof n O b).set i true = lof n O (up b i) := by
 apply List.ext_getElem?
 intro j
 by_cases hj : j < n
 ·by_cases hij : i = j
  ·subst hij
   have hl : i < (lof n O b).length := by rw [lof_length]; exact hj
   rw [List.getElem?_set_self hl]
   simp only [lof, List.getElem?_map, List.getElem?_range hj, Option.map_some, hi, if_true, up_self]
  ·rw [List.getElem?_set_ne hij]
   simp only [lof, List.getElem?_map, List.getElem?_range hj, Option.map_some]
   rw [up_ne (Ne.symm hij)]
 ·rw [List.getElem?_eq_none (by simp [lof]; omega), List.getElem?_eq_none (by simp [lof]; omega)]
def StepAt (P : Program) (ops : Array Oper) (Q : Exit → Act → World → Prop) (B : List Nat) (O : List Nat) (I : (Nat → Bool) → Act → World → Prop) (i : Nat) : Prop :=
 ∀ b a w, I b a w → b i = false → (∀ j, (O.contains j && (B.getD i 0).testBit j) = true → b j = true) → (∀ d, (O.contains d && (B.getD d 0).testBit i) = true → b d = false) →
  ∃ oi, ops[i]? = some oi ∧ ∀ K : Act → World → Prop, Shut (∀ a' w', I (up b i) a' w' → K a' w') → if Region.wanted oi (yielded ops a.tmps) = true then Oper.wp P oi a w K Q else K (a.put oi.dst undef) w
def baseOk (T : List (List Nat × List Nat)) (O : List Nat) : Bool :=
 (List.range T.length).all (fun d => match T[d]? with
  | some r => (O.contains d || r.1.all fun n => !O.contains n) && r.1.all fun n => decide (n < d)
  | none => false) && O.all (fun i => decide (i < T.length)) && decide O.Nodup
theorem baseOk_row {T : List (List Nat × List Nat)} (h : baseOk T O = true) {d : Nat} {r : List Nat × List Nat} (hr : T[d]? = some r) : (O.contains d = false → ∀ n ∈ r.1, O.contains n = false) ∧ ∀ n ∈ r.1, n < d := by
 simp only [baseOk, Bool.and_eq_true] at h
 have h1 := List.all_eq_true.1 h.1.1 d (List.mem_range.2 (List.getElem?_eq_some_iff.1 hr).1)
 rw [hr] at h1
 simp only [Bool.and_eq_true, Bool.or_eq_true, List.all_eq_true, decide_eq_true_eq] at h1
 refine ⟨fun hd n hn => ?_, h1.2⟩
 rcases h1.1 with h2 | h2
 ·rw [hd] at h2; cases h2
 ·simpa using h2 n hn
theorem baseOk_lt {T : List (List Nat × List Nat)} (h : baseOk T O = true) {i : Nat} (hi : i ∈ O) : i < T.length := by
 simp only [baseOk, Bool.and_eq_true] at h
 simpa using List.all_eq_true.1 h.1.2 i hi
theorem baseOk_nodup {T : List (List Nat × List Nat)} (h : baseOk T O = true) : O.Nodup := by
 simp only [baseOk, Bool.and_eq_true] at h
 exact of_decide_eq_true h.2
def Closed (T : List (List Nat × List Nat)) (O : List Nat) (b : Nat → Bool) : Prop := ∀ d r, T[d]? = some r → O.contains d = true → b d = true → ∀ n ∈ r.1, O.contains n = true → b n = true
theorem bits_out {T : List (List Nat × List Nat)} (hw : waitsOk T B = true) (hk : baseOk T O = true) : ∀ (m d : Nat), d ≤ m → d < T.length → O.contains d = false → ∀ j, (B.getD d 0).testBit j = true → O.contains j = false := by
 intro m
 induction m with
 | zero =>
  intro d hd hl hO j hj
  have hd0 : d = 0 := by omega
  subst hd0
  have hr : T[0]? = some T[0] := List.getElem?_eq_getElem hl
  have h1 := List.all_eq_true.1 hw 0 (List.mem_range.2 hl)
  rw [hr] at h1
  simp only [beq_iff_eq] at h1
  have h2 : (upM B 0 T[0].1).testBit j = true := by rw [← h1, Nat.testBit_or, hj, Bool.true_or]
  obtain ⟨n, hn, h3⟩ := upM_bit h2
  have := (baseOk_row hk hr).2 n hn
  omega
 | succ m ih =>
  intro d hd hl hO j hj
  have hr : T[d]? = some T[d] := List.getElem?_eq_getElem hl
  have h1 := List.all_eq_true.1 hw d (List.mem_range.2 hl)
  rw [hr] at h1
  simp only [beq_iff_eq] at h1
  have h2 : (upM B d T[d].1).testBit j = true := by rw [← h1, Nat.testBit_or, hj, Bool.true_or]
  obtain ⟨n, hn, h3⟩ := upM_bit h2
  have hO2 := (baseOk_row hk hr).1 hO n hn
  rcases h3 with rfl | ⟨h4, h5⟩
  ·exact hO2
  ·exact ih n (by omega) (by omega) hO2 j h5
theorem closed_bits {T : List (List Nat × List Nat)} (hw : waitsOk T B = true) (hk : baseOk T O = true) (hc : Closed T O b) : ∀ (m d : Nat), d ≤ m → d < T.length → O.contains d = true → b d = true → ∀ j, O.contains j = true → (B.getD d 0).testBit j = true → b j = true := by
 intro m
 induction m with
 | zero =>
  intro d hd hl hO hb j hjO hj
  have hd0 : d = 0 := by omega
  subst hd0
  have hr : T[0]? = some T[0] := List.getElem?_eq_getElem hl
  have h1 := List.all_eq_true.1 hw 0 (List.mem_range.2 hl)
  rw [hr] at h1
  simp only [beq_iff_eq] at h1
  have h2 : (upM B 0 T[0].1).testBit j = true := by rw [← h1, Nat.testBit_or, hj, Bool.true_or]
  obtain ⟨n, hn, h3⟩ := upM_bit h2
  have := (baseOk_row hk hr).2 n hn
  omega
 | succ m ih =>
  intro d hd hl hO hb j hjO hj
  have hr : T[d]? = some T[d] := List.getElem?_eq_getElem hl
  have h1 := List.all_eq_true.1 hw d (List.mem_range.2 hl)
  rw [hr] at h1
  simp only [beq_iff_eq] at h1
  have h2 : (upM B d T[d].1).testBit j = true := by rw [← h1, Nat.testBit_or, hj, Bool.true_or]
  obtain ⟨n, hn, h3⟩ := upM_bit h2
  rcases h3 with rfl | ⟨h4, h5⟩
  ·exact hc d _ hr hO hb n hn hjO
  ·cases hO2 : O.contains n with
   | true => exact ih n (by omega) (by omega) hO2 (hc d _ hr hO hb n hn hO2) j hjO h5
   | false =>
    have := bits_out hw hk n n (Nat.le_refl _) (by omega) hO2 j h5
    rw [hjO] at this
    cases this
theorem up_count : ∀ {O : List Nat}, O.Nodup → i ∈ O → b i = false → (O.filter fun j => !up b i j).length + 1 = (O.filter fun j => !b j).length
 | [], _, hi, _ => by cases hi
 | x :: r, hn, hi, hb => by
  rw [List.nodup_cons] at hn
  rcases List.mem_cons.1 hi with rfl | hi
  ·have h1 : (r.filter fun j => !up b i j) = r.filter fun j => !b j := by
    refine List.filter_congr (fun j hj => ?_)
    rw [up_ne (fun e => hn.1 (by rw [← e]; exact hj))]
   rw [List.filter_cons, List.filter_cons]
   simp [up_self, hb, h1]
  ·have hxi : x ≠ i := fun e => hn.1 (e ▸ hi)
   have h1 := up_count hn.2 hi hb
   rw [List.filter_cons, List.filter_cons, up_ne hxi]
   cases hbx : b x
   ·simp only [Bool.not_false, if_true, List.length_cons]
    omega
   ·simpa using h1
theorem inv_all (hT : rtab md ops = T) (hw : waitsOk T.2 B = true) (hk : baseOk T.2 O = true) (I : (Nat → Bool) → Act → World → Prop) (hs : ∀ i ∈ O, StepAt P ops Q B O I i)
  (hend : ∀ b a w, (∀ j, O.contains j = true → b j = true) → I b a w → Q .normal a w) :
  ∀ (m : Nat) (b : Nat → Bool) (a : Act) (w : World), (O.filter fun j => !b j).length = m → Closed T.2 O b → I b a w → wpAnyLast P md ops Q (fun _ => True) [] m (lof T.2.length O b).toArray a w := by
 subst hT
 have mem_ready' : ∀ {b : Nat → Bool} {i : Nat}, i ∈ Region.ready md ops (lof (rtab md ops).2.length O b).toArray → i < (rtab md ops).2.length ∧ O.contains i = true ∧ b i = false ∧ ∀ r, (rtab md ops).2[i]? = some r → ∀ n ∈ r.1, n < (rtab md ops).2.length → O.contains n = true → b n = true := by
  intro b i hi
  rw [ready_eq] at hi
  unfold readyT at hi
  rw [List.mem_filter, List.mem_range] at hi
  obtain ⟨hl, h1⟩ := hi
  unfold readyAt at h1
  rw [Bool.and_eq_true, lof_get hl] at h1
  obtain ⟨h2, h3⟩ := h1
  have h4 : O.contains i = true := by
   cases h : O.contains i with
   | true => rfl
   | false => rw [h] at h2; simp at h2
  rw [h4] at h2
  refine ⟨hl, h4, by simpa using h2, fun r hr n hn hnl hO => ?_⟩
  rw [hr] at h3
  simp only [List.all_eq_true] at h3
  have h5 := h3 n hn
  rw [lof_get hnl, hO] at h5
  simpa using h5
 intro m
 induction m with
 | zero =>
  intro b a w hm hc hI
  have hall : ∀ j, O.contains j = true → b j = true := by
   intro j hj
   cases hb : b j with
   | true => rfl
   | false =>
    have : j ∈ O.filter fun j => !b j := List.mem_filter.2 ⟨List.contains_iff_mem.1 hj, by simp [hb]⟩
    rw [List.eq_nil_of_length_eq_zero hm] at this
    cases this
  refine ⟨?_, hend b a w hall hI⟩
  refine List.eq_nil_iff_forall_not_mem.2 (fun i hi => ?_)
  obtain ⟨_, h1, h2, _⟩ := mem_ready' hi
  rw [hall i h1] at h2
  cases h2
 | succ m ih =>
  intro b a w hm hc hI
  refine ⟨fun hr => ?_, fun i hi => ?_⟩
  ·exfalso
   have hex : ∃ i, O.contains i = true ∧ b i = false := by
    cases hf : O.filter (fun j => !b j) with
    | nil => rw [hf] at hm; simp at hm
    | cons x r =>
     have hx : x ∈ O.filter (fun j => !b j) := by rw [hf]; exact List.mem_cons_self
     rw [List.mem_filter] at hx
     exact ⟨x, List.contains_iff_mem.2 hx.1, by simpa using hx.2⟩
   have hmin : ∀ k, (∃ i, i ≤ k ∧ O.contains i = true ∧ b i = false) → ∃ i, O.contains i = true ∧ b i = false ∧ ∀ j, j < i → O.contains j = true → b j = true := by
    intro k
    induction k with
    | zero =>
     rintro ⟨i, hi, h1, h2⟩
     exact ⟨i, h1, h2, fun j hj => by omega⟩
    | succ k ihk =>
     rintro ⟨i, hi, h1, h2⟩
     by_cases hlow : ∃ j, j ≤ k ∧ O.contains j = true ∧ b j = false
     ·exact ihk hlow
     ·refine ⟨i, h1, h2, fun j hj hO => ?_⟩
      cases hb : b j with
      | true => rfl
      | false => exact absurd ⟨j, by omega, hO, hb⟩ hlow
   obtain ⟨i0, h1, h2⟩ := hex
   obtain ⟨i, hO, hb, hlow⟩ := hmin i0 ⟨i0, Nat.le_refl _, h1, h2⟩
   have hl := baseOk_lt hk (List.contains_iff_mem.1 hO)
   have hin : i ∈ Region.ready md ops (lof (rtab md ops).2.length O b).toArray := by
    rw [ready_eq]
    unfold readyT
    rw [List.mem_filter, List.mem_range]
    refine ⟨hl, ?_⟩
    unfold readyAt
    rw [lof_get hl, hO, hb]
    have hr2 : (rtab md ops).2[i]? = some (rtab md ops).2[i] := List.getElem?_eq_getElem hl
    rw [hr2]
    simp only [if_true, Bool.not_false, Bool.true_and, List.all_eq_true]
    intro n hn
    have hni := (baseOk_row hk hr2).2 n hn
    rw [lof_get (by omega)]
    cases hOn : O.contains n with
    | true => simpa using hlow n hni hOn
    | false => simp
   rw [hr] at hin
   cases hin
  ·obtain ⟨hl, hO, hb, hneed⟩ := mem_ready' hi
   have hon : ∀ j, (O.contains j && (B.getD i 0).testBit j) = true → b j = true := by
    intro j hj
    rw [Bool.and_eq_true] at hj
    have hr2 : (rtab md ops).2[i]? = some (rtab md ops).2[i] := List.getElem?_eq_getElem hl
    have h1 := List.all_eq_true.1 hw i (List.mem_range.2 hl)
    rw [hr2] at h1
    simp only [beq_iff_eq] at h1
    have h2 : (upM B i (rtab md ops).2[i].1).testBit j = true := by rw [← h1, Nat.testBit_or, hj.2, Bool.true_or]
    obtain ⟨n, hn, h3⟩ := upM_bit h2
    have hni := (baseOk_row hk hr2).2 n hn
    rcases h3 with rfl | ⟨h4, h5⟩
    ·exact hneed _ hr2 n hn (by omega) hj.1
    ·cases hO2 : O.contains n with
     | true => exact closed_bits hw hk hc n n (Nat.le_refl _) (by omega) hO2 (hneed _ hr2 n hn (by omega) hO2) j hj.1 h5
     | false =>
      have := bits_out hw hk n n (Nat.le_refl _) (by omega) hO2 j h5
      rw [hj.1] at this
      cases this
   have hoff : ∀ d, (O.contains d && (B.getD d 0).testBit i) = true → b d = false := by
    intro d hd
    rw [Bool.and_eq_true] at hd
    cases hbd : b d with
    | false => rfl
    | true =>
     have hdl := baseOk_lt hk (List.contains_iff_mem.1 hd.1)
     have := closed_bits hw hk hc d d (Nat.le_refl _) hdl hd.1 hbd i hO hd.2
     rw [hb] at this
     cases this
   obtain ⟨oi, hoi, hK⟩ := hs i (List.contains_iff_mem.1 hO) b a w hI hb hon hoff
   refine wpOp_step hoi (fun K' hK' => hK K' (fun a' w' hI' => hK' a' w' ⟨fun _ _ => trivial, ?_⟩))
   have hset : (lof (rtab md ops).2.length O b).toArray.setIfInBounds i true = (lof (rtab md ops).2.length O (up b i)).toArray := by
    apply Array.ext'
    rw [Array.toList_setIfInBounds]
    exact lof_up hO
   rw [hset]
   refine ih (up b i) a' w' ?_ ?_ hI'
   ·have := up_count (baseOk_nodup hk) (List.contains_iff_mem.1 hO) hb
    omega
   ·intro d r hr hOd hbd n hn hOn
    by_cases hni : n = i
    ·rw [hni, up_self]
    ·rw [up_ne hni]
     by_cases hdi : d = i
     ·subst hdi
      exact hneed r hr n hn (by have := (baseOk_row hk hr).2 n hn; omega) hOn
     ·rw [up_ne hdi] at hbd
      exact hc d r hr hOd hbd n hn hOn
theorem inv_ {l : Array Bool} {fuel : Nat} {a : Act} {w : World} (O : List Nat) (I : (Nat → Bool) → Act → World → Prop) (hT : rtab md ops = T) (hw : waitsOk T.2 B = true) (hk : baseOk T.2 O = true)
  (hl : (lof T.2.length O (fun _ => false) == l.toList && O.length == fuel) = true) (h0 : I (fun _ => false) a w) (hs : ∀ i ∈ O, StepAt P ops Q B O I i)
  (hend : ∀ b a w, (∀ j, O.contains j = true → b j = true) → I b a w → Q .normal a w) : wpAnyLast P md ops Q (fun _ => True) [] fuel l a w := by
 rw [Bool.and_eq_true, beq_iff_eq, beq_iff_eq] at hl
 have h1 := inv_all hT hw hk I hs hend fuel (fun _ => false) a w (by rw [← hl.2]; simp) (fun d r _ _ hb => by cases hb) h0
 have h2 : (lof T.2.length O (fun _ => false)).toArray = l := by apply Array.ext'; exact hl.1
 rw [h2] at h1
 exact h1
end
end Go.Proofs.YtkoeddgbhohggaaGreatDoorW.PrintLast
end
section
namespace Go.Proofs.YtkoeddgbhohggaaGreatDoorW.PrintWords
open Go.RowKit
end Go.Proofs.YtkoeddgbhohggaaGreatDoorW.PrintWords
namespace Go.Proofs.YtkoeddgbhohggaaGreatDoorW.PrintLast
end Go.Proofs.YtkoeddgbhohggaaGreatDoorW.PrintLast
end
section
namespace Go.Proofs.YtkoeddgbhohggaaGreatDoorW.PrintWords
open Go.RowKit
namespace Kd
section
variable {α : Type} {d : Kd α} {e base g o n cap : Nat} {ok okp : Nat → Prop} {w W : World} {v : Value} {xs : List α}
theorem Q_form (h : d.Q e w base ok v xs) (hp : 0 < xs.length) : ∃ g o cap, v = .slice (some ⟨g, o, none⟩) xs.length cap ∧ base ≤ g ∧ g < w.heap.size ∧ ∃ cells, w.heap[g]? = some (.cells cells e (0, 0)) := by
 obtain ⟨h0, inner, hq, hr⟩ := h
 rcases hq.2 with ⟨h1, _⟩ | ⟨g, off, cap, cur, rfl, hb, hh, r⟩
 ·omega
 ·exact ⟨g, off * d.sz, cap, rfl, hb, blk_lt hh, cur, hh⟩
theorem Q_elem (h : d.Q e W base ok (.slice (some ⟨g, o, none⟩) n cap) xs) (z : α) (i : Int) (h0 : 0 ≤ i) (h1 : i < n) :
  ∃ c, c.length = d.sz ∧ d.M W base (fun k => ok k ∧ k ≠ g) (xs.getD i.toNat z) c ∧ (∀ j u, c[j]? = some u → W.cell? ⟨g, o + i.toNat * d.sz + j, none⟩ = some u) ∧ ∀ j, W.frozen? ⟨g, o + i.toNat * d.sz + j, none⟩ = false := by
 obtain ⟨hn, hnc, hC⟩ := Q_reads' h
 obtain ⟨_, inner, ho, hr⟩ := h
 have hil : i.toNat < xs.length := by omega
 have hseg : i.toNat * d.sz + d.sz ≤ inner.length := by rw [hr.1, ← Nat.succ_mul]; exact Nat.mul_le_mul_right _ hil
 have hM := hr.2 i.toNat _ (List.getElem?_eq_getElem hil)
 refine ⟨(inner.drop (i.toNat * d.sz)).take d.sz, by rw [List.length_take, List.length_drop]; omega, ?_, fun j u hu => ?_, fun j => ?_⟩
 ·rw [List.getD_eq_getElem?_getD, List.getElem?_eq_getElem hil]
  exact d.M_mono (fun k hk => ⟨hk.1, fun he => hk.2 (by rw [he]; simp [Value.ownBlock])⟩) hM
 ·rw [List.getElem?_take] at hu
  split at hu
  ·rw [List.getElem?_drop] at hu
   subst hn
   obtain ⟨ad, he, hc⟩ := q_cells ho (by omega)
   injection he with he
   subst he
   have := hc _ u hu
   rwa [add_at, ← Nat.add_assoc] at this
  ·cases hu
 ·obtain ⟨_, cells, hc⟩ := q_typed ho g (by simp [Value.ownBlock])
  exact blk_frozen hc _
theorem Q_seg (h : d.Q e W base ok (.slice (some ⟨g, o, none⟩) n cap) xs) (i : Int) (h0 : 0 ≤ i) (h1 : i < n) {c seg : List Value} {j : Nat} (hcl : c.length = d.sz) (hcc : ∀ j u, c[j]? = some u → W.cell? ⟨g, o + i.toNat * d.sz + j, none⟩ = some u)
  (hj : j + seg.length ≤ d.sz) {x' : α} (hM : d.M W base okp x' (c.take j ++ seg ++ c.drop (j + seg.length))) (hokp : ∀ k, okp k → ok k ∧ k ≠ g) :
  d.Q e (W.setCells g (o + i.toNat * d.sz + j) seg) base ok (.slice (some ⟨g, o, none⟩) n cap) (xs.set i.toNat x') ∧ W.grownBy (W.setCells g (o + i.toNat * d.sz + j) seg) (some g) := by
 obtain ⟨hn, hnc, _⟩ := Q_reads' h
 obtain ⟨hok, inner, ho, hr⟩ := h
 have hil : i.toNat < xs.length := by omega
 have hseg : i.toNat * d.sz + d.sz ≤ inner.length := by rw [hr.1, ← Nat.succ_mul]; exact Nat.mul_le_mul_right _ hil
 have hin : inner.length = n * d.sz := by rw [hr.1, hn]
 obtain ⟨ho1, ho2⟩ := ho
 rcases ho2 with ⟨hz, _⟩ | ⟨g', off, cap', cur, hv, hb, hh, hnc', hcm, hcs, ht⟩
 ·omega
 injection hv with ha _ hc
 injection ha with ha
 injection ha with hg hoff
 subst hg; subst hc; subst hoff
 have hcap : n * d.sz ≤ cap * d.sz := Nat.mul_le_mul_right _ hnc
 have hcs' : cur.size = off * d.sz + cap * d.sz := by rw [hcs, Nat.add_mul]
 have hfit : off * d.sz + i.toNat * d.sz + j + seg.length ≤ cur.size := by omega
 obtain ⟨cur', h3, h4, h5⟩ := setCells_row seg (off * d.sz + i.toNat * d.sz + j) W cur hh hfit
 obtain ⟨s1, s2, s3, s4⟩ := setCells_same g seg (off * d.sz + i.toNat * d.sz + j) W
 have hfar : ∀ k, k ≠ g → (W.setCells g (off * d.sz + i.toNat * d.sz + j) seg).heap[k]? = W.heap[k]? := fun k hk => setCells_far seg _ k hk
 rw [← hn] at ht
 have hat : ∀ q, q < n * d.sz → cur.toList[off * d.sz + q]? = inner[q]? := by
  intro q hq
  rw [← ht, List.getElem?_take, if_pos hq, List.getElem?_drop]
 have hcin : ∀ q, q < d.sz → c[q]? = inner[i.toNat * d.sz + q]? := by
  intro q hq
  have hq' : q < c.length := by omega
  have h6 := hcc q _ (List.getElem?_eq_getElem hq')
  rw [cell_of_row W g _ cur e (0, 0) hh] at h6
  rw [List.getElem?_eq_getElem hq', ← h6, ← hat _ (by omega), Array.getElem?_toList, Nat.add_assoc]
 refine ⟨⟨hok, inner.take (i.toNat * d.sz + j) ++ seg ++ inner.drop (i.toNat * d.sz + j + seg.length), ⟨?_, .inr ⟨g, off, cap, cur', by rw [List.length_set, hn], hb, h3, by rw [List.length_set, ← hn]; exact hnc, hcm, by rw [h4, hcs], ?_⟩⟩, ?_⟩,
  ⟨s1, s2, s3, by rw [s4]; exact Nat.le_refl _, fun k _ hk => hfar k (fun he => hk (by rw [he]))⟩⟩
 ·rw [List.length_set]
  simp only [List.length_append, List.length_take, List.length_drop]
  rw [hr.1] at hseg ⊢
  omega
 ·rw [List.length_set, ← hn]
  apply List.ext_getElem?
  intro q
  rw [List.getElem?_take, List.getElem?_drop, h5]
  rw [seg_get cur.toList seg (off * d.sz + i.toNat * d.sz + j) (by rw [Array.length_toList]; omega) (off * d.sz + q), seg_get inner seg (i.toNat * d.sz + j) (by omega) q]
  by_cases hq : q < n * d.sz
  ·rw [if_pos hq]
   by_cases hq1 : q < i.toNat * d.sz + j
   ·rw [if_pos (by omega), if_pos hq1, hat q hq]
   ·rw [if_neg (by omega), if_neg hq1]
    by_cases hq2 : q < i.toNat * d.sz + j + seg.length
    ·rw [if_pos (by omega), if_pos hq2]
     congr 1
     omega
    ·rw [if_neg (by omega), if_neg hq2, hat q hq]
  ·rw [if_neg hq, if_neg (by omega), if_neg (by omega), List.getElem?_eq_none (by omega)]
 ·refine ⟨?_, fun m p hm => ?_⟩
  ·rw [List.length_set]
   simp only [List.length_append, List.length_take, List.length_drop]
   rw [hr.1] at hseg ⊢
   omega
  ·have hml : m < xs.length := by
    have := (List.getElem?_eq_some_iff.1 hm).1
    rwa [List.length_set] at this
   have hmfit : m * d.sz + d.sz ≤ inner.length := by rw [hr.1, ← Nat.succ_mul]; exact Nat.mul_le_mul_right _ hml
   have hgo : some g = (Value.slice (some ⟨g, off * d.sz, none⟩) n cap).ownBlock := by simp [Value.ownBlock]
   by_cases hmi : m = i.toNat
   ·subst hmi
    rw [List.getElem?_set_self (by omega)] at hm
    injection hm with hm
    subst hm
    have hcells : ((inner.take (i.toNat * d.sz + j) ++ seg ++ inner.drop (i.toNat * d.sz + j + seg.length)).drop (i.toNat * d.sz)).take d.sz = c.take j ++ seg ++ c.drop (j + seg.length) := by
     apply List.ext_getElem?
     intro q
     rw [List.getElem?_take, List.getElem?_drop, seg_get inner seg _ (by omega), seg_get c seg j (by omega) q]
     by_cases hq : q < d.sz
     ·rw [if_pos hq, hcin q hq]
      by_cases hq1 : q < j
      ·rw [if_pos (by omega), if_pos hq1]
      ·rw [if_neg (by omega), if_neg hq1]
       by_cases hq2 : q < j + seg.length
       ·rw [if_pos (by omega), if_pos hq2]
        congr 1
        omega
       ·rw [if_neg (by omega), if_neg hq2]
     ·rw [if_neg hq, if_neg (by omega), if_neg (by omega), List.getElem?_eq_none (by omega)]
    rw [hcells]
    refine d.M_mono (fun k hk => ?_) (d.M_move (w1 := W.setCells g (off * d.sz + i.toNat * d.sz + j) seg) (fun k hk => hfar k (hokp k hk).2) hM)
    exact ⟨(hokp k hk).1, fun he => (hokp k hk).2 (by rw [← hgo] at he; injection he)⟩
   ·rw [List.getElem?_set_ne (by omega)] at hm
    have hold := hr.2 m p hm
    have hcells : ((inner.take (i.toNat * d.sz + j) ++ seg ++ inner.drop (i.toNat * d.sz + j + seg.length)).drop (m * d.sz)).take d.sz = (inner.drop (m * d.sz)).take d.sz := by
     apply List.ext_getElem?
     intro q
     rw [List.getElem?_take, List.getElem?_take, List.getElem?_drop, List.getElem?_drop, seg_get inner seg _ (by omega)]
     by_cases hq : q < d.sz
     ·rw [if_pos hq, if_pos hq]
      rcases Nat.lt_or_gt_of_ne hmi with hlt | hgt
      ·have : m * d.sz + d.sz ≤ i.toNat * d.sz := by rw [← Nat.succ_mul]; exact Nat.mul_le_mul_right _ hlt
       rw [if_pos (by omega)]
      ·have : i.toNat * d.sz + d.sz ≤ m * d.sz := by rw [← Nat.succ_mul]; exact Nat.mul_le_mul_right _ hgt
       rw [if_neg (by omega), if_neg (by omega)]
     ·rw [if_neg hq, if_neg hq]
    rw [hcells]
    refine d.M_move (fun k hk => hfar k (fun he => hk.2 (by rw [he]; exact hgo))) hold
end
section
variable {α : Type} {enc : α → Value} {h1 : ∀ x, (enc x).oneCell' = true} {e base g o n cap : Nat} {ok : Nat → Prop} {W : World} {xs : List α}
theorem Q_cell (d : α) (h : (scalar enc h1).Q e W base ok (.slice (some ⟨g, o, none⟩) n cap) xs) (i : Int) (h0 : 0 ≤ i) (hi : i < n) : W.cell? ⟨g, o + i.toNat, none⟩ = some (enc (rdOf d xs i)) ∧ W.frozen? ⟨g, o + i.toNat, none⟩ = false := by
 obtain ⟨c, _, hM, hcc, hf⟩ := Q_elem h d i h0 hi
 have hM' : c = [enc (xs.getD i.toNat d)] := hM
 subst hM'
 have h2 := hcc 0 _ rfl
 have h3 := hf 0
 rw [show (scalar enc h1).sz = 1 from rfl, Nat.mul_one, Nat.add_zero] at h2 h3
 exact ⟨h2, h3⟩
theorem Q_putg (h : (scalar enc h1).Q e W base ok (.slice (some ⟨g, o, none⟩) n cap) xs) (i : Int) (h0 : 0 ≤ i) (hi : i < n) (x : α) : (scalar enc h1).Q e (W.setCell ⟨g, o + i.toNat, none⟩ (enc x)) base ok (.slice (some ⟨g, o, none⟩) n cap) (xs.set i.toNat x) ∧ W.grownBy (W.setCell ⟨g, o + i.toNat, none⟩ (enc x)) (some g) := by
 have hp : 0 < xs.length := by have := (Q_reads' h).1; omega
 obtain ⟨c, hcl, _, hcc, _⟩ := Q_elem h (xs[0]'hp) i h0 hi
 have h2 := Q_seg h i h0 hi (c := c) (seg := [enc x]) (j := 0) (okp := fun _ => False) (x' := x) hcl hcc (Nat.le_refl 1) (by
  have hl : c.length = 1 := hcl
  show c.take 0 ++ [enc x] ++ c.drop (0 + 1) = [enc x]
  rw [List.drop_eq_nil_of_le (by omega)]
  rfl) (fun _ hk => hk.elim)
 rw [show (scalar enc h1).sz = 1 from rfl, Nat.mul_one, Nat.add_zero] at h2
 exact h2
end
end Kd
end Go.Proofs.YtkoeddgbhohggaaGreatDoorW.PrintWords
end
section
namespace Go.Proofs.YtkoeddgbhohggaaGreatDoorW.PrintWords
open Go.RowKit
namespace Kd
end Kd
end Go.Proofs.YtkoeddgbhohggaaGreatDoorW.PrintWords
end
section
namespace Go.Proofs.YtkoeddgbhohggaaGreatDoorW.PrintMore
open Go.RowKit Go.Proofs.YtkoeddgbhohggaaGreatDoorW.PrintWords
namespace Kd
open Go.Proofs.YtkoeddgbhohggaaGreatDoorW.PrintWords.Kd
end Kd
namespace Kd
open Go.Proofs.YtkoeddgbhohggaaGreatDoorW.PrintWords.Kd
end Kd
end Go.Proofs.YtkoeddgbhohggaaGreatDoorW.PrintMore
namespace Go.Proofs.YtkoeddgbhohggaaGreatDoorW.PrintWords
open Go.RowKit
def mx (a b : Int) : Int := if a < b then b else a
def shl (k : IntKind) (x y : Int) : Int := k.wrap (x * 2 ^ min y.toNat k.bits)
def shr (k : IntKind) (x y : Int) : Int := x / 2 ^ min y.toNat k.bits
namespace Kd
end Kd
end Go.Proofs.YtkoeddgbhohggaaGreatDoorW.PrintWords
namespace Go.Proofs.YtkoeddgbhohggaaGreatDoorW.PrintWords
open Go.RowKit
namespace Kd
def V {α : Type} (d : Kd α) (_e : Nat) (W : World) (_base : Nat) (ok : Nat → Prop) (v : Value) (xs : List α) : Prop := ∃ A c, v = .slice A xs.length c ∧ xs.length ≤ c ∧ F d W ok A xs.length xs
end Kd
end Go.Proofs.YtkoeddgbhohggaaGreatDoorW.PrintWords
end
section
namespace Go.Proofs.YtkoeddgbhohggaaGreatDoorW.PrintWords
theorem Reps.one {α : Type} {R : α → List Value → Prop} {ps : List α} {cs : List Value} {p : α} {v : Value} (hp : R p [v]) (h : Reps R 1 ps cs) : Reps R 1 (p :: ps) (v :: cs) := by
 refine ⟨by simp [h.1], fun j q hq => ?_⟩
 cases j with
 | zero =>
  simp only [List.getElem?_cons_zero, Option.some.injEq] at hq
  subst hq
  simpa using hp
 | succ j =>
  simp only [List.getElem?_cons_succ] at hq
  have h1 := h.2 j q hq
  simpa [Nat.mul_one] using h1
theorem Reps.front {α : Type} {R : α → List Value → Prop} {size : Nat} {ps : List α} {cs c all : List Value} {p : α} (hp : R p c) (hc : c.length = size) (h : Reps R size ps cs) (ha : c ++ cs = all) : Reps R size (p :: ps) all := by
 subst ha
 refine ⟨by rw [List.length_append, hc, h.1, List.length_cons, Nat.succ_mul, Nat.add_comm], fun j q hq => ?_⟩
 cases j with
 | zero =>
  simp only [List.getElem?_cons_zero, Option.some.injEq] at hq
  subst hq
  rw [Nat.zero_mul, List.drop_zero, List.take_append_of_le_length (by omega), List.take_of_length_le (by omega)]
  exact hp
 | succ j =>
  simp only [List.getElem?_cons_succ] at hq
  have h1 := h.2 j q hq
  rw [Nat.succ_mul, List.drop_append, List.drop_of_length_le (by rw [hc]; exact Nat.le_add_left _ _), List.nil_append, hc, Nat.add_sub_cancel]
  exact h1
end Go.Proofs.YtkoeddgbhohggaaGreatDoorW.PrintWords
end
section
namespace Go.Proofs.YtkoeddgbhohggaaGreatDoorW.PrintWords
open Go.ChangeShapes Go.WideShapes
end Go.Proofs.YtkoeddgbhohggaaGreatDoorW.PrintWords
end
section
namespace Go.Proofs.YtkoeddgbhohggaaGreatDoor.E
open Go.RowKit Go.Proofs.YtkoeddgbhohggaaGreatDoorW.PrintWords Go.Proofs.YtkoeddgbhohggaaGreatDoorW.PrintLast
set_option linter.unusedVariables false
set_option linter.unusedSimpArgs false
noncomputable def still {α : Type _} (a : α) : {x : α // x = a} := Classical.choice ⟨⟨a, rfl⟩⟩
def pairN (a b : Nat) : Nat := 2 ^ a * (2 * b + 1)
theorem pairN_inj : ∀ {a c b d : Nat}, pairN a b = pairN c d → a = c ∧ b = d
 | 0, 0, b, d, h => by unfold pairN at h; rw [Nat.pow_zero, Nat.one_mul, Nat.one_mul] at h; exact ⟨rfl, by omega⟩
 | 0, c + 1, b, d, h => by
  unfold pairN at h
  rw [Nat.pow_succ, Nat.mul_comm (2 ^ c) 2, Nat.mul_assoc] at h
  simp at h; omega
 | a + 1, 0, b, d, h => by
  unfold pairN at h
  rw [Nat.pow_succ, Nat.mul_comm (2 ^ a) 2, Nat.mul_assoc] at h
  simp at h; omega
 | a + 1, c + 1, b, d, h => by
  unfold pairN at h
  rw [Nat.pow_succ, Nat.mul_comm (2 ^ a) 2, Nat.mul_assoc, Nat.pow_succ, Nat.mul_comm (2 ^ c) 2, Nat.mul_assoc] at h
  have h2 : pairN a b = pairN c d := by unfold pairN; omega
  obtain ⟨h3, h4⟩ := pairN_inj h2
  exact ⟨by omega, h4⟩
theorem pairN_pos (a b : Nat) : 0 < pairN a b := Nat.mul_pos (Nat.pow_pos (by decide)) (by omega)
def zzN (i : Int) : Nat := if i < 0 then 2 * (-i).toNat - 1 else 2 * i.toNat
theorem zzN_inj {i j : Int} (h : zzN i = zzN j) : i = j := by unfold zzN at h; split at h <;> split at h <;> omega
def listN : List Int → Nat
 | [] => 0
 | x :: l => pairN (zzN x) (listN l)
theorem listN_inj : ∀ {l l' : List Int}, listN l = listN l' → l = l'
 | [], [], _ => rfl
 | [], x :: l, h => by have := pairN_pos (zzN x) (listN l); simp only [listN] at h; omega
 | x :: l, [], h => by have := pairN_pos (zzN x) (listN l); simp only [listN] at h; omega
 | x :: l, y :: l', h => by
  simp only [listN] at h
  obtain ⟨h1, h2⟩ := pairN_inj h
  rw [zzN_inj h1, listN_inj h2]
structure Cod (α : Type) where
 cd : α → Int
 dc : Int → α
 eq : ∀ x, dc (cd x) = x
theorem code_ex {α : Type} [Inhabited α] (f : α → Nat) (hf : ∀ x y, f x = f y → x = y) : Nonempty (Cod α) := by
 classical
 exact ⟨⟨fun x => (f x : Int), fun n => if h : ∃ x, (f x : Int) = n then Classical.choose h else default, fun x => by
  have h : ∃ y, (f y : Int) = (f x : Int) := ⟨x, rfl⟩
  show (if h : ∃ y, (f y : Int) = (f x : Int) then Classical.choose h else default) = x
  rw [dif_pos h]
  exact hf _ _ (by have := Classical.choose_spec h; omega)⟩⟩
noncomputable def cRow : Cod (List Int) := Classical.choice (code_ex listN fun _ _ h => listN_inj h)
noncomputable def cTxt : Cod ByteArray := Classical.choice (code_ex (fun s => listN (s.data.toList.map fun u => (u.toNat : Int))) fun x y h => by
 have h1 := listN_inj h
 have h2 : x.data.toList = y.data.toList := List.map_inj_right (f := fun u : UInt8 => (u.toNat : Int)) (fun a b h => by
  have : a.toNat = b.toNat := Int.ofNat.inj h
  exact UInt8.toNat_inj.1 this) |>.1 h1
 cases x; cases y
 simpa using h2)
noncomputable def cBig : Cod (Bool × List Int) := Classical.choice (code_ex (fun x => pairN x.1.toNat (listN x.2)) fun x y h => by
 obtain ⟨h1, h2⟩ := pairN_inj h
 obtain ⟨a, b⟩ := x
 obtain ⟨c, d⟩ := y
 simp only at h1 h2
 rw [listN_inj h2]
 cases a <;> cases c <;> simp_all)
noncomputable def cdR : List Int → Int := cRow.cd
noncomputable def dcR : Int → List Int := cRow.dc
theorem dcR_eq (x : List Int) : dcR (cdR x) = x := cRow.eq x
noncomputable def cdT : ByteArray → Int := cTxt.cd
noncomputable def dcT : Int → ByteArray := cTxt.dc
theorem dcT_eq (x : ByteArray) : dcT (cdT x) = x := cTxt.eq x
noncomputable def cdB : (Bool × List Int) → Int := cBig.cd
noncomputable def dcB : Int → (Bool × List Int) := cBig.dc
theorem dcB_eq (x : (Bool × List Int)) : dcB (cdB x) = x := cBig.eq x
inductive EK where
 | num (k : IntKind)
 | txt
 | row (k : IntKind)
 | big
 | bigN
 | map (a b : IntKind)
def EK.beq : EK → EK → Bool
 | .num a, .num b => decide (a = b)
 | .txt, .txt => true
 | .row a, .row b => decide (a = b)
 | .big, .big => true
 | .bigN, .bigN => true
 | .map a b, .map c d => decide (a = c) && decide (b = d)
 | _, _ => false
theorem EK.beq_iff {a b : EK} : EK.beq a b = true ↔ a = b := by cases a <;> cases b <;> simp [EK.beq]
instance : DecidableEq EK := fun a b => decidable_of_iff (EK.beq a b = true) EK.beq_iff
def EK.z : EK → Nat
 | .big => 2
 | .bigN => 2
 | _ => 1
def EK.isMap : EK → Bool
 | .map _ _ => true
 | _ => false
def EK.nn : EK → Bool
 | .bigN => true
 | _ => false
inductive AV where
 | lit (v : Value)
 | bp (p : Prop) (i : Decidable p)
 | bn (p : Prop) (i : Decidable p)
 | row (k : IntKind) (l : List Int)
 | agg (l : List AV)
 | tup (l : List AV)
 | fp (ty : TypeId) (l : List AV)
 | fc (a : AV)
 | ptr (id off : Nat)
 | sli (id : Nat)
 | el (id : Nat) (i : Int)
 | clo (f : FuncId) (l : List AV)
 | any
 | rows (k : EK) (l : List Int)
 | fcs (l : List AV)
 | mp (id : Nat)
inductive Blk where
 | dead
 | ints (k : EK) (e : TypeId) (l : List Int)
 | cells (ty : TypeId) (l : List AV)
def look {α : Type} (n : Nat) : List (Nat × α) → Option α
 | [] => none
 | (m, x) :: r => match Nat.beq n m with
  | true => some x
  | false => look n r
def RowAt (W : World) (k : IntKind) (l : List Int) (u : Value) : Prop :=
 ∃ A c, u = .slice A l.length c ∧ l.length ≤ c ∧ (0 < l.length → ∃ a, A = some a ∧ ∀ i, i < l.length → W.cell? (a.add i) = some (.int k (l.getD i 0)))
def ElAt (W : World) : EK → Int → List Value → Prop
 | .num k, n, us => us = [.int k n]
 | .txt, n, us => us = [.string (dcT n)]
 | .row k, n, us => ∃ u, us = [u] ∧ RowAt W k (dcR n) u
 | .big, n, us => ∃ u, us = [.bool (dcB n).1, u] ∧ RowAt W .u64 (dcB n).2 u
 | .bigN, n, us => ∃ u, us = [.bool (dcB n).1, u] ∧ RowAt W .u64 (dcB n).2 u
 | .map _ _, _, _ => False
def ElsAt (W : World) (k : EK) : List Int → List Value → Prop
 | [], us => us = []
 | n :: l, us => ∃ x y, us = x ++ y ∧ ElAt W k n x ∧ ElsAt W k l y
def RowsAt (W : World) (k : EK) (l : List Int) (u : Value) : Prop :=
 ∃ A c us, u = .slice A l.length c ∧ l.length ≤ c ∧ ElsAt W k l us ∧ (0 < l.length → ∃ a, A = some a ∧ ∀ (j : Nat) (v : Value), us[j]? = some v → W.cell? (a.add j) = some v)
noncomputable def EK.avs : EK → Int → List AV
 | .num k, n => [.lit (.int k n)]
 | .txt, n => [.lit (.string (dcT n))]
 | .row k, n => [.row k (dcR n)]
 | .big, n => [.lit (.bool (dcB n).1), .row .u64 (dcB n).2]
 | .bigN, n => [.lit (.bool (dcB n).1), .row .u64 (dcB n).2]
 | .map _ _, _ => []
def EntsAt (a b : IntKind) : List Int → List MapEntry → Prop
 | k :: v :: l, e :: es => e.key = .int a k ∧ e.val = .int b v ∧ EntsAt a b l es
 | [], [] => True
 | _, _ => False
structure En where
 ρ : Nat → Nat
 γ : Nat → Nat
 ν : Nat → Bool
mutual
def Den (E : En) (B : Nat → Option Blk) (W : World) : AV → Value → Prop
 | .lit v, u => u = v
 | .bp p i, u => u = .bool (@decide p i)
 | .bn p i, u => u = .bool (!(@decide p i))
 | .row k l, u => RowAt W k l u
 | .agg as, u => ∃ us, u = .agg us.toArray ∧ DenL E B W as us
 | .tup as, u => ∃ us, u = .tuple us.toArray ∧ DenL E B W as us
 | .fp ty as, u => ∃ g us, u = .pointer (some ⟨g, 0, none⟩) ∧ W.heap[g]? = some (.cells us.toArray ty (0, 0)) ∧ DenL E B W as us
 | .fc a, u => ∃ p x, u = .pointer (some p) ∧ W.cell? p = some x ∧ Den E B W a x
 | .ptr id off, u => (B id).isSome = true ∧ u = .pointer (some ⟨E.ρ id, off, none⟩)
 | .sli id, u => (B id).isSome = true ∧ (∃ A n c, u = .slice A n c) ∧ ∀ k e l, B id = some (.ints k e l) → u = if E.ν id = true then .slice none 0 0 else .slice (some ⟨E.ρ id, 0, none⟩) l.length (E.γ id)
 | .el id i, u => (B id).isSome = true ∧ (∃ p, u = .pointer p) ∧ ∀ k e l, B id = some (.ints k e l) → u = .pointer (some ⟨E.ρ id, i.toNat * k.z, none⟩) ∧ 0 ≤ i ∧ i < l.length
 | .clo f as, u => ∃ us, u = .func (.func f) #[] us.toArray ∧ DenL E B W as us
 | .any, _ => True
 | .rows k l, u => RowsAt W k l u
 | .fcs as, u => ∃ p us, u = .pointer (some p) ∧ (∀ (j : Nat) (v : Value), us[j]? = some v → W.cell? (p.add j) = some v) ∧ DenL E B W as us
 | .mp id, u => (B id).isSome = true ∧ ∀ k e l, B id = some (.ints k e l) → u = .map (some (E.ρ id))
def DenL (E : En) (B : Nat → Option Blk) (W : World) : List AV → List Value → Prop
 | [], us => us = []
 | a :: as, us => ∃ u us', us = u :: us' ∧ Den E B W a u ∧ DenL E B W as us'
end
def BLe (B B' : Nat → Option Blk) : Prop := ∀ id, (B id).isSome = true → (B' id).isSome = true ∧ ∀ k' e' l', B' id = some (.ints k' e' l') → ∃ e l, B id = some (.ints k' e l) ∧ l.length = l'.length
theorem BLe.refl (B : Nat → Option Blk) : BLe B B := fun _ h => ⟨h, fun _ _ l h => ⟨_, l, h, rfl⟩⟩
section
variable {E E' : En} {B B' : Nat → Option Blk} {W : World}
mutual
theorem den_B (hB : BLe B B') (hr : ∀ id, (B id).isSome = true → E'.ρ id = E.ρ id ∧ E'.γ id = E.γ id ∧ E'.ν id = E.ν id) : ∀ (a : AV) (v : Value), Den E B W a v → Den E' B' W a v
 | .lit v, u, h => by unfold Den at h ⊢; exact h
 | .bp p i, u, h => by unfold Den at h ⊢; exact h
 | .bn p i, u, h => by unfold Den at h ⊢; exact h
 | .row k l, u, h => by unfold Den at h ⊢; exact h
 | .agg as, u, h => by
  unfold Den at h ⊢
  obtain ⟨us, h1, h2⟩ := h
  exact ⟨us, h1, denL_B hB hr as us h2⟩
 | .tup as, u, h => by
  unfold Den at h ⊢
  obtain ⟨us, h1, h2⟩ := h
  exact ⟨us, h1, denL_B hB hr as us h2⟩
 | .fp ty as, u, h => by
  unfold Den at h ⊢
  obtain ⟨g, us, h1, h2, h3⟩ := h
  exact ⟨g, us, h1, h2, denL_B hB hr as us h3⟩
 | .fc a, u, h => by
  unfold Den at h ⊢
  obtain ⟨p, x, h1, h2, h3⟩ := h
  exact ⟨p, x, h1, h2, den_B hB hr a x h3⟩
 | .ptr id off, u, h => by
  unfold Den at h ⊢
  refine ⟨(hB id h.1).1, ?_⟩
  rw [(hr id h.1).1]
  exact h.2
 | .sli id, u, h => by
  unfold Den at h ⊢
  refine ⟨(hB id h.1).1, h.2.1, fun k e l hl => ?_⟩
  obtain ⟨e0, l0, h0, hl0⟩ := (hB id h.1).2 k e l hl
  rw [(hr id h.1).1, (hr id h.1).2.1, (hr id h.1).2.2, ← hl0]
  exact h.2.2 k e0 l0 h0
 | .el id i, u, h => by
  unfold Den at h ⊢
  refine ⟨(hB id h.1).1, h.2.1, fun k e l hl => ?_⟩
  obtain ⟨e0, l0, h0, hl0⟩ := (hB id h.1).2 k e l hl
  rw [(hr id h.1).1, ← hl0]
  exact h.2.2 k e0 l0 h0
 | .clo f as, u, h => by
  unfold Den at h ⊢
  obtain ⟨us, h1, h2⟩ := h
  exact ⟨us, h1, denL_B hB hr as us h2⟩
 | .any, u, h => by unfold Den; trivial
 | .rows k l, u, h => by unfold Den at h ⊢; exact h
 | .fcs as, u, h => by
  unfold Den at h ⊢
  obtain ⟨p, us, h1, h2, h3⟩ := h
  exact ⟨p, us, h1, h2, denL_B hB hr as us h3⟩
 | .mp id, u, h => by
  unfold Den at h ⊢
  refine ⟨(hB id h.1).1, fun k e l hl => ?_⟩
  obtain ⟨e0, l0, h0, hl0⟩ := (hB id h.1).2 k e l hl
  rw [(hr id h.1).1]
  exact h.2 k e0 l0 h0
theorem denL_B (hB : BLe B B') (hr : ∀ id, (B id).isSome = true → E'.ρ id = E.ρ id ∧ E'.γ id = E.γ id ∧ E'.ν id = E.ν id) : ∀ (as : List AV) (us : List Value), DenL E B W as us → DenL E' B' W as us
 | [], us, h => by unfold DenL at h ⊢; exact h
 | a :: as, us, h => by
  unfold DenL at h ⊢
  obtain ⟨u, us', h1, h2, h3⟩ := h
  exact ⟨u, us', h1, den_B hB hr a u h2, denL_B hB hr as us' h3⟩
end
end
def Held (E : En) (B : Nat → Option Blk) (w : World) (nb : Nat → Prop) (a : AV) (v : Value) : Prop :=
 ∀ W' : World, (∀ k, nb k → k < w.heap.size → W'.heap[k]? = w.heap[k]?) → Den E B W' a v
def HeldL (E : En) (B : Nat → Option Blk) (w : World) (nb : Nat → Prop) (as : List AV) (us : List Value) : Prop :=
 ∀ W' : World, (∀ k, nb k → k < w.heap.size → W'.heap[k]? = w.heap[k]?) → DenL E B W' as us
def HeldEls (w : World) (nb : Nat → Prop) (k : EK) (l : List Int) (us : List Value) : Prop :=
 ∀ W' : World, (∀ k, nb k → k < w.heap.size → W'.heap[k]? = w.heap[k]?) → ElsAt W' k l us
section
variable {E E' : En} {B B' : Nat → Option Blk} {w w' : World} {nb nb' : Nat → Prop} {a : AV} {as : List AV} {v u : Value} {us : List Value}
theorem HeldEls.now {k : EK} {l : List Int} (h : HeldEls w nb k l us) : ElsAt w k l us := h w fun _ _ _ => rfl
theorem HeldEls.move {k : EK} {l : List Int} (h : HeldEls w nb k l us) (hsz : w.heap.size ≤ w'.heap.size) (hm : ∀ k, nb k → k < w.heap.size → w'.heap[k]? = w.heap[k]? ∧ nb' k) : HeldEls w' nb' k l us :=
 fun W' hW => h W' fun k hk hl => (hW k (hm k hk hl).2 (Nat.lt_of_lt_of_le hl hsz)).trans (hm k hk hl).1
theorem Held.now (h : Held E B w nb a v) : Den E B w a v := h w fun _ _ _ => rfl
theorem HeldL.now (h : HeldL E B w nb as us) : DenL E B w as us := h w fun _ _ _ => rfl
theorem Held.move (h : Held E B w nb a v) (hsz : w.heap.size ≤ w'.heap.size) (hm : ∀ k, nb k → k < w.heap.size → w'.heap[k]? = w.heap[k]? ∧ nb' k) : Held E B w' nb' a v :=
 fun W' hW => h W' fun k hk hl => (hW k (hm k hk hl).2 (Nat.lt_of_lt_of_le hl hsz)).trans (hm k hk hl).1
theorem HeldL.move (h : HeldL E B w nb as us) (hsz : w.heap.size ≤ w'.heap.size) (hm : ∀ k, nb k → k < w.heap.size → w'.heap[k]? = w.heap[k]? ∧ nb' k) : HeldL E B w' nb' as us :=
 fun W' hW => h W' fun k hk hl => (hW k (hm k hk hl).2 (Nat.lt_of_lt_of_le hl hsz)).trans (hm k hk hl).1
theorem Held.mono (h : Held E B w nb a v) (hn : ∀ k, nb k → nb' k) : Held E B w nb' a v := h.move (Nat.le_refl _) fun k hk _ => ⟨rfl, hn k hk⟩
theorem HeldL.mono (h : HeldL E B w nb as us) (hn : ∀ k, nb k → nb' k) : HeldL E B w nb' as us := h.move (Nat.le_refl _) fun k hk _ => ⟨rfl, hn k hk⟩
theorem Held.re (h : Held E B w nb a v) (hB : BLe B B') (hr : ∀ id, (B id).isSome = true → E'.ρ id = E.ρ id ∧ E'.γ id = E.γ id ∧ E'.ν id = E.ν id) : Held E' B' w nb a v := fun W' hW => den_B hB hr a v (h W' hW)
theorem HeldL.re (h : HeldL E B w nb as us) (hB : BLe B B') (hr : ∀ id, (B id).isSome = true → E'.ρ id = E.ρ id ∧ E'.γ id = E.γ id ∧ E'.ν id = E.ν id) : HeldL E' B' w nb as us := fun W' hW => denL_B hB hr as us (h W' hW)
theorem held_lit (v : Value) : Held E B w nb (.lit v) v := fun _ _ => by unfold Den; rfl
theorem lit_of (h : Held E B w nb (.lit u) v) : v = u := by have := h.now; unfold Den at this; exact this
theorem held_any : Held E B w nb .any v := fun _ _ => by unfold Den; trivial
theorem heldL_nil : HeldL E B w nb [] [] := fun _ _ => by unfold DenL; rfl
theorem heldL_cons (h : Held E B w nb a u) (hs : HeldL E B w nb as us) : HeldL E B w nb (a :: as) (u :: us) := fun W' hW => by
 unfold DenL
 exact ⟨u, us, rfl, h W' hW, hs W' hW⟩
theorem heldL_nil_of (h : HeldL E B w nb [] us) : us = [] := by have := h.now; unfold DenL at this; exact this
theorem heldL_cons_of (h : HeldL E B w nb (a :: as) us) : ∃ u us', us = u :: us' ∧ Held E B w nb a u ∧ HeldL E B w nb as us' := by
 have h1 := h.now
 unfold DenL at h1
 obtain ⟨u, us', rfl, _, _⟩ := h1
 refine ⟨u, us', rfl, fun W' hW => ?_, fun W' hW => ?_⟩
 ·have h2 := h W' hW
  unfold DenL at h2
  obtain ⟨x, xs, hx, h3, _⟩ := h2
  injection hx with hx1 hx2
  rw [hx1]; exact h3
 ·have h2 := h W' hW
  unfold DenL at h2
  obtain ⟨x, xs, hx, _, h3⟩ := h2
  injection hx with hx1 hx2
  rw [hx2]; exact h3
theorem held_agg (h : HeldL E B w nb as us) : Held E B w nb (.agg as) (.agg us.toArray) := fun W' hW => by unfold Den; exact ⟨us, rfl, h W' hW⟩
theorem held_tup (h : HeldL E B w nb as us) : Held E B w nb (.tup as) (.tuple us.toArray) := fun W' hW => by unfold Den; exact ⟨us, rfl, h W' hW⟩
theorem held_clo {f : FuncId} (h : HeldL E B w nb as us) : Held E B w nb (.clo f as) (.func (.func f) #[] us.toArray) := fun W' hW => by unfold Den; exact ⟨us, rfl, h W' hW⟩
theorem clo_of {f : FuncId} (h : Held E B w nb (.clo f as) v) : ∃ us, v = .func (.func f) #[] us.toArray ∧ HeldL E B w nb as us := by
 have h1 := h.now
 unfold Den at h1
 obtain ⟨us, rfl, _⟩ := h1
 refine ⟨us, rfl, fun W' hW => ?_⟩
 have h2 := h W' hW
 unfold Den at h2
 obtain ⟨xs, hx, h3⟩ := h2
 have : us = xs := by injection hx with _ _ hx; simpa using congrArg Array.toList hx
 rw [this]; exact h3
theorem agg_of (h : Held E B w nb (.agg as) v) : ∃ us, v = .agg us.toArray ∧ HeldL E B w nb as us := by
 have h1 := h.now
 unfold Den at h1
 obtain ⟨us, rfl, _⟩ := h1
 refine ⟨us, rfl, fun W' hW => ?_⟩
 have h2 := h W' hW
 unfold Den at h2
 obtain ⟨xs, hx, h3⟩ := h2
 have : us = xs := by injection hx with hx; simpa using congrArg Array.toList hx
 rw [this]; exact h3
theorem tup_of (h : Held E B w nb (.tup as) v) : ∃ us, v = .tuple us.toArray ∧ HeldL E B w nb as us := by
 have h1 := h.now
 unfold Den at h1
 obtain ⟨us, rfl, _⟩ := h1
 refine ⟨us, rfl, fun W' hW => ?_⟩
 have h2 := h W' hW
 unfold Den at h2
 obtain ⟨xs, hx, h3⟩ := h2
 have : us = xs := by injection hx with hx; simpa using congrArg Array.toList hx
 rw [this]; exact h3
theorem foot_in {g : Nat} (hr : ∀ W' : World, (∀ k, nb k → k < w.heap.size → W'.heap[k]? = w.heap[k]?) → ∃ cs ty fz, W'.heap[g]? = some (.cells cs ty fz)) : nb g ∧ g < w.heap.size := by
 obtain ⟨cs, ty, fz, h0⟩ := hr w fun _ _ _ => rfl
 have hg : g < w.heap.size := by
  by_cases h : g < w.heap.size
  ·exact h
  ·rw [Array.getElem?_eq_none (by omega)] at h0; cases h0
 refine ⟨?_, hg⟩
 refine Classical.byContradiction fun hn => ?_
 obtain ⟨cs', ty', fz', h1⟩ := hr { w with heap := w.heap.setIfInBounds g (.map #[] 0) } fun k hk _ => by
  have : g ≠ k := by rintro rfl; exact hn hk
  simp [Array.getElem?_setIfInBounds_ne this]
 simp [hg] at h1
theorem fp_of {ty : TypeId} (h : Held E B w nb (.fp ty as) v) : ∃ g us, v = .pointer (some ⟨g, 0, none⟩) ∧ w.heap[g]? = some (.cells us.toArray ty (0, 0)) ∧ nb g ∧ g < w.heap.size ∧ HeldL E B w nb as us := by
 have h1 := h.now
 unfold Den at h1
 obtain ⟨g, us, rfl, h2, _⟩ := h1
 have hf : nb g ∧ g < w.heap.size := foot_in fun W' hW => by
  have h3 := h W' hW
  unfold Den at h3
  obtain ⟨g', us', he, h4, _⟩ := h3
  injection he with he
  injection he with he
  injection he with he
  subst he
  exact ⟨_, _, _, h4⟩
 refine ⟨g, us, rfl, h2, hf.1, hf.2, fun W' hW => ?_⟩
 have h3 := h W' hW
 unfold Den at h3
 obtain ⟨g', us', he, h4, h5⟩ := h3
 injection he with he
 injection he with he
 injection he with he
 subst he
 rw [hW g hf.1 hf.2, h2] at h4
 injection h4 with h4
 injection h4 with h4
 have : us = us' := by simpa using congrArg Array.toList h4
 rw [this]; exact h5
theorem mp_of {id : Nat} {k : EK} {e : TypeId} {l : List Int} (hB : B id = some (.ints k e l)) (h : Held E B w nb (.mp id) v) : v = .map (some (E.ρ id)) := by
 have := h.now
 unfold Den at this
 exact this.2 _ _ _ hB
theorem cell_block {W : World} {p : Addr} {x : Value} (h : W.cell? p = some x) : ∃ cs ty fz, W.heap[p.block]? = some (.cells cs ty fz) := by
 unfold World.cell? at h
 split at h
 ·rename_i cs ty fz hb
  exact ⟨cs, ty, fz, hb⟩
 ·cases h
theorem cell_same {W W' : World} {p : Addr} (h : W'.heap[p.block]? = W.heap[p.block]?) : W'.cell? p = W.cell? p := by unfold World.cell?; rw [h]
theorem fc_of (h : Held E B w nb (.fc a) v) : ∃ p x, v = .pointer (some p) ∧ w.cell? p = some x ∧ nb p.block ∧ p.block < w.heap.size ∧ Held E B w nb a x := by
 have h1 := h.now
 unfold Den at h1
 obtain ⟨p, x, rfl, h2, _⟩ := h1
 have hf : nb p.block ∧ p.block < w.heap.size := foot_in fun W' hW => by
  have h3 := h W' hW
  unfold Den at h3
  obtain ⟨p', x', he, h4, _⟩ := h3
  injection he with he
  injection he with he
  subst he
  exact cell_block h4
 refine ⟨p, x, rfl, h2, hf.1, hf.2, fun W' hW => ?_⟩
 have h3 := h W' hW
 unfold Den at h3
 obtain ⟨p', x', he, h4, h5⟩ := h3
 injection he with he
 injection he with he
 subst he
 rw [cell_same (hW _ hf.1 hf.2), h2] at h4
 injection h4 with h4
 rw [h4]; exact h5
theorem add_blk (a : Addr) (n : Nat) : (a.add n).block = a.block := by unfold Addr.add; split <;> rfl
theorem denL_len : ∀ {as : List AV} {us : List Value}, DenL E B w as us → us.length = as.length
 | [], us, h => by unfold DenL at h; rw [h]; rfl
 | a :: as, us, h => by
  unfold DenL at h
  obtain ⟨u, us', rfl, _, h2⟩ := h
  simp [denL_len h2]
theorem ext_get {l l' : List Value} (h : l.length = l'.length) (hg : ∀ (j : Nat) v v', l[j]? = some v → l'[j]? = some v' → v = v') : l = l' := by
 apply List.ext_getElem? fun j => ?_
 by_cases hj : j < l.length
 ·rw [List.getElem?_eq_getElem hj, List.getElem?_eq_getElem (by omega)]
  exact congrArg some (hg j _ _ (List.getElem?_eq_getElem hj) (List.getElem?_eq_getElem (by omega)))
 ·rw [List.getElem?_eq_none (by omega), List.getElem?_eq_none (by omega)]
theorem cells_foot {p : Addr} {us : List Value} {W' : World} (hf : nb p.block ∧ p.block < w.heap.size) (hW : ∀ k, nb k → k < w.heap.size → W'.heap[k]? = w.heap[k]?) (j : Nat) : W'.cell? (p.add j) = w.cell? (p.add j) :=
 cell_same (by rw [add_blk]; exact hW _ hf.1 hf.2)
theorem fcs_of (h : Held E B w nb (.fcs as) v) (h0 : 0 < as.length) : ∃ p us, v = .pointer (some p) ∧ (∀ (j : Nat) (x : Value), us[j]? = some x → w.cell? (p.add j) = some x) ∧ nb p.block ∧ p.block < w.heap.size ∧ HeldL E B w nb as us := by
 have h1 := h.now
 unfold Den at h1
 obtain ⟨p, us, rfl, h2, hd⟩ := h1
 have hl := denL_len hd
 have hf : nb p.block ∧ p.block < w.heap.size := foot_in fun W' hW => by
  have h3 := h W' hW
  unfold Den at h3
  obtain ⟨p', us', he, h4, hd'⟩ := h3
  injection he with he
  injection he with he
  subst he
  have hl' := denL_len hd'
  have h5 := h4 0 _ (List.getElem?_eq_getElem (by omega))
  exact cell_block h5
 refine ⟨p, us, rfl, h2, hf.1, hf.2, fun W' hW => ?_⟩
 have h3 := h W' hW
 unfold Den at h3
 obtain ⟨p', us', he, h4, h5⟩ := h3
 injection he with he
 injection he with he
 subst he
 have : us = us' := ext_get (by rw [hl, denL_len h5]) fun j x x' hx hx' => by
  have h6 := h4 j x' hx'
  rw [cells_foot (us := us) hf hW, h2 j x hx] at h6
  injection h6
 rw [this]; exact h5
theorem elAt_len {k : EK} {n : Int} (h : ElAt w k n us) : us.length = k.z := by
 cases k <;> simp only [ElAt] at h
 ·rw [h]; rfl
 ·rw [h]; rfl
 ·obtain ⟨u, rfl, _⟩ := h; rfl
 ·obtain ⟨u, rfl, _⟩ := h; rfl
 ·obtain ⟨u, rfl, _⟩ := h; rfl
theorem elsAt_len {k : EK} : ∀ {l : List Int} {us : List Value}, ElsAt w k l us → us.length = l.length * k.z
 | [], us, h => by simp only [ElsAt] at h; rw [h]; simp
 | n :: l, us, h => by
  simp only [ElsAt] at h
  obtain ⟨x, y, rfl, h1, h2⟩ := h
  rw [List.length_append, elAt_len h1, elsAt_len h2, List.length_cons, Nat.add_mul]; omega
theorem EK.z_pos (k : EK) : 0 < k.z := by cases k <;> exact Nat.zero_lt_succ _
theorem rows_of {k : EK} {l : List Int} (h : Held E B w nb (.rows k l) v) : ∃ A c us, v = .slice A l.length c ∧ l.length ≤ c ∧ HeldEls w nb k l us ∧ (0 < l.length → ∃ a, A = some a ∧ nb a.block ∧ a.block < w.heap.size ∧ ∀ (j : Nat) (v : Value), us[j]? = some v → w.cell? (a.add j) = some v) := by
 have h1 := h.now
 unfold Den RowsAt at h1
 obtain ⟨A, c, us, rfl, h2, h3, h4⟩ := h1
 have hl := elsAt_len h3
 by_cases hpos : 0 < l.length
 ·obtain ⟨a, rfl, h5⟩ := h4 hpos
  have hup : 0 < us.length := by rw [hl]; exact Nat.mul_pos hpos k.z_pos
  have hf : nb a.block ∧ a.block < w.heap.size := foot_in fun W' hW => by
   have h6 := h W' hW
   unfold Den RowsAt at h6
   obtain ⟨A', c', us', he, _, h7, h8⟩ := h6
   injection he with he1
   obtain ⟨a', h9, h10⟩ := h8 hpos
   rw [← he1] at h9
   injection h9 with h9
   subst h9
   have hl' := elsAt_len h7
   exact cell_block (h10 0 _ (List.getElem?_eq_getElem (by omega)))
  refine ⟨_, c, us, rfl, h2, fun W' hW => ?_, fun _ => ⟨a, rfl, hf.1, hf.2, h5⟩⟩
  have h6 := h W' hW
  unfold Den RowsAt at h6
  obtain ⟨A', c', us', he, _, h7, h8⟩ := h6
  injection he with he1
  obtain ⟨a', h9, h10⟩ := h8 hpos
  rw [← he1] at h9
  injection h9 with h9
  subst h9
  have : us = us' := ext_get (by rw [hl, elsAt_len h7]) fun j x x' hx hx' => by
   have h11 := h10 j x' hx'
   rw [cells_foot (us := us) hf hW, h5 j x hx] at h11
   injection h11
  rw [this]; exact h7
 ·have hn : l = [] := by cases l with
   | nil => rfl
   | cons x y => simp at hpos
  subst hn
  exact ⟨A, c, us, rfl, h2, fun W' hW => by simp only [ElsAt] at h3 ⊢; exact h3, fun h => absurd h hpos⟩
end
structure Fr (M : Nat → Prop) (w w' : World) : Prop where
 os : w'.os = w.os
 tape : w'.tape = w.tape
 output : w'.output = w.output
 size : w.heap.size ≤ w'.heap.size
 block : ∀ k, k < w.heap.size → ¬ M k → w'.heap[k]? = w.heap[k]?
theorem Fr.refl (M : Nat → Prop) (w : World) : Fr M w w := ⟨rfl, rfl, rfl, Nat.le_refl _, fun _ _ _ => rfl⟩
theorem Fr.below {w w' : World} (h : Fr (fun _ => False) w w') : Below w.heap.size w w' := ⟨h.os, h.tape, h.output, h.size, fun k hk => h.block k hk id⟩
theorem Fr.of_below {M : Nat → Prop} {w w' : World} (h : Below w.heap.size w w') : Fr M w w' := ⟨h.os, h.tape, h.output, h.size, fun k hk _ => h.block k hk⟩
structure FS where
 sl : Nat → AV
 B : Nat → Option Blk
structure Cx where
 N : Nat
 w0 : World
 okk : Nat → Prop
 M : Nat → Prop
 pin : Option (Nat × Value)
def Live (E : En) (B : Nat → Option Blk) (id : Nat) : Prop := (∃ b, B id = some b ∧ b ≠ .dead) ∧ E.ν id = false
def NB (okk : Nat → Prop) (E : En) (B : Nat → Option Blk) (k : Nat) : Prop := okk k ∧ ∀ id, Live E B id → E.ρ id ≠ k
def OthAt (w : World) (nb : Nat → Prop) (g c : Nat) (k : EK) (e : TypeId) (l : List Int) : Prop :=
 ∃ (cs : Array Value) (us : List Value), w.heap[g]? = some (.cells cs e (0, 0)) ∧ cs.size = c * k.z ∧ c ≤ maxLen ∧ l.length ≤ c ∧ HeldEls w nb k l us ∧ ∀ (j : Nat) (v : Value), us[j]? = some v → cs[j]? = some v
theorem OthAt.move {w w' : World} {nb nb' : Nat → Prop} {g c : Nat} {k : EK} {e : TypeId} {l : List Int} (h : OthAt w nb g c k e l) (hg : w'.heap[g]? = w.heap[g]?) (hsz : w.heap.size ≤ w'.heap.size) (hm : ∀ k, nb k → k < w.heap.size → w'.heap[k]? = w.heap[k]? ∧ nb' k) : OthAt w' nb' g c k e l := by
 obtain ⟨cs, us, h1, h2, h3, h4, h5, h6⟩ := h
 exact ⟨cs, us, hg.trans h1, h2, h3, h4, h5.move hsz hm, h6⟩
def BlkAt (E : En) (B : Nat → Option Blk) (w : World) (nb : Nat → Prop) (id : Nat) : Blk → Prop
 | .dead => True
 | .ints (.num k) e l => if E.ν id = true then l = [] else ∃ cs : Array Value, w.heap[E.ρ id]? = some (.cells cs e (0, 0)) ∧ cs.size = E.γ id ∧ cs.size ≤ maxLen ∧ l.length ≤ cs.size ∧ ∀ i, i < l.length → cs[i]? = some (.int k (l.getD i 0))
 | .ints (.map a b) _ l => E.ν id = false ∧ ∃ n es clock, l = [n] ∧ w.heap[E.ρ id]? = some (.map es clock) ∧ EntsAt a b (dcR n) es.toList
 | .ints .txt e l => if E.ν id = true then l = [] else OthAt w nb (E.ρ id) (E.γ id) .txt e l
 | .ints (.row k) e l => if E.ν id = true then l = [] else OthAt w nb (E.ρ id) (E.γ id) (.row k) e l
 | .ints .big e l => if E.ν id = true then l = [] else OthAt w nb (E.ρ id) (E.γ id) .big e l
 | .ints .bigN e l => if E.ν id = true then False else OthAt w nb (E.ρ id) (E.γ id) .bigN e l
 | .cells ty l => E.ν id = false ∧ ∃ us : List Value, w.heap[E.ρ id]? = some (.cells us.toArray ty (0, 0)) ∧ HeldL E B w nb l us
def GT : List (Nat × List Nat) := [(2, [0, 1, 56, 2, 57, 49, 28, 3, 61, 58, 42, 50, 38, 29, 17, 4, 62, 47, 59, 36, 45, 43, 51, 22, 53, 39, 33, 30, 24, 18, 12, 5, 63, 55, 48, 27, 60, 41, 37, 16, 46, 35, 44, 21, 52, 32, 23, 11, 54, 26, 40, 15, 34, 20, 31, 10, 25, 14, 19, 9, 13, 8, 7, 6])]
def GTab (w : World) (p : Nat × List Nat) : Prop := ∀ j, j < p.2.length → w.cell? ⟨p.1, j, none⟩ = some (.int .u8 (p.2.getD j 0))
def GOk (w : World) (ok : Nat → Prop) : Prop := ∀ p ∈ GT, ok p.1 ∧ p.1 < w.heap.size ∧ GTab w p
theorem GTab.same {w w' : World} {p : Nat × List Nat} (h : GTab w p) (hs : w'.heap[p.1]? = w.heap[p.1]?) : GTab w' p := fun j hj => (cell_same hs).trans (h j hj)
structure SimAt (X : Cx) (E : En) (F : FS) (a : Act) (w : World) : Prop where
 size : a.tmps.size = X.N
 nod : a.defers = []
 new : ∀ k, X.w0.heap.size ≤ k ∨ X.M k → X.okk k
 gl : GOk X.w0 fun k => X.okk k ∧ ¬ X.M k
 fr : Fr X.M X.w0 w
 slot : ∀ t, t < X.N → ∃ v, a.tmps[t]? = some v ∧ Held E F.B w (NB X.okk E F.B) (F.sl t) v
 blk : ∀ id b, F.B id = some b → BlkAt E F.B w (NB X.okk E F.B) id b
 own : ∀ id, Live E F.B id → X.w0.heap.size ≤ E.ρ id ∨ X.M (E.ρ id)
 inj : ∀ id id', Live E F.B id → Live E F.B id' → E.ρ id = E.ρ id' → id = id'
 pin : ∀ s u, X.pin = some (s, u) → a.tmps[s]? = some u
def Sim (X : Cx) (F : FS) (a : Act) (w : World) : Prop := ∃ E, SimAt X E F a w
section
variable {X : Cx} {E E' : En} {F F' : FS} {a : Act} {w w' : World} {t : Nat} {v : Value} {id : Nat}
theorem SimAt.lt (h : SimAt X E F a w) (hl : Live E F.B id) : E.ρ id < w.heap.size := by
 obtain ⟨⟨b, hb, hd⟩, hn⟩ := hl
 have h1 := h.blk id b hb
 cases b with
 | dead => exact absurd rfl hd
 | ints k e l =>
  cases k with
  | map a b =>
   obtain ⟨_, n, es, clock, _, h2, _⟩ := h1
   exact (Array.getElem?_eq_some_iff.1 h2).1
  | num k =>
   simp only [BlkAt, hn, Bool.false_eq_true, if_false] at h1
   obtain ⟨cs, h2, _⟩ := h1
   exact (Array.getElem?_eq_some_iff.1 h2).1
  | _ =>
   simp only [BlkAt, hn, Bool.false_eq_true, if_false] at h1
   obtain ⟨cs, us, h2, _⟩ := h1
   exact (Array.getElem?_eq_some_iff.1 h2).1
 | cells ty l =>
  obtain ⟨_, us, h2, _⟩ := h1
  exact (Array.getElem?_eq_some_iff.1 h2).1
theorem SimAt.ints (h : SimAt X E F a w) {k : IntKind} {e : TypeId} {l : List Int} (hB : F.B id = some (.ints (.num k) e l)) (hl : 0 < l.length) :
  E.ν id = false ∧ ∃ cs : Array Value, w.heap[E.ρ id]? = some (.cells cs e (0, 0)) ∧ cs.size = E.γ id ∧ cs.size ≤ maxLen ∧ l.length ≤ cs.size ∧ ∀ i, i < l.length → cs[i]? = some (.int k (l.getD i 0)) := by
 have h1 := h.blk id _ hB
 simp only [BlkAt] at h1
 by_cases hn : E.ν id = true
 ·rw [if_pos hn] at h1; rw [h1] at hl; simp at hl
 ·rw [if_neg hn] at h1; exact ⟨by simpa using hn, h1⟩
theorem SimAt.tabs (h : SimAt X E F a w) : GOk w (NB X.okk E F.B) := fun p hp => by
 obtain ⟨⟨h1, h2⟩, h3, h4⟩ := h.gl p hp
 refine ⟨⟨h1, fun id hid he => ?_⟩, Nat.lt_of_lt_of_le h3 h.fr.size, h4.same (h.fr.block _ h3 h2)⟩
 rcases h.own id hid with h5 | h5
 ·omega
 ·exact h2 (he ▸ h5)
theorem SimAt.set (h : SimAt X E F a w) {av : AV} (hv : Held E F.B w (NB X.okk E F.B) av v) (hp : ∀ s u, X.pin = some (s, u) → s ≠ t) : SimAt X E ⟨fun s => if s = t then av else F.sl s, F.B⟩ (a.put (some t) v) w := by
 refine ⟨by simpa [Act.put] using h.size, h.nod, h.new, h.gl, h.fr, fun s hs => ?_, h.blk, h.own, h.inj, fun s u hsu => by rw [← h.pin s u hsu]; simp [Act.put, Array.getElem?_setIfInBounds_ne (Ne.symm (hp s u hsu))]⟩
 by_cases hst : s = t
 ·subst hst
  refine ⟨v, ?_, ?_⟩
  ·simp [Act.put, h.size, hs]
  ·simp only [if_true]; exact hv
 ·obtain ⟨u, h1, h2⟩ := h.slot s hs
  refine ⟨u, ?_, ?_⟩
  ·simp [Act.put, Array.getElem?_setIfInBounds_ne (Ne.symm hst), h1]
  ·simp only [if_neg hst]; exact h2
theorem SimAt.mem (h : SimAt X E F a w) (T : Nat → Prop) (hsl : F'.sl = F.sl) (hos : w'.os = w.os) (htape : w'.tape = w.tape) (hout : w'.output = w.output) (hsz : w.heap.size ≤ w'.heap.size)
  (hX : ∀ k, k < w.heap.size → (∀ id, Live E F.B id → T id → E.ρ id ≠ k) → w'.heap[k]? = w.heap[k]?)
  (hle : BLe F.B F'.B) (hr : ∀ id, (F.B id).isSome = true → E'.ρ id = E.ρ id ∧ E'.γ id = E.γ id ∧ E'.ν id = E.ν id)
  (hnew : ∀ id, Live E' F'.B id → w.heap.size ≤ E'.ρ id ∨ ∃ id0, Live E F.B id0 ∧ E.ρ id0 = E'.ρ id)
  (hblk : ∀ id b, F'.B id = some b → (F.B id = some b ∧ ¬ T id) ∨ BlkAt E' F'.B w' (NB X.okk E' F'.B) id b)
  (hinj : ∀ id id', Live E' F'.B id → Live E' F'.B id' → E'.ρ id = E'.ρ id' → id = id') : SimAt X E' F' a w' := by
 have hmove : ∀ k, NB X.okk E F.B k → k < w.heap.size → w'.heap[k]? = w.heap[k]? ∧ NB X.okk E' F'.B k := by
  intro k hk hl
  refine ⟨hX k hl fun id hid _ => hk.2 id hid, hk.1, fun id hid he => ?_⟩
  rcases hnew id hid with h1 | ⟨id0, h1, h2⟩
  ·omega
  ·exact hk.2 id0 h1 (h2.trans he)
 refine ⟨h.size, h.nod, h.new, h.gl, ⟨hos.trans h.fr.os, htape.trans h.fr.tape, hout.trans h.fr.output, Nat.le_trans h.fr.size hsz, fun k hk hM => ?_⟩, fun s hs => ?_, fun id b hb => ?_, fun id hid => ?_, hinj, h.pin⟩
 ·rw [hX k (Nat.lt_of_lt_of_le hk h.fr.size) fun id hid _ he => ?_]
  ·exact h.fr.block k hk hM
  ·rcases h.own id hid with h1 | h1
   ·omega
   ·exact hM (he ▸ h1)
 ·obtain ⟨v, h1, h2⟩ := h.slot s hs
  rw [hsl]
  exact ⟨v, h1, (h2.re hle hr).move hsz hmove⟩
 ·rcases hblk id b hb with ⟨h1, h2⟩ | h1
  ·have h3 := h.blk id b h1
   have hs := hr id (by rw [h1]; rfl)
   have hfar : Live E F.B id → w'.heap[E'.ρ id]? = w.heap[E.ρ id]? := fun hlive => by
    rw [hs.1]
    exact hX _ (h.lt hlive) fun id' hid' hT he => h2 (by rw [← h.inj _ _ hid' hlive he]; exact hT)
   cases b with
   | dead => trivial
   | ints k e l =>
    cases k with
    | map a b =>
     obtain ⟨hn, n, es, clock, h4, h5, h6⟩ := h3
     have hlive : Live E F.B id := ⟨⟨_, h1, by simp⟩, hn⟩
     exact ⟨by rw [hs.2.2]; exact hn, n, es, clock, h4, (hfar hlive).trans h5, h6⟩
    | num k =>
     simp only [BlkAt] at h3 ⊢
     rw [hs.2.2]
     by_cases hn : E.ν id = true
     ·rw [if_pos hn] at h3 ⊢; exact h3
     ·rw [if_neg hn] at h3 ⊢
      obtain ⟨cs, h4, h5, h6, h7⟩ := h3
      have hlive : Live E F.B id := ⟨⟨_, h1, by simp⟩, by simpa using hn⟩
      exact ⟨cs, (hfar hlive).trans h4, by rw [hs.2.1]; exact h5, h6, h7⟩
    | _ =>
     simp only [BlkAt] at h3 ⊢
     rw [hs.2.2]
     by_cases hn : E.ν id = true
     ·rw [if_pos hn] at h3 ⊢; exact h3
     ·rw [if_neg hn] at h3 ⊢
      have hlive : Live E F.B id := ⟨⟨_, h1, by simp⟩, by simpa using hn⟩
      rw [hs.2.1, hs.1]
      have hf2 := hfar hlive
      rw [hs.1] at hf2
      exact h3.move hf2 hsz hmove
   | cells ty l =>
    obtain ⟨hn, us, h4, h5⟩ := h3
    have hlive : Live E F.B id := ⟨⟨_, h1, by simp⟩, hn⟩
    exact ⟨by rw [hs.2.2]; exact hn, us, (hfar hlive).trans h4, (h5.re hle hr).move hsz hmove⟩
  ·exact h1
 ·rcases hnew id hid with h1 | ⟨id0, h1, h2⟩
  ·exact .inl (Nat.le_trans h.fr.size h1)
  ·rw [← h2]; exact h.own id0 h1
theorem SimAt.grow (h : SimAt X E F a w) (hb : Below w.heap.size w w') : SimAt X E F a w' :=
 h.mem (fun _ => False) rfl hb.os hb.tape hb.output hb.size (fun k hk _ => hb.block k hk) (BLe.refl _) (fun _ _ => ⟨rfl, rfl, rfl⟩) (fun id hid => .inr ⟨id, hid, rfl⟩) (fun id b hb => .inl ⟨hb, fun h => h⟩) h.inj
def En.at (E : En) (id g c : Nat) (n : Bool) : En := ⟨fun i => if i = id then g else E.ρ i, fun i => if i = id then c else E.γ i, fun i => if i = id then n else E.ν i⟩
theorem En.at_ne {id g c i : Nat} {n : Bool} (h : i ≠ id) : (E.at id g c n).ρ i = E.ρ i ∧ (E.at id g c n).γ i = E.γ i ∧ (E.at id g c n).ν i = E.ν i := by simp [En.at, h]
theorem En.at_eq {id g c : Nat} {n : Bool} : (E.at id g c n).ρ id = g ∧ (E.at id g c n).γ id = c ∧ (E.at id g c n).ν id = n := by simp [En.at]
theorem SimAt.fresh (h : SimAt X E F a w) {id g c : Nat} {n : Bool} {b : Blk} (old : Option Nat) (hid : F.B id = none) (hos : w'.os = w.os) (htape : w'.tape = w.tape) (hout : w'.output = w.output) (hsz : w.heap.size ≤ w'.heap.size)
  (hX : ∀ k, k < w.heap.size → (∀ i, old = some i → Live E F.B i → E.ρ i ≠ k) → w'.heap[k]? = w.heap[k]?)
  (hg : n = false → w.heap.size ≤ g ∨ ∃ i, old = some i ∧ Live E F.B i ∧ E.ρ i = g) (hF : F'.sl = F.sl) (hB1 : F'.B id = some b) (hB2 : ∀ i, old = some i → i ≠ id → F'.B i = some .dead) (hB3 : ∀ i, i ≠ id → old ≠ some i → F'.B i = F.B i)
  (hb : BlkAt (E.at id g c n) F'.B w' (NB X.okk (E.at id g c n) F'.B) id b) : SimAt X (E.at id g c n) F' a w' := by
 have hne : ∀ i, (F.B i).isSome = true → i ≠ id := by rintro i hi rfl; rw [hid] at hi; cases hi
 have hlv : ∀ i, i ≠ id → Live (E.at id g c n) F'.B i → Live E F.B i ∧ old ≠ some i := by
  rintro i hi ⟨⟨x, hx, hd⟩, hn⟩
  by_cases ho : old = some i
  ·rw [hB2 i ho hi] at hx
   injection hx with hx
   exact absurd hx.symm hd
  ·rw [hB3 i hi ho] at hx
   rw [(En.at_ne hi).2.2] at hn
   exact ⟨⟨⟨x, hx, hd⟩, hn⟩, ho⟩
 have hgi : ∀ i, i ≠ id → Live (E.at id g c n) F'.B i → n = false → g ≠ E.ρ i := by
  intro i hi hl hnf he
  obtain ⟨h1, h2⟩ := hlv i hi hl
  rcases hg hnf with h3 | ⟨i0, h3, h4, h5⟩
  ·have := h.lt h1; omega
  ·have := h.inj i0 i h4 h1 (h5.trans he)
   subst this
   exact h2 h3
 refine h.mem (fun i => old = some i) hF hos htape hout hsz (fun k hk h1 => hX k hk fun i ho hl => h1 i hl ho) (fun i hi => ?_) (fun i hi => En.at_ne (hne i hi)) (fun i hi => ?_) (fun i b' hb' => ?_) fun i i' hi hi' he => ?_
 ·by_cases ho : old = some i
  ·rw [hB2 i ho (hne i hi)]
   exact ⟨rfl, fun _ _ _ hx => by cases hx⟩
  ·rw [hB3 i (hne i hi) ho]
   exact BLe.refl _ i hi
 ·by_cases hii : i = id
  ·subst hii
   have hn := hi.2
   rw [En.at_eq.2.2] at hn
   rw [En.at_eq.1]
   rcases hg hn with h3 | ⟨i0, _, h4, h5⟩
   ·exact .inl h3
   ·exact .inr ⟨i0, h4, h5⟩
  ·rw [(En.at_ne hii).1]
   exact .inr ⟨i, (hlv i hii hi).1, rfl⟩
 ·by_cases hii : i = id
  ·subst hii
   rw [hB1] at hb'
   injection hb' with hb'
   subst hb'
   exact .inr hb
  ·by_cases ho : old = some i
   ·rw [hB2 i ho hii] at hb'
    injection hb' with hb'
    subst hb'
    exact .inr trivial
   ·rw [hB3 i hii ho] at hb'
    exact .inl ⟨hb', ho⟩
 ·by_cases h1 : i = id
  ·by_cases h2 : i' = id
   ·rw [h1, h2]
   ·subst h1
    have hn := hi.2
    rw [En.at_eq.2.2] at hn
    rw [En.at_eq.1, (En.at_ne h2).1] at he
    exact absurd he (hgi i' h2 hi' hn)
  ·by_cases h2 : i' = id
   ·subst h2
    have hn := hi'.2
    rw [En.at_eq.2.2] at hn
    rw [En.at_eq.1, (En.at_ne h1).1] at he
    exact absurd he.symm (hgi i h1 hi hn)
   ·rw [(En.at_ne h1).1, (En.at_ne h2).1] at he
    exact h.inj i i' (hlv i h1 hi).1 (hlv i' h2 hi').1 he
theorem SimAt.write (h : SimAt X E F a w) {id : Nat} {b0 b : Blk} (hid : F.B id = some b0) (hd : b0 ≠ .dead) (hn : E.ν id = false) (hk : ∀ k e l, b = .ints k e l → ∃ e0 l0, b0 = .ints k e0 l0 ∧ l0.length = l.length) (hos : w'.os = w.os) (htape : w'.tape = w.tape) (hout : w'.output = w.output) (hsz : w.heap.size = w'.heap.size)
  (hX : ∀ k, k ≠ E.ρ id → w'.heap[k]? = w.heap[k]?) (hF : F'.sl = F.sl) (hB1 : F'.B id = some b) (hB2 : ∀ i, i ≠ id → F'.B i = F.B i) (hb : BlkAt E F'.B w' (NB X.okk E F'.B) id b) : SimAt X E F' a w' := by
 have hlv : ∀ i, Live E F'.B i → Live E F.B i := by
  rintro i ⟨⟨x, hx, hd'⟩, hni⟩
  by_cases hi : i = id
  ·exact ⟨⟨b0, hi ▸ hid, hd⟩, hni⟩
  ·rw [hB2 i hi] at hx
   exact ⟨⟨x, hx, hd'⟩, hni⟩
 have hl0 : Live E F.B id := ⟨⟨b0, hid, hd⟩, hn⟩
 refine h.mem (fun i => i = id) hF hos htape hout (by omega) (fun k hk h1 => hX k fun he => h1 id hl0 rfl he.symm) (fun i hi => ?_) (fun i hi => ⟨rfl, rfl, rfl⟩) (fun i hi => .inr ⟨i, hlv i hi, rfl⟩) (fun i b' hb' => ?_) fun i i' hi hi' he => h.inj i i' (hlv i hi) (hlv i' hi') he
 ·by_cases hii : i = id
  ·subst hii
   rw [hB1]
   refine ⟨rfl, fun k' e' l' hl => ?_⟩
   injection hl with hl
   obtain ⟨e0, l0, h1, h2⟩ := hk k' e' l' hl
   exact ⟨e0, l0, by rw [hid, h1], h2⟩
  ·rw [hB2 i hii]
   exact BLe.refl _ i hi
 ·by_cases hii : i = id
  ·subst hii
   rw [hB1] at hb'
   injection hb' with hb'
   subst hb'
   exact .inr hb
  ·rw [hB2 i hii] at hb'
   exact .inl ⟨hb', hii⟩
end
structure St where
 sl : List (Nat × AV)
 bl : List (Nat × Blk)
 nx : Nat
def St.get (st : St) (t : Nat) : AV := match look t st.sl with
 | some a => a
 | none => .any
def St.blk (st : St) (id : Nat) : Option Blk := look id st.bl
def St.fs (st : St) : FS := ⟨st.get, st.blk⟩
structure Upd where
 v : AV
 bs : List (Nat × Blk)
 rb : List Nat
def FS.upd (F : FS) (dst : Option Tmp) (u : Upd) : FS :=
 ⟨match dst with
  | some t => fun s => if s = t then u.v else F.sl s
  | none => F.sl, fun i => match look i u.bs with
  | some b => some b
  | none => F.B i⟩
def cst : Value → AV
 | .agg cs => .agg (cs.toList.map .lit)
 | .tuple vs => .tup (vs.toList.map .lit)
 | v => .lit v
def ev (st : St) : Operand → AV
 | .tmp t => st.get t
 | .const v => cst v
 | .func f => .lit (.func (.func f) #[] #[])
 | .global g => .lit (.pointer (some ⟨g, 0, none⟩))
def Agree (X : Cx) (F : FS) (st : St) (o : Oper) (u : Upd) : Prop :=
 (∀ s, Operand.tmp s ∈ o.op.operands.toList → F.sl s = st.get s ∧ s < X.N) ∧ (∀ i ∈ u.rb, F.B i = st.blk i) ∧ (∀ p ∈ u.bs, F.B p.1 = st.blk p.1) ∧ ∀ t, o.dst = some t → ∀ s v, X.pin = some (s, v) → s ≠ t
def OpOk (P : Program) (o : Oper) (st : St) (u : Upd) : Prop :=
 ∀ (X : Cx) (F : FS) (a : Act) (w : World), Sim X F a w → Agree X F st o u → ∀ (K : Act → World → Prop) (Q : Exit → Act → World → Prop), (∀ a' w', Sim X (F.upd o.dst u) a' w' → K a' w') → o.wp P a w K Q
inductive UD where
 | int (k : IntKind)
 | bool
 | str
 | ptr (e : Nat)
 | slice (e : Nat)
 | struct (fs : List (Nat × Nat))
 | array (n e : Nat)
 | map (k e : Nat)
structure TT where
 und : List (Nat × UD)
 inf : List (Nat × (Nat × Nat × List Value))
 ext : List (Nat × Bool)
 zer : List (Nat × Value)
def adS0 (x y c : Int) : Int := (((x.toNat + y.toNat + c.toNat) % 18446744073709551616 : Nat) : Int)
def adC0 (x y c : Int) : Int := (((x.toNat + y.toNat + c.toNat) / 18446744073709551616 : Nat) : Int)
def sbS0 (x y c : Int) : Int := (((x.toNat + 18446744073709551616 - y.toNat - c.toNat) % 18446744073709551616 : Nat) : Int)
def sbC0 (x y c : Int) : Int := ((if x.toNat < y.toNat + c.toNat then 1 else 0 : Nat) : Int)
noncomputable def adS : Int → Int → Int → Int := (still adS0).1
noncomputable def adC : Int → Int → Int → Int := (still adC0).1
noncomputable def sbS : Int → Int → Int → Int := (still sbS0).1
noncomputable def sbC : Int → Int → Int → Int := (still sbC0).1
theorem adS_eq : adS = adS0 := (still adS0).2
theorem adC_eq : adC = adC0 := (still adC0).2
theorem sbS_eq : sbS = sbS0 := (still sbS0).2
theorem sbC_eq : sbC = sbC0 := (still sbC0).2
noncomputable def exP (b : Bool) (x y c : Int) : List Value := match b with
 | true => [.int .u64 (adS x y c), .int .u64 (adC x y c)]
 | false => [.int .u64 (sbS x y c), .int .u64 (sbC x y c)]
def ExOk (P : Program) (f : FuncId) (b : Bool) : Prop := ∀ (x y c : Int), c ≤ 1 → ∀ w : World, (callFunc f #[.int .u64 x, .int .u64 y, .int .u64 c]).run P w = .ok (.value (.tuple (exP b x y c).toArray)) w
def UD.ok (P : Program) (t : TypeId) : UD → Prop
 | .int k => P.underlying t = some (.int k)
 | .bool => P.underlying t = some .bool
 | .str => P.underlying t = some .string
 | .ptr e => P.underlying t = some (.pointer e)
 | .slice e => P.underlying t = some (.slice e)
 | .struct fs => ∃ fields, P.underlying t = some (.struct fields) ∧ fields.toList.map (fun f => (f.type, f.offset)) = fs
 | .array n e => P.underlying t = some (.array n e)
 | .map k e => P.underlying t = some (.map k e)
structure TT.ok (T : TT) (P : Program) : Prop where
 und : ∀ t d, look t T.und = some d → d.ok P t
 inf : ∀ t x, look t T.inf = some x → ∃ i z, P.info? t = some i ∧ i.size = x.1 ∧ i.bytes = x.2.1 ∧ i.zero = some z ∧ z.cells.toList = x.2.2
 ext : ∀ f b, look f T.ext = some b → ExOk P f b
 zer : ∀ t z, look t T.zer = some z → ∃ i, P.info? t = some i ∧ i.zero = some z
def UD.scalar : UD → Bool
 | .struct _ => false
 | .array _ _ => false
 | _ => true
section
variable {P : Program} {T : TT} {X : Cx} {E : En} {F : FS} {a : Act} {w : World} {st : St} {o : Oper} {u : Upd} {R : Type} {r : R}
theorem heldL_lits {B : Nat → Option Blk} {nb : Nat → Prop} : ∀ (us : List Value), HeldL E B w nb (us.map .lit) us
 | [] => heldL_nil
 | u :: us => heldL_cons (held_lit u) (heldL_lits us)
theorem held_cst {B : Nat → Option Blk} {nb : Nat → Prop} (v : Value) : Held E B w nb (cst v) v := by
 unfold cst
 split
 ·rename_i cs; simpa using held_agg (heldL_lits (E := E) (B := B) (w := w) (nb := nb) cs.toList)
 ·rename_i vs; simpa using held_tup (heldL_lits (E := E) (B := B) (w := w) (nb := nb) vs.toList)
 ·exact held_lit _
theorem ev_held (h : SimAt X E F a w) {x : Operand} (hx : ∀ s, x = .tmp s → F.sl s = st.get s ∧ s < X.N) : Held E F.B w (NB X.okk E F.B) (ev st x) (a.eval x) := by
 cases x with
 | tmp s =>
  obtain ⟨h1, h2⟩ := hx s rfl
  obtain ⟨v, h3, h4⟩ := h.slot s h2
  have : a.eval (.tmp s) = v := by simp [Act.eval, h3]
  rw [this]
  show Held _ _ _ _ (st.get s) v
  rw [← h1]; exact h4
 | const v => exact held_cst v
 | func f => exact held_lit _
 | global g => exact held_lit _
theorem okPure {av : AV} {rb : List Nat} (h : ∀ (X : Cx) (E : En) (F : FS) (a : Act) (w : World), SimAt X E F a w → Agree X F st o ⟨av, [], rb⟩ → ∃ v, (execOp a.eval o).run P w = .ok (.value v) w ∧ Held E F.B w (NB X.okk E F.B) av v) :
  OpOk P o st ⟨av, [], rb⟩ := by
 rintro X F a w ⟨E, hs⟩ hag K Q hK
 obtain ⟨v, h1, h2⟩ := h X E F a w hs hag
 unfold Oper.wp
 rw [h1]
 show K (a.put o.dst v) w
 refine hK _ _ ⟨E, ?_⟩
 cases hd : o.dst with
 | none => exact hs
 | some t => exact hs.set h2 (hag.2.2.2 t hd)
theorem ag1 {x : Operand} (hag : Agree X F st o u) (hx : x ∈ o.op.operands.toList) : ∀ s, x = .tmp s → F.sl s = st.get s ∧ s < X.N := fun s hs => hag.1 s (hs ▸ hx)
theorem ok1 {x : Operand} {av : AV} (hx : x ∈ o.op.operands.toList) (h : ∀ (E : En) (B : Nat → Option Blk) (w : World) (nb : Nat → Prop) (a : Act), Held E B w nb (ev st x) (a.eval x) → ∃ v, (execOp a.eval o).run P w = .ok (.value v) w ∧ Held E B w nb av v) : OpOk P o st ⟨av, [], []⟩ :=
 okPure fun X E F a w hs hag => h E F.B w _ a (ev_held hs (ag1 hag hx))
theorem ok2 {x y : Operand} {av : AV} (hx : x ∈ o.op.operands.toList) (hy : y ∈ o.op.operands.toList) (h : ∀ (E : En) (B : Nat → Option Blk) (w : World) (nb : Nat → Prop) (a : Act), Held E B w nb (ev st x) (a.eval x) → Held E B w nb (ev st y) (a.eval y) → ∃ v, (execOp a.eval o).run P w = .ok (.value v) w ∧ Held E B w nb av v) : OpOk P o st ⟨av, [], []⟩ :=
 okPure fun X E F a w hs hag => h E F.B w _ a (ev_held hs (ag1 hag hx)) (ev_held hs (ag1 hag hy))
theorem move_ok {x : Operand} (ho : o.op = .move x ∨ o.op = .assign x) : OpOk P o st ⟨ev st x, [], []⟩ :=
 ok1 (x := x) (by rcases ho with h | h <;> simp [h, Op.operands]) fun E B w nb a h => ⟨a.eval x, by rcases ho with h | h <;> simp [execOp, h], h⟩
def onB (v : AV) (kT kF : Option R) : Option R := match v with
 | .lit (.bool b) => if b = true then kT else kF
 | .bp p i => @ite _ p i kT kF
 | .bn p i => @ite _ p i kF kT
 | _ => none
def asB : AV → Option Bool
 | .lit (.bool b) => some b
 | .bp p i => some (@decide p i)
 | .bn p i => some (!(@decide p i))
 | _ => none
theorem bp_of {p : Prop} {i : Decidable p} {B : Nat → Option Blk} {nb : Nat → Prop} {v : Value} (h : Held E B w nb (.bp p i) v) : v = .bool (@decide p i) := by have := h.now; unfold Den at this; exact this
theorem bn_of {p : Prop} {i : Decidable p} {B : Nat → Option Blk} {nb : Nat → Prop} {v : Value} (h : Held E B w nb (.bn p i) v) : v = .bool (!(@decide p i)) := by have := h.now; unfold Den at this; exact this
theorem held_bp {p : Prop} {i : Decidable p} {B : Nat → Option Blk} {nb : Nat → Prop} {b : Bool} (h : b = @decide p i) : Held E B w nb (.bp p i) (.bool b) := fun _ _ => by unfold Den; rw [h]
theorem held_bn {p : Prop} {i : Decidable p} {B : Nat → Option Blk} {nb : Nat → Prop} {b : Bool} (h : b = !(@decide p i)) : Held E B w nb (.bn p i) (.bool b) := fun _ _ => by unfold Den; rw [h]
theorem asB_of {B : Nat → Option Blk} {nb : Nat → Prop} {av : AV} {b : Bool} {v : Value} (h : asB av = some b) (hh : Held E B w nb av v) : v = .bool b := by
 unfold asB at h
 split at h
 ·rw [lit_of hh]; injection h with h; rw [h]
 ·rw [bp_of hh]; injection h with h; rw [h]
 ·rw [bn_of hh]; injection h with h; rw [h]
 ·cases h
theorem onB_of {av : AV} {kT kF : Option R} (h : onB av kT kF = some r) : ∃ b, asB av = some b ∧ (if b = true then kT else kF) = some r := by
 unfold onB at h
 split at h
 ·exact ⟨_, rfl, h⟩
 ·rename_i p i
  refine ⟨@decide p i, rfl, ?_⟩
  by_cases hp : p
  ·rw [if_pos hp] at h; rw [if_pos (by simpa using hp)]; exact h
  ·rw [if_neg hp] at h; rw [if_neg (by simpa using hp)]; exact h
 ·rename_i p i
  refine ⟨!(@decide p i), rfl, ?_⟩
  by_cases hp : p
  ·rw [if_pos hp] at h; rw [if_neg (by simpa using hp)]; exact h
  ·rw [if_neg hp] at h; rw [if_pos (by simpa using hp)]; exact h
 ·cases h
theorem pick_ok {c x y : Operand} {b : Bool} (ho : o.op = .pick c x y) (hc : asB (ev st c) = some b) : OpOk P o st ⟨ev st (if b = true then x else y), [], []⟩ := by
 refine okPure fun X E F a w hs hag => ?_
 have h1 := ev_held hs (ag1 hag (x := c) (by simp [ho, Op.operands]))
 have h2 := ev_held hs (ag1 hag (x := if b = true then x else y) (by rw [ho]; cases b <;> simp [Op.operands]))
 refine ⟨_, ?_, h2⟩
 have h3 := asB_of hc h1
 cases b <;> simp [execOp, ho, h3, asBool]
noncomputable def W64s : {f : Int → Int // f = wrap64} := Classical.choice ⟨⟨wrap64, rfl⟩⟩
noncomputable def W64 : Int → Int := W64s.1
theorem W64_eq : W64 = wrap64 := W64s.2
noncomputable def WKs : {f : IntKind → Int → Int // f = IntKind.wrap} := Classical.choice ⟨⟨IntKind.wrap, rfl⟩⟩
noncomputable def WK : IntKind → Int → Int := WKs.1
theorem WK_eq : WK = IntKind.wrap := WKs.2
noncomputable def wr : IntKind → Int → Int
 | .i64, n => W64 n
 | .u8, n => n % 256
 | k, n => WK k n
theorem wr_eq (k : IntKind) (n : Int) : k.wrap n = wr k n := by
 cases k with
 | i64 => show _ = W64 n; rw [W64_eq]; exact i64_w n
 | u8 => exact IntKind.wrap_u8 n
 | _ => show _ = WK _ n; rw [WK_eq]
noncomputable def binI (op : BinOp) (k : IntKind) (a b : Int) (K : AV → Option R) : Option R := match op with
 | .add => K (.lit (.int k (wr k (a + b))))
 | .sub => K (.lit (.int k (wr k (a - b))))
 | .mul => K (.lit (.int k (wr k (a * b))))
 | .quo => if b = 0 then none else K (.lit (.int k (wr k (Int.tdiv a b))))
 | .rem => if b = 0 then none else K (.lit (.int k (Int.tmod a b)))
 | .and => K (.lit (.int k (bits .and k a b)))
 | .or => K (.lit (.int k (bits .or k a b)))
 | .xor => K (.lit (.int k (bits .xor k a b)))
 | .andNot => K (.lit (.int k (bits .andNot k a b)))
 | .eql => K (.bp (a = b) inferInstance)
 | .neq => K (.bn (a = b) inferInstance)
 | .lss => K (.bp (a < b) inferInstance)
 | .leq => K (.bp (a ≤ b) inferInstance)
 | .gtr => K (.bp (a > b) inferInstance)
 | .geq => K (.bp (a ≥ b) inferInstance)
 | _ => none
theorem binI_run {op : BinOp} {k : IntKind} {m n : Int} {K : AV → Option R} (h : binI op k m n K = some r) (P : Program) (ty : TypeId) (x y : Operand) :
  ∃ av, K av = some r ∧ ∀ w, ∃ v, (do eqGuard op ty x y (.int k m) (.int k n); binOp op ty (.int k m) (.int k n)).run P w = .ok v w ∧ ∀ E B nb, Held E B w nb av v := by
 cases op with
 | add => exact ⟨_, h, fun w => ⟨_, by simp [eqGuard, binOp, Op.intArith, wr_eq], fun _ _ _ => held_lit _⟩⟩
 | sub => exact ⟨_, h, fun w => ⟨_, by simp [eqGuard, binOp, Op.intArith, wr_eq], fun _ _ _ => held_lit _⟩⟩
 | mul => exact ⟨_, h, fun w => ⟨_, by simp [eqGuard, binOp, Op.intArith, wr_eq], fun _ _ _ => held_lit _⟩⟩
 | quo =>
  simp only [binI] at h
  split at h
  ·cases h
  ·rename_i hb; exact ⟨_, h, fun w => ⟨_, by simp [eqGuard, binOp, Op.intDiv, wr_eq, hb], fun _ _ _ => held_lit _⟩⟩
 | rem =>
  simp only [binI] at h
  split at h
  ·cases h
  ·rename_i hb; exact ⟨_, h, fun w => ⟨_, by simp [eqGuard, binOp, Op.intDiv, hb], fun _ _ _ => held_lit _⟩⟩
 | and => exact ⟨_, h, fun w => ⟨_, by simp [eqGuard, binOp, intBits_and], fun _ _ _ => held_lit _⟩⟩
 | or => exact ⟨_, h, fun w => ⟨_, by simp [eqGuard, binOp, intBits_or], fun _ _ _ => held_lit _⟩⟩
 | xor => exact ⟨_, h, fun w => ⟨_, by simp [eqGuard, binOp, intBits_xor], fun _ _ _ => held_lit _⟩⟩
 | andNot => exact ⟨_, h, fun w => ⟨_, by simp [eqGuard, binOp, intBits_andNot], fun _ _ _ => held_lit _⟩⟩
 | eql => exact ⟨_, h, fun w => ⟨.bool (m == n), by simp [eqGuard, binOp, Op.intCmp], fun _ _ _ => held_bp rfl⟩⟩
 | neq => exact ⟨_, h, fun w => ⟨.bool (m != n), by simp [eqGuard, binOp, Op.intCmp], fun _ _ _ => held_bn rfl⟩⟩
 | lss => exact ⟨_, h, fun w => ⟨.bool (decide (m < n)), by simp [eqGuard, binOp, Op.intCmp], fun _ _ _ => held_bp rfl⟩⟩
 | leq => exact ⟨_, h, fun w => ⟨.bool (decide (m ≤ n)), by simp [eqGuard, binOp, Op.intCmp], fun _ _ _ => held_bp rfl⟩⟩
 | gtr => exact ⟨_, h, fun w => ⟨.bool (decide (m > n)), by simp [eqGuard, binOp, Op.intCmp], fun _ _ _ => held_bp rfl⟩⟩
 | geq => exact ⟨_, h, fun w => ⟨.bool (decide (m ≥ n)), by simp [eqGuard, binOp, Op.intCmp], fun _ _ _ => held_bp rfl⟩⟩
 | shl => cases h
 | shr => cases h
end
def nth {α : Type} : List α → Nat → Option α
 | [], _ => none
 | a :: _, 0 => some a
 | _ :: l, n + 1 => nth l n
theorem nth_eq {α : Type} : ∀ (l : List α) (n : Nat), nth l n = l[n]?
 | [], _ => by simp [nth]
 | a :: l, 0 => by simp [nth]
 | a :: l, n + 1 => by simp [nth, nth_eq l n]
def asI : AV → Option (IntKind × Int)
 | .lit (.int k n) => some (k, n)
 | _ => none
def asS : AV → Option ByteArray
 | .lit (.string s) => some s
 | _ => none
def isP : AV → Option Bool
 | .lit (.pointer none) => some false
 | .lit (.pointer (some _)) => some true
 | .fp _ _ => some true
 | .fc _ => some true
 | .ptr _ _ => some true
 | _ => none
def tEq0 (a b : ByteArray) : Bool := decide (a.toList = b.toList)
def tLt0 (a b : ByteArray) : Bool := Op.bytesLess a.toList b.toList
def tApp0 (a b : ByteArray) : ByteArray := a ++ b
def tCut0 (s : ByteArray) (a b : Nat) : ByteArray := s.extract a b
noncomputable def tEq : ByteArray → ByteArray → Bool := (still tEq0).1
noncomputable def tLt : ByteArray → ByteArray → Bool := (still tLt0).1
noncomputable def tApp : ByteArray → ByteArray → ByteArray := (still tApp0).1
noncomputable def tCut : ByteArray → Nat → Nat → ByteArray := (still tCut0).1
theorem tEq_eq : tEq = tEq0 := (still tEq0).2
theorem tLt_eq : tLt = tLt0 := (still tLt0).2
theorem tApp_eq (a b : ByteArray) : tApp a b = a ++ b := by rw [show tApp = tApp0 from (still tApp0).2]; rfl
theorem tCut_eq (s : ByteArray) (a b : Nat) : tCut s a b = s.extract a b := by rw [show tCut = tCut0 from (still tCut0).2]; rfl
noncomputable def strV {R : Type} (op : BinOp) (a b : ByteArray) (K : AV → Option R) : Option R := match op with
 | .add => if a.size + b.size ≤ 9223372036854775807 then K (.lit (.string (tApp a b))) else none
 | .eql => K (.bp (tEq a b = true) inferInstance)
 | .neq => K (.bn (tEq a b = true) inferInstance)
 | .lss => K (.bp (tLt a b = true) inferInstance)
 | .gtr => K (.bn ((tLt a b || tEq a b) = true) inferInstance)
 | .leq => K (.bp ((tLt a b || tEq a b) = true) inferInstance)
 | .geq => K (.bn (tLt a b = true) inferInstance)
 | _ => none
def eqV {R : Type} (op : BinOp) (b : Bool) (K : AV → Option R) : Option R := match op with
 | .eql => K (.lit (.bool b))
 | .neq => K (.lit (.bool (!b)))
 | _ => none
noncomputable def binV {R : Type} (T : TT) (op : BinOp) (ty : TypeId) (x y : AV) (K : AV → Option R) : Option R :=
 match asI x, asI y with
 | some (k, a), some (k', b) => (match op with
  | .shl => if 0 ≤ b then K (.lit (.int k (shl k a b))) else none
  | .shr => if 0 ≤ b then K (.lit (.int k (shr k a b))) else none
  | _ => if k = k' then binI op k a b K else none)
 | _, _ => match asS x, asS y with
  | some a, some b => strV op a b K
  | _, _ => match look ty T.und with
   | some .bool => (match asB x, asB y, op with
    | some a, some b, .eql => K (.bp (a = b) inferInstance)
    | some a, some b, .neq => K (.bn (a = b) inferInstance)
    | _, _, _ => none)
   | some (.ptr _) => (match isP x, isP y with
    | some a, some false => eqV op (!a) K
    | some false, some b => eqV op (!b) K
    | _, _ => none)
   | _ => none
section
variable {P : Program} {T : TT} {X : Cx} {E : En} {F : FS} {a : Act} {w : World} {st : St} {o : Oper} {u : Upd} {R : Type} {r : R} {B : Nat → Option Blk} {nb : Nat → Prop} {v : Value} {av : AV}
theorem asI_of {k : IntKind} {n : Int} (h : asI av = some (k, n)) (hh : Held E B w nb av v) : v = .int k n := by
 unfold asI at h
 split at h
 ·injection h with h; injection h with h1 h2; subst h1; subst h2; exact lit_of hh
 ·cases h
theorem asS_of {s : ByteArray} (h : asS av = some s) (hh : Held E B w nb av v) : v = .string s := by
 unfold asS at h
 split at h
 ·injection h with h; subst h; exact lit_of hh
 ·cases h
theorem isP_of {b : Bool} (h : isP av = some b) (hh : Held E B w nb av v) : ∃ p, v = .pointer p ∧ p.isSome = b := by
 unfold isP at h
 split at h
 ·injection h with h; exact ⟨none, lit_of hh, h⟩
 ·injection h with h; exact ⟨_, lit_of hh, h⟩
 ·injection h with h
  obtain ⟨g, us, h1, _⟩ := fp_of hh
  exact ⟨_, h1, h⟩
 ·injection h with h
  obtain ⟨p, x, h1, _⟩ := fc_of hh
  exact ⟨_, h1, h⟩
 ·injection h with h
  have h1 := hh.now
  unfold Den at h1
  exact ⟨_, h1.2, h⟩
 ·cases h
theorem strV_run {op : BinOp} {m n : ByteArray} {K : AV → Option R} (h : strV op m n K = some r) (P : Program) (ty : TypeId) (x y : Operand) :
  ∃ av, K av = some r ∧ ∀ w, ∃ v, (do eqGuard op ty x y (.string m) (.string n); binOp op ty (.string m) (.string n)).run P w = .ok v w ∧ ∀ E B nb, Held E B w nb av v := by
 cases op with
 | add =>
  simp only [strV] at h
  split at h
  ·rename_i hb
   rw [tApp_eq] at h
   refine ⟨_, h, fun w => ⟨_, ?_, fun _ _ _ => held_lit _⟩⟩
   have h2 := run_string_add_sum (P := P) (w := w) m n hb
   simp [eqGuard, binOp, h2]
  ·cases h
 | eql => exact ⟨_, h, fun w => ⟨.bool (m.toList == n.toList), by simp [eqGuard, binOp, Op.stringOp], fun _ _ _ => held_bp (by rw [tEq_eq]; unfold tEq0; rw [Bool.eq_iff_iff]; simp)⟩⟩
 | neq => exact ⟨_, h, fun w => ⟨.bool (!(m.toList == n.toList)), by simp [eqGuard, binOp, Op.stringOp], fun _ _ _ => held_bn (by rw [tEq_eq]; unfold tEq0; congr 1; rw [Bool.eq_iff_iff]; simp)⟩⟩
 | lss => exact ⟨_, h, fun w => ⟨.bool (Op.bytesLess m.toList n.toList), by simp [eqGuard, binOp, Op.stringOp], fun _ _ _ => held_bp (by rw [tLt_eq]; unfold tLt0; simp)⟩⟩
 | leq => exact ⟨_, h, fun w => ⟨.bool (Op.bytesLess m.toList n.toList || m.toList == n.toList), by simp [eqGuard, binOp, Op.stringOp], fun _ _ _ => held_bp (by rw [tEq_eq, tLt_eq]; unfold tEq0 tLt0; rw [Bool.eq_iff_iff]; simp)⟩⟩
 | gtr => exact ⟨_, h, fun w => ⟨.bool (!(Op.bytesLess m.toList n.toList || m.toList == n.toList)), by simp [eqGuard, binOp, Op.stringOp], fun _ _ _ => held_bn (by rw [tEq_eq, tLt_eq]; unfold tEq0 tLt0; congr 1; rw [Bool.eq_iff_iff]; simp)⟩⟩
 | geq => exact ⟨_, h, fun w => ⟨.bool (!Op.bytesLess m.toList n.toList), by simp [eqGuard, binOp, Op.stringOp], fun _ _ _ => held_bn (by rw [tLt_eq]; unfold tLt0; simp)⟩⟩
 | sub => cases h
 | mul => cases h
 | quo => cases h
 | rem => cases h
 | and => cases h
 | or => cases h
 | xor => cases h
 | andNot => cases h
 | shl => cases h
 | shr => cases h
theorem ptr_eq_run (hT : T.ok P) {op : BinOp} {ty : TypeId} {e : Nat} (ht : look ty T.und = some (.ptr e)) {p q : Option Addr} (hpq : p = none ∨ q = none) (x y : Operand) (w : World) {b : Bool} (hb : b = (p.isNone && q.isNone)) (hop : op = .eql ∨ op = .neq) :
  (do eqGuard op ty x y (.pointer p) (.pointer q); binOp op ty (.pointer p) (.pointer q)).run P w = .ok (.bool (if op = .eql then b else !b)) w := by
 have hu : P.underlying ty = some (.pointer e) := hT.1 ty _ ht
 have he : (Op.equal ty (.pointer p) (.pointer q)).run P w = .ok b w := by
  subst hb
  have key : ∀ d : Nat, (Op.equalIn (d + 1) ty (.pointer p) (.pointer q)).run P w = .ok (p.isNone && q.isNone) w := fun d => by
   rcases hpq with rfl | rfl
   ·cases q <;> simp [Op.equalIn, run_underlying hu]
   ·cases p <;> simp [Op.equalIn, run_underlying hu]
  exact key 9999
 have hg : (eqGuard op ty x y (.pointer p) (.pointer q)).run P w = .ok () w := by rcases hop with rfl | rfl <;> simp [eqGuard]
 rcases hop with rfl | rfl
 ·simp [Sem.run_bind, hg, binOp, he]
 ·simp [Sem.run_bind, hg, binOp, he]
theorem bin_ok (hT : T.ok P) {op : BinOp} {ty ty' : TypeId} {x y : Operand} (ho : o.op = .binOp op ty x y ty') {K : AV → Option R} (h : binV T op ty (ev st x) (ev st y) K = some r) : ∃ av, K av = some r ∧ OpOk P o st ⟨av, [], []⟩ := by
 have hx : x ∈ o.op.operands.toList := by simp [ho, Op.operands]
 have hy : y ∈ o.op.operands.toList := by simp [ho, Op.operands]
 have fin : ∀ {av : AV}, (∀ (E : En) (B : Nat → Option Blk) (w : World) (nb : Nat → Prop) (vx vy : Value), Held E B w nb (ev st x) vx → Held E B w nb (ev st y) vy → ∃ v, (do eqGuard op ty x y vx vy; binOp op ty vx vy).run P w = .ok v w ∧ Held E B w nb av v) → OpOk P o st ⟨av, [], []⟩ := fun hf => ok2 hx hy fun E B w nb a h1 h2 => by
  obtain ⟨v, h3, h4⟩ := hf E B w nb _ _ h1 h2
  refine ⟨v, ?_, h4⟩
  unfold execOp
  simp only [ho]
  rw [Sem.run_bind, h3]
  rfl
 unfold binV at h
 split at h
 ·rename_i k m k' n hm hn
  split at h
  ·split at h
   ·rename_i hb
    refine ⟨_, h, fin fun E B w nb vx vy h1 h2 => ⟨_, ?_, held_lit _⟩⟩
    rw [asI_of hm h1, asI_of hn h2]
    simp [eqGuard, binOp, Op.shift, shl, show ¬ n < 0 by omega]
   ·cases h
  ·split at h
   ·rename_i hb
    refine ⟨_, h, fin fun E B w nb vx vy h1 h2 => ⟨_, ?_, held_lit _⟩⟩
    rw [asI_of hm h1, asI_of hn h2]
    have hp : (0 : Int) ≤ 2 ^ min n.toNat k.bits := Int.pow_nonneg (by decide)
    simp [eqGuard, binOp, Op.shift, shr, show ¬ n < 0 by omega, Int.fdiv_eq_ediv_of_nonneg _ hp]
   ·cases h
  ·split at h
   ·rename_i hk
    subst hk
    obtain ⟨av, h1, h2⟩ := binI_run h P ty x y
    refine ⟨av, h1, fin fun E B w nb vx vy h3 h4 => ?_⟩
    rw [asI_of hm h3, asI_of hn h4]
    obtain ⟨v, h5, h6⟩ := h2 w
    exact ⟨v, h5, h6 _ _ _⟩
   ·cases h
 ·split at h
  ·rename_i m n hm hn
   obtain ⟨av, h1, h2⟩ := strV_run h P ty x y
   refine ⟨av, h1, fin fun E B w nb vx vy h3 h4 => ?_⟩
   rw [asS_of hm h3, asS_of hn h4]
   obtain ⟨v, h5, h6⟩ := h2 w
   exact ⟨v, h5, h6 _ _ _⟩
  ·split at h
   ·rename_i ht
    have hu : P.underlying ty = some .bool := hT.1 ty _ ht
    split at h
    ·rename_i m n hm hn
     refine ⟨_, h, fin fun E B w nb vx vy h3 h4 => ⟨.bool (m == n), ?_, held_bp rfl⟩⟩
     rw [asB_of hm h3, asB_of hn h4]
     simp [Sem.run_bind, eqGuard, binOp, run_equal_bool w ty m n hu]
    ·rename_i m n hm hn
     refine ⟨_, h, fin fun E B w nb vx vy h3 h4 => ⟨.bool (!(m == n)), ?_, held_bn rfl⟩⟩
     rw [asB_of hm h3, asB_of hn h4]
     simp [Sem.run_bind, eqGuard, binOp, run_equal_bool w ty m n hu]
    ·cases h
   ·rename_i e ht
    have key : ∀ {b : Bool} {K : AV → Option R}, eqV op b K = some r → ∃ av, K av = some r ∧ (op = .eql ∨ op = .neq) ∧ av = .lit (.bool (if op = .eql then b else !b)) := by
     intro b K h
     unfold eqV at h
     split at h
     ·exact ⟨_, h, .inl rfl, by simp⟩
     ·exact ⟨_, h, .inr rfl, by simp⟩
     ·cases h
    split at h
    ·rename_i m hm hn
     obtain ⟨av, h1, h2, rfl⟩ := key h
     refine ⟨_, h1, fin fun E B w nb vx vy h3 h4 => ⟨_, ?_, held_lit _⟩⟩
     obtain ⟨p, rfl, h5⟩ := isP_of hm h3
     obtain ⟨q, rfl, h6⟩ := isP_of hn h4
     have hq : q = none := by cases q <;> simp_all
     subst hq
     exact ptr_eq_run hT ht (.inr rfl) x y w (by rw [← h5]; cases p <;> rfl) h2
    ·rename_i n hm hn
     obtain ⟨av, h1, h2, rfl⟩ := key h
     refine ⟨_, h1, fin fun E B w nb vx vy h3 h4 => ⟨_, ?_, held_lit _⟩⟩
     obtain ⟨p, rfl, h5⟩ := isP_of hm h3
     obtain ⟨q, rfl, h6⟩ := isP_of hn h4
     have hq : p = none := by cases p <;> simp_all
     subst hq
     exact ptr_eq_run hT ht (.inl rfl) x y w (by rw [← h6]; cases q <;> rfl) h2
    ·cases h
   ·cases h
end
noncomputable def unV {R : Type} (op : UnOp) (x : AV) (K : AV → Option R) : Option R := match op, x with
 | .not, .lit (.bool b) => K (.lit (.bool (!b)))
 | .not, .bp p i => K (.bn p i)
 | .not, .bn p i => K (.bp p i)
 | .neg, .lit (.int k n) => K (.lit (.int k (wr k (-n))))
 | .xor, .lit (.int k n) => K (.lit (.int k (bits .xor k (if k.signed then -1 else k.max) n)))
 | _, _ => none
noncomputable def convI {R : Type} (T : TT) (src dst : TypeId) (x : AV) (K : AV → Option R) : Option R := match look src T.und, look dst T.und, x with
 | some _, some (.int k), .lit (.int _ n) => K (.lit (.int k (wr k n)))
 | some .str, some .str, .lit (.string s) => K (.lit (.string s))
 | _, _, _ => none
def extV {R : Type} (x : AV) (i : Nat) (K : AV → Option R) : Option R := match x with
 | .tup l => (match nth l i with
  | some a => K a
  | none => none)
 | _ => none
def partV {R : Type} (T : TT) (t : TypeId) (l : List AV) (off : Nat) (K : AV → Option R) : Option R := match look t T.und with
 | some d => (match d.scalar with
  | true => (match nth l off with
   | some a => K a
   | none => none)
  | false => (match look t T.inf with
   | some (s, _) => (match Nat.ble (off + s) l.length with
    | true => K (.agg ((l.drop off).take s))
    | false => none)
   | none => none))
 | none => none
def fieldV {R : Type} (T : TT) (ty : TypeId) (x : AV) (f : Nat) (K : AV → Option R) : Option R := match look ty T.und, x with
 | some (.struct fs), .agg l => (match nth fs f with
  | some (t, off) => partV T t l off K
  | none => none)
 | _, _ => none
def nilV {R : Type} (x : AV) (K : AV → Option R) : Option R := match isP x with
 | some true => K x
 | _ => none
def faV {R : Type} (T : TT) (s : TypeId) (x : AV) (f : Nat) (K : AV → Option R) : Option R := match look s T.und with
 | some (.struct fs) => (match nth fs f with
  | some (t, off) => (match look t T.inf with
   | some (sz, _) => (match sz, x with
    | 0, _ => none
    | _, .ptr id o => K (.ptr id (o + off))
    | _, .fp _ l => (match nth l off with
     | some c => K (.fc c)
     | none => none)
    | _, _ => none)
   | none => none)
  | none => none)
 | _ => none
def splitPtr {R : Type} (K : AV → List Nat → Option R) (id off s : Nat) (i : Int) : Nat → Nat → Option R
 | _, 0 => none
 | j, n + 1 => if i = (j : Int) then K (.ptr id (off + j * s)) [] else splitPtr K id off s i (j + 1) n
def litOf : Operand → Option Nat
 | .const (.int _ (.ofNat n)) => some n
 | _ => none
noncomputable def iaV {R : Type} (T : TT) (st : St) (t : TypeId) (x ix : AV) (c : Option Nat) (K : AV → List Nat → Option R) : Option R := match look t T.und, asI ix with
 | some (.slice e), some (_, i) => (match look e T.inf with
  | some (z, _) => (match x with
   | .row k l => (match Nat.beq z 1 with
    | true => if 0 ≤ i then if i < (l.length : Int) then K (.fc (.lit (.int k (rd l i)))) [] else none else none
    | false => none)
   | .rows k l => (match Nat.beq z k.z with
    | true => if 0 ≤ i then if i < (l.length : Int) then K (.fcs (k.avs (rd l i))) [] else none else none
    | false => none)
   | .sli id => (match st.blk id with
    | some (.ints k e' l) => (match Nat.beq z k.z with
     | true => if 0 ≤ i then if i < (l.length : Int) then K (.el id i) [id] else none else none
     | false => none)
    | _ => none)
   | _ => none)
  | _ => none)
 | some (.array n e), some (_, i) => (match look e T.inf, x with
  | some (z, _), .ptr id off => (match c with
   | some j => (match Nat.blt j n with
    | true => K (.ptr id (off + j * z)) []
    | false => none)
   | none => (match Nat.ble n 8 with
    | true => splitPtr K id off z i 0 n
    | false => none))
  | _, _ => none)
 | _, _ => none
def ixV {R : Type} (T : TT) (t : TypeId) (x ix : AV) (K : AV → Option R) : Option R := match look t T.und, asI ix with
 | some .str, some (_, i) => (match x with
  | .lit (.string s) => if 0 ≤ i then if i < (s.size : Int) then K (.lit (.int .u8 (bt s i))) else none else none
  | _ => none)
 | some (.array n e), some (_, .ofNat i) => (match look e T.inf, x with
  | some (1, _), .agg l => (match Nat.blt i n with
   | true => partV T e l i K
   | false => none)
  | _, _ => none)
 | _, _ => none
noncomputable def loadV {R : Type} (T : TT) (st : St) (t : TypeId) (x : AV) (K : AV → List Nat → Option R) : Option R := match x with
 | .fc c => (match look t T.und with
  | some d => (match d.scalar with
   | true => K c []
   | false => none)
  | none => none)
 | .el id i => (match st.blk id with
  | some (.ints k e l) => partV T t (k.avs (rd l i)) 0 (fun c => K c [id])
  | _ => none)
 | .fcs l => (match l with
  | [] => none
  | _ :: _ => partV T t l 0 (fun c => K c []))
 | .ptr id off => (match st.blk id with
  | some (.cells ty l) => partV T t l off (fun c => K c [id])
  | _ => none)
 | .fp ty l => partV T t l 0 (fun c => K c [])
 | _ => none
section
variable {P : Program} {T : TT} {X : Cx} {E : En} {F : FS} {a : Act} {w : World} {st : St} {o : Oper} {u : Upd} {R : Type} {r : R} {B : Nat → Option Blk} {nb : Nat → Prop} {v : Value} {av : AV}
theorem un_ok {op : UnOp} {ty : TypeId} {x : Operand} (ho : o.op = .unOp op ty x) {K : AV → Option R} (h : unV op (ev st x) K = some r) : ∃ av, K av = some r ∧ OpOk P o st ⟨av, [], []⟩ := by
 have hx : x ∈ o.op.operands.toList := by simp [ho, Op.operands]
 unfold unV at h
 split at h
 ·rename_i b he
  refine ⟨_, h, ok1 hx fun E B w nb a h1 => ⟨_, ?_, held_lit _⟩⟩
  rw [he] at h1
  simp [execOp, ho, lit_of h1, Op.unary]
 ·rename_i p i he
  refine ⟨_, h, ok1 hx fun E B w nb a h1 => ⟨.bool (!(@decide p i)), ?_, held_bn rfl⟩⟩
  rw [he] at h1
  simp [execOp, ho, bp_of h1, Op.unary]
 ·rename_i p i he
  refine ⟨_, h, ok1 hx fun E B w nb a h1 => ⟨.bool (@decide p i), ?_, held_bp rfl⟩⟩
  rw [he] at h1
  simp [execOp, ho, bn_of h1, Op.unary]
 ·rename_i k n he
  refine ⟨_, h, ok1 hx fun E B w nb a h1 => ⟨_, ?_, held_lit _⟩⟩
  rw [he] at h1
  simp [execOp, ho, lit_of h1, Op.unary, Op.intArith, wr_eq]
 ·rename_i k n he
  refine ⟨_, h, ok1 hx fun E B w nb a h1 => ⟨_, ?_, held_lit _⟩⟩
  rw [he] at h1
  simp [execOp, ho, lit_of h1, Op.unary, intBits_xor]
 ·cases h
theorem und_some {t : TypeId} {d : UD} (h : d.ok P t) : ∃ D, P.underlying t = some D := by
 cases d with
 | struct fs => obtain ⟨f, h1, _⟩ := h; exact ⟨_, h1⟩
 | _ => exact ⟨_, h⟩
theorem conv_ok (hT : T.ok P) {src dst : TypeId} {x : Operand} (ho : o.op = .convert src dst x) {K : AV → Option R} (h : convI T src dst (ev st x) K = some r) : ∃ av, K av = some r ∧ OpOk P o st ⟨av, [], []⟩ := by
 have hx : x ∈ o.op.operands.toList := by simp [ho, Op.operands]
 unfold convI at h
 split at h
 ·rename_i d k k' n hs hd he
  obtain ⟨D, h1⟩ := und_some (hT.1 src _ hs)
  have h2 : P.underlying dst = some (.int k) := hT.1 dst _ hd
  refine ⟨_, h, ok1 hx fun E B w nb a h3 => ⟨_, ?_, held_lit _⟩⟩
  rw [he] at h3
  simp [execOp, ho, lit_of h3, convert, run_underlying h1, run_underlying h2, Conv.intToInt, wr_eq]
 ·rename_i s hs hd he
  have h1 : P.underlying src = some .string := hT.1 src _ hs
  have h2 : P.underlying dst = some .string := hT.1 dst _ hd
  refine ⟨_, h, ok1 hx fun E B w nb a h3 => ⟨_, ?_, held_lit _⟩⟩
  rw [he] at h3
  simp [execOp, ho, lit_of h3, convert, run_underlying h1, run_underlying h2]
 ·cases h
theorem heldL_len : ∀ {as : List AV} {us : List Value}, HeldL E B w nb as us → us.length = as.length
 | [], us, h => by rw [heldL_nil_of h]; rfl
 | a :: as, us, h => by
  obtain ⟨u, us', rfl, _, h2⟩ := heldL_cons_of h
  simp [heldL_len h2]
theorem heldL_get : ∀ {as : List AV} {us : List Value}, HeldL E B w nb as us → ∀ {i : Nat} {a : AV}, as[i]? = some a → ∃ u, us[i]? = some u ∧ Held E B w nb a u
 | [], us, h, i, a, hi => by simp at hi
 | a :: as, us, h, i, a', hi => by
  obtain ⟨u, us', rfl, h1, h2⟩ := heldL_cons_of h
  cases i with
  | zero =>
   simp only [List.getElem?_cons_zero, Option.some.injEq] at hi
   subst hi
   exact ⟨u, rfl, h1⟩
  | succ i =>
   simp only [List.getElem?_cons_succ] at hi ⊢
   exact heldL_get h2 hi
theorem heldL_drop : ∀ {as : List AV} {us : List Value} (n : Nat), HeldL E B w nb as us → HeldL E B w nb (as.drop n) (us.drop n)
 | as, us, 0, h => h
 | [], us, n + 1, h => by rw [heldL_nil_of h]; exact heldL_nil
 | a :: as, us, n + 1, h => by
  obtain ⟨u, us', rfl, h1, h2⟩ := heldL_cons_of h
  exact heldL_drop n h2
theorem heldL_take : ∀ {as : List AV} {us : List Value} (n : Nat), HeldL E B w nb as us → HeldL E B w nb (as.take n) (us.take n)
 | as, us, 0, h => by simpa using heldL_nil
 | [], us, n + 1, h => by rw [heldL_nil_of h]; exact heldL_nil
 | a :: as, us, n + 1, h => by
  obtain ⟨u, us', rfl, h1, h2⟩ := heldL_cons_of h
  simpa using heldL_cons h1 (heldL_take n h2)
theorem ext_ok {i : Nat} {x : Operand} (ho : o.op = .extract x i) {K : AV → Option R} (h : extV (ev st x) i K = some r) : ∃ av, K av = some r ∧ OpOk P o st ⟨av, [], []⟩ := by
 have hx : x ∈ o.op.operands.toList := by simp [ho, Op.operands]
 unfold extV at h
 split at h
 ·rename_i l he
  split at h
  ·rename_i a hn
   rw [nth_eq] at hn
   refine ⟨_, h, ok1 hx fun E B w nb a' h1 => ?_⟩
   rw [he] at h1
   obtain ⟨us, h2, h3⟩ := tup_of h1
   obtain ⟨u, h4, h5⟩ := heldL_get h3 hn
   exact ⟨u, by simp [execOp, ho, h2, Instr.extract, h4], h5⟩
  ·cases h
 ·cases h
theorem run_isAgg {t : TypeId} {d : UD} (h : d.ok P t) : (isAgg t).run P w = .ok (!d.scalar) w := by
 unfold isAgg
 cases d with
 | struct fs => obtain ⟨f, h1, _⟩ := h; simp [run_underlying h1, UD.scalar]
 | int k => have h1 : P.underlying t = _ := h; simp [run_underlying h1, UD.scalar]
 | bool => have h1 : P.underlying t = _ := h; simp [run_underlying h1, UD.scalar]
 | str => have h1 : P.underlying t = _ := h; simp [run_underlying h1, UD.scalar]
 | ptr e => have h1 : P.underlying t = _ := h; simp [run_underlying h1, UD.scalar]
 | slice e => have h1 : P.underlying t = _ := h; simp [run_underlying h1, UD.scalar]
 | array n e => have h1 : P.underlying t = _ := h; simp [run_underlying h1, UD.scalar]
 | map k e => have h1 : P.underlying t = _ := h; simp [run_underlying h1, UD.scalar]
theorem run_sizeOf (hT : T.ok P) {t : TypeId} {x : Nat × Nat × List Value} (h : look t T.inf = some x) : (sizeOf t).run P w = .ok x.1 w := by
 obtain ⟨i, z, h1, h2, _⟩ := hT.2 t x h
 simp [sizeOf, typeInfo, h1, h2]
theorem partV_of (hT : T.ok P) {t : TypeId} {l : List AV} {off : Nat} {K : AV → Option R} (h : partV T t l off K = some r) : ∃ c, K c = some r ∧ ∀ E B w nb us, HeldL E B w nb l us → ∃ v, Held E B w nb c v ∧ (part t us.toArray off).run P w = .ok v w ∧
  ∀ g ty fz, w.heap[g]? = some (.cells us.toArray ty fz) → (loadVar t ⟨g, off, none⟩).run P w = .ok v w := by
 unfold partV at h
 split at h
 ·rename_i d hd
  have hok := hT.1 t d hd
  split at h
  ·rename_i hs
   split at h
   ·rename_i c hn
    rw [nth_eq] at hn
    refine ⟨c, h, fun E B w nb us hh => ?_⟩
    obtain ⟨u, h1, h2⟩ := heldL_get hh hn
    refine ⟨u, h2, ?_, fun g ty fz hg => ?_⟩
    ·simp [part, run_isAgg hok, hs, h1]
    ·have hc : w.cell? ⟨g, off, none⟩ = some u := by rw [cell_of_row w g off _ ty fz hg]; simpa using h1
     simp [loadVar, run_isAgg hok, hs, load, Sem.run, hc]
   ·cases h
  ·rename_i hs
   split at h
   ·rename_i s x hi
    split at h
    ·rename_i hle
     have hle' : off + s ≤ l.length := Nat.le_of_ble_eq_true hle
     refine ⟨_, h, fun E B w nb us hh => ⟨.agg ((us.drop off).take s).toArray, held_agg (heldL_take s (heldL_drop off hh)), ?_, fun g ty fz hg => ?_⟩⟩
     ·have e1 : us.toArray.extract off (off + s) = ((us.drop off).take s).toArray := by simp [List.extract_eq_take_drop]
      simp [part, run_isAgg hok, hs, run_sizeOf hT hi, e1]
     ·have hlen := heldL_len hh
      have hl := run_loadCells_list (P := P) w ⟨g, off, none⟩ ((us.drop off).take s) (fun j v hv => by
       have hadd : (⟨g, off, none⟩ : Addr).add j = ⟨g, off + j, none⟩ := by unfold Addr.add; split <;> simp_all
       rw [hadd, cell_of_row w g _ _ ty fz hg]
       have h9 := List.getElem?_eq_some_iff.1 hv
       have hj : j < s := by have := h9.1; simp at this; omega
       rw [List.getElem?_take_of_lt hj, List.getElem?_drop] at hv
       simpa using hv)
      have h8 : ((us.drop off).take s).length = s := by simp; omega
      rw [h8] at hl
      simp [loadVar, run_isAgg hok, hs, run_sizeOf hT hi, hl]
    ·cases h
   ·cases h
 ·cases h
theorem partV_at (hT : T.ok P) {t : TypeId} {l : List AV} {K : AV → Option R} (h : partV T t l 0 K = some r) : ∃ c, K c = some r ∧ ∀ E B w nb us p, HeldL E B w nb l us → (∀ (j : Nat) (v : Value), us[j]? = some v → w.cell? (p.add j) = some v) → ∃ v, Held E B w nb c v ∧ (loadVar t p).run P w = .ok v w := by
 unfold partV at h
 split at h
 ·rename_i d hd
  have hok := hT.1 t d hd
  split at h
  ·rename_i hs
   split at h
   ·rename_i c hn
    rw [nth_eq] at hn
    refine ⟨c, h, fun E B w nb us p hh hp => ?_⟩
    obtain ⟨u, h1, h2⟩ := heldL_get hh hn
    have hc := hp 0 u h1
    have h0 : p.add 0 = p := rfl
    rw [h0] at hc
    exact ⟨u, h2, by simp [loadVar, run_isAgg hok, hs, load, Sem.run, hc]⟩
   ·cases h
  ·rename_i hs
   split at h
   ·rename_i s x hi
    split at h
    ·rename_i hle
     have hle' : 0 + s ≤ l.length := Nat.le_of_ble_eq_true hle
     refine ⟨_, h, fun E B w nb us p hh hp => ⟨.agg ((us.drop 0).take s).toArray, held_agg (heldL_take s (heldL_drop 0 hh)), ?_⟩⟩
     have hlen := heldL_len hh
     have hl := run_loadCells_list (P := P) w p ((us.drop 0).take s) (fun j v hv => by
      have h9 := List.getElem?_eq_some_iff.1 hv
      have hj : j < s := by have := h9.1; simp at this; omega
      rw [List.getElem?_take_of_lt hj, List.getElem?_drop, Nat.zero_add] at hv
      exact hp j v hv)
     have h8 : ((us.drop 0).take s).length = s := by simp; omega
     rw [h8] at hl
     simp [loadVar, run_isAgg hok, hs, run_sizeOf hT hi, hl]
    ·cases h
   ·cases h
 ·cases h
theorem add_add (a : Addr) (m n : Nat) : (a.add m).add n = a.add (m + n) := by
 unfold Addr.add
 by_cases hm : m = 0
 ·subst hm; simp
 ·by_cases hn : n = 0
  ·subst hn; simp [hm]
  ·simp [hm, hn, Nat.add_assoc]
theorem add_own (g off n : Nat) : (⟨g, off, none⟩ : Addr).add n = ⟨g, off + n, none⟩ := by unfold Addr.add; split <;> simp_all
theorem el_den {W : World} {k : EK} {n : Int} {us : List Value} (h : ElAt W k n us) : DenL E B W (k.avs n) us := by
 cases k <;> simp only [ElAt] at h
 ·subst h; simp only [EK.avs, DenL]; exact ⟨_, _, rfl, by unfold Den; rfl, rfl⟩
 ·subst h; simp only [EK.avs, DenL]; exact ⟨_, _, rfl, by unfold Den; rfl, rfl⟩
 ·obtain ⟨u, rfl, h⟩ := h; simp only [EK.avs, DenL]; exact ⟨_, _, rfl, by unfold Den; exact h, rfl⟩
 ·obtain ⟨u, rfl, h⟩ := h; simp only [EK.avs, DenL]; exact ⟨_, _, rfl, by unfold Den; rfl, _, _, rfl, by unfold Den; exact h, rfl⟩
 ·obtain ⟨u, rfl, h⟩ := h; simp only [EK.avs, DenL]; exact ⟨_, _, rfl, by unfold Den; rfl, _, _, rfl, by unfold Den; exact h, rfl⟩
theorem elsAt_get {W : World} {k : EK} : ∀ {l : List Int} {us : List Value}, ElsAt W k l us → ∀ {i : Nat}, i < l.length → ElAt W k (l.getD i 0) ((us.drop (i * k.z)).take k.z)
 | [], us, h, i, hi => by simp at hi
 | n :: l, us, h, 0, hi => by
  simp only [ElsAt] at h
  obtain ⟨x, y, rfl, h1, h2⟩ := h
  have := elAt_len h1
  rw [Nat.zero_mul, List.drop_zero, ← this, List.take_left]
  exact h1
 | n :: l, us, h, i + 1, hi => by
  simp only [ElsAt] at h
  obtain ⟨x, y, rfl, h1, h2⟩ := h
  have h3 := elAt_len h1
  have h4 := elsAt_get h2 (i := i) (by simpa using hi)
  have e : (x ++ y).drop ((i + 1) * k.z) = y.drop (i * k.z) := by
   rw [Nat.add_mul, Nat.one_mul, Nat.add_comm, ← h3, List.drop_append, List.drop_of_length_le (by omega), List.nil_append, Nat.add_sub_cancel_left]
  rw [e]
  exact h4
theorem heldEls_get {k : EK} {l : List Int} {us : List Value} (h : HeldEls w nb k l us) {i : Nat} (hi : i < l.length) : HeldL E B w nb (k.avs (l.getD i 0)) ((us.drop (i * k.z)).take k.z) := fun W' hW => el_den (elsAt_get (h W' hW) hi)
theorem cut_get {us : List Value} {m n j : Nat} {v : Value} (h : ((us.drop m).take n)[j]? = some v) : us[m + j]? = some v := by
 have h9 := List.getElem?_eq_some_iff.1 h
 have hj : j < n := by have := h9.1; simp at this; omega
 rwa [List.getElem?_take_of_lt hj, List.getElem?_drop] at h
theorem SimAt.pos (h : SimAt X E F a w) {id : Nat} {k : EK} {e : TypeId} {l : List Int} (hB : F.B id = some (.ints k e l)) (hl : 0 < l.length) : E.ν id = false := by
 have h1 := h.blk id _ hB
 by_cases hn : E.ν id = true
 ·cases k <;> simp only [BlkAt, hn, if_true] at h1 <;> first | (rw [h1] at hl; simp at hl; done) | (simp at h1; done)
 ·simpa using hn
theorem SimAt.elc (h : SimAt X E F a w) {id : Nat} {k : EK} {e : TypeId} {l : List Int} (hB : F.B id = some (.ints k e l)) {i : Nat} (hi : i < l.length) :
  ∃ us, HeldL E F.B w (NB X.okk E F.B) (k.avs (l.getD i 0)) us ∧ ∀ (j : Nat) (v : Value), us[j]? = some v → w.cell? ⟨E.ρ id, i * k.z + j, none⟩ = some v := by
 have hν := h.pos hB (by omega)
 have h1 := h.blk id _ hB
 have oth : OthAt w (NB X.okk E F.B) (E.ρ id) (E.γ id) k e l → ∃ us, HeldL E F.B w (NB X.okk E F.B) (k.avs (l.getD i 0)) us ∧ ∀ (j : Nat) (v : Value), us[j]? = some v → w.cell? ⟨E.ρ id, i * k.z + j, none⟩ = some v := by
  rintro ⟨cs, us, h2, _, _, _, h3, h4⟩
  refine ⟨_, heldEls_get h3 hi, fun j v hv => ?_⟩
  rw [cell_of_row w _ _ _ _ _ h2]
  exact h4 _ _ (cut_get hv)
 cases k with
 | num k =>
  obtain ⟨_, cs, h2, _, _, _, h3⟩ := h.ints hB (by omega)
  refine ⟨[.int k (l.getD i 0)], heldL_cons (held_lit _) heldL_nil, fun j v hv => ?_⟩
  have hj : j = 0 := by have := (List.getElem?_eq_some_iff.1 hv).1; simp at this; omega
  subst hj
  simp at hv
  subst hv
  rw [cell_of_row w _ _ _ _ _ h2]
  show cs[i * 1 + 0]? = _
  rw [Nat.mul_one, Nat.add_zero, h3 i hi, List.getD_eq_getElem?_getD]
 | map a b => exact ⟨[], heldL_nil, fun j v hv => by simp at hv⟩
 | _ =>
  simp only [BlkAt, hν, Bool.false_eq_true, if_false] at h1
  exact oth h1
theorem field_ok (hT : T.ok P) {ty : TypeId} {f : Nat} {x : Operand} (ho : o.op = .field ty x f) {K : AV → Option R} (h : fieldV T ty (ev st x) f K = some r) : ∃ av, K av = some r ∧ OpOk P o st ⟨av, [], []⟩ := by
 have hx : x ∈ o.op.operands.toList := by simp [ho, Op.operands]
 unfold fieldV at h
 split at h
 ·rename_i fs l ht he
  split at h
  ·rename_i t off hn
   rw [nth_eq] at hn
   obtain ⟨c, h1, h2⟩ := partV_of hT h
   obtain ⟨fields, h3, h4⟩ := hT.1 ty _ ht
   refine ⟨c, h1, ok1 hx fun E B w nb a h5 => ?_⟩
   rw [he] at h5
   obtain ⟨us, h6, h7⟩ := agg_of h5
   obtain ⟨v, h8, h9, _⟩ := h2 E B w nb us h7
   rw [← h4, List.getElem?_map] at hn
   obtain ⟨fd, hf, hfe⟩ := Option.map_eq_some_iff.1 hn
   injection hfe with e1 e2
   have hf' : fields[f]? = some fd := by simpa using hf
   refine ⟨v, ?_, h8⟩
   simp [execOp, ho, h6, Instr.field, run_underlying h3, hf', asAgg, e1, e2, h9]
  ·cases h
 ·cases h
theorem nil_ok {x : Operand} (ho : o.op = .nilCheck x) {K : AV → Option R} (h : nilV (ev st x) K = some r) : ∃ av, K av = some r ∧ OpOk P o st ⟨av, [], []⟩ := by
 have hx : x ∈ o.op.operands.toList := by simp [ho, Op.operands]
 unfold nilV at h
 split at h
 ·rename_i he
  refine ⟨_, h, ok1 hx fun E B w nb a h1 => ?_⟩
  obtain ⟨p, h2, h3⟩ := isP_of he h1
  cases p with
  | none => cases h3
  | some p => exact ⟨_, by simp [execOp, ho, h2], h2 ▸ h1⟩
 ·cases h
theorem fa_ok (hT : T.ok P) {s : TypeId} {f : Nat} {x : Operand} (ho : o.op = .fieldAddr s x f) {K : AV → Option R} (h : faV T s (ev st x) f K = some r) : ∃ av, K av = some r ∧ OpOk P o st ⟨av, [], []⟩ := by
 have hx : x ∈ o.op.operands.toList := by simp [ho, Op.operands]
 unfold faV at h
 split at h
 ·rename_i fs ht
  split at h
  ·rename_i t off hn
   rw [nth_eq] at hn
   obtain ⟨fields, h3, h4⟩ := hT.1 s _ ht
   rw [← h4, List.getElem?_map] at hn
   obtain ⟨fd, hf, hfe⟩ := Option.map_eq_some_iff.1 hn
   injection hfe with e1 e2
   have hf' : fields[f]? = some fd := by simpa using hf
   split at h
   ·rename_i sz rest hi
    have hplace : sz ≠ 0 → ∀ (w : World) (ad : Addr), (fieldPlace ad fd).run P w = .ok (ad.add off) w := by
     intro hsz w ad
     subst e1
     have := run_sizeOf (w := w) hT hi
     simp [fieldPlace, this, hsz, e2]
    split at h
    ·cases h
    ·rename_i id o' hz he
     refine ⟨_, h, ok1 hx fun E B w nb a h5 => ⟨.pointer (some ⟨E.ρ id, o' + off, none⟩), ?_, fun W' hW => ?_⟩⟩
     ·rw [he] at h5
      have h6 := h5.now
      unfold Den at h6
      have hadd : (⟨E.ρ id, o', none⟩ : Addr).add off = ⟨E.ρ id, o' + off, none⟩ := by unfold Addr.add; split <;> simp_all
      simp [execOp, ho, h6.2, Instr.fieldAt, run_underlying h3, hf', Instr.sureAddr, hplace hz, hadd]
     ·rw [he] at h5
      have h6 := h5 W' hW
      unfold Den at h6 ⊢
      exact ⟨h6.1, rfl⟩
    ·rename_i ty l hz he
     split at h
     ·rename_i c hc
      rw [nth_eq] at hc
      refine ⟨_, h, ok1 hx fun E B w nb a h5 => ?_⟩
      rw [he] at h5
      obtain ⟨g, us, h6, h7, h8, h9, h10⟩ := fp_of h5
      obtain ⟨u, h11, h12⟩ := heldL_get h10 hc
      have hadd : (⟨g, 0, none⟩ : Addr).add off = ⟨g, off, none⟩ := by unfold Addr.add; split <;> simp_all
      refine ⟨.pointer (some ⟨g, off, none⟩), ?_, fun W' hW => ?_⟩
      ·simp [execOp, ho, h6, Instr.fieldAt, run_underlying h3, hf', Instr.sureAddr, hplace hz, hadd]
      ·unfold Den
       refine ⟨_, u, rfl, ?_, h12 W' hW⟩
       rw [cell_same (W := w) (hW g h8 h9), cell_of_row w g off _ ty _ h7]
       simpa using h11
     ·cases h
    ·cases h
   ·cases h
  ·cases h
 ·cases h
theorem row_of {k : IntKind} {l : List Int} (h : Held E B w nb (.row k l) v) : ∃ A c, v = .slice A l.length c ∧ l.length ≤ c ∧ (0 < l.length → ∃ a, A = some a ∧ nb a.block ∧ a.block < w.heap.size ∧ ∀ i, i < l.length → w.cell? (a.add i) = some (.int k (l.getD i 0))) := by
 have h1 := h.now
 unfold Den RowAt at h1
 obtain ⟨A, c, rfl, h2, h3⟩ := h1
 refine ⟨A, c, rfl, h2, fun hl => ?_⟩
 obtain ⟨a, rfl, h4⟩ := h3 hl
 have hf : nb a.block ∧ a.block < w.heap.size := foot_in fun W' hW => by
  have h5 := h W' hW
  unfold Den RowAt at h5
  obtain ⟨A', c', he, _, h6⟩ := h5
  obtain ⟨a', h7, h8⟩ := h6 hl
  injection he with he1 he2 he3
  rw [← he1] at h7
  injection h7 with h7
  subst h7
  have := cell_block (h8 0 hl)
  simpa [Addr.add] using this
 exact ⟨a, rfl, hf.1, hf.2, h4⟩
theorem add_block (a : Addr) (n : Nat) : (a.add n).block = a.block := by unfold Addr.add; split <;> rfl
theorem held_row_el {k : IntKind} {l : List Int} {A : Option Addr} {c : Nat} (h : Held E B w nb (.row k l) (.slice A l.length c)) {i : Nat} (hi : i < l.length) : ∃ a, A = some a ∧ Held E B w nb (.fc (.lit (.int k (l.getD i 0)))) (.pointer (some (a.add i))) := by
 obtain ⟨A', c', he, _, h1⟩ := row_of h
 injection he with e1 e2 e3
 subst e1
 obtain ⟨a, rfl, h2, h3, h4⟩ := h1 (by omega)
 refine ⟨a, rfl, fun W' hW => ?_⟩
 unfold Den
 exact ⟨_, _, rfl, (cell_same (by rw [add_block]; exact hW _ h2 h3)).trans (h4 i hi), by unfold Den; rfl⟩
theorem held_rows_el {k : EK} {l : List Int} {A : Option Addr} {c : Nat} (h : Held E B w nb (.rows k l) (.slice A l.length c)) {i : Nat} (hi : i < l.length) : ∃ a, A = some a ∧ Held E B w nb (.fcs (k.avs (l.getD i 0))) (.pointer (some (a.add (i * k.z)))) := by
 obtain ⟨A', c', us, he, _, h1, h2⟩ := rows_of h
 injection he with e1 e2 e3
 subst e1
 obtain ⟨a, rfl, h3, h4, h5⟩ := h2 (by omega)
 refine ⟨a, rfl, fun W' hW => ?_⟩
 unfold Den
 refine ⟨_, _, rfl, fun j v hv => ?_, heldEls_get (E := E) (B := B) h1 hi W' hW⟩
 rw [add_add]
 exact (cell_same (by rw [add_block]; exact hW _ h3 h4)).trans (h5 _ v (cut_get hv))
theorem run_indexAt (hT : T.ok P) {t e z : Nat} {rest : Nat × List Value} (ht : look t T.und = some (.slice e)) (he : look e T.inf = some (z, rest)) {a : Addr} {len c : Nat} {kd : IntKind} {i : Int} (h0 : 0 ≤ i) (h1 : i < len) : (Instr.indexAt t (.slice (some a) len c) (.int kd i)).run P w = .ok (.pointer (some (a.add (i.toNat * z)))) w := by
 have hu : P.underlying t = some (.slice e) := hT.1 t _ ht
 have hs := run_sizeOf (w := w) hT he
 simp [Instr.indexAt, asIntOf, run_underlying hu, h0, h1, hs]
theorem run_indexArr (hT : T.ok P) {t e n z : Nat} {rest : Nat × List Value} (ht : look t T.und = some (.array n e)) (he : look e T.inf = some (z, rest)) {a : Addr} {kd : IntKind} {i : Nat} (h1 : i < n) : (Instr.indexAt t (.pointer (some a)) (.int kd (i : Int))).run P w = .ok (.pointer (some (a.add (i * z)))) w := by
 have hu : P.underlying t = some (.array n e) := hT.1 t _ ht
 have hs := run_sizeOf (w := w) hT he
 simp [Instr.indexAt, asIntOf, run_underlying hu, h1, hs, Instr.sureAddr]
theorem lit_int {y : Operand} {j : Nat} {k : IntKind} {i : Int} (hj : litOf y = some j) (hi : asI (ev st y) = some (k, i)) : i = (j : Int) := by
 unfold litOf at hj
 split at hj
 ·injection hj with hj
  subst hj
  simp only [ev, cst, asI] at hi
  injection hi with hi; injection hi with _ hi
  exact hi.symm
 ·cases hj
theorem splitPtr_of {K : AV → List Nat → Option R} {id off s : Nat} {i : Int} : ∀ (n j : Nat), splitPtr K id off s i j n = some r → ∃ q, j ≤ q ∧ q < j + n ∧ i = (q : Int) ∧ K (.ptr id (off + q * s)) [] = some r
 | 0, j, h => by cases h
 | n + 1, j, h => by
  unfold splitPtr at h
  split at h
  ·rename_i he
   exact ⟨j, Nat.le_refl _, by omega, he, h⟩
  ·obtain ⟨q, h1, h2, h3, h4⟩ := splitPtr_of n (j + 1) h
   exact ⟨q, by omega, by omega, h3, h4⟩
theorem ia_ok (hT : T.ok P) {t : TypeId} {x y : Operand} (ho : o.op = .indexAddr t x y) {K : AV → List Nat → Option R} (h : iaV T st t (ev st x) (ev st y) (litOf y) K = some r) : ∃ av rb, K av rb = some r ∧ OpOk P o st ⟨av, [], rb⟩ := by
 have hx : x ∈ o.op.operands.toList := by simp [ho, Op.operands]
 have hy : y ∈ o.op.operands.toList := by simp [ho, Op.operands]
 unfold iaV at h
 split at h
 ·rename_i e k i ht hi
  split at h
  ·rename_i z rest he
   split at h
   ·rename_i k' l hr
    split at h
    ·rename_i hz
     obtain rfl : z = 1 := Nat.eq_of_beq_eq_true hz
     split at h
     ·rename_i h0
      split at h
      ·rename_i h1
       refine ⟨_, _, h, ok2 hx hy fun E B w nb a h2 h3 => ?_⟩
       rw [hr] at h2
       obtain ⟨A, c, h4, _, _⟩ := row_of h2
       have h5 := asI_of hi h3
       rw [h4] at h2
       obtain ⟨ad, rfl, h6⟩ := held_row_el h2 (i := i.toNat) (by omega)
       refine ⟨_, ?_, h6⟩
       have := run_indexAt (w := w) hT ht he (a := ad) (c := c) (kd := k) h0 h1
       rw [Nat.mul_one] at this
       simp [execOp, ho, h4, h5, this]
      ·cases h
     ·cases h
    ·cases h
   ·rename_i k' l hr
    split at h
    ·rename_i hz
     obtain rfl : z = k'.z := Nat.eq_of_beq_eq_true hz
     split at h
     ·rename_i h0
      split at h
      ·rename_i h1
       refine ⟨_, _, h, ok2 hx hy fun E B w nb a h2 h3 => ?_⟩
       rw [hr] at h2
       obtain ⟨A, c, us, h4, _, _⟩ := rows_of h2
       have h5 := asI_of hi h3
       rw [h4] at h2
       obtain ⟨ad, rfl, h6⟩ := held_rows_el h2 (i := i.toNat) (by omega)
       refine ⟨_, ?_, h6⟩
       have := run_indexAt (w := w) hT ht he (a := ad) (c := c) (kd := k) h0 h1
       simp [execOp, ho, h4, h5, this]
      ·cases h
     ·cases h
    ·cases h
   ·rename_i id hr
    split at h
    ·rename_i k' e' l hb
     split at h
     ·rename_i hz
      obtain rfl : z = k'.z := Nat.eq_of_beq_eq_true hz
      split at h
      ·rename_i h0
       split at h
       ·rename_i h1
        refine ⟨_, _, h, okPure fun X E F a w hs hag => ?_⟩
        have h2 := ev_held hs (ag1 hag hx)
        have h3 := ev_held hs (ag1 hag hy)
        rw [hr] at h2
        have h5 := asI_of hi h3
        have hFB : F.B id = some (.ints k' e' l) := (hag.2.1 id (by simp)).trans hb
        have h4 := h2.now
        unfold Den at h4
        have h6 := h4.2.2 _ _ _ hFB
        have hν := hs.pos hFB (by omega)
        rw [hν, if_neg (by simp)] at h6
        have hadd := add_own (E.ρ id) 0 (i.toNat * k'.z)
        rw [Nat.zero_add] at hadd
        refine ⟨.pointer (some ⟨E.ρ id, i.toNat * k'.z, none⟩), ?_, fun W' hW => ?_⟩
        ·have := run_indexAt (w := w) hT ht he (a := ⟨E.ρ id, 0, none⟩) (c := E.γ id) (kd := k) h0 h1
         rw [hadd] at this
         simp [execOp, ho, h6, h5, this]
        ·unfold Den
         refine ⟨h4.1, ⟨_, rfl⟩, fun k2 e2 l2 hl2 => ?_⟩
         rw [hFB] at hl2
         injection hl2 with hl2
         injection hl2 with hk _ hl2
         rw [← hl2, ← hk]; exact ⟨rfl, h0, h1⟩
       ·cases h
      ·cases h
     ·cases h
    ·cases h
   ·cases h
  ·cases h
 ·rename_i n e k i ht hi
  split at h
  ·rename_i z rest id off he hr
   split at h
   ·rename_i j hj
    split at h
    ·rename_i hlt
     have hlt' : j < n := Nat.le_of_ble_eq_true hlt
     have hij := lit_int hj hi
     subst hij
     refine ⟨_, _, h, ok2 hx hy fun E B w nb a h2 h3 => ?_⟩
     rw [hr] at h2
     have h4 := h2.now
     unfold Den at h4
     obtain ⟨h5, h6⟩ := h4
     have h7 := asI_of hi h3
     refine ⟨.pointer (some ⟨E.ρ id, off + j * z, none⟩), ?_, fun W' hW => ?_⟩
     ·have := run_indexArr (w := w) hT ht he (a := ⟨E.ρ id, off, none⟩) (kd := k) hlt'
      rw [add_own] at this
      simp [execOp, ho, h6, h7, this]
     ·unfold Den; exact ⟨h5, rfl⟩
    ·cases h
   split at h
   ·obtain ⟨q, _, hq, rfl, h0⟩ := splitPtr_of _ _ h
    have hlt' : q < n := by omega
    refine ⟨_, _, h0, ok2 hx hy fun E B w nb a h2 h3 => ?_⟩
    rw [hr] at h2
    have h4 := h2.now
    unfold Den at h4
    obtain ⟨h5, h6⟩ := h4
    have h7 := asI_of hi h3
    refine ⟨.pointer (some ⟨E.ρ id, off + q * z, none⟩), ?_, fun W' hW => ?_⟩
    ·have := run_indexArr (w := w) hT ht he (a := ⟨E.ρ id, off, none⟩) (kd := k) hlt'
     rw [add_own] at this
     simp [execOp, ho, h6, h7, this]
    ·unfold Den; exact ⟨h5, rfl⟩
   ·cases h
  ·cases h
 ·cases h
theorem ix_ok (hT : T.ok P) {t : TypeId} {x y : Operand} (ho : o.op = .index t x y) {K : AV → Option R} (h : ixV T t (ev st x) (ev st y) K = some r) : ∃ av, K av = some r ∧ OpOk P o st ⟨av, [], []⟩ := by
 have hx : x ∈ o.op.operands.toList := by simp [ho, Op.operands]
 have hy : y ∈ o.op.operands.toList := by simp [ho, Op.operands]
 unfold ixV at h
 split at h
 ·rename_i k i ht hi
  have hu : P.underlying t = some .string := hT.1 t _ ht
  split at h
  ·rename_i s hs
   split at h
   ·rename_i h0
    split at h
    ·rename_i h1
     refine ⟨_, h, ok2 hx hy fun E B w nb a h2 h3 => ⟨_, ?_, held_lit _⟩⟩
     rw [hs] at h2
     have hlt : i.toNat < s.size := by omega
     have hb : s[i.toNat]? = some (s[i.toNat]'hlt) := by simp [hlt]
     simp [execOp, ho, lit_of h2, asI_of hi h3, Instr.index, asIntOf, run_underlying hu, h0, hb, bt, hlt]
    ·cases h
   ·cases h
  ·cases h
 ·rename_i n e k i ht hi
  have hu : P.underlying t = some (.array n e) := hT.1 t _ ht
  split at h
  ·rename_i rest l he hl
   split at h
   ·rename_i hlt
    have hlt' : i < n := Nat.le_of_ble_eq_true hlt
    obtain ⟨c, h1, h2⟩ := partV_of hT h
    refine ⟨c, h1, ok2 hx hy fun E B w nb a h3 h4 => ?_⟩
    rw [hl] at h3
    obtain ⟨us, h5, h6⟩ := agg_of h3
    obtain ⟨v, h7, h8, _⟩ := h2 E B w nb us h6
    refine ⟨v, ?_, h7⟩
    have hsz := run_sizeOf (w := w) hT he
    have h9 := asI_of hi h4
    have h10 : (0 : Int) ≤ Int.ofNat i := Int.natCast_nonneg i
    have h11 : Int.ofNat i < (n : Int) := by simpa using hlt'
    simp only [execOp, ho, h5, h9, Instr.index, asIntOf, Sem.run_bind, Sem.run_pure, Result.andThen_ok, run_underlying hu]
    rw [if_pos ⟨h10, h11⟩]
    simp [hsz, h8]
   ·cases h
  ·cases h
 ·cases h
theorem load_scalar {t : TypeId} {d : UD} (hd : d.ok P t) (hs : d.scalar = true) {p : Addr} {v : Value} (hc : w.cell? p = some v) : (loadVar t p).run P w = .ok v w := by
 simp [loadVar, run_isAgg hd, hs, load, Sem.run, hc]
theorem load_ok (hT : T.ok P) {t : TypeId} {x : Operand} (ho : o.op = .load t x) {K : AV → List Nat → Option R} (h : loadV T st t (ev st x) K = some r) : ∃ av rb, K av rb = some r ∧ OpOk P o st ⟨av, [], rb⟩ := by
 have hx : x ∈ o.op.operands.toList := by simp [ho, Op.operands]
 have hex : ∀ {a : Act} {w : World} {p : Addr} {v : Value}, a.eval x = .pointer (some p) → (loadVar t p).run P w = .ok v w → (execOp a.eval o).run P w = .ok (.value v) w := by
  intro a w p v h1 h2
  simp [execOp, ho, h1, Instr.loadAt, Instr.sureAddr, h2]
 unfold loadV at h
 split at h
 ·rename_i c he
  split at h
  ·rename_i d hd
   split at h
   ·rename_i hs
    refine ⟨_, _, h, ok1 hx fun E B w nb a h1 => ?_⟩
    rw [he] at h1
    obtain ⟨p, y, h2, h3, _, _, h4⟩ := fc_of h1
    exact ⟨y, hex h2 (load_scalar (hT.1 t d hd) hs h3), h4⟩
   ·cases h
  ·cases h
 ·rename_i id i he
  split at h
  ·rename_i k e l hb
   obtain ⟨c, h0, h2⟩ := partV_at hT h
   refine ⟨_, _, h0, okPure fun X E F a w hsim hag => ?_⟩
   have h1 := ev_held hsim (ag1 hag hx)
   rw [he] at h1
   have hFB : F.B id = some (.ints k e l) := (hag.2.1 id (by simp)).trans hb
   have h4 := h1.now
   unfold Den at h4
   obtain ⟨h5, h6, h7⟩ := h4.2.2 _ _ _ hFB
   obtain ⟨us, h8, h9⟩ := hsim.elc hFB (i := i.toNat) (by omega)
   obtain ⟨v, h10, h11⟩ := h2 E F.B w _ us ⟨E.ρ id, i.toNat * k.z, none⟩ h8 fun j v hv => by rw [add_own]; exact h9 j v hv
   exact ⟨v, hex h5 h11, h10⟩
  ·cases h
 ·rename_i l he
  split at h
  ·cases h
  ·rename_i x l
   obtain ⟨c, h0, h2⟩ := partV_at hT h
   refine ⟨_, _, h0, ok1 hx fun E B w nb a h1 => ?_⟩
   rw [he] at h1
   obtain ⟨p, us, h3, h4, _, _, h5⟩ := fcs_of h1 (by simp)
   obtain ⟨v, h6, h7⟩ := h2 E B w nb us p h5 h4
   exact ⟨v, hex h3 h7, h6⟩
 ·rename_i id off he
  split at h
  ·rename_i ty l hb
   obtain ⟨c, h1, h2⟩ := partV_of hT h
   refine ⟨_, _, h1, okPure fun X E F a w hsim hag => ?_⟩
   have h3 := ev_held hsim (ag1 hag hx)
   rw [he] at h3
   have hFB : F.B id = some (.cells ty l) := (hag.2.1 id (by simp)).trans hb
   have h4 := h3.now
   unfold Den at h4
   obtain ⟨_, us, h5, h6⟩ := hsim.blk id _ hFB
   obtain ⟨v, h7, _, h8⟩ := h2 E F.B w _ us h6
   exact ⟨v, hex h4.2 (h8 _ _ _ h5), h7⟩
  ·cases h
 ·rename_i ty l he
  obtain ⟨c, h1, h2⟩ := partV_of hT h
  refine ⟨_, _, h1, ok1 hx fun E B w nb a h3 => ?_⟩
  rw [he] at h3
  obtain ⟨g, us, h4, h5, h6, h7, h8⟩ := fp_of h3
  obtain ⟨v, h9, _, h10⟩ := h2 E B w nb us h8
  exact ⟨v, hex h4 (h10 _ _ _ h5), h9⟩
 ·cases h
end
def one : AV → Bool
 | .lit v => v.oneCell'
 | .agg _ => false
 | .tup _ => false
 | .any => false
 | .mp _ => false
 | _ => true
def flat (a : AV) : Option (List AV) := match a with
 | .agg l => some l
 | a => match one a with
  | true => some [a]
  | false => none
def splice {α : Type} (l : List α) (off : Nat) (l' : List α) : List α := l.take off ++ (l' ++ l.drop (off + l'.length))
def allocV {R : Type} (T : TT) (st : St) (id : Nat) (e : TypeId) (K : AV → Blk → Option R) : Option R := match look e T.inf, st.blk id with
 | some (_, _, z), none => K (.ptr id 0) (.cells e (z.map .lit))
 | _, _ => none
def boxV {R : Type} (st : St) (id : Nat) (e : TypeId) (x : AV) (K : AV → Blk → Option R) : Option R := match flat x, st.blk id with
 | some l, none => K (.ptr id 0) (.cells e l)
 | _, _ => none
noncomputable def rowQ (k : IntKind) : AV → Option (List Int)
 | .row k' l => if k' = k then some l else none
 | .lit (.slice none 0 0) => some []
 | _ => none
noncomputable def codeOf : EK → AV → Option Int
 | .num k, a => (match asI a with
  | some (k', n) => if k' = k then some n else none
  | none => none)
 | .txt, a => (match asS a with
  | some s => some (cdT s)
  | none => none)
 | .row k, a => (match rowQ k a with
  | some l => some (cdR l)
  | none => none)
 | .big, .agg [b, x] => (match asB b, rowQ .u64 x with
  | some b, some l => some (cdB (b, l))
  | _, _ => none)
 | .bigN, .agg [b, x] => (match asB b, rowQ .u64 x with
  | some b, some l => some (cdB (b, l))
  | _, _ => none)
 | _, _ => none
def ekOf (T : TT) (e : TypeId) : Option EK := match look e T.und with
 | some (.int k) => some (.num k)
 | some .str => some .txt
 | some (.slice e') => (match look e' T.und with
  | some (.int k) => some (.row k)
  | _ => none)
 | some (.struct [(tb, 0), (ts, 1)]) => (match look tb T.und, look ts T.und with
  | some .bool, some (.slice e') => (match look e' T.und with
   | some (.int .u64) => some .big
   | _ => none)
  | _, _ => none)
 | _ => none
def ekMk (T : TT) (e : TypeId) : Option EK := match ekOf T e with
 | some .big => some .bigN
 | x => x
noncomputable def zeroCode (k : EK) (zs : List Value) : Option Int := match k, zs with
 | .big, zs => codeOf .big (.agg (zs.map .lit))
 | .bigN, zs => codeOf .bigN (.agg (zs.map .lit))
 | k, [v] => codeOf k (.lit v)
 | _, _ => none
noncomputable def storeV {R : Type} (T : TT) (st : St) (t : TypeId) (x v : AV) (K : Nat → Blk → Option R) : Option R := match x with
 | .ptr id off => (match flat v, look t T.inf, st.blk id with
  | some l', some (s, _), some (.cells ty l) => (match Nat.beq s l'.length, Nat.ble (off + l'.length) l.length, l'.all one with
   | true, true, true => K id (.cells ty (splice l off l'))
   | _, _, _ => none)
  | _, _, _ => none)
 | .el id i => (match look t T.inf, st.blk id with
  | some (z, _), some (.ints k e l) => (match codeOf k v, Nat.beq z k.z with
   | some n, true => K id (.ints k e (l.set i.toNat n))
   | _, _ => none)
  | _, _ => none)
 | _ => none
def same : Operand → Operand → Bool
 | .tmp s, .tmp t => Nat.beq s t
 | _, _ => false
noncomputable def mkV {R : Type} (T : TT) (st : St) (id : Nat) (t : TypeId) (n m : AV) (eq : Bool) (K : AV → Blk → Option R) : Option R := match look t T.und, asI n, asI m, st.blk id with
 | some (.slice e), some (_, n), some (_, m), none => (match ekMk T e, look e T.inf with
  | some k, some (z, b, zs) => (match Nat.beq z k.z, zeroCode k zs with
   | true, some zc => (match eq with
    | true => if 0 ≤ n then if n.toNat ≤ 281474976710656 / b then K (.sli id) (.ints k e (List.replicate n.toNat zc)) else none else none
    | false => if 0 ≤ n then if n ≤ m then if m.toNat ≤ 281474976710656 / b then K (.sli id) (.ints k e (List.replicate n.toNat zc)) else none else none else none)
   | _, _ => none)
  | _, _ => none)
 | _, _, _, _ => none
section
variable {P : Program} {T : TT} {X : Cx} {E E' : En} {F : FS} {a : Act} {w w' : World} {st : St} {o : Oper} {u : Upd} {R : Type} {r : R} {B B' : Nat → Option Blk} {nb nb' : Nat → Prop} {v : Value} {av : AV}
theorem one_of (h : one av = true) (hh : Held E B w nb av v) : v.oneCell' = true := by
 cases av with
 | lit x => rw [lit_of hh]; exact h
 | bp p i => rw [bp_of hh]; rfl
 | bn p i => rw [bn_of hh]; rfl
 | row k l => obtain ⟨A, c, h1, _⟩ := row_of hh; rw [h1]; rfl
 | agg l => cases h
 | tup l => cases h
 | fp ty l => obtain ⟨g, us, h1, _⟩ := fp_of hh; rw [h1]; rfl
 | fc x => obtain ⟨p, y, h1, _⟩ := fc_of hh; rw [h1]; rfl
 | ptr id off => have h1 := hh.now; unfold Den at h1; rw [h1.2]; rfl
 | sli id => have h1 := hh.now; unfold Den at h1; obtain ⟨A, n, c, h2⟩ := h1.2.1; rw [h2]; rfl
 | el id i => have h1 := hh.now; unfold Den at h1; obtain ⟨p, h2⟩ := h1.2.1; rw [h2]; rfl
 | clo f l => obtain ⟨us, h1, _⟩ := clo_of hh; rw [h1]; rfl
 | any => cases h
 | rows k l => obtain ⟨A, c, us, h1, _⟩ := rows_of hh; rw [h1]; rfl
 | fcs l => have h1 := hh.now; unfold Den at h1; obtain ⟨p, us, h2, _⟩ := h1; rw [h2]; rfl
 | mp id => cases h
theorem cells_one (h : v.oneCell' = true) : v.cells = #[v] := by cases v <;> first | rfl | cases h
theorem flat_of {l : List AV} (h : flat av = some l) (hh : Held E B w nb av v) : HeldL E B w nb l v.cells.toList := by
 unfold flat at h
 split at h
 ·injection h with h
  subst h
  obtain ⟨us, rfl, h2⟩ := agg_of hh
  simpa [Value.cells] using h2
 ·split at h
  ·rename_i h1
   injection h with h
   subst h
   rw [cells_one (one_of h1 hh)]
   simpa using heldL_cons hh heldL_nil
  ·cases h
theorem ones_of : ∀ {l : List AV} {us : List Value}, l.all one = true → HeldL E B w nb l us → ∀ u ∈ us, u.oneCell' = true
 | [], us, _, h, u, hu => by rw [heldL_nil_of h] at hu; cases hu
 | a :: l, us, h1, h, u, hu => by
  obtain ⟨x, us', rfl, h2, h3⟩ := heldL_cons_of h
  rw [List.all_cons, Bool.and_eq_true] at h1
  rcases List.mem_cons.1 hu with rfl | hu
  ·exact one_of h1.1 h2
  ·exact ones_of h1.2 h3 u hu
theorem heldL_append : ∀ {l l' : List AV} {us us' : List Value}, HeldL E B w nb l us → HeldL E B w nb l' us' → HeldL E B w nb (l ++ l') (us ++ us')
 | [], l', us, us', h, h' => by rw [heldL_nil_of h]; exact h'
 | a :: l, l', us, us', h, h' => by
  obtain ⟨x, us1, rfl, h2, h3⟩ := heldL_cons_of h
  exact heldL_cons h2 (heldL_append h3 h')
theorem heldL_splice {l l' : List AV} {us us' : List Value} {off : Nat} (h : HeldL E B w nb l us) (h' : HeldL E B w nb l' us') : HeldL E B w nb (splice l off l') (splice us off us') := by
 unfold splice
 rw [heldL_len h']
 exact heldL_append (heldL_take _ h) (heldL_append h' (heldL_drop _ h))
theorem look_one {α : Type} {id i : Nat} {b : α} : look i [(id, b)] = if i = id then some b else none := by
 unfold look look
 by_cases h : i = id
 ·subst h; simp
 ·have : Nat.beq i id = false := by cases hb : Nat.beq i id with
   | false => rfl
   | true => exact absurd (Nat.eq_of_beq_eq_true hb) h
  simp [h, this]
theorem alloc_sz (w : World) (o : Obj) : w.heap.size ≤ (w.alloc o).heap.size := by show _ ≤ (w.heap.push o).size; simp
theorem fin {F1 : FS} (h : SimAt X E F1 a w) (h1 : F1.sl = F.sl) (h2 : ∀ i, F1.B i = (F.upd o.dst u).B i) (hv : Held E F1.B w (NB X.okk E F1.B) u.v v) (hp : ∀ t, o.dst = some t → ∀ s v, X.pin = some (s, v) → s ≠ t) : Sim X (F.upd o.dst u) (a.put o.dst v) w := by
 have hB : F1.B = (F.upd o.dst u).B := funext h2
 refine ⟨E, ?_⟩
 cases hd : o.dst with
 | none =>
  have : F.upd none u = F1 := by
   cases F1
   simp only [FS.upd, FS.mk.injEq]
   exact ⟨h1.symm, by rw [hd] at hB; exact hB.symm⟩
  rw [this]
  exact h
 | some t =>
  have h3 := h.set (t := t) hv (hp t hd)
  have : F.upd (some t) u = ⟨fun s => if s = t then u.v else F1.sl s, F1.B⟩ := by
   simp only [FS.upd, FS.mk.injEq]
   exact ⟨by rw [h1], by rw [hB, hd]; rfl⟩
  rw [this]
  exact h3
theorem okNewC {id : Nat} {ty : TypeId} {l : List AV} (hid : st.blk id = none) (h : ∀ (X : Cx) (E : En) (F : FS) (a : Act) (w : World), SimAt X E F a w → (∀ s, Operand.tmp s ∈ o.op.operands.toList → F.sl s = st.get s ∧ s < X.N) → ∃ us : List Value, (execOp a.eval o).run P w = .ok (.value (.pointer (some ⟨w.heap.size, 0, none⟩))) (w.alloc (.cells us.toArray ty)) ∧ HeldL E F.B w (NB X.okk E F.B) l us) :
  OpOk P o st ⟨.ptr id 0, [(id, .cells ty l)], []⟩ := by
 rintro X F a w ⟨E, hs⟩ hag K Q hK
 obtain ⟨us, h1, h2⟩ := h X E F a w hs hag.1
 have hF : F.B id = none := (hag.2.2.1 (id, .cells ty l) (by simp)).trans hid
 unfold Oper.wp
 rw [h1]
 show K (a.put o.dst _) _
 let F1 : FS := ⟨F.sl, (F.upd o.dst ⟨.ptr id 0, [(id, .cells ty l)], []⟩).B⟩
 have hb : ∀ i, F1.B i = if i = id then some (.cells ty l) else F.B i := fun i => by
  show (match look i [(id, Blk.cells ty l)] with | some b => some b | none => F.B i) = _
  rw [look_one]
  by_cases hi : i = id <;> simp [hi]
 have hle : BLe F.B F1.B := fun i hi => by
  have hne : i ≠ id := by rintro rfl; rw [hF] at hi; cases hi
  rw [hb, if_neg hne]
  exact BLe.refl _ i hi
 have hre : ∀ i, (F.B i).isSome = true → (E.at id w.heap.size 0 false).ρ i = E.ρ i ∧ (E.at id w.heap.size 0 false).γ i = E.γ i ∧ (E.at id w.heap.size 0 false).ν i = E.ν i := fun i hi => En.at_ne (by rintro rfl; rw [hF] at hi; cases hi)
 have hs1 : SimAt X (E.at id w.heap.size 0 false) F1 a (w.alloc (.cells us.toArray ty)) := by
  refine hs.fresh (b := .cells ty l) none hF rfl rfl rfl (alloc_sz _ _) (fun k hk _ => Below.heap_alloc w _ k hk) (fun _ => .inl (Nat.le_refl _)) rfl (by rw [hb, if_pos rfl]) (fun i hi => by cases hi) (fun i hi _ => by rw [hb, if_neg hi]) ?_
  refine ⟨En.at_eq.2.2, us, ?_, ?_⟩
  ·rw [En.at_eq.1]; exact heap_alloc_new w _
  ·refine (h2.re hle hre).move (alloc_sz _ _) fun k hk hl => ⟨Below.heap_alloc w _ k hl, hk.1, fun i hi he => ?_⟩
   by_cases hii : i = id
   ·subst hii; rw [En.at_eq.1] at he; omega
   ·obtain ⟨⟨x, hx, hd⟩, hn⟩ := hi
    rw [hb, if_neg hii] at hx
    rw [(En.at_ne hii).2.2] at hn
    rw [(En.at_ne hii).1] at he
    exact hk.2 i ⟨⟨x, hx, hd⟩, hn⟩ he
 refine hK _ _ (fin (F1 := F1) hs1 rfl (fun _ => rfl) (fun W' hW => ?_) hag.2.2.2)
 unfold Den
 rw [hb, if_pos rfl, En.at_eq.1]
 exact ⟨rfl, rfl⟩
theorem elsAt_num {W : World} {k : IntKind} : ∀ {l : List Int} {us : List Value}, ElsAt W (.num k) l us ↔ us = l.map (Value.int k)
 | [], us => by simp [ElsAt]
 | n :: l, us => by
  simp only [ElsAt, ElAt, elsAt_num]
  constructor
  ·rintro ⟨x, y, rfl, rfl, rfl⟩; rfl
  ·intro h; exact ⟨_, _, h, rfl, rfl⟩
theorem oth_num {g c : Nat} {k : IntKind} {e : TypeId} {l : List Int} : OthAt w nb g c (.num k) e l ↔ ∃ cs : Array Value, w.heap[g]? = some (.cells cs e (0, 0)) ∧ cs.size = c ∧ cs.size ≤ maxLen ∧ l.length ≤ cs.size ∧ ∀ i, i < l.length → cs[i]? = some (.int k (l.getD i 0)) := by
 constructor
 ·rintro ⟨cs, us, h1, h2, h3, h4, h5, h6⟩
  have h7 := elsAt_num.1 h5.now
  have h8 : cs.size = c := by rw [h2]; exact Nat.mul_one c
  refine ⟨cs, h1, h8, by omega, by omega, fun i hi => h6 i _ ?_⟩
  rw [h7, List.getElem?_map, List.getElem?_eq_getElem hi, List.getD_eq_getElem?_getD, List.getElem?_eq_getElem hi]; rfl
 ·rintro ⟨cs, h1, h2, h3, h4, h5⟩
  refine ⟨cs, l.map (Value.int k), h1, h2.trans (Nat.mul_one c).symm, by omega, by omega, fun W' _ => elsAt_num.2 rfl, fun j v hv => ?_⟩
  have hj := (List.getElem?_eq_some_iff.1 hv).1
  rw [List.length_map] at hj
  rw [h5 j hj, ← hv, List.getElem?_map, List.getElem?_eq_getElem hj, List.getD_eq_getElem?_getD, List.getElem?_eq_getElem hj]; rfl
theorem blk_oth {id : Nat} {k : EK} {e : TypeId} {l : List Int} (hk : k.isMap = false) (hnn : k.nn = true → E.ν id = false) : BlkAt E B w nb id (.ints k e l) ↔ if E.ν id = true then l = [] else OthAt w nb (E.ρ id) (E.γ id) k e l := by
 cases k with
 | num k => simp only [BlkAt, oth_num]
 | map a b => cases hk
 | bigN => simp only [BlkAt, hnn rfl]; simp
 | _ => simp only [BlkAt]
theorem blk_move {id id' : Nat} {k : EK} {e : TypeId} {l : List Int} (hρ : E'.ρ id' = E.ρ id) (hγ : E'.γ id' = E.γ id) (hν : E'.ν id' = E.ν id) (hg : E.ν id = false → w'.heap[E.ρ id]? = w.heap[E.ρ id]?) (hsz : w.heap.size ≤ w'.heap.size) (hm : ∀ k, nb k → k < w.heap.size → w'.heap[k]? = w.heap[k]? ∧ nb' k) (h : BlkAt E B w nb id (.ints k e l)) : BlkAt E' B' w' nb' id' (.ints k e l) := by
 cases hk : k.isMap with
 | false =>
  have hnn : k.nn = true → E.ν id = false := fun hq => by
   cases k <;> first | cases hq | skip
   by_cases hn : E.ν id = true
   ·simp only [BlkAt, hn, if_true] at h
   ·simpa using hn
  refine (blk_oth hk fun hq => hν.trans (hnn hq)).2 ?_
  have h1 := (blk_oth hk hnn).1 h
  rw [hν]
  by_cases hn : E.ν id = true
  ·rw [if_pos hn] at h1 ⊢; exact h1
  ·rw [if_neg hn] at h1 ⊢
   rw [hρ, hγ]
   exact h1.move (hg (by simpa using hn)) hsz hm
 | true =>
  cases k with
  | map a b =>
   obtain ⟨hn, n, es, clock, h4, h5, h6⟩ := h
   exact ⟨hν.trans hn, n, es, clock, h4, by rw [hρ]; exact (hg hn).trans h5, h6⟩
  | _ => cases hk
theorem SimAt.oth (h : SimAt X E F a w) {id : Nat} {k : EK} {e : TypeId} {l : List Int} (hB : F.B id = some (.ints k e l)) (hk : k.isMap = false) (hn : E.ν id = false) : OthAt w (NB X.okk E F.B) (E.ρ id) (E.γ id) k e l := by
 have h1 := (blk_oth hk fun _ => hn).1 (h.blk id _ hB)
 rwa [hn, if_neg (by simp)] at h1
theorem rowQ_of {k : IntKind} {l : List Int} {u : Value} (h : rowQ k av = some l) (hh : Held E B w nb av u) : HeldEls w nb (.row k) [cdR l] [u] := fun W' hW => by
 have h1 : RowAt W' k l u := by
  unfold rowQ at h
  split at h
  ·split at h
   ·rename_i hk
    subst hk
    injection h with h
    subst h
    have := hh W' hW
    unfold Den at this
    exact this
   ·cases h
  ·injection h with h
   subst h
   rw [lit_of hh]
   exact ⟨none, 0, rfl, Nat.le_refl _, fun hl => by simp at hl⟩
  ·cases h
 exact ⟨[u], [], rfl, ⟨u, rfl, by rw [dcR_eq]; exact h1⟩, rfl⟩
theorem code_of {k : EK} {n : Int} (h : codeOf k av = some n) (hh : Held E B w nb av v) : HeldEls w nb k [n] v.cells.toList ∧ ∀ u ∈ v.cells.toList, u.oneCell' = true := by
 unfold codeOf at h
 split at h
 ·split at h
  ·rename_i k k' m hi
   split at h
   ·rename_i hk
    subst hk
    injection h with h
    subst h
    rw [asI_of hi hh]
    exact ⟨fun W' _ => elsAt_num.2 rfl, fun u hu => by simp [Value.cells] at hu; rw [hu]; rfl⟩
   ·cases h
  ·cases h
 ·split at h
  ·rename_i s hs
   injection h with h
   subst h
   rw [asS_of hs hh]
   refine ⟨fun W' _ => ⟨[.string s], [], rfl, ?_, rfl⟩, fun u hu => by simp [Value.cells] at hu; rw [hu]; rfl⟩
   show [Value.string s] = [Value.string (dcT (cdT s))]
   rw [dcT_eq]
  ·cases h
 ·split at h
  ·rename_i k l hl
   injection h with h
   subst h
   have h1 := rowQ_of hl hh
   obtain ⟨x, y, h2, ⟨u, rfl, h3⟩, h4⟩ := h1.now
   have hv : ∃ A n c, v = .slice A n c := by
    simp only [ElsAt] at h4
    subst h4
    injection h2 with h2
    obtain ⟨A, c, h5, _⟩ := h3
    exact ⟨A, _, c, by rw [h2, h5]⟩
   obtain ⟨A, n, c, rfl⟩ := hv
   exact ⟨h1, fun u hu => by simp [Value.cells] at hu; rw [hu]; rfl⟩
  ·cases h
 ·rename_i b x
  split at h
  ·rename_i b' l hb hl
   injection h with h
   subst h
   obtain ⟨us, rfl, h1⟩ := agg_of hh
   obtain ⟨u1, us1, rfl, h2, h3⟩ := heldL_cons_of h1
   obtain ⟨u2, us2, rfl, h4, h5⟩ := heldL_cons_of h3
   obtain rfl := heldL_nil_of h5
   have e1 := asB_of hb h2
   subst e1
   have h6 := rowQ_of hl h4
   have hv : ∃ A n c, u2 = .slice A n c := by
    obtain ⟨x, y, h2, ⟨u, rfl, h3⟩, h4⟩ := h6.now
    simp only [ElsAt] at h4
    subst h4
    injection h2 with h2
    obtain ⟨A, c, h5, _⟩ := h3
    exact ⟨A, _, c, by rw [h2, h5]⟩
   refine ⟨fun W' hW => ?_, fun u hu => ?_⟩
   ·obtain ⟨x, y, h7, ⟨u, rfl, h8⟩, h9⟩ := h6 W' hW
    simp only [ElsAt] at h9
    subst h9
    injection h7 with h7
    subst h7
    rw [dcR_eq] at h8
    refine ⟨[.bool b', u2], [], rfl, ⟨u2, ?_, ?_⟩, rfl⟩
    ·rw [dcB_eq]
    ·rw [dcB_eq]; exact h8
   ·obtain ⟨A, n, c, rfl⟩ := hv
    simp [Value.cells] at hu
    rcases hu with rfl | rfl <;> rfl
  ·cases h
 ·rename_i b x
  split at h
  ·rename_i b' l hb hl
   injection h with h
   subst h
   obtain ⟨us, rfl, h1⟩ := agg_of hh
   obtain ⟨u1, us1, rfl, h2, h3⟩ := heldL_cons_of h1
   obtain ⟨u2, us2, rfl, h4, h5⟩ := heldL_cons_of h3
   obtain rfl := heldL_nil_of h5
   have e1 := asB_of hb h2
   subst e1
   have h6 := rowQ_of hl h4
   have hv : ∃ A n c, u2 = .slice A n c := by
    obtain ⟨x, y, h2, ⟨u, rfl, h3⟩, h4⟩ := h6.now
    simp only [ElsAt] at h4
    subst h4
    injection h2 with h2
    obtain ⟨A, c, h5, _⟩ := h3
    exact ⟨A, _, c, by rw [h2, h5]⟩
   refine ⟨fun W' hW => ?_, fun u hu => ?_⟩
   ·obtain ⟨x, y, h7, ⟨u, rfl, h8⟩, h9⟩ := h6 W' hW
    simp only [ElsAt] at h9
    subst h9
    injection h7 with h7
    subst h7
    rw [dcR_eq] at h8
    refine ⟨[.bool b', u2], [], rfl, ⟨u2, ?_, ?_⟩, rfl⟩
    ·rw [dcB_eq]
    ·rw [dcB_eq]; exact h8
   ·obtain ⟨A, n, c, rfl⟩ := hv
    simp [Value.cells] at hu
    rcases hu with rfl | rfl <;> rfl
  ·cases h
 ·cases h
theorem els_one {k : EK} {n : Int} {x : List Value} {W : World} : ElsAt W k [n] x ↔ ElAt W k n x := by
 simp only [ElsAt]
 constructor
 ·rintro ⟨x, y, rfl, h1, rfl⟩; rwa [List.append_nil]
 ·intro h; exact ⟨x, [], (List.append_nil x).symm, h, rfl⟩
theorem els_append {k : EK} {W : World} : ∀ {l l' : List Int} {us us' : List Value}, ElsAt W k l us → ElsAt W k l' us' → ElsAt W k (l ++ l') (us ++ us')
 | [], l', us, us', h, h' => by simp only [ElsAt] at h; subst h; exact h'
 | n :: l, l', us, us', h, h' => by
  simp only [ElsAt] at h
  obtain ⟨x, y, rfl, h1, h2⟩ := h
  exact ⟨x, y ++ us', List.append_assoc _ _ _, h1, els_append h2 h'⟩
theorem els_set {k : EK} {W : World} {n : Int} {x : List Value} (hx : ElAt W k n x) : ∀ {l : List Int} {us : List Value} {i : Nat}, ElsAt W k l us → i < l.length → ElsAt W k (l.set i n) (splice us (i * k.z) x)
 | [], us, i, h, hi => by simp at hi
 | m :: l, us, 0, h, hi => by
  simp only [ElsAt] at h
  obtain ⟨y, ys, rfl, h1, h2⟩ := h
  refine ⟨x, ys, ?_, hx, h2⟩
  unfold splice
  rw [Nat.zero_mul, Nat.zero_add, List.take_zero, List.nil_append, elAt_len hx, ← elAt_len h1, List.drop_left]
 | m :: l, us, i + 1, h, hi => by
  simp only [ElsAt] at h
  obtain ⟨y, ys, rfl, h1, h2⟩ := h
  refine ⟨y, splice ys (i * k.z) x, ?_, h1, els_set hx h2 (by simpa using hi)⟩
  unfold splice
  have e : (i + 1) * k.z = y.length + i * k.z := by rw [Nat.add_mul, Nat.one_mul, elAt_len h1, Nat.add_comm]
  rw [e, List.take_length_add_append, Nat.add_assoc, List.drop_length_add_append, List.append_assoc]
theorem pre_of {us cs : List Value} (h : ∀ (j : Nat) (v : Value), us[j]? = some v → cs[j]? = some v) : ∃ rest, cs = us ++ rest := by
 refine ⟨cs.drop us.length, ?_⟩
 have : us = cs.take us.length := List.ext_getElem? fun j => by
  by_cases hj : j < us.length
  ·rw [List.getElem?_take_of_lt hj, List.getElem?_eq_getElem hj]
   exact (h j _ (List.getElem?_eq_getElem hj)).symm
  ·rw [List.getElem?_eq_none (by omega), List.getElem?_eq_none (by simp; omega)]
 have h2 := List.take_append_drop us.length cs
 rw [← this] at h2
 exact h2.symm
theorem pre_get {us rest : List Value} (j : Nat) (v : Value) (h : us[j]? = some v) : (us ++ rest)[j]? = some v := by
 rw [List.getElem?_append_left (List.getElem?_eq_some_iff.1 h).1]; exact h
theorem pre_splice {us rest x : List Value} {off : Nat} (h : off + x.length ≤ us.length) : splice (us ++ rest) off x = splice us off x ++ rest := by
 unfold splice
 rw [List.take_append_of_le_length (by omega), List.drop_append_of_le_length (by omega), List.append_assoc, List.append_assoc]
theorem alloc_ok (hT : T.ok P) {e : TypeId} {id : Nat} (ho : o.op = .alloc e) {K : AV → Blk → Option R} (h : allocV T st id e K = some r) : ∃ av b, K av b = some r ∧ OpOk P o st ⟨av, [(id, b)], []⟩ := by
 unfold allocV at h
 split at h
 ·rename_i s b z he hid
  refine ⟨_, _, h, okNewC hid fun X E F a w hs _ => ⟨z, ?_, heldL_lits z⟩⟩
  obtain ⟨i, zv, h1, _, _, h2, h3⟩ := hT.2 e _ he
  have h4 : zv.cells = z.toArray := by have h5 : zv.cells.toList = z := h3; rw [← h5]
  simp [execOp, ho, Instr.alloc, zeroValue, typeInfo, h1, h2, newVar, newRow, h4]
 ·cases h
theorem box_ok {e : TypeId} {x : Operand} {id : Nat} (ho : o.op = .box e x) {K : AV → Blk → Option R} (h : boxV st id e (ev st x) K = some r) : ∃ av b, K av b = some r ∧ OpOk P o st ⟨av, [(id, b)], []⟩ := by
 unfold boxV at h
 split at h
 ·rename_i l hl hid
  refine ⟨_, _, h, okNewC hid fun X E F a w hs hag => ⟨(a.eval x).cells.toList, ?_, flat_of hl (ev_held hs fun s hx => hag s (by simp [ho, Op.operands, hx]))⟩⟩
  simp [execOp, ho, Instr.box, newVar, newRow]
 ·cases h
end
section
variable {P : Program} {T : TT} {X : Cx} {E : En} {F : FS} {a : Act} {w w' : World} {st : St} {o : Oper} {u : Upd} {R : Type} {r : R} {B : Nat → Option Blk} {nb : Nat → Prop} {v : Value} {av : AV}
theorem bs_one {id : Nat} {b : Blk} {dst : Option Tmp} {x : AV} {rb : List Nat} (i : Nat) : (F.upd dst ⟨x, [(id, b)], rb⟩).B i = if i = id then some b else F.B i := by
 show (match look i [(id, b)] with | some b => some b | none => F.B i) = _
 rw [look_one]
 by_cases hi : i = id <;> simp [hi]
theorem okWrite (hs : SimAt X E F a w) {id : Nat} {b0 b : Blk} {rb : List Nat} (hid : F.B id = some b0) (hd : b0 ≠ .dead) (hn : E.ν id = false) (hk : ∀ k e l, b = .ints k e l → ∃ e0 l0, b0 = .ints k e0 l0 ∧ l0.length = l.length)
  {old cs : Array Value} {ty : TypeId} (hg : w.heap[E.ρ id]? = some (.cells old ty (0, 0))) (hrun : (execOp a.eval o).run P w = .ok .skip (w.setRow (E.ρ id) cs))
  (hb : BlkAt E (F.upd o.dst ⟨.lit undef, [(id, b)], rb⟩).B (w.setRow (E.ρ id) cs) (NB X.okk E (F.upd o.dst ⟨.lit undef, [(id, b)], rb⟩).B) id b)
  {K : Act → World → Prop} {Q : Exit → Act → World → Prop} (hK : ∀ a' w', Sim X (F.upd o.dst ⟨.lit undef, [(id, b)], rb⟩) a' w' → K a' w') (hp : ∀ t, o.dst = some t → ∀ s v, X.pin = some (s, v) → s ≠ t) : o.wp P a w K Q := by
 unfold Oper.wp
 rw [hrun]
 show K (a.put o.dst undef) _
 have hs1 : SimAt X E ⟨F.sl, (F.upd o.dst ⟨.lit undef, [(id, b)], rb⟩).B⟩ a (w.setRow (E.ρ id) cs) :=
  hs.write hid hd hn hk rfl rfl rfl (by simp) (fun k hk => setRow_other w _ k cs hk) rfl ((bs_one (dst := o.dst) (x := .lit undef) (rb := rb) id).trans (if_pos rfl)) (fun i hi => (bs_one (dst := o.dst) (x := .lit undef) (rb := rb) i).trans (if_neg hi)) hb
 exact hK _ _ (fin hs1 rfl (fun _ => rfl) (held_lit _) hp)
theorem ble_upd {id : Nat} {b0 b : Blk} {dst : Option Tmp} {x : AV} {rb : List Nat} (hid : F.B id = some b0) (hk : ∀ k e l, b = .ints k e l → ∃ e0 l0, b0 = .ints k e0 l0 ∧ l0.length = l.length) : BLe F.B (F.upd dst ⟨x, [(id, b)], rb⟩).B := fun i hi => by
 rw [bs_one]
 by_cases hii : i = id
 ·subst hii
  rw [if_pos rfl]
  refine ⟨rfl, fun k' e' l' hl => ?_⟩
  injection hl with hl
  obtain ⟨e0, l0, h1, h2⟩ := hk k' e' l' hl
  exact ⟨e0, l0, by rw [hid, h1], h2⟩
 ·rw [if_neg hii]; exact BLe.refl _ i hi
theorem live_upd {id : Nat} {b0 b : Blk} {dst : Option Tmp} {x : AV} {rb : List Nat} (hid : F.B id = some b0) (hd : b0 ≠ .dead) {i : Nat} (h : Live E (F.upd dst ⟨x, [(id, b)], rb⟩).B i) : Live E F.B i := by
 obtain ⟨⟨y, hy, hd'⟩, hn⟩ := h
 rw [bs_one] at hy
 by_cases hi : i = id
 ·exact ⟨⟨b0, hi ▸ hid, hd⟩, hn⟩
 ·rw [if_neg hi] at hy; exact ⟨⟨y, hy, hd'⟩, hn⟩
theorem run_storeVar_at (hT : T.ok P) {t : TypeId} {x : Nat × Nat × List Value} (ht : look t T.inf = some x) {g off : Nat} {ty : TypeId} {cur : Array Value} (hg : w.heap[g]? = some (.cells cur ty (0, 0))) {v : Value} (hl : v.cells.toList.length = x.1) (hfit : off + x.1 ≤ cur.size) (h1 : ∀ u ∈ v.cells.toList, u.oneCell' = true) :
  (storeVar t ⟨g, off, none⟩ v).run P w = .ok () (w.setRow g (cur.toList.take off ++ v.cells.toList ++ cur.toList.drop (off + x.1)).toArray) := by
 have h2 := run_storeCells_at P g off ty v.cells.toList 0 cur w hg (by rw [hl]; exact hfit) h1
 have h3 := run_sizeOf (w := w) hT ht
 have h4 : v.cells.size = x.1 := by simpa using hl
 simp only [Nat.add_zero, hl] at h2
 simp [storeVar, h3, h4, h2]
theorem store_ok (hT : T.ok P) {t : TypeId} {x y : Operand} (ho : o.op = .store t x y) {K : Nat → Blk → Option R} (h : storeV T st t (ev st x) (ev st y) K = some r) : ∃ id b, K id b = some r ∧ OpOk P o st ⟨.lit undef, [(id, b)], []⟩ := by
 have hx : x ∈ o.op.operands.toList := by simp [ho, Op.operands]
 have hy : y ∈ o.op.operands.toList := by simp [ho, Op.operands]
 have hex : ∀ {a : Act} {w w' : World} {p : Addr}, a.eval x = .pointer (some p) → (storeVar t p (a.eval y)).run P w = .ok () w' → (execOp a.eval o).run P w = .ok .skip w' := by
  intro a w w' p h1 h2
  simp [execOp, ho, h1, Instr.storeAt, Instr.sureAddr, h2]
 unfold storeV at h
 split at h
 ·rename_i id off he
  split at h
  ·rename_i l' s rest ty l hfl ht hb
   split at h
   ·rename_i c1 c2 c3
    have e1 : s = l'.length := Nat.eq_of_beq_eq_true c1
    have e2 : off + l'.length ≤ l.length := Nat.le_of_ble_eq_true c2
    refine ⟨_, _, h, ?_⟩
    rintro X F a w ⟨E, hs⟩ hag K' Q hK
    have h1 := ev_held hs (ag1 hag hx)
    have h2 := ev_held hs (ag1 hag hy)
    rw [he] at h1
    have h3 := h1.now
    unfold Den at h3
    have hid : F.B id = some (.cells ty l) := (hag.2.2.1 _ (List.mem_cons_self)).trans hb
    obtain ⟨hn, us, hg, hu⟩ := hs.blk id _ hid
    have h4 := flat_of hfl h2
    have h5 := heldL_len h4
    have h6 := heldL_len hu
    have hrun := hex h3.2 (run_storeVar_at (w := w) hT ht hg (v := a.eval y) (by rw [h5, e1]) (by simp; omega) (ones_of c3 h4))
    have hk : ∀ k e l0, Blk.cells ty (splice l off l') = .ints k e l0 → ∃ e0 l1, Blk.cells ty l = .ints k e0 l1 ∧ l1.length = l0.length := fun _ _ _ hx => by cases hx
    refine okWrite hs hid (by simp) hn hk hg hrun ⟨hn, splice us off (a.eval y).cells.toList, ?_, ?_⟩ hK hag.2.2.2
    ·rw [setRow_heap w _ _ _ ty (0, 0) hg]
     simp [splice, e1, ← h5, List.append_assoc]
    ·refine ((heldL_splice hu h4).re (ble_upd hid hk) (fun _ _ => ⟨rfl, rfl, rfl⟩)).move (by simp) fun k hk1 hl => ⟨setRow_other w _ k _ ?_, hk1.1, fun i hi => hk1.2 i (live_upd hid (by simp) hi)⟩
     exact fun e => hk1.2 id ⟨⟨_, hid, by simp⟩, hn⟩ e.symm
   ·cases h
  ·cases h
 ·rename_i id i he
  split at h
  ·rename_i z rest k e l ht hb
   split at h
   ·rename_i n hv hz
    obtain rfl : z = k.z := Nat.eq_of_beq_eq_true hz
    refine ⟨_, _, h, ?_⟩
    rintro X F a w ⟨E, hs⟩ hag K' Q hK
    have h1 := ev_held hs (ag1 hag hx)
    have h2 := ev_held hs (ag1 hag hy)
    rw [he] at h1
    obtain ⟨hel, hones⟩ := code_of hv h2
    have h3 := h1.now
    unfold Den at h3
    have hid : F.B id = some (.ints k e l) := (hag.2.2.1 _ (List.mem_cons_self)).trans hb
    obtain ⟨h4, h5, h6⟩ := h3.2.2 _ _ _ hid
    have hi : i.toNat < l.length := by omega
    have hn := hs.pos hid (by omega)
    have hkm : k.isMap = false := by
     cases k with
     | map a b => exact absurd hv (by simp [codeOf])
     | _ => rfl
    obtain ⟨cs, us, hg, hsz, hmx, hle, hels, hcs⟩ := hs.oth hid hkm hn
    have hlu := elsAt_len hels.now
    have hlx : (a.eval y).cells.toList.length = k.z := by have := elsAt_len hel.now; simpa using this
    obtain ⟨rest', hrest⟩ := pre_of (cs := cs.toList) (us := us) fun j v hj => by have := hcs j v hj; simpa using this
    have hfit : i.toNat * k.z + k.z ≤ us.length := by
     rw [hlu, ← Nat.succ_mul]; exact Nat.mul_le_mul_right _ hi
    have hcl : cs.size = us.length + rest'.length := by rw [← Array.length_toList, hrest, List.length_append]
    have hrun := hex h4 (run_storeVar_at (w := w) hT ht hg (v := a.eval y) hlx (by show i.toNat * k.z + k.z ≤ cs.size; omega) hones)
    have hk : ∀ k0 e0 l0, Blk.ints k e (l.set i.toNat n) = .ints k0 e0 l0 → ∃ e1 l1, Blk.ints k e l = .ints k0 e1 l1 ∧ l1.length = l0.length := fun _ _ _ hx => by
     injection hx with hk0 _ hx
     exact ⟨_, _, by rw [hk0], by rw [← hx]; simp⟩
    have hcells : cs.toList.take (i.toNat * k.z) ++ (a.eval y).cells.toList ++ cs.toList.drop (i.toNat * k.z + k.z) = splice us (i.toNat * k.z) (a.eval y).cells.toList ++ rest' := by
     rw [← pre_splice (by omega), ← hrest]; unfold splice; rw [hlx, List.append_assoc]
    refine okWrite hs hid (by simp) hn hk hg hrun ?_ hK hag.2.2.2
    refine (blk_oth hkm fun _ => hn).2 ?_
    rw [hn, if_neg (by simp)]
    have hmv : ∀ q, NB X.okk E F.B q → q < w.heap.size → (w.setRow (E.ρ id) (cs.toList.take (i.toNat * k.z) ++ (a.eval y).cells.toList ++ cs.toList.drop (i.toNat * k.z + k.z)).toArray).heap[q]? = w.heap[q]? ∧ NB X.okk E (F.upd o.dst ⟨.lit undef, [(id, .ints k e (l.set i.toNat n))], []⟩).B q := fun q hk1 hl =>
     ⟨setRow_other w _ q _ fun e => hk1.2 id ⟨⟨_, hid, by simp⟩, hn⟩ e.symm, hk1.1, fun i hi => hk1.2 i (live_upd hid (by simp) hi)⟩
    have hels' := hels.move (w' := w.setRow (E.ρ id) (cs.toList.take (i.toNat * k.z) ++ (a.eval y).cells.toList ++ cs.toList.drop (i.toNat * k.z + k.z)).toArray) (by simp) hmv
    have hel' := hel.move (w' := w.setRow (E.ρ id) (cs.toList.take (i.toNat * k.z) ++ (a.eval y).cells.toList ++ cs.toList.drop (i.toNat * k.z + k.z)).toArray) (by simp) hmv
    refine ⟨_, splice us (i.toNat * k.z) (a.eval y).cells.toList, setRow_heap w _ _ _ e (0, 0) hg, ?_, hmx, by rw [List.length_set]; exact hle, fun W' hW => els_set (els_one.1 (hel' W' hW)) (hels' W' hW) hi, fun j v hj => ?_⟩
    ·rw [← hsz]
     have : (cs.toList.take (i.toNat * k.z) ++ (a.eval y).cells.toList ++ cs.toList.drop (i.toNat * k.z + k.z)).length = cs.size := by simp only [List.length_append, List.length_take, List.length_drop, hlx, Array.length_toList]; omega
     simpa using this
    ·have := pre_get (rest := rest') j v hj
     rw [← hcells] at this
     simpa using this
   ·cases h
  ·cases h
 ·cases h
theorem okNewI {id : Nat} {k : EK} {e : TypeId} {l : List Int} (hkm : k.isMap = false) (hid : st.blk id = none) (h : ∀ (X : Cx) (E : En) (F : FS) (a : Act) (w : World), SimAt X E F a w → (∀ s, Operand.tmp s ∈ o.op.operands.toList → F.sl s = st.get s ∧ s < X.N) → ∃ (cs : Array Value) (us : List Value) (c : Nat), (execOp a.eval o).run P w = .ok (.value (.slice (some ⟨w.heap.size, 0, none⟩) l.length c)) (w.alloc (.cells cs e)) ∧ cs.size = c * k.z ∧ c ≤ maxLen ∧ l.length ≤ c ∧ HeldEls w (NB X.okk E F.B) k l us ∧ ∀ (j : Nat) (v : Value), us[j]? = some v → cs[j]? = some v) :
  OpOk P o st ⟨.sli id, [(id, .ints k e l)], []⟩ := by
 rintro X F a w ⟨E, hs⟩ hag K Q hK
 obtain ⟨cs, us, c, h1, h2, h3, h4, h5, h6⟩ := h X E F a w hs hag.1
 have hF : F.B id = none := (hag.2.2.1 (id, .ints k e l) (by simp)).trans hid
 unfold Oper.wp
 rw [h1]
 show K (a.put o.dst _) _
 let F1 : FS := ⟨F.sl, (F.upd o.dst ⟨.sli id, [(id, .ints k e l)], []⟩).B⟩
 have hb : ∀ i, F1.B i = if i = id then some (.ints k e l) else F.B i := fun i => bs_one (dst := o.dst) i
 have hs1 : SimAt X (E.at id w.heap.size c false) F1 a (w.alloc (.cells cs e)) := by
  refine hs.fresh (b := .ints k e l) none hF rfl rfl rfl (alloc_sz _ _) (fun k hk _ => Below.heap_alloc w _ k hk) (fun _ => .inl (Nat.le_refl _)) rfl (by rw [hb, if_pos rfl]) (fun i hi => by cases hi) (fun i hi _ => by rw [hb, if_neg hi]) ?_
  refine (blk_oth hkm fun _ => En.at_eq.2.2).2 ?_
  rw [En.at_eq.2.2, if_neg (by simp), En.at_eq.1, En.at_eq.2.1]
  refine ⟨cs, us, heap_alloc_new w _, h2, h3, h4, h5.move (alloc_sz _ _) fun q hk hl => ⟨Below.heap_alloc w _ q hl, hk.1, fun i hi he => ?_⟩, h6⟩
  by_cases hii : i = id
  ·subst hii; rw [En.at_eq.1] at he; omega
  ·obtain ⟨⟨x, hx, hd⟩, hn⟩ := hi
   rw [hb, if_neg hii] at hx
   rw [(En.at_ne hii).2.2] at hn
   rw [(En.at_ne hii).1] at he
   exact hk.2 i ⟨⟨x, hx, hd⟩, hn⟩ he
 refine hK _ _ (fin (F1 := F1) hs1 rfl (fun _ => rfl) (fun W' hW => ?_) hag.2.2.2)
 unfold Den
 rw [hb, if_pos rfl]
 refine ⟨rfl, ⟨_, _, _, rfl⟩, fun k' e' l' hl => ?_⟩
 injection hl with hl
 injection hl with _ _ hl
 rw [En.at_eq.2.2, if_neg (by simp), En.at_eq.1, En.at_eq.2.1, hl]
theorem made_get {zs : Array Value} {m j : Nat} (hz : 0 < zs.size) (hj : j < m) : (madeCells zs m)[j]? = zs[j % zs.size]? := by
 have := Nat.mod_lt j hz
 simp [madeCells, hj, this]
theorem els_made {k : EK} {n : Int} {zs : List Value} {W : World} (hz : ElAt W k n zs) : ∀ m : Nat, ElsAt W k (List.replicate m n) (List.replicate m zs).flatten
 | 0 => rfl
 | m + 1 => by
  rw [List.replicate_succ, List.replicate_succ, List.flatten_cons]
  exact ⟨zs, _, rfl, hz, els_made hz m⟩
theorem flat_rep {zs : List Value} (h0 : 0 < zs.length) : ∀ (m j : Nat) (v : Value), (List.replicate m zs).flatten[j]? = some v → j < m * zs.length ∧ zs[j % zs.length]? = some v
 | 0, j, v, h => by simp at h
 | m + 1, j, v, h => by
  rw [List.replicate_succ, List.flatten_cons] at h
  by_cases hj : j < zs.length
  ·rw [List.getElem?_append_left hj] at h
   exact ⟨by rw [Nat.add_mul, Nat.one_mul]; omega, by rw [Nat.mod_eq_of_lt hj]; exact h⟩
  ·rw [List.getElem?_append_right (by omega)] at h
   obtain ⟨h1, h2⟩ := flat_rep h0 m _ v h
   refine ⟨by rw [Nat.add_mul, Nat.one_mul]; omega, ?_⟩
   rw [Nat.mod_eq_sub_mod (by omega)]
   exact h2
theorem code_lit (w : World) {k : EK} {v : Value} {n : Int} (h : codeOf k (.lit v) = some n) : v.oneCell' = true := by
 have hl : Held ⟨fun _ => 0, fun _ => 0, fun _ => false⟩ (fun _ => none) w (fun _ => True) (.lit v) v := held_lit v
 cases k with
 | num k =>
  simp only [codeOf] at h
  split at h
  ·rename_i hi; rw [asI_of hi hl]; rfl
  ·cases h
 | txt =>
  simp only [codeOf] at h
  split at h
  ·rename_i hi; rw [asS_of hi hl]; rfl
  ·cases h
 | row k =>
  simp only [codeOf] at h
  split at h
  ·rename_i l hi
   obtain ⟨x, y, h2, ⟨u, rfl, ⟨A, c, h3, _⟩⟩, h4⟩ := (rowQ_of hi hl).now
   simp only [ElsAt] at h4
   subst h4
   injection h2 with h2
   rw [h2, h3]; rfl
  ·cases h
 | big => simp [codeOf] at h
 | bigN => simp [codeOf] at h
 | map a b => simp [codeOf] at h
theorem zero_of {k : EK} {zs : List Value} {n : Int} (h : zeroCode k zs = some n) (w : World) (nb : Nat → Prop) : HeldEls w nb k [n] zs := by
 unfold zeroCode at h
 split at h
 ·have := (code_of (E := ⟨fun _ => 0, fun _ => 0, fun _ => false⟩) (B := fun _ => none) (w := w) (nb := nb) h (held_agg (heldL_lits zs))).1
  simpa [Value.cells] using this
 ·have := (code_of (E := ⟨fun _ => 0, fun _ => 0, fun _ => false⟩) (B := fun _ => none) (w := w) (nb := nb) h (held_agg (heldL_lits zs))).1
  simpa [Value.cells] using this
 ·rename_i k v hk1 hk
  have h1 := code_of (E := ⟨fun _ => 0, fun _ => 0, fun _ => false⟩) (B := fun _ => none) (w := w) (nb := nb) h (held_lit v)
  have h2 := elsAt_len h1.1.now
  have h3 : v.cells = #[v] := cells_one (code_lit w h)
  rw [h3] at h1
  exact h1.1
 ·cases h
theorem mk_ok (hT : T.ok P) {t : TypeId} {x y : Operand} {id : Nat} (ho : o.op = .makeSlice t x y) {eq : Bool} (heq : eq = true → x = y) {K : AV → Blk → Option R} (h : mkV T st id t (ev st x) (ev st y) eq K = some r) : ∃ av b, K av b = some r ∧ OpOk P o st ⟨av, [(id, b)], []⟩ := by
 unfold mkV at h
 split at h
 ·rename_i e kn n km m ht hn hm hid
  split at h
  ·rename_i k zz b zs hk hi
   split at h
   ·rename_i zc hzz hzc
    obtain rfl : zz = k.z := Nat.eq_of_beq_eq_true hzz
    have main : ∀ {n m : Int}, asI (ev st x) = some (kn, n) → asI (ev st y) = some (km, m) → 0 ≤ n → n ≤ m → m.toNat ≤ 281474976710656 / b → OpOk P o st ⟨.sli id, [(id, .ints k e (List.replicate n.toNat zc))], []⟩ := by
     intro n m hn hm h0 h1 h2
     have hu : P.underlying t = some (.slice e) := hT.1 t _ ht
     obtain ⟨i, z, h3, h4, h5, h6, h7⟩ := hT.2 e _ hi
     have h4' : i.size = k.z := h4
     have hz : z.cells.toList = zs := h7
     have hb0 : i.bytes * m.toNat ≤ 281474976710656 := by
      rw [show i.bytes = b from h5]
      have := Nat.mul_le_mul_left b h2
      exact Nat.le_trans this (Nat.mul_div_le _ _)
     have hm48 : m.toNat ≤ 281474976710656 := Nat.le_trans h2 (Nat.div_le_self _ _)
     have hkm : k.isMap = false := by
      cases k with
      | map a b => exfalso; unfold zeroCode at hzc; split at hzc <;> first | (rename_i h8; cases h8; done) | simp [codeOf] at hzc
      | _ => rfl
     have hzl0 : ∀ w : World, zs.length = k.z := fun w => by
      have := elsAt_len (zero_of hzc w fun _ => True).now
      simpa using this
     refine okNewI hkm hid fun X E F a w hs hag => ⟨madeCells z.cells (m.toNat * k.z), (List.replicate n.toNat zs).flatten, m.toNat, ?_, size_madeCells _ _, ?_, ?_, fun W' hW => ?_, fun j v hj => ?_⟩
     ·have hx := asI_of hn (ev_held hs fun s hx => hag s (by simp [ho, Op.operands, hx]))
      have hy := asI_of hm (ev_held hs fun s hx => hag s (by simp [ho, Op.operands, hx]))
      have hbi : (i.bytes : Int) * m ≤ 281474976710656 := by
       have : ((i.bytes * m.toNat : Nat) : Int) ≤ 281474976710656 := by omega
       rw [Int.natCast_mul, Int.toNat_of_nonneg (by omega)] at this
       exact this
      have hm63 : m ≤ 9223372036854775807 := by omega
      have := run_make (P := P) w t e i z hu h3 h6 kn km n m h0 h1 hbi hm63
      rw [h4'] at this
      simp [execOp, ho, hx, hy, this]
     ·unfold maxLen; omega
     ·rw [List.length_replicate]; omega
     ·exact els_made (els_one.1 ((zero_of hzc w _) W' hW)) _
     ·have hzl := hzl0 w
      obtain ⟨h8, h9⟩ := flat_rep (by rw [hzl]; exact k.z_pos) _ _ _ hj
      have h10 : z.cells.size = k.z := by rw [← Array.length_toList, hz, hzl]
      have h11 := Nat.mul_le_mul_right k.z (show n.toNat ≤ m.toNat by omega)
      rw [made_get (by rw [h10]; exact k.z_pos) (by rw [hzl] at h8; omega), h10]
      rw [hzl] at h9
      rw [← h9, ← hz]; simp
    split at h
    ·have hxy := heq rfl
     have hmn : (km, m) = (kn, n) := by rw [hxy, hm] at hn; injection hn
     injection hmn with e1 e2
     subst e1
     subst e2
     split at h
     ·rename_i h0
      split at h
      ·rename_i h2
       exact ⟨_, _, h, main hn hm h0 (Int.le_refl _) h2⟩
      ·cases h
     ·cases h
    ·split at h
     ·rename_i h0
      split at h
      ·rename_i h1
       split at h
       ·rename_i h2
        exact ⟨_, _, h, main hn hm h0 h1 h2⟩
       ·cases h
      ·cases h
     ·cases h
   ·cases h
  ·cases h
 ·cases h
end
def Lies (w : World) (e : TypeId) (k : IntKind) (l : List Int) (g : Nat) (cs : Array Value) : Prop :=
 w.heap[g]? = some (.cells cs e (0, 0)) ∧ cs.size ≤ maxLen ∧ l.length ≤ cs.size ∧ ∀ i, i < l.length → cs[i]? = some (.int k (l.getD i 0))
def Src (w : World) (k : IntKind) (l : List Int) (A : Option Addr) : Prop := 0 < l.length → ∃ a, A = some a ∧ ∀ i, i < l.length → w.cell? (a.add i) = some (.int k (l.getD i 0))
section
variable {P : Program} {T : TT} {X : Cx} {E : En} {F : FS} {a : Act} {w w' : World} {st : St} {o : Oper} {u : Upd} {R : Type} {r : R} {B : Nat → Option Blk} {nb : Nat → Prop} {v : Value} {av : AV}
theorem app_types {t t' e e' ty : TypeId} {i : TypeInfo} {x : Value} {A : Option Addr} {n c : Nat} (ht : P.underlying t = some (.slice e)) (ht' : P.underlying t' = some (.slice e')) (hi : P.info? e = some i) : (Builtin.append_ #[t, t'] ty #[.slice A n c, x]).run P w = (Builtin.append_ #[t, t] ty #[.slice A n c, x]).run P w := by
 simp [Builtin.append_, run_underlying ht, run_underlying ht', sizeOf, typeInfo, hi]
theorem ints_get {k : IntKind} {l : List Int} {i : Nat} {u : Value} (h : (l.map (Value.int k))[i]? = some u) : i < l.length ∧ u = .int k (l.getD i 0) := by
 have h1 := (List.getElem?_eq_some_iff.1 h).1
 simp only [List.length_map] at h1
 rw [List.getElem?_map, List.getElem?_eq_getElem h1] at h
 simp only [Option.map_some, Option.some.injEq] at h
 exact ⟨h1, by rw [← h, List.getD_eq_getElem?_getD, List.getElem?_eq_getElem h1]; rfl⟩
theorem ints_getD {k : IntKind} {l : List Int} {i : Nat} (h : i < l.length) : (l.map (Value.int k))[i]? = some (.int k (l.getD i 0)) := by
 rw [List.getElem?_map, List.getElem?_eq_getElem h, List.getD_eq_getElem?_getD, List.getElem?_eq_getElem h]; rfl
theorem slice_one {k : IntKind} {l : List Int} {u : Value} (h : RowAt w k l u) : u.oneCell' = true := by
 obtain ⟨A, c, h, _⟩ := h
 rw [h]; rfl
theorem els_ones {k : EK} : ∀ {l : List Int} {us : List Value}, ElsAt w k l us → ∀ u ∈ us, u.oneCell' = true
 | [], us, h, u, hu => by simp only [ElsAt] at h; rw [h] at hu; cases hu
 | n :: l, us, h, u, hu => by
  simp only [ElsAt] at h
  obtain ⟨x, y, rfl, h1, h2⟩ := h
  rcases List.mem_append.1 hu with hu | hu
  ·cases k <;> simp only [ElAt] at h1
   ·subst h1; simp at hu; rw [hu]; rfl
   ·subst h1; simp at hu; rw [hu]; rfl
   ·obtain ⟨q, rfl, h3⟩ := h1; simp at hu; rw [hu]; exact slice_one h3
   ·obtain ⟨q, rfl, h3⟩ := h1
    simp at hu
    rcases hu with rfl | rfl
    ·rfl
    ·exact slice_one h3
   ·obtain ⟨q, rfl, h3⟩ := h1
    simp at hu
    rcases hu with rfl | rfl
    ·rfl
    ·exact slice_one h3
  ·exact els_ones h2 u hu
def Room (w : World) (e : TypeId) (z : Nat) (us : List Value) (n g c : Nat) (cs : Array Value) : Prop :=
 w.heap[g]? = some (.cells cs e (0, 0)) ∧ cs.size = c * z ∧ c ≤ maxLen ∧ n ≤ c ∧ ∀ (j : Nat) (u : Value), us[j]? = some u → cs[j]? = some u
theorem run_app {t t' ty e e' : TypeId} {i : TypeInfo} {z : Value} {us us2 : List Value} {n n2 : Nat} {A : Option Addr} {c : Nat} {old : Option (Nat × Nat × Array Value)}
  (ht : P.underlying t = some (.slice e)) (ht' : P.underlying t' = some (.slice e')) (hi : P.info? e = some i) (hz : i.zero = some z) (hzc : z.cells.size = i.size) (h0 : 0 < i.size) (h1 : us.length = n * i.size) (h2 : us2.length = n2 * i.size) (hone : ∀ u ∈ us2, u.oneCell' = true)
  (hold : match old with
   | none => v = .slice none 0 0 ∧ n = 0
   | some (g, cc, cs) => v = .slice (some ⟨g, 0, none⟩) n cc ∧ Room w e i.size us n g cc cs) (hsrc : 0 < n2 → ∃ a, A = some a ∧ ∀ (j : Nat) (u : Value), us2[j]? = some u → w.cell? (a.add j) = some u) (hb : (n + n2) * i.bytes ≤ 140737488355328) (hmx : n + n2 ≤ maxLen) :
  ∃ v' w', (Builtin.append_ #[t, t'] ty #[v, .slice A n2 c]).run P w = .ok v' w' ∧ w'.os = w.os ∧ w'.tape = w.tape ∧ w'.output = w.output ∧ w.heap.size ≤ w'.heap.size ∧
   (∀ j, j < w.heap.size → (∀ g cc cs, old = some (g, cc, cs) → g ≠ j) → w'.heap[j]? = w.heap[j]?) ∧
   ((v' = .slice none 0 0 ∧ n + n2 = 0) ∨ ∃ g' c' cs', v' = .slice (some ⟨g', 0, none⟩) (n + n2) c' ∧ Room w' e i.size (us ++ us2) (n + n2) g' c' cs' ∧ (w.heap.size ≤ g' ∨ ∃ cc cs, old = some (g', cc, cs))) := by
 have hty : (Builtin.append_ #[t, t'] ty #[v, .slice A n2 c]).run P w = (Builtin.append_ #[t, t] ty #[v, .slice A n2 c]).run P w := by
  cases old with
  | none => rw [hold.1]; exact app_types ht ht' hi
  | some p => obtain ⟨g, cc, cs⟩ := p; rw [hold.1]; exact app_types ht ht' hi
 rw [hty]
 by_cases hl2 : n2 = 0
 ·subst hl2
  have hus2 : us2 = [] := by rw [Nat.zero_mul] at h2; exact List.length_eq_zero_iff.1 h2
  subst hus2
  cases old with
  | none =>
   obtain ⟨rfl, rfl⟩ := hold
   refine ⟨.slice none 0 0, w, ?_, rfl, rfl, rfl, Nat.le_refl _, fun _ _ _ => rfl, .inl ⟨rfl, rfl⟩⟩
   cases A <;> simp [Builtin.append_, run_underlying ht, sizeOf, typeInfo, hi, Builtin.lenOf, Builtin.firstCells, loadCells, loadCellsFrom]
  | some p =>
   obtain ⟨g, cc, cs⟩ := p
   obtain ⟨rfl, h3⟩ := hold
   refine ⟨_, w, ?_, rfl, rfl, rfl, Nat.le_refl _, fun _ _ _ => rfl, .inr ⟨g, cc, cs, rfl, by rw [List.append_nil]; exact h3, .inr ⟨cc, cs, rfl⟩⟩⟩
   cases A <;> simp [Builtin.append_, run_underlying ht, sizeOf, typeInfo, hi, Builtin.lenOf, Builtin.firstCells, loadCells, loadCellsFrom, h3.2.2.2.1, storeCells]
 ·obtain ⟨ad, rfl, hcell⟩ := hsrc (by omega)
  have h63 : n + n2 ≤ 9223372036854775807 := by simp only [maxLen] at hmx; omega
  have hzs : ∀ m, (Builtin.zeroCells z.cells m).size = m * i.size := fun m => by rw [size_zeroCells, hzc]
  have hge := fun cap => grownCap_ge w (n + n2) cap e
  have hle := fun cap => grownCap_le_maxLen w (n + n2) cap e hmx
  have fin : ∀ cap, Room (w.drew.alloc (.cells ((us ++ us2).toArray ++ Builtin.zeroCells z.cells (grownCap w (n + n2) cap e - (n + n2))) e)) e i.size (us ++ us2) (n + n2) w.heap.size (grownCap w (n + n2) cap e) ((us ++ us2).toArray ++ Builtin.zeroCells z.cells (grownCap w (n + n2) cap e - (n + n2))) := fun cap => by
   refine ⟨heap_alloc_new w.drew _, ?_, hle cap, hge cap, fun j u hj => ?_⟩
   ·rw [Array.size_append, hzs, List.size_toArray, List.length_append, h1, h2, ← Nat.add_mul, ← Nat.add_mul]
    congr 1
    have := hge cap
    omega
   ·rw [Array.getElem?_append_left (by simpa using (List.getElem?_eq_some_iff.1 hj).1), List.getElem?_toArray]; exact hj
  cases old with
  | none =>
   obtain ⟨rfl, rfl⟩ := hold
   have hus : us = [] := by rw [Nat.zero_mul] at h1; exact List.length_eq_zero_iff.1 h1
   subst hus
   have hr := run_append_nil (P := P) w t ty e i z ht hi hz ad n2 c _ h2 hcell (by omega) (by omega) (by simp at hb; omega)
   have hf := fin 0
   simp only [Nat.zero_add, List.nil_append] at hf ⊢
   exact ⟨_, _, hr, rfl, rfl, rfl, alloc_sz w.drew _, fun j hj _ => Below.heap_alloc w.drew _ j hj, .inr ⟨w.heap.size, _, _, rfl, hf, .inl (Nat.le_refl _)⟩⟩
  | some p =>
   obtain ⟨g, cc, cs⟩ := p
   obtain ⟨rfl, hg, hcz, hcm, hlc, hcs⟩ := hold
   obtain ⟨rest, hrest⟩ := pre_of (cs := cs.toList) (us := us) fun j u hj => by have := hcs j u hj; simpa using this
   have hcl : us.length + rest.length = cc * i.size := by rw [← hcz, ← Array.length_toList, hrest, List.length_append]
   by_cases hroom : n + n2 ≤ cc
   ·have hmul := Nat.mul_le_mul_right i.size hroom
    rw [Nat.add_mul] at hmul
    have hr := run_append_room (P := P) w t ty e i ht hi g n cc cs hg ad n2 c _ h2 hcell hone hroom (by rw [hcz, h2]; exact hmul)
    have hnew : cs.toList.take (n * i.size) ++ us2 ++ cs.toList.drop (n * i.size + us2.length) = (us ++ us2) ++ rest.drop us2.length := by
     rw [hrest, ← h1, List.take_left, List.drop_length_add_append]
    refine ⟨_, _, hr, rfl, rfl, rfl, by simp, fun j hj h3 => setRow_other w g j _ (fun e => h3 g cc cs rfl e.symm), .inr ⟨g, cc, _, rfl, ⟨setRow_heap w g cs _ e _ hg, ?_, hcm, hroom, fun j u hj => ?_⟩, .inr ⟨cc, cs, rfl⟩⟩⟩
    ·rw [hnew]
     simp only [List.size_toArray, List.length_append, List.length_drop]
     rw [h1, h2] at *
     omega
    ·rw [hnew, List.getElem?_toArray]; exact pre_get j u hj
   ·have holds : ∀ (j : Nat) (u : Value), us[j]? = some u → w.cell? ((⟨g, 0, none⟩ : Addr).add j) = some u := fun j u hu => by
     rw [add_own, cell_of_row w g _ cs e _ hg, Nat.zero_add]
     exact hcs j u hu
    have hr := run_append_grow (P := P) w t ty e i z ht hi hz ⟨g, 0, none⟩ n cc us h1 holds ad n2 c _ h2 hcell (by omega) (by omega) (growslice_fits (by omega) hb)
    have harr : us.toArray ++ us2.toArray = (us ++ us2).toArray := by simp
    rw [harr] at hr
    exact ⟨_, _, hr, rfl, rfl, rfl, alloc_sz w.drew _, fun j hj _ => Below.heap_alloc w.drew _ j hj, .inr ⟨w.heap.size, _, _, rfl, fin _, .inl (Nat.le_refl _)⟩⟩
end
def srcV (st : St) (k : EK) (x : AV) : Option (List Int × List Nat) := match x with
 | .row k' l => if .num k' = k then some (l, []) else none
 | .rows k' l => if k' = k then some (l, []) else none
 | .sli id => (match st.blk id with
  | some (.ints k' _ l) => if k' = k then some (l, [id]) else none
  | _ => none)
 | .lit (.slice none 0 0) => some ([], [])
 | _ => none
def appV {R : Type} (T : TT) (st : St) (id : Nat) (t t' : TypeId) (s x : AV) (K : AV → List (Nat × Blk) → List Nat → Option R) : Option R := match look t T.und, look t' T.und, st.blk id with
 | some (.slice e), some (.slice _), none => (match ekOf T e, look e T.inf with
  | some k, some (z, b, zs) => (match Nat.beq z k.z && Nat.beq zs.length z, srcV st k x with
   | true, some (l2, rb) => (match s with
    | .lit (.slice none 0 0) => if ([] : List Int).length + l2.length ≤ 140737488355328 / b then K (.sli id) [(id, .ints k e ([] ++ l2))] rb else none
    | .sli i0 => (match st.blk i0 with
     | some (.ints k0 e0 l) => (match rb.any (Nat.beq i0), Nat.beq e0 e with
      | false, true => if k0 = k then if l.length + l2.length ≤ 140737488355328 / b then K (.sli id) [(id, .ints k e (l ++ l2)), (i0, .dead)] rb else none else none
      | _, _ => none)
     | _ => none)
    | _ => none)
   | _, _ => none)
  | _, _ => none)
 | _, _, _ => none
def lenV {R : Type} (T : TT) (st : St) (t : TypeId) (x : AV) (K : AV → List Nat → Option R) : Option R := match look t T.und, x with
 | some .str, .lit (.string s) => K (.lit (.int .i64 (s.size : Int))) []
 | some (.slice _), .row _ l => K (.lit (.int .i64 (l.length : Int))) []
 | some (.slice _), .rows _ l => K (.lit (.int .i64 (l.length : Int))) []
 | some (.slice _), .sli id => (match st.blk id with
  | some (.ints _ _ l) => K (.lit (.int .i64 (l.length : Int))) [id]
  | _ => none)
 | some (.slice _), .lit (.slice none n _) => K (.lit (.int .i64 (n : Int))) []
 | _, _ => none
def cutV {R : Type} (T : TT) (t : TypeId) (x : AV) (lo hi mx : Option AV) (K : AV → Option R) : Option R := match look t T.und, x, lo.map asI, hi.map asI, mx.map asI with
 | some (.slice e), .row k l, none, some (some (_, n)), none => (match look e T.inf with
  | some (1, _) => if 0 ≤ n then if n ≤ (l.length : Int) then K (.row k (l.take n.toNat)) else none else none
  | _ => none)
 | some (.slice e), .row k l, some (some (_, n)), none, none => (match look e T.inf with
  | some (1, _) => if 0 ≤ n then if n ≤ (l.length : Int) then K (.row k (l.drop n.toNat)) else none else none
  | _ => none)
 | _, _, _, _, _ => none
section
variable {P : Program} {T : TT} {X : Cx} {E : En} {F : FS} {a : Act} {w w' : World} {st : St} {o : Oper} {u : Upd} {R : Type} {r : R} {B : Nat → Option Blk} {nb : Nat → Prop} {v : Value} {av : AV}
theorem sli_val {id : Nat} {k : EK} {e : TypeId} {l : List Int} (hs : SimAt X E F a w) (hB : F.B id = some (.ints k e l)) (h : Held E F.B w (NB X.okk E F.B) (.sli id) v) :
  (E.ν id = true ∧ v = .slice none 0 0 ∧ l = []) ∨ (E.ν id = false ∧ v = .slice (some ⟨E.ρ id, 0, none⟩) l.length (E.γ id)) := by
 have h1 := h.now
 unfold Den at h1
 have h2 := h1.2.2 _ _ _ hB
 by_cases hn : E.ν id = true
 ·rw [if_pos hn] at h2
  refine .inl ⟨hn, h2, ?_⟩
  cases l with
  | nil => rfl
  | cons x y => rw [hs.pos hB (by simp)] at hn; cases hn
 ·rw [if_neg hn] at h2
  exact .inr ⟨by simpa using hn, h2⟩
theorem sli_oth {id : Nat} {k : EK} {e : TypeId} {l : List Int} (hs : SimAt X E F a w) (hkm : k.isMap = false) (hB : F.B id = some (.ints k e l)) (h : Held E F.B w (NB X.okk E F.B) (.sli id) v) :
  (E.ν id = true ∧ v = .slice none 0 0 ∧ l = []) ∨ (E.ν id = false ∧ v = .slice (some ⟨E.ρ id, 0, none⟩) l.length (E.γ id) ∧ OthAt w (NB X.okk E F.B) (E.ρ id) (E.γ id) k e l) := by
 rcases sli_val hs hB h with h1 | ⟨h1, h2⟩
 ·exact .inl h1
 ·exact .inr ⟨h1, h2, hs.oth hB hkm h1⟩
theorem sli_of {id : Nat} {k : IntKind} {e : TypeId} {l : List Int} (hs : SimAt X E F a w) (hB : F.B id = some (.ints (.num k) e l)) (h : Held E F.B w (NB X.okk E F.B) (.sli id) v) :
  (E.ν id = true ∧ v = .slice none 0 0 ∧ l = []) ∨ (E.ν id = false ∧ ∃ cs, v = .slice (some ⟨E.ρ id, 0, none⟩) l.length cs.size ∧ cs.size = E.γ id ∧ Lies w e k l (E.ρ id) cs) := by
 rcases sli_oth hs rfl hB h with h1 | ⟨h1, h2, h3⟩
 ·exact .inl h1
 ·obtain ⟨cs, h4, h5, h6, h7, h8⟩ := oth_num.1 h3
  exact .inr ⟨h1, cs, by rw [h5]; exact h2, h5, h4, h6, h7, h8⟩
theorem src_oth {k : EK} {l : List Int} {rb : List Nat} (hkm : k.isMap = false) (hs : SimAt X E F a w) (h : srcV st k av = some (l, rb)) (hrb : ∀ i ∈ rb, F.B i = st.blk i) (hh : Held E F.B w (NB X.okk E F.B) av v) : ∃ A c us, v = .slice A l.length c ∧ l.length ≤ c ∧ HeldEls w (NB X.okk E F.B) k l us ∧ (0 < l.length → ∃ a, A = some a ∧ ∀ (j : Nat) (u : Value), us[j]? = some u → w.cell? (a.add j) = some u) := by
 unfold srcV at h
 split at h
 ·rename_i k' l'
  split at h
  ·rename_i hk
   injection h with h; injection h with h1 h2
   subst h1; subst hk
   obtain ⟨A, c, h3, h4, h5⟩ := row_of hh
   refine ⟨A, c, l'.map (Value.int k'), h3, h4, fun W' _ => elsAt_num.2 rfl, fun hl => ?_⟩
   obtain ⟨a, e1, _, _, e2⟩ := h5 hl
   refine ⟨a, e1, fun j u hu => ?_⟩
   obtain ⟨h6, rfl⟩ := ints_get hu
   exact e2 j h6
  ·cases h
 ·split at h
  ·rename_i hk
   injection h with h; injection h with h1 h2
   subst h1; subst hk
   obtain ⟨A, c, us, h3, h4, h5, h6⟩ := rows_of hh
   exact ⟨A, c, us, h3, h4, h5, fun hl => by obtain ⟨a, e1, _, _, e2⟩ := h6 hl; exact ⟨a, e1, e2⟩⟩
  ·cases h
 ·rename_i id
  split at h
  ·rename_i k' e l' hb
   split at h
   ·rename_i hk
    injection h with h; injection h with h1 h2
    subst h1; subst hk; subst h2
    have hB := (hrb id (by simp)).trans hb
    rcases sli_oth hs hkm hB hh with ⟨_, h3, h4⟩ | ⟨_, h3, cs, us, h4, h5, h6, h7, h8, h9⟩
    ·subst h4; exact ⟨none, 0, [], h3, Nat.le_refl _, fun _ _ => rfl, fun hl => by simp at hl⟩
    ·refine ⟨_, _, us, h3, h7, h8, fun hl => ⟨_, rfl, fun i u hi => ?_⟩⟩
     rw [add_own, cell_of_row w _ _ cs e _ h4, Nat.zero_add]
     exact h9 i u hi
   ·cases h
  ·cases h
 ·injection h with h; injection h with h1 h2
  subst h1
  exact ⟨none, 0, [], lit_of hh, Nat.le_refl _, fun _ _ => rfl, fun hl => by simp at hl⟩
 ·cases h
theorem src_of {k : IntKind} {l : List Int} {rb : List Nat} (hs : SimAt X E F a w) (h : srcV st (.num k) av = some (l, rb)) (hrb : ∀ i ∈ rb, F.B i = st.blk i) (hh : Held E F.B w (NB X.okk E F.B) av v) : ∃ A c, v = .slice A l.length c ∧ l.length ≤ c ∧ Src w k l A := by
 obtain ⟨A, c, us, h1, h2, h3, h4⟩ := src_oth rfl hs h hrb hh
 have h5 := elsAt_num.1 h3.now
 refine ⟨A, c, h1, h2, fun hl => ?_⟩
 obtain ⟨a, h6, h7⟩ := h4 hl
 exact ⟨a, h6, fun i hi => h7 i _ (by rw [h5]; exact ints_getD hi)⟩
theorem ek_nn {e : TypeId} {k : EK} (h : ekOf T e = some k) : k.nn = false := by
 unfold ekOf at h
 (repeat' split at h) <;> cases h <;> rfl
theorem ek_noMap {e : TypeId} {k : EK} (h : ekOf T e = some k) : k.isMap = false := by
 unfold ekOf at h
 (repeat' split at h) <;> cases h <;> rfl
theorem beq_ne {i j : Nat} (h : Nat.beq i j = false) : i ≠ j := by rintro rfl; rw [Nat.beq_refl] at h; cases h
theorem app_ok (hT : T.ok P) {t t' : TypeId} {s x : Operand} {id : Nat} (ho : o.op = .call { callee := .builtin .append, args := #[s, x], argTypes := #[t, t'] }) {K : AV → List (Nat × Blk) → List Nat → Option R} (h : appV T st id t t' (ev st s) (ev st x) K = some r) : ∃ av bs rb, K av bs rb = some r ∧ OpOk P o st ⟨av, bs, rb⟩ := by
 have hsm : s ∈ o.op.operands.toList := by simp [ho, Op.operands, Call.operands]
 have hxm : x ∈ o.op.operands.toList := by simp [ho, Op.operands, Call.operands]
 unfold appV at h
 split at h
 ·rename_i e e' ht ht' hid
  split at h
  ·rename_i k zz b zs hk hi
   have hu : P.underlying t = some (.slice e) := hT.1 t _ ht
   have hu' : P.underlying t' = some (.slice e') := hT.1 t' _ ht'
   have hkm := ek_noMap hk
   have hkn : k.nn = true → False := fun hq => by rw [ek_nn hk] at hq; cases hq
   obtain ⟨i, z, hi1, hi2, hi3, hi4, hi5⟩ := hT.2 e _ hi
   have hex : ∀ {a : Act} {w w' : World} {v : Value}, (Builtin.append_ #[t, t'] o.type #[a.eval s, a.eval x]).run P w = .ok v w' → (execOp a.eval o).run P w = .ok (.value v) w' := by
    intro a w w' v h1
    simp [execOp, ho, resolve, invoke, builtin, h1]
   have hroom : ∀ {m n : Nat}, m + n ≤ 140737488355328 / b → (m + n) * i.bytes ≤ 140737488355328 ∧ m + n ≤ maxLen := by
    intro m n h1
    have e1 : i.bytes = b := hi3
    rw [e1]
    exact ⟨Nat.le_trans (Nat.mul_le_mul_right _ h1) (Nat.div_mul_le_self _ _), by have := Nat.le_trans h1 (Nat.div_le_self _ _); unfold maxLen; omega⟩
   split at h
   ·rename_i l2 rb hzz hsrc
    rw [Bool.and_eq_true] at hzz
    obtain rfl : zz = k.z := Nat.eq_of_beq_eq_true hzz.1
    have hiz : i.size = k.z := hi2
    have hzc : z.cells.size = i.size := by
     have h8 : z.cells.toList = zs := hi5
     rw [← Array.length_toList, h8, hiz]; exact Nat.eq_of_beq_eq_true hzz.2
    have hz0 : 0 < i.size := by rw [hiz]; exact k.z_pos
    split at h
    ·rename_i hs0
     split at h
     ·rename_i hle
      refine ⟨_, _, _, h, ?_⟩
      rintro X F a w ⟨E, hs⟩ hag K' Q hK
      have h1 := ev_held hs (ag1 hag hsm)
      have h2 := ev_held hs (ag1 hag hxm)
      rw [hs0] at h1
      have hv := lit_of h1
      obtain ⟨A, c, us2, hxv, _, hels, hsr⟩ := src_oth hkm hs hsrc hag.2.1 h2
      have hlen2 := elsAt_len hels.now
      have hF : F.B id = none := (hag.2.2.1 _ List.mem_cons_self).trans hid
      obtain ⟨hb1, hb2⟩ := hroom hle
      obtain ⟨v', w', hrun, h3, h4, h5, h6, h7, h8⟩ := run_app (P := P) (w := w) (v := a.eval s) (ty := o.type) (old := none) (us := []) (n := 0) (c := c) hu hu' hi1 hi4 hzc hz0 (by simp) (by rw [hlen2, hiz]) (els_ones hels.now) ⟨hv, rfl⟩ hsr hb1 hb2
      rw [← hxv] at hrun
      unfold Oper.wp
      rw [hex hrun]
      show K' (a.put o.dst v') w'
      have hbs : ∀ j, (F.upd o.dst ⟨.sli id, [(id, .ints k e ([] ++ l2))], rb⟩).B j = if j = id then some (.ints k e ([] ++ l2)) else F.B j := fun j => bs_one (dst := o.dst) j
      have key : ∀ (g c : Nat) (n : Bool), (n = false → w.heap.size ≤ g) → BlkAt (E.at id g c n) (F.upd o.dst ⟨.sli id, [(id, .ints k e ([] ++ l2))], rb⟩).B w' (NB X.okk (E.at id g c n) (F.upd o.dst ⟨.sli id, [(id, .ints k e ([] ++ l2))], rb⟩).B) id (.ints k e ([] ++ l2)) → v' = (if n = true then .slice none 0 0 else .slice (some ⟨g, 0, none⟩) ([] ++ l2).length c) → K' (a.put o.dst v') w' := by
       intro g c n hg hblk hv'
       have hs1 : SimAt X (E.at id g c n) ⟨F.sl, (F.upd o.dst ⟨.sli id, [(id, .ints k e ([] ++ l2))], rb⟩).B⟩ a w' :=
        hs.fresh none hF h3 h4 h5 h6 (fun j hj _ => h7 j hj fun _ _ _ hx => by cases hx) (fun hn => .inl (hg hn)) rfl ((hbs id).trans (if_pos rfl)) (fun j hj => by cases hj) (fun j hj _ => (hbs j).trans (if_neg hj)) hblk
       refine hK _ _ (fin hs1 rfl (fun _ => rfl) (fun W' hW => ?_) hag.2.2.2)
       unfold Den
       rw [hbs, if_pos rfl]
       refine ⟨rfl, by rw [hv']; cases n <;> exact ⟨_, _, _, rfl⟩, fun k' e' l' hl => ?_⟩
       injection hl with hl
       injection hl with _ _ hl
       rw [En.at_eq.2.2, En.at_eq.1, En.at_eq.2.1, ← hl]
       exact hv'
      rcases h8 with ⟨h8, h9⟩ | ⟨g', c', cs', h8, ⟨h9, h11, h12, h13, h14⟩, h10⟩
      ·refine key 0 0 true (fun hn => by cases hn) ((blk_oth hkm fun hq => (hkn hq).elim).2 ?_) h8
       rw [En.at_eq.2.2, if_pos rfl]
       exact List.length_eq_zero_iff.1 (by rw [List.nil_append]; omega)
      ·rw [Nat.zero_add] at h8 h13
       have hg' : w.heap.size ≤ g' := h10.elim (fun hx => hx) fun ⟨_, _, hx⟩ => by cases hx
       refine key g' c' false (fun _ => hg') ((blk_oth hkm fun hq => (hkn hq).elim).2 ?_) (by simpa using h8)
       rw [En.at_eq.2.2, if_neg (by simp), En.at_eq.1, En.at_eq.2.1]
       refine ⟨cs', us2, h9, by rw [h11, hiz], h12, by simpa using h13, ?_, fun j u hu => h14 j u (by simpa using hu)⟩
       refine hels.move h6 fun q hq hl => ⟨h7 q hl (fun _ _ _ hx => by cases hx), hq.1, fun j hj he => ?_⟩
       by_cases hji : j = id
       ·subst hji; rw [En.at_eq.1] at he; omega
       ·obtain ⟨⟨x, hx, hd⟩, hn⟩ := hj
        rw [hbs, if_neg hji] at hx
        rw [(En.at_ne hji).2.2] at hn
        rw [(En.at_ne hji).1] at he
        exact hq.2 j ⟨⟨x, hx, hd⟩, hn⟩ he
     ·cases h
    ·rename_i i0 hs0
     split at h
     ·rename_i k0 e0 l hb0
      split at h
      ·rename_i hnot hee
       have hee' : e0 = e := Nat.eq_of_beq_eq_true hee
       subst hee'
       split at h
       ·rename_i hkk
        subst hkk
        split at h
        ·rename_i hle
         refine ⟨_, _, _, h, ?_⟩
         rintro X F a w ⟨E, hs⟩ hag K' Q hK
         have h1 := ev_held hs (ag1 hag hsm)
         have h2 := ev_held hs (ag1 hag hxm)
         rw [hs0] at h1
         obtain ⟨A, c, us2, hxv, _, hels, hsr⟩ := src_oth hkm hs hsrc hag.2.1 h2
         have hlen2 := elsAt_len hels.now
         have hF : F.B id = none := (hag.2.2.1 _ List.mem_cons_self).trans hid
         have hF0 : F.B i0 = some (.ints k0 e0 l) := (hag.2.2.1 _ (List.mem_cons_of_mem _ List.mem_cons_self)).trans hb0
         have hne : i0 ≠ id := by rintro rfl; rw [hF] at hF0; cases hF0
         obtain ⟨hb1, hb2⟩ := hroom hle
         have hbs : ∀ j, (F.upd o.dst ⟨.sli id, [(id, .ints k0 e0 (l ++ l2)), (i0, .dead)], rb⟩).B j = if j = id then some (.ints k0 e0 (l ++ l2)) else if j = i0 then some .dead else F.B j := fun j => by
          show (match look j [(id, _), (i0, _)] with | some b => some b | none => F.B j) = _
          by_cases hj : j = id
          ·subst hj; simp [look]
          ·have e1 : Nat.beq j id = false := by cases hx : Nat.beq j id with
            | false => rfl
            | true => exact absurd (Nat.eq_of_beq_eq_true hx) hj
           have e2 : look j [(id, Blk.ints k0 e0 (l ++ l2)), (i0, Blk.dead)] = look j [(i0, Blk.dead)] := by
            conv => lhs; unfold look
            rw [e1]
           rw [e2, look_one, if_neg hj]
           by_cases hj0 : j = i0 <;> simp [hj0]
         have main : ∀ (old : Option (Nat × Nat × Array Value)) (us : List Value), HeldEls w (NB X.okk E F.B) k0 l us → (match old with
            | none => a.eval s = .slice none 0 0 ∧ l.length = 0
            | some (g, cc, cs) => a.eval s = .slice (some ⟨g, 0, none⟩) l.length cc ∧ Room w e0 i.size us l.length g cc cs) → (∀ g cc cs, old = some (g, cc, cs) → Live E F.B i0 ∧ E.ρ i0 = g) → o.wp P a w K' Q := by
          intro old us hels0 hold hlive
          obtain ⟨v', w', hrun, h3, h4, h5, h6, h7, h8⟩ := run_app (P := P) (w := w) (v := a.eval s) (ty := o.type) (c := c) hu hu' hi1 hi4 hzc hz0 (by rw [elsAt_len hels0.now, hiz]) (by rw [hlen2, hiz]) (els_ones hels.now) hold hsr hb1 hb2
          rw [← hxv] at hrun
          unfold Oper.wp
          rw [hex hrun]
          show K' (a.put o.dst v') w'
          have key : ∀ (g c : Nat) (n : Bool), (n = false → w.heap.size ≤ g ∨ ∃ i, some i0 = some i ∧ Live E F.B i ∧ E.ρ i = g) → BlkAt (E.at id g c n) (F.upd o.dst ⟨.sli id, [(id, .ints k0 e0 (l ++ l2)), (i0, .dead)], rb⟩).B w' (NB X.okk (E.at id g c n) (F.upd o.dst ⟨.sli id, [(id, .ints k0 e0 (l ++ l2)), (i0, .dead)], rb⟩).B) id (.ints k0 e0 (l ++ l2)) → v' = (if n = true then .slice none 0 0 else .slice (some ⟨g, 0, none⟩) (l ++ l2).length c) → K' (a.put o.dst v') w' := by
           intro g c n hg hblk hv'
           have hs1 : SimAt X (E.at id g c n) ⟨F.sl, (F.upd o.dst ⟨.sli id, [(id, .ints k0 e0 (l ++ l2)), (i0, .dead)], rb⟩).B⟩ a w' :=
            hs.fresh (some i0) hF h3 h4 h5 h6 (fun j hj hx => h7 j hj fun g cc cs ho => by obtain ⟨h9, h10⟩ := hlive g cc cs ho; rw [← h10]; exact hx i0 rfl h9) hg rfl ((hbs id).trans (if_pos rfl)) (fun j hj hji => by
             injection hj with hj
             subst hj
             exact (hbs i0).trans (by rw [if_neg hji, if_pos rfl])) (fun j hj hj0 => (hbs j).trans (by rw [if_neg hj, if_neg (fun e => hj0 (by rw [e]))])) hblk
           refine hK _ _ (fin hs1 rfl (fun _ => rfl) (fun W' hW => ?_) hag.2.2.2)
           unfold Den
           rw [hbs, if_pos rfl]
           refine ⟨rfl, by rw [hv']; cases n <;> exact ⟨_, _, _, rfl⟩, fun k' e' l' hl => ?_⟩
           injection hl with hl
           injection hl with _ _ hl
           rw [En.at_eq.2.2, En.at_eq.1, En.at_eq.2.1, ← hl]
           exact hv'
          rcases h8 with ⟨h8, h9⟩ | ⟨g', c', cs', h8, ⟨h9, h11, h12, h13, h14⟩, h10⟩
          ·refine key 0 0 true (fun hn => by cases hn) ((blk_oth hkm fun hq => (hkn hq).elim).2 ?_) h8
           rw [En.at_eq.2.2, if_pos rfl]
           exact List.length_eq_zero_iff.1 (by rw [List.length_append]; omega)
          ·have hgg : w.heap.size ≤ g' ∨ (Live E F.B i0 ∧ E.ρ i0 = g') := h10.elim .inl fun ⟨cc, cs, hx⟩ => .inr (hlive _ _ _ hx)
           refine key g' c' false (fun _ => hgg.elim .inl fun hx => .inr ⟨i0, rfl, hx⟩) ((blk_oth hkm fun hq => (hkn hq).elim).2 ?_) (by rw [List.length_append]; simpa using h8)
           rw [En.at_eq.2.2, if_neg (by simp), En.at_eq.1, En.at_eq.2.1]
           refine ⟨cs', us ++ us2, h9, by rw [h11, hiz], h12, by rw [List.length_append]; exact h13, ?_, h14⟩
           have hmv : ∀ q, NB X.okk E F.B q → q < w.heap.size → w'.heap[q]? = w.heap[q]? ∧ NB X.okk (E.at id g' c' false) (F.upd o.dst ⟨.sli id, [(id, .ints k0 e0 (l ++ l2)), (i0, .dead)], rb⟩).B q := fun q hq hl => by
            refine ⟨h7 q hl fun g cc cs ho => ?_, hq.1, fun j hj he => ?_⟩
            ·obtain ⟨h15, h16⟩ := hlive g cc cs ho
             rw [← h16]; exact hq.2 i0 h15
            ·by_cases hji : j = id
             ·subst hji
              rw [En.at_eq.1] at he
              rcases hgg with h15 | ⟨h15, h16⟩
              ·omega
              ·exact hq.2 i0 h15 (h16.trans he)
             ·obtain ⟨⟨x, hx, hd⟩, hn⟩ := hj
              rw [hbs, if_neg hji] at hx
              rw [(En.at_ne hji).2.2] at hn
              rw [(En.at_ne hji).1] at he
              by_cases hj0 : j = i0
              ·rw [if_pos hj0] at hx
               injection hx with hx
               exact hd hx.symm
              ·rw [if_neg hj0] at hx
               exact hq.2 j ⟨⟨x, hx, hd⟩, hn⟩ he
           have h17 := hels0.move h6 hmv
           have h18 := hels.move h6 hmv
           exact fun W' hW => els_append (h17 W' hW) (h18 W' hW)
         rcases sli_oth hs hkm hF0 h1 with ⟨_, h3, h4⟩ | ⟨hn, h3, cs, us, h4, h5, h6, h7, h8, h9⟩
         ·subst h4
          exact main none [] (fun _ _ => rfl) ⟨h3, rfl⟩ fun _ _ _ hx => by cases hx
         ·exact main (some (E.ρ i0, E.γ i0, cs)) us h8 ⟨h3, h4, by rw [h5, hiz], h6, h7, h9⟩ fun g cc cs' hx => by
           injection hx with hx
           injection hx with hx
           exact ⟨⟨⟨_, hF0, by simp⟩, hn⟩, hx⟩
        ·cases h
       ·cases h
      ·cases h
     ·cases h
    ·cases h
   ·cases h
  ·cases h
 ·cases h
theorem len_ok (hT : T.ok P) {t : TypeId} {x : Operand} (ho : o.op = .call { callee := .builtin .len, args := #[x], argTypes := #[t] }) {K : AV → List Nat → Option R} (h : lenV T st t (ev st x) K = some r) : ∃ av rb, K av rb = some r ∧ OpOk P o st ⟨av, [], rb⟩ := by
 have hx : x ∈ o.op.operands.toList := by simp [ho, Op.operands, Call.operands]
 have hex : ∀ {a : Act} {w : World} {v : Value}, (Builtin.len_ #[t] o.type #[a.eval x]).run P w = .ok v w → (execOp a.eval o).run P w = .ok (.value v) w := by
  intro a w v h1
  simp [execOp, ho, resolve, invoke, builtin, h1]
 unfold lenV at h
 split at h
 ·rename_i s ht he
  have hu : P.underlying t = some .string := hT.1 t _ ht
  refine ⟨_, _, h, ok1 hx fun ρ γ B w nb h1 => ⟨_, hex ?_, held_lit _⟩⟩
  rw [he] at h1
  simp [Builtin.len_, lit_of h1, run_underlying hu, goInt]
 ·rename_i e k l ht he
  have hu : P.underlying t = some (.slice e) := hT.1 t _ ht
  refine ⟨_, _, h, ok1 hx fun ρ γ B w nb h1 => ⟨_, hex ?_, held_lit _⟩⟩
  rw [he] at h1
  obtain ⟨A, c, h2, _⟩ := row_of h1
  simp [Builtin.len_, h2, run_underlying hu, goInt]
 ·rename_i e k l ht he
  have hu : P.underlying t = some (.slice e) := hT.1 t _ ht
  refine ⟨_, _, h, ok1 hx fun ρ γ B w nb h1 => ⟨_, hex ?_, held_lit _⟩⟩
  rw [he] at h1
  obtain ⟨A, c, us, h2, _⟩ := rows_of h1
  simp [Builtin.len_, h2, run_underlying hu, goInt]
 ·rename_i e id ht he
  have hu : P.underlying t = some (.slice e) := hT.1 t _ ht
  split at h
  ·rename_i k e' l hb
   refine ⟨_, _, h, okPure fun X E F a w hs hag => ⟨_, hex ?_, held_lit _⟩⟩
   have h1 := ev_held hs (ag1 hag hx)
   rw [he] at h1
   rcases sli_val hs ((hag.2.1 id (by simp)).trans hb) h1 with ⟨_, h2, h3⟩ | ⟨_, h2⟩
   ·subst h3; simp [Builtin.len_, h2, run_underlying hu, goInt]
   ·simp [Builtin.len_, h2, run_underlying hu, goInt]
  ·cases h
 ·rename_i e n c ht he
  have hu : P.underlying t = some (.slice e) := hT.1 t _ ht
  refine ⟨_, _, h, ok1 hx fun ρ γ B w nb h1 => ⟨_, hex ?_, held_lit _⟩⟩
  rw [he] at h1
  simp [Builtin.len_, lit_of h1, run_underlying hu, goInt]
 ·cases h
theorem held_take {k : IntKind} {l : List Int} {A : Option Addr} {c n c' : Nat} (h : Held E B w nb (.row k l) (.slice A l.length c)) (hn : n ≤ l.length) (hc : n ≤ c') : Held E B w nb (.row k (l.take n)) (.slice A n c') := by
 have hl : (l.take n).length = n := by simp; omega
 intro W' hW
 have h1 := h W' hW
 unfold Den RowAt at h1 ⊢
 obtain ⟨A', c0, he, _, h2⟩ := h1
 injection he with e1 e2 e3
 subst e1
 refine ⟨A, c', by rw [hl], by rw [hl]; exact hc, fun hp => ?_⟩
 rw [hl] at hp ⊢
 obtain ⟨a, h3, h4⟩ := h2 (by omega)
 refine ⟨a, h3, fun i hi => ?_⟩
 rw [h4 i (by omega), List.getD_eq_getElem?_getD, List.getD_eq_getElem?_getD, List.getElem?_take_of_lt hi]
theorem held_drop {k : IntKind} {l : List Int} {A : Option Addr} {c n : Nat} (h : Held E B w nb (.row k l) (.slice A l.length c)) (hn : n ≤ l.length) (hc : l.length ≤ c) : Held E B w nb (.row k (l.drop n)) (.slice (if c = n then A else A.map (·.add n)) (l.length - n) (c - n)) := by
 have hl : (l.drop n).length = l.length - n := by simp
 intro W' hW
 have h1 := h W' hW
 unfold Den RowAt at h1 ⊢
 obtain ⟨A', c0, he, _, h2⟩ := h1
 injection he with e1 e2 e3
 subst e1
 refine ⟨_, c - n, by rw [hl], by rw [hl]; omega, fun hp => ?_⟩
 rw [hl] at hp ⊢
 obtain ⟨a, h3, h4⟩ := h2 (by omega)
 subst h3
 rw [if_neg (by omega)]
 refine ⟨a.add n, rfl, fun i hi => ?_⟩
 have hadd : (a.add n).add i = a.add (n + i) := by
  unfold Addr.add
  by_cases h5 : n = 0
  ·subst h5; simp
  ·by_cases h6 : i = 0
   ·subst h6; simp
   ·simp [h5, h6, Nat.add_assoc]
 rw [hadd, h4 (n + i) (by omega), List.getD_eq_getElem?_getD, List.getD_eq_getElem?_getD, List.getElem?_drop]
theorem cut_ok (hT : T.ok P) {t : TypeId} {x : Operand} {lo hi mx : Option Operand} (ho : o.op = .slice t x lo hi mx) {K : AV → Option R} (h : cutV T t (ev st x) (lo.map (ev st)) (hi.map (ev st)) (mx.map (ev st)) K = some r) : ∃ av, K av = some r ∧ OpOk P o st ⟨av, [], []⟩ := by
 have hx : x ∈ o.op.operands.toList := by simp [ho, Op.operands]
 unfold cutV at h
 split at h
 ·rename_i e k l k' n ht he h1 h2 h3
  split at h
  ·rename_i rest hi'
   split at h
   ·rename_i h0
    split at h
    ·rename_i hle
     cases lo with
     | some y => cases h1
     | none =>
      cases mx with
      | some y => cases h3
      | none =>
       cases hi with
       | none => cases h2
       | some y =>
        simp only [Option.map_some, Option.some.injEq] at h2
        have hy : y ∈ o.op.operands.toList := by simp [ho, Op.operands]
        have hu : P.underlying t = some (.slice e) := hT.1 t _ ht
        refine ⟨_, h, ok2 hx hy fun E B w nb a h4 h5 => ?_⟩
        rw [he] at h4
        obtain ⟨A, c, h6, h7, _⟩ := row_of h4
        rw [h6] at h4
        refine ⟨_, ?_, held_take h4 (n := n.toNat) (c' := c) (by omega) (by omega)⟩
        have hsz := run_sizeOf (w := w) hT hi'
        have h8 : n ≤ (c : Int) := by omega
        have h9 : (if c = c then A else A.map (·.add (0 * 1))) = A := by simp
        simp [execOp, ho, h6, asI_of h2 h5, Instr.sliceAt, Instr.slice, run_underlying hu, Instr.sliceBounds, Instr.sliceBound, asIntOf, h0, h8, hsz]
        cases A <;> simp [Addr.add]
    ·cases h
   ·cases h
  ·cases h
 ·rename_i e k l k' n ht he h1 h2 h3
  split at h
  ·rename_i rest hi'
   split at h
   ·rename_i h0
    split at h
    ·rename_i hle
     cases hi with
     | some y => cases h2
     | none =>
      cases mx with
      | some y => cases h3
      | none =>
       cases lo with
       | none => cases h1
       | some y =>
        simp only [Option.map_some, Option.some.injEq] at h1
        have hy : y ∈ o.op.operands.toList := by simp [ho, Op.operands]
        have hu : P.underlying t = some (.slice e) := hT.1 t _ ht
        refine ⟨_, h, ok2 hx hy fun E B w nb a h4 h5 => ?_⟩
        rw [he] at h4
        obtain ⟨A, c, h6, h7, _⟩ := row_of h4
        rw [h6] at h4
        refine ⟨_, ?_, held_drop h4 (n := n.toNat) (by omega) h7⟩
        have hsz := run_sizeOf (w := w) hT hi'
        simp [execOp, ho, h6, asI_of h1 h5, Instr.sliceAt, Instr.slice, run_underlying hu, Instr.sliceBounds, Instr.sliceBound, asIntOf, h0, hle, hsz]
    ·cases h
   ·cases h
  ·cases h
 ·cases h
end
end Go.Proofs.YtkoeddgbhohggaaGreatDoor.E
end

/-
  Texts of this proof, one behind the other: EI, EJ, ET, EU, EV, EW, EK, EL, EQ, EM, EN. No condition of their own.
-/
import Derived.Test.YtkoeddgbhohggaaGreatDoorX1
import Derived.Laws.Tables
import Derived.Great.FillDense
import Derived.Great.BuildSlice
import Derived.Lib.ConvBytes
import Derived.Laws.CopyOwn
import Derived.MapKept
import Derived.Scope
section
namespace Go.Proofs.YtkoeddgbhohggaaGreatDoor.E
open Go.RowKit Go.Proofs.YtkoeddgbhohggaaGreatDoorW.PrintWords Go.Proofs.YtkoeddgbhohggaaGreatDoorW.PrintLast
set_option linter.unusedVariables false
set_option linter.unusedSimpArgs false
mutual
def free : AV → Bool
 | .agg l => freeL l
 | .tup l => freeL l
 | .fp _ l => freeL l
 | .fc a => free a
 | .ptr _ _ => false
 | .sli _ => false
 | .el _ _ => false
 | .clo _ l => freeL l
 | .any => true
 | .fcs l => freeL l
 | .mp _ => false
 | _ => true
def freeL : List AV → Bool
 | [] => true
 | a :: l => match free a with
  | true => freeL l
  | false => false
end
mutual
def closed : AV → Bool
 | .lit _ => true
 | .bp _ _ => true
 | .bn _ _ => true
 | .agg l => closedL l
 | .tup l => closedL l
 | .clo _ l => closedL l
 | _ => false
def closedL : List AV → Bool
 | [] => true
 | a :: l => match closed a with
  | true => closedL l
  | false => false
end
def frzL (f : AV → Option (AV × List Nat)) : List AV → Option (List AV × List Nat)
 | [] => some ([], [])
 | a :: l => match f a with
  | some (a', ids) => (match frzL f l with
   | some (l', ids') => some (a' :: l', ids ++ ids')
   | none => none)
  | none => none
def rowAV : EK → List Int → Option AV
 | .num k, l => some (.row k l)
 | .txt, l => some (.rows .txt l)
 | .row k, l => some (.rows (.row k) l)
 | .big, l => some (.rows .big l)
 | .bigN, l => some (.rows .big l)
 | .map _ _, _ => none
def frz (st : St) : Nat → AV → Option (AV × List Nat)
 | 0, _ => none
 | n + 1, a => match a with
  | .sli id => (match st.blk id with
   | some (.ints k e l) => (match rowAV k l with
    | some a => some (a, [id])
    | none => none)
   | _ => none)
  | .ptr id 0 => (match st.blk id with
   | some (.cells ty l) => (match frzL (frz st n) l with
    | some (l', ids) => some (.fp ty l', id :: ids)
    | none => none)
   | _ => none)
  | .agg l => (match frzL (frz st n) l with
   | some (l', ids) => some (.agg l', ids)
   | none => none)
  | .tup l => (match frzL (frz st n) l with
   | some (l', ids) => some (.tup l', ids)
   | none => none)
  | .clo f l => (match frzL (frz st n) l with
   | some (l', ids) => some (.clo f l', ids)
   | none => none)
  | a => (match free a with
   | true => some (a, [])
   | false => none)
inductive XV where
 | p (a : AV)
 | m (b : Option TypeId) (k : IntKind) (e : TypeId) (l : List Int)
inductive RV where
 | p (a : AV)
 | o (k : EK) (e : TypeId) (l : List Int)
def En0 : En := ⟨fun _ => 0, fun _ => 0, fun _ => false⟩
def HeldF (w : World) (ok : Nat → Prop) (a : AV) (v : Value) : Prop := Held En0 (fun _ => none) w ok a v
def MAt (w : World) (M : Option Nat) (k : IntKind) (e : TypeId) (l : List Int) (u : Value) : Prop := match M with
 | none => u = .slice none 0 0 ∧ l = []
 | some g => ∃ cs, u = .slice (some ⟨g, 0, none⟩) l.length cs.size ∧ Lies w e k l g cs
def OAt (w : World) (nb : Nat → Prop) (G : Option Nat) (k : EK) (e : TypeId) (l : List Int) (u : Value) : Prop := (k.isMap = false ∧ k.nn = false) ∧ match G with
 | none => u = .slice none 0 0 ∧ l = []
 | some g => ∃ c, u = .slice (some ⟨g, 0, none⟩) l.length c ∧ OthAt w nb g c k e l
def RowIn (w : World) (b : Option TypeId) (u x : Value) : Prop := match b with
 | none => x = u
 | some ty => ∃ g, u = .pointer (some ⟨g, 0, none⟩) ∧ w.heap[g]? = some (.cells [x].toArray ty (0, 0))
theorem RowIn.uniq {w : World} {b : Option TypeId} {u x y : Value} (h : RowIn w b u x) (h' : RowIn w b u y) : x = y := by
 cases b with
 | none => exact Eq.trans h (Eq.symm h')
 | some ty =>
  obtain ⟨g, h1, h2⟩ := h
  obtain ⟨g', h3, h4⟩ := h'
  rw [h1] at h3
  injection h3 with h3; injection h3 with h3; injection h3 with h3
  subst h3
  rw [h2] at h4
  injection h4 with h4; injection h4 with h4
  simpa using h4
def BoxOk (ok : Nat → Prop) (b : Option TypeId) (u : Value) : Prop := b.isSome = true → ∀ g, u = .pointer (some ⟨g, 0, none⟩) → ok g
def XAt (w : World) (ok : Nat → Prop) (M : Option Nat) : XV → Value → Prop
 | .p a, u => HeldF w ok a u
 | .m b k e l, u => (∃ x, RowIn w b u x ∧ MAt w M k e l x) ∧ BoxOk ok b u ∧ ∀ g, M = some g → ¬ ok g
def XAll (w : World) (ok : Nat → Prop) (M : Option Nat) : List XV → List Value → Prop
 | [], [] => True
 | x :: xs, u :: us => XAt w ok M x u ∧ XAll w ok M xs us
 | _, _ => False
def MAll (w w' : World) (M : Option Nat) (m' : List Int) : List XV → List Value → Prop
 | .m b k e _ :: xs, u :: us => (∃ x, RowIn w b u x ∧ MAt w' M k e m' x) ∧ MAll w w' M m' xs us
 | _ :: xs, _ :: us => MAll w w' M m' xs us
 | _, _ => True
def RAt (w w' : World) (ok : Nat → Prop) (G : Option Nat) : RV → Value → Prop
 | .p a, u => HeldF w' (fun k => (ok k ∨ w.heap.size ≤ k) ∧ G ≠ some k) a u
 | .o k e l, u => OAt w' (fun k => (ok k ∨ w.heap.size ≤ k) ∧ G ≠ some k) G k e l u ∧ ∀ g, G = some g → w.heap.size ≤ g
def RAll (w w' : World) (ok : Nat → Prop) (G : Option Nat) : List RV → List Value → Prop
 | [], [] => True
 | x :: xs, u :: us => RAt w w' ok G x u ∧ RAll w w' ok G xs us
 | _, _ => False
def packV : List Value → Value
 | [v] => v
 | vs => .tuple vs.toArray
def QC (P : Program) (f : FuncId) (xs : List XV) (rs : List RV) (m' : List Int) : Prop :=
 (∃ fn, P.funcs[f]? = some fn ∧ (fn.name == "runtime.NumGoroutine") = false ∧ fn.body.isSome = true) ∧
 ∀ (ok : Nat → Prop) (M : Option Nat) (w : World) (us : List Value), GOk w ok → XAll w ok M xs us → Calls P f us.toArray w fun e w' => ∃ G vs, e = .returned (packV vs) ∧ RAll w w' ok G rs vs ∧ Fr (fun k => M = some k) w w' ∧ MAll w w' M m' xs us
section
variable {P : Program} {T : TT} {X : Cx} {E E' : En} {F : FS} {a : Act} {w w' : World} {st : St} {o : Oper} {u : Upd} {R : Type} {r : R} {B B' : Nat → Option Blk} {nb nb' : Nat → Prop} {v : Value} {av : AV} {W : World}
mutual
theorem den_free : ∀ (a : AV) (v : Value), free a = true → Den E B W a v → Den E' B' W a v
 | .lit v, u, _, h => by unfold Den at h ⊢; exact h
 | .bp p i, u, _, h => by unfold Den at h ⊢; exact h
 | .bn p i, u, _, h => by unfold Den at h ⊢; exact h
 | .row k l, u, _, h => by unfold Den at h ⊢; exact h
 | .agg as, u, hf, h => by
  unfold Den at h ⊢
  unfold free at hf
  obtain ⟨us, h1, h2⟩ := h
  exact ⟨us, h1, denL_free as us hf h2⟩
 | .tup as, u, hf, h => by
  unfold Den at h ⊢
  unfold free at hf
  obtain ⟨us, h1, h2⟩ := h
  exact ⟨us, h1, denL_free as us hf h2⟩
 | .fp ty as, u, hf, h => by
  unfold Den at h ⊢
  unfold free at hf
  obtain ⟨g, us, h1, h2, h3⟩ := h
  exact ⟨g, us, h1, h2, denL_free as us hf h3⟩
 | .fc a, u, hf, h => by
  unfold Den at h ⊢
  unfold free at hf
  obtain ⟨p, x, h1, h2, h3⟩ := h
  exact ⟨p, x, h1, h2, den_free a x hf h3⟩
 | .ptr id off, u, hf, h => by unfold free at hf; cases hf
 | .sli id, u, hf, h => by unfold free at hf; cases hf
 | .el id i, u, hf, h => by unfold free at hf; cases hf
 | .clo f as, u, hf, h => by
  unfold Den at h ⊢
  unfold free at hf
  obtain ⟨us, h1, h2⟩ := h
  exact ⟨us, h1, denL_free as us hf h2⟩
 | .any, u, hf, h => by unfold Den; trivial
 | .rows k l, u, _, h => by unfold Den at h ⊢; exact h
 | .fcs as, u, hf, h => by
  unfold Den at h ⊢
  unfold free at hf
  obtain ⟨p, us, h1, h2, h3⟩ := h
  exact ⟨p, us, h1, h2, denL_free as us hf h3⟩
 | .mp id, u, hf, h => by unfold free at hf; cases hf
theorem denL_free : ∀ (as : List AV) (us : List Value), freeL as = true → DenL E B W as us → DenL E' B' W as us
 | [], us, _, h => by unfold DenL at h ⊢; exact h
 | a :: as, us, hf, h => by
  unfold DenL at h ⊢
  unfold freeL at hf
  obtain ⟨u, us', h1, h2, h3⟩ := h
  split at hf
  ·rename_i hfa; exact ⟨u, us', h1, den_free a u hfa h2, denL_free as us' hf h3⟩
  ·cases hf
end
mutual
theorem den_closed {W W' : World} : ∀ (a : AV) (v : Value), closed a = true → Den E B W a v → Den E' B' W' a v
 | .lit v, u, _, h => by unfold Den at h ⊢; exact h
 | .bp p i, u, _, h => by unfold Den at h ⊢; exact h
 | .bn p i, u, _, h => by unfold Den at h ⊢; exact h
 | .row k l, u, hf, h => by unfold closed at hf; cases hf
 | .agg as, u, hf, h => by
  unfold Den at h ⊢
  unfold closed at hf
  obtain ⟨us, h1, h2⟩ := h
  exact ⟨us, h1, denL_closed as us hf h2⟩
 | .tup as, u, hf, h => by
  unfold Den at h ⊢
  unfold closed at hf
  obtain ⟨us, h1, h2⟩ := h
  exact ⟨us, h1, denL_closed as us hf h2⟩
 | .fp ty as, u, hf, h => by unfold closed at hf; cases hf
 | .fc a, u, hf, h => by unfold closed at hf; cases hf
 | .ptr id off, u, hf, h => by unfold closed at hf; cases hf
 | .sli id, u, hf, h => by unfold closed at hf; cases hf
 | .el id i, u, hf, h => by unfold closed at hf; cases hf
 | .clo f as, u, hf, h => by
  unfold Den at h ⊢
  unfold closed at hf
  obtain ⟨us, h1, h2⟩ := h
  exact ⟨us, h1, denL_closed as us hf h2⟩
 | .any, u, hf, h => by unfold closed at hf; cases hf
 | .rows k l, u, hf, h => by unfold closed at hf; cases hf
 | .fcs as, u, hf, h => by unfold closed at hf; cases hf
 | .mp id, u, hf, h => by unfold closed at hf; cases hf
theorem denL_closed {W W' : World} : ∀ (as : List AV) (us : List Value), closedL as = true → DenL E B W as us → DenL E' B' W' as us
 | [], us, _, h => by unfold DenL at h ⊢; exact h
 | a :: as, us, hf, h => by
  unfold DenL at h ⊢
  unfold closedL at hf
  obtain ⟨u, us', h1, h2, h3⟩ := h
  split at hf
  ·rename_i hfa; exact ⟨u, us', h1, den_closed a u hfa h2, denL_closed as us' hf h3⟩
  ·cases hf
end
theorem HeldF.any (h : HeldF w nb av v) : Held E B w nb av v := fun W' hW => den_B (fun id hi => by cases hi) (fun id hi => by cases hi) av v (h W' hW)
theorem ev_of_ints {k : IntKind} {e : TypeId} {l : List Int} {g : Nat} {cs : Array Value} (h : Lies w e k l g cs) (hok : nb g) (hlt : g < w.heap.size) : HeldF w nb (.row k l) (.slice (some ⟨g, 0, none⟩) l.length cs.size) := fun W' hW => by
 unfold Den RowAt
 refine ⟨_, _, rfl, h.2.2.1, fun _ => ⟨_, rfl, fun i hi => ?_⟩⟩
 have hadd : (⟨g, 0, none⟩ : Addr).add i = ⟨g, i, none⟩ := by unfold Addr.add; split <;> simp_all
 rw [hadd, cell_of_row W' g i cs e (0, 0) ((hW g hok hlt).trans h.1)]
 exact h.2.2.2 i hi
theorem held_nil {k : IntKind} : HeldF w nb (.row k []) (.slice none 0 0) := fun W' hW => by
 unfold Den RowAt
 exact ⟨none, 0, rfl, Nat.le_refl _, fun h => by simp at h⟩
theorem els_nn {W : World} : ∀ {l : List Int} {us : List Value}, ElsAt W .bigN l us ↔ ElsAt W .big l us
 | [], us => Iff.rfl
 | n :: l, us => by
  simp only [ElsAt, els_nn]
  exact Iff.rfl
theorem oth_nn {g c : Nat} {e : TypeId} {l : List Int} : OthAt w nb g c .bigN e l ↔ OthAt w nb g c .big e l := by
 unfold OthAt HeldEls
 simp only [els_nn]
 exact Iff.rfl
theorem row_of_oth {k : EK} {e : TypeId} {l : List Int} {g c : Nat} {nb0 : Nat → Prop} (ha : rowAV k l = some av) (h : OthAt w nb0 g c k e l) (hsub : ∀ q, nb0 q → nb q) (hok : nb g) (hlt : g < w.heap.size) : HeldF w nb av (.slice (some ⟨g, 0, none⟩) l.length c) := by
 have gen : ∀ k, OthAt w nb0 g c k e l → HeldF w nb (.rows k l) (.slice (some ⟨g, 0, none⟩) l.length c) := fun k h W' hW => by
  obtain ⟨cs, us, h1, h2, h3, h4, h5, h6⟩ := h
  unfold Den
  refine ⟨_, c, us, rfl, h4, h5 W' fun q hq hl => hW q (hsub q hq) hl, fun hl => ⟨_, rfl, fun j v hv => ?_⟩⟩
  rw [add_own, cell_of_row W' g _ cs e (0, 0) ((hW g hok hlt).trans h1), Nat.zero_add]
  exact h6 j v hv
 cases k with
 | num k =>
  injection ha with ha
  subst ha
  obtain ⟨cs, h1, h2, h3, h4, h5⟩ := oth_num.1 h
  have := ev_of_ints (w := w) (e := e) (k := k) (l := l) (nb := nb) ⟨h1, h3, h4, h5⟩ hok hlt
  rwa [h2] at this
 | map a b => cases ha
 | bigN => injection ha with ha; subst ha; exact gen _ (oth_nn.1 h)
 | _ => injection ha with ha; subst ha; exact gen _ h
theorem row_nil_av {k : EK} (ha : rowAV k [] = some av) : HeldF w nb av (.slice none 0 0) := by
 have gen : ∀ k, HeldF w nb (.rows k []) (.slice none 0 0) := fun k W' hW => by
  unfold Den
  exact ⟨none, 0, [], rfl, Nat.le_refl _, rfl, fun h => by simp at h⟩
 cases k with
 | num k => injection ha with ha; subst ha; exact held_nil
 | map a b => cases ha
 | _ => injection ha with ha; subst ha; exact gen _
theorem rowAV_map {k : EK} {l : List Int} (ha : rowAV k l = some av) : k.isMap = false := by cases k <;> first | rfl | cases ha
def Lent (E : En) (B : Nat → Option Blk) (nb : Nat → Prop) (ids : List Nat) (k : Nat) : Prop := nb k ∨ ∃ i ∈ ids, Live E B i ∧ E.ρ i = k
theorem frzL_of {f : AV → Option (AV × List Nat)} (hf : ∀ {av av' : AV} {ids : List Nat} {v : Value}, f av = some (av', ids) → (∀ i ∈ ids, F.B i = st.blk i) → Held E F.B w (NB X.okk E F.B) av v → Held E' B' w (Lent E F.B (NB X.okk E F.B) ids) av' v) :
  ∀ {as as' : List AV} {ids : List Nat} {us : List Value}, frzL f as = some (as', ids) → (∀ i ∈ ids, F.B i = st.blk i) → HeldL E F.B w (NB X.okk E F.B) as us → HeldL E' B' w (Lent E F.B (NB X.okk E F.B) ids) as' us
 | [], as', ids, us, h, _, hh => by
  unfold frzL at h
  injection h with h; injection h with h1 h2
  subst h1
  rw [heldL_nil_of hh]
  exact heldL_nil
 | a :: as, as', ids, us, h, hid, hh => by
  unfold frzL at h
  split at h
  ·rename_i a' ids1 h1
   split at h
   ·rename_i l' ids2 h2
    injection h with h; injection h with h3 h4
    subst h3; subst h4
    obtain ⟨x, us', rfl, h5, h6⟩ := heldL_cons_of hh
    have h7 := hf h1 (fun i hi => hid i (List.mem_append_left _ hi)) h5
    have h8 := frzL_of hf h2 (fun i hi => hid i (List.mem_append_right _ hi)) h6
    refine heldL_cons (Held.mono h7 fun k hk => ?_) (HeldL.mono h8 fun k hk => ?_)
    ·rcases hk with hk | ⟨i, h9, h10⟩
     ·exact .inl hk
     ·exact .inr ⟨i, List.mem_append_left _ h9, h10⟩
    ·rcases hk with hk | ⟨i, h9, h10⟩
     ·exact .inl hk
     ·exact .inr ⟨i, List.mem_append_right _ h9, h10⟩
   ·cases h
  ·cases h
theorem frz_of (hs : SimAt X E F a w) : ∀ (n : Nat) {av av' : AV} {ids : List Nat} {v : Value}, frz st n av = some (av', ids) → (∀ i ∈ ids, F.B i = st.blk i) → Held E F.B w (NB X.okk E F.B) av v → HeldF w (Lent E F.B (NB X.okk E F.B) ids) av' v
 | 0, av, av', ids, v, h, _, _ => by unfold frz at h; cases h
 | n + 1, av, av', ids, v, h, hid, hh => by
  have hmono : ∀ {b : AV}, HeldF w (NB X.okk E F.B) b v → HeldF w (Lent E F.B (NB X.okk E F.B) ids) b v := fun hb => Held.mono hb fun k hk => .inl hk
  unfold frz at h
  split at h
  ·rename_i id
   split at h
   ·rename_i k e l hb
    split at h
    ·rename_i a' ha
     injection h with h; injection h with h1 h2
     subst h1; subst h2
     have hB := (hid id (by simp)).trans hb
     rcases sli_oth hs (rowAV_map ha) hB hh with ⟨_, rfl, rfl⟩ | ⟨hn, rfl, hl⟩
     ·exact row_nil_av ha
     ·have hlive : Live E F.B id := ⟨⟨_, hB, by simp⟩, hn⟩
      exact row_of_oth ha hl (fun q hq => .inl hq) (.inr ⟨id, by simp, hlive, rfl⟩) (hs.lt hlive)
    ·cases h
   ·cases h
  ·rename_i id
   split at h
   ·rename_i ty l hb
    split at h
    ·rename_i l' ids' hgo
     injection h with h; injection h with h1 h2
     subst h1; subst h2
     have hB := (hid id (by simp)).trans hb
     obtain ⟨hn, us, hg, hu⟩ := hs.blk id _ hB
     have hlive : Live E F.B id := ⟨⟨_, hB, by simp⟩, hn⟩
     have h3 := hh.now
     unfold Den at h3
     have h4 := frzL_of (frz_of hs n) hgo (fun i hi => hid i (List.mem_cons_of_mem _ hi)) hu
     intro W' hW
     unfold Den
     refine ⟨E.ρ id, us, h3.2, (hW _ (.inr ⟨id, by simp, hlive, rfl⟩) (hs.lt hlive)).trans hg, h4 W' fun k hk hl => hW k ?_ hl⟩
     rcases hk with hk | ⟨i, h5, h6⟩
     ·exact .inl hk
     ·exact .inr ⟨i, List.mem_cons_of_mem _ h5, h6⟩
    ·cases h
   ·cases h
  ·split at h
   ·rename_i l l' ids' hgo
    injection h with h; injection h with h1 h2
    subst h1; subst h2
    obtain ⟨us, rfl, hu⟩ := agg_of hh
    have h4 := frzL_of (frz_of hs n) hgo hid hu
    intro W' hW
    unfold Den
    exact ⟨us, rfl, h4 W' hW⟩
   ·cases h
  ·split at h
   ·rename_i l l' ids' hgo
    injection h with h; injection h with h1 h2
    subst h1; subst h2
    obtain ⟨us, rfl, hu⟩ := tup_of hh
    have h4 := frzL_of (frz_of hs n) hgo hid hu
    intro W' hW
    unfold Den
    exact ⟨us, rfl, h4 W' hW⟩
   ·cases h
  ·split at h
   ·rename_i l l' ids' hgo
    injection h with h; injection h with h1 h2
    subst h1; subst h2
    obtain ⟨us, rfl, hu⟩ := clo_of hh
    have h4 := frzL_of (frz_of hs n) hgo hid hu
    intro W' hW
    unfold Den
    exact ⟨us, rfl, h4 W' hW⟩
   ·cases h
  ·split at h
   ·rename_i hf
    injection h with h; injection h with h1 h2
    subst h1; subst h2
    exact hmono fun W' hW => den_free _ _ hf (hh W' hW)
   ·cases h
end
def HeldEach (E : En) (B : Nat → Option Blk) (w : World) (nb : Nat → Prop) : List AV → List Value → Prop
 | [], [] => True
 | a :: as, u :: us => Held E B w nb a u ∧ HeldEach E B w nb as us
 | _, _ => False
def addB (bs : List (Nat × Blk)) (B : Nat → Option Blk) (i : Nat) : Option Blk := match look i bs with
 | some b => some b
 | none => B i
def Raw (R : Type) : Type := St → Nat → List AV → (AV → List (Nat × Blk) → List Nat → Option R) → Option R
structure Spec (R : Type) where
 muts : List Bool
 hp : Bool
 app : List XV → (List RV → List Int → Option R) → Option R
 raw : Option (Raw R) := none
def RawOk {R : Type} (P : Program) (f : FuncId) (g : Raw R) : Prop :=
 (∃ fn, P.funcs[f]? = some fn ∧ (fn.name == "runtime.NumGoroutine") = false ∧ fn.body.isSome = true) ∧
 ∀ st id as K r, g st id as K = some r → ∃ av bs rb, K av bs rb = some r ∧ ∀ (X : Cx) (F : FS) (a : Act) (w : World) (E : En) (us : List Value), SimAt X E F a w → (∀ i ∈ rb, F.B i = st.blk i) → (∀ p ∈ bs, F.B p.1 = st.blk p.1) → HeldEach E F.B w (NB X.okk E F.B) as us →
  Calls P f us.toArray w fun e w' => ∃ v E', e = .returned v ∧ SimAt X E' ⟨F.sl, addB bs F.B⟩ a w' ∧ Held E' (addB bs F.B) w' (NB X.okk E' (addB bs F.B)) av v
def Spec.ok {R : Type} (P : Program) (f : FuncId) (s : Spec R) : Prop := (∀ xs (K : List RV → List Int → Option R) r, s.app xs K = some r → ∃ rs m', K rs m' = some r ∧ QC P f xs rs m') ∧ ∀ g, s.raw = some g → RawOk P f g
def lendV (st : St) : List Bool → List AV → Option (List XV × List Nat × Option Nat)
 | _, [] => some ([], [], none)
 | true :: ms, .sli i :: as => (match st.blk i, lendV st ms as with
  | some (.ints (.num k) e l), some (xs, ids, none) => some (.m none k e l :: xs, ids, some i)
  | _, _ => none)
 | true :: ms, .fp ty [.sli i] :: as => (match st.blk i, lendV st ms as with
  | some (.ints (.num k) e l), some (xs, ids, none) => some (.m (some ty) k e l :: xs, ids, some i)
  | _, _ => none)
 | true :: ms, .ptr j 0 :: as => (match st.blk j with
  | some (.cells ty [.sli i]) => (match st.blk i, lendV st ms as with
   | some (.ints (.num k) e l), some (xs, ids, none) => some (.m (some ty) k e l :: xs, j :: ids, some i)
   | _, _ => none)
  | _ => none)
 | ms, a :: as => (match frz st 8 a, lendV st ms.tail as with
  | some (a', ids'), some (xs, ids, mi) => some (.p a' :: xs, ids' ++ ids, mi)
  | _, _ => none)
def EK.inner : EK → Bool
 | .num _ => false
 | .txt => false
 | _ => true
def resV (id : Nat) (lent : Bool) : List RV → Option (List AV × List (Nat × Blk))
 | [] => some ([], [])
 | .p a :: rs => (match (match lent with
   | true => closed a
   | false => true), resV id lent rs with
  | true, some (as, bs) => some (a :: as, bs)
  | _, _ => none)
 | .o k e l :: rs => (match (match lent with
   | true => !k.inner
   | false => true), resV id lent rs with
  | true, some (as, []) => some (.sli id :: as, [(id, .ints k e l)])
  | _, _ => none)
def packA : List AV → AV
 | [a] => a
 | l => .tup l
def mutV (st : St) (m' : List Int) : Option Nat → List (Nat × Blk)
 | some i => (match st.blk i with
  | some (.ints (.num k) e _) => [(i, .ints (.num k) e m')]
  | _ => [])
 | none => []
def callV {R : Type} (st : St) (id : Nat) (S : FuncId → Option (Spec R)) (f : FuncId) (as : List AV) (K : AV → List (Nat × Blk) → List Nat → Option R) : Option R := match S f with
 | some s => (match lendV st s.muts as, st.blk id with
  | some (xs, ids, mi), none => (match (match mi with
    | some i => ids.any (Nat.beq i)
    | none => false) with
   | false => s.app xs fun rs m' => (match resV id (match ids with
     | [] => false
     | _ :: _ => true) rs with
    | some (as', bs) => K (packA as') (bs ++ mutV st m' mi) ids
    | none => none)
   | true => none)
  | _, _ => none)
 | none => none
section
variable {P : Program} {T : TT} {X : Cx} {E E' : En} {F : FS} {a : Act} {w w' : World} {st : St} {o : Oper} {u : Upd} {R : Type} {r : R} {B B' : Nat → Option Blk} {nb nb' : Nat → Prop} {v : Value} {av : AV} {W : World}
theorem each_of {w : World} (hs : SimAt X E F a w) : ∀ {xs : List Operand}, (∀ s, Operand.tmp s ∈ xs → F.sl s = st.get s ∧ s < X.N) → HeldEach E F.B w (NB X.okk E F.B) (xs.map (ev st)) (xs.map a.eval)
 | [], _ => trivial
 | x :: xs, h => ⟨ev_held hs fun s hx => h s (by rw [hx]; exact List.mem_cons_self), each_of hs fun s hx => h s (List.mem_cons_of_mem _ hx)⟩
def mAt (E : En) : Option Nat → Option Nat
 | none => none
 | some i => if E.ν i = true then none else some (E.ρ i)
theorem mat_sli (hs : SimAt X E F a w) {i : Nat} {k : IntKind} {e : TypeId} {l : List Int} (hB : F.B i = some (.ints (.num k) e l)) (h : Held E F.B w (NB X.okk E F.B) (.sli i) v) : MAt w (mAt E (some i)) k e l v := by
 rcases sli_of hs hB h with ⟨hn, h4, h5⟩ | ⟨hn, cs, h4, _, h5⟩
 ·simp only [mAt, hn, if_true]; exact ⟨h4, h5⟩
 ·simp only [mAt, hn, Bool.false_eq_true, if_false]; exact ⟨cs, h4, h5⟩
theorem lend_of (hs : SimAt X E F a w) {ok : Nat → Prop} {M : Option Nat} : ∀ (ms : List Bool) (as : List AV) {xs : List XV} {ids : List Nat} {mi : Option Nat} {us : List Value}, lendV st ms as = some (xs, ids, mi) → (∀ i ∈ ids, F.B i = st.blk i) → (∀ i, mi = some i → F.B i = st.blk i) → (∀ k, Lent E F.B (NB X.okk E F.B) ids k → ok k) → (∀ i, mi = some i → M = mAt E (some i)) → (∀ g, M = some g → ¬ ok g) →
  HeldEach E F.B w (NB X.okk E F.B) as us → XAll w ok M xs us
 | ms, [], xs, ids, mi, us, h, _, _, _, _, _, hh => by
  have hx : xs = [] := by cases ms with
   | nil => injection h with h; injection h with h; exact h.symm
   | cons b ms => cases b <;> (injection h with h; injection h with h; exact h.symm)
  subst hx
  cases us with
  | nil => trivial
  | cons u us => exact hh
 | ms, a0 :: as, xs, ids, mi, us, h, hid, hmi, hok, hM, hMo, hh => by
  cases us with
  | nil => exact hh.elim
  | cons u us =>
   unfold lendV at h
   split at h
   ·cases ‹_ :: _ = []›
   ·rename_i as' ms' i e1 e2
    injection e2 with e2 e3
    subst e2; subst e3
    split at h
    ·rename_i k e l xs' ids' hb hl
     injection h with h; injection h with h1 h2; injection h2 with h2 h3
     subst h1; subst h2; subst h3
     have hB := (hmi i rfl).trans hb
     refine ⟨⟨⟨u, rfl, ?_⟩, (fun hb => by cases hb), hMo⟩, lend_of hs ms' as hl hid (fun j hj => by cases hj) hok (fun j hj => by cases hj) hMo hh.2⟩
     rw [hM i rfl]
     exact mat_sli hs hB hh.1
    ·cases h
   ·rename_i as' ms' ty i e1 e2
    injection e2 with e2 e3
    subst e2; subst e3
    split at h
    ·rename_i k e l xs' ids' hb hl
     injection h with h; injection h with h1 h2; injection h2 with h2 h3
     subst h1; subst h2; subst h3
     have hB := (hmi i rfl).trans hb
     obtain ⟨g, us', rfl, h5, h6, _, h7⟩ := fp_of hh.1
     obtain ⟨x, us2, rfl, h8, h9⟩ := heldL_cons_of h7
     obtain rfl := heldL_nil_of h9
     refine ⟨⟨⟨x, ⟨g, rfl, h5⟩, ?_⟩, (fun _ g' hg' => ?_), hMo⟩, lend_of hs ms' as hl hid (fun j hj => by cases hj) hok (fun j hj => by cases hj) hMo hh.2⟩
     ·rw [hM i rfl]; exact mat_sli hs hB h8
     ·injection hg' with hg'; injection hg' with hg'; injection hg' with hg'
      exact hok _ (.inl (hg' ▸ h6))
    ·cases h
   ·rename_i as' ms' j e1 e2
    injection e2 with e2 e3
    subst e2; subst e3
    split at h
    ·rename_i ty i hbj
     split at h
     ·rename_i k e l xs' ids' hb hl
      injection h with h; injection h with h1 h2; injection h2 with h2 h3
      subst h1; subst h2; subst h3
      have hB := (hmi i rfl).trans hb
      have hBj := (hid j List.mem_cons_self).trans hbj
      obtain ⟨hn, us', h5, h7⟩ := hs.blk j _ hBj
      obtain ⟨x, us2, rfl, h8, h9⟩ := heldL_cons_of h7
      obtain rfl := heldL_nil_of h9
      have h3 := hh.1.now
      unfold Den at h3
      refine ⟨⟨⟨x, ⟨E.ρ j, h3.2, h5⟩, ?_⟩, (fun _ g' hg' => ?_), hMo⟩, lend_of hs ms' as hl (fun i' hi' => hid i' (List.mem_cons_of_mem _ hi')) (fun j hj => by cases hj) (fun k hk => hok k ?_) (fun j hj => by cases hj) hMo hh.2⟩
      ·rw [hM i rfl]; exact mat_sli hs hB h8
      ·rw [h3.2] at hg'
       injection hg' with hg'; injection hg' with hg'; injection hg' with hg'
       exact hok _ (.inr ⟨j, List.mem_cons_self, ⟨⟨_, hBj, by simp⟩, hn⟩, hg'⟩)
      ·rcases hk with hk | ⟨i', h9, h10⟩
       ·exact .inl hk
       ·exact .inr ⟨i', List.mem_cons_of_mem _ h9, h10⟩
     ·cases h
    ·cases h
   ·rename_i ms' a1 as' _ _ _ e2
    injection e2 with e2 e3
    subst e2; subst e3
    split at h
    ·rename_i a' ids1 xs' ids2 mi' hf hl
     injection h with h; injection h with h1 h2; injection h2 with h2 h3
     subst h1; subst h2; subst h3
     refine ⟨Held.mono (frz_of hs 8 hf (fun i hi => hid i (List.mem_append_left _ hi)) hh.1) fun k hk => hok k ?_, lend_of hs _ as hl (fun i hi => hid i (List.mem_append_right _ hi)) hmi (fun k hk => hok k ?_) hM hMo hh.2⟩
     ·rcases hk with hk | ⟨i, h9, h10⟩
      ·exact .inl hk
      ·exact .inr ⟨i, List.mem_append_left _ h9, h10⟩
     ·rcases hk with hk | ⟨i, h9, h10⟩
      ·exact .inl hk
      ·exact .inr ⟨i, List.mem_append_right _ h9, h10⟩
    ·cases h
theorem mall_of {m' : List Int} {M : Option Nat} {w' : World} : ∀ (ms : List Bool) (as : List AV) {xs : List XV} {ids : List Nat} {i : Nat} {us : List Value} {ok : Nat → Prop}, lendV st ms as = some (xs, ids, some i) → XAll w ok M xs us → MAll w w' M m' xs us → ∃ k e l, st.blk i = some (.ints (.num k) e l) ∧ ∃ u, MAt w M k e l u ∧ MAt w' M k e m' u
 | ms, [], xs, ids, i, us, ok, h, _, _ => by
  cases ms with
  | nil => injection h with h; injection h with _ h; injection h with _ h; cases h
  | cons b ms => cases b <;> (injection h with h; injection h with _ h; injection h with _ h; cases h)
 | ms, a0 :: as, xs, ids, i, us, ok, h, hx, hm => by
  unfold lendV at h
  split at h
  ·cases ‹_ :: _ = []›
  ·rename_i as' ms' i' e1 e2
   injection e2 with e2 e3
   subst e2; subst e3
   split at h
   ·rename_i k e l xs' ids' hb hl
    injection h with h; injection h with h1 h2; injection h2 with h2 h3
    injection h3 with h3
    subst h1; subst h2; subst h3
    cases us with
    | nil => exact hx.elim
    | cons u us =>
     obtain ⟨⟨⟨x, h4, h5⟩, _, _⟩, _⟩ := hx
     obtain ⟨⟨y, h6, h7⟩, _⟩ := hm
     exact ⟨k, e, l, hb, x, h5, by rw [RowIn.uniq h4 h6]; exact h7⟩
   ·cases h
  ·rename_i as' ms' ty i' e1 e2
   injection e2 with e2 e3
   subst e2; subst e3
   split at h
   ·rename_i k e l xs' ids' hb hl
    injection h with h; injection h with h1 h2; injection h2 with h2 h3
    injection h3 with h3
    subst h1; subst h2; subst h3
    cases us with
    | nil => exact hx.elim
    | cons u us =>
     obtain ⟨⟨⟨x, h4, h5⟩, _, _⟩, _⟩ := hx
     obtain ⟨⟨y, h6, h7⟩, _⟩ := hm
     exact ⟨k, e, l, hb, x, h5, by rw [RowIn.uniq h4 h6]; exact h7⟩
   ·cases h
  ·rename_i as' ms' j e1 e2
   injection e2 with e2 e3
   subst e2; subst e3
   split at h
   ·split at h
    ·rename_i k e l xs' ids' hb hl
     injection h with h; injection h with h1 h2; injection h2 with h2 h3
     injection h3 with h3
     subst h1; subst h2; subst h3
     cases us with
     | nil => exact hx.elim
     | cons u us =>
      obtain ⟨⟨⟨x, h4, h5⟩, _, _⟩, _⟩ := hx
      obtain ⟨⟨y, h6, h7⟩, _⟩ := hm
      exact ⟨k, e, l, hb, x, h5, by rw [RowIn.uniq h4 h6]; exact h7⟩
    ·cases h
   ·cases h
  ·rename_i ms' a1 as' _ _ _ e2
   injection e2 with e2 e3
   subst e2; subst e3
   split at h
   ·rename_i a' ids1 xs' ids2 mi' hf hl
    injection h with h; injection h with h1 h2; injection h2 with h2 h3
    subst h1; subst h2; subst h3
    cases us with
    | nil => exact hx.elim
    | cons u us => exact mall_of _ as hl hx.2 hm
   ·cases h
theorem mat_len {k : IntKind} {e : TypeId} {l l' : List Int} {M : Option Nat} {w' : World} {u : Value} (h : MAt w M k e l u) (h' : MAt w' M k e l' u) : l.length = l'.length := by
 unfold MAt at h h'
 cases M with
 | none => rw [h.2, h'.2]
 | some g =>
  obtain ⟨cs, rfl, _⟩ := h
  obtain ⟨cs', h1, _⟩ := h'
  injection h1
theorem res_own {id : Nat} {lent : Bool} : ∀ {rs : List RV} {as : List AV} {bs : List (Nat × Blk)}, resV id lent rs = some (as, bs) → bs = [] ∨ ∃ k e l, bs = [(id, .ints k e l)]
 | [], as, bs, h => by injection h with h; injection h with _ h; exact .inl h.symm
 | .p a :: rs, as, bs, h => by
  unfold resV at h
  split at h
  ·rename_i as' bs' _ h1
   injection h with h; injection h with _ h
   subst h
   exact res_own h1
  ·cases h
 | .o k e l :: rs, as, bs, h => by
  unfold resV at h
  split at h
  ·injection h with h; injection h with _ h
   exact .inr ⟨k, e, l, h.symm⟩
  ·cases h
theorem res_inner {id : Nat} {lent : Bool} : ∀ {rs : List RV} {as : List AV} {k : EK} {e : TypeId} {l : List Int}, resV id lent rs = some (as, [(id, .ints k e l)]) → lent = true → k.inner = false
 | [], as, k, e, l, h, _ => by injection h with h; injection h with _ h; cases h
 | .p a :: rs, as, k, e, l, h, hl => by
  unfold resV at h
  split at h
  ·rename_i as' bs' _ h1
   injection h with h; injection h with _ h
   subst h
   exact res_inner h1 hl
  ·cases h
 | .o k' e' l' :: rs, as, k, e, l, h, hl => by
  unfold resV at h
  split at h
  ·rename_i hk _
   injection h with h; injection h with _ h
   injection h with h
   injection h with _ h
   injection h with h2 h3 h4
   subst h2; subst hl
   simpa using hk
  ·cases h
theorem res_blk {id : Nat} {lent : Bool} {w' : World} {ok : Nat → Prop} {G : Option Nat} : ∀ {rs : List RV} {as : List AV} {k : EK} {e : TypeId} {l : List Int} {vs : List Value}, resV id lent rs = some (as, [(id, .ints k e l)]) → RAll w w' ok G rs vs → ∃ u, OAt w' (fun k => (ok k ∨ w.heap.size ≤ k) ∧ G ≠ some k) G k e l u ∧ ∀ g, G = some g → w.heap.size ≤ g
 | [], as, k, e, l, vs, h, _ => by injection h with h; injection h with _ h; cases h
 | .p a :: rs, as, k, e, l, vs, h, hr => by
  unfold resV at h
  split at h
  ·rename_i as' bs' _ h1
   injection h with h; injection h with _ h
   subst h
   cases vs with
   | nil => exact hr.elim
   | cons v vs => exact res_blk h1 hr.2
  ·cases h
 | .o k' e' l' :: rs, as, k, e, l, vs, h, hr => by
  unfold resV at h
  split at h
  ·injection h with h; injection h with _ h
   injection h with h
   injection h with _ h
   injection h with h2 h3 h4
   subst h2; subst h3; subst h4
   cases vs with
   | nil => exact hr.elim
   | cons v vs => exact ⟨v, hr.1⟩
  ·cases h
theorem res_held {id : Nat} {lent : Bool} {w' : World} {ok : Nat → Prop} {G : Option Nat} (hp : ∀ a u, HeldF w' (fun k => (ok k ∨ w.heap.size ≤ k) ∧ G ≠ some k) a u → (lent = true → closed a = true) → Held E' B' w' nb' a u) :
  ∀ {rs : List RV} {as : List AV} {bs : List (Nat × Blk)} {vs : List Value}, resV id lent rs = some (as, bs) → RAll w w' ok G rs vs → (∀ k e l u, bs = [(id, .ints k e l)] → OAt w' (fun k => (ok k ∨ w.heap.size ≤ k) ∧ G ≠ some k) G k e l u → Held E' B' w' nb' (.sli id) u) → HeldL E' B' w' nb' as vs
 | [], as, bs, vs, h, hr, _ => by
  injection h with h; injection h with h _
  subst h
  cases vs with
  | nil => exact heldL_nil
  | cons v vs => exact hr.elim
 | .p a :: rs, as, bs, vs, h, hr, ho => by
  unfold resV at h
  split at h
  ·rename_i as' bs' hc h1
   injection h with h; injection h with h2 h3
   subst h2; subst h3
   cases vs with
   | nil => exact hr.elim
   | cons v vs => exact heldL_cons (hp a v hr.1 fun hl => by subst hl; exact hc) (res_held hp h1 hr.2 ho)
  ·cases h
 | .o k e l :: rs, as, bs, vs, h, hr, ho => by
  unfold resV at h
  split at h
  ·rename_i as' _ h1
   injection h with h; injection h with h2 h3
   subst h2; subst h3
   cases vs with
   | nil => exact hr.elim
   | cons v vs => exact heldL_cons (ho k e l v rfl hr.1.1) (res_held hp h1 hr.2 fun _ _ _ _ hx => by cases hx)
  ·cases h
theorem pack_held : ∀ {as : List AV} {vs : List Value}, HeldL E B w nb as vs → Held E B w nb (packA as) (packV vs)
 | [], vs, h => by rw [heldL_nil_of h]; exact held_tup heldL_nil
 | [a], vs, h => by
  obtain ⟨u, us, rfl, h1, h2⟩ := heldL_cons_of h
  rw [heldL_nil_of h2]; exact h1
 | a :: b :: as, vs, h => by
  obtain ⟨u, us, rfl, h1, h2⟩ := heldL_cons_of h
  obtain ⟨u2, us2, rfl, h3, h4⟩ := heldL_cons_of h2
  exact held_tup h
theorem look_append {α : Type} {i : Nat} : ∀ {l l' : List (Nat × α)}, look i (l ++ l') = (match look i l with | some b => some b | none => look i l')
 | [], l' => rfl
 | (j, b) :: l, l' => by
  show (match Nat.beq i j with | true => some b | false => look i (l ++ l')) = (match (match Nat.beq i j with | true => some b | false => look i l) with | some b => some b | none => look i l')
  cases Nat.beq i j with
  | true => rfl
  | false => exact look_append
theorem lend_ints : ∀ (ms : List Bool) (as : List AV) {xs : List XV} {ids : List Nat} {i : Nat}, lendV st ms as = some (xs, ids, some i) → ∃ k e l, st.blk i = some (.ints (.num k) e l)
 | ms, [], xs, ids, i, h => by
  cases ms with
  | nil => injection h with h; injection h with _ h; injection h with _ h; cases h
  | cons b ms => cases b <;> (injection h with h; injection h with _ h; injection h with _ h; cases h)
 | ms, a0 :: as, xs, ids, i, h => by
  unfold lendV at h
  split at h
  ·cases ‹_ :: _ = []›
  ·rename_i as' ms' i' e1 e2
   split at h
   ·rename_i k e l xs' ids' hb hl
    injection h with h; injection h with h1 h2; injection h2 with h2 h3
    injection h3 with h3
    subst h3
    exact ⟨k, e, l, hb⟩
   ·cases h
  ·rename_i as' ms' ty i' e1 e2
   split at h
   ·rename_i k e l xs' ids' hb hl
    injection h with h; injection h with h1 h2; injection h2 with h2 h3
    injection h3 with h3
    subst h3
    exact ⟨k, e, l, hb⟩
   ·cases h
  ·rename_i as' ms' j e1 e2
   split at h
   ·split at h
    ·rename_i k e l xs' ids' hb hl
     injection h with h; injection h with h1 h2; injection h2 with h2 h3
     injection h3 with h3
     subst h3
     exact ⟨k, e, l, hb⟩
    ·cases h
   ·cases h
  ·rename_i ms' a1 as' _ _ _ e2
   injection e2 with e2 e3
   subst e2; subst e3
   split at h
   ·rename_i a' ids1 xs' ids2 mi' hf hl
    injection h with h; injection h with h1 h2; injection h2 with h2 h3
    subst h3
    exact lend_ints _ as hl
   ·cases h
theorem inner_els {k : EK} (hk : k.inner = false) {w w' : World} {nb nb' : Nat → Prop} : ∀ {l : List Int} {us : List Value}, HeldEls w nb k l us → HeldEls w' nb' k l us := fun {l us} h W' _ => by
 have h1 := h.now
 have gen : ∀ (l : List Int) (us : List Value), ElsAt w k l us → ElsAt W' k l us := by
  intro l
  induction l with
  | nil => intro us h; exact h
  | cons n l ih =>
   intro us h
   obtain ⟨x, y, h2, h3, h4⟩ := h
   refine ⟨x, y, h2, ?_, ih y h4⟩
   cases k <;> first | exact h3 | cases hk
 exact gen l us h1
theorem own_at (E : En) {G : Option Nat} {k : EK} {e : TypeId} {l : List Int} {w' : World} {u : Value} {nb0 : Nat → Prop} (hm : OAt w' nb0 G k e l u) (id : Nat) : ∃ E' : En, (∀ j, j ≠ id → E'.ρ j = E.ρ j ∧ E'.γ j = E.γ j ∧ E'.ν j = E.ν j) ∧ (∀ B nb, (k.inner = true → ∀ q, nb0 q → nb q) → BlkAt E' B w' nb id (.ints k e l)) ∧ (E'.ν id = false → G = some (E'.ρ id)) ∧ ∀ u' B nb, B id = some (.ints k e l) → OAt w' nb0 G k e l u' → Held E' B w' nb (.sli id) u' := by
 obtain ⟨⟨hkm, hkn⟩, hm⟩ := hm
 cases G with
 | none =>
  obtain ⟨rfl, hl⟩ := hm
  refine ⟨E.at id 0 0 true, fun j hj => En.at_ne hj, fun B nb _ => (blk_oth hkm fun hq => by rw [hkn] at hq; cases hq).2 ?_, fun hn => ?_, fun u' B nb hB h' W' hW => ?_⟩
  ·rw [En.at_eq.2.2, if_pos rfl]; exact hl
  ·rw [En.at_eq.2.2] at hn; cases hn
  ·obtain ⟨_, rfl, _⟩ := h'
   unfold Den
   rw [hB]
   refine ⟨rfl, ⟨_, _, _, rfl⟩, fun _ _ _ _ => ?_⟩
   rw [En.at_eq.2.2, if_pos rfl]
 | some g =>
  obtain ⟨c, rfl, cs, us, h1, h2, h3, h4, h5, h6⟩ := hm
  refine ⟨E.at id g c false, fun j hj => En.at_ne hj, fun B nb hnb => (blk_oth hkm fun hq => by rw [hkn] at hq; cases hq).2 ?_, fun hn => by rw [En.at_eq.1], fun u' B nb hB h' W' hW => ?_⟩
  ·rw [En.at_eq.2.2, if_neg (by simp), En.at_eq.1, En.at_eq.2.1]
   refine ⟨cs, us, h1, h2, h3, h4, ?_, h6⟩
   cases hk : k.inner with
   | true => exact h5.move (Nat.le_refl _) fun q hq _ => ⟨rfl, hnb hk q hq⟩
   | false => exact inner_els hk h5
  ·obtain ⟨_, c', rfl, cs', us', h1', h2', _⟩ := h'
   have hcs : cs' = cs := by
    have h1 := h1'.symm.trans h1
    injection h1 with h1
    injection h1
   subst hcs
   have hcc : c' = c := Nat.eq_of_mul_eq_mul_right k.z_pos (h2'.symm.trans h2)
   subst hcc
   unfold Den
   rw [hB]
   refine ⟨rfl, ⟨_, _, _, rfl⟩, fun k' e' l' hl2 => ?_⟩
   injection hl2 with hl2
   injection hl2 with _ _ hl2
   rw [En.at_eq.2.2, if_neg (by simp), En.at_eq.1, En.at_eq.2.1, hl2]
def fnOf : AV → Option (FuncId × List AV)
 | .clo f l => some (f, l)
 | .lit (.func (.func f) ⟨[]⟩ ⟨[]⟩) => some (f, [])
 | _ => none
theorem each_list {w : World} : ∀ {as : List AV} {us : List Value}, HeldL E B w nb as us → HeldEach E B w nb as us
 | [], us, h => by rw [heldL_nil_of h]; trivial
 | a :: as, us, h => by
  obtain ⟨u, us', rfl, h1, h2⟩ := heldL_cons_of h
  exact ⟨h1, each_list h2⟩
theorem each_append {w : World} : ∀ {as bs : List AV} {us vs : List Value}, HeldEach E B w nb as us → HeldEach E B w nb bs vs → HeldEach E B w nb (as ++ bs) (us ++ vs)
 | [], bs, [], vs, _, h => h
 | [], bs, _ :: _, vs, h, _ => (h : False).elim
 | _ :: _, bs, [], vs, h, _ => (h : False).elim
 | a :: as, bs, u :: us, vs, h, h' => ⟨h.1, each_append h.2 h'⟩
theorem fnOf_of {f : FuncId} {caps : List AV} {w : World} (h : fnOf av = some (f, caps)) (hh : Held E B w nb av v) : ∃ us, v = .func (.func f) #[] us.toArray ∧ HeldL E B w nb caps us := by
 unfold fnOf at h
 split at h
 ·injection h with h; injection h with h1 h2
  subst h1; subst h2
  obtain ⟨us, h3, h4⟩ := clo_of hh
  exact ⟨us, h3, h4⟩
 ·injection h with h; injection h with h1 h2
  subst h1; subst h2
  exact ⟨[], lit_of hh, heldL_nil⟩
 ·cases h
theorem call_core {S : FuncId → Option (Spec R)} (hS : ∀ f s, S f = some s → s.ok P f) {f : FuncId} {x : Operand} {as : Array Operand} {ts : Array TypeId} {id : Nat} (ho : o.op = .call { callee := .value x, args := as, argTypes := ts }) {avs : List AV} {K : AV → List (Nat × Blk) → List Nat → Option R}
  (h : callV st id S f avs K = some r) : ∃ av bs rb, K av bs rb = some r ∧ ∀ (X : Cx) (F : FS) (a : Act) (w : World) (E : En) (cus : List Value), SimAt X E F a w → (∀ i ∈ rb, F.B i = st.blk i) → (∀ p ∈ bs, F.B p.1 = st.blk p.1) → (∀ t, o.dst = some t → ∀ s v, X.pin = some (s, v) → s ≠ t) → a.eval x = .func (.func f) #[] cus.toArray → HeldEach E F.B w (NB X.okk E F.B) avs (as.toList.map a.eval ++ cus) → ∀ (K' : Act → World → Prop) (Q : Exit → Act → World → Prop), (∀ a' w', Sim X (F.upd o.dst ⟨av, bs, rb⟩) a' w' → K' a' w') → o.wp P a w K' Q := by
 unfold callV at h
 split at h
 ·rename_i s hSf
  split at h
  ·rename_i xs ids mi hlend hid
   split at h
   ·rename_i hdis
    obtain ⟨rs, m', hK, ⟨fn, hf, hname, hbody⟩, hQ⟩ := (hS f s hSf).1 _ _ _ h
    split at hK
    ·rename_i as' bs hres
     refine ⟨_, _, _, hK, ?_⟩
     intro X F a w E cus hs hag1 hag2 hpin hxv heach K' Q hK'
     have hF : (∃ k e l, bs = [(id, Blk.ints k e l)]) → F.B id = none := fun ⟨k, e, l, hb⟩ => (hag2 (id, .ints k e l) (by rw [hb]; simp)).trans hid
     have hmi : ∀ i, mi = some i → F.B i = st.blk i := fun i hi => by
      subst hi
      obtain ⟨k, e, l, hb⟩ := lend_ints _ _ hlend
      exact hag2 (i, .ints (.num k) e m') (List.mem_append_right _ (by simp [mutV, hb]))
     have hml : ∀ i, mi = some i → ∃ k e l, F.B i = some (.ints (.num k) e l) := fun i hi => by
      have h1 := hmi i hi
      subst hi
      obtain ⟨k, e, l, hb⟩ := lend_ints _ _ hlend
      exact ⟨k, e, l, h1.trans hb⟩
     have hnid : ∀ i, mi = some i → i ∉ ids := fun i hi hin => by
      subst hi
      have : (ids.any (Nat.beq i)) = true := List.any_eq_true.2 ⟨i, hin, Nat.beq_refl i⟩
      exact Bool.noConfusion (this.symm.trans hdis)
     have hrb : ∀ i ∈ ids, F.B i = st.blk i := hag1
     have hnot : ∀ g, mAt E mi = some g → ¬ Lent E F.B (NB X.okk E F.B) ids g := by
      intro g hg hl
      cases hmi' : mi with
      | none => rw [hmi'] at hg; cases hg
      | some i =>
       rw [hmi'] at hg
       obtain ⟨k, e, l, hB⟩ := hml i hmi'
       simp only [mAt] at hg
       split at hg
       ·cases hg
       ·rename_i hn
        injection hg with hg
        have hlive : Live E F.B i := ⟨⟨_, hB, by simp⟩, by simpa using hn⟩
        rcases hl with hl | ⟨j, h1, h2, h3⟩
        ·exact hl.2 i hlive hg
        ·have := hs.inj j i h2 hlive (h3.trans hg.symm)
         subst this
         exact hnid j hmi' h1
     have hxa := lend_of hs (ok := Lent E F.B (NB X.okk E F.B) ids) (M := mAt E mi) s.muts _ hlend hrb hmi (fun k hk => hk) (fun i hi => by rw [hi]) hnot heach
     have hrun : (execOp a.eval o).run P w = .ok (.enter f (as.map a.eval ++ cus.toArray)) w := by
      have he := enters_ hf hname hbody (as.map a.eval ++ cus.toArray) w
      unfold execOp
      simp [ho, resolve, Deferred.ofValue, invoke, hxv, he]
     unfold Oper.wp
     rw [hrun, Oper.upon_enter]
     have hus : as.map a.eval ++ cus.toArray = (as.toList.map a.eval ++ cus).toArray := by cases as with | mk l => simp
     rw [hus]
     refine (hQ _ _ _ _ (fun p hp => ?_) hxa).mono ?_
     ·obtain ⟨h1, h2, h3⟩ := hs.tabs p hp
      exact ⟨.inl h1, h2, h3⟩
     rintro e w' ⟨G, vs, rfl, hR, hfr, hM⟩
     show K' (a.put o.dst (packV vs)) w'
     have hmix : ∀ i, mi = some i → ∃ k e l, F.B i = some (.ints (.num k) e l) ∧ look i (mutV st m' mi) = some (.ints (.num k) e m') ∧ l.length = m'.length ∧ (E.ν i = true → m' = []) ∧ (E.ν i = false → ∃ cs : Array Value, Lies w' e k m' (E.ρ i) cs ∧ cs.size = E.γ i) := by
      intro i hi
      have hbi := hmi i hi
      subst hi
      obtain ⟨k, e, l, hb, u, h1, h2⟩ := mall_of _ _ hlend hxa hM
      refine ⟨k, e, l, hbi.trans hb, by simp [mutV, hb, look], mat_len h1 h2, fun hn => ?_, fun hn => ?_⟩
      ·simp only [mAt, hn, if_true, MAt] at h2; exact h2.2
      ·simp only [mAt, hn, Bool.false_eq_true, if_false, MAt] at h1 h2
       obtain ⟨cs, h3, h4⟩ := h1
       obtain ⟨cs', h5, h6⟩ := h2
       refine ⟨cs', h6, ?_⟩
       rw [h3] at h5
       injection h5 with _ _ h5
       rw [← h5]
       obtain ⟨_, cs2, h7, h8, _⟩ := (by
        have h9 := hs.blk i _ (hbi.trans hb)
        simp only [BlkAt, hn, Bool.false_eq_true, if_false] at h9
        exact ⟨rfl, h9⟩ : (0 : Nat) = 0 ∧ ∃ cs : Array Value, w.heap[E.ρ i]? = some (.cells cs e (0, 0)) ∧ cs.size = E.γ i ∧ _)
       have h10 := h4.1.symm.trans h7
       injection h10 with h10
       injection h10 with h10
       rw [h10]; exact h8
     have hmuts : ∀ j, mi ≠ some j → look j (mutV st m' mi) = none := by
      intro j hj
      cases hmi' : mi with
      | none => rfl
      | some i =>
       subst hmi'
       obtain ⟨k, e, l, hb⟩ := lend_ints _ _ hlend
       simp only [mutV, hb]
       rw [look_one, if_neg (fun e => hj (by rw [e]))]
     let Bn : Nat → Option Blk := (F.upd o.dst ⟨packA as', bs ++ mutV st m' mi, ids⟩).B
     have hBn : ∀ j, Bn j = match look j bs with
       | some b => some b
       | none => match look j (mutV st m' mi) with
        | some b => some b
        | none => F.B j := fun j => by
      show (match look j (bs ++ mutV st m' mi) with | some b => some b | none => F.B j) = _
      rw [look_append]
      cases look j bs <;> rfl
     have hE : ∃ E' : En, (∀ j, (j ≠ id ∨ bs = []) → E'.ρ j = E.ρ j ∧ E'.γ j = E.γ j ∧ E'.ν j = E.ν j) ∧ ∀ k e l, bs = [(id, .ints k e l)] → (∀ B nb, (k.inner = true → ∀ q, ((Lent E F.B (NB X.okk E F.B) ids q ∨ w.heap.size ≤ q) ∧ G ≠ some q) → nb q) → BlkAt E' B w' nb id (.ints k e l)) ∧ (E'.ν id = false → G = some (E'.ρ id) ∧ w.heap.size ≤ E'.ρ id) ∧ ∀ u' B nb, B id = some (.ints k e l) → OAt w' (fun q => (Lent E F.B (NB X.okk E F.B) ids q ∨ w.heap.size ≤ q) ∧ G ≠ some q) G k e l u' → Held E' B w' nb (.sli id) u' := by
      rcases res_own hres with hb | ⟨k, e, l, hb⟩
      ·exact ⟨E, fun j _ => ⟨rfl, rfl, rfl⟩, fun k e l h => by rw [hb] at h; cases h⟩
      ·subst hb
       obtain ⟨u, h1, h2⟩ := res_blk hres hR
       obtain ⟨E', h3, h4, h5, h6⟩ := own_at E h1 id
       refine ⟨E', fun j hj => h3 j (hj.elim (fun h => h) fun h => by cases h), fun k' e' l' hh => ?_⟩
       injection hh with hh _
       injection hh with _ hh
       injection hh with e1 e2 e3
       subst e1; subst e2; subst e3
       exact ⟨h4, fun hn => ⟨h5 hn, h2 _ (h5 hn)⟩, h6⟩
     obtain ⟨E', hE1, hE2⟩ := hE
     have hbs : ∀ j b, look j bs = some b → j = id ∧ ∃ k e l, bs = [(id, .ints k e l)] ∧ b = .ints k e l := by
      intro j b hj
      rcases res_own hres with hb | ⟨k, e, l, hb⟩
      ·rw [hb] at hj; cases hj
      ·rw [hb, look_one] at hj
       split at hj
       ·rename_i hji; injection hj with hj; exact ⟨hji, k, e, l, hb, hj.symm⟩
       ·cases hj
     have hold : ∀ j, (F.B j).isSome = true → look j bs = none ∧ (j ≠ id ∨ bs = []) := by
      intro j hj
      rcases res_own hres with hb | ⟨k, e, l, hb⟩
      ·rw [hb]; exact ⟨rfl, .inr rfl⟩
      ·have hne : j ≠ id := by rintro rfl; rw [hF ⟨k, e, l, hb⟩] at hj; cases hj
       rw [hb, look_one, if_neg hne]; exact ⟨rfl, .inl hne⟩
     have hlive : ∀ j, Live E' Bn j → (Live E F.B j ∧ (j ≠ id ∨ bs = [])) ∨ (j = id ∧ ∃ k e l, bs = [(id, .ints k e l)] ∧ E'.ν id = false) := by
      rintro j ⟨⟨x, hx1, hx2⟩, hn⟩
      rw [hBn] at hx1
      cases hlb : look j bs with
      | some b =>
       obtain ⟨h1, k, e, l, h2, h3⟩ := hbs j b hlb
       subst h1
       exact .inr ⟨rfl, k, e, l, h2, hn⟩
      | none =>
       rw [hlb] at hx1
       have hne : j ≠ id ∨ bs = [] := by
        rcases res_own hres with hb | ⟨k, e, l, hb⟩
        ·exact .inr hb
        ·left; rintro rfl; rw [hb, look_one, if_pos rfl] at hlb; cases hlb
       rw [(hE1 j hne).2.2] at hn
       refine .inl ⟨⟨?_, hn⟩, hne⟩
       by_cases hj : mi = some j
       ·obtain ⟨k, e, l, h1, _⟩ := hmix j hj
        exact ⟨_, h1, by simp⟩
       ·simp only [hmuts j hj] at hx1
        exact ⟨x, hx1, hx2⟩
     have hnew : ids = [] → ∀ k, ((Lent E F.B (NB X.okk E F.B) ids k ∨ w.heap.size ≤ k) ∧ G ≠ some k) → NB X.okk E' Bn k := by
      rintro hids k ⟨h1, h2⟩
      have hkk : NB X.okk E F.B k ∨ w.heap.size ≤ k := by
       rcases h1 with h1 | h1
       ·rcases h1 with h1 | ⟨i, h3, _⟩
        ·exact .inl h1
        ·rw [hids] at h3; cases h3
       ·exact .inr h1
      refine ⟨hkk.elim (fun h => h.1) fun h => hs.new k (.inl (Nat.le_trans hs.fr.size h)), fun j hj he => ?_⟩
      rcases hlive j hj with ⟨h3, h4⟩ | ⟨h3, k', e, l, h4, h5⟩
      ·rw [(hE1 j h4).1] at he
       rcases hkk with h6 | h6
       ·exact h6.2 j h3 he
       ·have := hs.lt h3; omega
      ·subst h3
       have := ((hE2 k' e l h4).2.1 h5).1
       rw [he] at this
       exact h2 this
     have hs1 : SimAt X E' ⟨F.sl, Bn⟩ a w' := by
      refine hs.mem (fun j => mi = some j) rfl hfr.os hfr.tape hfr.output hfr.size (fun k hk h1 => hfr.block k hk fun hmk => ?_) (fun j hj => ?_) (fun j hj => hE1 j (hold j hj).2) (fun j hj => ?_) (fun j b hb => ?_) fun j j' hj hj' he => ?_
      ·cases hmi' : mi with
       | none => rw [hmi'] at hmk; cases hmk
       | some i =>
        obtain ⟨k', e, l, hB⟩ := hml i hmi'
        rw [hmi'] at hmk
        simp only [mAt] at hmk
        split at hmk
        ·cases hmk
        ·rename_i hn
         injection hmk with hmk
         exact h1 i ⟨⟨_, hB, by simp⟩, by simpa using hn⟩ hmi' hmk
      ·by_cases hm : mi = some j
       ·obtain ⟨k, e, l, h1, h2, h3, _⟩ := hmix j hm
        have e0 : Bn j = some (.ints (.num k) e m') := by rw [hBn, (hold j hj).1]; simp only [h2]
        refine ⟨by show (Bn j).isSome = true; rw [e0]; rfl, fun k' e' l' hl => ?_⟩
        have hl' := e0.symm.trans hl
        injection hl' with hl'
        injection hl' with hk' _ hl'
        exact ⟨e, l, hk' ▸ h1, hl' ▸ h3⟩
       ·have e0 : Bn j = F.B j := by rw [hBn, (hold j hj).1]; simp only [hmuts j hm]
        exact ⟨by show (Bn j).isSome = true; rw [e0]; exact hj, fun k' e' l' hl => ⟨e', l', e0.symm.trans hl, rfl⟩⟩
      ·rcases hlive j hj with ⟨h1, h2⟩ | ⟨h1, k, e, l, h2, h3⟩
       ·exact .inr ⟨j, h1, (hE1 j h2).1.symm⟩
       ·subst h1; exact .inl ((hE2 k e l h2).2.1 h3).2
      ·have hb' : Bn j = some b := hb
       rw [hBn] at hb'
       cases hlb : look j bs with
       | some b' =>
        rw [hlb] at hb'
        injection hb' with hb'
        subst hb'
        obtain ⟨h1, k, e, l, h2, h3⟩ := hbs j _ hlb
        subst h1; subst h3
        refine .inr ((hE2 k e l h2).1 _ _ fun hk => hnew ?_)
        cases hids : ids with
        | nil => rfl
        | cons x y =>
         have h9 := res_inner (h2 ▸ hres) (by rw [hids])
         rw [hk] at h9; cases h9
       | none =>
        rw [hlb] at hb'
        have hne : j ≠ id ∨ bs = [] := by
         rcases res_own hres with hb | ⟨k, e, l, hb⟩
         ·exact .inr hb
         ·left; rintro rfl; rw [hb, look_one, if_pos rfl] at hlb; cases hlb
        by_cases hm : mi = some j
        ·obtain ⟨k, e, l, h1, h2, h3, h4, h5⟩ := hmix j hm
         simp only [h2] at hb'
         injection hb' with hb'
         subst hb'
         right
         simp only [BlkAt]
         rw [(hE1 j hne).2.2, (hE1 j hne).1, (hE1 j hne).2.1]
         by_cases hn : E.ν j = true
         ·rw [if_pos hn]; exact h4 hn
         ·rw [if_neg hn]
          obtain ⟨cs, h6, h7⟩ := h5 (by simpa using hn)
          exact ⟨cs, h6.1, h7, h6.2.1, h6.2.2.1, h6.2.2.2⟩
        ·simp only [hmuts j hm] at hb'
         exact .inl ⟨hb', hm⟩
      ·rcases hlive j hj with ⟨h1, h2⟩ | ⟨h1, k, e, l, h2, h3⟩ <;> rcases hlive j' hj' with ⟨h4, h5⟩ | ⟨h4, k', e', l', h5, h6⟩
       ·rw [(hE1 j h2).1, (hE1 j' h5).1] at he
        exact hs.inj j j' h1 h4 he
       ·subst h4
        rw [(hE1 j h2).1] at he
        have := hs.lt h1
        have := ((hE2 k' e' l' h5).2.1 h6).2
        omega
       ·subst h1
        rw [(hE1 j' h5).1] at he
        have := hs.lt h4
        have := ((hE2 k e l h2).2.1 h3).2
        omega
       ·rw [h1, h4]
     refine hK' _ _ (fin hs1 rfl (fun _ => rfl) (pack_held (res_held (fun b u hb hc => ?_) hres hR fun k e l u hb hm => ?_)) hpin)
     ·by_cases hids : ids = []
      ·exact Held.mono hb.any fun k hk => hnew hids k hk
      ·have hcl := hc (by cases ids with
        | nil => exact absurd rfl hids
        | cons x y => rfl)
       exact fun W' hW => den_closed b u hcl hb.now
     ·have hBid : Bn id = some (.ints k e l) := by
       rw [hBn, hb, look_one, if_pos rfl]
      exact (hE2 k e l hb).2.2 u _ _ hBid hm
    ·cases hK
   ·cases h
  ·cases h
 ·cases h
theorem call_ok {S : FuncId → Option (Spec R)} (hS : ∀ f s, S f = some s → s.ok P f) {f : FuncId} {x : Operand} {as : Array Operand} {ts : Array TypeId} {id : Nat} (ho : o.op = .call { callee := .value x, args := as, argTypes := ts }) {caps : List AV} (hx : fnOf (ev st x) = some (f, caps)) {K : AV → List (Nat × Blk) → List Nat → Option R}
  (h : callV st id S f (as.toList.map (ev st) ++ caps) K = some r) : ∃ av bs rb, K av bs rb = some r ∧ OpOk P o st ⟨av, bs, rb⟩ := by
 obtain ⟨av, bs, rb, h1, h2⟩ := call_core hS ho h
 refine ⟨av, bs, rb, h1, ?_⟩
 rintro X F a w ⟨E, hs⟩ hag K' Q hK'
 have heach0 := each_of hs (xs := as.toList) fun t ht => hag.1 t (by rw [ho]; simp [Op.operands, Call.operands]; right; simpa using ht)
 have hxh := ev_held hs (x := x) fun t ht => hag.1 t (by rw [ho]; simp [Op.operands, Call.operands, ht])
 obtain ⟨cus, hxv, hcaps⟩ := fnOf_of hx hxh
 have heach := each_append heach0 (each_list hcaps)
 exact h2 X F a w E cus hs hag.2.1 hag.2.2.1 hag.2.2.2 hxv heach K' Q hK'
def deadB : List Nat → List (Nat × Blk)
 | [] => []
 | i :: r => (i, .dead) :: deadB r
theorem dead_look {i : Nat} : ∀ {ids : List Nat}, look i (deadB ids) = if i ∈ ids then some .dead else none
 | [] => rfl
 | j :: ids => by
  show (match Nat.beq i j with | true => some Blk.dead | false => look i (deadB ids)) = _
  cases hb : Nat.beq i j with
  | true => rw [if_pos (by rw [Nat.eq_of_beq_eq_true hb]; exact List.mem_cons_self)]
  | false =>
   have hne := beq_ne hb
   simp only [dead_look (i := i) (ids := ids), List.mem_cons, hne, false_or]
def deadF (B : Nat → Option Blk) (ids : List Nat) (i : Nat) : Option Blk := match look i (deadB ids) with
 | some b => some b
 | none => B i
theorem dead_sim {ids : List Nat} (hs : SimAt X E F a w) : SimAt X E ⟨F.sl, deadF F.B ids⟩ a w ∧ ∀ k, Lent E F.B (NB X.okk E F.B) ids k → NB X.okk E (deadF F.B ids) k := by
 let Bn : Nat → Option Blk := deadF F.B ids
 have hB : ∀ i, Bn i = if i ∈ ids then some .dead else F.B i := fun i => by
  show (match look i (deadB ids) with | some b => some b | none => F.B i) = _
  rw [dead_look]
  by_cases hi : i ∈ ids <;> simp [hi]
 have hle : BLe F.B Bn := fun i hi => by
  rw [hB]
  by_cases h1 : i ∈ ids
  ·rw [if_pos h1]; exact ⟨rfl, fun _ _ _ hx => by cases hx⟩
  ·rw [if_neg h1]; exact BLe.refl _ i hi
 have hlive : ∀ j, Live E Bn j → Live E F.B j ∧ j ∉ ids := by
  rintro j ⟨⟨b, h1, h2⟩, h3⟩
  rw [hB] at h1
  by_cases hj : j ∈ ids
  ·rw [if_pos hj] at h1; injection h1 with h1; exact absurd h1.symm h2
  ·rw [if_neg hj] at h1; exact ⟨⟨⟨b, h1, h2⟩, h3⟩, hj⟩
 have hnb : ∀ k, Lent E F.B (NB X.okk E F.B) ids k → NB X.okk E Bn k := by
  intro k hk
  refine ⟨?_, fun j hj he => ?_⟩
  ·rcases hk with hk | ⟨i, h1, h2, h3⟩
   ·exact hk.1
   ·rw [← h3]; exact hs.new _ (hs.own i h2)
  ·obtain ⟨h4, h5⟩ := hlive j hj
   rcases hk with hk | ⟨i, h1, h2, h3⟩
   ·exact hk.2 j h4 he
   ·exact h5 (by rw [hs.inj j i h4 h2 (he.trans h3.symm)]; exact h1)
 have hmv : ∀ k, NB X.okk E F.B k → k < w.heap.size → w.heap[k]? = w.heap[k]? ∧ NB X.okk E Bn k := fun k hk _ => ⟨rfl, hnb k (.inl hk)⟩
 refine ⟨⟨hs.size, hs.nod, hs.new, hs.gl, hs.fr, fun t ht => ?_, fun j b hj => ?_, fun j hj => hs.own j (hlive j hj).1, fun j j' hj hj' he => hs.inj j j' (hlive j hj).1 (hlive j' hj').1 he, hs.pin⟩, hnb⟩
 ·obtain ⟨v, h1, h2⟩ := hs.slot t ht
  exact ⟨v, h1, (h2.re hle fun _ _ => ⟨rfl, rfl, rfl⟩).move (Nat.le_refl _) hmv⟩
 ·have hj' : Bn j = some b := hj
  rw [hB] at hj'
  by_cases hjd : j ∈ ids
  ·rw [if_pos hjd] at hj'; injection hj' with hj'; subst hj'; trivial
  ·rw [if_neg hjd] at hj'
   have h1 := hs.blk j b hj'
   cases b with
   | dead => trivial
   | ints k e l => exact blk_move rfl rfl rfl (fun _ => rfl) (Nat.le_refl _) hmv h1
   | cells ty l =>
    obtain ⟨hn, us, h4, h5⟩ := h1
    exact ⟨hn, us, h4, (h5.re hle fun _ _ => ⟨rfl, rfl, rfl⟩).move (Nat.le_refl _) hmv⟩
theorem list_each : ∀ {as : List AV} {us : List Value}, HeldEach E B w nb as us → HeldL E B w nb as us
 | [], [], _ => heldL_nil
 | a :: as, u :: us, h => heldL_cons h.1 (list_each h.2)
 | [], _ :: _, h => (h : False).elim
 | _ :: _, [], h => (h : False).elim
theorem each_map (hm : ∀ a v, Held E B w nb a v → Held E' B' w nb' a v) : ∀ {as : List AV} {us : List Value}, HeldEach E B w nb as us → HeldEach E' B' w nb' as us
 | [], [], _ => trivial
 | a :: as, u :: us, h => ⟨hm _ _ h.1, each_map hm h.2⟩
 | [], _ :: _, h => (h : False).elim
 | _ :: _, [], h => (h : False).elim
def callZ {R : Type} (st : St) (id : Nat) (S : FuncId → Option (Spec R)) (f : FuncId) (as : List AV) (K : AV → List (Nat × Blk) → List Nat → Option R) : Option R := match S f with
 | some s => (match s.raw with
  | some g => g st id as K
  | none => (match s.hp with
   | true => (match frzL (frz st 8) as with
    | some (as', ids) => callV ⟨st.sl, deadB ids ++ st.bl, st.nx⟩ id S f as' fun v bs rb => K v (bs ++ deadB ids) (rb ++ ids)
    | none => none)
   | false => callV st id S f as K))
 | none => none
theorem callZ_ok {S : FuncId → Option (Spec R)} (hS : ∀ f s, S f = some s → s.ok P f) {f : FuncId} {x : Operand} {as : Array Operand} {ts : Array TypeId} {id : Nat} (ho : o.op = .call { callee := .value x, args := as, argTypes := ts }) {caps : List AV} (hx : fnOf (ev st x) = some (f, caps)) {K : AV → List (Nat × Blk) → List Nat → Option R}
  (h : callZ st id S f (as.toList.map (ev st) ++ caps) K = some r) : ∃ av bs rb, K av bs rb = some r ∧ OpOk P o st ⟨av, bs, rb⟩ := by
 unfold callZ at h
 split at h
 ·rename_i s hSf
  split at h
  ·rename_i g hg
   obtain ⟨⟨fn, hf, hname, hbody⟩, hraw⟩ := (hS f s hSf).2 g hg
   obtain ⟨av, bs, rb, h1, h2⟩ := hraw _ _ _ _ _ h
   refine ⟨av, bs, rb, h1, ?_⟩
   rintro X F a w ⟨E, hs⟩ hag K' Q hK'
   have heach0 := each_of hs (xs := as.toList) fun t ht => hag.1 t (by rw [ho]; simp [Op.operands, Call.operands]; right; simpa using ht)
   have hxh := ev_held hs (x := x) fun t ht => hag.1 t (by rw [ho]; simp [Op.operands, Call.operands, ht])
   obtain ⟨cus, hxv, hcaps⟩ := fnOf_of hx hxh
   have heach := each_append heach0 (each_list hcaps)
   have hrun : (execOp a.eval o).run P w = .ok (.enter f (as.map a.eval ++ cus.toArray)) w := by
    have he := enters_ hf hname hbody (as.map a.eval ++ cus.toArray) w
    unfold execOp
    simp [ho, resolve, Deferred.ofValue, invoke, hxv, he]
   unfold Oper.wp
   rw [hrun, Oper.upon_enter]
   have hus : as.map a.eval ++ cus.toArray = (as.toList.map a.eval ++ cus).toArray := by cases as with | mk l => simp
   rw [hus]
   refine (h2 X F a w E _ hs hag.2.1 hag.2.2.1 heach).mono ?_
   rintro e w' ⟨v, E', rfl, hs', hv⟩
   exact hK' _ _ (fin hs' rfl (fun _ => rfl) hv hag.2.2.2)
  split at h
  ·split at h
   ·rename_i as' ids hfr
    obtain ⟨av, bs, rb, h1, h2⟩ := call_core hS ho h
    refine ⟨av, bs ++ deadB ids, rb ++ ids, h1, ?_⟩
    rintro X F a w ⟨E, hs⟩ hag K' Q hK'
    have heach0 := each_of hs (xs := as.toList) fun t ht => hag.1 t (by rw [ho]; simp [Op.operands, Call.operands]; right; simpa using ht)
    have hxh := ev_held hs (x := x) fun t ht => hag.1 t (by rw [ho]; simp [Op.operands, Call.operands, ht])
    obtain ⟨cus, hxv, hcaps⟩ := fnOf_of hx hxh
    have heach := each_append heach0 (each_list hcaps)
    have hid : ∀ i ∈ ids, F.B i = st.blk i := fun i hi => hag.2.1 i (List.mem_append_right _ hi)
    obtain ⟨hs1, hnb⟩ := dead_sim (ids := ids) hs
    have e1 := each_list (frzL_of (E' := En0) (B' := fun _ => none) (fun h hid hh => frz_of hs 8 h hid hh) hfr hid (list_each heach))
    have e2 : HeldEach E (deadF F.B ids) w (NB X.okk E (deadF F.B ids)) as' (as.toList.map a.eval ++ cus) := each_map (fun a v h => Held.mono (HeldF.any h) hnb) e1
    have hst : ∀ i, F.B i = st.blk i → deadF F.B ids i = St.blk ⟨st.sl, deadB ids ++ st.bl, st.nx⟩ i := fun i hi => by
     show _ = look i (deadB ids ++ st.bl)
     rw [look_append]
     unfold deadF
     cases look i (deadB ids) with
     | some b => rfl
     | none => exact hi
    refine h2 X ⟨F.sl, deadF F.B ids⟩ a w E cus hs1 (fun i hi => hst i (hag.2.1 i (List.mem_append_left _ hi))) (fun p hp => hst _ (hag.2.2.1 p (List.mem_append_left _ hp))) hag.2.2.2 hxv e2 K' Q fun a' w' hsim => hK' a' w' ?_
    have eq : FS.upd ⟨F.sl, deadF F.B ids⟩ o.dst ⟨av, bs, rb⟩ = FS.upd F o.dst ⟨av, bs ++ deadB ids, rb ++ ids⟩ := by
     unfold FS.upd
     congr 1
     funext i
     show (match look i bs with | some b => some b | none => deadF F.B ids i) = (match look i (bs ++ deadB ids) with | some b => some b | none => F.B i)
     rw [look_append]
     cases look i bs <;> rfl
    rw [eq] at hsim
    exact hsim
   ·cases h
  ·exact call_ok hS ho hx h
 ·cases h
end
def fillV (pl : List (Nat × Nat)) : List AV → List (Nat × AV) → Option (List AV)
 | cs, [] => some cs
 | cs, (i, v) :: r => (match nth pl i, flat v with
  | some (off, s), some l => (match Nat.beq l.length s && Nat.ble (off + l.length) cs.length with
   | true => fillV pl (splice cs off l) r
   | false => none)
  | _, _ => none)
def placesV (T : TT) : List (Nat × Nat) → Option (List (Nat × Nat))
 | [] => some []
 | (t, off) :: r => (match look t T.inf, placesV T r with
  | some (s, _), some l => some ((off, s) :: l)
  | _, _ => none)
def arrPl (s : Nat) : Nat → Nat → List (Nat × Nat)
 | _, 0 => []
 | i, n + 1 => (i * s, s) :: arrPl s (i + 1) n
def bldV {R : Type} (T : TT) (t : TypeId) (ps : List (Nat × AV)) (K : AV → Option R) : Option R := match look t T.und, look t T.inf with
 | some (.struct fs), some (_, _, z) => (match placesV T fs with
  | some pl => (match fillV pl (z.map .lit) ps with
   | some l => K (.agg l)
   | none => none)
  | none => none)
 | some (.array n e), some (_, _, z) => (match look e T.inf with
  | some (s, _) => (match fillV (arrPl s 0 n) (z.map .lit) ps with
   | some l => K (.agg l)
   | none => none)
  | none => none)
 | _, _ => none
def setL : List Int → Nat → Int → List Int
 | [], _, _ => []
 | _ :: l, 0, v => v :: l
 | a :: l, i + 1, v => a :: setL l i v
def lnL : List Int → Nat
 | [] => 0
 | _ :: l => lnL l + 1
theorem lnL_eq : ∀ l : List Int, lnL l = l.length
 | [] => rfl
 | _ :: l => by unfold lnL; rw [lnL_eq l]; rfl
def zerosL : Nat → List Int
 | 0 => []
 | n + 1 => 0 :: zerosL n
def repL (c : Int) : Nat → List Int
 | 0 => []
 | n + 1 => c :: repL c n
noncomputable def codesV (k : EK) : List Int → List (Nat × AV) → Option (List Int)
 | l, [] => some l
 | l, (i, v) :: r => (match codeOf k v, Nat.blt i (lnL l) with
  | some n, true => codesV k (setL l i n) r
  | _, _ => none)
noncomputable def bslV {R : Type} (T : TT) (st : St) (id : Nat) (t : TypeId) (len : Nat) (ps : List (Nat × AV)) (K : AV → Blk → Option R) : Option R := match look t T.und, st.blk id with
 | some (.slice e), none => (match ekOf T e, look e T.inf with
  | some k, some (z, _, zs) => (match Nat.beq z k.z && Nat.ble (len * z) 16777216 && Nat.blt 0 len, zeroCode k zs with
   | true, some zc => (match codesV k (repL zc len) ps with
    | some l => K (.sli id) (.ints k e l)
    | none => none)
   | _, _ => none)
  | _, _ => none)
 | _, _ => none
section
variable {P : Program} {T : TT} {X : Cx} {E : En} {F : FS} {a : Act} {w : World} {st : St} {o : Oper} {R : Type} {r : R} {B : Nat → Option Blk} {nb : Nat → Prop}
theorem set_splice (off : Nat) (l : List Value) (cs : Array Value) (h : off + l.length ≤ cs.size) : (l.zipIdx 0).foldl (fun cs (x : Value × Nat) => cs.setIfInBounds (off + x.2) x.1) cs = (splice cs.toList off l).toArray := by
 obtain ⟨h1, h2⟩ := Go.Great.foldl_set off l 0 cs
 apply Array.ext_getElem?
 intro k
 rw [h2 k, Nat.add_zero]
 simp only [splice, List.getElem?_toArray]
 by_cases hk : k < off
 ·rw [if_neg (by omega), List.getElem?_append_left (by simp; omega), List.getElem?_take_of_lt hk, Array.getElem?_toList]
 ·rw [List.getElem?_append_right (by simp; omega)]
  have e1 : (List.take off cs.toList).length = off := by simp; omega
  rw [e1]
  by_cases hk2 : k < off + l.length
  ·rw [if_pos ⟨by omega, hk2, by omega⟩, List.getElem?_append_left (by omega)]
  ·rw [if_neg (by omega), List.getElem?_append_right (by omega), List.getElem?_drop]
   have : off + l.length + (k - off - l.length) = k := by omega
   rw [this, Array.getElem?_toList]
def HeldParts (E : En) (B : Nat → Option Blk) (w : World) (nb : Nat → Prop) : List (Nat × AV) → List (Nat × Value) → Prop
 | [], [] => True
 | p :: ps, q :: qs => p.1 = q.1 ∧ Held E B w nb p.2 q.2 ∧ HeldParts E B w nb ps qs
 | _, _ => False
theorem fill_of {place : Nat → Option (Nat × Nat)} {pl : List (Nat × Nat)} (hpl : ∀ i x, pl[i]? = some x → place i = some x) : ∀ (ps : List (Nat × AV)) (vs : List (Nat × Value)) {cs cs' : List AV} {us : List Value}, fillV pl cs ps = some cs' → HeldParts E B w nb ps vs → HeldL E B w nb cs us → ∃ us' : List Value, Instr.fill place us.toArray vs = some us'.toArray ∧ HeldL E B w nb cs' us'
 | [], [], cs, cs', us, h, _, hc => by
  unfold fillV at h
  injection h with h
  subst h
  exact ⟨us, rfl, hc⟩
 | [], _ :: _, _, _, _, _, hp, _ => hp.elim
 | _ :: _, [], _, _, _, _, hp, _ => hp.elim
 | (i, v) :: ps, (j, u) :: vs, cs, cs', us, h, hp, hc => by
  obtain ⟨h1, h2, h3⟩ := hp
  have h1 : i = j := h1
  subst h1
  unfold fillV at h
  split at h
  ·rename_i off s l hn hl
   split at h
   ·rename_i hb
    simp only [Bool.and_eq_true] at hb
    have hs := Nat.eq_of_beq_eq_true hb.1
    have ho := Nat.le_of_ble_eq_true hb.2
    have hfl := flat_of hl h2
    have hlen := heldL_len hfl
    have hlc := heldL_len hc
    have hsp : (u.cells.toList.zipIdx 0).foldl (fun cs (x : Value × Nat) => cs.setIfInBounds (off + x.2) x.1) us.toArray = (splice us off u.cells.toList).toArray := set_splice off u.cells.toList us.toArray (by simp at hlen hlc ⊢; omega)
    obtain ⟨us', h4, h5⟩ := fill_of hpl ps vs h h3 (heldL_splice hc hfl)
    refine ⟨us', ?_, h5⟩
    unfold Instr.fill
    rw [nth_eq] at hn
    simp only [hpl i _ hn]
    rw [if_neg (by simp at hlen hlc ⊢; omega)]
    rw [← h4, ← hsp]
    congr 1
    rw [← Array.foldl_toList, Array.toList_zipIdx]
   ·cases h
  ·cases h
theorem places_of (hT : T.ok P) : ∀ (fs : List Field) {pl : List (Nat × Nat)}, placesV T (fs.map fun f => (f.type, f.offset)) = some pl → fs.mapM (fun f => (P.info? f.type).map fun i => (f.offset, i.size)) = some pl
 | [], pl, h => by
  injection h with h
  subst h
  rfl
 | f :: fs, pl, h => by
  unfold placesV at h
  simp only [List.map_cons] at h
  split at h
  ·rename_i s x l h1 h2
   injection h with h
   subst h
   obtain ⟨i, z, h3, h4, _⟩ := hT.2 _ _ h1
   have h4 : i.size = s := h4
   have ih := places_of hT fs h2
   simp [List.mapM_cons, h3, ih, h4]
  ·cases h
theorem arr_pl (s : Nat) : ∀ (n i j : Nat) {x : Nat × Nat}, (arrPl s i n)[j]? = some x → x = ((i + j) * s, s)
 | 0, i, j, x, h => by simp [arrPl] at h
 | n + 1, i, 0, x, h => by
  simp [arrPl] at h
  rw [← h, Nat.add_zero]
 | n + 1, i, j + 1, x, h => by
  simp only [arrPl, List.getElem?_cons_succ] at h
  rw [arr_pl s n (i + 1) j h]
  congr 2
  omega
theorem parts_held (hs : SimAt X E F a w) : ∀ (l : List (Nat × Operand)), (∀ p ∈ l, ∀ s, p.2 = .tmp s → F.sl s = st.get s ∧ s < X.N) → HeldParts E F.B w (NB X.okk E F.B) (l.map fun p => (p.1, ev st p.2)) (l.map fun p => (p.1, a.eval p.2))
 | [], _ => trivial
 | p :: l, h => ⟨rfl, ev_held hs (h p List.mem_cons_self), parts_held hs l fun q hq => h q (List.mem_cons_of_mem _ hq)⟩
theorem bld_ok (hT : T.ok P) {t : TypeId} {parts : Array (Nat × Operand)} (ho : o.op = .build t parts) {K : AV → Option R} (h : bldV T t (parts.toList.map fun p => (p.1, ev st p.2)) K = some r) : ∃ av, K av = some r ∧ OpOk P o st ⟨av, [], []⟩ := by
 have hrun : ∀ (a : Act) (w : World) (cells : Array Value), P.built t (parts.toList.map fun p => (p.1, a.eval p.2)) = some cells → (execOp a.eval o).run P w = .ok (.value (.agg cells)) w := by
  intro a w cells hb
  have := run_build w t (parts.map fun (i, x) => (i, a.eval x)) cells (by rw [Array.toList_map]; exact hb)
  simp only [execOp, ho, Sem.run_bind, this, Result.andThen_ok]
  rfl
 have hparts : ∀ {X : Cx} {E : En} {F : FS} {a : Act} {w : World} {u : Upd}, SimAt X E F a w → Agree X F st o u → HeldParts E F.B w (NB X.okk E F.B) (parts.toList.map fun p => (p.1, ev st p.2)) (parts.toList.map fun p => (p.1, a.eval p.2)) := fun hs hag =>
  parts_held hs _ fun p hp s hs' => hag.1 s (by
   rw [ho]
   simp only [Op.operands, List.mem_map]
   exact ⟨p, hp, hs'⟩)
 unfold bldV at h
 split at h
 ·rename_i fs x1 x2 z hu hi
  split at h
  ·rename_i pl hpl
   split at h
   ·rename_i l hl
    refine ⟨_, h, okPure fun X E F a w hs hag => ?_⟩
    obtain ⟨fields, h3, h4⟩ := hT.1 t _ hu
    obtain ⟨i, zv, h5, _, _, h6, h7⟩ := hT.2 t _ hi
    have h7 : zv.cells = z.toArray := by have h8 : zv.cells.toList = z := h7; rw [← h8]
    have hm := places_of hT fields.toList (by rw [h4]; exact hpl)
    obtain ⟨us', h8, h9⟩ := fill_of (place := (pl.toArray[·]?)) (fun i x hx => by simpa using hx) _ _ hl (hparts hs hag) (heldL_lits z)
    refine ⟨_, hrun a w us'.toArray ?_, held_agg h9⟩
    unfold Program.built
    simp only [h5, h3, h6, hm, h7]
    exact h8
   ·cases h
  ·cases h
 ·rename_i n e x1 x2 z hu hi
  split at h
  ·rename_i s x3 hie
   split at h
   ·rename_i l hl
    refine ⟨_, h, okPure fun X E F a w hs hag => ?_⟩
    have h3 := hT.1 t _ hu
    obtain ⟨i, zv, h5, _, _, h6, h7⟩ := hT.2 t _ hi
    obtain ⟨ie, ze, h10, h11, _⟩ := hT.2 e _ hie
    have h11 : ie.size = s := h11
    have h7 : zv.cells = z.toArray := by have h8 : zv.cells.toList = z := h7; rw [← h8]
    obtain ⟨us', h8, h9⟩ := fill_of (place := fun i => some (i * ie.size, ie.size)) (fun i x hx => by rw [arr_pl s n 0 i hx, h11, Nat.zero_add]) _ _ hl (hparts hs hag) (heldL_lits z)
    refine ⟨_, hrun a w us'.toArray ?_, held_agg h9⟩
    unfold Program.built
    have h3 : P.underlying t = some (.array n e) := h3
    simp only [h5, h3, h6, h10, h7]
    exact h8
   ·cases h
  ·cases h
 ·cases h
theorem setL_eq : ∀ (l : List Int) (i : Nat) (v : Int), setL l i v = l.set i v
 | [], _, _ => rfl
 | _ :: _, 0, _ => rfl
 | a :: l, i + 1, v => by rw [setL, List.set_cons_succ, setL_eq l i v]
theorem repL_eq (c : Int) : ∀ n : Nat, repL c n = List.replicate n c
 | 0 => rfl
 | n + 1 => by rw [repL, List.replicate_succ, repL_eq c n]
theorem codes_len {k : EK} : ∀ (ps : List (Nat × AV)) {l l' : List Int}, codesV k l ps = some l' → l'.length = l.length
 | [], l, l', h => by injection h with h; rw [h]
 | (i, v) :: ps, l, l', h => by
  unfold codesV at h
  split at h
  ·rw [codes_len ps h, setL_eq, List.length_set]
  ·cases h
theorem codes_of {k : EK} : ∀ (ps : List (Nat × AV)) (vs : List (Nat × Value)) {l l' : List Int} {us : List Value}, codesV k l ps = some l' → HeldParts E B w nb ps vs → HeldEls w nb k l us → ∃ us' : List Value, Instr.fill (fun i => some (i * k.z, k.z)) us.toArray vs = some us'.toArray ∧ HeldEls w nb k l' us'
 | [], [], l, l', us, h, _, hc => by
  injection h with h
  subst h
  exact ⟨us, rfl, hc⟩
 | [], _ :: _, _, _, _, _, hp, _ => hp.elim
 | _ :: _, [], _, _, _, _, hp, _ => hp.elim
 | (i, v) :: ps, (j, u) :: vs, l, l', us, h, hp, hc => by
  obtain ⟨h1, h2, h3⟩ := hp
  have h1 : i = j := h1
  subst h1
  unfold codesV at h
  split at h
  ·rename_i n hn hb
   have hi : i < l.length := by rw [← lnL_eq]; exact Nat.le_of_ble_eq_true hb
   have hel := (code_of hn h2).1
   have hlen := elsAt_len hel.now
   have hlc := elsAt_len hc.now
   have hmul := Nat.mul_le_mul_right k.z hi
   rw [Nat.succ_mul] at hmul
   simp only [List.length_cons, List.length_nil, Nat.zero_add, Nat.one_mul] at hlen
   have hsp : (u.cells.toList.zipIdx 0).foldl (fun cs (x : Value × Nat) => cs.setIfInBounds (i * k.z + x.2) x.1) us.toArray = (splice us (i * k.z) u.cells.toList).toArray := set_splice (i * k.z) u.cells.toList us.toArray (by rw [List.size_toArray]; omega)
   rw [setL_eq] at h
   obtain ⟨us', h4, h5⟩ := codes_of ps vs h h3 (fun W' hW => els_set (els_one.1 (hel W' hW)) (hc W' hW) hi)
   refine ⟨us', ?_, h5⟩
   unfold Instr.fill
   dsimp only
   have hus : u.cells.size = k.z := by rw [← Array.length_toList]; exact hlen
   rw [if_neg (by rw [hus, List.size_toArray]; simp; omega)]
   rw [← h4, ← hsp]
   congr 1
   rw [← Array.foldl_toList, Array.toList_zipIdx]
  ·cases h
theorem bsl_ok (hT : T.ok P) {t : TypeId} {len id : Nat} {parts : Array (Nat × Operand)} (ho : o.op = .buildSlice t len parts) {K : AV → Blk → Option R} (h : bslV T st id t len (parts.toList.map fun p => (p.1, ev st p.2)) K = some r) : ∃ av b, K av b = some r ∧ OpOk P o st ⟨av, [(id, b)], []⟩ := by
 unfold bslV at h
 split at h
 ·rename_i e hu hid
  split at h
  ·rename_i k zz x1 zs hk hi
   split at h
   ·rename_i zc hb hzc
    simp only [Bool.and_eq_true] at hb
    obtain rfl : zz = k.z := Nat.eq_of_beq_eq_true hb.1.1
    have hb1 := Nat.le_of_ble_eq_true hb.1.2
    have hb2 : 0 < len := Nat.le_of_ble_eq_true hb.2
    split at h
    ·rename_i l hl
     have hlen := codes_len _ hl
     rw [repL_eq, List.length_replicate] at hlen
     have hmz : len ≤ len * k.z := Nat.le_mul_of_pos_right _ k.z_pos
     refine ⟨_, _, h, okNewI (ek_noMap hk) hid fun X E F a w hs hag => ?_⟩
     have h3 : P.underlying t = some (.slice e) := hT.1 t _ hu
     obtain ⟨ie, z, h5, h4, _, h6, h7⟩ := hT.2 e _ hi
     have h4 : ie.size = k.z := h4
     have hz : z.cells.toList = zs := h7
     have hz0 := zero_of hzc w (NB X.okk E F.B)
     have hzl : zs.length = k.z := by have := elsAt_len hz0.now; simpa using this
     have hzs : z.cells.size = k.z := by rw [← Array.length_toList, hz, hzl]
     have hp := parts_held hs parts.toList fun p hp s hs' => hag s (by
      rw [ho]
      simp only [Op.operands, List.mem_map]
      exact ⟨p, hp, hs'⟩)
     rw [repL_eq] at hl
     obtain ⟨us', hf, hels⟩ := codes_of _ _ hl hp (us := (List.replicate len zs).flatten) fun W' hW => els_made (els_one.1 (hz0 W' hW)) len
     have hcells : (Array.range (len * ie.size)).map (z.cells[· % z.cells.size]!) = ((List.replicate len zs).flatten).toArray := by
      have hfl : (List.replicate len zs).flatten.length = len * k.z := by
       have := elsAt_len (els_made (els_one.1 hz0.now) len)
       simpa using this
      apply Array.ext_getElem?
      intro j
      by_cases hj : j < len * k.z
      ·have hj2 : j < (List.replicate len zs).flatten.length := by omega
       have h9 := (flat_rep (zs := zs) (by rw [hzl]; exact k.z_pos) len j _ (List.getElem?_eq_getElem hj2)).2
       have h11 : ((List.replicate len zs).flatten).toArray[j]? = ((List.replicate len zs).flatten)[j]? := by simp
       rw [h11, List.getElem?_eq_getElem hj2]
       have h10 := made_get (zs := z.cells) (m := len * ie.size) (j := j) (by rw [hzs]; exact k.z_pos) (by rw [h4]; exact hj)
       unfold madeCells at h10
       rw [h10, hzs, ← hzl, ← h9, ← hz]
       simp
      ·rw [Array.getElem?_eq_none (by simp [h4]; omega), Array.getElem?_eq_none (by simp only [List.size_toArray]; omega)]
     have := run_buildSlice (P := P) w t e len (parts.map fun (i, x) => (i, a.eval x)) us'.toArray ie z h3 h5 h6 (by rw [h4]; omega) (by rw [h4]; omega) (by rw [hcells, Array.toList_map, h4]; exact hf)
     refine ⟨us'.toArray, us', len, ?_, ?_, ?_, ?_, hels, fun j v hj => by rw [List.getElem?_toArray]; exact hj⟩
     ·simp only [execOp, ho, Sem.run_bind, this, Result.andThen_ok, hlen]
      rfl
     ·rw [List.size_toArray, elsAt_len hels.now, hlen]
     ·unfold maxLen; omega
     ·omega
    ·cases h
   ·cases h
  ·cases h
 ·cases h
end
noncomputable def textV {R : Type} (T : TT) (st : St) (s d : TypeId) (x : AV) (K : AV → List Nat → Option R) : Option R := match look s T.und, look d T.und with
 | some (.slice e), some .str => (match look e T.und, srcV st (.num .u8) x with
  | some (.int .u8), some (l, rb) => if l.length ≤ 9223372036854775807 then K (.lit (.string (strOfNums l))) rb else none
  | _, _ => none)
 | some .str, some (.slice e) => (match look e T.und, x with
  | some (.int .u8), .lit (.string b) => K (.row .u8 (bytesOf b)) []
  | _, _ => none)
 | _, _ => convI T s d x fun v => K v []
section
variable {P : Program} {T : TT} {X : Cx} {E : En} {F : FS} {a : Act} {w : World} {st : St} {o : Oper} {R : Type} {r : R}
theorem text_ok (hT : T.ok P) {s d : TypeId} {x : Operand} (ho : o.op = .convert s d x) {K : AV → List Nat → Option R} (h : textV T st s d (ev st x) K = some r) : ∃ av rb, K av rb = some r ∧ OpOk P o st ⟨av, [], rb⟩ := by
 have hx : x ∈ o.op.operands.toList := by simp [ho, Op.operands]
 unfold textV at h
 split at h
 ·rename_i e hs hd
  split at h
  ·rename_i l rb he hl
   split at h
   ·rename_i hlen
    refine ⟨_, _, h, okPure fun X E F a w hsim hag => ?_⟩
    obtain ⟨A, c, h1, h2, h3⟩ := src_of hsim hl hag.2.1 (ev_held hsim (ag1 hag hx))
    refine ⟨.string (strOfNums l), ?_, held_lit _⟩
    have h4 := string_of_reads (P := P) (w := w) (src := s) (dst := d) (e := e) (A := A) (n := l.length) (c := c) (xs := l) (hT.1 s _ hs) (hT.1 e _ he) (hT.1 d _ hd) ⟨rfl, hlen, h3⟩
    simp [execOp, ho, h1, h4]
   ·cases h
  ·cases h
 ·rename_i e hs hd
  split at h
  ·rename_i b he hb
   refine ⟨_, _, h, ?_⟩
   rintro X F a w ⟨E, hsim⟩ hag K Q hK
   have h0 := ev_held hsim (ag1 hag hx)
   rw [hb] at h0
   have hr := Lib.run_convert_string_bytes (P := P) w s d e b (hT.1 s _ hs) (hT.1 d _ hd) (hT.1 e _ he)
   have hbel : Below w.heap.size w (Lib.bytesWorld w e b) := bytes_below (Below.refl _ w) (Nat.le_refl _) e b
   unfold Oper.wp
   have hrun : (execOp a.eval o).run P w = .ok (.value (.slice (some ⟨w.heap.size, 0, none⟩) b.size (grownCap w b.size 0 e))) (Lib.bytesWorld w e b) := by
    simp [execOp, ho, lit_of h0, hr]
   rw [hrun]
   show K (a.put o.dst _) _
   refine hK _ _ (fin (u := ⟨.row .u8 (bytesOf b), [], []⟩) (hsim.grow hbel) rfl (fun _ => rfl) ?_ hag.2.2.2)
   intro W' hW
   have hnb : NB X.okk E F.B w.heap.size := ⟨hsim.new _ (.inl hsim.fr.size), fun id hid he => by have := hsim.lt hid; omega⟩
   have hk := hW w.heap.size hnb (by rw [Lib.bytesWorld_size]; omega)
   unfold Den
   refine ⟨some ⟨w.heap.size, 0, none⟩, grownCap w b.size 0 e, by rw [bytesOf_length], by rw [bytesOf_length]; exact grownCap_ge _ _ _ _, fun _ => ⟨_, rfl, fun j hj => ?_⟩⟩
   rw [bytesOf_length] at hj
   have hc := Lib.bytesWorld_cell w e b j hj
   have e1 : (⟨w.heap.size, 0, none⟩ : Addr).add j = ⟨w.heap.size, j, none⟩ := by simp [Addr.add]; exact fun h => h.symm
   have e2 : (bytesOf b).getD j 0 = ((b.data.toList.getD j 0).toNat : Int) := by
    have hj' : j < b.data.toList.length := by rw [data_length]; exact hj
    simp [bytesOf, List.getD_eq_getElem?_getD, List.getElem?_eq_getElem hj', List.getElem?_map]
   rw [e1, e2, ← hc]
   exact cell_same hk
  ·cases h
 ·obtain ⟨av, h1, h2⟩ := conv_ok hT ho h
  exact ⟨av, [], h1, h2⟩
end
def mmV {R : Type} (mx : Bool) (x y : AV) (K : AV → Option R) : Option R := match asI x, asI y with
 | some (k, a), some (_, b) => (match mx with
  | true => if b > a then K (.lit (.int k b)) else K (.lit (.int k a))
  | false => if b < a then K (.lit (.int k b)) else K (.lit (.int k a)))
 | _, _ => none
def copyV {R : Type} (T : TT) (st : St) (t : TypeId) (x y : AV) (K : AV → List (Nat × Blk) → List Nat → Option R) : Option R := match look t T.und, x with
 | some (.slice e), .sli id => (match look e T.inf, st.blk id with
  | some (1, _), some (.ints (.num k) e' l) => (match srcV st (.num k) y with
   | some (l2, rb) => (match rb.any (Nat.beq id) with
    | false => K (.lit (.int .i64 ((Nat.min l2.length l.length : Nat) : Int))) [(id, .ints (.num k) e' (l2.take l.length ++ l.drop l2.length))] rb
    | true => none)
   | none => none)
  | _, _ => none)
 | _, _ => none
noncomputable def cut2V {R : Type} (T : TT) (t : TypeId) (x : AV) (lo hi mx : Option AV) (K : AV → Option R) : Option R := match look t T.und, x, lo.map asI, hi.map asI, mx.map asI with
 | some (.slice e), .row k l, some (some (_, a)), some (some (_, b)), none => (match look e T.inf with
  | some (1, _) => if 0 ≤ b then if b ≤ (l.length : Int) then if 0 ≤ a then if a ≤ b then K (.row k ((l.take b.toNat).drop a.toNat)) else none else none else none else none
  | _ => none)
 | some (.slice e), .row k l, none, some (some (_, b)), some (some (_, m)) => (match look e T.inf with
  | some (1, _) => if 0 ≤ m then if m ≤ (l.length : Int) then if 0 ≤ b then if b ≤ m then K (.row k (l.take b.toNat)) else none else none else none else none
  | _ => none)
 | some .str, .lit (.string s), some (some (_, a)), none, none => if 0 ≤ a then if a ≤ (s.size : Int) then K (.lit (.string (tCut s a.toNat s.size))) else none else none
 | some .str, .lit (.string s), none, some (some (_, b)), none => if 0 ≤ b then if b ≤ (s.size : Int) then K (.lit (.string (tCut s 0 b.toNat))) else none else none
 | some .str, .lit (.string s), some (some (_, a)), some (some (_, b)), none => if 0 ≤ b then if b ≤ (s.size : Int) then if 0 ≤ a then if a ≤ b then K (.lit (.string (tCut s a.toNat b.toNat))) else none else none else none else none
 | _, _, _, _, _ => cutV T t x lo hi mx K
def intsOf : List AV → Option (IntKind × List Int)
 | [] => none
 | a :: l => (match asI a with
  | some (k, n) => (match l with
   | [] => some (k, [n])
   | _ :: _ => (match intsOf l with
    | some (k', ns) => if k' = k then some (k, n :: ns) else none
    | none => none))
  | none => none)
def splitIx {R : Type} (T : TT) (e : TypeId) (l : List AV) (s : Nat) (i : Int) (K : AV → Option R) : Nat → Nat → Option R
 | _, 0 => none
 | j, n + 1 => if i = (j : Int) then partV T e l (j * s) K else splitIx T e l s i K (j + 1) n
def ix2V {R : Type} (T : TT) (t : TypeId) (x ix : AV) (c : Option Nat) (K : AV → Option R) : Option R := match look t T.und, asI ix with
 | some (.array n e), some (_, i) => (match look e T.inf, x with
  | some (s, _), .agg l => (match s, intsOf l with
   | 1, some (k, ns) => (match Nat.beq (lnL ns) n, look e T.und with
    | true, some (.int _) => if 0 ≤ i then if i < (n : Int) then K (.lit (.int k (rd ns i))) else none else none
    | _, _ => none)
   | s, _ => (match c with
    | some j => (match Nat.blt j n with
     | true => partV T e l (j * s) K
     | false => none)
    | none => (match Nat.ble n 8 with
     | true => splitIx T e l s i K 0 n
     | false => none)))
  | _, _ => none)
 | _, _ => ixV T t x ix K
section
variable {P : Program} {T : TT} {X : Cx} {E : En} {F : FS} {a : Act} {w w' : World} {st : St} {o : Oper} {u : Upd} {R : Type} {r : R} {B : Nat → Option Blk} {nb : Nat → Prop} {v : Value} {av : AV}
theorem mm_ok {mx : Bool} {x y : Operand} {ts : Array TypeId} (ho : o.op = .call { callee := .builtin (if mx = true then .max else .min), args := #[x, y], argTypes := ts }) {K : AV → Option R} (h : mmV mx (ev st x) (ev st y) K = some r) : ∃ av, K av = some r ∧ OpOk P o st ⟨av, [], []⟩ := by
 have hx : x ∈ o.op.operands.toList := by cases mx <;> simp [ho, Op.operands, Call.operands]
 have hy : y ∈ o.op.operands.toList := by cases mx <;> simp [ho, Op.operands, Call.operands]
 unfold mmV at h
 split at h
 ·rename_i k a k' b ha hb
  cases mx with
  | true =>
   simp only at h
   split at h
   ·rename_i hc
    refine ⟨_, h, ok2 hx hy fun E B w nb act h1 h2 => ⟨_, ?_, held_lit _⟩⟩
    simp [execOp, ho, resolve, invoke, builtin, asI_of ha h1, asI_of hb h2, Builtin.max_, Builtin.max2, hc]
   ·rename_i hc
    refine ⟨_, h, ok2 hx hy fun E B w nb act h1 h2 => ⟨_, ?_, held_lit _⟩⟩
    simp [execOp, ho, resolve, invoke, builtin, asI_of ha h1, asI_of hb h2, Builtin.max_, Builtin.max2, hc]
  | false =>
   simp only at h
   split at h
   ·rename_i hc
    refine ⟨_, h, ok2 hx hy fun E B w nb act h1 h2 => ⟨_, ?_, held_lit _⟩⟩
    simp [execOp, ho, resolve, invoke, builtin, asI_of ha h1, asI_of hb h2, Builtin.min_, Builtin.min2, hc]
   ·rename_i hc
    refine ⟨_, h, ok2 hx hy fun E B w nb act h1 h2 => ⟨_, ?_, held_lit _⟩⟩
    simp [execOp, ho, resolve, invoke, builtin, asI_of ha h1, asI_of hb h2, Builtin.min_, Builtin.min2, hc]
 ·cases h
theorem okWriteV (hs : SimAt X E F a w) {id : Nat} {b0 b : Blk} {rb : List Nat} {y : Value} (hid : F.B id = some b0) (hd : b0 ≠ .dead) (hn : E.ν id = false) (hk : ∀ k e l, b = .ints k e l → ∃ e0 l0, b0 = .ints k e0 l0 ∧ l0.length = l.length)
  {old cs : Array Value} {ty : TypeId} (hg : w.heap[E.ρ id]? = some (.cells old ty (0, 0))) (hrun : (execOp a.eval o).run P w = .ok (.value y) (w.setRow (E.ρ id) cs))
  (hb : BlkAt E (F.upd o.dst ⟨.lit y, [(id, b)], rb⟩).B (w.setRow (E.ρ id) cs) (NB X.okk E (F.upd o.dst ⟨.lit y, [(id, b)], rb⟩).B) id b)
  {K : Act → World → Prop} {Q : Exit → Act → World → Prop} (hK : ∀ a' w', Sim X (F.upd o.dst ⟨.lit y, [(id, b)], rb⟩) a' w' → K a' w') (hp : ∀ t, o.dst = some t → ∀ s v, X.pin = some (s, v) → s ≠ t) : o.wp P a w K Q := by
 unfold Oper.wp
 rw [hrun]
 show K (a.put o.dst y) _
 have hs1 : SimAt X E ⟨F.sl, (F.upd o.dst ⟨.lit y, [(id, b)], rb⟩).B⟩ a (w.setRow (E.ρ id) cs) :=
  hs.write hid hd hn hk rfl rfl rfl (by simp) (fun k hk => setRow_other w _ k cs hk) rfl ((bs_one (dst := o.dst) (x := .lit y) (rb := rb) id).trans (if_pos rfl)) (fun i hi => (bs_one (dst := o.dst) (x := .lit y) (rb := rb) i).trans (if_neg hi)) hb
 exact hK _ _ (fin hs1 rfl (fun _ => rfl) (held_lit _) hp)
theorem copy_ok (hT : T.ok P) {x y : Operand} {t t' : TypeId} (ho : o.op = .call { callee := .builtin .copy, args := #[x, y], argTypes := #[t, t'] }) {K : AV → List (Nat × Blk) → List Nat → Option R} (h : copyV T st t (ev st x) (ev st y) K = some r) : ∃ av bs rb, K av bs rb = some r ∧ OpOk P o st ⟨av, bs, rb⟩ := by
 have hx : x ∈ o.op.operands.toList := by simp [ho, Op.operands, Call.operands]
 have hy : y ∈ o.op.operands.toList := by simp [ho, Op.operands, Call.operands]
 unfold copyV at h
 split at h
 ·rename_i e id ht he
  split at h
  ·rename_i rest k e' l hi hb
   split at h
   ·rename_i l2 rb hl2
    split at h
    ·rename_i hnot
     refine ⟨_, _, _, h, ?_⟩
     rintro X F a w ⟨E, hs⟩ hag K' Q hK
     have h1 := ev_held hs (ag1 hag hx)
     have h2 := ev_held hs (ag1 hag hy)
     rw [he] at h1
     have hid : F.B id = some (.ints (.num k) e' l) := (hag.2.2.1 _ (List.mem_cons_self)).trans hb
     obtain ⟨A, c, hv2, hlc, hsrc⟩ := src_of hs hl2 hag.2.1 h2
     have hu : P.underlying t = some (.slice e) := hT.1 t _ ht
     obtain ⟨inf, z, hinf, hsz, _⟩ := hT.2 e _ hi
     have hs1 : (P.info? e).map (·.size) = some 1 := by rw [hinf]; simp [hsz]
     have hex : ∀ {v : Value} {w'' : World}, (Builtin.copy_ #[t, t'] o.type #[a.eval x, a.eval y]).run P w = .ok v w'' → (execOp a.eval o).run P w = .ok (.value v) w'' := by
      intro v w'' h3
      simp [execOp, ho, resolve, invoke, builtin, h3]
     have hlen : (l2.take l.length ++ l.drop l2.length).length = l.length := by
      rw [List.length_append, List.length_take, List.length_drop]; omega
     have hzero : Nat.min l2.length l.length = 0 → l2.take l.length ++ l.drop l2.length = l := fun hz => by
      rcases Nat.eq_zero_or_pos l2.length with h0 | h0
      ·rw [List.eq_nil_of_length_eq_zero h0]; simp
      ·have : l.length = 0 := by
        have := Nat.min_eq_left (a := l2.length) (b := l.length)
        simp only [Nat.min_def] at hz
        split at hz <;> omega
       rw [List.eq_nil_of_length_eq_zero this]; simp
     have hnone : ∀ {d : Option Addr} {dc : Nat}, a.eval x = .slice d l.length dc → Nat.min l2.length l.length = 0 → o.wp P a w K' Q := fun {d dc} hv hz => by
      have hrun := hex (v := goInt 0) (w'' := w) (by rw [hv, hv2]; exact run_copy_none w t t' o.type e _ _ _ _ _ _ hu hs1 hz)
      unfold Oper.wp
      rw [hrun]
      have e1 : (((Nat.min l2.length l.length : Nat) : Int)) = 0 := by rw [hz]; rfl
      rw [e1, hzero hz] at hK
      refine hK _ _ (fin hs rfl (fun i => ?_) (held_lit _) hag.2.2.2)
      rw [bs_one]
      by_cases hii : i = id
      ·rw [if_pos hii, hii, hid]
      ·rw [if_neg hii]
     rcases sli_of hs hid h1 with ⟨hn, hv, hl0⟩ | ⟨hn, cs, hv, hcs, hlies⟩
     ·refine hnone (d := none) (dc := 0) (by rw [hv, hl0]; rfl) ?_
      rw [hl0]; simp
     ·by_cases hz : Nat.min l2.length l.length = 0
      ·exact hnone hv hz
      ·have hpos : 0 < l2.length := by
        rcases Nat.eq_zero_or_pos l2.length with h0 | h0
        ·exact absurd (by rw [h0]; exact Nat.zero_min _) hz
        ·exact h0
       obtain ⟨ad, rfl, hcell⟩ := hsrc hpos
       have hmin : Nat.min l2.length l.length ≤ l2.length ∧ Nat.min l2.length l.length ≤ l.length := ⟨Nat.min_le_left _ _, Nat.min_le_right _ _⟩
       have hrun := run_copy_row (P := P) w t t' o.type e (E.ρ id) 0 l.length cs.size ad l2.length c cs e' ((l2.take l.length).map (Value.int k)) hu hs1 hlies.1 (by rw [List.length_map, List.length_take]; exact Nat.min_comm _ _)
        (fun j v hj => by
         obtain ⟨h4, h5⟩ := ints_get hj
         rw [List.length_take] at h4
         rw [h5, hcell j (by omega)]
         rw [List.getD_eq_getElem?_getD, List.getD_eq_getElem?_getD, List.getElem?_take_of_lt (by omega)])
        (by rw [Nat.zero_add, List.length_map, List.length_take]; have := hlies.2.2.1; omega) (fun v hv' => by obtain ⟨n, _, rfl⟩ := List.mem_map.1 hv'; rfl)
       have hr2 := hex (v := .int .i64 ((Nat.min l2.length l.length : Nat) : Int)) (by
        rw [hv, hv2, hrun]
        rw [List.length_map, List.length_take]
        simp only [goInt]
        rw [Nat.min_comm])
       refine okWriteV hs hid (by simp) hn (fun k0 e0 l0 h0 => ?_) hlies.1 hr2 ?_ hK hag.2.2.2
       ·injection h0 with hk0 _ h0
        exact ⟨_, _, by rw [hk0], by rw [← h0]; exact hlen.symm⟩
       ·simp only [BlkAt, hn, Bool.false_eq_true, if_false]
        refine ⟨_, setRow_heap w _ _ _ e' (0, 0) hlies.1, ?_, ?_, ?_, fun j hj => ?_⟩
        ·rw [← hcs]; simp [List.length_take]; have := hlies.2.2.1; omega
        ·have := hlies.2.1; simp [List.length_take]; have := hlies.2.2.1; omega
        ·rw [hlen]; simp [List.length_take]; have := hlies.2.2.1; omega
        ·rw [hlen] at hj
         have h6 := hlies.2.2.2 j hj
         simp only [List.take_zero, List.nil_append, Nat.zero_add, List.length_map, List.length_take, List.getElem?_toArray]
         rw [List.getD_eq_getElem?_getD]
         by_cases hjl : j < l2.length
         ·rw [List.getElem?_append_left (by simp [List.length_take]; omega), List.getElem?_append_left (by rw [List.length_take]; omega)]
          rw [List.getElem?_map, List.getElem?_take_of_lt hj]
          simp [hjl]
         ·rw [List.getElem?_append_right (by simp [List.length_take]; omega), List.getElem?_append_right (by rw [List.length_take]; omega)]
          simp only [List.length_map, List.length_take, List.getElem?_drop]
          have e5 : min l2.length l.length + (j - min l.length l2.length) = j := by omega
          have e6 : l2.length + (j - min l.length l2.length) = j := by omega
          rw [e5, e6]
          have h7 : cs.toList[j]? = cs[j]? := by simp
          rw [h7, h6, List.getD_eq_getElem?_getD]
    ·cases h
   ·cases h
  ·cases h
 ·cases h
theorem cut2_ok (hT : T.ok P) {t : TypeId} {x : Operand} {lo hi mx : Option Operand} (ho : o.op = .slice t x lo hi mx) {K : AV → Option R} (h : cut2V T t (ev st x) (lo.map (ev st)) (hi.map (ev st)) (mx.map (ev st)) K = some r) : ∃ av, K av = some r ∧ OpOk P o st ⟨av, [], []⟩ := by
 have hx : x ∈ o.op.operands.toList := by simp [ho, Op.operands]
 have hin : ∀ {y : Operand}, (lo = some y ∨ hi = some y ∨ mx = some y) → y ∈ o.op.operands.toList := by
  intro y hy
  rcases hy with rfl | rfl | rfl <;> simp [ho, Op.operands]
 have ok3 : ∀ {y z : Operand} {av : AV}, y ∈ o.op.operands.toList → z ∈ o.op.operands.toList → (∀ (E : En) (B : Nat → Option Blk) (w : World) (nb : Nat → Prop) (a : Act), Held E B w nb (ev st x) (a.eval x) → Held E B w nb (ev st y) (a.eval y) → Held E B w nb (ev st z) (a.eval z) → ∃ v, (execOp a.eval o).run P w = .ok (.value v) w ∧ Held E B w nb av v) → OpOk P o st ⟨av, [], []⟩ :=
  fun hy hz h => okPure fun X E F a w hs hag => h E F.B w _ a (ev_held hs (ag1 hag hx)) (ev_held hs (ag1 hag hy)) (ev_held hs (ag1 hag hz))
 unfold cut2V at h
 split at h
 ·rename_i e k l k1 a k2 b ht he h1 h2 h3
  split at h
  ·rename_i rest hi'
   split at h
   ·rename_i c1
    split at h
    ·rename_i c2
     split at h
     ·rename_i c3
      split at h
      ·rename_i c4
       cases lo with
       | none => cases h1
       | some y =>
        cases hi with
        | none => cases h2
        | some z =>
         cases mx with
         | some q => cases h3
         | none =>
          simp only [Option.map_some, Option.some.injEq] at h1 h2
          have hu : P.underlying t = some (.slice e) := hT.1 t _ ht
          refine ⟨_, h, ok3 (hin (.inl rfl)) (hin (.inr (.inl rfl))) fun E B w nb act h4 h5 h6 => ?_⟩
          rw [he] at h4
          obtain ⟨A, c, h7, h8, _⟩ := row_of h4
          rw [h7] at h4
          have hl : (l.take b.toNat).length = b.toNat := by rw [List.length_take]; omega
          have h9 : Held E B w nb (.row k (l.take b.toNat)) (.slice A (l.take b.toNat).length c) := by
           rw [hl]; exact held_take h4 (by omega) (by omega)
          have h10 := held_drop h9 (n := a.toNat) (by rw [hl]; omega) (by rw [hl]; omega)
          rw [hl] at h10
          refine ⟨_, ?_, h10⟩
          have hsz := run_sizeOf (w := w) hT hi'
          have hbc : b ≤ (c : Int) := by omega
          simp [execOp, ho, h7, asI_of h1 h5, asI_of h2 h6, Instr.sliceAt, Instr.slice, run_underlying hu, Instr.sliceBounds, Instr.sliceBound, asIntOf, c1, c3, hbc, Int.toNat_of_nonneg c1, c4, hsz, -Int.ofNat_toNat]
      ·cases h
     ·cases h
    ·cases h
   ·cases h
  ·cases h
 ·rename_i e k l k1 b k2 m ht he h1 h2 h3
  split at h
  ·rename_i rest hi'
   split at h
   ·rename_i c1
    split at h
    ·rename_i c2
     split at h
     ·rename_i c3
      split at h
      ·rename_i c4
       cases lo with
       | some y => cases h1
       | none =>
        cases hi with
        | none => cases h2
        | some z =>
         cases mx with
         | none => cases h3
         | some q =>
          simp only [Option.map_some, Option.some.injEq] at h2 h3
          have hu : P.underlying t = some (.slice e) := hT.1 t _ ht
          refine ⟨_, h, ok3 (hin (.inr (.inl rfl))) (hin (.inr (.inr rfl))) fun E B w nb act h4 h5 h6 => ?_⟩
          rw [he] at h4
          obtain ⟨A, c, h7, h8, _⟩ := row_of h4
          rw [h7] at h4
          have h9 := held_take h4 (n := b.toNat) (c' := m.toNat) (by omega) (by omega)
          refine ⟨_, ?_, h9⟩
          have hsz := run_sizeOf (w := w) hT hi'
          have hmc : m ≤ (c : Int) := by omega
          simp [execOp, ho, h7, asI_of h2 h5, asI_of h3 h6, Instr.sliceAt, Instr.slice, run_underlying hu, Instr.sliceBounds, Instr.sliceBound, asIntOf, c1, c3, hmc, Int.toNat_of_nonneg c1, c4, hsz, -Int.ofNat_toNat]
          cases A <;> simp [Addr.add]
      ·cases h
     ·cases h
    ·cases h
   ·cases h
  ·cases h
 ·rename_i s k1 a ht he h1 h2 h3
  split at h
  ·rename_i c1
   split at h
   ·rename_i c2
    cases lo with
    | none => cases h1
    | some y =>
     cases hi with
     | some z => cases h2
     | none =>
      cases mx with
      | some q => cases h3
      | none =>
       simp only [Option.map_some, Option.some.injEq] at h1
       have hu : P.underlying t = some .string := hT.1 t _ ht
       rw [tCut_eq] at h
       refine ⟨_, h, ok2 hx (hin (.inl rfl)) fun E B w nb act h4 h5 => ⟨_, ?_, held_lit _⟩⟩
       rw [he] at h4
       simp [execOp, ho, lit_of h4, asI_of h1 h5, Instr.sliceAt, Instr.slice, run_underlying hu, Instr.sliceBounds, Instr.sliceBound, asIntOf, c1, c2]
   ·cases h
  ·cases h
 ·rename_i s k1 b ht he h1 h2 h3
  split at h
  ·rename_i c1
   split at h
   ·rename_i c2
    cases lo with
    | some y => cases h1
    | none =>
     cases hi with
     | none => cases h2
     | some z =>
      cases mx with
      | some q => cases h3
      | none =>
       simp only [Option.map_some, Option.some.injEq] at h2
       have hu : P.underlying t = some .string := hT.1 t _ ht
       rw [tCut_eq] at h
       refine ⟨_, h, ok2 hx (hin (.inr (.inl rfl))) fun E B w nb act h4 h5 => ⟨_, ?_, held_lit _⟩⟩
       rw [he] at h4
       simp [execOp, ho, lit_of h4, asI_of h2 h5, Instr.sliceAt, Instr.slice, run_underlying hu, Instr.sliceBounds, Instr.sliceBound, asIntOf, c1, c2]
   ·cases h
  ·cases h
 ·rename_i s k1 a k2 b ht he h1 h2 h3
  split at h
  ·rename_i c1
   split at h
   ·rename_i c2
    split at h
    ·rename_i c3
     split at h
     ·rename_i c4
      cases lo with
      | none => cases h1
      | some y =>
       cases hi with
       | none => cases h2
       | some z =>
        cases mx with
        | some q => cases h3
        | none =>
         simp only [Option.map_some, Option.some.injEq] at h1 h2
         have hu : P.underlying t = some .string := hT.1 t _ ht
         rw [tCut_eq] at h
         refine ⟨_, h, ok3 (hin (.inl rfl)) (hin (.inr (.inl rfl))) fun E B w nb act h4 h5 h6 => ⟨_, ?_, held_lit _⟩⟩
         rw [he] at h4
         simp [execOp, ho, lit_of h4, asI_of h1 h5, asI_of h2 h6, Instr.sliceAt, Instr.slice, run_underlying hu, Instr.sliceBounds, Instr.sliceBound, asIntOf, c1, c2, c3, Int.toNat_of_nonneg c1, c4, -Int.ofNat_toNat]
     ·cases h
    ·cases h
   ·cases h
  ·cases h
 ·exact cut_ok hT ho h
theorem ints_lits : ∀ {l : List AV} {k : IntKind} {ns : List Int} {us : List Value}, intsOf l = some (k, ns) → HeldL E B w nb l us → us = ns.map (Value.int k)
 | [], k, ns, us, h, _ => by cases h
 | a :: l, k, ns, us, h, hh => by
  obtain ⟨u, us', rfl, h1, h2⟩ := heldL_cons_of hh
  unfold intsOf at h
  split at h
  ·rename_i k1 n ha
   rw [asI_of ha h1]
   split at h
   ·injection h with h; injection h with h3 h4
    subst h3; subst h4
    rw [heldL_nil_of h2]; rfl
   ·split at h
    ·rename_i k2 ns2 hr
     split at h
     ·rename_i hk
      injection h with h; injection h with h3 h4
      subst h3; subst h4; subst hk
      rw [ints_lits hr h2]; rfl
     ·cases h
    ·cases h
  ·cases h
theorem splitIx_of {e : TypeId} {l : List AV} {s : Nat} {i : Int} {K : AV → Option R} : ∀ (n j : Nat), splitIx T e l s i K j n = some r → ∃ q, j ≤ q ∧ q < j + n ∧ i = (q : Int) ∧ partV T e l (q * s) K = some r
 | 0, j, h => by cases h
 | n + 1, j, h => by
  unfold splitIx at h
  split at h
  ·rename_i hi; exact ⟨j, Nat.le_refl _, by omega, hi, h⟩
  ·obtain ⟨q, h1, h2, h3⟩ := splitIx_of n (j + 1) h
   exact ⟨q, by omega, by omega, h3⟩
theorem ix2_ok (hT : T.ok P) {t : TypeId} {x y : Operand} (ho : o.op = .index t x y) {K : AV → Option R} (h : ix2V T t (ev st x) (ev st y) (litOf y) K = some r) : ∃ av, K av = some r ∧ OpOk P o st ⟨av, [], []⟩ := by
 have hx : x ∈ o.op.operands.toList := by simp [ho, Op.operands]
 have hy : y ∈ o.op.operands.toList := by simp [ho, Op.operands]
 unfold ix2V at h
 split at h
 ·rename_i n e k0 i ht hi
  have hu : P.underlying t = some (.array n e) := hT.1 t _ ht
  split at h
  ·rename_i s rest l he hl
   split at h
   ·rename_i k ns hns
    split at h
    ·rename_i ke hlen hue
     split at h
     ·rename_i h0
      split at h
      ·rename_i h1
       have hlen' : ns.length = n := by rw [← lnL_eq]; exact Nat.eq_of_beq_eq_true hlen
       refine ⟨_, h, ok2 hx hy fun E B w nb a h2 h3 => ⟨_, ?_, held_lit _⟩⟩
       rw [hl] at h2
       obtain ⟨us, h5, h6⟩ := agg_of h2
       have h7 := ints_lits hns h6
       subst h7
       have hsz := run_sizeOf (w := w) hT he
       obtain ⟨j, rfl⟩ := Int.eq_ofNat_of_zero_le h0
       have hj : j < ns.length := by omega
       simp only [execOp, ho, h5, asI_of hi h3, Instr.index, asIntOf, Sem.run_bind, Sem.run_pure, Result.andThen_ok, run_underlying hu]
       rw [if_pos ⟨h0, h1⟩]
       have hagg := run_isAgg (w := w) (hT.1 e _ hue)
       have hnat : (Int.ofNat j).toNat = j := rfl
       simp [part, hsz, hagg, UD.scalar, hj, rd, List.getD_eq_getElem?_getD]
      ·cases h
     ·cases h
    ·cases h
   ·have main : ∀ sz : Nat, look e T.inf = some (sz, rest) → ∀ q : Nat, i = (q : Int) → q < n → partV T e l (q * sz) K = some r → ∃ av, K av = some r ∧ OpOk P o st ⟨av, [], []⟩ := by
     rintro sz he q rfl hqn h3
     obtain ⟨c, h4, h5⟩ := partV_of hT h3
     refine ⟨c, h4, ok2 hx hy fun E B w nb a h6 h7 => ?_⟩
     rw [hl] at h6
     obtain ⟨us, h8, h9⟩ := agg_of h6
     obtain ⟨v, h10, h11, _⟩ := h5 E B w nb us h9
     refine ⟨v, ?_, h10⟩
     have hsz := run_sizeOf (w := w) hT he
     have hq : (0 : Int) ≤ (q : Int) ∧ (q : Int) < (n : Int) := ⟨by omega, by omega⟩
     simp only [execOp, ho, h8, asI_of hi h7, Instr.index, asIntOf, Sem.run_bind, Sem.run_pure, Result.andThen_ok, run_underlying hu]
     rw [if_pos hq]
     simp [hsz, h11]
    split at h
    ·rename_i j hj
     split at h
     ·rename_i hlt
      exact main _ he j (lit_int hj hi) (Nat.le_of_ble_eq_true hlt) h
     ·cases h
    ·split at h
     ·obtain ⟨q, h1, h2, h3, h4⟩ := splitIx_of _ _ h
      exact main _ he q h3 (by omega) h4
     ·cases h
  ·cases h
 ·exact ix_ok hT ho h
end
end Go.Proofs.YtkoeddgbhohggaaGreatDoor.E
end
section
namespace Go.Proofs.YtkoeddgbhohggaaGreatDoor.E
open Go.MapKept Go.RowKit Go.Proofs.YtkoeddgbhohggaaGreatDoorW.PrintWords Go.Proofs.YtkoeddgbhohggaaGreatDoorW.PrintLast
set_option linter.unusedVariables false
set_option linter.unusedSimpArgs false
def mget0 : List Int → Int → Int
 | k :: v :: l, x => if k = x then v else mget0 l x
 | _, _ => 0
def mset0 : List Int → Int → Int → List Int
 | k :: v :: l, x, y => if k = x then k :: y :: l else k :: v :: mset0 l x y
 | _, x, y => [x, y]
noncomputable def mget : List Int → Int → Int := (still mget0).1
noncomputable def mset : List Int → Int → Int → List Int := (still mset0).1
theorem mget_eq : mget = mget0 := (still mget0).2
theorem mset_eq : mset = mset0 := (still mset0).2
noncomputable def mkmV {R : Type} (T : TT) (st : St) (id : Nat) (t : TypeId) (K : AV → Blk → Option R) : Option R := match look t T.und, st.blk id with
 | some (.map tk tv), none => (match look tk T.und, look tv T.und with
  | some (.int a), some (.int b) => K (.mp id) (.ints (.map a b) 0 [cdR []])
  | _, _ => none)
 | _, _ => none
noncomputable def lookV {R : Type} (T : TT) (st : St) (t : TypeId) (x ix : AV) (K : AV → List Nat → Option R) : Option R := match look t T.und, x, asI ix with
 | some (.map tk tv), .mp id, some (k, i) => (match st.blk id, look tk T.und, look tv T.zer with
  | some (.ints (.map a b) _ l), some (.int a'), some (.int z 0) => if k = a ∧ a' = a ∧ z = b then K (.lit (.int b (mget (dcR (rd l 0)) i))) [id] else none
  | _, _, _ => none)
 | _, _, _ => none
noncomputable def updV {R : Type} (T : TT) (st : St) (t : TypeId) (x ix y : AV) (K : Nat → Blk → Option R) : Option R := match look t T.und, x, asI ix, asI y with
 | some (.map tk tv), .mp id, some (k, i), some (kv, v) => (match st.blk id, look tk T.und with
  | some (.ints (.map a b) e l), some (.int a') => if k = a ∧ a' = a ∧ kv = b then K id (.ints (.map a b) e [cdR (mset (dcR (rd l 0)) i v)]) else none
  | _, _ => none)
 | _, _, _, _ => none
def isNilL : AV → Bool
 | .lit (.slice none 0 0) => true
 | _ => false
def notNil {R : Type} (st : St) (x : AV) (K : List Nat → Option R) : Option R := match x with
 | .row _ l => if 0 < l.length then K [] else none
 | .rows _ l => if 0 < l.length then K [] else none
 | .sli id => (match st.blk id with
  | some (.ints k _ l) => (match k.nn with
   | true => K [id]
   | false => if 0 < l.length then K [id] else none)
  | _ => none)
 | _ => none
def nilEqV {R : Type} (T : TT) (st : St) (op : BinOp) (ty : TypeId) (x y : AV) (K : AV → List Nat → Option R) : Option R := match look ty T.und with
 | some (.slice _) => (match isNilL y with
  | true => (match isNilL x with
   | true => eqV op true fun v => K v []
   | false => notNil st x fun rb => eqV op false fun v => K v rb)
  | false => none)
 | _ => none
section
variable {P : Program} {T : TT} {X : Cx} {E E' : En} {F : FS} {a : Act} {w w' : World} {st : St} {o : Oper} {u : Upd} {R : Type} {r : R} {B B' : Nat → Option Blk} {nb nb' : Nat → Prop} {v : Value} {av : AV}
theorem mkm_ok (hT : T.ok P) {t : TypeId} {id : Nat} (ho : o.op = .makeMap t none) {K : AV → Blk → Option R} (h : mkmV T st id t K = some r) : ∃ av b, K av b = some r ∧ OpOk P o st ⟨av, [(id, b)], []⟩ := by
 unfold mkmV at h
 split at h
 ·rename_i tk tv ht hid
  split at h
  ·rename_i ka kb hka hkb
   refine ⟨_, _, h, ?_⟩
   rintro X F a w ⟨E, hs⟩ hag K Q hK
   have hF : F.B id = none := (hag.2.2.1 (id, .ints (.map ka kb) 0 [cdR []]) (by simp)).trans hid
   unfold Oper.wp
   have hrun : (execOp a.eval o).run P w = .ok (.value (.map (some w.heap.size))) (w.alloc (.map #[] 0)) := by
    simp only [execOp, ho, Sem.run_bind]; rfl
   rw [hrun]
   show K (a.put o.dst _) _
   let F1 : FS := ⟨F.sl, (F.upd o.dst ⟨.mp id, [(id, .ints (.map ka kb) 0 [cdR []])], []⟩).B⟩
   have hb : ∀ i, F1.B i = if i = id then some (.ints (.map ka kb) 0 [cdR []]) else F.B i := fun i => bs_one (dst := o.dst) i
   have hs1 : SimAt X (E.at id w.heap.size 0 false) F1 a (w.alloc (.map #[] 0)) := by
    refine hs.fresh (b := .ints (.map ka kb) 0 [cdR []]) none hF rfl rfl rfl (alloc_sz _ _) (fun k hk _ => Below.heap_alloc w _ k hk) (fun _ => .inl (Nat.le_refl _)) rfl (by rw [hb, if_pos rfl]) (fun i hi => by cases hi) (fun i hi _ => by rw [hb, if_neg hi]) ?_
    refine ⟨En.at_eq.2.2, _, #[], 0, rfl, ?_, ?_⟩
    ·rw [En.at_eq.1]; exact heap_alloc_new w _
    ·rw [dcR_eq]; trivial
   refine hK _ _ (fin (F1 := F1) hs1 rfl (fun _ => rfl) (fun W' hW => ?_) hag.2.2.2)
   unfold Den
   rw [hb, if_pos rfl]
   exact ⟨rfl, fun k' e' l' hl => by rw [En.at_eq.1]⟩
  ·cases h
 ·cases h
theorem ents_find {ka kb : IntKind} {i : Int} : ∀ (l : List Int) (es : List MapEntry) (j : Nat), EntsAt ka kb l es →
  (Instr.findNow (.int ka) (.int ka i) es j = some none ∧ mget0 l i = 0 ∧ ∀ (y : Int) (c : Nat), EntsAt ka kb (mset0 l i y) (es ++ [{ key := .int ka i, val := .int kb y, born := c }])) ∨
  ∃ q e, Instr.findNow (.int ka) (.int ka i) es j = some (some (j + q, .int kb (mget0 l i))) ∧ es[q]? = some e ∧ e.key = .int ka i ∧ ∀ y : Int, EntsAt ka kb (mset0 l i y) (es.modify q fun e => { e with key := .int ka i, val := .int kb y })
 | [], [], j, _ => .inl ⟨rfl, rfl, fun y c => ⟨rfl, rfl, trivial⟩⟩
 | [], _ :: _, _, h => h.elim
 | [_], [], _, h => h.elim
 | [_], _ :: _, _, h => h.elim
 | _ :: _ :: _, [], _, h => h.elim
 | k :: v :: l, e :: es, j, h => by
  obtain ⟨h1, h2, h3⟩ := h
  by_cases hk : k = i
  ·subst hk
   refine .inr ⟨0, e, ?_, rfl, h1, fun y => ?_⟩
   ·simp [Instr.findNow, Instr.sameNow, h1, h2, mget0]
   ·simp only [mset0, if_true, List.modify_zero_cons]
    exact ⟨rfl, rfl, h3⟩
  ·have hne : Instr.sameNow (.int ka) (.int ka i) e.key = some false := by simp [Instr.sameNow, h1, Ne.symm hk]
   rcases ents_find (i := i) l es (j + 1) h3 with ⟨h4, h5, h6⟩ | ⟨q, e', h4, h5, h6, h7⟩
   ·refine .inl ⟨by simp [Instr.findNow, hne, h4], by simp [mget0, hk, h5], fun y c => ?_⟩
    simp only [mset0, if_neg hk]
    exact ⟨h1, h2, h6 y c⟩
   ·refine .inr ⟨q + 1, e', ?_, by simpa using h5, h6, fun y => ?_⟩
    ·simp only [Instr.findNow, hne, h4, mget0, if_neg hk]
     congr 3; omega
    ·simp only [mset0, if_neg hk, List.modify_succ_cons]
     exact ⟨h1, h2, h7 y⟩
theorem map_of (hs : SimAt X E F a w) {id : Nat} {ka kb : IntKind} {e : TypeId} {l : List Int} (hB : F.B id = some (.ints (.map ka kb) e l)) (h : Held E F.B w (NB X.okk E F.B) (.mp id) v) :
  v = .map (some (E.ρ id)) ∧ E.ν id = false ∧ l = [rd l 0] ∧ ∃ es clock, w.heap[E.ρ id]? = some (.map es clock) ∧ EntsAt ka kb (dcR (rd l 0)) es.toList := by
 have h1 := mp_of hB h
 obtain ⟨hn, n, es, clock, rfl, h2, h3⟩ := hs.blk id _ hB
 exact ⟨h1, hn, rfl, es, clock, h2, h3⟩
theorem look_ok (hT : T.ok P) {t : TypeId} {x y : Operand} (ho : o.op = .lookup t x y false) {K : AV → List Nat → Option R} (h : lookV T st t (ev st x) (ev st y) K = some r) : ∃ av rb, K av rb = some r ∧ OpOk P o st ⟨av, [], rb⟩ := by
 have hx : x ∈ o.op.operands.toList := by simp [ho, Op.operands]
 have hy : y ∈ o.op.operands.toList := by simp [ho, Op.operands]
 unfold lookV at h
 split at h
 ·rename_i tk tv id k i ht hxv hi
  split at h
  ·rename_i ka kb e l ka' z hb hka hinf
   split at h
   ·rename_i hc
    obtain ⟨rfl, rfl, rfl⟩ := hc
    refine ⟨_, _, h, okPure fun X E F a w hs hag => ⟨_, ?_, held_lit _⟩⟩
    have h1 := ev_held hs (ag1 hag hx)
    have h2 := ev_held hs (ag1 hag hy)
    rw [hxv] at h1
    have hFB : F.B id = some (.ints (.map ka' z) e l) := (hag.2.1 id (by simp)).trans hb
    obtain ⟨h3, hn, hl, es, clock, h4, h5⟩ := map_of hs hFB h1
    have h6 := asI_of hi h2
    have hm : P.underlying t = some (.map tk tv) := hT.1 t _ ht
    have hd : P.underlying tk = some (.int ka') := hT.1 tk _ hka
    obtain ⟨inf, i1, i4⟩ := hT.4 tv _ hinf
    have hz : ∀ w : World, (zeroValue tv).run P w = .ok (.int z 0) w := fun w => by simp [zeroValue, typeInfo, i1, i4]
    have hk : IsKey (.int ka') (.int ka' i) := rfl
    rw [mget_eq]
    rcases ents_find (i := i) _ _ 0 h5 with ⟨h7, h8, _⟩ | ⟨q, e', h7, h8, h9, _⟩
    ·rw [h8]
     simp [execOp, ho, h3, h6, Instr.lookup, run_underlying hm, Go.MapKept.run_getObj_map h4, run_checkKey hd hk, run_findKey hd h7, hz]
    ·simp [execOp, ho, h3, h6, Instr.lookup, run_underlying hm, Go.MapKept.run_getObj_map h4, run_checkKey hd hk, run_findKey hd h7]
   ·cases h
  ·cases h
 ·cases h
theorem upd_ok (hT : T.ok P) {t : TypeId} {x y z : Operand} (ho : o.op = .mapUpdate t x y z) {K : Nat → Blk → Option R} (h : updV T st t (ev st x) (ev st y) (ev st z) K = some r) : ∃ id b, K id b = some r ∧ OpOk P o st ⟨.lit undef, [(id, b)], []⟩ := by
 have hx : x ∈ o.op.operands.toList := by simp [ho, Op.operands]
 have hy : y ∈ o.op.operands.toList := by simp [ho, Op.operands]
 have hz : z ∈ o.op.operands.toList := by simp [ho, Op.operands]
 unfold updV at h
 split at h
 ·rename_i tk tv id k i kv n ht hxv hi hv
  split at h
  ·rename_i ka kb e l ka' hb hka
   split at h
   ·rename_i hc
    obtain ⟨rfl, rfl, rfl⟩ := hc
    refine ⟨_, _, h, ?_⟩
    rintro X F a w ⟨E, hs⟩ hag K' Q hK
    have h1 := ev_held hs (ag1 hag hx)
    have h2 := ev_held hs (ag1 hag hy)
    have h2' := ev_held hs (ag1 hag hz)
    rw [hxv] at h1
    have hid : F.B id = some (.ints (.map ka' kv) e l) := (hag.2.2.1 _ (List.mem_cons_self)).trans hb
    obtain ⟨h3, hn, hl, es, clock, h4, h5⟩ := map_of hs hid h1
    have h6 := asI_of hi h2
    have h6' := asI_of hv h2'
    have hm : P.underlying t = some (.map tk tv) := hT.1 t _ ht
    have hd : P.underlying tk = some (.int ka') := hT.1 tk _ hka
    have hk : IsKey (.int ka') (.int ka' i) := rfl
    rw [mset_eq] at hK
    have main : ∀ (es' : Array MapEntry) (clock' : Nat), EntsAt ka' kv (mset0 (dcR (rd l 0)) i n) es'.toList → (execOp a.eval o).run P w = .ok .skip { w with heap := w.heap.setIfInBounds (E.ρ id) (.map es' clock') } → o.wp P a w K' Q := by
     intro es' clock' hes hrun
     unfold Oper.wp
     rw [hrun]
     show K' (a.put o.dst undef) _
     have hbs : ∀ j, (F.upd o.dst ⟨.lit undef, [(id, .ints (.map ka' kv) e [cdR (mset0 (dcR (rd l 0)) i n)])], []⟩).B j = if j = id then some (.ints (.map ka' kv) e [cdR (mset0 (dcR (rd l 0)) i n)]) else F.B j := fun j => bs_one (dst := o.dst) j
     have hs1 : SimAt X E ⟨F.sl, (F.upd o.dst ⟨.lit undef, [(id, .ints (.map ka' kv) e [cdR (mset0 (dcR (rd l 0)) i n)])], []⟩).B⟩ a { w with heap := w.heap.setIfInBounds (E.ρ id) (.map es' clock') } := by
      refine hs.write hid (by simp) hn (fun k0 e0 l0 h0 => ?_) rfl rfl rfl (by simp) (fun k hk => (heap_set h4).2 k hk) rfl ((hbs id).trans (if_pos rfl)) (fun i hi => (hbs i).trans (if_neg hi)) ?_
      ·injection h0 with hk0 _ h0
       exact ⟨_, _, by rw [hk0], by rw [← h0, hl]; rfl⟩
      ·exact ⟨hn, _, es', clock', rfl, (heap_set h4).1, by rw [dcR_eq]; exact hes⟩
     exact hK _ _ (fin hs1 rfl (fun _ => rfl) (held_lit _) hag.2.2.2)
    rcases ents_find (i := i) _ _ 0 h5 with ⟨h7, _, h8⟩ | ⟨q, e', h7, h8, h9, h10⟩
    ·refine main (es.push { key := .int ka' i, val := .int kv n, born := clock }) (clock + 1) (by rw [Array.toList_push]; exact h8 n clock) ?_
     simp [execOp, ho, h3, h6, h6', Instr.mapUpdate, run_underlying hm, Go.MapKept.run_getObj_map h4, run_checkKey hd hk, run_findKey hd h7, Go.MapKept.run_setObj_map _ h4]
    ·have h8' : es[q]? = some e' := by simpa using h8
     rw [Nat.zero_add] at h7
     refine main (es.modify q fun e => { e with key := .int ka' i, val := .int kv n }) clock (by rw [Array.toList_modify]; exact h10 n) ?_
     simp [execOp, ho, h3, h6, h6', Instr.mapUpdate, run_underlying hm, Go.MapKept.run_getObj_map h4, run_checkKey hd hk, run_findKey hd h7, Go.MapKept.run_setObj_map _ h4, h8', h9, run_keyThatStays hk]
   ·cases h
  ·cases h
 ·cases h
theorem nil_lit (h : isNilL av = true) (hh : Held E B w nb av v) : v = .slice none 0 0 := by
 unfold isNilL at h
 split at h
 ·exact lit_of hh
 ·cases h
theorem notNil_of {x : Operand} {K : List Nat → Option R} (h : notNil st (ev st x) K = some r) : ∃ rb, K rb = some r ∧ ∀ (X : Cx) (E : En) (F : FS) (a : Act) (w : World), SimAt X E F a w → (∀ i ∈ rb, F.B i = st.blk i) → (∀ s, x = .tmp s → F.sl s = st.get s ∧ s < X.N) → ∃ g n c, a.eval x = .slice (some g) n c := by
 unfold notNil at h
 split at h
 ·rename_i k l he
  split at h
  ·rename_i h0
   refine ⟨_, h, fun X E F a w hs _ hx => ?_⟩
   have h1 := ev_held hs hx
   rw [he] at h1
   obtain ⟨A, c, h2, _, h3⟩ := row_of h1
   obtain ⟨g, rfl, _⟩ := h3 h0
   exact ⟨g, _, _, h2⟩
  ·cases h
 ·rename_i k l he
  split at h
  ·rename_i h0
   refine ⟨_, h, fun X E F a w hs _ hx => ?_⟩
   have h1 := ev_held hs hx
   rw [he] at h1
   obtain ⟨A, c, us, h2, _, _, h3⟩ := rows_of h1
   obtain ⟨g, rfl, _⟩ := h3 h0
   exact ⟨g, _, _, h2⟩
  ·cases h
 ·rename_i id he
  split at h
  ·rename_i k e l hb
   have main : ∀ {K' : List Nat → Option R}, (∀ (X : Cx) (E : En) (F : FS) (a : Act) (w : World), SimAt X E F a w → F.B id = some (.ints k e l) → E.ν id = false) → K [id] = some r → ∃ rb, K rb = some r ∧ ∀ (X : Cx) (E : En) (F : FS) (a : Act) (w : World), SimAt X E F a w → (∀ i ∈ rb, F.B i = st.blk i) → (∀ s, x = .tmp s → F.sl s = st.get s ∧ s < X.N) → ∃ g n c, a.eval x = .slice (some g) n c := by
    intro _ hν hK
    refine ⟨_, hK, fun X E F a w hs hrb hx => ?_⟩
    have h1 := ev_held hs hx
    rw [he] at h1
    have hFB : F.B id = some (.ints k e l) := (hrb id (by simp)).trans hb
    rcases sli_val hs hFB h1 with ⟨hn, _⟩ | ⟨_, h2⟩
    ·rw [hν X E F a w hs hFB] at hn; cases hn
    ·exact ⟨_, _, _, h2⟩
   split at h
   ·rename_i hkn
    refine main (K' := K) (fun X E F a w hs hFB => ?_) h
    have h1 := hs.blk id _ hFB
    cases k <;> first | cases hkn | skip
    by_cases hn : E.ν id = true
    ·simp only [BlkAt, hn, if_true] at h1
    ·simpa using hn
   ·split at h
    ·rename_i h0
     exact main (K' := K) (fun X E F a w hs hFB => hs.pos hFB h0) h
    ·cases h
  ·cases h
 ·cases h
theorem sl_eq_run {op : BinOp} {ty : TypeId} {e : Nat} (hu : P.underlying ty = some (.slice e)) {A : Option Addr} {n c : Nat} (x y : Operand) (w : World) (hop : op = .eql ∨ op = .neq) :
  (do eqGuard op ty x y (.slice A n c) (.slice none 0 0); binOp op ty (.slice A n c) (.slice none 0 0)).run P w = .ok (.bool (if op = .eql then A.isNone else !A.isNone)) w := by
 have he : (Op.equal ty (.slice A n c) (.slice none 0 0)).run P w = .ok A.isNone w := by
  have key : ∀ d : Nat, (Op.equalIn (d + 1) ty (.slice A n c) (.slice none 0 0)).run P w = .ok A.isNone w := fun d => by
   cases A <;> simp [Op.equalIn, run_underlying hu]
  exact key 9999
 have hg : (eqGuard op ty x y (.slice A n c) (.slice none 0 0)).run P w = .ok () w := by rcases hop with rfl | rfl <;> simp [eqGuard]
 rcases hop with rfl | rfl
 ·simp [Sem.run_bind, hg, binOp, he]
 ·simp [Sem.run_bind, hg, binOp, he]
theorem nilEq_ok (hT : T.ok P) {op : BinOp} {ty ty' : TypeId} {x y : Operand} (ho : o.op = .binOp op ty x y ty') {K : AV → List Nat → Option R} (h : nilEqV T st op ty (ev st x) (ev st y) K = some r) : ∃ av rb, K av rb = some r ∧ OpOk P o st ⟨av, [], rb⟩ := by
 have hx : x ∈ o.op.operands.toList := by simp [ho, Op.operands]
 have hy : y ∈ o.op.operands.toList := by simp [ho, Op.operands]
 have hev : ∀ {b : Bool} {K : AV → Option R}, eqV op b K = some r → ∃ c, K (.lit (.bool c)) = some r ∧ ((op = .eql ∧ c = b) ∨ (op = .neq ∧ c = !b)) := by
  intro b K h
  unfold eqV at h
  split at h
  ·exact ⟨_, h, .inl ⟨rfl, rfl⟩⟩
  ·exact ⟨_, h, .inr ⟨rfl, rfl⟩⟩
  ·cases h
 unfold nilEqV at h
 split at h
 ·rename_i e ht
  have hu : P.underlying ty = some (.slice e) := hT.1 ty _ ht
  split at h
  ·rename_i hny
   split at h
   ·rename_i hnx
    obtain ⟨c, hK, hc⟩ := hev h
    refine ⟨_, _, hK, ok2 hx hy fun E B w nb a h1 h2 => ⟨_, ?_, held_lit _⟩⟩
    have e1 := nil_lit hnx h1
    have e2 := nil_lit hny h2
    have h3 := sl_eq_run (P := P) (op := op) hu (A := none) (n := 0) (c := 0) x y w (hc.imp And.left And.left)
    unfold execOp
    simp only [ho]
    rw [Sem.run_bind, e1, e2, h3]
    rcases hc with ⟨rfl, rfl⟩ | ⟨rfl, rfl⟩ <;> rfl
   ·obtain ⟨rb, hK, hv⟩ := notNil_of h
    obtain ⟨c, hK, hc⟩ := hev hK
    refine ⟨_, _, hK, okPure fun X E F a w hs hag => ⟨_, ?_, held_lit _⟩⟩
    obtain ⟨g, n, c', e1⟩ := hv X E F a w hs hag.2.1 (ag1 hag hx)
    have e2 := nil_lit hny (ev_held hs (ag1 hag hy))
    have h3 := sl_eq_run (P := P) (op := op) hu (A := some g) (n := n) (c := c') x y w (hc.imp And.left And.left)
    unfold execOp
    simp only [ho]
    rw [Sem.run_bind, e1, e2, h3]
    rcases hc with ⟨rfl, rfl⟩ | ⟨rfl, rfl⟩ <;> rfl
  ·cases h
 ·cases h
end
end Go.Proofs.YtkoeddgbhohggaaGreatDoor.E
end
section
namespace Go.Proofs.YtkoeddgbhohggaaGreatDoor.E
open Go.RowKit Go.Proofs.YtkoeddgbhohggaaGreatDoorW.PrintWords Go.Proofs.YtkoeddgbhohggaaGreatDoorW.PrintLast
set_option linter.unusedVariables false
set_option linter.unusedSimpArgs false
noncomputable def exV {R : Type} (b : Bool) (as : List AV) (K : AV → Option R) : Option R := match as with
 | [x, y, c] => (match asI x, asI y, asI c with
  | some (.u64, x), some (.u64, y), some (.u64, c) => if c ≤ 1 then K (.tup ((exP b x y c).map .lit)) else none
  | _, _, _ => none)
 | _ => none
noncomputable def opV {R : Type} (T : TT) (S : FuncId → Option (Spec R)) (st : St) (id : Nat) (o : Oper) (K : AV → List (Nat × Blk) → List Nat → Option R) : Option R := match o.op with
 | .move x => K (ev st x) [] []
 | .assign x => K (ev st x) [] []
 | .pick c x y => onB (ev st c) (K (ev st x) [] []) (K (ev st y) [] [])
 | .binOp op ty x y _ => (match look ty T.und with
  | some (.slice _) => nilEqV T st op ty (ev st x) (ev st y) fun v rb => K v [] rb
  | _ => binV T op ty (ev st x) (ev st y) fun v => K v [] [])
 | .makeMap t none => mkmV T st id t fun v b => K v [(id, b)] []
 | .lookup t x y false => lookV T st t (ev st x) (ev st y) fun v rb => K v [] rb
 | .mapUpdate t x y z => updV T st t (ev st x) (ev st y) (ev st z) fun i b => K (.lit undef) [(i, b)] []
 | .unOp op _ x => unV op (ev st x) fun v => K v [] []
 | .convert s d x => textV T st s d (ev st x) fun v rb => K v [] rb
 | .extract x i => extV (ev st x) i fun v => K v [] []
 | .field ty x f => fieldV T ty (ev st x) f fun v => K v [] []
 | .nilCheck x => nilV (ev st x) fun v => K v [] []
 | .fieldAddr s x f => faV T s (ev st x) f fun v => K v [] []
 | .indexAddr t x y => iaV T st t (ev st x) (ev st y) (litOf y) fun v rb => K v [] rb
 | .index t x y => ix2V T t (ev st x) (ev st y) (litOf y) fun v => K v [] []
 | .load t x => loadV T st t (ev st x) fun v rb => K v [] rb
 | .store t x y => storeV T st t (ev st x) (ev st y) fun i b => K (.lit undef) [(i, b)] []
 | .alloc e => allocV T st id e fun v b => K v [(id, b)] []
 | .box e x => boxV st id e (ev st x) fun v b => K v [(id, b)] []
 | .makeSlice t n m => mkV T st id t (ev st n) (ev st m) (same n m) fun v b => K v [(id, b)] []
 | .slice t x lo hi mx => cut2V T t (ev st x) (lo.map (ev st)) (hi.map (ev st)) (mx.map (ev st)) fun v => K v [] []
 | .buildSlice t len parts => bslV T st id t len (parts.toList.map fun p => (p.1, ev st p.2)) fun v b => K v [(id, b)] []
 | .build t parts => bldV T t (parts.toList.map fun p => (p.1, ev st p.2)) fun v => K v [] []
 | .call { callee := .builtin .len, args, argTypes } => (match args.toList, argTypes.toList with
  | [x], [t] => lenV T st t (ev st x) fun v rb => K v [] rb
  | _, _ => none)
 | .call { callee := .builtin .append, args, argTypes } => (match args.toList, argTypes.toList with
  | [s, x], [t, t'] => appV T st id t t' (ev st s) (ev st x) K
  | _, _ => none)
 | .call { callee := .builtin .copy, args, argTypes } => (match args.toList, argTypes.toList with
  | [x, y], [t, _] => copyV T st t (ev st x) (ev st y) K
  | _, _ => none)
 | .call { callee := .builtin .max, args, argTypes := _ } => (match args.toList with
  | [x, y] => mmV true (ev st x) (ev st y) fun v => K v [] []
  | _ => none)
 | .call { callee := .builtin .min, args, argTypes := _ } => (match args.toList with
  | [x, y] => mmV false (ev st x) (ev st y) fun v => K v [] []
  | _ => none)
 | .call { callee := .value (.func f), args, argTypes := _ } => (match look f T.ext with
  | some b => exV b (args.toList.map (ev st)) fun v => K v [] []
  | none => callZ st id S f (args.toList.map (ev st)) K)
 | .call { callee := .value x, args, argTypes := _ } => (match fnOf (ev st x) with
  | some (f, caps) => callZ st id S f (args.toList.map (ev st) ++ caps) K
  | none => none)
 | .makeFunc (.func f) first captured => (match first.toList with
  | [] => K (.clo f (captured.toList.map (ev st))) [] []
  | _ :: _ => none)
 | _ => none
section
variable {P : Program} {T : TT} {X : Cx} {E E' : En} {F : FS} {a : Act} {w w' : World} {st : St} {o : Oper} {u : Upd} {R : Type} {r : R} {B B' : Nat → Option Blk} {nb nb' : Nat → Prop} {v : Value} {av : AV} {W : World} {S : FuncId → Option (Spec R)}
theorem same_eq {x y : Operand} (h : same x y = true) : x = y := by
 unfold same at h
 split at h
 ·rw [Nat.eq_of_beq_eq_true h]
 ·cases h
theorem arr_of {α : Type} {l : Array α} {xs : List α} (h : l.toList = xs) : l = xs.toArray := by rw [← h]
theorem ex_ok {f : FuncId} {b : Bool} (hX : ExOk P f b) {args : Array Operand} {ts : Array TypeId} (ho : o.op = .call { callee := .value (.func f), args := args, argTypes := ts }) {K : AV → Option R} (h : exV b (args.toList.map (ev st)) K = some r) : ∃ av, K av = some r ∧ OpOk P o st ⟨av, [], []⟩ := by
 have hm : ∀ x ∈ args.toList, x ∈ o.op.operands.toList := fun x hx => by simp [ho, Op.operands, Call.operands]; exact .inr (by simpa using hx)
 unfold exV at h
 split at h
 ·rename_i x y c hl
  split at h
  ·rename_i x' y' c' hx hy hc
   split at h
   ·rename_i h1
    obtain ⟨l, hl'⟩ : ∃ l, args.toList = l := ⟨_, rfl⟩
    rw [hl'] at hl
    match l, hl, hl' with
    | [u, v, z], hl, hl' =>
     simp only [List.map_cons, List.map_nil, List.cons.injEq] at hl
     obtain ⟨e1, e2, e3, _⟩ := hl
     refine ⟨_, h, okPure fun X E F a w hs hag => ⟨.tuple (exP b x' y' c').toArray, ?_, held_tup (heldL_lits _)⟩⟩
     have hu := asI_of (e1 ▸ hx) (ev_held hs (ag1 hag (hm u (by rw [hl']; simp))))
     have hv := asI_of (e2 ▸ hy) (ev_held hs (ag1 hag (hm v (by rw [hl']; simp))))
     have hz := asI_of (e3 ▸ hc) (ev_held hs (ag1 hag (hm z (by rw [hl']; simp))))
     have ha : args = #[u, v, z] := by rw [← hl']
     have hr := hX x' y' c' h1 w
     subst ha
     simp only [execOp, ho, resolve, Deferred.ofValue, invoke] at *
     simp [Act.eval, Deferred.ofValue, invoke]
     simp [Act.eval] at hu hv hz
     simpa [hu, hv, hz] using hr
    | [], hl, _ => simp at hl
    | [_], hl, _ => simp at hl
    | [_, _], hl, _ => simp at hl
    | _ :: _ :: _ :: _ :: _, hl, _ => simp at hl
   ·cases h
  ·cases h
 ·cases h
theorem list_of_each {w : World} : ∀ {as : List AV} {us : List Value}, HeldEach E B w nb as us → HeldL E B w nb as us
 | [], [], _ => heldL_nil
 | [], _ :: _, h => (h : False).elim
 | _ :: _, [], h => (h : False).elim
 | a :: as, u :: us, h => heldL_cons h.1 (list_of_each h.2)
theorem clo_ok {f : FuncId} {cap : Array Operand} (ho : o.op = .makeFunc (.func f) #[] cap) : OpOk P o st ⟨.clo f (cap.toList.map (ev st)), [], []⟩ := by
 refine okPure fun X E F a w hs hag => ⟨.func (.func f) #[] (cap.toList.map a.eval).toArray, ?_, held_clo (list_of_each (each_of hs fun s hx => hag.1 s (by rw [ho]; simpa [Op.operands] using hx)))⟩
 have e : (cap.toList.map a.eval).toArray = cap.map a.eval := by cases cap; simp
 rw [e]
 simp [execOp, ho, Instr.makeFunc]
theorem opV_ok (hT : T.ok P) (hS : ∀ f s, S f = some s → s.ok P f) {id : Nat} {K : AV → List (Nat × Blk) → List Nat → Option R} (h : opV T S st id o K = some r) : ∃ av bs rb, K av bs rb = some r ∧ OpOk P o st ⟨av, bs, rb⟩ := by
 unfold opV at h
 split at h
 ·rename_i x ho; exact ⟨_, _, _, h, move_ok (.inl ho)⟩
 ·rename_i x ho; exact ⟨_, _, _, h, move_ok (.inr ho)⟩
 ·rename_i c x y ho
  obtain ⟨b, h1, h2⟩ := onB_of h
  refine ⟨ev st (if b = true then x else y), _, _, ?_, pick_ok ho h1⟩
  cases b <;> exact h2
 ·rename_i op ty x y ty' ho
  split at h
  ·obtain ⟨av, rb, h1, h2⟩ := nilEq_ok hT ho h; exact ⟨av, _, _, h1, h2⟩
  ·obtain ⟨av, h1, h2⟩ := bin_ok hT ho h; exact ⟨av, _, _, h1, h2⟩
 ·rename_i t ho; obtain ⟨av, b, h1, h2⟩ := mkm_ok hT ho h; exact ⟨_, _, _, h1, h2⟩
 ·rename_i t x y ho; obtain ⟨av, rb, h1, h2⟩ := look_ok hT ho h; exact ⟨av, _, _, h1, h2⟩
 ·rename_i t x y z ho; obtain ⟨i, b, h1, h2⟩ := upd_ok hT ho h; exact ⟨_, _, _, h1, h2⟩
 ·rename_i op ty x ho; obtain ⟨av, h1, h2⟩ := un_ok ho h; exact ⟨av, _, _, h1, h2⟩
 ·rename_i s d x ho; obtain ⟨av, rb, h1, h2⟩ := text_ok hT ho h; exact ⟨av, _, _, h1, h2⟩
 ·rename_i x i ho; obtain ⟨av, h1, h2⟩ := ext_ok ho h; exact ⟨av, _, _, h1, h2⟩
 ·rename_i ty x f ho; obtain ⟨av, h1, h2⟩ := field_ok hT ho h; exact ⟨av, _, _, h1, h2⟩
 ·rename_i x ho; obtain ⟨av, h1, h2⟩ := nil_ok ho h; exact ⟨av, _, _, h1, h2⟩
 ·rename_i s x f ho; obtain ⟨av, h1, h2⟩ := fa_ok hT ho h; exact ⟨av, _, _, h1, h2⟩
 ·rename_i t x y ho; obtain ⟨av, rb, h1, h2⟩ := ia_ok hT ho h; exact ⟨av, _, _, h1, h2⟩
 ·rename_i t x y ho; obtain ⟨av, h1, h2⟩ := ix2_ok hT ho h; exact ⟨av, _, _, h1, h2⟩
 ·rename_i t x ho; obtain ⟨av, rb, h1, h2⟩ := load_ok hT ho h; exact ⟨av, _, _, h1, h2⟩
 ·rename_i t x y ho; obtain ⟨i, b, h1, h2⟩ := store_ok hT ho h; exact ⟨_, _, _, h1, h2⟩
 ·rename_i e ho; obtain ⟨av, b, h1, h2⟩ := alloc_ok hT ho h; exact ⟨_, _, _, h1, h2⟩
 ·rename_i e x ho; obtain ⟨av, b, h1, h2⟩ := box_ok ho h; exact ⟨_, _, _, h1, h2⟩
 ·rename_i t n m ho; obtain ⟨av, b, h1, h2⟩ := mk_ok hT ho same_eq h; exact ⟨_, _, _, h1, h2⟩
 ·rename_i t x lo hi mx ho; obtain ⟨av, h1, h2⟩ := cut2_ok hT ho h; exact ⟨av, _, _, h1, h2⟩
 ·rename_i t len parts ho; obtain ⟨av, b, h1, h2⟩ := bsl_ok hT ho h; exact ⟨_, _, _, h1, h2⟩
 ·rename_i t parts ho; obtain ⟨av, h1, h2⟩ := bld_ok hT ho h; exact ⟨av, _, _, h1, h2⟩
 ·rename_i as ts ho
  split at h
  ·rename_i x t h1 h2
   have e1 := arr_of h1
   have e2 := arr_of h2
   subst e1; subst e2
   obtain ⟨av, rb, h3, h4⟩ := len_ok hT ho h; exact ⟨av, _, _, h3, h4⟩
  ·cases h
 ·rename_i as ts ho
  split at h
  ·rename_i s x t t' h1 h2
   have e1 := arr_of h1
   have e2 := arr_of h2
   subst e1; subst e2
   exact app_ok hT ho h
  ·cases h
 ·rename_i as ts ho
  split at h
  ·rename_i x y t t' h1 h2
   have e1 := arr_of h1
   have e2 := arr_of h2
   subst e1; subst e2
   exact copy_ok hT ho h
  ·cases h
 ·rename_i as ts ho
  split at h
  ·rename_i x y h1
   have e1 := arr_of h1
   subst e1
   obtain ⟨av, h3, h4⟩ := mm_ok (mx := true) ho h
   exact ⟨av, _, _, h3, h4⟩
  ·cases h
 ·rename_i as ts ho
  split at h
  ·rename_i x y h1
   have e1 := arr_of h1
   subst e1
   obtain ⟨av, h3, h4⟩ := mm_ok (mx := false) ho h
   exact ⟨av, _, _, h3, h4⟩
  ·cases h
 ·rename_i f as ts ho
  split at h
  ·rename_i b hb
   obtain ⟨av, h1, h2⟩ := ex_ok (hT.3 f b hb) ho h
   exact ⟨av, _, _, h1, h2⟩
  ·refine callZ_ok (x := .func f) (caps := []) (id := id) hS ho rfl ?_
   rw [List.append_nil]; exact h
 ·rename_i x as ts _ ho
  split at h
  ·rename_i f caps hx
   exact callZ_ok hS ho hx h
  ·cases h
 ·rename_i f fst cap ho
  split at h
  ·rename_i hf
   have hf := arr_of hf
   subst hf
   exact ⟨_, _, _, h, clo_ok ho⟩
  ·cases h
 ·cases h
end
def St.app (st : St) (dst : Option Tmp) (u : Upd) : St := ⟨match dst with
 | some t => (t, u.v) :: st.sl
 | none => st.sl, u.bs ++ st.bl, st.nx⟩
theorem app_fs (st : St) (dst : Option Tmp) (u : Upd) : (st.app dst u).fs = st.fs.upd dst u := by
 unfold St.app St.fs FS.upd
 simp only [FS.mk.injEq]
 refine ⟨?_, funext fun i => ?_⟩
 ·cases dst with
  | none => rfl
  | some t =>
   refine funext fun s => ?_
   show (match look s ((t, u.v) :: st.sl) with | some a => a | none => .any) = if s = t then u.v else st.get s
   by_cases h : s = t
   ·subst h; simp [look]
   ·have : Nat.beq s t = false := by cases hb : Nat.beq s t with
     | false => rfl
     | true => exact absurd (Nat.eq_of_beq_eq_true hb) h
    simp only [look, this, if_neg h]
    rfl
 ·show look i (u.bs ++ st.bl) = _
  rw [look_append]
  cases look i u.bs <;> rfl
def guardV {R : Type} (ops : Array Oper) (st : St) (o : Oper) (K : Bool → Option R) : Option R := match o.guard with
 | none => K true
 | some (g, u) => (match (ops.toList)[g]? with
  | some og => (match og.dst with
   | some t => (match st.get t with
    | .lit (.tuple _) => K false
    | v => onB v (K u) (K (!u)))
   | none => none)
  | none => none)
def guardS (ops : Array Oper) (o : Oper) : List Nat := match o.guard with
 | none => []
 | some (g, _) => (match (ops.toList)[g]? with
  | some og => og.dst.toList
  | none => [])
def GuardOk (ops : Array Oper) (st : St) (o : Oper) (on : Bool) : Prop := ∀ (X : Cx) (F : FS) (a : Act) (w : World), Sim X F a w → (∀ s ∈ guardS ops o, F.sl s = st.get s ∧ s < X.N) → Region.wanted o (yielded ops a.tmps) = on
section
variable {P : Program} {T : TT} {X : Cx} {E E' : En} {F : FS} {a : Act} {w w' : World} {st : St} {o : Oper} {u : Upd} {R : Type} {r : R} {S : FuncId → Option (Spec R)} {ops : Array Oper} {Q : Exit → Act → World → Prop}
theorem guard_ok {K : Bool → Option R} (h : guardV ops st o K = some r) : ∃ on, K on = some r ∧ GuardOk ops st o on := by
 unfold guardV at h
 split at h
 ·rename_i hg
  exact ⟨true, h, fun X F a w _ _ => by simp [Region.wanted, hg]⟩
 ·rename_i g u hg
  split at h
  ·rename_i og hog
   split at h
   ·rename_i t hd
    have hog' : ops[g]? = some og := by simpa using hog
    have hsl : guardS ops o = [t] := by simp [guardS, hg, hog', hd]
    have hv : ∀ (X : Cx) (F : FS) (a : Act) (w : World), Sim X F a w → (∀ s ∈ guardS ops o, F.sl s = st.get s ∧ s < X.N) → ∃ E v, a.tmps[t]? = some v ∧ Held E F.B w (NB X.okk E F.B) (st.get t) v := by
     rintro X F a w ⟨E, hs⟩ hag
     obtain ⟨h1, h2⟩ := hag t (by rw [hsl]; simp)
     obtain ⟨v, h3, h4⟩ := hs.slot t h2
     rw [h1] at h4
     exact ⟨E, v, h3, h4⟩
    split at h
    ·rename_i vs hl
     refine ⟨false, h, fun X F a w hs hag => ?_⟩
     obtain ⟨E, v, h3, h4⟩ := hv X F a w hs hag
     rw [hl] at h4
     rw [lit_of h4] at h3
     simp [Region.wanted, hg, yielded, hog', hd, h3]
    ·obtain ⟨b, h1, h2⟩ := onB_of h
     refine ⟨if b = true then u else !u, by cases b <;> exact h2, fun X F a w hs hag => ?_⟩
     obtain ⟨E, v, h3, h4⟩ := hv X F a w hs hag
     rw [asB_of h1 h4] at h3
     cases b <;> cases u <;> simp [Region.wanted, hg, yielded, hog', hd, h3]
   ·cases h
  ·cases h
def guards (ops : Array Oper) : List Oper → List Nat
 | [] => []
 | o :: r => guardS ops o ++ guards ops r
def known {R : Type} (g : Bool) (av : AV) (K : AV → Option R) : Option R := match g with
 | true => (match av with
  | .bp p i => @ite _ p i (K (.lit (.bool true))) (K (.lit (.bool false)))
  | .bn p i => @ite _ p i (K (.lit (.bool false))) (K (.lit (.bool true)))
  | .lit (.bool b) => if b = true then K (.lit (.bool true)) else K (.lit (.bool false))
  | a => K a)
 | false => K av
def isG (gs : List Nat) : Option Tmp → Bool
 | some t => gs.any (Nat.beq t)
 | none => false
theorem known_of {R : Type} {g : Bool} {av : AV} {K : AV → Option R} {r : R} (h : known g av K = some r) : ∃ av', K av' = some r ∧ ∀ (E : En) (B : Nat → Option Blk) (W : World) (v : Value), Den E B W av v → Den E B W av' v := by
 unfold known at h
 split at h
 ·split at h
  ·rename_i p i
   by_cases hp : p
   ·rw [if_pos hp] at h
    refine ⟨_, h, fun E B W v hd => ?_⟩
    unfold Den at hd ⊢
    rw [hd, decide_eq_true hp]
   ·rw [if_neg hp] at h
    refine ⟨_, h, fun E B W v hd => ?_⟩
    unfold Den at hd ⊢
    rw [hd, decide_eq_false hp]
  ·rename_i p i
   by_cases hp : p
   ·rw [if_pos hp] at h
    refine ⟨_, h, fun E B W v hd => ?_⟩
    unfold Den at hd ⊢
    rw [hd, decide_eq_true hp]; rfl
   ·rw [if_neg hp] at h
    refine ⟨_, h, fun E B W v hd => ?_⟩
    unfold Den at hd ⊢
    rw [hd, decide_eq_false hp]; rfl
  ·rename_i b
   by_cases hb : b = true
   ·rw [if_pos hb] at h
    subst hb
    exact ⟨_, h, fun _ _ _ _ hd => hd⟩
   ·rw [if_neg hb] at h
    have hb : b = false := by simpa using hb
    subst hb
    exact ⟨_, h, fun _ _ _ _ hd => hd⟩
  ·exact ⟨_, h, fun _ _ _ _ hd => hd⟩
 ·exact ⟨_, h, fun _ _ _ _ hd => hd⟩
theorem sim_den {F F' : FS} (h : Sim X F a w) (hB : F'.B = F.B) (hd : ∀ t (E : En) (W : World) (v : Value), Den E F.B W (F.sl t) v → Den E F.B W (F'.sl t) v) : Sim X F' a w := by
 obtain ⟨E, hs⟩ := h
 refine ⟨E, hs.size, hs.nod, hs.new, hs.gl, hs.fr, fun t ht => ?_, by rw [hB]; exact hs.blk, by rw [hB]; exact hs.own, by rw [hB]; exact hs.inj, hs.pin⟩
 obtain ⟨v, h1, h2⟩ := hs.slot t ht
 rw [hB]
 exact ⟨v, h1, fun W' hW => hd t E W' v (h2 W' hW)⟩
theorem OpOk.known {av av' : AV} {bs : List (Nat × Blk)} {rb : List Nat} (h : OpOk P o st ⟨av, bs, rb⟩) (hd : ∀ (E : En) (B : Nat → Option Blk) (W : World) (v : Value), Den E B W av v → Den E B W av' v) : OpOk P o st ⟨av', bs, rb⟩ := by
 intro X F a w hs hag K Q hK
 refine h X F a w hs hag K Q fun a' w' hs' => hK a' w' (sim_den hs' rfl fun t E W v hv => ?_)
 cases hdst : o.dst with
 | none => rw [hdst] at hv; exact hv
 | some t' =>
  rw [hdst] at hv
  simp only [FS.upd] at hv ⊢
  by_cases htt : t = t'
  ·rw [if_pos htt] at hv ⊢; exact hd E _ W v hv
  ·rw [if_neg htt] at hv ⊢; exact hv
noncomputable def runOps (T : TT) (S : FuncId → Option (Spec R)) (ops : Array Oper) (gs : List Nat) : List Oper → Nat → St → List (Oper × Upd) → (St → List (Oper × Upd) → Option R) → Option R
 | [], _, st, tr, K => K st tr
 | o :: rest, j, st, tr, K => guardV ops st o fun on => match on with
  | true => opV T S st j o fun av bs rb => known (isG gs o.dst) av fun av => runOps T S ops gs rest (j + 1) (st.app o.dst ⟨av, bs, rb⟩) ((o, ⟨av, bs, rb⟩) :: tr) K
  | false => runOps T S ops gs rest (j + 1) (st.app o.dst ⟨.lit undef, [], []⟩) ((o, ⟨.lit undef, [], []⟩) :: tr) K
def Tr (P : Program) (ops : Array Oper) : List Oper → St → List (Oper × Upd) → St → Prop
 | [], st, l, st' => l = [] ∧ st = st'
 | o :: rest, st, l, st' => ∃ u l' on, l = (o, u) :: l' ∧ GuardOk ops st o on ∧ (on = true → OpOk P o st u) ∧ (on = false → u = ⟨.lit undef, [], []⟩) ∧ Tr P ops rest (st.app o.dst u) l' st'
theorem run_tr (hT : T.ok P) (hS : ∀ f s, S f = some s → s.ok P f) : ∀ (l : List Oper) (j : Nat) (st : St) (tr : List (Oper × Upd)) {gs : List Nat} {K : St → List (Oper × Upd) → Option R}, runOps T S ops gs l j st tr K = some r → ∃ l' st', K st' (l'.reverse ++ tr) = some r ∧ Tr P ops l st l' st'
 | [], j, st, tr, gs, K, h => ⟨[], st, h, rfl, rfl⟩
 | o :: rest, j, st, tr, gs, K, h => by
  unfold runOps at h
  obtain ⟨on, h1, h2⟩ := guard_ok h
  cases on with
  | true =>
   obtain ⟨av0, bs, rb, h30, h40⟩ := opV_ok hT hS h1
   obtain ⟨av, h3, hd⟩ := known_of h30
   have h4 := h40.known hd
   obtain ⟨l', st', h5, h6⟩ := run_tr hT hS rest _ _ _ h3
   exact ⟨(o, ⟨av, bs, rb⟩) :: l', st', by simpa using h5, _, l', true, rfl, h2, fun _ => h4, (fun h => by cases h), h6⟩
  | false =>
   obtain ⟨l', st', h5, h6⟩ := run_tr hT hS rest _ _ _ h1
   exact ⟨(o, ⟨.lit undef, [], []⟩) :: l', st', by simpa using h5, _, l', false, rfl, h2, (fun h => by cases h), fun _ => rfl, h6⟩
def within (N : Nat) (p : Option Nat) (ops : Array Oper) (o : Oper) : Bool := (match o.dst, p with
 | some t, some s => !(Nat.beq s t)
 | _, _ => true) && ((o.op.operands.toList.all fun x => match x with
 | .tmp s => Nat.blt s N
 | _ => true) && (guardS ops o).all fun s => Nat.blt s N)
theorem within_of {N : Nat} {p : Option Nat} (h : within N p ops o = true) : (∀ s, Operand.tmp s ∈ o.op.operands.toList → s < N) ∧ (∀ s ∈ guardS ops o, s < N) ∧ ∀ t, o.dst = some t → ∀ s, p = some s → s ≠ t := by
 unfold within at h
 rw [Bool.and_eq_true, Bool.and_eq_true, List.all_eq_true, List.all_eq_true] at h
 refine ⟨fun s hs => Nat.le_of_ble_eq_true (h.2.1 _ hs), fun s hs => Nat.le_of_ble_eq_true (h.2.2 _ hs), fun t ht s hs he => ?_⟩
 have h1 := h.1
 rw [ht, hs, he] at h1
 simp at h1
theorem sim_off (h : Sim X F a w) (hp : ∀ t, o.dst = some t → ∀ s v, X.pin = some (s, v) → s ≠ t) : Sim X (F.upd o.dst ⟨.lit undef, [], []⟩) (a.put o.dst undef) w := by
 obtain ⟨E, hs⟩ := h
 exact fin (u := ⟨.lit undef, [], []⟩) hs rfl (fun _ => rfl) (held_lit _) hp
theorem agree_self {st : St} {N : Nat} {p : Option Nat} (hN : X.N = N) (hp : X.pin.map Prod.fst = p) (hw : within N p ops o = true) : Agree X st.fs st o u ∧ ∀ s ∈ guardS ops o, st.fs.sl s = st.get s ∧ s < X.N :=
 ⟨⟨fun s hs => ⟨rfl, by rw [hN]; exact (within_of hw).1 s hs⟩, fun _ _ => rfl, fun _ _ => rfl, fun t ht s v hv => (within_of hw).2.2 t ht s (by rw [← hp, hv]; rfl)⟩, fun s hs => ⟨rfl, by rw [hN]; exact (within_of hw).2.1 s hs⟩⟩
theorem seq_tr {N : Nat} {p : Option Nat} (hN : X.N = N) (hp : X.pin.map Prod.fst = p) : ∀ (l : List Oper) (st st' : St) (l' : List (Oper × Upd)) (a : Act) (w : World), l.all (within N p ops) = true → Tr P ops l st l' st' → Sim X st.fs a w → (∀ a w, Sim X st'.fs a w → Q .normal a w) → wpList P ops Q l a w
 | [], st, st', l', a, w, _, h, hs, hQ => by
  obtain ⟨_, rfl⟩ := h
  exact hQ a w hs
 | o :: rest, st, st', l', a, w, hw, h, hs, hQ => by
  obtain ⟨u, l2, on, rfl, hg, hon, hoff, hr⟩ := h
  rw [List.all_cons, Bool.and_eq_true] at hw
  obtain ⟨hag, hags⟩ := agree_self (st := st) (u := u) hN hp hw.1
  have hwant := hg X st.fs a w hs hags
  have key : ∀ a' w', Sim X (st.fs.upd o.dst u) a' w' → wpList P ops Q rest a' w' := fun a' w' h' => seq_tr hN hp rest _ st' l2 a' w' hw.2 hr (by rw [app_fs]; exact h') hQ
  refine wpList_step fun K hK => ?_
  cases on with
  | true =>
   rw [hwant, if_pos rfl]
   exact hon rfl X st.fs a w hs hag K Q fun a' w' h' => hK _ _ (key a' w' h')
  | false =>
   rw [hwant, if_neg (by simp)]
   have hu := hoff rfl
   subst hu
   exact hK _ _ (key _ _ (sim_off hs hag.2.2.2))
end
def meets (l l' : List Nat) : Bool := l.any fun x => l'.any (Nat.beq x)
def tmpsR (ops : Array Oper) (o : Oper) : List Nat := guardS ops o ++ o.op.operands.toList.filterMap fun x => match x with
 | .tmp s => some s
 | _ => none
def clash (ops : Array Oper) (x y : Oper × Upd) : Bool :=
 meets x.1.dst.toList (y.1.dst.toList ++ tmpsR ops y.1) || meets (tmpsR ops x.1) y.1.dst.toList || meets (x.2.bs.map Prod.fst) (y.2.rb ++ y.2.bs.map Prod.fst) || meets x.2.rb (y.2.bs.map Prod.fst)
def apart (ops : Array Oper) (B : List Nat) : List (Nat × Oper × Upd) → Nat → List (Oper × Upd) → Bool
 | _, _, [] => true
 | prev, j, x :: rest => match prev.all fun p => !(clash ops p.2 x) || (B.getD j 0).testBit p.1 with
  | true => apart ops B ((j, x) :: prev) (j + 1) rest
  | false => false
theorem meets_of {l l' : List Nat} {x : Nat} (h : x ∈ l) (h' : x ∈ l') : meets l l' = true := List.any_eq_true.2 ⟨x, h, List.any_eq_true.2 ⟨x, h', Nat.beq_refl x⟩⟩
section
variable {P : Program} {T : TT} {X : Cx} {E E' : En} {F F' : FS} {a : Act} {w w' : World} {st : St} {o : Oper} {u : Upd} {R : Type} {r : R} {S : FuncId → Option (Spec R)} {ops : Array Oper} {Q : Exit → Act → World → Prop} {B : List Nat}
theorem apart_of : ∀ (l : List (Oper × Upd)) (prev : List (Nat × Oper × Upd)) (j : Nat), apart ops B prev j l = true → (∀ p ∈ prev, ∀ i x, l[i]? = some x → clash ops p.2 x = true → (B.getD (j + i) 0).testBit p.1 = true) ∧ ∀ i k x y, i < k → l[i]? = some x → l[k]? = some y → clash ops x y = true → (B.getD (j + k) 0).testBit (j + i) = true
 | [], prev, j, _ => ⟨fun p hp i x h => by simp at h, fun i k x y _ h => by simp at h⟩
 | z :: l, prev, j, h => by
  unfold apart at h
  split at h
  ·rename_i h1
   obtain ⟨h2, h3⟩ := apart_of l _ _ h
   rw [List.all_eq_true] at h1
   refine ⟨fun p hp i x hx hc => ?_, fun i k x y hik hx hy hc => ?_⟩
   ·cases i with
    | zero =>
     simp only [List.getElem?_cons_zero, Option.some.injEq] at hx
     subst hx
     have := h1 p hp
     rw [hc] at this
     simpa using this
    | succ i =>
     simp only [List.getElem?_cons_succ] at hx
     have := h2 p (List.mem_cons_of_mem _ hp) i x hx hc
     rwa [Nat.add_assoc, Nat.add_comm 1 i] at this
   ·cases k with
    | zero => omega
    | succ k =>
     simp only [List.getElem?_cons_succ] at hy
     cases i with
     | zero =>
      simp only [List.getElem?_cons_zero, Option.some.injEq] at hx
      subst hx
      have := h2 (j, z) List.mem_cons_self k y hy hc
      rwa [Nat.add_assoc, Nat.add_comm 1 k] at this
     | succ i =>
      simp only [List.getElem?_cons_succ] at hx
      have := h3 i k x y (by omega) hx hy hc
      rwa [Nat.add_assoc, Nat.add_assoc, Nat.add_comm 1 k, Nat.add_comm 1 i] at this
  ·cases h
def stF (b : Nat → Bool) : Nat → List (Oper × Upd) → FS → FS
 | _, [], F => F
 | k, x :: l, F => stF b (k + 1) l (if b k = true then F.upd x.1.dst x.2 else F)
theorem stF_sl {b : Nat → Bool} {s : Nat} : ∀ (l : List (Oper × Upd)) (k : Nat) (F : FS), (stF b k l F).sl s = (l.zipIdx k).foldl (fun v p => if b p.2 = true then (if p.1.1.dst = some s then p.1.2.v else v) else v) (F.sl s)
 | [], k, F => rfl
 | x :: l, k, F => by
  unfold stF
  rw [stF_sl l (k + 1), List.zipIdx_cons, List.foldl_cons]
  congr 1
  by_cases hb : b k = true
  ·simp only [hb, if_true]
   unfold FS.upd
   cases hd : x.1.dst with
   | none => simp
   | some t =>
    by_cases hs : s = t
    ·simp [hs]
    ·have : ¬ t = s := fun e => hs e.symm
     simp [hs, this]
  ·simp [hb]
theorem stF_B {b : Nat → Bool} {i : Nat} : ∀ (l : List (Oper × Upd)) (k : Nat) (F : FS), (stF b k l F).B i = (l.zipIdx k).foldl (fun v p => if b p.2 = true then (match look i p.1.2.bs with | some x => some x | none => v) else v) (F.B i)
 | [], k, F => rfl
 | x :: l, k, F => by
  unfold stF
  rw [stF_B l (k + 1), List.zipIdx_cons, List.foldl_cons]
  congr 1
  by_cases hb : b k = true
  ·simp only [hb, if_true]; rfl
  ·simp [hb]
theorem foldl_same {α β : Type} {f g : β → α → β} : ∀ (l : List α) (v : β), (∀ x ∈ l, ∀ v, f v x = g v x) → l.foldl f v = l.foldl g v
 | [], v, _ => rfl
 | x :: l, v, h => by
  rw [List.foldl_cons, List.foldl_cons, h x List.mem_cons_self]
  exact foldl_same l _ fun y hy => h y (List.mem_cons_of_mem _ hy)
theorem zip_mem {α : Type} {l : List α} {p : α × Nat} (h : p ∈ l.zipIdx) : l[p.2]? = some p.1 := by
 obtain ⟨x, i⟩ := p
 simpa using List.mem_zipIdx_iff_getElem?.1 h
def pre (l : List (Oper × Upd)) (j : Nat) (F : FS) : FS := stF (fun i => decide (i < j)) 0 l F
theorem sl_agree {b : Nat → Bool} {l : List (Oper × Upd)} {j s : Nat} (h1 : ∀ i x, l[i]? = some x → x.1.dst = some s → i < j → b i = true) (h2 : ∀ i x, l[i]? = some x → x.1.dst = some s → ¬ i < j → b i = false) : (stF b 0 l F).sl s = (pre l j F).sl s := by
 unfold pre
 rw [stF_sl, stF_sl]
 refine foldl_same _ _ fun p hp v => ?_
 by_cases hd : p.1.1.dst = some s
 ·by_cases hj : p.2 < j
  ·rw [h1 _ _ (zip_mem hp) hd hj]; simp [hj]
  ·rw [h2 _ _ (zip_mem hp) hd hj]; simp [hj]
 ·simp [hd]
theorem look_not {s : Nat} : ∀ (q : List (Nat × Blk)), s ∉ q.map Prod.fst → look s q = none
 | [], _ => rfl
 | (m, x) :: q, hq => by
  have hne : Nat.beq s m = false := by cases hb : Nat.beq s m with
   | false => rfl
   | true => exact absurd (by rw [Nat.eq_of_beq_eq_true hb]; exact List.mem_cons_self) hq
  show (match Nat.beq s m with | true => some x | false => look s q) = none
  rw [hne]
  exact look_not q fun h => hq (List.mem_cons_of_mem _ h)
theorem B_agree {b : Nat → Bool} {l : List (Oper × Upd)} {j s : Nat} (h1 : ∀ i x, l[i]? = some x → s ∈ x.2.bs.map Prod.fst → i < j → b i = true) (h2 : ∀ i x, l[i]? = some x → s ∈ x.2.bs.map Prod.fst → ¬ i < j → b i = false) : (stF b 0 l F).B s = (pre l j F).B s := by
 unfold pre
 rw [stF_B, stF_B]
 refine foldl_same _ _ fun p hp v => ?_
 by_cases hd : s ∈ p.1.2.bs.map Prod.fst
 ·by_cases hj : p.2 < j
  ·rw [h1 _ _ (zip_mem hp) hd hj]; simp [hj]
  ·rw [h2 _ _ (zip_mem hp) hd hj]; simp [hj]
 ·rw [look_not _ hd]; simp
theorem upd_comm {d d' : Option Tmp} {u u' : Upd} (h1 : ∀ s, d = some s → d' ≠ some s) (h2 : ∀ s, s ∈ u.bs.map Prod.fst → s ∉ u'.bs.map Prod.fst) : (F.upd d u).upd d' u' = (F.upd d' u').upd d u := by
 unfold FS.upd
 simp only [FS.mk.injEq]
 refine ⟨?_, funext fun i => ?_⟩
 ·cases d with
  | none => cases d' <;> rfl
  | some t =>
   cases d' with
   | none => rfl
   | some t' =>
    refine funext fun s => ?_
    by_cases hs : s = t
    ·have : ¬ s = t' := fun e => h1 t rfl (by rw [← e, hs])
     simp only [if_pos hs, if_neg this]
    ·simp only [if_neg hs]
 ·by_cases hi : i ∈ u.bs.map Prod.fst
  ·rw [look_not _ (h2 i hi)]
  ·rw [look_not _ hi]
theorem stF_comm {b : Nat → Bool} {x : Oper × Upd} : ∀ (l : List (Oper × Upd)) (k : Nat) (F : FS), (∀ i y s, l[i]? = some y → x.1.dst = some s → y.1.dst = some s → b (k + i) = false) → (∀ i y s, l[i]? = some y → s ∈ x.2.bs.map Prod.fst → s ∈ y.2.bs.map Prod.fst → b (k + i) = false) → stF b k l (F.upd x.1.dst x.2) = (stF b k l F).upd x.1.dst x.2
 | [], k, F, _, _ => rfl
 | y :: l, k, F, h1, h2 => by
  unfold stF
  have ih := fun F => stF_comm (x := x) l (k + 1) F (fun i y s h => by have := h1 (i + 1) y s h; rwa [Nat.add_comm i 1, ← Nat.add_assoc] at this) (fun i y s h => by have := h2 (i + 1) y s h; rwa [Nat.add_comm i 1, ← Nat.add_assoc] at this)
  by_cases hb : b k = true
  ·simp only [hb, if_true]
   rw [upd_comm, ih]
   ·intro s hs hs'
    have := h1 0 y s rfl hs hs'
    rw [Nat.add_zero, hb] at this
    cases this
   ·intro s hs hs'
    have := h2 0 y s rfl hs hs'
    rw [Nat.add_zero, hb] at this
    cases this
  ·simp only [hb, Bool.false_eq_true, if_false]
   exact ih F
theorem stF_cong {b b' : Nat → Bool} : ∀ (l : List (Oper × Upd)) (k : Nat) (F : FS), (∀ i, i < l.length → b (k + i) = b' (k + i)) → stF b k l F = stF b' k l F
 | [], k, F, _ => rfl
 | y :: l, k, F, h => by
  unfold stF
  have h0 := h 0 (by simp)
  rw [Nat.add_zero] at h0
  rw [h0]
  exact stF_cong l (k + 1) _ fun i hi => by have := h (i + 1) (by simp; omega); rwa [Nat.add_comm i 1, ← Nat.add_assoc] at this
theorem stF_upk {b : Nat → Bool} {j : Nat} {x : Oper × Upd} (hbj : b j = false) : ∀ (l : List (Oper × Upd)) (k i0 : Nat) (F : FS), l[i0]? = some x → j = k + i0 → (∀ i y s, l[i]? = some y → i0 < i → x.1.dst = some s → y.1.dst = some s → b (k + i) = false) → (∀ i y s, l[i]? = some y → i0 < i → s ∈ x.2.bs.map Prod.fst → s ∈ y.2.bs.map Prod.fst → b (k + i) = false) → stF (up b j) k l F = (stF b k l F).upd x.1.dst x.2
 | [], k, i0, F, h, _, _, _ => by simp at h
 | y :: l, k, i0, F, h, hj, h1, h2 => by
  cases i0 with
  | zero =>
   simp only [List.getElem?_cons_zero, Option.some.injEq] at h
   subst h
   rw [Nat.add_zero] at hj
   subst hj
   unfold stF
   rw [up_self, if_pos rfl, hbj, if_neg (by simp), stF_cong (b' := b) l (j + 1) _ fun i _ => up_ne (by omega)]
   exact stF_comm l (j + 1) F (fun i y s h => by have := h1 (i + 1) y s h (by omega); rwa [Nat.add_comm i 1, ← Nat.add_assoc] at this) (fun i y s h => by have := h2 (i + 1) y s h (by omega); rwa [Nat.add_comm i 1, ← Nat.add_assoc] at this)
  | succ i0 =>
   simp only [List.getElem?_cons_succ] at h
   unfold stF
   rw [up_ne (show k ≠ j by omega)]
   exact stF_upk hbj l (k + 1) i0 _ h (by omega) (fun i y s h h3 => by have := h1 (i + 1) y s h (by omega); rwa [Nat.add_comm i 1, ← Nat.add_assoc] at this) (fun i y s h h3 => by have := h2 (i + 1) y s h (by omega); rwa [Nat.add_comm i 1, ← Nat.add_assoc] at this)
theorem tr_pre : ∀ (l : List Oper) (st st' : St) (l' : List (Oper × Upd)), Tr P ops l st l' st' → l'.map Prod.fst = l ∧ st'.fs = stF (fun _ => true) 0 l' st.fs ∧ ∀ j x, l'[j]? = some x → ∃ stj on, stj.fs = pre l' j st.fs ∧ GuardOk ops stj x.1 on ∧ (on = true → OpOk P x.1 stj x.2) ∧ (on = false → x.2 = ⟨.lit undef, [], []⟩)
 | [], st, st', l', h => by
  obtain ⟨rfl, rfl⟩ := h
  exact ⟨rfl, rfl, fun j x hj => by simp at hj⟩
 | o :: rest, st, st', l', h => by
  obtain ⟨u, l2, on, rfl, hg, hon, hoff, hr⟩ := h
  obtain ⟨h1, h2, h3⟩ := tr_pre rest _ st' l2 hr
  refine ⟨by simp [h1], ?_, fun j x hj => ?_⟩
  ·rw [h2, app_fs]
   have : ∀ (l : List (Oper × Upd)) (k k' : Nat) (F : FS), stF (fun _ => true) k l F = stF (fun _ => true) k' l F := by
    intro l
    induction l with
    | nil => intro k k' F; rfl
    | cons y l ih => intro k k' F; unfold stF; exact ih _ _ _
   exact this _ _ _ _
  ·cases j with
   | zero =>
    simp only [List.getElem?_cons_zero, Option.some.injEq] at hj
    subst hj
    refine ⟨st, on, ?_, hg, hon, hoff⟩
    unfold pre
    have : ∀ (l : List (Oper × Upd)) (k : Nat) (F : FS), stF (fun i => decide (i < 0)) k l F = F := by
     intro l
     induction l with
     | nil => intro k F; rfl
     | cons y l ih => intro k F; unfold stF; rw [if_neg (by simp)]; exact ih _ _
    exact (this _ _ _).symm
   | succ j =>
    simp only [List.getElem?_cons_succ] at hj
    obtain ⟨stj, onj, h4, h5⟩ := h3 j x hj
    refine ⟨stj, onj, ?_, h5⟩
    rw [h4, app_fs]
    unfold pre
    have : ∀ (l : List (Oper × Upd)) (k : Nat) (F : FS), stF (fun i => decide (i < j)) k l F = stF (fun i => decide (i < j + 1)) (k + 1) l F := by
     intro l
     induction l with
     | nil => intro k F; rfl
     | cons y l ih =>
      intro k F
      unfold stF
      have : decide (k < j) = decide (k + 1 < j + 1) := by simp
      rw [this]
      exact ih _ _
    rw [this]
    conv => rhs; unfold stF
    simp
def mkB (T : List (List Nat × List Nat)) : List Nat := T.foldl (fun B r => B ++ [r.1.foldl (fun m n => m ||| (1 <<< n) ||| B.getD n 0) 0]) []
theorem any_tr {N id : Nat} {pn : Option Nat} {l' : List (Oper × Upd)} {st st' : St} (hN : X.N = N) (hpn : X.pin.map Prod.fst = pn) (hm : P.follows .mixedOrders = true) (hw : waitsOk (rtab .any ops).2 B = true) (hk : baseOk (rtab .any ops).2 (List.range ops.size) = true) (hin : ops.toList.all (within N pn ops) = true) (htr : Tr P ops ops.toList st l' st') (hap : apart ops B [] 0 l' = true)
  (hs : Sim X st.fs a w) (hQ : ∀ a w, Sim X st'.fs a w → Q .normal a w) : (Code.region id ops true).wp P Q a w := by
 obtain ⟨h1, h2, h3⟩ := tr_pre _ _ _ _ htr
 have hlen : l'.length = ops.size := by rw [← List.length_map (f := Prod.fst), h1]; simp
 obtain ⟨_, hap2⟩ := apart_of _ _ _ hap
 have hl : (rtab .any ops).2.length = ops.size := by simp [rtab]
 have hdrew : Sim X st.fs a w.drew := by
  obtain ⟨E, hs⟩ := hs
  exact ⟨E, hs.grow (Below.drew (Below.refl _ _))⟩
 refine start_ (S := fun _ => True) (ds := []) _ hm rfl rfl trivial fun _ => ?_
 refine inv_ (List.range ops.size) (fun b a w => Sim X (stF b 0 l' st.fs) a w) rfl hw hk ?_ ?_ ?_ ?_
 ·rw [Bool.and_eq_true, beq_iff_eq, beq_iff_eq, hl]
  refine ⟨?_, by simp⟩
  apply List.ext_getElem?
  intro j
  simp only [lof, List.getElem?_map, Array.toList_replicate, List.getElem?_replicate]
  by_cases hj : j < ops.size
  ·simp [hj]
  ·rw [List.getElem?_eq_none (by simpa using hj), if_neg hj]; rfl
 ·have : stF (fun _ => false) 0 l' st.fs = st.fs := by
   have key : ∀ (l : List (Oper × Upd)) (k : Nat) (F : FS), stF (fun _ => false) k l F = F := by
    intro l
    induction l with
    | nil => intro k F; rfl
    | cons y l ih => intro k F; unfold stF; rw [if_neg (by simp)]; exact ih _ _
   exact key _ _ _
  rw [this]
  exact hdrew
 ·intro j hj b a w hI hbj hon hoff
  have hjl : j < ops.size := by simpa using hj
  have hlt : j < l'.length := by rw [hlen]; exact hjl
  obtain ⟨x, hx⟩ : ∃ x, l'[j]? = some x := ⟨_, List.getElem?_eq_getElem hlt⟩
  have hxo : ops[j]? = some x.1 := by
   have h4 : (l'.map Prod.fst)[j]? = some x.1 := by rw [List.getElem?_map, hx]; rfl
   rw [h1] at h4
   simpa using h4
  obtain ⟨stj, on, hst, hg, honOk, hoffOk⟩ := h3 j x hx
  have hwin : within N pn ops x.1 = true := by
   rw [List.all_eq_true] at hin
   exact hin _ (List.mem_of_getElem? (by simpa using hxo))
  have hcon : ∀ i, (List.range ops.size).contains i = true ↔ i < ops.size := fun i => by simp
  have hb1 : ∀ i y, l'[i]? = some y → i < j → clash ops y x = true → b i = true := fun i y hy hij hc => by
   have hil := (List.getElem?_eq_some_iff.1 hy).1
   have := hap2 i j y x hij hy hx hc
   rw [Nat.zero_add, Nat.zero_add] at this
   exact hon i (by rw [(hcon i).2 (by omega), this]; rfl)
  have hb2 : ∀ i y, l'[i]? = some y → ¬ i < j → (i = j ∨ clash ops x y = true) → b i = false := fun i y hy hij hc => by
   have hil := (List.getElem?_eq_some_iff.1 hy).1
   rcases hc with rfl | hc
   ·exact hbj
   ·by_cases hi : i = j
    ·rw [hi]; exact hbj
    ·have := hap2 j i x y (by omega) hx hy hc
     rw [Nat.zero_add, Nat.zero_add] at this
     exact hoff i (by rw [(hcon i).2 (by omega), this]; rfl)
  have hread : ∀ s ∈ tmpsR ops x.1, (stF b 0 l' st.fs).sl s = stj.get s := fun s hs => by
   have : stj.get s = (pre l' j st.fs).sl s := by rw [← hst]; rfl
   rw [this]
   refine sl_agree (fun i y hy hd hij => hb1 i y hy hij ?_) fun i y hy hd hij => hb2 i y hy hij (.inr ?_)
   ·unfold clash; rw [meets_of (x := s) (by rw [hd]; simp) (List.mem_append_right _ hs)]; simp
   ·unfold clash; rw [meets_of (l := tmpsR ops x.1) (x := s) hs (by rw [hd]; simp)]; simp
  have hrb : ∀ i ∈ x.2.rb, (stF b 0 l' st.fs).B i = stj.blk i := fun s hs => by
   have : stj.blk s = (pre l' j st.fs).B s := by rw [← hst]; rfl
   rw [this]
   refine B_agree (fun i y hy hd hij => hb1 i y hy hij ?_) fun i y hy hd hij => hb2 i y hy hij (.inr ?_)
   ·unfold clash; rw [meets_of (l := y.2.bs.map Prod.fst) (x := s) hd (List.mem_append_left _ hs)]; simp
   ·unfold clash; rw [meets_of (l := x.2.rb) (x := s) hs hd]; simp
  have hwb : ∀ p ∈ x.2.bs, (stF b 0 l' st.fs).B p.1 = stj.blk p.1 := fun p hp => by
   have hs : p.1 ∈ x.2.bs.map Prod.fst := List.mem_map_of_mem hp
   have : stj.blk p.1 = (pre l' j st.fs).B p.1 := by rw [← hst]; rfl
   rw [this]
   refine B_agree (fun i y hy hd hij => hb1 i y hy hij ?_) fun i y hy hd hij => hb2 i y hy hij (.inr ?_)
   ·unfold clash; rw [meets_of (l := y.2.bs.map Prod.fst) (x := p.1) hd (List.mem_append_right _ hs)]; simp
   ·unfold clash; rw [meets_of (l := x.2.bs.map Prod.fst) (x := p.1) hs (List.mem_append_right _ hd)]; simp
  have hup : stF (up b j) 0 l' st.fs = (stF b 0 l' st.fs).upd x.1.dst x.2 := by
   refine stF_upk hbj l' 0 j st.fs hx (by omega) (fun i y s hy hij hs hs' => ?_) (fun i y s hy hij hs hs' => ?_)
   ·rw [Nat.zero_add]
    refine hb2 i y hy (by omega) (.inr ?_)
    unfold clash; rw [meets_of (x := s) (by rw [hs]; simp) (List.mem_append_left _ (by rw [hs']; simp))]; simp
   ·rw [Nat.zero_add]
    refine hb2 i y hy (by omega) (.inr ?_)
    unfold clash; rw [meets_of (l := x.2.bs.map Prod.fst) (x := s) hs (List.mem_append_right _ hs')]; simp
  have hgr : ∀ s ∈ guardS ops x.1, (stF b 0 l' st.fs).sl s = stj.get s ∧ s < X.N := fun s hs => ⟨hread s (List.mem_append_left _ hs), by rw [hN]; exact (within_of hwin).2.1 s hs⟩
  have hwant := hg X _ a w hI hgr
  have hpin : ∀ t, x.1.dst = some t → ∀ s v, X.pin = some (s, v) → s ≠ t := fun t ht s v hv => (within_of hwin).2.2 t ht s (by rw [← hpn, hv]; rfl)
  refine ⟨x.1, hxo, fun K hK => ?_⟩
  have hK' : ∀ a' w', Sim X ((stF b 0 l' st.fs).upd x.1.dst x.2) a' w' → K a' w' := fun a' w' h' => hK.out a' w' (by show Sim X (stF (up b j) 0 l' st.fs) a' w'; rw [hup]; exact h')
  cases on with
  | true =>
   rw [hwant, if_pos rfl]
   refine honOk rfl X _ a w hI ⟨fun s hs => ⟨hread s (List.mem_append_right _ (List.mem_filterMap.2 ⟨_, hs, rfl⟩)), by rw [hN]; exact (within_of hwin).1 s hs⟩, hrb, hwb, hpin⟩ K Q hK'
  | false =>
   rw [hwant, if_neg (by simp)]
   have hu := hoffOk rfl
   rw [hu] at hK'
   exact hK' _ _ (sim_off hI hpin)
 ·intro b a w hb hI
  refine hQ a w ?_
  rw [h2, ← stF_cong (b := b) l' 0 st.fs fun i hi => by rw [Nat.zero_add]; exact hb i (by simp; omega)]
  exact hI
end
inductive SK where
 | int (k : IntKind)
 | bool
 | str
 | row (k : IntKind)
 | rows (k : EK)
 | agg (l : SK)
 | fp (ty : TypeId) (l : SK)
 | np (ty : TypeId) (l : SK)
 | clo (f : FuncId) (l : SK)
 | sl (j : Nat)
 | pt (j off : Nat)
 | any
 | nil
 | cons (a b : SK)
def SK.T : SK → Type
 | .int _ => Int
 | .bool => Bool
 | .str => ByteArray
 | .row _ => List Int
 | .rows _ => List Int
 | .agg l => l.T
 | .fp _ l => l.T
 | .np _ l => Option l.T
 | .clo _ l => l.T
 | .sl _ => Unit
 | .pt _ _ => Unit
 | .any => Unit
 | .nil => Unit
 | .cons a b => a.T × b.T
mutual
def SK.put : (s : SK) → s.T → AV
 | .int k, n => .lit (.int k n)
 | .bool, b => .lit (.bool b)
 | .str, s => .lit (.string s)
 | .row k, l => .row k l
 | .rows k, l => .rows k l
 | .agg l, t => .agg (l.putL t)
 | .fp ty l, t => .fp ty (l.putL t)
 | .np ty l, t => (match t with
  | none => .lit (.pointer none)
  | some t => .fp ty (l.putL t))
 | .clo f l, t => .clo f (l.putL t)
 | .sl j, _ => .sli j
 | .pt j off, _ => .ptr j off
 | .any, _ => .any
 | .nil, _ => .any
 | .cons _ _, _ => .any
def SK.putL : (s : SK) → s.T → List AV
 | .cons a b, t => a.put t.1 :: b.putL t.2
 | .int _, _ => []
 | .bool, _ => []
 | .str, _ => []
 | .row _, _ => []
 | .rows _, _ => []
 | .agg _, _ => []
 | .fp _ _, _ => []
 | .np _ _, _ => []
 | .clo _ _, _ => []
 | .sl _, _ => []
 | .pt _ _, _ => []
 | .any, _ => []
 | .nil, _ => []
end
def getInt (k : IntKind) : AV → Option Int
 | .lit (.int k' n) => if k' = k then some n else none
 | _ => none
def getBool : AV → Option Bool
 | .lit (.bool b) => some b
 | .bp p i => some (@decide p i)
 | .bn p i => some (!(@decide p i))
 | _ => none
def getStr : AV → Option ByteArray
 | .lit (.string s) => some s
 | _ => none
def getRow (k : IntKind) : AV → Option (List Int)
 | .row k' l => if k' = k then some l else none
 | .lit (.slice none 0 0) => some []
 | _ => none
def getRows (k : EK) : AV → Option (List Int)
 | .rows k' l => if k' = k then some l else none
 | .lit (.slice none 0 0) => some []
 | _ => none
def asAgg : AV → Option (List AV)
 | .agg as => some as
 | .lit (.agg us) => some (us.toList.map .lit)
 | _ => none
def asFp (ty : TypeId) : AV → Option (List AV)
 | .fp ty' as => (match Nat.beq ty' ty with
  | true => some as
  | false => none)
 | _ => none
def asClo (f : FuncId) : AV → Option (List AV)
 | .clo f' as => (match Nat.beq f' f with
  | true => some as
  | false => none)
 | .lit (.func (.func f') ⟨[]⟩ ⟨[]⟩) => (match Nat.beq f' f with
  | true => some []
  | false => none)
 | _ => none
def asSl (j : Nat) : AV → Option Unit
 | .sli j' => (match Nat.beq j' j with
  | true => some ()
  | false => none)
 | _ => none
def asPt (j off : Nat) : AV → Option Unit
 | .ptr j' off' => (match Nat.beq j' j, Nat.beq off' off with
  | true, true => some ()
  | _, _ => none)
 | _ => none
def isNp : AV → Bool
 | .lit (.pointer none) => true
 | _ => false
mutual
def SK.get : (s : SK) → AV → Option s.T
 | .int k, a => getInt k a
 | .bool, a => getBool a
 | .str, a => getStr a
 | .row k, a => getRow k a
 | .rows k, a => getRows k a
 | .agg l, a => (match asAgg a with
  | some as => l.getL as
  | none => none)
 | .fp ty l, a => (match asFp ty a with
  | some as => l.getL as
  | none => none)
 | .np ty l, a => (match isNp a with
  | true => some none
  | false => (match asFp ty a with
   | some as => (match l.getL as with
    | some t => some (some t)
    | none => none)
   | none => none))
 | .clo f l, a => (match asClo f a with
  | some as => l.getL as
  | none => none)
 | .sl j, a => asSl j a
 | .pt j off, a => asPt j off a
 | .any, _ => some ()
 | .nil, _ => none
 | .cons _ _, _ => none
def SK.getL : (s : SK) → List AV → Option s.T
 | .nil, l => (match l with
  | [] => some ()
  | _ :: _ => none)
 | .cons a b, l => (match l with
  | [] => none
  | x :: xs => (match a.get x, b.getL xs with
   | some t, some u => some (t, u)
   | _, _ => none))
 | .int _, _ => none
 | .bool, _ => none
 | .str, _ => none
 | .row _, _ => none
 | .rows _, _ => none
 | .agg _, _ => none
 | .fp _ _, _ => none
 | .np _ _, _ => none
 | .clo _ _, _ => none
 | .sl _, _ => none
 | .pt _ _, _ => none
 | .any, _ => none
end
mutual
def SK.on {R : Type} : (s : SK) → s.T → (AV → Option R) → Option R
 | .int k, n, K => K (.lit (.int k n))
 | .bool, b, K => K (.lit (.bool b))
 | .str, s, K => K (.lit (.string s))
 | .row k, l, K => K (.row k l)
 | .rows k, l, K => K (.rows k l)
 | .agg l, t, K => l.onL t fun as => K (.agg as)
 | .fp ty l, t, K => l.onL t fun as => K (.fp ty as)
 | .np ty l, t, K => Option.elim t (K (.lit (.pointer none))) fun t => l.onL t fun as => K (.fp ty as)
 | .clo f l, t, K => l.onL t fun as => K (.clo f as)
 | .sl j, _, K => K (.sli j)
 | .pt j off, _, K => K (.ptr j off)
 | .any, _, K => K .any
 | .nil, _, K => K .any
 | .cons _ _, _, K => K .any
def SK.onL {R : Type} : (s : SK) → s.T → (List AV → Option R) → Option R
 | .cons a b, t, K => a.on t.1 fun x => b.onL t.2 fun xs => K (x :: xs)
 | .int _, _, K => K []
 | .bool, _, K => K []
 | .str, _, K => K []
 | .row _, _, K => K []
 | .rows _, _, K => K []
 | .agg _, _, K => K []
 | .fp _ _, _, K => K []
 | .np _ _, _, K => K []
 | .clo _ _, _, K => K []
 | .sl _, _, K => K []
 | .pt _ _, _, K => K []
 | .any, _, K => K []
 | .nil, _, K => K []
end
mutual
theorem SK.on_eq {R : Type} : ∀ (s : SK) (t : s.T) (K : AV → Option R), s.on t K = K (s.put t)
 | .int k, n, K => rfl
 | .bool, b, K => rfl
 | .str, s, K => rfl
 | .row k, l, K => rfl
 | .rows k, l, K => rfl
 | .agg l, t, K => by unfold SK.on SK.put; exact SK.onL_eq l t _
 | .fp ty l, t, K => by unfold SK.on SK.put; exact SK.onL_eq l t _
 | .np ty l, t, K => by
  unfold SK.on SK.put
  cases (t : Option l.T) with
  | none => rfl
  | some t => exact SK.onL_eq l t _
 | .clo f l, t, K => by unfold SK.on SK.put; exact SK.onL_eq l t _
 | .sl _, _, K => rfl
 | .pt _ _, _, K => rfl
 | .any, _, K => rfl
 | .nil, _, K => rfl
 | .cons _ _, _, K => rfl
theorem SK.onL_eq {R : Type} : ∀ (s : SK) (t : s.T) (K : List AV → Option R), s.onL t K = K (s.putL t)
 | .cons a b, t, K => by unfold SK.onL SK.putL; rw [SK.on_eq a, SK.onL_eq b]
 | .int _, _, K => rfl
 | .bool, _, K => rfl
 | .str, _, K => rfl
 | .row _, _, K => rfl
 | .rows _, _, K => rfl
 | .agg _, _, K => rfl
 | .fp _ _, _, K => rfl
 | .np _ _, _, K => rfl
 | .clo _ _, _, K => rfl
 | .sl _, _, K => rfl
 | .pt _ _, _, K => rfl
 | .any, _, K => rfl
 | .nil, _, K => rfl
end
section
variable {E : En} {B : Nat → Option Blk} {W : World}
theorem row_nil {k : IntKind} : RowAt W k [] (.slice none 0 0) := ⟨none, 0, rfl, Nat.le_refl _, fun h => absurd h (by simp)⟩
theorem denL_lits : ∀ (us : List Value), DenL E B W (us.map .lit) us
 | [] => by show DenL E B W [] []; unfold DenL; rfl
 | u :: us => by show DenL E B W (.lit u :: us.map .lit) (u :: us); unfold DenL; exact ⟨u, us, rfl, by unfold Den; rfl, denL_lits us⟩
theorem getInt_den {k : IntKind} {a : AV} {n : Int} {v : Value} (h : getInt k a = some n) (hd : Den E B W a v) : Den E B W (.lit (.int k n)) v := by
 unfold getInt at h
 split at h
 ·split at h
  ·rename_i hk
   injection h with h
   subst h; subst hk
   exact hd
  ·cases h
 ·cases h
theorem getBool_den {a : AV} {b : Bool} {v : Value} (h : getBool a = some b) (hd : Den E B W a v) : Den E B W (.lit (.bool b)) v := by
 unfold getBool at h
 split at h
 ·injection h with h; subst h; exact hd
 ·injection h with h; subst h; unfold Den at hd ⊢; exact hd
 ·injection h with h; subst h; unfold Den at hd ⊢; exact hd
 ·cases h
theorem getStr_den {a : AV} {b : ByteArray} {v : Value} (h : getStr a = some b) (hd : Den E B W a v) : Den E B W (.lit (.string b)) v := by
 unfold getStr at h
 split at h
 ·injection h with h; subst h; exact hd
 ·cases h
theorem getRow_den {k : IntKind} {a : AV} {l : List Int} {v : Value} (h : getRow k a = some l) (hd : Den E B W a v) : Den E B W (.row k l) v := by
 unfold getRow at h
 split at h
 ·split at h
  ·rename_i hk
   injection h with h
   subst h; subst hk
   exact hd
  ·cases h
 ·injection h with h; subst h; unfold Den at hd ⊢; subst hd; exact row_nil
 ·cases h
theorem getRows_den {k : EK} {a : AV} {l : List Int} {v : Value} (h : getRows k a = some l) (hd : Den E B W a v) : Den E B W (.rows k l) v := by
 unfold getRows at h
 split at h
 ·split at h
  ·rename_i hk
   injection h with h
   subst h; subst hk
   exact hd
  ·cases h
 ·injection h with h
  subst h
  unfold Den at hd ⊢
  rw [hd]
  exact ⟨none, 0, [], rfl, Nat.le_refl _, rfl, fun h => by simp at h⟩
 ·cases h
theorem asAgg_den {a : AV} {as : List AV} {v : Value} (h : asAgg a = some as) (hd : Den E B W a v) : Den E B W (.agg as) v := by
 unfold asAgg at h
 split at h
 ·injection h with h; subst h; exact hd
 ·injection h with h; subst h; unfold Den at hd ⊢; subst hd; exact ⟨_, rfl, denL_lits _⟩
 ·cases h
theorem asFp_den {ty : TypeId} {a : AV} {as : List AV} {v : Value} (h : asFp ty a = some as) (hd : Den E B W a v) : Den E B W (.fp ty as) v := by
 unfold asFp at h
 split at h
 ·split at h
  ·rename_i hb
   injection h with h; subst h
   rw [← Nat.eq_of_beq_eq_true hb]
   exact hd
  ·cases h
 ·cases h
theorem asClo_den {f : FuncId} {a : AV} {as : List AV} {v : Value} (h : asClo f a = some as) (hd : Den E B W a v) : Den E B W (.clo f as) v := by
 unfold asClo at h
 split at h
 ·split at h
  ·rename_i hb
   injection h with h; subst h
   rw [← Nat.eq_of_beq_eq_true hb]
   exact hd
  ·cases h
 ·split at h
  ·rename_i hb
   injection h with h; subst h
   rw [← Nat.eq_of_beq_eq_true hb]
   unfold Den at hd ⊢
   exact ⟨[], hd, by unfold DenL; rfl⟩
  ·cases h
 ·cases h
theorem asSl_den {j : Nat} {a : AV} {u : Unit} {v : Value} (h : asSl j a = some u) (hd : Den E B W a v) : Den E B W (.sli j) v := by
 unfold asSl at h
 split at h
 ·split at h
  ·rename_i hb
   rw [← Nat.eq_of_beq_eq_true hb]
   exact hd
  ·cases h
 ·cases h
theorem asPt_den {j off : Nat} {a : AV} {u : Unit} {v : Value} (h : asPt j off a = some u) (hd : Den E B W a v) : Den E B W (.ptr j off) v := by
 unfold asPt at h
 split at h
 ·split at h
  ·rename_i hb hb'
   rw [← Nat.eq_of_beq_eq_true hb, ← Nat.eq_of_beq_eq_true hb']
   exact hd
  ·cases h
 ·cases h
theorem isNp_den {a : AV} {v : Value} (h : isNp a = true) (hd : Den E B W a v) : Den E B W (.lit (.pointer none)) v := by
 unfold isNp at h
 split at h
 ·exact hd
 ·cases h
mutual
theorem SK.get_den : ∀ (s : SK) {a : AV} {t : s.T} {v : Value}, s.get a = some t → Den E B W a v → Den E B W (s.put t) v
 | .int k, a, t, v, h, hd => by unfold SK.get at h; unfold SK.put; exact getInt_den h hd
 | .bool, a, t, v, h, hd => by unfold SK.get at h; unfold SK.put; exact getBool_den h hd
 | .str, a, t, v, h, hd => by unfold SK.get at h; unfold SK.put; exact getStr_den h hd
 | .row k, a, t, v, h, hd => by unfold SK.get at h; unfold SK.put; exact getRow_den h hd
 | .rows k, a, t, v, h, hd => by unfold SK.get at h; unfold SK.put; exact getRows_den h hd
 | .agg l, a, t, v, h, hd => by
  unfold SK.get at h
  unfold SK.put
  split at h
  ·rename_i as ha
   have h1 := asAgg_den ha hd
   unfold Den at h1 ⊢
   obtain ⟨us, h2, h3⟩ := h1
   exact ⟨us, h2, SK.getL_den l h h3⟩
  ·cases h
 | .fp ty l, a, t, v, h, hd => by
  unfold SK.get at h
  unfold SK.put
  split at h
  ·rename_i as ha
   have h1 := asFp_den ha hd
   unfold Den at h1 ⊢
   obtain ⟨g, us, h2, h3, h4⟩ := h1
   exact ⟨g, us, h2, h3, SK.getL_den l h h4⟩
  ·cases h
 | .np ty l, a, t, v, h, hd => by
  unfold SK.get at h
  unfold SK.put
  split at h
  ·rename_i hn
   injection h with h
   subst h
   exact isNp_den hn hd
  ·split at h
   ·rename_i as ha
    split at h
    ·rename_i t' ht
     injection h with h
     subst h
     have h1 := asFp_den ha hd
     show Den E B W (.fp ty (l.putL t')) v
     unfold Den at h1 ⊢
     obtain ⟨g, us, h2, h3, h4⟩ := h1
     exact ⟨g, us, h2, h3, SK.getL_den l ht h4⟩
    ·cases h
   ·cases h
 | .clo f l, a, t, v, h, hd => by
  unfold SK.get at h
  unfold SK.put
  split at h
  ·rename_i as ha
   have h1 := asClo_den ha hd
   unfold Den at h1 ⊢
   obtain ⟨us, h2, h3⟩ := h1
   exact ⟨us, h2, SK.getL_den l h h3⟩
  ·cases h
 | .sl j, a, t, v, h, hd => by unfold SK.get at h; unfold SK.put; exact asSl_den h hd
 | .pt j off, a, t, v, h, hd => by unfold SK.get at h; unfold SK.put; exact asPt_den h hd
 | .any, a, t, v, h, hd => by unfold SK.put Den; trivial
 | .nil, a, t, v, h, hd => by unfold SK.put Den; trivial
 | .cons x y, a, t, v, h, hd => by unfold SK.put Den; trivial
theorem SK.getL_den : ∀ (s : SK) {as : List AV} {t : s.T} {us : List Value}, s.getL as = some t → DenL E B W as us → DenL E B W (s.putL t) us
 | .cons x y, as, t, us, h, hd => by
  unfold SK.getL at h
  unfold SK.putL
  cases as with
  | nil => cases h
  | cons a as =>
   simp only at h
   split at h
   ·rename_i t1 t2 h1 h2
    injection h with h
    subst h
    unfold DenL at hd ⊢
    obtain ⟨u, us', h3, h4, h5⟩ := hd
    exact ⟨u, us', h3, SK.get_den x h1 h4, SK.getL_den y h2 h5⟩
   ·cases h
 | .nil, as, t, us, h, hd => by
  unfold SK.getL at h
  unfold SK.putL
  cases as with
  | nil => exact hd
  | cons a as => cases h
 | .int _, as, t, us, h, hd => by unfold SK.getL at h; cases h
 | .bool, as, t, us, h, hd => by unfold SK.getL at h; cases h
 | .str, as, t, us, h, hd => by unfold SK.getL at h; cases h
 | .row _, as, t, us, h, hd => by unfold SK.getL at h; cases h
 | .rows _, as, t, us, h, hd => by unfold SK.getL at h; cases h
 | .agg _, as, t, us, h, hd => by unfold SK.getL at h; cases h
 | .fp _ _, as, t, us, h, hd => by unfold SK.getL at h; cases h
 | .np _ _, as, t, us, h, hd => by unfold SK.getL at h; cases h
 | .clo _ _, as, t, us, h, hd => by unfold SK.getL at h; cases h
 | .sl _, as, t, us, h, hd => by unfold SK.getL at h; cases h
 | .pt _ _, as, t, us, h, hd => by unfold SK.getL at h; cases h
 | .any, as, t, us, h, hd => by unfold SK.getL at h; cases h
end
end
inductive KM where
 | p (q : Option SK)
 | m (k : EK) (e : TypeId)
 | b (q : Option SK)
 | q (a b : IntKind)
inductive CV where
 | p (a : AV)
 | m (l : List Int)
 | b (ty : TypeId) (l : List AV)
 | q (l : List Int)
def asKind : Option SK → AV → Option AV
 | none, a => some a
 | some s, a => (match s.get a with
  | some t => some (s.put t)
  | none => none)
def asKindL : Option SK → List AV → Option (List AV)
 | none, a => some a
 | some s, a => (match s.getL a with
  | some t => some (s.putL t)
  | none => none)
theorem asKind_den {E : En} {B : Nat → Option Blk} {W : World} {q : Option SK} {a a' : AV} {v : Value} (h : asKind q a = some a') (hd : Den E B W a v) : Den E B W a' v := by
 unfold asKind at h
 split at h
 ·injection h with h; subst h; exact hd
 ·split at h
  ·rename_i ht
   injection h with h; subst h; exact SK.get_den _ ht hd
  ·cases h
theorem asKindL_den {E : En} {B : Nat → Option Blk} {W : World} {q : Option SK} {a a' : List AV} {v : List Value} (h : asKindL q a = some a') (hd : DenL E B W a v) : DenL E B W a' v := by
 unfold asKindL at h
 split at h
 ·injection h with h; subst h; exact hd
 ·split at h
  ·rename_i ht
   injection h with h; subst h; exact SK.getL_den _ ht hd
  ·cases h
def frzS (σ : List (Nat × Nat)) (st : St) : Nat → AV → Option (AV × List Nat)
 | 0, _ => none
 | n + 1, a => match a with
  | .sli id => (match look id σ with
   | some j => some (.sli j, [])
   | none => (match st.blk id with
    | some (.ints k e l) => (match rowAV k l with
     | some a => some (a, [id])
     | none => none)
    | _ => none))
  | .ptr id off => (match look id σ with
   | some j => some (.ptr j off, [])
   | none => (match off, st.blk id with
    | 0, some (.cells ty l) => (match frzL (frzS σ st n) l with
     | some (l', ids) => some (.fp ty l', id :: ids)
     | none => none)
    | _, _ => none))
  | .agg l => (match frzL (frzS σ st n) l with
   | some (l', ids) => some (.agg l', ids)
   | none => none)
  | .tup l => (match frzL (frzS σ st n) l with
   | some (l', ids) => some (.tup l', ids)
   | none => none)
  | .clo f l => (match frzL (frzS σ st n) l with
   | some (l', ids) => some (.clo f l', ids)
   | none => none)
  | .fp ty l => (match frzL (frzS σ st n) l with
   | some (l', ids) => some (.fp ty l', ids)
   | none => none)
  | a => (match free a with
   | true => some (a, [])
   | false => none)
def owners (st : St) : List (Nat × KM) → Nat → List (Nat × Nat)
 | [], _ => []
 | (s, .m _ _) :: r, j => (match st.get s with
  | .sli id => (id, j) :: owners st r (j + 1)
  | _ => owners st r (j + 1))
 | (s, .b _) :: r, j => (match st.get s with
  | .ptr id 0 => (id, j) :: owners st r (j + 1)
  | _ => owners st r (j + 1))
 | (s, .q _ _) :: r, j => (match st.get s with
  | .mp id => (id, j) :: owners st r (j + 1)
  | _ => owners st r (j + 1))
 | _ :: r, j => owners st r (j + 1)
def cutOne (σ : List (Nat × Nat)) (st : St) (s : Nat) : KM → Option (CV × Option Nat × List Nat)
 | .p q => (match frzS σ st 8 (st.get s) with
  | some (a, ids) => (match asKind q a with
   | some a' => some (.p a', none, ids)
   | none => none)
  | none => none)
 | .m k e => (match st.get s with
  | .sli id => (match st.blk id with
   | some (.ints k' e' l) => (match Nat.beq e e' with
    | true => if k' = k then some (.m l, some id, []) else none
    | false => none)
   | _ => none)
  | .lit (.slice none 0 0) => (match k.nn with
   | false => (match k.isMap with
    | false => some (.m [], none, [])
    | true => none)
   | true => none)
  | _ => none)
 | .q a b => (match st.get s with
  | .mp id => (match st.blk id with
   | some (.ints (.map a' b') e l) => (match Nat.beq e 0 with
    | true => if a' = a ∧ b' = b then some (.q l, some id, []) else none
    | false => none)
   | _ => none)
  | _ => none)
 | .b q => (match st.get s with
  | .ptr id 0 => (match st.blk id with
   | some (.cells ty l) => (match frzL (frzS σ st 8) l with
    | some (l', ids) => (match asKindL q l' with
     | some l2 => some (.b ty l2, some id, ids)
     | none => none)
    | none => none)
   | _ => none)
  | _ => none)
def cutVals (σ : List (Nat × Nat)) (st : St) : List (Nat × KM) → Option (List CV × List (Option Nat) × List Nat)
 | [] => some ([], [], [])
 | (s, km) :: r => (match cutOne σ st s km, cutVals σ st r with
  | some (v, o, f), some (vs, os, fs) => some (v :: vs, o :: os, f ++ fs)
  | _, _ => none)
def ownIds : List (Option Nat) → List Nat
 | [] => []
 | some i :: r => i :: ownIds r
 | none :: r => ownIds r
def nodupB : List Nat → Bool
 | [] => true
 | i :: r => match r.any (Nat.beq i) with
  | true => false
  | false => nodupB r
def buildSl : List (Nat × KM) → List CV → Nat → List (Nat × AV)
 | (s, _) :: r, .p a :: vs, j => (s, a) :: buildSl r vs (j + 1)
 | (s, .m _ _) :: r, .m _ :: vs, j => (s, .sli j) :: buildSl r vs (j + 1)
 | (s, _) :: r, .b _ _ :: vs, j => (s, .ptr j 0) :: buildSl r vs (j + 1)
 | (s, .q _ _) :: r, .q _ :: vs, j => (s, .mp j) :: buildSl r vs (j + 1)
 | _, _, _ => []
def buildBl : List (Nat × KM) → List CV → Nat → List (Nat × Blk)
 | (_, .m k e) :: r, .m l :: vs, j => (j, .ints k e l) :: buildBl r vs (j + 1)
 | _ :: r, .b ty l :: vs, j => (j, .cells ty l) :: buildBl r vs (j + 1)
 | (_, .q a b) :: r, .q l :: vs, j => (j, .ints (.map a b) 0 l) :: buildBl r vs (j + 1)
 | _ :: r, _ :: vs, j => buildBl r vs (j + 1)
 | _, _, _ => []
def build (keep : List (Nat × KM)) (vs : List CV) : St := ⟨buildSl keep vs 0, buildBl keep vs 0, keep.length⟩
def cutTo {R : Type} (st : St) (keep : List (Nat × KM)) (K : List CV → Option R) : Option R := match cutVals (owners st keep 0) st keep with
 | some (vs, os, fs) => (match nodupB (ownIds os) && !(meets fs (ownIds os)) with
  | true => K vs
  | false => none)
 | none => none
def AvOf (cv : CV) (j : Nat) (av : AV) : Prop := match cv with
 | .p a => av = a
 | .m _ => av = .sli j
 | .b _ _ => av = .ptr j 0
 | .q _ => av = .mp j
def BkOf (km : KM) (cv : CV) (bk : Blk) : Prop := match km, cv with
 | .m k e, .m l => bk = .ints k e l
 | _, .b ty l => bk = .cells ty l
 | .q a b, .q l => bk = .ints (.map a b) 0 l
 | _, _ => False
section
variable {P : Program} {T : TT} {X : Cx} {E E' : En} {F F' : FS} {a : Act} {w w' : World} {st : St} {o : Oper} {u : Upd} {R : Type} {r : R}
theorem nodup_of : ∀ {l : List Nat}, nodupB l = true → l.Nodup
 | [], _ => List.nodup_nil
 | i :: l, h => by
  unfold nodupB at h
  split at h
  ·cases h
  ·rename_i h1
   refine List.nodup_cons.2 ⟨fun hi => ?_, nodup_of h⟩
   have : l.any (Nat.beq i) = true := List.any_eq_true.2 ⟨i, hi, Nat.beq_refl i⟩
   rw [this] at h1
   cases h1
theorem own_mem : ∀ {os : List (Option Nat)} {i : Nat}, some i ∈ os → i ∈ ownIds os
 | o :: os, i, h => by
  cases o with
  | none =>
   rcases List.mem_cons.1 h with h | h
   ·cases h
   ·exact own_mem (os := os) h
  | some j =>
   rcases List.mem_cons.1 h with h | h
   ·injection h with h; subst h; exact List.mem_cons_self
   ·exact List.mem_cons_of_mem _ (own_mem h)
theorem own_inj : ∀ {os : List (Option Nat)} {i j n : Nat}, (ownIds os).Nodup → os[i]? = some (some n) → os[j]? = some (some n) → i = j
 | [], i, j, n, _, h, _ => by simp at h
 | o :: os, i, j, n, hn, hi, hj => by
  have hn' : (ownIds os).Nodup := by
   cases o with
   | none => exact hn
   | some m => exact (List.nodup_cons.1 hn).2
  cases i with
  | zero =>
   cases j with
   | zero => rfl
   | succ j =>
    simp only [List.getElem?_cons_zero, Option.some.injEq] at hi
    simp only [List.getElem?_cons_succ] at hj
    subst hi
    exact absurd (own_mem (List.mem_of_getElem? hj)) (List.nodup_cons.1 hn).1
  | succ i =>
   cases j with
   | zero =>
    simp only [List.getElem?_cons_zero, Option.some.injEq] at hj
    simp only [List.getElem?_cons_succ] at hi
    subst hj
    exact absurd (own_mem (List.mem_of_getElem? hi)) (List.nodup_cons.1 hn).1
   | succ j =>
    simp only [List.getElem?_cons_succ] at hi hj
    rw [own_inj hn' hi hj]
def Sg (E : En) (B : Nat → Option Blk) (σ : List (Nat × Nat)) (E' : En) (B' : Nat → Option Blk) : Prop := ∀ id j, look id σ = some j → (B' j).isSome = true ∧ E'.ρ j = E.ρ id ∧ E'.γ j = E.γ id ∧ E'.ν j = E.ν id ∧ ∀ k e l, B' j = some (.ints k e l) → B id = some (.ints k e l)
theorem frzS_of {σ : List (Nat × Nat)} {B' : Nat → Option Blk} (hs : SimAt X E F a w) (hσ : Sg E F.B σ E' B') : ∀ (n : Nat) {av av' : AV} {ids : List Nat} {v : Value}, frzS σ st n av = some (av', ids) → (∀ i ∈ ids, F.B i = st.blk i) → Held E F.B w (NB X.okk E F.B) av v → Held E' B' w (Lent E F.B (NB X.okk E F.B) ids) av' v
 | 0, av, av', ids, v, h, _, _ => by unfold frzS at h; cases h
 | n + 1, av, av', ids, v, h, hid, hh => by
  have hmono : ∀ {b : AV}, Held E' B' w (NB X.okk E F.B) b v → Held E' B' w (Lent E F.B (NB X.okk E F.B) ids) b v := fun hb => Held.mono hb fun k hk => .inl hk
  unfold frzS at h
  split at h
  ·rename_i id
   split at h
   ·rename_i j hj
    injection h with h; injection h with h1 h2
    subst h1; subst h2
    obtain ⟨g1, g2, g3, g4, g5⟩ := hσ id j hj
    have h3 := hh.now
    unfold Den at h3
    intro W' hW
    unfold Den
    refine ⟨g1, h3.2.1, fun k e l hl => ?_⟩
    rw [g2, g3, g4]
    exact h3.2.2 k e l (g5 k e l hl)
   ·split at h
    ·rename_i k e l hb
     split at h
     ·rename_i a' ha
      injection h with h; injection h with h1 h2
      subst h1; subst h2
      have hB := (hid id (by simp)).trans hb
      rcases sli_oth hs (rowAV_map ha) hB hh with ⟨_, rfl, rfl⟩ | ⟨hn, rfl, hl⟩
      ·exact (row_nil_av ha).any
      ·have hlive : Live E F.B id := ⟨⟨_, hB, by simp⟩, hn⟩
       exact (row_of_oth ha hl (fun q hq => .inl hq) (.inr ⟨id, by simp, hlive, rfl⟩) (hs.lt hlive)).any
     ·cases h
    ·cases h
  ·rename_i id off
   split at h
   ·rename_i j hj
    injection h with h; injection h with h1 h2
    subst h1; subst h2
    obtain ⟨g1, g2, _⟩ := hσ id j hj
    have h3 := hh.now
    unfold Den at h3
    intro W' hW
    unfold Den
    rw [g2]
    exact ⟨g1, h3.2⟩
   ·split at h
    ·rename_i ty l hb
     split at h
     ·rename_i l' ids' hgo
      injection h with h; injection h with h1 h2
      subst h1; subst h2
      have hB := (hid id (by simp)).trans hb
      obtain ⟨hn, us, hg, hu⟩ := hs.blk id _ hB
      have hlive : Live E F.B id := ⟨⟨_, hB, by simp⟩, hn⟩
      have h3 := hh.now
      unfold Den at h3
      have h4 := frzL_of (frzS_of hs hσ n) hgo (fun i hi => hid i (List.mem_cons_of_mem _ hi)) hu
      intro W' hW
      unfold Den
      refine ⟨E.ρ id, us, h3.2, (hW _ (.inr ⟨id, by simp, hlive, rfl⟩) (hs.lt hlive)).trans hg, h4 W' fun k hk hl => hW k ?_ hl⟩
      rcases hk with hk | ⟨i, h5, h6⟩
      ·exact .inl hk
      ·exact .inr ⟨i, List.mem_cons_of_mem _ h5, h6⟩
     ·cases h
    ·cases h
  ·split at h
   ·rename_i l l' ids' hgo
    injection h with h; injection h with h1 h2
    subst h1; subst h2
    obtain ⟨us, rfl, hu⟩ := agg_of hh
    exact held_agg (frzL_of (frzS_of hs hσ n) hgo hid hu)
   ·cases h
  ·split at h
   ·rename_i l l' ids' hgo
    injection h with h; injection h with h1 h2
    subst h1; subst h2
    obtain ⟨us, rfl, hu⟩ := tup_of hh
    exact held_tup (frzL_of (frzS_of hs hσ n) hgo hid hu)
   ·cases h
  ·split at h
   ·rename_i f l l' ids' hgo
    injection h with h; injection h with h1 h2
    subst h1; subst h2
    obtain ⟨us, rfl, hu⟩ := clo_of hh
    exact held_clo (frzL_of (frzS_of hs hσ n) hgo hid hu)
   ·cases h
  ·split at h
   ·rename_i ty l l' ids' hgo
    injection h with h; injection h with h1 h2
    subst h1; subst h2
    obtain ⟨g, us, rfl, hg, hng, hlt, hu⟩ := fp_of hh
    have h4 := frzL_of (frzS_of hs hσ n) hgo hid hu
    intro W' hW
    unfold Den
    exact ⟨g, us, rfl, (hW g (.inl hng) hlt).trans hg, h4 W' hW⟩
   ·cases h
  ·split at h
   ·rename_i hf
    injection h with h; injection h with h1 h2
    subst h1; subst h2
    exact hmono fun W' hW => den_free _ _ hf (hh W' hW)
   ·cases h
def Kept1 (E' : En) (B' : Nat → Option Blk) (E : En) (F : FS) (w : World) (nb nb' : Nat → Prop) (v : Value) : KM → CV → Option Nat → Prop
 | _, .p a, _ => Held E' B' w nb' a v
 | .m k e, .m l, none => v = .slice none 0 0 ∧ l = [] ∧ k.nn = false ∧ k.isMap = false
 | .m k e, .m l, some id => F.B id = some (.ints k e l) ∧ Held E F.B w nb (.sli id) v
 | .b _, .b ty l, some id => ∃ l0 us, F.B id = some (.cells ty l0) ∧ E.ν id = false ∧ v = .pointer (some ⟨E.ρ id, 0, none⟩) ∧ w.heap[E.ρ id]? = some (.cells us.toArray ty (0, 0)) ∧ HeldL E' B' w nb' l us
 | .q a b, .q l, some id => F.B id = some (.ints (.map a b) 0 l) ∧ Held E F.B w nb (.mp id) v
 | _, _, _ => False
theorem cutOne_of {σ : List (Nat × Nat)} {B' : Nat → Option Blk} {s : Nat} {km : KM} {cv : CV} {ow : Option Nat} {f : List Nat} {nb' : Nat → Prop} {v : Value} (hs : SimAt X E st.fs a w) (hσ : Sg E st.fs.B σ E' B') (h : cutOne σ st s km = some (cv, ow, f)) (hv : Held E st.fs.B w (NB X.okk E st.fs.B) (st.get s) v) (hnb : ∀ k, Lent E st.fs.B (NB X.okk E st.fs.B) f k → nb' k) : Kept1 E' B' E st.fs w (NB X.okk E st.fs.B) nb' v km cv ow := by
 unfold cutOne at h
 split at h
 ·split at h
  ·rename_i a' ids hf
   split at h
   ·rename_i a2 hk
    injection h with h; injection h with h1 h2; injection h2 with h2 h3
    subst h1; subst h2; subst h3
    exact Held.mono (fun W' hW => asKind_den hk (frzS_of hs hσ 8 hf (fun _ _ => rfl) hv W' hW)) hnb
   ·cases h
  ·cases h
 ·rename_i k e
  split at h
  ·rename_i id hg
   split at h
   ·rename_i k' e' l hb
    split at h
    ·rename_i he
     split at h
     ·rename_i hk
      injection h with h; injection h with h1 h2; injection h2 with h2 h3
      subst h1; subst h2; subst hk
      have := Nat.eq_of_beq_eq_true he
      subst this
      rw [hg] at hv
      exact ⟨hb, hv⟩
     ·cases h
    ·cases h
   ·cases h
  ·rename_i hg
   split at h
   ·rename_i hkn
    split at h
    ·rename_i hkm
     injection h with h; injection h with h1 h2; injection h2 with h2 h3
     subst h1; subst h2
     rw [hg] at hv
     exact ⟨lit_of hv, rfl, hkn, hkm⟩
    ·cases h
   ·cases h
  ·cases h
 ·rename_i ka kb
  split at h
  ·rename_i id hg
   split at h
   ·rename_i ka' kb' e l hb
    split at h
    ·rename_i he
     split at h
     ·rename_i hk
      injection h with h; injection h with h1 h2; injection h2 with h2 h3
      subst h1; subst h2
      obtain ⟨rfl, rfl⟩ := hk
      have := Nat.eq_of_beq_eq_true he
      subst this
      rw [hg] at hv
      exact ⟨hb, hv⟩
     ·cases h
    ·cases h
   ·cases h
  ·cases h
 ·split at h
  ·rename_i id hg
   split at h
   ·rename_i ty l hb
    split at h
    ·rename_i l' ids hf
     split at h
     ·rename_i l2 hk
      injection h with h; injection h with h1 h2; injection h2 with h2 h3
      subst h1; subst h2; subst h3
      rw [hg] at hv
      have h4 := hv.now
      unfold Den at h4
      obtain ⟨hn, us, h5, h6⟩ := hs.blk id _ hb
      exact ⟨l, us, hb, hn, h4.2, h5, HeldL.mono (fun W' hW => asKindL_den hk (frzL_of (frzS_of hs hσ 8) hf (fun _ _ => rfl) h6 W' hW)) hnb⟩
     ·cases h
    ·cases h
   ·cases h
  ·cases h
theorem kept_b {B' : Nat → Option Blk} {nb nb' : Nat → Prop} {v : Value} {km : KM} {ty : TypeId} {l : List AV} {ow : Option Nat} (h : Kept1 E' B' E F w nb nb' v km (.b ty l) ow) : ∃ id l0 us, ow = some id ∧ F.B id = some (.cells ty l0) ∧ E.ν id = false ∧ v = .pointer (some ⟨E.ρ id, 0, none⟩) ∧ w.heap[E.ρ id]? = some (.cells us.toArray ty (0, 0)) ∧ HeldL E' B' w nb' l us := by
 cases km with
 | p => exact h.elim
 | m k e => cases ow <;> exact h.elim
 | q ka kb => cases ow <;> exact h.elim
 | b =>
  cases ow with
  | none => exact h.elim
  | some id => obtain ⟨l0, us, h⟩ := h; exact ⟨id, l0, us, rfl, h⟩
theorem cut_each {σ : List (Nat × Nat)} {B' : Nat → Option Blk} {nb' : Nat → Prop} (hs : SimAt X E st.fs a w) (hσ : Sg E st.fs.B σ E' B') : ∀ (keep : List (Nat × KM)) {vs : List CV} {os : List (Option Nat)} {fs : List Nat}, cutVals σ st keep = some (vs, os, fs) → (∀ k, Lent E st.fs.B (NB X.okk E st.fs.B) fs k → nb' k) → vs.length = keep.length ∧ os.length = keep.length ∧ ∀ (j s : Nat) (km : KM), keep[j]? = some (s, km) → ∃ (cv : CV) (ow : Option Nat), vs[j]? = some cv ∧ os[j]? = some ow ∧ ∀ v, Held E st.fs.B w (NB X.okk E st.fs.B) (st.get s) v → Kept1 E' B' E st.fs w (NB X.okk E st.fs.B) nb' v km cv ow
 | [], vs, os, fs, h, _ => by
  injection h with h; injection h with h1 h2; injection h2 with h2 h3
  subst h1; subst h2
  exact ⟨rfl, rfl, fun j s km hj => by simp at hj⟩
 | (s0, km0) :: r, vs, os, fs, h, hnb => by
  unfold cutVals at h
  split at h
  ·rename_i v o f vs' os' fs' h1 h2
   injection h with h; injection h with e1 e2; injection e2 with e2 e3
   subst e1; subst e2; subst e3
   obtain ⟨h3, h4, h5⟩ := cut_each hs hσ r h2 fun k hk => hnb k (hk.elim .inl fun ⟨i, hi, hh⟩ => .inr ⟨i, List.mem_append_right _ hi, hh⟩)
   refine ⟨by simp [h3], by simp [h4], fun j s km hj => ?_⟩
   cases j with
   | zero =>
    simp only [List.getElem?_cons_zero, Option.some.injEq] at hj
    injection hj with e1 e2
    subst e1; subst e2
    exact ⟨v, o, rfl, rfl, fun x hx => cutOne_of hs hσ h1 hx fun k hk => hnb k (hk.elim .inl fun ⟨i, hi, hh⟩ => .inr ⟨i, List.mem_append_left _ hi, hh⟩)⟩
   | succ j =>
    simp only [List.getElem?_cons_succ] at hj ⊢
    exact h5 j s km hj
  ·cases h
theorem look_sl {t : Nat} {av : AV} : ∀ (keep : List (Nat × KM)) (vs : List CV) (j0 : Nat), look t (buildSl keep vs j0) = some av → ∃ (i : Nat) (km : KM) (cv : CV), keep[i]? = some (t, km) ∧ vs[i]? = some cv ∧ AvOf cv (j0 + i) av
 | [], vs, j0, h => by simp [buildSl, look] at h
 | (s, km) :: r, [], j0, h => by simp [buildSl, look] at h
 | (s, km) :: r, cv :: vs, j0, h => by
  have hd : ∀ x : AV, look t ((s, x) :: buildSl r vs (j0 + 1)) = some av → AvOf cv j0 x → ∃ (i : Nat) (km' : KM) (cv' : CV), ((s, km) :: r)[i]? = some (t, km') ∧ (cv :: vs)[i]? = some cv' ∧ AvOf cv' (j0 + i) av := by
   intro x hx hc
   unfold look at hx
   split at hx
   ·rename_i hb
    injection hx with hx
    subst hx
    have := Nat.eq_of_beq_eq_true hb
    subst this
    exact ⟨0, km, cv, rfl, rfl, hc⟩
   ·obtain ⟨i, km', cv', h1, h2, h3⟩ := look_sl r vs (j0 + 1) hx
    rw [Nat.add_assoc, Nat.add_comm 1 i] at h3
    exact ⟨i + 1, km', cv', h1, h2, h3⟩
  cases cv with
  | p a => exact hd a h rfl
  | m l =>
   cases km with
   | m k e => exact hd _ h rfl
   | p => simp [buildSl, look] at h
   | b => simp [buildSl, look] at h
   | q ka kb => simp [buildSl, look] at h
  | b ty l => exact hd _ h rfl
  | q l =>
   cases km with
   | q ka kb => exact hd _ h rfl
   | p => simp [buildSl, look] at h
   | b => simp [buildSl, look] at h
   | m k e => simp [buildSl, look] at h
theorem look_bl {n : Nat} {bk : Blk} : ∀ (keep : List (Nat × KM)) (vs : List CV) (j0 : Nat), look n (buildBl keep vs j0) = some bk → ∃ (i : Nat) (s : Nat) (km : KM) (cv : CV), n = j0 + i ∧ keep[i]? = some (s, km) ∧ vs[i]? = some cv ∧ BkOf km cv bk
 | [], vs, j0, h => by simp [buildBl, look] at h
 | (s, km) :: r, [], j0, h => by cases km <;> simp [buildBl, look] at h
 | (s, km) :: r, cv :: vs, j0, h => by
  have next : look n (buildBl r vs (j0 + 1)) = some bk → ∃ (i : Nat) (s' : Nat) (km' : KM) (cv' : CV), n = j0 + i ∧ ((s, km) :: r)[i]? = some (s', km') ∧ (cv :: vs)[i]? = some cv' ∧ BkOf km' cv' bk := by
   intro hx
   obtain ⟨i, s', km', cv', h0, h1, h2, h3⟩ := look_bl r vs (j0 + 1) hx
   exact ⟨i + 1, s', km', cv', by omega, h1, h2, h3⟩
  have hd : ∀ x : Blk, look n ((j0, x) :: buildBl r vs (j0 + 1)) = some bk → BkOf km cv x → ∃ (i : Nat) (s' : Nat) (km' : KM) (cv' : CV), n = j0 + i ∧ ((s, km) :: r)[i]? = some (s', km') ∧ (cv :: vs)[i]? = some cv' ∧ BkOf km' cv' bk := by
   intro x hx hc
   unfold look at hx
   split at hx
   ·rename_i hb
    injection hx with hx
    subst hx
    exact ⟨0, s, km, cv, by rw [Nat.eq_of_beq_eq_true hb]; rfl, rfl, rfl, hc⟩
   ·exact next hx
  cases cv with
  | p a => cases km <;> exact next h
  | m l =>
   cases km with
   | m k e => exact hd _ h rfl
   | p => exact next h
   | b => exact next h
   | q ka kb => exact next h
  | b ty l => cases km <;> exact hd _ h rfl
  | q l =>
   cases km with
   | q ka kb => exact hd _ h rfl
   | p => exact next h
   | b => exact next h
   | m k e => exact next h
theorem bl_look {km : KM} {cv : CV} {bk : Blk} {s : Nat} : ∀ (keep : List (Nat × KM)) (vs : List CV) (j0 i : Nat), keep[i]? = some (s, km) → vs[i]? = some cv → BkOf km cv bk → look (j0 + i) (buildBl keep vs j0) = some bk
 | [], vs, j0, i, h, _, _ => by simp at h
 | (s0, km0) :: r, [], j0, i, _, h, _ => by simp at h
 | (s0, km0) :: r, cv0 :: vs, j0, i, h1, h2, h3 => by
  have next : ∀ i', i = i' + 1 → look (j0 + i) (buildBl r vs (j0 + 1)) = some bk := by
   rintro i' rfl
   simp only [List.getElem?_cons_succ] at h1 h2
   have := bl_look r vs (j0 + 1) i' h1 h2 h3
   rwa [Nat.add_assoc, Nat.add_comm 1 i'] at this
  have hd : ∀ x : Blk, BkOf km0 cv0 x → look (j0 + i) ((j0, x) :: buildBl r vs (j0 + 1)) = some bk := by
   intro x hx
   cases i with
   | zero =>
    simp only [List.getElem?_cons_zero, Option.some.injEq, Prod.mk.injEq] at h1 h2
    obtain ⟨_, rfl⟩ := h1
    subst h2
    have : x = bk := by
     cases km0 with
     | p => cases cv0 with
      | b ty l => exact hx.trans h3.symm
      | p a => exact hx.elim
      | m l => exact hx.elim
      | q l => exact hx.elim
     | b => cases cv0 with
      | b ty l => exact hx.trans h3.symm
      | p a => exact hx.elim
      | m l => exact hx.elim
      | q l => exact hx.elim
     | m k e => cases cv0 with
      | b ty l => exact hx.trans h3.symm
      | p a => exact hx.elim
      | m l => exact hx.trans h3.symm
      | q l => exact hx.elim
     | q ka kb => cases cv0 with
      | b ty l => exact hx.trans h3.symm
      | p a => exact hx.elim
      | m l => exact hx.elim
      | q l => exact hx.trans h3.symm
    subst this
    simp [look]
   | succ i =>
    have h4 := next i rfl
    have : Nat.beq (j0 + (i + 1)) j0 = false := by cases hb : Nat.beq (j0 + (i + 1)) j0 with
     | false => rfl
     | true => have := Nat.eq_of_beq_eq_true hb; omega
    show (match Nat.beq (j0 + (i + 1)) j0 with | true => some x | false => look (j0 + (i + 1)) (buildBl r vs (j0 + 1))) = some bk
    rw [this]
    exact h4
  have no : ¬ (∃ x, BkOf km0 cv0 x) → look (j0 + i) (buildBl r vs (j0 + 1)) = some bk := by
   intro hn
   cases i with
   | zero =>
    simp only [List.getElem?_cons_zero, Option.some.injEq, Prod.mk.injEq] at h1 h2
    obtain ⟨_, rfl⟩ := h1
    subst h2
    exact absurd ⟨bk, h3⟩ hn
   | succ i => exact next i rfl
  cases cv0 with
  | p a => cases km0 <;> exact no fun ⟨x, hx⟩ => hx.elim
  | m l =>
   cases km0 with
   | m k e => exact hd _ rfl
   | p => exact no fun ⟨x, hx⟩ => hx.elim
   | b => exact no fun ⟨x, hx⟩ => hx.elim
   | q ka kb => exact no fun ⟨x, hx⟩ => hx.elim
  | b ty l => cases km0 <;> exact hd _ rfl
  | q l =>
   cases km0 with
   | q ka kb => exact hd _ rfl
   | p => exact no fun ⟨x, hx⟩ => hx.elim
   | b => exact no fun ⟨x, hx⟩ => hx.elim
   | m k e => exact no fun ⟨x, hx⟩ => hx.elim
theorem cut_own {σ : List (Nat × Nat)} : ∀ (keep : List (Nat × KM)) {vs : List CV} {os : List (Option Nat)} {fs : List Nat} (j0 : Nat) {id j : Nat}, cutVals σ st keep = some (vs, os, fs) → look id (owners st keep j0) = some j → ∃ i, j = j0 + i ∧ os[i]? = some (some id) ∧ ∃ s km cv, keep[i]? = some (s, km) ∧ vs[i]? = some cv ∧ ((∃ k e l, km = .m k e ∧ cv = .m l ∧ st.blk id = some (.ints k e l)) ∨ (∃ q ty l, km = .b q ∧ cv = .b ty l) ∨ ∃ a b l, km = .q a b ∧ cv = .q l ∧ st.blk id = some (.ints (.map a b) 0 l))
 | [], vs, os, fs, j0, id, j, _, h => by simp [owners, look] at h
 | (s, km) :: r, vs, os, fs, j0, id, j, h, ho => by
  unfold cutVals at h
  split at h
  ·rename_i v o f vs' os' fs' h1 h2
   injection h with h; injection h with e1 e2; injection e2 with e2 e3
   subst e1; subst e2; subst e3
   have next : look id (owners st r (j0 + 1)) = some j → ∃ i, j = j0 + i ∧ (o :: os')[i]? = some (some id) ∧ ∃ s' km' cv, ((s, km) :: r)[i]? = some (s', km') ∧ (v :: vs')[i]? = some cv ∧ ((∃ k e l, km' = .m k e ∧ cv = .m l ∧ st.blk id = some (.ints k e l)) ∨ (∃ q ty l, km' = .b q ∧ cv = .b ty l) ∨ ∃ a b l, km' = .q a b ∧ cv = .q l ∧ st.blk id = some (.ints (.map a b) 0 l)) := fun hn => by
    obtain ⟨i, h3, h4, s', km', cv', h5, h6, h7⟩ := cut_own r (j0 + 1) h2 hn
    exact ⟨i + 1, by omega, h4, s', km', cv', h5, h6, h7⟩
   cases km with
   | p q => exact next ho
   | m k e =>
    unfold owners at ho
    split at ho
    ·rename_i id' hg
     unfold look at ho
     split at ho
     ·rename_i hb
      injection ho with ho
      subst ho
      have := Nat.eq_of_beq_eq_true hb
      subst this
      unfold cutOne at h1
      rw [hg] at h1
      simp only at h1
      split at h1
      ·rename_i k' e' l hbk
       split at h1
       ·rename_i he
        split at h1
        ·rename_i hk
         injection h1 with h1; injection h1 with h3 h4; injection h4 with h4 h5
         subst h3; subst h4; subst hk
         have := Nat.eq_of_beq_eq_true he
         subst this
         exact ⟨0, rfl, rfl, s, _, _, rfl, rfl, .inl ⟨_, _, _, rfl, rfl, hbk⟩⟩
        ·cases h1
       ·cases h1
      ·cases h1
     ·exact next ho
    ·exact next ho
   | b q =>
    unfold owners at ho
    split at ho
    ·rename_i id' hg
     unfold look at ho
     split at ho
     ·rename_i hb
      injection ho with ho
      subst ho
      have := Nat.eq_of_beq_eq_true hb
      subst this
      unfold cutOne at h1
      rw [hg] at h1
      simp only at h1
      split at h1
      ·rename_i ty l hbk
       split at h1
       ·split at h1
        ·injection h1 with h1; injection h1 with h3 h4; injection h4 with h4 h5
         subst h3; subst h4
         exact ⟨0, rfl, rfl, s, _, _, rfl, rfl, .inr (.inl ⟨_, _, _, rfl, rfl⟩)⟩
        ·cases h1
       ·cases h1
      ·cases h1
     ·exact next ho
    ·exact next ho
   | q ka kb =>
    unfold owners at ho
    split at ho
    ·rename_i id' hg
     unfold look at ho
     split at ho
     ·rename_i hb
      injection ho with ho
      subst ho
      have := Nat.eq_of_beq_eq_true hb
      subst this
      unfold cutOne at h1
      rw [hg] at h1
      simp only at h1
      split at h1
      ·rename_i ka' kb' e' l hbk
       split at h1
       ·rename_i he
        split at h1
        ·rename_i hk
         injection h1 with h1; injection h1 with h3 h4; injection h4 with h4 h5
         subst h3; subst h4
         obtain ⟨rfl, rfl⟩ := hk
         have := Nat.eq_of_beq_eq_true he
         subst this
         exact ⟨0, rfl, rfl, s, _, _, rfl, rfl, .inr (.inr ⟨_, _, _, rfl, rfl, hbk⟩)⟩
        ·cases h1
       ·cases h1
      ·cases h1
     ·exact next ho
    ·exact next ho
  ·cases h
def enOf (E : En) (os : List (Option Nat)) : En := ⟨fun j => match os[j]? with
 | some (some i) => E.ρ i
 | _ => 0, fun j => match os[j]? with
 | some (some i) => E.γ i
 | _ => 0, fun j => match os[j]? with
 | some (some i) => E.ν i
 | _ => true⟩
theorem en_some {os : List (Option Nat)} {j i : Nat} (h : os[j]? = some (some i)) : (enOf E os).ρ j = E.ρ i ∧ (enOf E os).γ j = E.γ i ∧ (enOf E os).ν j = E.ν i := by simp [enOf, h]
theorem en_none {os : List (Option Nat)} {j : Nat} (h : os[j]? = some none) : (enOf E os).ν j = true := by simp [enOf, h]
theorem cut_sim {keep : List (Nat × KM)} {K : List CV → Option R} (hsim : Sim X st.fs a w) (hN : (keep.all fun p => Nat.blt p.1 X.N) = true) (h : cutTo st keep K = some r) : ∃ vs, K vs = some r ∧ Sim X (build keep vs).fs a w := by
 obtain ⟨E, hs⟩ := hsim
 unfold cutTo at h
 split at h
 ·rename_i vs os fs hc
  split at h
  ·rename_i hd
   rw [Bool.and_eq_true] at hd
   have hnd := nodup_of hd.1
   have hdis : ∀ i, i ∈ fs → i ∈ ownIds os → False := fun i h1 h2 => by
    have := hd.2
    rw [meets_of h1 h2] at this
    cases this
   refine ⟨vs, h, enOf E os, ?_⟩
   let Bn : Nat → Option Blk := fun i => look i (buildBl keep vs 0)
   have hσ : Sg E st.fs.B (owners st keep 0) (enOf E os) Bn := by
    intro id j hj
    obtain ⟨i, h1, h2, s, km, cv, h3, h4, h5⟩ := cut_own keep 0 hc hj
    rw [Nat.zero_add] at h1
    subst h1
    have h6 := en_some (E := E) h2
    rcases h5 with ⟨k, e, l, rfl, rfl, h7⟩ | ⟨q, ty, l, rfl, rfl⟩ | ⟨ka, kb, l, rfl, rfl, h7⟩
    ·have h8 := bl_look keep vs 0 j h3 h4 (rfl : BkOf (.m k e) (.m l) (.ints k e l))
     rw [Nat.zero_add] at h8
     refine ⟨by show (look j _).isSome = true; rw [h8]; rfl, h6.1, h6.2.1, h6.2.2, fun k' e' l' hl => ?_⟩
     have hl' : look j (buildBl keep vs 0) = some (.ints k' e' l') := hl
     rw [h8] at hl'
     rw [← hl']; exact h7
    ·have h8 := bl_look keep vs 0 j h3 h4 (rfl : BkOf (.b q) (.b ty l) (.cells ty l))
     rw [Nat.zero_add] at h8
     refine ⟨by show (look j _).isSome = true; rw [h8]; rfl, h6.1, h6.2.1, h6.2.2, fun k' e' l' hl => ?_⟩
     have hl' : look j (buildBl keep vs 0) = some (.ints k' e' l') := hl
     rw [h8] at hl'
     cases hl'
    ·have h8 := bl_look keep vs 0 j h3 h4 (rfl : BkOf (.q ka kb) (.q l) (.ints (.map ka kb) 0 l))
     rw [Nat.zero_add] at h8
     refine ⟨by show (look j _).isSome = true; rw [h8]; rfl, h6.1, h6.2.1, h6.2.2, fun k' e' l' hl => ?_⟩
     have hl' : look j (buildBl keep vs 0) = some (.ints k' e' l') := hl
     rw [h8] at hl'
     rw [← hl']; exact h7
   obtain ⟨hl1, hl2, heach⟩ := cut_each (nb' := Lent E st.fs.B (NB X.okk E st.fs.B) fs) hs hσ keep hc fun k hk => hk
   have hplace : ∀ (j : Nat) (bk : Blk), Bn j = some bk → ∃ s km cv ow v, keep[j]? = some (s, km) ∧ vs[j]? = some cv ∧ os[j]? = some ow ∧ a.tmps[s]? = some v ∧ BkOf km cv bk ∧ Kept1 (enOf E os) Bn E st.fs w (NB X.okk E st.fs.B) (Lent E st.fs.B (NB X.okk E st.fs.B) fs) v km cv ow := by
    intro j bk hj
    obtain ⟨i, s, km, cv, h1, h2, h3, h4⟩ := look_bl keep vs 0 hj
    rw [Nat.zero_add] at h1
    subst h1
    obtain ⟨cv', ow, h5, h6, h7⟩ := heach _ s km h2
    rw [h3] at h5
    injection h5 with h5
    subst h5
    have hsN : s < X.N := by
     rw [List.all_eq_true] at hN
     exact Nat.le_of_ble_eq_true (hN _ (List.mem_of_getElem? h2))
    obtain ⟨v, h8, h9⟩ := hs.slot s hsN
    exact ⟨s, km, cv, ow, v, h2, h3, h6, h8, h4, h7 v h9⟩
   have hlive : ∀ j, Live (enOf E os) Bn j → ∃ i, os[j]? = some (some i) ∧ Live E st.fs.B i := by
    rintro j ⟨⟨bk, h1, h2⟩, hn⟩
    obtain ⟨s, km, cv, ow, v, h3, h4, h5, h6, h7, h8⟩ := hplace j bk h1
    cases ow with
    | none => rw [en_none h5] at hn; cases hn
    | some i =>
     rw [(en_some h5).2.2] at hn
     refine ⟨i, h5, ?_, hn⟩
     cases cv with
     | p a' => cases km <;> exact h7.elim
     | m l =>
      cases km with
      | m k e => exact ⟨_, h8.1, by simp⟩
      | p => exact h7.elim
      | b => exact h7.elim
      | q ka kb => exact h7.elim
     | q l =>
      cases km with
      | q ka kb => exact ⟨_, h8.1, by simp⟩
      | p => exact h7.elim
      | b => exact h7.elim
      | m k e => exact h7.elim
     | b ty l =>
      obtain ⟨id, l0, us, h9, h10, _⟩ := kept_b h8
      injection h9 with h9
      subst h9
      exact ⟨_, h10, by simp⟩
   have hnb : ∀ k, Lent E st.fs.B (NB X.okk E st.fs.B) fs k → k < w.heap.size → NB X.okk (enOf E os) Bn k := by
    intro k hk hkl
    have hok : X.okk k := by
     rcases hk with hk | ⟨i, h1, h2, h3⟩
     ·exact hk.1
     ·rw [← h3]; exact hs.new _ (hs.own i h2)
    refine ⟨hok, fun j hj he => ?_⟩
    obtain ⟨i, h1, h2⟩ := hlive j hj
    rw [(en_some h1).1] at he
    rcases hk with hk | ⟨i', h3, h4, h5⟩
    ·exact hk.2 i h2 he
    ·have := hs.inj i i' h2 h4 (he.trans h5.symm)
     subst this
     exact hdis i h3 (own_mem (List.mem_of_getElem? h1))
   have hF : ∀ b v', Held (enOf E os) Bn w (Lent E st.fs.B (NB X.okk E st.fs.B) fs) b v' → Held (enOf E os) Bn w (NB X.okk (enOf E os) Bn) b v' := fun b v' hb => Held.move hb (Nat.le_refl _) fun k hk hl => ⟨rfl, hnb k hk hl⟩
   refine ⟨hs.size, hs.nod, hs.new, hs.gl, hs.fr, fun t ht => ?_, fun j bk hj => ?_, fun j hj => ?_, fun j j' hj hj' he => ?_, hs.pin⟩
   ·obtain ⟨v, h1, h2⟩ := hs.slot t ht
    refine ⟨v, h1, ?_⟩
    show Held _ _ _ _ ((build keep vs).get t) v
    unfold St.get
    cases hlk : look t (build keep vs).sl with
    | none => exact held_any
    | some av =>
     obtain ⟨i, km, cv, h3, h4, h5⟩ := look_sl keep vs 0 hlk
     rw [Nat.zero_add] at h5
     obtain ⟨cv', ow, h6, h7, h8⟩ := heach i t km h3
     rw [h4] at h6
     injection h6 with h6
     subst h6
     have h9 := h8 v h2
     show Held _ Bn _ _ av v
     cases cv with
     | p a' =>
      have h5' : av = a' := h5
      subst h5'
      refine hF _ _ ?_
      cases km <;> cases ow <;> exact h9
     | m l =>
      have h5' : av = .sli i := h5
      subst h5'
      cases km with
      | p => exact h9.elim
      | b => cases ow <;> exact h9.elim
      | q ka kb => cases ow <;> exact h9.elim
      | m k e =>
       have hB : Bn i = some (.ints k e l) := by
        have := bl_look keep vs 0 i h3 h4 (rfl : BkOf (.m k e) (.m l) (.ints k e l))
        rwa [Nat.zero_add] at this
       intro W' hW
       unfold Den
       rw [hB]
       cases ow with
       | none =>
        obtain ⟨h10, h11, _⟩ := h9
        refine ⟨rfl, ⟨_, _, _, h10⟩, fun k' e' l' _ => ?_⟩
        rw [en_none h7, if_pos rfl]
        exact h10
       | some id =>
        obtain ⟨h10, h11⟩ := h9
        have h12 := h11.now
        unfold Den at h12
        refine ⟨rfl, h12.2.1, fun k' e' l' hl => ?_⟩
        injection hl with hl
        injection hl with _ _ hl
        rw [(en_some h7).1, (en_some h7).2.1, (en_some h7).2.2, ← hl]
        exact h12.2.2 _ _ _ h10
     | q l =>
      have h5' : av = .mp i := h5
      subst h5'
      cases km with
      | p => cases ow <;> exact h9.elim
      | b => cases ow <;> exact h9.elim
      | m k e => cases ow <;> exact h9.elim
      | q ka kb =>
       cases ow with
       | none => exact h9.elim
       | some id =>
        obtain ⟨h10, h11⟩ := h9
        have hB : Bn i = some (.ints (.map ka kb) 0 l) := by
         have := bl_look keep vs 0 i h3 h4 (rfl : BkOf (.q ka kb) (.q l) (.ints (.map ka kb) 0 l))
         rwa [Nat.zero_add] at this
        intro W' hW
        unfold Den
        rw [hB]
        refine ⟨rfl, fun k' e' l' hl => ?_⟩
        rw [(en_some h7).1]
        exact mp_of h10 h11
     | b ty l =>
      have h5' : av = .ptr i 0 := h5
      subst h5'
      obtain ⟨id, l0, us, rfl, h10, h11, h12, _⟩ := kept_b h9
      have hB : Bn i = some (.cells ty l) := by
       have := bl_look (bk := .cells ty l) keep vs 0 i h3 h4 (by cases km <;> rfl)
       rwa [Nat.zero_add] at this
      intro W' hW
      unfold Den
      rw [hB]
      exact ⟨rfl, by rw [(en_some h7).1]; exact h12⟩
   ·have hj' : Bn j = some bk := hj
    obtain ⟨s, km, cv, ow, v, h3, h4, h5, h6, h7, h8⟩ := hplace j bk hj'
    cases cv with
    | p a' => cases km <;> exact h7.elim
    | m l =>
     cases km with
     | p => exact h7.elim
     | b => exact h7.elim
     | q ka kb => exact h7.elim
     | m k e =>
      have h7' : bk = .ints k e l := h7
      subst h7'
      cases ow with
      | none =>
       obtain ⟨_, h9, h10, h11⟩ := h8
       refine (blk_oth h11 fun hq => by rw [h10] at hq; cases hq).2 ?_
       rw [en_none h5, if_pos rfl]; exact h9
      | some id => exact blk_move (en_some h5).1 (en_some h5).2.1 (en_some h5).2.2 (fun _ => rfl) (Nat.le_refl _) (fun k hk hl => ⟨rfl, hnb k (.inl hk) hl⟩) (hs.blk id _ h8.1)
    | q l =>
     cases km with
     | p => exact h7.elim
     | b => exact h7.elim
     | m k e => exact h7.elim
     | q ka kb =>
      have h7' : bk = .ints (.map ka kb) 0 l := h7
      subst h7'
      cases ow with
      | none => exact h8.elim
      | some id => exact blk_move (en_some h5).1 (en_some h5).2.1 (en_some h5).2.2 (fun _ => rfl) (Nat.le_refl _) (fun k hk hl => ⟨rfl, hnb k (.inl hk) hl⟩) (hs.blk id _ h8.1)
    | b ty l =>
     obtain ⟨id, l0, us, rfl, h10, h11, h12, h13, h14⟩ := kept_b h8
     have h7' : bk = .cells ty l := by cases km <;> exact h7
     subst h7'
     refine ⟨by rw [(en_some h5).2.2]; exact h11, us, by rw [(en_some h5).1]; exact h13, ?_⟩
     exact HeldL.move h14 (Nat.le_refl _) fun k hk hl => ⟨rfl, hnb k hk hl⟩
   ·obtain ⟨i, h1, h2⟩ := hlive j hj
    rw [(en_some h1).1]
    exact hs.own i h2
   ·obtain ⟨i, h1, h2⟩ := hlive j hj
    obtain ⟨i', h3, h4⟩ := hlive j' hj'
    rw [(en_some h1).1, (en_some h3).1] at he
    have := hs.inj i i' h2 h4 he
    subst this
    exact own_inj hnd h1 h3
  ·cases h
 ·cases h
end
structure Cfg (R : Type) where
 T : TT
 S : FuncId → Option (Spec R)
 N : Nat
 pn : Option Nat
 cutR : Nat → Option (List (Nat × KM))
 cutL : Nat → Option (List (Nat × KM))
 fz : Nat → List Nat
 F : Nat → List CV → Option R
def frzSt (st : St) : List Nat → Option St
 | [] => some st
 | s :: r => (match frz st 8 (st.get s) with
  | some (a, ids) => frzSt ⟨(s, a) :: st.sl, deadB ids ++ st.bl, st.nx⟩ r
  | none => none)
noncomputable def regV {R : Type} (G : Cfg R) (id : Nat) (ops : Array Oper) (draw : Bool) (st : St) (K : St → Option R) : Option R := match frzSt st (G.fz id), ops.toList.all (within G.N G.pn ops) && (G.fz id).all (fun s => Nat.blt s G.N) with
 | some st1, true => runOps G.T G.S ops (guards ops ops.toList) ops.toList st1.nx st1 [] fun st' tr => (match draw with
  | false => K ⟨st'.sl, st'.bl, st'.nx + ops.toList.length⟩
  | true => (match waitsOk (rtab .any ops).2 (mkB (rtab .any ops).2) && baseOk (rtab .any ops).2 (List.range ops.size) && apart ops (mkB (rtab .any ops).2) [] 0 tr.reverse with
   | true => K ⟨st'.sl, st'.bl, st'.nx + ops.toList.length⟩
   | false => none))
 | _, _ => none
def nameOf : Code → Nat
 | .region id _ _ => id
 | .seq a _ => nameOf a
 | .block _ b => nameOf b
 | .loop b => nameOf b
 | .scope b => nameOf b
 | _ => 0
def atEnd {R : Type} (id : Nat) (K : Exit → St → Option R) : Exit → St → Option R := fun e st => match e with
 | .exit i => (match Nat.beq i id with
  | true => K .normal st
  | false => K (.exit i) st)
 | e => K e st
def andThen {R : Type} (k : St → Option R) (K : Exit → St → Option R) : Exit → St → Option R := fun e st => match e with
 | .normal => k st
 | e => K e st
def slotsIn (N : Nat) : List (Nat × KM) → Bool
 | [] => true
 | p :: r => match Nat.blt p.1 N with
  | true => slotsIn N r
  | false => false
def toCut {R : Type} (G : Cfg R) (key : Nat) (keep : List (Nat × KM)) (st : St) : Option R := match slotsIn G.N keep with
 | true => cutTo st keep (G.F key)
 | false => none
def cutL {R : Type} (G : Cfg R) (n : Nat) (st : St) : Option R := match G.cutL n with
 | some keep => toCut G (2 * n + 1) keep st
 | none => none
def labs : Code → List Nat
 | .seq x y => labs x ++ labs y
 | .label l => [l]
 | _ => []
def gotoK {R : Type} (G : Cfg R) (x : Code) (K : Exit → St → Option R) : Exit → St → Option R := fun e st => match e with
 | .goto l => (match (labs x).any (Nat.beq l) with
  | true => cutL G (1000 + l) st
  | false => none)
 | e => K e st
def slotIn (N : Nat) : Operand → Bool
 | .tmp s => Nat.blt s N
 | _ => true
def loopN {R : Type} (f : St → (Exit → St → Option R) → Option R) (K : Exit → St → Option R) : Nat → St → Option R
 | 0, _ => none
 | n + 1, st => f st (andThen (loopN f K n) K)
def again {R : Type} (G : Cfg R) (f : St → (Exit → St → Option R) → Option R) (n : Nat) (K : Exit → St → Option R) (st : St) : Option R := match G.cutL n with
 | some _ => cutL G n st
 | none => loopN f K 2 st
noncomputable def run {R : Type} (G : Cfg R) : Code → St → (Exit → St → Option R) → Option R
 | .skip, st, K => K .normal st
 | .label _, st, K => K .normal st
 | .region id ops draw, st, K => (match G.cutR id with
  | some keep => toCut G (2 * id) keep st
  | none => regV G id ops draw st (K .normal))
 | .seq x y, st, K => run G x st (andThen (fun st' => run G y st' K) K)
 | .cond c x y, st, K => (match slotIn G.N c with
  | true => onB (ev st c) (run G x st K) (run G y st K)
  | false => none)
 | .block id x, st, K => run G x st (atEnd id K)
 | .loop x, st, K => again G (fun st K => run G x st K) (nameOf x) K st
 | .scope x, st, K => run G x st (gotoK G x K)
 | .goto l, st, K => K (.goto l) st
 | .exit id, st, K => K (.exit id) st
 | .ret, st, K => K .ret st
 | _, _, _ => none
noncomputable def occs {R : Type} (G : Cfg R) : Code → (Exit → St → Option R) → List (Nat × (St → Option R))
 | .region id ops draw, K => [(2 * id, fun st => regV G id ops draw st (K .normal))]
 | .seq x y, K => occs G x (andThen (fun st' => run G y st' K) K) ++ occs G y K
 | .cond _ x y, K => occs G x K ++ occs G y K
 | .block id x, K => occs G x (atEnd id K)
 | .loop x, K => (2 * nameOf x + 1, fun st => run G x st (andThen (again G (fun st K => run G x st K) (nameOf x) K) K)) :: occs G x (andThen (again G (fun st K => run G x st K) (nameOf x) K) K)
 | .scope x, K => ((labs x).map fun l => (2 * (1000 + l) + 1, fun st => run G ((findLabel x l).getD .skip) st (gotoK G x K))) ++ occs G x (gotoK G x K)
 | _, _ => []
def Lwp (P : Program) (c : Code) (Q : Exit → Act → World → Prop) (a : Act) (w : World) : Prop :=
 ∀ (b : Frame) (k : List Item) (cs : List Frame), ∃ e a' w', Q e a' w' ∧ Arrives P (lone (b.at a (.code c :: .inLoop c :: k)) cs w) b k cs e a' w'
theorem lwp_loop {P : Program} {c : Code} {Q : Exit → Act → World → Prop} {a : Act} {w : World} (h : Lwp P c Q a w) : (Code.loop c).wp P Q a w := fun b k cs => by
 obtain ⟨e, a', w', hq, harr⟩ := h b k cs
 exact ⟨e, a', w', hq, .of_steps (.one step_loop) harr⟩
theorem lwp_round {P : Program} {c : Code} {Q : Exit → Act → World → Prop} {a : Act} {w : World} (h : c.wp P (Exit.then (Lwp P c Q) Q) a w) : Lwp P c Q a w := by
 intro b k cs
 obtain ⟨e, a₁, w₁, hq, harr⟩ := h b (.inLoop c :: k) cs
 cases e with
 | normal =>
  obtain ⟨e₂, a₂, w₂, hq₂, harr₂⟩ := hq b k cs
  exact ⟨e₂, a₂, w₂, hq₂, .of_steps (Steps.trans harr (.one step_inLoop)) harr₂⟩
 | exit id => exact ⟨_, a₁, w₁, hq, .pass (x := .inLoop c) rfl (fun _ _ => .inl (by simp)) harr⟩
 | goto l => exact ⟨_, a₁, w₁, hq, .pass (x := .inLoop c) rfl (fun _ _ => .inl (by simp)) harr⟩
 | ret => exact ⟨_, a₁, w₁, hq, .pass (x := .inLoop c) rfl (fun _ _ => .inl (by simp)) harr⟩
 | panic ch => exact ⟨_, a₁, w₁, hq, .pass (x := .inLoop c) rfl (fun _ _ => .inl (by simp)) harr⟩
 | outgrown => exact ⟨_, a₁, w₁, hq, .pass (x := .inLoop c) rfl (fun _ _ => .inl (by simp)) harr⟩
def Swp (P : Program) (x rest : Code) (Q : Exit → Act → World → Prop) (a : Act) (w : World) : Prop :=
 ∀ (b : Frame) (k : List Item) (cs : List Frame), ∃ e a' w', Q e a' w' ∧ Arrives P (lone (b.at a (.code rest :: .inScope x :: k)) cs w) b k cs e a' w'
def gotoQ (P : Program) (x : Code) (Q : Exit → Act → World → Prop) : Exit → Act → World → Prop
 | .goto l, a, w => ∃ rest, findLabel x l = some rest ∧ Swp P x rest Q a w
 | e, a, w => Q e a w
theorem swp_round {P : Program} {x rest : Code} {Q : Exit → Act → World → Prop} {a : Act} {w : World} (h : rest.wp P (gotoQ P x Q) a w) : Swp P x rest Q a w := by
 intro b k cs
 obtain ⟨e, a₁, w₁, hq, harr⟩ := h b (.inScope x :: k) cs
 cases e with
 | normal => exact ⟨.normal, a₁, w₁, hq, Steps.trans harr (.one step_inScope)⟩
 | exit id => exact ⟨.exit id, a₁, w₁, hq, fun k' hk => harr k' (by simp [exitTo, hk])⟩
 | goto l =>
  obtain ⟨rest', hf, h2⟩ := hq
  obtain ⟨e₂, a₂, w₂, hq₂, harr₂⟩ := h2 b k cs
  exact ⟨e₂, a₂, w₂, hq₂, .of_steps (harr _ (by simp [gotoIn, hf])) harr₂⟩
 | ret => exact ⟨_, a₁, w₁, hq, harr⟩
 | panic ch => exact ⟨_, a₁, w₁, hq, harr⟩
 | outgrown => exact ⟨_, a₁, w₁, hq, harr⟩
theorem swp_scope {P : Program} {x : Code} {Q : Exit → Act → World → Prop} {a : Act} {w : World} (h : Swp P x x Q a w) : (Code.scope x).wp P Q a w := by
 intro b k cs
 obtain ⟨e, a₁, w₁, hq, harr⟩ := h b k cs
 exact ⟨e, a₁, w₁, hq, .of_steps (.one step_scope) harr⟩
theorem lab_find : ∀ (x : Code) {l : Nat}, (labs x).any (Nat.beq l) = true → ∃ rest, findLabel x l = some rest
 | .seq x y, l, h => by
  simp only [labs, List.any_append, Bool.or_eq_true] at h
  simp only [findLabel]
  cases hx : findLabel x l with
  | some r => exact ⟨_, rfl⟩
  | none =>
   rcases h with h | h
   ·obtain ⟨r, hr⟩ := lab_find x h; rw [hx] at hr; cases hr
   ·exact lab_find y h
 | .label l', l, h => by
  simp only [labs, List.any_cons, List.any_nil, Bool.or_false] at h
  have := Nat.eq_of_beq_eq_true h
  subst this
  exact ⟨.skip, by simp [findLabel]⟩
 | .skip, l, h => by simp [labs] at h
 | .region _ _ _, l, h => by simp [labs] at h
 | .cond _ _ _, l, h => by simp [labs] at h
 | .block _ _, l, h => by simp [labs] at h
 | .loop _, l, h => by simp [labs] at h
 | .rangeFunc _ _ _ _, l, h => by simp [labs] at h
 | .exit _, l, h => by simp [labs] at h
 | .scope _, l, h => by simp [labs] at h
 | .goto _, l, h => by simp [labs] at h
 | .ret, l, h => by simp [labs] at h
 | .refuse _, l, h => by simp [labs] at h
def occQ (P : Program) : Code → (Exit → Act → World → Prop) → List (Nat × (Act → World → Prop))
 | .region id ops draw, Q => [(2 * id, (Code.region id ops draw).wp P Q)]
 | .seq x y, Q => occQ P x (Exit.then (y.wp P Q) Q) ++ occQ P y Q
 | .cond _ x y, Q => occQ P x Q ++ occQ P y Q
 | .block id x, Q => occQ P x (Exit.inBlock id Q)
 | .loop x, Q => (2 * nameOf x + 1, Lwp P x Q) :: occQ P x (Exit.then (Lwp P x Q) Q)
 | .scope x, Q => ((labs x).map fun l => (2 * (1000 + l) + 1, Swp P x ((findLabel x l).getD .skip) Q)) ++ occQ P x (gotoQ P x Q)
 | _, _ => []
theorem occQ_find {P : Program} {l : Nat} : ∀ (x : Code) {rest : Code} (Q : Exit → Act → World → Prop), findLabel x l = some rest → ∀ p ∈ occQ P rest Q, p ∈ occQ P x Q
 | .seq x y, rest, Q, h, p, hp => by
  simp only [findLabel] at h
  simp only [occQ]
  split at h
  ·rename_i r hr
   injection h with h
   subst h
   simp only [occQ] at hp
   rcases List.mem_append.1 hp with hp | hp
   ·exact List.mem_append_left _ (occQ_find x _ hr p hp)
   ·exact List.mem_append_right _ hp
  ·exact List.mem_append_right _ (occQ_find y _ h p hp)
 | .label l', rest, Q, h, p, hp => by
  simp only [findLabel] at h
  split at h
  ·injection h with h; subst h; cases hp
  ·cases h
 | .skip, rest, Q, h, p, hp => by simp [findLabel] at h
 | .region _ _ _, rest, Q, h, p, hp => by simp [findLabel] at h
 | .cond _ _ _, rest, Q, h, p, hp => by simp [findLabel] at h
 | .block _ _, rest, Q, h, p, hp => by simp [findLabel] at h
 | .loop _, rest, Q, h, p, hp => by simp [findLabel] at h
 | .rangeFunc _ _ _ _, rest, Q, h, p, hp => by simp [findLabel] at h
 | .exit _, rest, Q, h, p, hp => by simp [findLabel] at h
 | .scope _, rest, Q, h, p, hp => by simp [findLabel] at h
 | .goto _, rest, Q, h, p, hp => by simp [findLabel] at h
 | .ret, rest, Q, h, p, hp => by simp [findLabel] at h
 | .refuse _, rest, Q, h, p, hp => by simp [findLabel] at h
section
variable {P : Program} {X : Cx} {E E' : En} {a : Act} {w w' : World} {st : St} {R : Type} {r : R} {G : Cfg R}
def keepOf (G : Cfg R) (key : Nat) : Option (List (Nat × KM)) := if key % 2 = 0 then G.cutR (key / 2) else G.cutL (key / 2)
def Rel (X : Cx) (r : R) (K : Exit → St → Option R) (Q : Exit → Act → World → Prop) : Prop := ∀ e st a w, K e st = some r → Sim X st.fs a w → Q e a w
def HG (P : Program) (X : Cx) (r : R) (G : Cfg R) (l : List (Nat × (Act → World → Prop))) : Prop := ∀ p ∈ l, ∀ keep vs a w, keepOf G p.1 = some keep → G.F p.1 vs = some r → Sim X (build keep vs).fs a w → p.2 a w
structure Fit (P : Program) (X : Cx) (G : Cfg R) : Prop where
 T : G.T.ok P
 S : ∀ f s, G.S f = some s → s.ok P f
 N : X.N = G.N
 pn : X.pin.map Prod.fst = G.pn
 mo : P.follows .mixedOrders = true
theorem frz_one {s : Nat} {a' : AV} {ids : List Nat} (hsN : s < X.N) (h : frz st 8 (st.get s) = some (a', ids)) (hsim : Sim X st.fs a w) : Sim X (St.fs ⟨(s, a') :: st.sl, deadB ids ++ st.bl, st.nx⟩) a w := by
 obtain ⟨E, hs⟩ := hsim
 refine ⟨E, ?_⟩
 let Bn : Nat → Option Blk := fun i => look i (deadB ids ++ st.bl)
 have hB : ∀ i, Bn i = if i ∈ ids then some .dead else st.blk i := fun i => by
  show look i (deadB ids ++ st.bl) = _
  rw [look_append, dead_look]
  by_cases hi : i ∈ ids <;> simp [hi, St.blk]
 have hle : BLe st.fs.B Bn := fun i hi => by
  rw [hB]
  by_cases h1 : i ∈ ids
  ·rw [if_pos h1]; exact ⟨rfl, fun _ _ _ hx => by cases hx⟩
  ·rw [if_neg h1]; exact BLe.refl _ i hi
 have hlive : ∀ j, Live E Bn j → Live E st.fs.B j ∧ j ∉ ids := by
  rintro j ⟨⟨b, h1, h2⟩, h3⟩
  rw [hB] at h1
  by_cases hj : j ∈ ids
  ·rw [if_pos hj] at h1; injection h1 with h1; exact absurd h1.symm h2
  ·rw [if_neg hj] at h1; exact ⟨⟨⟨b, h1, h2⟩, h3⟩, hj⟩
 have hnb : ∀ k, Lent E st.fs.B (NB X.okk E st.fs.B) ids k → NB X.okk E Bn k := by
  intro k hk
  refine ⟨?_, fun j hj he => ?_⟩
  ·rcases hk with hk | ⟨i, h1, h2, h3⟩
   ·exact hk.1
   ·rw [← h3]; exact hs.new _ (hs.own i h2)
  ·obtain ⟨h4, h5⟩ := hlive j hj
   rcases hk with hk | ⟨i, h1, h2, h3⟩
   ·exact hk.2 j h4 he
   ·exact h5 (by rw [hs.inj j i h4 h2 (he.trans h3.symm)]; exact h1)
 have hmv : ∀ k, NB X.okk E st.fs.B k → k < w.heap.size → w.heap[k]? = w.heap[k]? ∧ NB X.okk E Bn k := fun k hk _ => ⟨rfl, hnb k (.inl hk)⟩
 refine ⟨hs.size, hs.nod, hs.new, hs.gl, hs.fr, fun t ht => ?_, fun j b hj => ?_, fun j hj => hs.own j (hlive j hj).1, fun j j' hj hj' he => hs.inj j j' (hlive j hj).1 (hlive j' hj').1 he, hs.pin⟩
 ·obtain ⟨v, h1, h2⟩ := hs.slot t ht
  refine ⟨v, h1, ?_⟩
  show Held E Bn w _ (match (match Nat.beq t s with | true => some a' | false => look t st.sl) with | some a => a | none => .any) v
  cases hb : Nat.beq t s with
  | true =>
   have := Nat.eq_of_beq_eq_true hb
   subst this
   exact (HeldF.any (frz_of hs 8 h (fun _ _ => rfl) h2)).move (Nat.le_refl _) fun k hk _ => ⟨rfl, hnb k hk⟩
  | false => exact (h2.re hle fun _ _ => ⟨rfl, rfl, rfl⟩).move (Nat.le_refl _) hmv
 ·have hj' : Bn j = some b := hj
  rw [hB] at hj'
  by_cases hjd : j ∈ ids
  ·rw [if_pos hjd] at hj'; injection hj' with hj'; subst hj'; trivial
  ·rw [if_neg hjd] at hj'
   have h1 := hs.blk j b hj'
   cases b with
   | dead => trivial
   | ints k e l => exact blk_move rfl rfl rfl (fun _ => rfl) (Nat.le_refl _) hmv h1
   | cells ty l =>
    obtain ⟨hn, us, h4, h5⟩ := h1
    exact ⟨hn, us, h4, (h5.re hle fun _ _ => ⟨rfl, rfl, rfl⟩).move (Nat.le_refl _) hmv⟩
theorem frz_sim : ∀ (l : List Nat) {st st1 : St}, (l.all fun s => Nat.blt s X.N) = true → frzSt st l = some st1 → Sim X st.fs a w → Sim X st1.fs a w
 | [], st, st1, _, h, hs => by injection h with h; rw [← h]; exact hs
 | s :: l, st, st1, hN, h, hs => by
  rw [List.all_cons, Bool.and_eq_true] at hN
  unfold frzSt at h
  split at h
  ·rename_i a' ids h1
   exact frz_sim l hN.2 h (frz_one (Nat.le_of_ble_eq_true hN.1) h1 hs)
  ·cases h
theorem regV_ok {id : Nat} {ops : Array Oper} {draw : Bool} {K : St → Option R} {Q : Exit → Act → World → Prop} (hf : Fit P X G) (h : regV G id ops draw st K = some r) (hK : ∀ st' a w, K st' = some r → Sim X st'.fs a w → Q .normal a w) (hs : Sim X st.fs a w) : (Code.region id ops draw).wp P Q a w := by
 unfold regV at h
 split at h
 ·rename_i st1 hz hin
  rw [Bool.and_eq_true] at hin
  have hs1 := frz_sim _ (by rw [hf.N]; exact hin.2) hz hs
  obtain ⟨l', st', h1, htr⟩ := run_tr hf.T hf.S _ _ _ _ h
  have hfs : ∀ n, (St.fs ⟨st'.sl, st'.bl, n⟩) = st'.fs := fun _ => rfl
  split at h1
  ·exact wp_region_list (seq_tr hf.N hf.pn _ _ _ _ a w hin.1 htr hs1 fun a w h2 => hK _ a w h1 h2)
  ·split at h1
   ·rename_i hc
    rw [Bool.and_eq_true, Bool.and_eq_true] at hc
    rw [List.append_nil, List.reverse_reverse] at hc
    exact any_tr hf.N hf.pn hf.mo hc.1.1 hc.1.2 hin.1 htr hc.2 hs1 fun a w h2 => hK _ a w h1 h2
   ·cases h1
 ·cases h
theorem rel_then {k : St → Option R} {K : Exit → St → Option R} {q : Act → World → Prop} {Q : Exit → Act → World → Prop} (h1 : ∀ st a w, k st = some r → Sim X st.fs a w → q a w) (h2 : Rel X r K Q) : Rel X r (andThen k K) (Exit.then q Q) := by
 intro e st a w h hs
 cases e with
 | normal => exact h1 st a w h hs
 | exit id => exact h2 (.exit id) st a w h hs
 | goto l => exact h2 (.goto l) st a w h hs
 | ret => exact h2 .ret st a w h hs
 | panic c => exact h2 (.panic c) st a w h hs
 | outgrown => exact h2 .outgrown st a w h hs
theorem rel_end {id : Nat} {K : Exit → St → Option R} {Q : Exit → Act → World → Prop} (h : Rel X r K Q) : Rel X r (atEnd id K) (Exit.inBlock id Q) := by
 intro e st a w h1 hs
 cases e with
 | normal => exact h .normal st a w h1 hs
 | exit i =>
  simp only [atEnd] at h1
  show if i = id then Q .normal a w else Q (.exit i) a w
  split at h1
  ·rename_i hb
   rw [if_pos (Nat.eq_of_beq_eq_true hb)]
   exact h .normal st a w h1 hs
  ·rename_i hb
   rw [if_neg (beq_ne hb)]
   exact h (.exit i) st a w h1 hs
 | goto l => exact h (.goto l) st a w h1 hs
 | ret => exact h .ret st a w h1 hs
 | panic c => exact h (.panic c) st a w h1 hs
 | outgrown => exact h .outgrown st a w h1 hs
theorem keep_r (n : Nat) : keepOf G (2 * n) = G.cutR n := by
 unfold keepOf
 rw [if_pos (by omega), show 2 * n / 2 = n by omega]
theorem keep_l (n : Nat) : keepOf G (2 * n + 1) = G.cutL n := by
 unfold keepOf
 rw [if_neg (by omega), show (2 * n + 1) / 2 = n by omega]
theorem slots_all {N : Nat} : ∀ {l : List (Nat × KM)}, slotsIn N l = true → (l.all fun p => Nat.blt p.1 N) = true
 | [], _ => rfl
 | p :: l, h => by
  unfold slotsIn at h
  split at h
  ·rename_i h1; rw [List.all_cons, h1, slots_all h]; rfl
  ·cases h
theorem cutL_ok {n : Nat} {q : Act → World → Prop} (hf : Fit P X G) (hg : ∀ keep vs a w, keepOf G (2 * n + 1) = some keep → G.F (2 * n + 1) vs = some r → Sim X (build keep vs).fs a w → q a w) (h : cutL G n st = some r) (hs : Sim X st.fs a w) : q a w := by
 unfold cutL at h
 split at h
 ·rename_i keep hk
  have hk' : keepOf G (2 * n + 1) = some keep := by rw [keep_l]; exact hk
  unfold toCut at h
  split at h
  ·rename_i hsl
   obtain ⟨vs, h1, h2⟩ := cut_sim hs (by rw [hf.N]; exact slots_all hsl) h
   exact hg keep vs a w hk' h1 h2
  ·cases h
 ·cases h
theorem rel_goto (hf : Fit P X G) {x : Code} {K : Exit → St → Option R} {Q : Exit → Act → World → Prop} (hg : HG P X r G ((labs x).map fun l => (2 * (1000 + l) + 1, Swp P x ((findLabel x l).getD .skip) Q))) (h : Rel X r K Q) : Rel X r (gotoK G x K) (gotoQ P x Q) := by
 intro e st a w h1 hs
 cases e with
 | normal => exact h .normal st a w h1 hs
 | exit i => exact h (.exit i) st a w h1 hs
 | goto l =>
  simp only [gotoK] at h1
  split at h1
  ·rename_i hl
   obtain ⟨rest, hr⟩ := lab_find x hl
   refine ⟨rest, hr, cutL_ok hf (fun keep vs a w h2 h3 h4 => ?_) h1 hs⟩
   have hm : l ∈ labs x := by
    obtain ⟨l', h5, h6⟩ := List.any_eq_true.1 hl
    rwa [Nat.eq_of_beq_eq_true h6]
   have := hg _ (List.mem_map_of_mem (f := fun l => (2 * (1000 + l) + 1, Swp P x ((findLabel x l).getD .skip) Q)) hm) keep vs a w h2 h3 h4
   simpa [hr] using this
  ·cases h1
 | ret => exact h .ret st a w h1 hs
 | panic c => exact h (.panic c) st a w h1 hs
 | outgrown => exact h .outgrown st a w h1 hs
theorem again_ok (hf : Fit P X G) {x : Code} {K : Exit → St → Option R} {Q : Exit → Act → World → Prop} (hb : ∀ (st : St) (K : Exit → St → Option R) (Q : Exit → Act → World → Prop) (a : Act) (w : World), HG P X r G (occQ P x Q) → Rel X r K Q → run G x st K = some r → Sim X st.fs a w → x.wp P Q a w)
  (hg : HG P X r G (occQ P (.loop x) Q)) (hr : Rel X r K Q) : ∀ (st : St) (a : Act) (w : World), again G (fun st K => run G x st K) (nameOf x) K st = some r → Sim X st.fs a w → Lwp P x Q a w := by
 intro st a w h hs
 unfold again at h
 split at h
 ·exact cutL_ok hf (fun keep vs a w h1 h2 h3 => hg _ (by simp only [occQ]; exact List.mem_cons_self) keep vs a w h1 h2 h3) h hs
 ·have hgx : HG P X r G (occQ P x (Exit.then (Lwp P x Q) Q)) := fun p hp => hg p (by simp only [occQ]; exact List.mem_cons_of_mem _ hp)
  have main : ∀ (n : Nat) (st : St) (a : Act) (w : World), loopN (fun st K => run G x st K) K n st = some r → Sim X st.fs a w → Lwp P x Q a w := by
   intro n
   induction n with
   | zero => intro st a w h _; cases h
   | succ n ih => intro st a w h hs; exact lwp_round (hb st _ _ a w hgx (rel_then ih hr) h hs)
  exact main _ st a w h hs
theorem run_ok (hf : Fit P X G) : ∀ (c : Code) (st : St) (K : Exit → St → Option R) (Q : Exit → Act → World → Prop) (a : Act) (w : World), HG P X r G (occQ P c Q) → Rel X r K Q → run G c st K = some r → Sim X st.fs a w → c.wp P Q a w
 | .skip, st, K, Q, a, w, _, hr, h, hs => wp_skip (hr _ _ _ _ h hs)
 | .label l, st, K, Q, a, w, _, hr, h, hs => wp_label (hr _ _ _ _ h hs)
 | .region id ops draw, st, K, Q, a, w, hg, hr, h, hs => by
  simp only [run] at h
  split at h
  ·rename_i keep hk
   have hk' : keepOf G (2 * id) = some keep := by rw [keep_r]; exact hk
   unfold toCut at h
   split at h
   ·rename_i hsl
    obtain ⟨vs, h1, h2⟩ := cut_sim hs (by rw [hf.N]; exact slots_all hsl) h
    exact hg _ (by simp only [occQ]; exact List.mem_cons_self) keep vs a w hk' h1 h2
   ·cases h
  ·exact regV_ok hf h (fun st' a w h1 h2 => hr _ _ _ _ h1 h2) hs
 | .seq x y, st, K, Q, a, w, hg, hr, h, hs => by
  refine wp_seq (run_ok hf x st _ _ a w (fun p hp => hg p ?_) (rel_then (fun st' a w h1 h2 => run_ok hf y st' K Q a w (fun p hp => hg p ?_) hr h1 h2) hr) h hs)
  ·simp only [occQ]; exact List.mem_append_left _ hp
  ·simp only [occQ]; exact List.mem_append_right _ hp
 | .cond c x y, st, K, Q, a, w, hg, hr, h, hs => by
  simp only [run] at h
  split at h
  ·rename_i hin
   obtain ⟨b, h1, h2⟩ := onB_of h
   obtain ⟨E, hsE⟩ := hs
   have hv := ev_held hsE (st := st) (x := c) fun s hs => ⟨rfl, by subst hs; rw [hf.N]; exact Nat.le_of_ble_eq_true hin⟩
   have hb := asB_of h1 hv
   refine wp_cond hb ?_
   cases b with
   | true => exact run_ok hf x st K Q a w (fun p hp => hg p (by simp only [occQ]; exact List.mem_append_left _ hp)) hr h2 ⟨E, hsE⟩
   | false => exact run_ok hf y st K Q a w (fun p hp => hg p (by simp only [occQ]; exact List.mem_append_right _ hp)) hr h2 ⟨E, hsE⟩
  ·cases h
 | .block id x, st, K, Q, a, w, hg, hr, h, hs => wp_block (run_ok hf x st _ _ a w hg (rel_end hr) h hs)
 | .loop x, st, K, Q, a, w, hg, hr, h, hs => lwp_loop (again_ok hf (fun st K Q a w => run_ok hf x st K Q a w) hg hr st a w (by simpa only [run] using h) hs)
 | .exit id, st, K, Q, a, w, _, hr, h, hs => wp_exit (hr _ _ _ _ h hs)
 | .ret, st, K, Q, a, w, _, hr, h, hs => wp_ret (hr _ _ _ _ h hs)
 | .rangeFunc _ _ _ _, st, K, Q, a, w, _, _, h, _ => by simp [run] at h
 | .scope x, st, K, Q, a, w, hg, hr, h, hs => swp_scope (swp_round (run_ok hf x st _ _ a w (fun p hp => hg p (by simp only [occQ]; exact List.mem_append_right _ hp)) (rel_goto hf (fun p hp => hg p (by simp only [occQ]; exact List.mem_append_left _ hp)) hr) h hs))
 | .goto l, st, K, Q, a, w, _, hr, h, hs => wp_goto (hr _ _ _ _ h hs)
 | .refuse _, st, K, Q, a, w, _, _, h, _ => by simp [run] at h
def Side (X : Cx) (r : R) : List (Nat × (St → Option R)) → List (Nat × (Act → World → Prop)) → Prop
 | [], [] => True
 | p :: l, q :: l' => p.1 = q.1 ∧ (∀ st a w, p.2 st = some r → Sim X st.fs a w → q.2 a w) ∧ Side X r l l'
 | _, _ => False
theorem side_append {l1 l2 : List (Nat × (St → Option R))} {m1 m2 : List (Nat × (Act → World → Prop))} (h1 : Side X r l1 m1) (h2 : Side X r l2 m2) : Side X r (l1 ++ l2) (m1 ++ m2) := by
 induction l1 generalizing m1 with
 | nil =>
  cases m1 with
  | nil => exact h2
  | cons q m => exact h1.elim
 | cons p l ih =>
  cases m1 with
  | nil => exact h1.elim
  | cons q m => exact ⟨h1.1, h1.2.1, ih h1.2.2⟩
theorem side_mem {l : List (Nat × (St → Option R))} {m : List (Nat × (Act → World → Prop))} (h : Side X r l m) {q : Nat × (Act → World → Prop)} (hq : q ∈ m) : ∃ p ∈ l, p.1 = q.1 ∧ ∀ st a w, p.2 st = some r → Sim X st.fs a w → q.2 a w := by
 induction l generalizing m with
 | nil =>
  cases m with
  | nil => cases hq
  | cons q m => exact h.elim
 | cons p l ih =>
  cases m with
  | nil => exact h.elim
  | cons q' m =>
   rcases List.mem_cons.1 hq with rfl | hq
   ·exact ⟨p, List.mem_cons_self, h.1, h.2.1⟩
   ·obtain ⟨p', h1, h2⟩ := ih h.2.2 hq
    exact ⟨p', List.mem_cons_of_mem _ h1, h2⟩
theorem occs_ok (hf : Fit P X G) : ∀ (c : Code) (K : Exit → St → Option R) (Q : Exit → Act → World → Prop), HG P X r G (occQ P c Q) → Rel X r K Q → Side X r (occs G c K) (occQ P c Q)
 | .region id ops draw, K, Q, hg, hr => ⟨rfl, fun st a w h hs => regV_ok hf h (fun st' a w h1 h2 => hr _ _ _ _ h1 h2) hs, trivial⟩
 | .seq x y, K, Q, hg, hr => by
  simp only [occs, occQ] at hg ⊢
  have hgx : HG P X r G (occQ P x (Exit.then (y.wp P Q) Q)) := fun p hp => hg p (List.mem_append_left _ hp)
  have hgy : HG P X r G (occQ P y Q) := fun p hp => hg p (List.mem_append_right _ hp)
  exact side_append (occs_ok hf x _ _ hgx (rel_then (fun st' a w h1 h2 => run_ok hf y st' K Q a w hgy hr h1 h2) hr)) (occs_ok hf y K Q hgy hr)
 | .cond c x y, K, Q, hg, hr => by
  simp only [occs, occQ] at hg ⊢
  exact side_append (occs_ok hf x K Q (fun p hp => hg p (List.mem_append_left _ hp)) hr) (occs_ok hf y K Q (fun p hp => hg p (List.mem_append_right _ hp)) hr)
 | .block id x, K, Q, hg, hr => occs_ok hf x _ _ hg (rel_end hr)
 | .loop x, K, Q, hg, hr => by
  have hg0 := hg
  simp only [occs, occQ] at hg ⊢
  have hgx : HG P X r G (occQ P x (Exit.then (Lwp P x Q) Q)) := fun p hp => hg p (List.mem_cons_of_mem _ hp)
  have hrel : Rel X r (andThen (again G (fun st K => run G x st K) (nameOf x) K) K) (Exit.then (Lwp P x Q) Q) := rel_then (again_ok hf (fun st K Q a w => run_ok hf x st K Q a w) hg0 hr) hr
  exact ⟨rfl, fun st a w h hs => lwp_round (run_ok hf x st _ _ a w hgx hrel h hs), occs_ok hf x _ _ hgx hrel⟩
 | .skip, K, Q, _, _ => trivial
 | .label _, K, Q, _, _ => trivial
 | .exit _, K, Q, _, _ => trivial
 | .ret, K, Q, _, _ => trivial
 | .rangeFunc _ _ _ _, K, Q, _, _ => trivial
 | .scope x, K, Q, hg, hr => by
  simp only [occs, occQ] at hg ⊢
  have hgl : HG P X r G ((labs x).map fun l => (2 * (1000 + l) + 1, Swp P x ((findLabel x l).getD .skip) Q)) := fun p hp => hg p (List.mem_append_left _ hp)
  have hgx : HG P X r G (occQ P x (gotoQ P x Q)) := fun p hp => hg p (List.mem_append_right _ hp)
  have hrel := rel_goto hf hgl hr
  refine side_append ?_ (occs_ok hf x _ _ hgx hrel)
  have : ∀ ls : List Nat, (∀ l ∈ ls, l ∈ labs x) → Side X r (ls.map fun l => (2 * (1000 + l) + 1, fun st => run G ((findLabel x l).getD .skip) st (gotoK G x K))) (ls.map fun l => (2 * (1000 + l) + 1, Swp P x ((findLabel x l).getD .skip) Q)) := by
   intro ls
   induction ls with
   | nil => intro _; trivial
   | cons l ls ih =>
    intro hl
    refine ⟨rfl, fun st a w h hs => ?_, ih fun l' h' => hl l' (List.mem_cons_of_mem _ h')⟩
    obtain ⟨rest, hrest⟩ := lab_find x (l := l) (List.any_eq_true.2 ⟨l, hl l List.mem_cons_self, Nat.beq_refl l⟩)
    simp only [hrest, Option.getD_some] at h ⊢
    exact swp_round (run_ok hf rest st _ _ a w (fun p hp => hgx p (occQ_find x _ hrest p hp)) hrel h hs)
  exact this _ fun _ h => h
 | .goto _, K, Q, _, _ => trivial
 | .refuse _, K, Q, _, _ => trivial
end
theorem places {P : Program} {X : Cx} {R : Type} {r : R} {c : Code} {K : Exit → St → Option R} {Q : Exit → Act → World → Prop} (G : Nat → Cfg R) (hf : ∀ k, Fit P X (G k)) (hk : ∀ k key, keepOf (G k) key = keepOf (G 0) key) (h0 : ∀ key vs, (G 0).F key vs ≠ some r)
  (hs : ∀ k, ∀ p ∈ occs (G k) c K, ∀ keep vs, keepOf (G 0) p.1 = some keep → (G (k + 1)).F p.1 vs = some r → p.2 (build keep vs) = some r) (hr : Rel X r K Q) : ∀ k, HG P X r (G k) (occQ P c Q)
 | 0 => fun p _ keep vs a w _ h _ => absurd h (h0 _ _)
 | k + 1 => fun q hq keep vs a w hkp h hsim => by
  have ih := places G hf hk h0 hs hr k
  obtain ⟨p, h1, h2, h3⟩ := side_mem (occs_ok (hf k) c K Q ih hr) hq
  refine h3 _ a w (hs k p h1 keep vs ?_ ?_) hsim
  ·rw [h2, ← hk (k + 1)]; exact hkp
  ·rw [h2]; exact h
end Go.Proofs.YtkoeddgbhohggaaGreatDoor.E
end

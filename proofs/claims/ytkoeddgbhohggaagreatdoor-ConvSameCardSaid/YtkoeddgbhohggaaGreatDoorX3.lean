/-
  Texts of this proof, one behind the other: EO, EP, ER, ES, Shelf, EY, EXa, EXb, EXc, EXd, EXe, EXf. No condition of their own.
-/
import Derived.Test.YtkoeddgbhohggaaGreatDoorX2
import Derived.Shelf.Bits.Mul64
import Derived.Shelf.Strconv.Itoa0
import Derived.Shelf.Small.Bits
import Derived.Shelf.Spec.TrailingZeros
import Derived.Test.YtkoeddgbhohggaaGreatDoorProg
import Derived.WalkKit
import Derived.WalkSpells
import Derived.BigRegion
import Derived.Laws.EntriesVeiled
import Derived.Lib.Walk
import Derived.Lib.SliceRun
section
namespace Go.Proofs.YtkoeddgbhohggaaGreatDoor.E
open Go.RowKit Go.Proofs.YtkoeddgbhohggaaGreatDoorW.PrintWords Go.Proofs.YtkoeddgbhohggaaGreatDoorW.PrintLast
set_option linter.unusedVariables false
set_option linter.unusedSimpArgs false
inductive RM where
 | p
 | o (k : EK) (e : TypeId)
def retOne (T : TT) (st : St) : ResultVar → RM → Option (RV × List Nat × Option Nat)
 | .tmp t, .p => (match frz st 8 (st.get t) with
  | some (a, ids) => some (.p a, ids, none)
  | none => none)
 | .tmp t, .o k e => (match k.isMap || k.nn with
  | true => none
  | false => (match st.get t with
   | .sli id => (match st.blk id with
    | some (.ints k' e' l) => (match Nat.beq e e' with
     | true => if k' = k ∨ (k' = .bigN ∧ k = .big) then some (.o k e l, [], some id) else none
     | false => none)
    | _ => none)
   | .lit (.slice none 0 0) => some (.o k e [], [], none)
   | _ => none))
 | .cell p ty, _ => (match st.get p, look ty T.und, look ty T.inf with
  | .ptr id 0, some d, some (s, _) => (match d.scalar, st.blk id with
   | false, some (.cells _ l) => (match Nat.beq s l.length, frzL (frz st 8) l with
    | true, some (l', ids) => some (.p (.agg l'), ids, none)
    | _, _ => none)
   | _, _ => none)
  | _, _, _ => none)
def retAll (T : TT) (st : St) : List ResultVar → List RM → Option (List RV × List Nat × List (Option Nat))
 | [], _ => some ([], [], [])
 | v :: vs, ms => (match retOne T st v (ms.headD .p), retAll T st vs ms.tail with
  | some (r, ids, o), some (rs, ids', os) => some (r :: rs, ids ++ ids', o :: os)
  | _, _ => none)
def countO : List RV → Nat
 | [] => 0
 | .o _ _ _ :: r => countO r + 1
 | _ :: r => countO r
def rowOf (b : Option TypeId) (a : AV) : Option Nat := match b, a with
 | none, .sli i => some i
 | some ty, .fp ty' [.sli i] => (match Nat.beq ty' ty with
  | true => some i
  | false => none)
 | _, _ => none
def mutEnd (st : St) : Option (Nat × Option TypeId × IntKind × TypeId) → Option (List Int × List Nat)
 | none => some ([], [])
 | some (s, b, k, e) => (match rowOf b (st.get s) with
  | some i => (match st.blk i with
   | some (.ints (.num k') e' l) => (match Nat.beq e e' with
    | true => if k' = k then some (l, [i]) else none
    | false => none)
   | _ => none)
  | none => none)
def retV {R : Type} (T : TT) (vars : List ResultVar) (ms : List RM) (pn : Option (Nat × Option TypeId × IntKind × TypeId)) (K : List RV → List Int → Option R) (st : St) : Option R := match retAll T st vars ms, mutEnd st pn with
 | some (rs, ids, os), some (m', mi) => (match Nat.ble (countO rs) 1 && !(meets ids (ownIds os ++ mi)) && !(meets (ownIds os) mi) with
  | true => K rs m'
  | false => none)
 | _, _ => none
def Kmain {R : Type} (K : St → Option R) : Exit → St → Option R := fun e st => match e with
 | .ret => K st
 | .normal => K st
 | _ => none
def initSl : List XV → Nat → List (Nat × AV)
 | [], _ => []
 | .p a :: xs, j => (j, a) :: initSl xs (j + 1)
 | .m none _ _ _ :: xs, j => (j, .sli 0) :: initSl xs (j + 1)
 | .m (some ty) _ _ _ :: xs, j => (j, .fp ty [.sli 0]) :: initSl xs (j + 1)
def initBl : List XV → List (Nat × Blk)
 | [] => []
 | .p _ :: xs => initBl xs
 | .m _ k e l :: _ => [(0, .ints (.num k) e l)]
def pinAt : List XV → Nat → Option Nat
 | [], _ => none
 | .p _ :: xs, j => pinAt xs (j + 1)
 | .m _ _ _ _ :: _, j => some j
def pinK : List XV → Nat → Option (Nat × Option TypeId × IntKind × TypeId)
 | [], _ => none
 | .p _ :: xs, j => pinK xs (j + 1)
 | .m b k e _ :: _, j => some (j, b, k, e)
def countM : List XV → Nat
 | [] => 0
 | .p _ :: xs => countM xs
 | .m _ _ _ _ :: xs => countM xs + 1
def initSt (xs : List XV) : St := ⟨initSl xs 0, initBl xs, 1⟩
def RImp : List RV → List RV → Prop
 | [], [] => True
 | .p a :: r, .p a' :: r' => (∀ W v, Den En0 (fun _ => none) W a v → Den En0 (fun _ => none) W a' v) ∧ RImp r r'
 | .o k e l :: r, .o k' e' l' :: r' => (k = k' ∧ e = e' ∧ l = l') ∧ RImp r r'
 | _, _ => False
section
variable {P : Program} {X : Cx} {E E' : En} {F : FS} {a : Act} {w w' : World} {st : St} {R : Type} {r : R} {T : TT}
def ROk (E : En) (B : Nat → Option Blk) (w' : World) (nb' : Nat → Prop) : RV → Option Nat → Value → Prop
 | .p a, _, u => HeldF w' nb' a u
 | .o k e l, none, u => (k.isMap = false ∧ k.nn = false) ∧ u = .slice none 0 0 ∧ l = []
 | .o k e l, some id, u => (k.isMap = false ∧ k.nn = false) ∧ (∃ k0, B id = some (.ints k0 e l)) ∧ ((E.ν id = true ∧ u = .slice none 0 0 ∧ l = []) ∨ (E.ν id = false ∧ ∃ c, u = .slice (some ⟨E.ρ id, 0, none⟩) l.length c ∧ OthAt w' nb' (E.ρ id) c k e l))
theorem retOne_of {v : ResultVar} {m : RM} {rv : RV} {ids : List Nat} {ow : Option Nat} {nb' : Nat → Prop} (hT : T.ok P) (hs : SimAt X E st.fs a w) (hN : ∀ t, v = .tmp t ∨ (∃ ty, v = .cell t ty) → t < X.N) (h : retOne T st v m = some (rv, ids, ow)) (hnb : ∀ k, Lent E st.fs.B (NB X.okk E st.fs.B) ids k → nb' k) :
  ∃ u, (∀ rs vs, Vals P a.tmps w rs vs → Vals P a.tmps w (v :: rs) (u :: vs)) ∧ ROk E st.fs.B w nb' rv ow u := by
 cases v with
 | tmp t =>
  obtain ⟨u, h1, h2⟩ := hs.slot t (hN t (.inl rfl))
  have hu : a.tmps.getD t undef = u := by simp [h1]
  refine ⟨u, fun rs vs hv => hu ▸ .tmp hv, ?_⟩
  cases m with
  | p =>
   simp only [retOne] at h
   split at h
   ·rename_i a' ids' hf
    injection h with h; injection h with h3 h4; injection h4 with h4 h5
    subst h3; subst h4; subst h5
    exact Held.mono (frz_of hs 8 hf (fun _ _ => rfl) h2) hnb
   ·cases h
  | o k e =>
   simp only [retOne] at h
   split at h
   ·cases h
   ·rename_i hkk
    have hkk' : k.isMap = false ∧ k.nn = false := by simpa using hkk
    split at h
    ·rename_i id hg
     split at h
     ·rename_i k' e' l hb
      split at h
      ·rename_i he
       split at h
       ·rename_i hk
        injection h with h; injection h with h3 h4; injection h4 with h4 h5
        subst h3; subst h4; subst h5
        have := Nat.eq_of_beq_eq_true he
        subst this
        have h2' : Held E st.fs.B w (NB X.okk E st.fs.B) (.sli id) u := hg ▸ h2
        have hkm : k'.isMap = false := by
         rcases hk with rfl | ⟨rfl, _⟩
         ·exact hkk'.1
         ·rfl
        refine ⟨hkk', ⟨_, hb⟩, ?_⟩
        rcases sli_oth hs hkm hb h2' with h6 | ⟨h6, h7, h8⟩
        ·exact .inl h6
        ·have h9 : OthAt w (NB X.okk E st.fs.B) (E.ρ id) (E.γ id) k e l := by
          rcases hk with rfl | ⟨rfl, rfl⟩
          ·exact h8
          ·exact oth_nn.1 h8
         exact .inr ⟨h6, _, h7, h9.move rfl (Nat.le_refl _) fun q hq _ => ⟨rfl, hnb q (.inl hq)⟩⟩
       ·cases h
      ·cases h
     ·cases h
    ·rename_i hg
     injection h with h; injection h with h3 h4; injection h4 with h4 h5
     subst h3; subst h5
     have h2' : Held E st.fs.B w (NB X.okk E st.fs.B) (.lit (.slice none 0 0)) u := hg ▸ h2
     exact ⟨hkk', lit_of h2', rfl⟩
    ·cases h
 | cell p ty =>
  obtain ⟨u, h1, h2⟩ := hs.slot p (hN p (.inr ⟨ty, rfl⟩))
  have hu : a.tmps.getD p undef = u := by simp [h1]
  simp only [retOne] at h
  split at h
  ·rename_i id d s rest hg hd hi
   split at h
   ·rename_i ty' l hsc hb
    split at h
    ·rename_i l' ids' hl hf
     injection h with h; injection h with h3 h4; injection h4 with h4 h5
     subst h3; subst h4; subst h5
     have h2' : Held E st.fs.B w (NB X.okk E st.fs.B) (.ptr id 0) u := hg ▸ h2
     have h6 := h2'.now
     unfold Den at h6
     obtain ⟨hn, us, h7, h8⟩ := hs.blk id _ hb
     obtain ⟨i, z, h9, h10, _⟩ := hT.2 ty _ hi
     have hlen : s = us.length := by rw [heldL_len h8]; exact Nat.eq_of_beq_eq_true hl
     have hok := hT.1 ty d hd
     have hsz : (P.info? ty).map (·.size) = some us.toArray.size := by rw [h9]; simp [h10, hlen]
     refine ⟨.agg us.toArray, fun rs vs hv => ?_, ?_⟩
     ·cases d with
      | struct fs => obtain ⟨f, h11, _⟩ := hok; exact .cell (E.ρ id) ty' us.toArray (0, 0) _ (hu.trans h6.2) h7 h11 rfl hsz hv
      | array n e => exact .cell (E.ρ id) ty' us.toArray (0, 0) _ (hu.trans h6.2) h7 hok rfl hsz hv
      | int k => cases hsc
      | bool => cases hsc
      | str => cases hsc
      | ptr e => cases hsc
      | slice e => cases hsc
      | map k e => cases hsc
     exact Held.mono (held_agg (frzL_of (frz_of hs 8) hf (fun _ _ => rfl) h8)) hnb
    ·cases h
   ·cases h
  ·cases h
theorem retAll_of {nb' : Nat → Prop} (hT : T.ok P) (hs : SimAt X E st.fs a w) : ∀ (vars : List ResultVar) (ms : List RM) {rs : List RV} {ids : List Nat} {os : List (Option Nat)}, (∀ v ∈ vars, ∀ t, v = .tmp t ∨ (∃ ty, v = .cell t ty) → t < X.N) → retAll T st vars ms = some (rs, ids, os) → (∀ k, Lent E st.fs.B (NB X.okk E st.fs.B) ids k → nb' k) →
  ∃ vs, Vals P a.tmps w vars vs ∧ rs.length = vs.length ∧ os.length = vs.length ∧ ∀ (j : Nat) (rv : RV) (ow : Option Nat) (u : Value), rs[j]? = some rv → os[j]? = some ow → vs[j]? = some u → ROk E st.fs.B w nb' rv ow u
 | [], ms, rs, ids, os, _, h, _ => by
  injection h with h; injection h with h1 h2; injection h2 with h2 h3
  subst h1; subst h3
  exact ⟨[], .nil, rfl, rfl, fun j rv ow u h => by simp at h⟩
 | v :: vars, ms, rs, ids, os, hN, h, hnb => by
  unfold retAll at h
  split at h
  ·rename_i r0 ids0 o0 rs' ids' os' h1 h2
   injection h with h; injection h with e1 e2; injection e2 with e2 e3
   subst e1; subst e2; subst e3
   obtain ⟨u, h3, h4⟩ := retOne_of hT hs (hN v List.mem_cons_self) h1 fun k hk => hnb k (hk.elim .inl fun ⟨i, hi, hh⟩ => .inr ⟨i, List.mem_append_left _ hi, hh⟩)
   obtain ⟨vs, h5, h6, h7, h8⟩ := retAll_of hT hs vars _ (fun v' hv' => hN v' (List.mem_cons_of_mem _ hv')) h2 fun k hk => hnb k (hk.elim .inl fun ⟨i, hi, hh⟩ => .inr ⟨i, List.mem_append_right _ hi, hh⟩)
   refine ⟨u :: vs, h3 _ _ h5, by simp [h6], by simp [h7], fun j rv ow x e1 e2 e3 => ?_⟩
   cases j with
   | zero =>
    simp only [List.getElem?_cons_zero, Option.some.injEq] at e1 e2 e3
    subst e1; subst e2; subst e3
    exact h4
   | succ j =>
    simp only [List.getElem?_cons_succ] at e1 e2 e3
    exact h8 j rv ow x e1 e2 e3
  ·cases h
theorem rall_of {ok : Nat → Prop} {G : Option Nat} {w0 : World} {B : Nat → Option Blk} {nb' : Nat → Prop} (hp : ∀ k, nb' k → (ok k ∨ w0.heap.size ≤ k) ∧ G ≠ some k) : ∀ (rs : List RV) (os : List (Option Nat)) (vs : List Value), rs.length = vs.length → os.length = vs.length → (∀ (j : Nat) (rv : RV) (ow : Option Nat) (u : Value), rs[j]? = some rv → os[j]? = some ow → vs[j]? = some u → ROk E B w nb' rv ow u) →
  (∀ (j : Nat) (ow : Option Nat) (k : EK) (e : TypeId) (l : List Int) (u : Value), rs[j]? = some (.o k e l) → os[j]? = some ow → ROk E B w nb' (.o k e l) ow u → OAt w (fun k => (ok k ∨ w0.heap.size ≤ k) ∧ G ≠ some k) G k e l u ∧ ∀ g, G = some g → w0.heap.size ≤ g) → RAll w0 w ok G rs vs
 | [], os, [], _, _, _, _ => trivial
 | [], os, _ :: _, h, _, _, _ => by simp at h
 | _ :: _, os, [], h, _, _, _ => by simp at h
 | r0 :: rs, [], _ :: _, _, h, _, _ => by simp at h
 | r0 :: rs, o0 :: os, v :: vs, h1, h2, h3, h4 => by
  refine ⟨?_, rall_of hp rs os vs (by simpa using h1) (by simpa using h2) (fun j rv ow u e1 e2 e3 => h3 (j + 1) rv ow u e1 e2 e3) fun j ow k e l u e1 e2 e3 => h4 (j + 1) ow k e l u e1 e2 e3⟩
  have h5 := h3 0 r0 o0 v rfl rfl rfl
  cases r0 with
  | p a' => exact Held.mono h5 hp
  | o k e l => exact h4 0 o0 k e l v rfl rfl h5
theorem rall_imp {ok : Nat → Prop} {G : Option Nat} {w0 : World} : ∀ {rs rs' : List RV} {vs : List Value}, RImp rs rs' → RAll w0 w ok G rs vs → RAll w0 w ok G rs' vs
 | [], [], [], _, _ => trivial
 | [], [], _ :: _, _, h => (h : False).elim
 | .p a :: rs, .p a' :: rs', v :: vs, h, h' => ⟨fun W' hW => h.1 _ _ (h'.1 W' hW), rall_imp h.2 h'.2⟩
 | .o k e l :: rs, .o k' e' l' :: rs', v :: vs, h, h' => by
  obtain ⟨⟨rfl, rfl, rfl⟩, h2⟩ := h
  exact ⟨h'.1, rall_imp h2 h'.2⟩
 | .p _ :: _, [], _, h, _ => (h : False).elim
 | .o _ _ _ :: _, [], _, h, _ => (h : False).elim
 | [], .p _ :: _, _, h, _ => (h : False).elim
 | [], .o _ _ _ :: _, _, h, _ => (h : False).elim
 | .p _ :: _, .o _ _ _ :: _, _, h, _ => (h : False).elim
 | .o _ _ _ :: _, .p _ :: _, _, h, _ => (h : False).elim
 | .p _ :: _, .p _ :: _, [], _, h => (h : False).elim
 | .o _ _ _ :: _, .o _ _ _ :: _, [], _, h => (h : False).elim
theorem xall_len {ok : Nat → Prop} {M : Option Nat} : ∀ {xs : List XV} {us : List Value}, XAll w ok M xs us → us.length = xs.length
 | [], [], _ => rfl
 | [], _ :: _, h => (h : False).elim
 | _ :: _, [], h => (h : False).elim
 | x :: xs, u :: us, h => by rw [List.length_cons, List.length_cons, xall_len h.2]
def mAV : Option TypeId → AV
 | none => .sli 0
 | some ty => .fp ty [.sli 0]
theorem init_at {ok : Nat → Prop} {M : Option Nat} {t : Nat} : ∀ (xs : List XV) (us : List Value) (j : Nat), XAll w ok M xs us → j ≤ t → (∃ x u, us[t - j]? = some u ∧ xs[t - j]? = some x ∧ XAt w ok M x u ∧ look t (initSl xs j) = some (match x with | .p a => a | .m b _ _ _ => mAV b)) ∨ (us[t - j]? = none ∧ look t (initSl xs j) = none)
 | [], [], j, _, _ => .inr ⟨by simp, rfl⟩
 | [], _ :: _, j, h, _ => (h : False).elim
 | _ :: _, [], j, h, _ => (h : False).elim
 | x :: xs, u :: us, j, h, hj => by
  by_cases he : t = j
  ·subst he
   refine .inl ⟨x, u, by simp, by simp, h.1, ?_⟩
   cases x with
   | p a => simp [initSl, look]
   | m b k e l => cases b <;> simp [initSl, look, mAV]
  ·have hne : Nat.beq t j = false := by cases hb : Nat.beq t j with
    | false => rfl
    | true => exact absurd (Nat.eq_of_beq_eq_true hb) he
   have e1 : t - j = (t - (j + 1)) + 1 := by omega
   have e2 : look t (initSl (x :: xs) j) = look t (initSl xs (j + 1)) := by
    cases x with
    | p a => show (match Nat.beq t j with | true => some a | false => look t (initSl xs (j + 1))) = _; rw [hne]
    | m b k e l => cases b with
     | none => show (match Nat.beq t j with | true => some (AV.sli 0) | false => look t (initSl xs (j + 1))) = _; rw [hne]
     | some ty => show (match Nat.beq t j with | true => some (AV.fp ty [.sli 0]) | false => look t (initSl xs (j + 1))) = _; rw [hne]
   rw [e1, e2, List.getElem?_cons_succ, List.getElem?_cons_succ]
   exact init_at xs us (j + 1) h.2 (by omega)
theorem pin_at {ok : Nat → Prop} {M : Option Nat} : ∀ (xs : List XV) (us : List Value) (j : Nat), XAll w ok M xs us → (pinAt xs j = none ∧ pinK xs j = none ∧ initBl xs = [] ∧ countM xs = 0) ∨ ∃ (s : Nat) (b : Option TypeId) (k : IntKind) (e : TypeId) (l : List Int) (u x : Value), pinAt xs j = some (j + s) ∧ pinK xs j = some (j + s, b, k, e) ∧ initBl xs = [(0, .ints (.num k) e l)] ∧ us[s]? = some u ∧ xs[s]? = some (.m b k e l) ∧ RowIn w b u x ∧ MAt w M k e l x ∧ BoxOk ok b u ∧ ∀ g, M = some g → ¬ ok g
 | [], [], j, _ => .inl ⟨rfl, rfl, rfl, rfl⟩
 | [], _ :: _, j, h => (h : False).elim
 | _ :: _, [], j, h => (h : False).elim
 | .p a :: xs, u :: us, j, h => by
  rcases pin_at xs us (j + 1) h.2 with h1 | ⟨s, b, k, e, l, u', x, h1, h1k, h2, h3, h4, h5⟩
  ·exact .inl h1
  ·exact .inr ⟨s + 1, b, k, e, l, u', x, by show pinAt xs (j + 1) = _; rw [h1, Nat.add_assoc, Nat.add_comm 1 s], by show pinK xs (j + 1) = _; rw [h1k, Nat.add_assoc, Nat.add_comm 1 s], h2, h3, h4, h5⟩
 | .m b k e l :: xs, u :: us, j, h => by
  obtain ⟨⟨⟨x, h1, h2⟩, h3, h4⟩, _⟩ := h
  exact .inr ⟨0, b, k, e, l, u, x, rfl, rfl, rfl, rfl, rfl, h1, h2, h3, h4⟩
theorem m_count : ∀ {xs : List XV} {i : Nat} {b : Option TypeId} {k : IntKind} {e : TypeId} {l : List Int}, xs[i]? = some (.m b k e l) → 1 ≤ countM xs
 | [], i, _, _, _, _, h => by simp at h
 | .m _ _ _ _ :: xs, i, _, _, _, _, h => by simp [countM]
 | .p a :: xs, i, b, k, e, l, h => by
  cases i with
  | zero => simp at h
  | succ i => simp only [List.getElem?_cons_succ] at h; exact m_count (xs := xs) h
theorem count_uniq : ∀ {xs : List XV} {i j : Nat} {b b' : Option TypeId} {k k' : IntKind} {e e' : TypeId} {l l' : List Int}, countM xs ≤ 1 → xs[i]? = some (.m b k e l) → xs[j]? = some (.m b' k' e' l') → i = j
 | [], i, j, _, _, _, _, _, _, _, _, _, h, _ => by simp at h
 | x :: xs, i, j, b, b', k, k', e, e', l, l', hc, hi, hj => by
  have hmem : ∀ {xs : List XV} {i : Nat} {b : Option TypeId} {k : IntKind} {e : TypeId} {l : List Int}, xs[i]? = some (.m b k e l) → 1 ≤ countM xs := m_count
  cases x with
  | p a =>
   cases i with
   | zero => simp at hi
   | succ i =>
    cases j with
    | zero => simp at hj
    | succ j =>
     simp only [List.getElem?_cons_succ] at hi hj
     rw [count_uniq (xs := xs) hc hi hj]
  | m b0 k0 e0 l0 =>
   cases i with
   | zero =>
    cases j with
    | zero => rfl
    | succ j => simp only [List.getElem?_cons_succ] at hj; have := hmem hj; simp [countM] at hc; omega
   | succ i => simp only [List.getElem?_cons_succ] at hi; have := hmem hi; simp [countM] at hc; omega
def frameOf (N : Nat) (w : World) (ok : Nat → Prop) (M : Option Nat) (xs : List XV) (us : List Value) : Cx :=
 ⟨N, w, fun k => ok k ∨ w.heap.size ≤ k ∨ ((pinAt xs 0).isSome = true ∧ M = some k), fun k => (pinAt xs 0).isSome = true ∧ M = some k, (pinAt xs 0).map fun s => (s, us.getD s undef)⟩
theorem init_sim {N : Nat} {ok : Nat → Prop} {M : Option Nat} {xs : List XV} {us : List Value} (hgl : GOk w ok) (hx : XAll w ok M xs us) (hlen : xs.length ≤ N) (hc : countM xs ≤ 1) : Sim (frameOf N w ok M xs us) (initSt xs).fs ⟨us.toArray ++ Array.replicate (N - us.toArray.size) undef, []⟩ w := by
 have hul := xall_len hx
 have hp := pin_at xs us 0 hx
 have hcs : ∃ c : Nat, ∀ (s : Nat) (b : Option TypeId) (k : IntKind) (e : TypeId) (l : List Int) (u x : Value), xs[s]? = some (.m b k e l) → us[s]? = some u → RowIn w b u x → MAt w M k e l x → ∀ g, M = some g → ∃ cs : Array Value, cs.size = c ∧ x = .slice (some ⟨g, 0, none⟩) l.length cs.size ∧ Lies w e k l g cs := by
  rcases hp with ⟨h1, _, h2, h3⟩ | ⟨s, b, k, e, l, u, x, h1, _, h2, h3, h4, h5, h6, h7, h8⟩
  ·refine ⟨0, fun s b k e l u x hs => ?_⟩
   have := m_count hs
   omega
  ·cases hM : M with
   | none => exact ⟨0, fun _ _ _ _ _ _ _ _ _ _ _ g hg => by cases hg⟩
   | some g0 =>
    rw [hM] at h6
    obtain ⟨cs, h9, h10⟩ := h6
    refine ⟨cs.size, fun s' b' k' e' l' u' x' hs' hu' hr' hm' g hg => ?_⟩
    have := count_uniq hc h4 hs'
    subst this
    rw [h4] at hs'
    injection hs' with hs'
    injection hs' with e0 e1 e2 e3
    subst e0; subst e1; subst e2; subst e3
    rw [h3] at hu'
    injection hu' with hu'
    subst hu'
    have := RowIn.uniq h5 hr'
    subst this
    injection hg with hg
    subst hg
    exact ⟨cs, rfl, h9, h10⟩
 obtain ⟨c, hcs⟩ := hcs
 refine ⟨⟨fun _ => M.getD 0, fun _ => c, fun _ => M.isNone⟩, ?_⟩
 have hB : ∀ i b, (initSt xs).fs.B i = some b → i = 0 ∧ ∃ (s : Nat) (bx : Option TypeId) (k : IntKind) (e : TypeId) (l : List Int) (u x : Value), pinAt xs 0 = some s ∧ b = .ints (.num k) e l ∧ us[s]? = some u ∧ xs[s]? = some (.m bx k e l) ∧ RowIn w bx u x ∧ MAt w M k e l x ∧ BoxOk ok bx u ∧ ∀ g, M = some g → ¬ ok g := by
  intro i b hb
  have hb' : look i (initBl xs) = some b := hb
  rcases hp with ⟨h1, _, h2, h3⟩ | ⟨s, bx, k, e, l, u, x, h1, _, h2, h3, h4, h5, h6, h7, h8⟩
  ·rw [h2] at hb'; cases hb'
  ·rw [h2, look_one] at hb'
   split at hb'
   ·rename_i hi
    injection hb' with hb'
    exact ⟨hi, s, bx, k, e, l, u, x, by rw [h1, Nat.zero_add], hb'.symm, h3, h4, h5, h6, h7, h8⟩
   ·cases hb'
 have hlive : ∀ i, Live ⟨fun _ => M.getD 0, fun _ => c, fun _ => M.isNone⟩ (initSt xs).fs.B i → i = 0 ∧ (pinAt xs 0).isSome = true ∧ M = some (M.getD 0) ∧ ∀ g, M = some g → ¬ ok g := by
  rintro i ⟨⟨b, h1, _⟩, h2⟩
  obtain ⟨h3, s, bx, k, e, l, u, x, h4, _, _, _, _, _, _, h5⟩ := hB i b h1
  refine ⟨h3, by rw [h4]; rfl, ?_, h5⟩
  cases M with
  | none => cases h2
  | some g => rfl
 have hnb : ∀ k, ok k → NB (frameOf N w ok M xs us).okk ⟨fun _ => M.getD 0, fun _ => c, fun _ => M.isNone⟩ (initSt xs).fs.B k := fun k hk => ⟨.inl hk, fun i hi he => by
  obtain ⟨_, _, h3, h4⟩ := hlive i hi
  exact h4 k (by rw [h3]; exact congrArg some he) hk⟩
 refine ⟨?_, rfl, fun k hk => ?_, fun p hp' => ?_, Fr.refl _ _, fun t ht => ?_, fun i b hb => ?_, fun i hi => ?_, fun i i' hi hi' _ => by rw [(hlive i hi).1, (hlive i' hi').1], fun s v hv => ?_⟩
 ·show (us.toArray ++ Array.replicate (N - us.toArray.size) undef).size = N
  simp
  omega
 ·rcases hk with hk | hk
  ·exact .inr (.inl hk)
  ·exact .inr (.inr hk)
 ·obtain ⟨h1, h2, h3⟩ := hgl p hp'
  refine ⟨⟨.inl h1, fun hm => ?_⟩, h2, h3⟩
  obtain ⟨hm1, hm2⟩ := (hm : (pinAt xs 0).isSome = true ∧ M = some p.1)
  rcases hp with ⟨h4, _⟩ | ⟨s, bx, k, e, l, u, x, _, _, _, _, _, _, _, _, h8⟩
  ·rw [h4] at hm1; cases hm1
  ·exact h8 _ hm2 h1
 ·rcases init_at (t := t) xs us 0 hx (Nat.zero_le _) with ⟨x, u, h1, h1x, h2, h3⟩ | ⟨h1, h2⟩
  ·rw [Nat.sub_zero] at h1 h1x
   have htl := (List.getElem?_eq_some_iff.1 h1).1
   refine ⟨u, by rw [Array.getElem?_append_left (by simpa using htl)]; simpa using h1, ?_⟩
   show Held _ _ _ _ (match look t (initSl xs 0) with | some a => a | none => .any) u
   rw [h3]
   cases x with
   | p a => exact ((h2 : HeldF w ok a u).any).mono hnb
   | m bx k e l =>
    have hBl : (initSt xs).fs.B 0 = some (.ints (.num k) e l) := by
     show look 0 (initBl xs) = _
     rcases hp with ⟨_, _, _, h4⟩ | ⟨s, b', k', e', l', u', x', _, _, h5, _, h6, _⟩
     ·have := m_count h1x; omega
     ·have := count_uniq hc h1x h6
      subst this
      rw [h1x] at h6
      injection h6 with h6
      injection h6 with e0 e1 e2 e3
      rw [h5, e1, e2, e3]
      rfl
    obtain ⟨⟨x, hr, hm⟩, hbx, _⟩ := h2
    have hsl : Held ⟨fun _ => M.getD 0, fun _ => c, fun _ => M.isNone⟩ (initSt xs).fs.B w (NB (frameOf N w ok M xs us).okk ⟨fun _ => M.getD 0, fun _ => c, fun _ => M.isNone⟩ (initSt xs).fs.B) (.sli 0) x := by
     intro W' hW
     unfold Den
     rw [hBl]
     refine ⟨rfl, ?_, fun k' e' l' hl => ?_⟩
     ·have h7 := hm
      unfold MAt at h7
      cases M with
      | none => exact ⟨_, _, _, h7.1⟩
      | some g => obtain ⟨cs, h8, _⟩ := h7; exact ⟨_, _, _, h8⟩
     ·injection hl with hl
      injection hl with _ _ hl
      cases hM : M with
      | none =>
       have h7 := hm
       rw [hM] at h7
       simp only [Option.isNone_none, if_true]
       exact h7.1
      | some g =>
       obtain ⟨cs, h8, h9, _⟩ := hcs t bx k e l u x h1x h1 hr hm g hM
       simp only [Option.isNone_some, Bool.false_eq_true, if_false, Option.getD_some]
       rw [h9, h8, hl]
    cases bx with
    | none =>
     have hr' : x = u := hr
     subst hr'
     exact hsl
    | some ty =>
     obtain ⟨g, rfl, hg⟩ := hr
     have hgl' : g < w.heap.size := (Array.getElem?_eq_some_iff.1 hg).1
     intro W' hW
     show Den _ _ W' (.fp ty [.sli 0]) _
     unfold Den
     refine ⟨g, [x], rfl, (hW g (hnb g (hbx rfl g rfl)) hgl').trans hg, ?_⟩
     unfold DenL
     refine ⟨x, [], rfl, hsl W' hW, ?_⟩
     unfold DenL
     rfl
  ·rw [Nat.sub_zero] at h1
   have htl : us.length ≤ t := List.getElem?_eq_none_iff.1 h1
   refine ⟨undef, ?_, ?_⟩
   ·have ht' : t < N := ht
    rw [Array.getElem?_append_right (by simpa using htl)]
    simp only [List.size_toArray, Array.getElem?_replicate]
    rw [if_pos (by omega)]
   ·show Held _ _ _ _ (match look t (initSl xs 0) with | some a => a | none => .any) undef
    rw [h2]
    exact held_any
 ·obtain ⟨h1, s, bx, k, e, l, u, x, h2, rfl, h3, h4, hr, h5, _⟩ := hB i b hb
  simp only [BlkAt]
  cases hM : M with
  | none => rw [hM] at h5; simp only [Option.isNone_none, if_true]; exact h5.2
  | some g =>
   obtain ⟨cs, h6, h7, h8⟩ := hcs s bx k e l u x h4 h3 hr h5 g hM
   simp only [Option.isNone_some, Bool.false_eq_true, if_false, Option.getD_some]
   exact ⟨cs, h8.1, h6, h8.2.1, h8.2.2.1, h8.2.2.2⟩
 ·obtain ⟨_, h1, h2, _⟩ := hlive i hi
  exact .inr ⟨h1, h2⟩
 ·have hv' : (pinAt xs 0).map (fun s => (s, us.getD s undef)) = some (s, v) := hv
  rcases hp with ⟨h1, _⟩ | ⟨s', bx, k, e, l, u, x, h1, _, _, h3, _⟩
  ·rw [h1] at hv'; cases hv'
  ·rw [h1, Nat.zero_add] at hv'
   simp only [Option.map_some, Option.some.injEq, Prod.mk.injEq] at hv'
   obtain ⟨rfl, rfl⟩ := hv'
   have htl := (List.getElem?_eq_some_iff.1 h3).1
   show (us.toArray ++ _)[s']? = _
   rw [Array.getElem?_append_left (by simpa using htl)]
   simp [h3]
def varsIn (N : Nat) : List ResultVar → Bool
 | [] => true
 | .tmp t :: r => (match Nat.blt t N with
  | true => varsIn N r
  | false => false)
 | .cell t _ :: r => (match Nat.blt t N with
  | true => varsIn N r
  | false => false)
theorem varsIn_of {N : Nat} : ∀ {l : List ResultVar}, varsIn N l = true → ∀ v ∈ l, ∀ t, v = .tmp t ∨ (∃ ty, v = .cell t ty) → t < N
 | [], _, v, hv, _, _ => by cases hv
 | .tmp s :: l, h, v, hv, t, ht => by
  unfold varsIn at h
  split at h
  ·rename_i h1
   rcases List.mem_cons.1 hv with rfl | hv
   ·rcases ht with ht | ⟨ty, ht⟩
    ·injection ht with ht; subst ht; exact Nat.le_of_ble_eq_true h1
    ·cases ht
   ·exact varsIn_of h v hv t ht
  ·cases h
 | .cell s ty :: l, h, v, hv, t, ht => by
  unfold varsIn at h
  split at h
  ·rename_i h1
   rcases List.mem_cons.1 hv with rfl | hv
   ·rcases ht with ht | ⟨ty', ht⟩
    ·cases ht
    ·injection ht with ht; subst ht; exact Nat.le_of_ble_eq_true h1
   ·exact varsIn_of h v hv t ht
  ·cases h
theorem countO_uniq : ∀ {rs : List RV} {os : List (Option Nat)} {i j : Nat}, countO rs ≤ 1 → (∃ k e l, rs[i]? = some (.o k e l)) → (∃ k e l, rs[j]? = some (.o k e l)) → i = j
 | [], os, i, j, _, ⟨_, _, _, h⟩, _ => by simp at h
 | x :: rs, os, i, j, hc, hi, hj => by
  have hmem : ∀ {rs : List RV} {i : Nat}, (∃ k e l, rs[i]? = some (.o k e l)) → 1 ≤ countO rs := by
   intro rs
   induction rs with
   | nil => rintro i ⟨k, e, l, h⟩; simp at h
   | cons x rs ih =>
    rintro i ⟨k, e, l, h⟩
    cases x with
    | o _ _ _ => simp [countO]
    | p a =>
     cases i with
     | zero => simp at h
     | succ i => simp only [List.getElem?_cons_succ] at h; exact ih ⟨k, e, l, h⟩
  obtain ⟨k, e, l, hi⟩ := hi
  obtain ⟨k', e', l', hj⟩ := hj
  cases x with
  | p a =>
   cases i with
   | zero => simp at hi
   | succ i =>
    cases j with
    | zero => simp at hj
    | succ j =>
     simp only [List.getElem?_cons_succ] at hi hj
     rw [countO_uniq (rs := rs) (os := os) hc ⟨_, _, _, hi⟩ ⟨_, _, _, hj⟩]
  | o k0 e0 l0 =>
   cases i with
   | zero =>
    cases j with
    | zero => rfl
    | succ j => simp only [List.getElem?_cons_succ] at hj; have := hmem ⟨_, _, _, hj⟩; simp [countO] at hc; omega
   | succ i => simp only [List.getElem?_cons_succ] at hi; have := hmem ⟨_, _, _, hi⟩; simp [countO] at hc; omega
theorem mall_at {M : Option Nat} {m' : List Int} {ok : Nat → Prop} : ∀ {xs : List XV} {us : List Value}, XAll w ok M xs us → (∀ (s : Nat) (b : Option TypeId) (k : IntKind) (e : TypeId) (l : List Int) (u : Value), xs[s]? = some (.m b k e l) → us[s]? = some u → ∃ x, RowIn w b u x ∧ MAt w' M k e m' x) → MAll w w' M m' xs us
 | [], [], _, _ => trivial
 | [], _ :: _, h, _ => (h : False).elim
 | x :: _, [], h, _ => (h : False).elim
 | .p a :: xs, u :: us, h, hm => mall_at (xs := xs) (us := us) h.2 fun s b k e l u' h1 h2 => hm (s + 1) b k e l u' h1 h2
 | .m b k e l :: xs, u :: us, h, hm => ⟨hm 0 b k e l u rfl rfl, mall_at (xs := xs) (us := us) h.2 fun s b k e l u' h1 h2 => hm (s + 1) b k e l u' h1 h2⟩
theorem ret_own {vars : List ResultVar} : ∀ (ms : List RM) {rs : List RV} {ids : List Nat} {os : List (Option Nat)}, retAll T st vars ms = some (rs, ids, os) → ∀ (j : Nat) (ow : Option Nat), os[j]? = some ow → ow = none ∨ ∃ id k e l, ow = some id ∧ (∃ k1, rs[j]? = some (.o k1 e l)) ∧ st.blk id = some (.ints k e l) := by
 induction vars with
 | nil =>
  intro ms rs ids os h j ow ho
  injection h with h; injection h with h1 h2; injection h2 with h2 h3
  subst h3; simp at ho
 | cons v vars ih =>
  intro ms rs ids os h j ow ho
  unfold retAll at h
  split at h
  ·rename_i r0 ids0 o0 rs' ids' os' h1 h2
   injection h with h; injection h with e1 e2; injection e2 with e2 e3
   subst e1; subst e3
   cases j with
   | zero =>
    simp only [List.getElem?_cons_zero, Option.some.injEq] at ho ⊢
    subst ho
    cases v with
    | tmp t =>
     cases hm : ms.headD .p with
     | p =>
      rw [hm] at h1
      simp only [retOne] at h1
      split at h1
      ·injection h1 with h1; injection h1 with _ h1; injection h1 with _ h1; exact .inl h1.symm
      ·cases h1
     | o k e =>
      rw [hm] at h1
      simp only [retOne] at h1
      split at h1
      ·cases h1
      ·split at h1
       ·split at h1
        ·split at h1
         ·rename_i hbe
          split at h1
          ·rename_i id hg k' e' l hb _ hk
           injection h1 with h1; injection h1 with h3 h1; injection h1 with _ h1
           have := Nat.eq_of_beq_eq_true hbe
           subst this
           exact .inr ⟨_, _, _, _, h1.symm, ⟨_, by rw [← h3]⟩, by assumption⟩
          ·cases h1
         ·cases h1
        ·cases h1
       ·injection h1 with h1; injection h1 with _ h1; injection h1 with _ h1; exact .inl h1.symm
       ·cases h1
    | cell p ty =>
     simp only [retOne] at h1
     split at h1
     ·split at h1
      ·split at h1
       ·injection h1 with h1; injection h1 with _ h1; injection h1 with _ h1; exact .inl h1.symm
       ·cases h1
      ·cases h1
     ·cases h1
   | succ j =>
    simp only [List.getElem?_cons_succ] at ho ⊢
    exact ih _ h2 j ow ho
  ·cases h
theorem own_idx {i : Nat} : ∀ {os : List (Option Nat)}, i ∈ ownIds os → ∃ j : Nat, os[j]? = some (some i)
 | none :: os, h => by
  obtain ⟨j, hj⟩ := own_idx (os := os) h
  exact ⟨j + 1, hj⟩
 | some k :: os, h => by
  rcases List.mem_cons.1 h with rfl | h
  ·exact ⟨0, rfl⟩
  ·obtain ⟨j, hj⟩ := own_idx h
   exact ⟨j + 1, hj⟩
theorem own_only : ∀ (os : List (Option Nat)) (j : Nat) (ow : Option Nat), os[j]? = some ow → (∀ j', j' ≠ j → ∀ ow', os[j']? = some ow' → ow' = none) → ownIds os = ow.toList
 | [], j, ow, h, _ => by simp at h
 | o :: os, j, ow, h, ho => by
  cases j with
  | zero =>
   simp only [List.getElem?_cons_zero, Option.some.injEq] at h
   subst h
   have hall : ownIds os = [] := by
    cases hos : ownIds os with
    | nil => rfl
    | cons i r =>
     obtain ⟨j, hj⟩ := own_idx (os := os) (i := i) (by rw [hos]; exact List.mem_cons_self)
     cases ho (j + 1) (by omega) _ hj
   cases o <;> simp [ownIds, hall]
  | succ j =>
   simp only [List.getElem?_cons_succ] at h
   have := ho 0 (by omega) o rfl
   subst this
   exact own_only os j ow h fun j' hne ow' h' => ho (j' + 1) (by omega) ow' h'
theorem ret_ok {fn : Func} {vars : List ResultVar} {ms : List RM} {K : List RV → List Int → Option R} {ok : Nat → Prop} {M : Option Nat} {xs : List XV} {us : List Value} {rs0 : List RV} {m0 : List Int} (hT : T.ok P) (hvars : fn.results.toList = vars) (hin : varsIn fn.ntmps vars = true) (hx : XAll w ok M xs us) (hc : countM xs ≤ 1)
  (hfin : ∀ rs m', K rs m' = some r → RImp rs rs0 ∧ m' = m0) (h : retV T vars ms (pinK xs 0) K st = some r) (hs : Sim (frameOf fn.ntmps w ok M xs us) st.fs a w') :
  a.defers = [] ∧ ∃ v, (results fn a.tmps).run P w' = .ok v w' ∧ ∃ G vs, Ending.returned v = .returned (packV vs) ∧ RAll w w' ok G rs0 vs ∧ Fr (fun k => M = some k) w w' ∧ MAll w w' M m0 xs us := by
 obtain ⟨E, hs⟩ := hs
 refine ⟨hs.nod, ?_⟩
 unfold retV at h
 split at h
 ·rename_i rs ids os m' mi hra hme
  split at h
  ·rename_i hchk
   rw [Bool.and_eq_true, Bool.and_eq_true] at hchk
   have hc1 : countO rs ≤ 1 := Nat.le_of_ble_eq_true hchk.1.1
   have hd1 : ∀ i, i ∈ ids → i ∈ ownIds os ++ mi → False := fun i h1 h2 => by
    have := hchk.1.2; rw [meets_of h1 h2] at this; cases this
   have hd2 : ∀ i, i ∈ ownIds os → i ∈ mi → False := fun i h1 h2 => by
    have := hchk.2; rw [meets_of h1 h2] at this; cases this
   obtain ⟨himp, hm0⟩ := hfin _ _ h
   have hp := pin_at xs us 0 hx
   have hmut : ∀ (s : Nat) (b : Option TypeId) (k : IntKind) (e : TypeId) (l : List Int) (u : Value), xs[s]? = some (.m b k e l) → us[s]? = some u → ∃ i x, RowIn w b u x ∧ mi = [i] ∧ st.fs.B i = some (.ints (.num k) e m') ∧ ((E.ν i = true ∧ x = .slice none 0 0 ∧ m' = []) ∨ (E.ν i = false ∧ ∃ cs, x = .slice (some ⟨E.ρ i, 0, none⟩) m'.length cs.size ∧ Lies w' e k m' (E.ρ i) cs)) := by
    intro s b k e l u h1 h2
    rcases hp with ⟨h3, _, _, h4⟩ | ⟨s', b', k', e', l', u', x0, h3, h3k, h4, h5, h6, h7r, h7, h7b, h7n⟩
    ·have := m_count h1; omega
    ·have hss := count_uniq hc h1 h6
     subst hss
     rw [h1] at h6
     injection h6 with h6
     injection h6 with e0 e1 e2 e3
     subst e0; subst e1; subst e2; subst e3
     rw [h2] at h5
     injection h5 with h5
     subst h5
     rw [Nat.zero_add] at h3 h3k
     rw [h3k] at hme
     simp only [mutEnd] at hme
     split at hme
     ·rename_i i hg
      split at hme
      ·rename_i k2 e2 l2 hb
       split at hme
       ·rename_i hbe
        have := Nat.eq_of_beq_eq_true hbe
        subst this
        split at hme
        ·rename_i hk
         subst hk
         injection hme with hme
         injection hme with e1 e3
         subst e1
         have hpin := hs.pin s u (by show (pinAt xs 0).map _ = _; rw [h3]; simp [List.getD_eq_getElem?_getD, h2])
         have hsN : s < fn.ntmps := by
          have := (Array.getElem?_eq_some_iff.1 hpin).1
          have hsz : a.tmps.size = fn.ntmps := hs.size
          omega
         obtain ⟨v, h8, h9⟩ := hs.slot s hsN
         rw [hpin] at h8
         injection h8 with h8
         subst h8
         have hrow : ∃ x, RowIn w b u x ∧ Held E st.fs.B w' (NB (frameOf fn.ntmps w ok M xs us).okk E st.fs.B) (.sli i) x := by
          have h9' : Held E st.fs.B w' (NB (frameOf fn.ntmps w ok M xs us).okk E st.fs.B) (st.get s) u := h9
          unfold rowOf at hg
          split at hg
          ·rename_i hgs
           injection hg with hg
           subst hg
           rw [hgs] at h9'
           exact ⟨u, rfl, h9'⟩
          ·rename_i ty ty' i' hgs
           split at hg
           ·rename_i hbt
            injection hg with hg
            subst hg
            rw [hgs] at h9'
            obtain ⟨g, us', h10, h11, h12, h13, h14⟩ := fp_of h9'
            obtain ⟨x, us2, rfl, h15, h16⟩ := heldL_cons_of h14
            obtain rfl := heldL_nil_of h16
            have hrr := h7r
            obtain ⟨g0, h17, h18⟩ := h7r
            have hgg : g = g0 := by
             rw [h10] at h17
             injection h17 with h17; injection h17 with h17; injection h17
            subst hgg
            have hnM : ¬ ((pinAt xs 0).isSome = true ∧ M = some g) := fun hM => h7n g hM.2 (h7b rfl g h10)
            have h19 := hs.fr.block g (Array.getElem?_eq_some_iff.1 h18).1 hnM
            have h20 : w'.heap[g]? = w.heap[g]? := h19
            rw [h20, h18] at h11
            injection h11 with h11
            injection h11 with h11
            have hxx : x0 = x := by simpa using h11
            subst hxx
            exact ⟨x0, hrr, h15⟩
           ·cases hg
          ·cases hg
         obtain ⟨x, hr1, hr2⟩ := hrow
         refine ⟨i, x, hr1, e3.symm, hb, ?_⟩
         rcases sli_of hs hb hr2 with h10 | ⟨h10, cs, h11, _, h12⟩
         ·exact .inl h10
         ·exact .inr ⟨h10, cs, h11, h12⟩
        ·cases hme
       ·cases hme
      ·cases hme
     ·cases hme
   have hmx : ∀ k, ((pinAt xs 0).isSome = true ∧ M = some k) → ∃ i, mi = [i] ∧ Live E st.fs.B i ∧ E.ρ i = k := by
    rintro k ⟨h1, h2⟩
    rcases hp with ⟨h3, _⟩ | ⟨s, b1, k1, e1, l1, u1, x1, h3, _, h4, h5, h6, h7r, h7, h7b, h8⟩
    ·rw [h3] at h1; cases h1
    ·obtain ⟨i, x, h9r, h9, h10, h11⟩ := hmut s b1 k1 e1 l1 u1 h6 h5
     rw [h2] at h7
     obtain ⟨cs, h12, _⟩ := h7
     have hxx := RowIn.uniq h7r h9r
     subst hxx
     rcases h11 with ⟨_, h13, _⟩ | ⟨h13, cs', h14, _⟩
     ·rw [h12] at h13; cases h13
     ·rw [h12] at h14
      injection h14 with h14
      injection h14 with h14
      injection h14 with h14
      exact ⟨i, h9, ⟨⟨_, h10, by simp⟩, h13⟩, h14.symm⟩
   have hmine : ∀ i, Live E st.fs.B i → (pinAt xs 0).isSome = true ∧ M = some (E.ρ i) → i ∈ mi := fun i hi h1 => by
    obtain ⟨i', h2, h3, h4⟩ := hmx _ h1
    rw [h2, hs.inj i i' hi h3 h4.symm]
    exact List.mem_cons_self
   have hro0 := ret_own ms hra
   obtain ⟨vs, hv, hl1, hl2, hro⟩ := retAll_of (nb' := Lent E st.fs.B (NB (frameOf fn.ntmps w ok M xs us).okk E st.fs.B) ids) hT hs vars ms (varsIn_of hin) hra fun k hk => hk
   have hown : ∀ (j : Nat) (k : EK) (e : TypeId) (l : List Int) (ow : Option Nat), rs[j]? = some (.o k e l) → os[j]? = some ow → ownIds os = ow.toList := by
    intro j k e l ow h1 h2
    refine own_only os j ow h2 fun j' hne ow' ho' => ?_
    rcases hro0 j' ow' ho' with h3 | ⟨id, k', e', l', _, ⟨_, h4⟩, _⟩
    ·exact h3
    ·exact absurd (countO_uniq (os := os) hc1 ⟨_, _, _, h4⟩ ⟨_, _, _, h1⟩) hne
   have hlive0 : ∀ i ∈ ownIds os, ∃ k e l, st.fs.B i = some (.ints k e l) := fun i hi => by
    obtain ⟨j, hj⟩ := own_idx hi
    rcases hro0 j _ hj with h1 | ⟨id, k, e, l, h1, _, h2⟩
    ·cases h1
    ·injection h1 with h1; subst h1; exact ⟨k, e, l, h2⟩
   obtain ⟨G, hG1, hG2, hG3⟩ : ∃ G : Option Nat, (ownIds os = [] → G = none) ∧ (∀ i, ownIds os = [i] → G = if E.ν i = true then none else some (E.ρ i)) ∧ ∀ g, G = some g → ∃ i ∈ ownIds os, Live E st.fs.B i ∧ E.ρ i = g := by
    cases hos : ownIds os with
    | nil => exact ⟨none, fun _ => rfl, fun i hi => (by cases hi), fun g hg => (by cases hg)⟩
    | cons i r =>
     refine ⟨if E.ν i = true then none else some (E.ρ i), (fun h => by cases h), (fun i' hi' => by injection hi' with e1 _; rw [e1]), fun g hg => ?_⟩
     split at hg
     ·cases hg
     ·rename_i hn
      injection hg with hg
      obtain ⟨k, e, l, hb⟩ := hlive0 i (by rw [hos]; exact List.mem_cons_self)
      exact ⟨i, List.mem_cons_self, ⟨⟨_, hb, by simp⟩, by simpa using hn⟩, hg⟩
   have hnbk : ∀ k, Lent E st.fs.B (NB (frameOf fn.ntmps w ok M xs us).okk E st.fs.B) ids k → (ok k ∨ w.heap.size ≤ k) ∧ G ≠ some k := by
    intro k hk
    rcases hk with hk | ⟨i, h1, h2, h3⟩
    ·refine ⟨?_, fun hg => ?_⟩
     ·rcases (hk.1 : ok k ∨ w.heap.size ≤ k ∨ ((pinAt xs 0).isSome = true ∧ M = some k)) with h1 | h1 | h1
      ·exact .inl h1
      ·exact .inr h1
      ·obtain ⟨i, _, h2, h3⟩ := hmx k h1
       exact absurd h3 (hk.2 i h2)
     ·obtain ⟨i, _, h2, h3⟩ := hG3 k hg
      exact hk.2 i h2 h3
    ·refine ⟨?_, fun hg => ?_⟩
     ·rcases hs.own i h2 with h4 | h4
      ·exact .inr (by rw [← h3]; exact h4)
      ·exact (hd1 i h1 (List.mem_append_right _ (hmine i h2 h4))).elim
     ·obtain ⟨i', h4, h5, h6⟩ := hG3 k hg
      have := hs.inj i i' h2 h5 (h3.trans h6.symm)
      subst this
      exact hd1 i h1 (List.mem_append_left _ h4)
   have hlen : vs.length = vars.length := by
    have : ∀ {vars : List ResultVar} {vs : List Value}, Vals P a.tmps w' vars vs → vs.length = vars.length := by
     intro vars vs h
     induction h with
     | nil => rfl
     | tmp _ ih => simp [ih]
     | cell _ _ _ _ _ _ _ _ _ _ _ ih => simp [ih]
    exact this hv
   have hfr : fn.results = vars.toArray := arr_of hvars
   refine ⟨packV vs, ?_, G, vs, rfl, rall_imp himp ?_, ?_, ?_⟩
   ·match vs, vars, hv, hlen, hfr with
    | [v], [x], hv, _, hfr => exact results_single hfr hv
    | [], [], hv, _, hfr => exact results_list hfr (by simp) hv
    | v1 :: v2 :: vs, vars, hv, _, hfr => exact results_list hfr (by simp) hv
   ·refine rall_of hnbk rs os vs hl1 hl2 hro fun j ow k e l u h1 h2 h3 => ?_
    have h4 := hown j k e l ow h1 h2
    refine ⟨?_, fun g hg => ?_⟩
    ·cases ow with
     | none =>
      have hg0 := hG1 h4
      subst hg0
      exact h3
     | some id =>
      have hg0 := hG2 id h4
      obtain ⟨hkk, h5, h6 | ⟨h6, c, h7, h8⟩⟩ := h3
      ·rw [if_pos h6.1] at hg0
       subst hg0
       exact ⟨hkk, h6.2.1, h6.2.2⟩
      ·rw [if_neg (by rw [h6]; simp)] at hg0
       subst hg0
       exact ⟨hkk, c, h7, h8.move rfl (Nat.le_refl _) fun q hq _ => ⟨rfl, hnbk q hq⟩⟩
    ·obtain ⟨i, h5, h6, h7⟩ := hG3 g hg
     rcases hs.own i h6 with h8 | h8
     ·rw [← h7]; exact h8
     ·exact (hd2 i h5 (hmine i h6 h8)).elim
   ·exact ⟨hs.fr.os, hs.fr.tape, hs.fr.output, hs.fr.size, fun k hk hM => hs.fr.block k hk fun h => hM h.2⟩
   ·refine mall_at hx fun s b k e l u h1 h2 => ?_
    obtain ⟨i, x, h3r, h3, h4, h5⟩ := hmut s b k e l u h1 h2
    rw [← hm0]
    refine ⟨x, h3r, ?_⟩
    rcases hp with ⟨h6, _, _, h7⟩ | ⟨s', b', k', e', l', u', x', h6, _, _, h8, h9, h10r, h10, _⟩
    ·have := m_count h1; omega
    ·have hss := count_uniq hc h1 h9
     subst hss
     rw [h1] at h9
     injection h9 with h9
     injection h9 with e0 e1 e2 e3
     subst e0; subst e1; subst e2; subst e3
     rw [h2] at h8
     injection h8 with h8
     subst h8
     have hxx := RowIn.uniq h3r h10r
     subst hxx
     cases hM : M with
     | none =>
      rw [hM] at h10
      rcases h5 with ⟨_, h11, h12⟩ | ⟨_, cs, h11, _⟩
      ·exact ⟨h11, h12⟩
      ·rw [h10.1] at h11; cases h11
     | some g =>
      rw [hM] at h10
      obtain ⟨cs0, h13, _⟩ := h10
      rcases h5 with ⟨_, h11, h12⟩ | ⟨_, cs, h11, h12⟩
      ·rw [h13] at h11; cases h11
      ·have hg : g = E.ρ i := by
        rw [h13] at h11
        injection h11 with h11
        injection h11 with h11
        injection h11
       subst hg
       exact ⟨cs, h11, h12⟩
  ·cases h
 ·cases h
end
section
variable {P : Program} {R : Type} {r : R}
theorem frame_pin {N : Nat} {w : World} {ok : Nat → Prop} {M : Option Nat} {xs : List XV} {us : List Value} : (frameOf N w ok M xs us).pin.map Prod.fst = pinAt xs 0 := by
 show ((pinAt xs 0).map _).map _ = _
 cases pinAt xs 0 <;> rfl
theorem fn_ok {f : FuncId} {fn : Func} {c : Code} {vars : List ResultVar} {ms : List RM} {Kf : List RV → List Int → Option R} {xs : List XV} {rs0 : List RV} {m0 : List Int}
  (hfn : P.funcs[f]? = some fn) (hb : fn.body = some c) (hname : (fn.name == "runtime.NumGoroutine") = false) (hmo : P.follows .mixedOrders = true) (hvars : fn.results.toList = vars) (hin : varsIn fn.ntmps vars = true)
  (hlen : xs.length ≤ fn.ntmps) (hc : countM xs ≤ 1) (G : Nat → Cfg R) (hT : ∀ k, (G k).T.ok P) (hS : ∀ k g s, (G k).S g = some s → s.ok P g) (hN : ∀ k, (G k).N = fn.ntmps) (hpn : ∀ k, (G k).pn = pinAt xs 0)
  (hk : ∀ k key, keepOf (G k) key = keepOf (G 0) key) (h0 : ∀ key vs, (G 0).F key vs ≠ some r) {T : TT} (hT0 : T.ok P)
  (hs : ∀ k, ∀ p ∈ occs (G k) c (Kmain (retV T vars ms (pinK xs 0) Kf)), ∀ keep vs, keepOf (G 0) p.1 = some keep → (G (k + 1)).F p.1 vs = some r → p.2 (build keep vs) = some r)
  (hfin : ∀ rs m', Kf rs m' = some r → RImp rs rs0 ∧ m' = m0) (k : Nat) (h : run (G k) c (initSt xs) (Kmain (retV T vars ms (pinK xs 0) Kf)) = some r) : QC P f xs rs0 m0 := by
 refine ⟨⟨fn, hfn, hname, by rw [hb]; rfl⟩, fun ok M w us hgl hx => calls_of_wp hfn hb ?_⟩
 have hf : ∀ k, Fit P (frameOf fn.ntmps w ok M xs us) (G k) := fun k => ⟨hT k, hS k, (hN k).symm, by rw [hpn k]; exact frame_pin, hmo⟩
 have hrel : Rel (frameOf fn.ntmps w ok M xs us) r (Kmain (retV T vars ms (pinK xs 0) Kf)) (bodyPost P fn fun e w' => ∃ G vs, e = .returned (packV vs) ∧ RAll w w' ok G rs0 vs ∧ Fr (fun k => M = some k) w w' ∧ MAll w w' M m0 xs us) := by
  intro e st a w' he hsim
  cases e with
  | ret => exact ret_ok hT0 hvars hin hx hc hfin he hsim
  | normal => exact ret_ok hT0 hvars hin hx hc hfin he hsim
  | _ => cases he
 exact run_ok (hf k) c _ _ _ _ _ (places G hf hk h0 hs hrel k) hrel h (init_sim hgl hx hlen hc)
end
inductive AK where
 | nil
 | p (s : SK) (r : AK)
 | m (b : Option TypeId) (k : IntKind) (e : TypeId) (r : AK)
def AK.T : AK → Type
 | .nil => Unit
 | .p s r => s.T × r.T
 | .m _ _ _ r => List Int × r.T
def AK.put : (A : AK) → A.T → List XV
 | .nil, _ => []
 | .p s r, t => .p (s.put t.1) :: r.put t.2
 | .m b k e r, t => .m b k e t.1 :: r.put t.2
def beqO : Option Nat → Option Nat → Bool
 | none, none => true
 | some a, some b => Nat.beq a b
 | _, _ => false
theorem beqO_eq {a b : Option Nat} (h : beqO a b = true) : a = b := by
 cases a <;> cases b <;> first | rfl | cases h | exact congrArg some (Nat.eq_of_beq_eq_true h)
def AK.get : (A : AK) → List XV → Option A.T
 | .nil, l => (match l with
  | [] => some ()
  | _ :: _ => none)
 | .p s r, l => (match l with
  | .p a :: l => (match s.get a, r.get l with
   | some t, some u => some (t, u)
   | _, _ => none)
  | _ => none)
 | .m b k e r, l => (match l with
  | .m b' k' e' x :: l => (match Nat.beq e' e, beqO b' b with
   | true, true => (match r.get l with
    | some u => if k' = k then some (x, u) else none
    | none => none)
   | _, _ => none)
  | _ => none)
def AK.on {R : Type} : (A : AK) → A.T → (List XV → Option R) → Option R
 | .nil, _, K => K []
 | .p s r, t, K => s.on t.1 fun a => r.on t.2 fun l => K (.p a :: l)
 | .m b k e r, t, K => r.on t.2 fun l => K (.m b k e t.1 :: l)
def AK.muts : AK → List Bool
 | .nil => []
 | .p _ r => false :: r.muts
 | .m _ _ _ r => true :: r.muts
def AK.pin : AK → Nat → Option Nat
 | .nil, _ => none
 | .p _ r, j => r.pin (j + 1)
 | .m _ _ _ _, j => some j
def AK.pinK : AK → Nat → Option (Nat × Option TypeId × IntKind × TypeId)
 | .nil, _ => none
 | .p _ r, j => r.pinK (j + 1)
 | .m b k e _, j => some (j, b, k, e)
def AK.count : AK → Nat
 | .nil => 0
 | .p _ r => r.count
 | .m _ _ _ r => r.count + 1
def AK.len : AK → Nat
 | .nil => 0
 | .p _ r => r.len + 1
 | .m _ _ _ r => r.len + 1
inductive RK where
 | nil
 | p (s : SK) (r : RK)
 | o (k : EK) (e : TypeId) (r : RK)
def SK.heap : SK → Bool
 | .int _ => false
 | .bool => false
 | .str => false
 | .nil => false
 | .agg l => l.heap
 | .cons a b => (match a.heap with
  | true => true
  | false => b.heap)
 | .row _ => true
 | .rows _ => true
 | .fp _ _ => true
 | .np _ _ => true
 | .clo _ _ => true
 | .sl _ => true
 | .pt _ _ => true
 | .any => true
def RK.heap : RK → Bool
 | .nil => false
 | .p s r => (match s.heap with
  | true => true
  | false => r.heap)
 | .o k _ r => (match k.inner with
  | true => true
  | false => r.heap)
def RK.T : RK → Type
 | .nil => Unit
 | .p s r => s.T × r.T
 | .o _ _ r => List Int × r.T
def RK.put : (A : RK) → A.T → List RV
 | .nil, _ => []
 | .p s r, t => .p (s.put t.1) :: r.put t.2
 | .o k e r, t => .o k e t.1 :: r.put t.2
def RK.get : (A : RK) → List RV → Option A.T
 | .nil, l => (match l with
  | [] => some ()
  | _ :: _ => none)
 | .p s r, l => (match l with
  | .p a :: l => (match s.get a, r.get l with
   | some t, some u => some (t, u)
   | _, _ => none)
  | _ => none)
 | .o k e r, l => (match l with
  | .o k' e' x :: l => (match Nat.beq e' e with
   | true => (match r.get l with
    | some u => if k' = k then some (x, u) else none
    | none => none)
   | false => none)
  | _ => none)
def RK.on {R : Type} : (A : RK) → A.T → (List RV → Option R) → Option R
 | .nil, _, K => K []
 | .p s r, t, K => s.on t.1 fun a => r.on t.2 fun l => K (.p a :: l)
 | .o k e r, t, K => r.on t.2 fun l => K (.o k e t.1 :: l)
def RK.ms : RK → List RM
 | .nil => []
 | .p _ r => .p :: r.ms
 | .o k e r => .o k e :: r.ms
theorem AK.on_eq {R : Type} : ∀ (A : AK) (t : A.T) (K : List XV → Option R), A.on t K = K (A.put t)
 | .nil, _, K => rfl
 | .p s r, t, K => by unfold AK.on AK.put; rw [SK.on_eq, AK.on_eq r]
 | .m b k e r, t, K => by unfold AK.on AK.put; rw [AK.on_eq r]
theorem RK.on_eq {R : Type} : ∀ (A : RK) (t : A.T) (K : List RV → Option R), A.on t K = K (A.put t)
 | .nil, _, K => rfl
 | .p s r, t, K => by unfold RK.on RK.put; rw [SK.on_eq, RK.on_eq r]
 | .o k e r, t, K => by unfold RK.on RK.put; rw [RK.on_eq r]
theorem AK.pin_put : ∀ (A : AK) (t : A.T) (j : Nat), pinAt (A.put t) j = A.pin j
 | .nil, _, j => rfl
 | .p s r, t, j => by unfold AK.put AK.pin pinAt; exact AK.pin_put r t.2 (j + 1)
 | .m b k e r, t, j => rfl
theorem AK.pinK_put : ∀ (A : AK) (t : A.T) (j : Nat), E.pinK (A.put t) j = A.pinK j
 | .nil, _, j => rfl
 | .p s r, t, j => by unfold AK.put AK.pinK E.pinK; exact AK.pinK_put r t.2 (j + 1)
 | .m b k e r, t, j => rfl
theorem AK.count_put : ∀ (A : AK) (t : A.T), countM (A.put t) = A.count
 | .nil, _ => rfl
 | .p s r, t => by unfold AK.put AK.count countM; exact AK.count_put r t.2
 | .m b k e r, t => by unfold AK.put AK.count countM; rw [AK.count_put r t.2]
theorem AK.len_put : ∀ (A : AK) (t : A.T), (A.put t).length = A.len
 | .nil, _ => rfl
 | .p s r, t => by unfold AK.put AK.len; rw [List.length_cons, AK.len_put r t.2]
 | .m b k e r, t => by unfold AK.put AK.len; rw [List.length_cons, AK.len_put r t.2]
theorem RK.get_imp : ∀ (A : RK) {l : List RV} {t : A.T}, A.get l = some t → RImp l (A.put t)
 | .nil, l, t, h => by
  unfold RK.get at h
  cases l with
  | nil => trivial
  | cons x l => cases h
 | .p s r, l, t, h => by
  unfold RK.get at h
  cases l with
  | nil => cases h
  | cons x l =>
   cases x with
   | o k e y => cases h
   | p a =>
    simp only at h
    split at h
    ·rename_i t1 t2 h1 h2
     injection h with h
     subst h
     exact ⟨fun W v hd => SK.get_den s h1 hd, RK.get_imp r h2⟩
    ·cases h
 | .o k e r, l, t, h => by
  unfold RK.get at h
  cases l with
  | nil => cases h
  | cons x l =>
   cases x with
   | p a => cases h
   | o k' e' y =>
    simp only at h
    split at h
    ·rename_i hb
     split at h
     ·rename_i u hu
      split at h
      ·rename_i hk
       injection h with h
       subst h
       exact ⟨⟨hk, Nat.eq_of_beq_eq_true hb, rfl⟩, RK.get_imp r hu⟩
      ·cases h
     ·cases h
    ·cases h
theorem AK.get_all {w : World} {ok : Nat → Prop} {M : Option Nat} : ∀ (A : AK) {l : List XV} {t : A.T} {us : List Value}, A.get l = some t → XAll w ok M l us → XAll w ok M (A.put t) us ∧ ∀ w' m', MAll w w' M m' (A.put t) us → MAll w w' M m' l us
 | .nil, l, t, us, h, hx => by
  unfold AK.get at h
  cases l with
  | nil => exact ⟨hx, fun _ _ h => h⟩
  | cons x l => cases h
 | .p s r, l, t, us, h, hx => by
  unfold AK.get at h
  cases l with
  | nil => cases h
  | cons x l =>
   cases x with
   | m b k e y => cases h
   | p a =>
    simp only at h
    split at h
    ·rename_i t1 t2 h1 h2
     injection h with h
     subst h
     cases us with
     | nil => exact hx.elim
     | cons u us =>
      obtain ⟨h3, h4⟩ := AK.get_all r h2 hx.2
      exact ⟨⟨fun W' hW => SK.get_den s h1 (hx.1 W' hW), h3⟩, fun w' m' hm => h4 w' m' hm⟩
    ·cases h
 | .m b k e r, l, t, us, h, hx => by
  unfold AK.get at h
  cases l with
  | nil => cases h
  | cons x l =>
   cases x with
   | p a => cases h
   | m b' k' e' y =>
    simp only at h
    split at h
    ·rename_i hb hbo
     have := beqO_eq hbo
     subst this
     split at h
     ·rename_i u hu
      split at h
      ·rename_i hk
       injection h with h
       subst h; subst hk
       have := Nat.eq_of_beq_eq_true hb
       subst this
       cases us with
       | nil => exact hx.elim
       | cons v us =>
        obtain ⟨h3, h4⟩ := AK.get_all r hu hx.2
        exact ⟨⟨hx.1, h3⟩, fun w' m' hm => ⟨hm.1, h4 w' m' hm.2⟩⟩
      ·cases h
     ·cases h
    ·cases h
section
variable {P : Program} {R β : Type}
def Does (P : Program) (f : FuncId) (A : AK) (Q : RK) (g : A.T → Option β) (h : β → Q.T × List Int) : Prop := ∀ x b, g x = some b → QC P f (A.put x) (Q.put (h b).1) (h b).2
def told (R : Type) (A : AK) (Q : RK) (g : A.T → Option β) (h : β → Q.T × List Int) : Spec R := ⟨A.muts, Q.heap && Nat.beq A.count 0, fun xs K => match A.get xs with
 | some x => (g x).bind fun b => Q.on (h b).1 fun rs => K rs (h b).2
 | none => none, none⟩
theorem told_ok {f : FuncId} {A : AK} {Q : RK} {g : A.T → Option β} {h : β → Q.T × List Int} (hd : Does P f A Q g h) : (told R A Q g h).ok P f := by
 refine ⟨?_, fun g hg => by cases hg⟩
 intro xs K r hr
 unfold told at hr
 simp only at hr
 split at hr
 ·rename_i x hx
  cases hg : g x with
  | none => rw [hg] at hr; cases hr
  | some b =>
   rw [hg] at hr
   have h1 : Q.on (h b).1 (fun rs => K rs (h b).2) = some r := hr
   rw [RK.on_eq] at h1
   refine ⟨_, _, h1, ?_⟩
   obtain ⟨h2, h3⟩ := hd x b hg
   refine ⟨h2, fun ok M w us hgl hxs => ?_⟩
   obtain ⟨h4, h5⟩ := AK.get_all A hx hxs
   exact fun cs => (h3 ok M w us hgl h4 cs).elim fun e h6 => h6.elim fun w' h7 => h7.elim fun fr h8 => ⟨e, w', fr, h8.1.elim fun G h9 => h9.elim fun vs a => ⟨G, vs, a.1, a.2.1, a.2.2.1, h5 w' _ a.2.2.2⟩, h8.2⟩
 ·cases hr
def TabOk (P : Program) : List (Nat × Spec R) → Prop
 | [] => True
 | p :: r => p.2.ok P p.1 ∧ TabOk P r
theorem tab_look {f : Nat} {s : Spec R} : ∀ {l : List (Nat × Spec R)}, TabOk P l → look f l = some s → s.ok P f
 | [], _, h => by cases h
 | (g, t) :: l, h, hl => by
  unfold look at hl
  split at hl
  ·rename_i hb
   injection hl with hl
   subst hl
   rw [Nat.eq_of_beq_eq_true hb]
   exact h.1
  ·exact tab_look h.2 hl
end
structure Decl (β : Type) where
 c : Code
 N : Nat
 vars : List ResultVar
 A : AK
 Q : RK
 u : Q.T → List Int → β
 T : TT
 cutR : List (Nat × List (Nat × KM))
 cutL : List (Nat × List (Nat × KM))
 fz : List (Nat × List Nat)
section
variable {P : Program} {β : Type}
def Decl.G (D : Decl β) (S : List (Nat × Spec β)) (F : Nat → List CV → Option β) : Cfg β := ⟨D.T, fun f => look f S, D.N, D.A.pin 0, fun n => look n D.cutR, fun n => look n D.cutL, fun n => (look n D.fz).getD [], F⟩
def finOk : Nat → List Int → Bool
 | 0, [] => true
 | 0, _ :: _ => false
 | _ + 1, _ => true
theorem finOk_of {n : Nat} {m : List Int} (h : finOk n m = true) (h0 : n = 0) : m = [] := by
 subst h0
 cases m with
 | nil => rfl
 | cons a l => cases h
def Decl.fin (D : Decl β) (rs : List RV) (m : List Int) : Option β := match D.Q.get rs with
 | some y => (match finOk D.A.count m with
  | true => some (D.u y m)
  | false => none)
 | none => none
def Decl.K (D : Decl β) : Exit → St → Option β := Kmain (retV D.T D.vars D.Q.ms (D.A.pinK 0) D.fin)
def Decl.keep (D : Decl β) (key : Nat) : Option (List (Nat × KM)) := if key % 2 = 0 then look (key / 2) D.cutR else look (key / 2) D.cutL
noncomputable def Decl.F (D : Decl β) (S : Nat → List (Nat × Spec β)) : Nat → Nat → List CV → Option β
 | 0 => fun _ _ => none
 | k + 1 => fun key vs => match D.keep key, look key (occs (D.G (S k) (Decl.F D S k)) D.c D.K) with
  | some keep, some q => q (build keep vs)
  | _, _ => none
noncomputable def Decl.val (D : Decl β) (S : Nat → List (Nat × Spec β)) (k : Nat) (x : D.A.T) : Option β := D.A.on x fun xs => run (D.G (S k) (D.F S k)) D.c (initSt xs) D.K
def keysOf : Code → List Nat
 | .region id _ _ => [2 * id]
 | .seq x y => keysOf x ++ keysOf y
 | .cond _ x y => keysOf x ++ keysOf y
 | .block _ x => keysOf x
 | .loop x => (2 * nameOf x + 1) :: keysOf x
 | .scope x => ((labs x).map fun l => 2 * (1000 + l) + 1) ++ keysOf x
 | _ => []
theorem occs_keys {R : Type} {G : Cfg R} : ∀ (c : Code) (K : Exit → St → Option R), (occs G c K).map Prod.fst = keysOf c
 | .region id ops draw, K => rfl
 | .seq x y, K => by unfold occs keysOf; rw [List.map_append, occs_keys x, occs_keys y]
 | .cond _ x y, K => by unfold occs keysOf; rw [List.map_append, occs_keys x, occs_keys y]
 | .block _ x, K => by unfold occs keysOf; rw [occs_keys x]
 | .loop x, K => by unfold occs keysOf; rw [List.map_cons, occs_keys x]
 | .skip, _ => rfl
 | .label _, _ => rfl
 | .exit _, _ => rfl
 | .ret, _ => rfl
 | .rangeFunc _ _ _ _, _ => rfl
 | .scope x, K => by unfold occs keysOf; rw [List.map_append, occs_keys x, List.map_map]; rfl
 | .goto _, _ => rfl
 | .refuse _, _ => rfl
theorem look_nodup {α : Type} : ∀ {l : List (Nat × α)} {p : Nat × α}, (l.map Prod.fst).Nodup → p ∈ l → look p.1 l = some p.2
 | (n, x) :: l, p, hn, hp => by
  rcases List.mem_cons.1 hp with h | h
  ·subst h
   simp [look]
  ·have hne : Nat.beq p.1 n = false := by
    cases hb : Nat.beq p.1 n with
    | false => rfl
    | true =>
     have := Nat.eq_of_beq_eq_true hb
     rw [List.map_cons] at hn
     exact absurd (this ▸ List.mem_map_of_mem (f := Prod.fst) h : n ∈ l.map Prod.fst) (List.nodup_cons.1 hn).1
   unfold look
   rw [hne]
   exact look_nodup (List.nodup_cons.1 hn).2 h
structure Decl.Fits (D : Decl β) (P : Program) (f : FuncId) (fn : Func) : Prop where
 at_ : P.funcs[f]? = some fn
 body : fn.body = some D.c
 name : (fn.name == "runtime.NumGoroutine") = false
 mo : P.follows .mixedOrders = true
 vars : fn.results.toList = D.vars
 N : fn.ntmps = D.N
 T : D.T.ok P
 chk : (varsIn D.N D.vars && Nat.ble D.A.len D.N && Nat.ble D.A.count 1 && nodupB (keysOf D.c)) = true
theorem Decl.does {D : Decl β} {f : FuncId} {fn : Func} (hf : D.Fits P f fn) {S : Nat → List (Nat × Spec β)} (hS : ∀ k, TabOk P (S k)) {h : β → D.Q.T × List Int} (hu : ∀ y m, (D.A.count = 0 → m = []) → h (D.u y m) = (y, m)) (k : Nat) : Does P f D.A D.Q (D.val S k) h := by
 intro x b hb
 have hc := hf.chk
 simp only [Bool.and_eq_true] at hc
 obtain ⟨⟨⟨h1, h2⟩, h3⟩, h4⟩ := hc
 unfold Decl.val at hb
 rw [AK.on_eq] at hb
 refine fn_ok (Kf := D.fin) (ms := D.Q.ms) (T := D.T) hf.at_ hf.body hf.name hf.mo hf.vars (by rw [hf.N]; exact h1) (by rw [AK.len_put, hf.N]; exact Nat.le_of_ble_eq_true h2) (by rw [AK.count_put]; exact Nat.le_of_ble_eq_true h3) (fun k => D.G (S k) (D.F S k)) (fun _ => hf.T) (fun k g s hg => tab_look (hS k) hg) (fun _ => hf.N.symm) (fun _ => (AK.pin_put D.A x 0).symm) (fun _ _ => rfl) (fun key vs h => (by cases (h : none = some b))) hf.T ?_ ?_ k ?_
 ·intro k p hp keep vs hk hF
  have hn : ((occs (D.G (S k) (D.F S k)) D.c D.K).map Prod.fst).Nodup := by rw [occs_keys]; exact nodup_of h4
  have hp' : p ∈ occs (D.G (S k) (D.F S k)) D.c D.K := by
   have : D.K = Kmain (retV D.T D.vars D.Q.ms (E.pinK (D.A.put x) 0) D.fin) := by unfold Decl.K; rw [AK.pinK_put]
   rw [this]; exact hp
  have hl := look_nodup hn hp'
  have hF' : D.F S (k + 1) p.1 vs = some b := hF
  have hk' : D.keep p.1 = some keep := hk
  unfold Decl.F at hF'
  simp only [hk', hl] at hF'
  exact hF'
 ·intro rs m' hr
  unfold Decl.fin at hr
  split at hr
  ·rename_i y hy
   split at hr
   ·rename_i hm
    injection hr with hr
    subst hr
    rw [hu y m' (finOk_of hm)]
    exact ⟨RK.get_imp D.Q hy, rfl⟩
   ·cases hr
  ·cases hr
 ·have : D.K = Kmain (retV D.T D.vars D.Q.ms (E.pinK (D.A.put x) 0) D.fin) := by unfold Decl.K; rw [AK.pinK_put]
  rw [← this]; exact hb
end
def udOf : TypeDesc → Option UD
 | .int k => some (.int k)
 | .bool => some .bool
 | .string => some .str
 | .pointer e => some (.ptr e)
 | .slice e => some (.slice e)
 | .struct fs => some (.struct (fs.toList.map fun f => (f.type, f.offset)))
 | .array n e => some (.array n e)
 | .map k e => some (.map k e)
 | _ => none
def undOf (P : Program) : List Nat → List (Nat × UD)
 | [] => []
 | t :: r => match P.underlying t with
  | some d => (match udOf d with
   | some u => (t, u) :: undOf P r
   | none => undOf P r)
  | none => undOf P r
def infOf (P : Program) : List Nat → List (Nat × (Nat × Nat × List Value))
 | [] => []
 | t :: r => match P.info? t with
  | some i => (match i.zero with
   | some z => (t, (i.size, i.bytes, z.cells.toList)) :: infOf P r
   | none => infOf P r)
  | none => infOf P r
def zerOf (P : Program) : List Nat → List (Nat × Value)
 | [] => []
 | t :: r => match P.info? t with
  | some i => (match i.zero with
   | some z => (t, z) :: zerOf P r
   | none => zerOf P r)
  | none => zerOf P r
def TT.of (P : Program) (ids : List Nat) (ext : List (Nat × Bool)) : TT := ⟨undOf P ids, infOf P ids, ext, zerOf P ids⟩
section
variable {P : Program}
theorem und_of {t : Nat} {d : UD} : ∀ {ids : List Nat}, look t (undOf P ids) = some d → d.ok P t
 | [], h => by cases h
 | i :: r, h => by
  unfold undOf at h
  split at h
  ·rename_i d' hd
   split at h
   ·rename_i u hu
    unfold look at h
    split at h
    ·rename_i hb
     injection h with h
     subst h
     rw [Nat.eq_of_beq_eq_true hb]
     unfold udOf at hu
     split at hu
     all_goals first
      | (injection hu with hu; subst hu; exact hd)
      | (injection hu with hu; subst hu; exact ⟨_, hd, rfl⟩)
      | cases hu
    ·exact und_of h
   ·exact und_of h
  ·exact und_of h
theorem inf_of {t : Nat} {x : Nat × Nat × List Value} : ∀ {ids : List Nat}, look t (infOf P ids) = some x → ∃ i z, P.info? t = some i ∧ i.size = x.1 ∧ i.bytes = x.2.1 ∧ i.zero = some z ∧ z.cells.toList = x.2.2
 | [], h => by cases h
 | i :: r, h => by
  unfold infOf at h
  split at h
  ·rename_i d' hd
   split at h
   ·rename_i z hz
    unfold look at h
    split at h
    ·rename_i hb
     injection h with h
     subst h
     rw [Nat.eq_of_beq_eq_true hb]
     exact ⟨_, _, hd, rfl, rfl, hz, rfl⟩
    ·exact inf_of h
   ·exact inf_of h
  ·exact inf_of h
theorem zer_of {t : Nat} {z : Value} : ∀ {ids : List Nat}, look t (zerOf P ids) = some z → ∃ i, P.info? t = some i ∧ i.zero = some z
 | [], h => by cases h
 | j :: r, h => by
  unfold zerOf at h
  split at h
  ·rename_i i hi
   split at h
   ·rename_i z' hz
    unfold look at h
    split at h
    ·rename_i hb
     injection h with h
     subst h
     rw [Nat.eq_of_beq_eq_true hb]
     exact ⟨i, hi, hz⟩
    ·exact zer_of h
   ·exact zer_of h
  ·exact zer_of h
def ExAll (P : Program) : List (Nat × Bool) → Prop
 | [] => True
 | p :: r => ExOk P p.1 p.2 ∧ ExAll P r
theorem ex_look {f : Nat} {b : Bool} : ∀ {l : List (Nat × Bool)}, ExAll P l → look f l = some b → ExOk P f b
 | [], _, h => by cases h
 | (g, c) :: l, h, hl => by
  unfold look at hl
  split at hl
  ·rename_i hb
   injection hl with hl
   subst hl
   rw [Nat.eq_of_beq_eq_true hb]
   exact h.1
  ·exact ex_look h.2 hl
theorem TT.of_ok (ids : List Nat) {ext : List (Nat × Bool)} (he : ExAll P ext) : (TT.of P ids ext).ok P := ⟨fun _ _ h => und_of h, fun _ _ h => inf_of h, fun _ _ h => ex_look he h, fun _ _ h => zer_of h⟩
def adEntry : Array Value → Sem Value := fun args => do
 let (x, y, c) ← Extern.MathBitsCarry.three "Add64" args
 pure (Extern.MathBitsCarry.pair ((x + y + c) % Extern.MathBitsCarry.m64) ((x + y + c) / Extern.MathBitsCarry.m64))
def sbEntry : Array Value → Sem Value := fun args => do
 let (x, y, b) ← Extern.MathBitsCarry.three "Sub64" args
 pure (Extern.MathBitsCarry.pair ((x + Extern.MathBitsCarry.m64 - y - b) % Extern.MathBitsCarry.m64) (if x < y + b then 1 else 0))
theorem adRun0 (x y c : Int) (h : c ≤ 1) (w : World) : (adEntry #[.int .u64 x, .int .u64 y, .int .u64 c]).run P w = .ok (.tuple #[.int .u64 (adS x y c), .int .u64 (adC x y c)]) w := by
 cases c with
 | ofNat k =>
  have : k = 0 ∨ k = 1 := by simp at h; omega
  rcases this with rfl | rfl <;> rw [adS_eq, adC_eq] <;> rfl
 | negSucc k => rw [adS_eq, adC_eq]; rfl
theorem sbRun0 (x y c : Int) (h : c ≤ 1) (w : World) : (sbEntry #[.int .u64 x, .int .u64 y, .int .u64 c]).run P w = .ok (.tuple #[.int .u64 (sbS x y c), .int .u64 (sbC x y c)]) w := by
 cases c with
 | ofNat k =>
  have : k = 0 ∨ k = 1 := by simp at h; omega
  rcases this with rfl | rfl <;> rw [sbS_eq, sbC_eq] <;> rfl
 | negSucc k => rw [sbS_eq, sbC_eq]; rfl
end
end Go.Proofs.YtkoeddgbhohggaaGreatDoor.E
end
section
namespace Go.Proofs
open Go.Shelf
def Tryd.lays264_ren : Go.Shelf.Ren := ⟨fun | 264 => 65 | n => n, fun | 53 => 23 | 46 => 85 | n => n, fun | n => n⟩
theorem Tryd.lays264 : Go.Proofs.Lays.n264 Tryz.prog Tryd.lays264_ren := {
 mixed := by kernel_rfl
 f264 := Tryz.func65.trans (congrArg some (by kernel_rfl))
 t46 := Tryz.underlying85
 a46 := Tryz.isAgg85
 z46 := Tryz.sizeOf85
 v46 := Tryz.zeroValue85
 t53 := Tryz.underlying23
 a53 := Tryz.isAgg23
 z53 := Tryz.sizeOf23
 v53 := Tryz.zeroValue23 }
def Tryd.lays129_ren : Go.Shelf.Ren := ⟨fun | 129 => 93 | n => n, fun | 53 => 23 | 3 => 3 | 4 => 4 | 46 => 85 | 5 => 5 | 9 => 9 | n => n, fun | n => n⟩
theorem Tryd.lays129 : Go.Proofs.Lays.n129 Tryz.prog Tryd.lays129_ren := {
 mixed := by kernel_rfl
 f129 := Tryz.func93.trans (congrArg some (by kernel_rfl))
 t3 := Tryz.underlying3
 a3 := Tryz.isAgg3
 z3 := Tryz.sizeOf3
 v3 := Tryz.zeroValue3
 t4 := Tryz.underlying4
 a4 := Tryz.isAgg4
 z4 := Tryz.sizeOf4
 v4 := Tryz.zeroValue4
 t5 := Tryz.underlying5
 a5 := Tryz.isAgg5
 z5 := Tryz.sizeOf5
 v5 := Tryz.zeroValue5
 t9 := Tryz.underlying9
 a9 := Tryz.isAgg9
 z9 := Tryz.sizeOf9
 v9 := Tryz.zeroValue9
 t46 := Tryz.underlying85
 a46 := Tryz.isAgg85
 z46 := Tryz.sizeOf85
 v46 := Tryz.zeroValue85
 t53 := Tryz.underlying23
 a53 := Tryz.isAgg23
 z53 := Tryz.sizeOf23
 v53 := Tryz.zeroValue23 }
def Tryd.lays134_ren : Go.Shelf.Ren := ⟨fun | 134 => 78 | 129 => 93 | n => n, fun | 53 => 23 | 3 => 3 | 4 => 4 | 46 => 85 | 5 => 5 | 9 => 9 | n => n, fun | n => n⟩
theorem Tryd.lays134 : Go.Proofs.Lays.n134 Tryz.prog Tryd.lays134_ren := {
 mixed := by kernel_rfl
 f129 := Tryz.func93.trans (congrArg some (by kernel_rfl))
 f134 := Tryz.func78.trans (congrArg some (by kernel_rfl))
 t3 := Tryz.underlying3
 a3 := Tryz.isAgg3
 z3 := Tryz.sizeOf3
 v3 := Tryz.zeroValue3
 t4 := Tryz.underlying4
 a4 := Tryz.isAgg4
 z4 := Tryz.sizeOf4
 v4 := Tryz.zeroValue4
 t5 := Tryz.underlying5
 a5 := Tryz.isAgg5
 z5 := Tryz.sizeOf5
 v5 := Tryz.zeroValue5
 t9 := Tryz.underlying9
 a9 := Tryz.isAgg9
 z9 := Tryz.sizeOf9
 v9 := Tryz.zeroValue9
 t46 := Tryz.underlying85
 a46 := Tryz.isAgg85
 z46 := Tryz.sizeOf85
 v46 := Tryz.zeroValue85
 t53 := Tryz.underlying23
 a53 := Tryz.isAgg23
 z53 := Tryz.sizeOf23
 v53 := Tryz.zeroValue23 }
def Tryd.layss29_ren : Go.Shelf.Ren := ⟨fun | 29 => 116 | n => n, fun | 22 => 23 | 3 => 3 | 4 => 4 | 25 => 85 | 54 => 152 | 0 => 0 | 5 => 5 | n => n, fun | 1 => 2 | n => n⟩
theorem Tryd.layss29 : Go.Proofs.Lays7.n29 Tryz.prog Tryd.layss29_ren := {
 mixed := by kernel_rfl
 f29 := Tryz.func116.trans (congrArg some (by kernel_rfl))
 t0 := Tryz.underlying0
 a0 := Tryz.isAgg0
 z0 := Tryz.sizeOf0
 v0 := Tryz.zeroValue0
 i0 := by kernel_rfl
 t3 := Tryz.underlying3
 a3 := Tryz.isAgg3
 z3 := Tryz.sizeOf3
 v3 := Tryz.zeroValue3
 i3 := by kernel_rfl
 t4 := Tryz.underlying4
 a4 := Tryz.isAgg4
 z4 := Tryz.sizeOf4
 v4 := Tryz.zeroValue4
 i4 := by kernel_rfl
 t5 := Tryz.underlying5
 a5 := Tryz.isAgg5
 z5 := Tryz.sizeOf5
 v5 := Tryz.zeroValue5
 i5 := by kernel_rfl
 t22 := Tryz.underlying23
 a22 := Tryz.isAgg23
 z22 := Tryz.sizeOf23
 v22 := Tryz.zeroValue23
 i22 := by kernel_rfl
 t25 := Tryz.underlying85
 a25 := Tryz.isAgg85
 z25 := Tryz.sizeOf85
 v25 := Tryz.zeroValue85
 i25 := by kernel_rfl
 t54 := Tryz.underlying152
 a54 := Tryz.isAgg152
 z54 := Tryz.sizeOf152
 g1 := by kernel_rfl }
end Go.Proofs
end
section
namespace Go.Proofs.YtkoeddgbhohggaaGreatDoor.E
open Go.RowKit Go.Proofs.YtkoeddgbhohggaaGreatDoorW.PrintWords Go.Proofs.YtkoeddgbhohggaaGreatDoorW.PrintLast
set_option linter.unusedVariables false
theorem xall_lits {w : World} {ok : Nat → Prop} {M : Option Nat} : ∀ {vs us : List Value}, XAll w ok M (vs.map fun v => .p (.lit v)) us → us = vs
 | [], [], _ => rfl
 | [], _ :: _, h => (h : False).elim
 | _ :: _, [], h => (h : False).elim
 | v :: vs, u :: us, h => by rw [lit_of (E := En0) (B := fun _ => none) h.1, xall_lits h.2]
theorem mall_lits {w w' : World} {M : Option Nat} {m : List Int} : ∀ (vs us : List Value), MAll w w' M m (vs.map fun v => .p (.lit v)) us
 | [], [] => trivial
 | [], _ :: _ => trivial
 | _ :: _, [] => trivial
 | v :: vs, u :: us => mall_lits vs us
theorem rall_lits {w w' : World} {ok : Nat → Prop} {G : Option Nat} : ∀ (vs : List Value), RAll w w' ok G (vs.map fun v => .p (.lit v)) vs
 | [] => trivial
 | v :: vs => ⟨held_lit v, rall_lits vs⟩
theorem qc_lits {P : Program} {f : FuncId} {fn : Func} (hfn : P.funcs[f]? = some fn) (hname : (fn.name == "runtime.NumGoroutine") = false) (hbody : fn.body.isSome = true) {vs rs : List Value}
  (h : ∀ w ok, GOk w ok → Calls P f vs.toArray w fun e w' => e = .returned (packV rs) ∧ w' = w) : QC P f (vs.map fun v => .p (.lit v)) (rs.map fun v => .p (.lit v)) [] := by
 refine ⟨⟨fn, hfn, hname, hbody⟩, fun ok M w us hgl hx => ?_⟩
 rw [xall_lits hx]
 refine Calls.mono (h w ok hgl) fun e w' h => ?_
 obtain ⟨h1, h2⟩ := h
 subst h2
 exact ⟨none, rs, h1, rall_lits rs, Fr.refl _ _, mall_lits _ _⟩
end Go.Proofs.YtkoeddgbhohggaaGreatDoor.E
namespace Go.Proofs.YtkoeddgbhohggaaGreatDoor.F
open Go.Proofs.YtkoeddgbhohggaaGreatDoor.E Go.RowKit Go.Proofs.YtkoeddgbhohggaaGreatDoorW.PrintWords Go.Proofs.YtkoeddgbhohggaaGreatDoorW.PrintLast
set_option linter.unusedVariables false
def isW (a : Int) : Bool := decide (0 ≤ a) && decide (a < 18446744073709551616)
theorem isW_of {a : Int} (h : isW a = true) : ∃ n : Nat, a = n ∧ n < 18446744073709551616 := by
 unfold isW at h
 rw [Bool.and_eq_true, decide_eq_true_eq, decide_eq_true_eq] at h
 exact ⟨a.toNat, by omega, by omega⟩
theorem isW_nat {n : Nat} (h : n < 18446744073709551616) : isW (n : Int) = true := by
 unfold isW
 rw [Bool.and_eq_true, decide_eq_true_eq, decide_eq_true_eq]
 omega
def Zz18.A : AK := .p (.int .u64) (.p (.int .u64) .nil)
def Zz18.Q : RK := .p (.int .u64) (.p (.int .u64) .nil)
def Zz18.h : (Int × Int) → Zz18.Q.T × List Int := fun b => ((b.1, b.2, ()), [])
def Zz18.f (k : Nat) (a b : Int) : Option (Int × Int) := if isW a && isW b then some (((a.toNat * b.toNat / 18446744073709551616 : Nat) : Int), ((a.toNat * b.toNat % 18446744073709551616 : Nat) : Int)) else none
def Zz18.g (k : Nat) (x : Zz18.A.T) : Option (Int × Int) := Zz18.f k x.1 x.2.1
theorem Zz18.qc (k : Nat) (a b : Int) (r : Int × Int) (hb : Zz18.f k a b = some r) : QC Go.Proofs.Tryz.prog 65 [.p (.lit (.int .u64 a)), .p (.lit (.int .u64 b))] [.p (.lit (.int .u64 r.1)), .p (.lit (.int .u64 r.2))] [] := by
 unfold Zz18.f at hb
 split at hb
 ·rename_i hw
  rw [Bool.and_eq_true] at hw
  obtain ⟨n, rfl, hn⟩ := isW_of hw.1
  obtain ⟨m, rfl, hm⟩ := isW_of hw.2
  injection hb with hb
  subst hb
  exact qc_lits (vs := [.int .u64 (n : Int), .int .u64 (m : Int)]) (rs := [.int .u64 _, .int .u64 _]) Go.Proofs.Tryz.func65 (by kernel_rfl) (by kernel_rfl) fun w ok _ => Any.bits_Mul64 Go.Proofs.Tryd.lays264 n m hn hm w
 ·cases hb
theorem Zz18.does (k : Nat) : Does Go.Proofs.Tryz.prog 65 Zz18.A Zz18.Q (Zz18.g k) Zz18.h := fun x b hb => Zz18.qc k x.1 x.2.1 b hb
def Zz17.A : AK := .p (.int .u64) .nil
def Zz17.Q : RK := .p (.int .i64) .nil
def Zz17.h : Int → Zz17.Q.T × List Int := fun b => (((b), ()), [])
def Zz17.f (k : Nat) (a : Int) : Option Int := if isW a then some ((Lib.bitLen a.toNat : Nat) : Int) else none
def Zz17.g (k : Nat) (x : Zz17.A.T) : Option Int := Zz17.f k x.1
theorem Zz17.qc (k : Nat) (a b : Int) (hb : Zz17.f k a = some b) : QC Go.Proofs.Tryz.prog 93 [.p (.lit (.int .u64 a))] [.p (.lit (.int .i64 b))] [] := by
 unfold Zz17.f at hb
 split at hb
 ·rename_i hw
  obtain ⟨n, rfl, hn⟩ := isW_of hw
  injection hb with hb
  subst hb
  exact qc_lits (vs := [.int .u64 (n : Int)]) (rs := [.int .i64 _]) Go.Proofs.Tryz.func93 (by kernel_rfl) (by kernel_rfl) fun w ok _ => Any.bits_Len64 Go.Proofs.Tryd.lays129 n w (by omega) (by omega)
 ·cases hb
theorem Zz17.does (k : Nat) : Does Go.Proofs.Tryz.prog 93 Zz17.A Zz17.Q (Zz17.g k) Zz17.h := fun x b hb => Zz17.qc k x.1 b hb
def Zz14.A : AK := .p (.int .u64) .nil
def Zz14.Q : RK := .p (.int .i64) .nil
def Zz14.h : Int → Zz14.Q.T × List Int := fun b => (((b), ()), [])
def Zz14.f (k : Nat) (a : Int) : Option Int := if isW a then some (64 - ((Lib.bitLen a.toNat : Nat) : Int)) else none
def Zz14.g (k : Nat) (x : Zz14.A.T) : Option Int := Zz14.f k x.1
theorem Zz14.qc (k : Nat) (a b : Int) (hb : Zz14.f k a = some b) : QC Go.Proofs.Tryz.prog 78 [.p (.lit (.int .u64 a))] [.p (.lit (.int .i64 b))] [] := by
 unfold Zz14.f at hb
 split at hb
 ·rename_i hw
  obtain ⟨n, rfl, hn⟩ := isW_of hw
  injection hb with hb
  subst hb
  exact qc_lits (vs := [.int .u64 (n : Int)]) (rs := [.int .i64 _]) Go.Proofs.Tryz.func78 (by kernel_rfl) (by kernel_rfl) fun w ok _ => Any.bits_LeadingZeros64 Go.Proofs.Tryd.lays134 n w (by omega) (by omega)
 ·cases hb
theorem Zz14.does (k : Nat) : Does Go.Proofs.Tryz.prog 78 Zz14.A Zz14.Q (Zz14.g k) Zz14.h := fun x b hb => Zz14.qc k x.1 b hb
def Zz20.A : AK := .p (.int .u64) .nil
def Zz20.Q : RK := .p (.int .i64) .nil
def Zz20.h : Int → Zz20.Q.T × List Int := fun b => (((b), ()), [])
def Zz20.f (k : Nat) (a : Int) : Option Int := if isW a then some ((Lib.ctz 64 a.toNat : Nat) : Int) else none
def Zz20.g (k : Nat) (x : Zz20.A.T) : Option Int := Zz20.f k x.1
theorem Zz20.qc (k : Nat) (a b : Int) (hb : Zz20.f k a = some b) : QC Go.Proofs.Tryz.prog 116 [.p (.lit (.int .u64 a))] [.p (.lit (.int .i64 b))] [] := by
 unfold Zz20.f at hb
 split at hb
 ·rename_i hw
  obtain ⟨n, rfl, hn⟩ := isW_of hw
  injection hb with hb
  subst hb
  exact qc_lits (vs := [.int .u64 (n : Int)]) (rs := [.int .i64 _]) Go.Proofs.Tryz.func116 (by kernel_rfl) (by kernel_rfl) fun w ok hgl => Any7.bits_TrailingZeros64 Go.Proofs.Tryd.layss29 n hn w fun _ => (hgl (Go.Proofs.Tryd.layss29_ren.g 1, Lib.deBruijn64tab) (List.mem_singleton.2 (by kernel_rfl))).2.2
 ·cases hb
theorem Zz20.does (k : Nat) : Does Go.Proofs.Tryz.prog 116 Zz20.A Zz20.Q (Zz20.g k) Zz20.h := fun x b hb => Zz20.qc k x.1 b hb
end Go.Proofs.YtkoeddgbhohggaaGreatDoor.F
end
section
namespace Go.Proofs.YtkoeddgbhohggaaGreatDoor.E
open Go.RowKit
set_option linter.unusedVariables false
set_option linter.unusedSimpArgs false
def toAt (D' ex : List Int) : Nat → Int
 | 0 => 0
 | k + 1 => wrap64 (wrap64 (toAt D' ex k * D'.getD k 0) + ex.getD k 0)
set_option maxHeartbeats 1600000 in
set_option maxRecDepth 100000 in
theorem do_calls {w : World} {be bD ba bx bo n : Nat} {ex D' La L : List Int} {A1 A2 : Option Addr} {c1 c2 c3 at0 : Nat} {v0 v1 : Value}
  (hex : ∀ k, k < n → w.cell? ⟨be, k, none⟩ = some (.int .i64 (ex.getD k 0)))
  (hD : w.cell? ⟨bD, 0, none⟩ = some (.slice A1 n c1))
  (hDc : ∀ k, k < n → ∃ a, A1 = some a ∧ w.cell? (a.add k) = some (.int .i64 (D'.getD k 0)))
  (ha0 : w.cell? ⟨ba, 0, none⟩ = some v0) (ha : w.cell? ⟨ba, 1, none⟩ = some (.slice A2 La.length c2))
  (hac : ∃ a, A2 = some a ∧ w.cell? (a.add at0) = some (.int .u64 (La.getD at0 0)))
  (hat : at0 < La.length)
  (hx0 : w.cell? ⟨bx, 0, none⟩ = some v1) (hx : w.cell? ⟨bx, 1, none⟩ = some (.slice (some ⟨bo, 0, none⟩) L.length c3))
  (hn : n ≤ 1000000) (t : Nat) (ht : toAt D' ex n = (t : Int)) (htl : t < L.length)
  (ho : w.cell? ⟨bo, t, none⟩ = some (.int .u64 (L.getD t 0))) (hof : w.frozen? ⟨bo, t, none⟩ = false) :
  Calls Tryz.prog 43 #[.int .i64 (at0 : Int), .slice (some ⟨be, 0, none⟩) n n, .pointer (some ⟨bD, 0, none⟩), .pointer (some ⟨ba, 0, none⟩), .pointer (some ⟨bx, 0, none⟩)] w
   fun e w' => e = .returned (.tuple #[]) ∧ w' = (w.setCell ⟨bo, t, none⟩ (.int .u64 (La.getD at0 0))).drew := by
 obtain ⟨a2, rfl, hac⟩ := hac
 go_enter Tryz.func43, Tryz.ntmps43
 go_wp2
 go_loop [7, 12] (fun v i => ∃ k : Nat, k ≤ n ∧ i = .int .i64 (k : Int) ∧ v = .int .i64 (toAt D' ex k)) (fun _ i => n - (intOf i).toNat)
 case atStart => exact ⟨0, Nat.zero_le _, rfl, rfl⟩
 case round =>
  obtain ⟨k, hk, rfl, rfl⟩ := hrel
  by_cases hkn : k < n
  ·obtain ⟨a1, rfl, hdk⟩ := hDc k hkn
   have hek := hex k hkn
   go_wp2
   have hw : wrap64 ((k : Int) + 1) = (k : Int) + 1 := by unfold wrap64; omega
   go_round
   case rel => exact ⟨k + 1, by omega, by simp [hw], by simp [toAt]⟩
   case measure => simp [intOf, hw]; omega
  ·obtain rfl : k = n := by omega
   rw [ht]
   go_wp2
   go_region
   all_goals (try go_wp2)
   all_goals go_end0
   all_goals exact ⟨rfl, by simp [hat]⟩
def leafF (La : List Int) (t : Int) (at0 : Nat) (L : List Int) : Option (Nat × List Int) := if 0 ≤ t ∧ t.toNat < L.length ∧ at0 < La.length ∧ at0 < 1000000 then some (at0 + 1, L.set t.toNat (La.getD at0 0)) else none
def roundsF (g : Int → Nat → List Int → Option (Nat × List Int)) : Nat → Int → Nat → List Int → Option (Nat × List Int)
 | 0, _, at0, L => some (at0, L)
 | r + 1, e, at0, L => (g e at0 L).bind fun x => roundsF g r (e + 1) x.1 x.2
def downF (La : List Int) : List (Int × Int) → Int → Nat → List Int → Option (Nat × List Int)
 | [], t, at0, L => leafF La t at0 L
 | (d, d') :: r, t, at0, L => if d ≤ 65536 then roundsF (fun e => downF La r (wrap64 (wrap64 (t * d') + e))) d.toNat 0 at0 L else none
structure Pl where
 (be bt bo bd bf bE bn bD ba bx n cd c1 c2 c3 m γ : Nat)
 (Ad A1 A2 : Option Addr)
 (v0 v1 : Value)
 (D D' La : List Int)
def Oth (p : Pl) (k : Nat) : Prop := k ≠ p.be ∧ k ≠ p.bt ∧ k ≠ p.bo
def RowO (p : Pl) (w : World) (k : IntKind) (l : List Int) (A : Option Addr) : Prop := ∀ j, j < l.length → ∃ a, A = some a ∧ Oth p a.block ∧ a.block < w.heap.size ∧ w.cell? (a.add j) = some (.int k (l.getD j 0))
def OneO (p : Pl) (w : World) (b : Nat) (vs : Array Value) (t : TypeId) : Prop := Oth p b ∧ b < w.heap.size ∧ w.heap[b]? = some (.cells vs t (0, 0))
structure Fx (p : Pl) (w : World) : Prop where
 et : p.be ≠ p.bt
 eo : p.be ≠ p.bo
 tn : p.bt ≠ p.bo
 n1 : p.n ≤ 1000000
 lD : p.D.length = p.n
 lD' : p.D'.length = p.n
 d : OneO p w p.bd #[.slice p.Ad p.n p.cd] 41
 f : OneO p w p.bf #[.func (.func 43) #[] #[.pointer (some ⟨p.bD, 0, none⟩), .pointer (some ⟨p.ba, 0, none⟩), .pointer (some ⟨p.bx, 0, none⟩)]] 73
 E : OneO p w p.bE #[.slice (some ⟨p.be, 0, none⟩) p.n p.n] 41
 nn : OneO p w p.bn #[.func (.func 62) #[] #[.pointer (some ⟨p.bd, 0, none⟩), .pointer (some ⟨p.bf, 0, none⟩), .pointer (some ⟨p.bt, 0, none⟩), .pointer (some ⟨p.bE, 0, none⟩), .pointer (some ⟨p.bn, 0, none⟩)]] 100
 D1 : OneO p w p.bD #[.slice p.A1 p.n p.c1] 41
 a : OneO p w p.ba #[p.v0, .slice p.A2 p.La.length p.c2] 43
 x : OneO p w p.bx #[p.v1, .slice (some ⟨p.bo, 0, none⟩) p.m p.c3] 43
 rD : RowO p w .i64 p.D p.Ad
 rD' : RowO p w .i64 p.D' p.A1
 rL : RowO p w .u64 p.La p.A2
 be1 : p.be < w.heap.size
 bt1 : p.bt < w.heap.size
 bo1 : p.bo < w.heap.size
structure EW (p : Pl) (w0 w : World) (ex : List Int) (at0 : Nat) (L : List Int) : Prop where
 os : w.os = w0.os
 tape : w.tape = w0.tape
 output : w.output = w0.output
 size : w0.heap.size ≤ w.heap.size
 keep : ∀ k, k < w0.heap.size → Oth p k → w.heap[k]? = w0.heap[k]?
 xl : ex.length = p.n
 ll : L.length = p.m
 e : ∃ cs, Lies w 3 .i64 ex p.be cs
 t : w.heap[p.bt]? = some (.cells #[.int .i64 (at0 : Int)] 3 (0, 0))
 o : ∃ cs, Lies w 23 .u64 L p.bo cs ∧ cs.size = p.γ
section
variable {p : Pl} {w0 w : World} {ex L : List Int} {at0 : Nat}
theorem OneO.now {b : Nat} {vs : Array Value} {t : TypeId} (h : OneO p w0 b vs t) (hw : EW p w0 w ex at0 L) : w.heap[b]? = some (.cells vs t (0, 0)) := (hw.keep b h.2.1 h.1).trans h.2.2
theorem RowO.now {k : IntKind} {l : List Int} {A : Option Addr} (h : RowO p w0 k l A) (hw : EW p w0 w ex at0 L) : ∀ j, j < l.length → ∃ a, A = some a ∧ w.cell? (a.add j) = some (.int k (l.getD j 0)) := fun j hj => by
 obtain ⟨a, h1, h2, h3, h4⟩ := h j hj
 exact ⟨a, h1, (cell_same (by rw [add_blk]; exact hw.keep _ h3 h2)).trans h4⟩
theorem lies_cell {k : IntKind} {e : TypeId} {l : List Int} {g : Nat} {cs : Array Value} (h : Lies w e k l g cs) {j : Nat} (hj : j < l.length) : w.cell? ⟨g, j, none⟩ = some (.int k (l.getD j 0)) := by
 rw [cell_of_row w g j cs e (0, 0) h.1]
 exact h.2.2.2 j hj
theorem lies_free {k : IntKind} {e : TypeId} {l : List Int} {g : Nat} {cs : Array Value} (h : Lies w e k l g cs) (j : Nat) : w.frozen? ⟨g, j, none⟩ = false := by simp [World.frozen?, h.1]
theorem lies_set {k : IntKind} {e : TypeId} {l : List Int} {g : Nat} {cs : Array Value} (h : Lies w e k l g cs) {j : Nat} (hj : j < l.length) (v : Int) : Lies (w.setCell ⟨g, j, none⟩ (.int k v)) e k (l.set j v) g (cs.setIfInBounds j (.int k v)) := by
 obtain ⟨h1, h2, h3, h4⟩ := h
 refine ⟨heap_setCell_same w g j cs e _ h1, by simpa using h2, by simpa using h3, fun i hi => ?_⟩
 rw [List.length_set] at hi
 rw [Array.getElem?_setIfInBounds]
 by_cases hij : j = i
 ·subst hij
  rw [if_pos rfl, if_pos (by omega)]
  simp [hi]
 ·rw [if_neg hij, h4 i hi]
  simp [List.getD_eq_getElem?_getD, List.getElem?_set, hij]
theorem lies_other {k : IntKind} {e : TypeId} {l : List Int} {g : Nat} {cs : Array Value} (h : Lies w e k l g cs) {a : Addr} (ha : g ≠ a.block) (v : Value) : Lies (w.setCell a v) e k l g cs := ⟨(heap_setCell_other w a g v ha).trans h.1, h.2⟩
theorem set_size (a : Addr) (v : Value) : (w.setCell a v).heap.size = w.heap.size := by simp [World.setCell]
theorem EW.setx (hF : Fx p w0) (h : EW p w0 w ex at0 L) {i : Nat} (hi : i < p.n) (v : Int) : EW p w0 (w.setCell ⟨p.be, i, none⟩ (.int .i64 v)) (ex.set i v) at0 L := by
 obtain ⟨cs, he⟩ := h.e
 obtain ⟨co, ho, hc⟩ := h.o
 exact ⟨h.os, h.tape, h.output, by rw [set_size]; exact h.size, fun k hk ho => (heap_setCell_other w _ k _ ho.1).trans (h.keep k hk ho), by rw [List.length_set]; exact h.xl, h.ll, ⟨_, lies_set he (by rw [h.xl]; exact hi) v⟩, (heap_setCell_other w _ _ _ (Ne.symm hF.et)).trans h.t, ⟨co, lies_other ho (Ne.symm hF.eo) _, hc⟩⟩
theorem EW.out (hF : Fx p w0) (h : EW p w0 w ex at0 L) {i : Nat} (hi : i < L.length) (v : Int) : EW p w0 (w.setCell ⟨p.bo, i, none⟩ (.int .u64 v)) ex at0 (L.set i v) := by
 obtain ⟨cs, he⟩ := h.e
 obtain ⟨co, ho, hc⟩ := h.o
 exact ⟨h.os, h.tape, h.output, by rw [set_size]; exact h.size, fun k hk ho => (heap_setCell_other w _ k _ ho.2.2).trans (h.keep k hk ho), h.xl, by rw [List.length_set]; exact h.ll, ⟨cs, lies_other he hF.eo _⟩, (heap_setCell_other w _ _ _ hF.tn).trans h.t, ⟨_, lies_set ho hi v, by simpa using hc⟩⟩
theorem EW.tick (hF : Fx p w0) (h : EW p w0 w ex at0 L) (m : Nat) : EW p w0 (w.setCell ⟨p.bt, 0, none⟩ (.int .i64 (m : Int))) ex m L := by
 obtain ⟨cs, he⟩ := h.e
 obtain ⟨co, ho, hc⟩ := h.o
 exact ⟨h.os, h.tape, h.output, by rw [set_size]; exact h.size, fun k hk ho => (heap_setCell_other w _ k _ ho.2.1).trans (h.keep k hk ho), h.xl, h.ll, ⟨cs, lies_other he hF.et _⟩, one_setCell h.t, ⟨co, lies_other ho (Ne.symm hF.tn) _, hc⟩⟩
theorem EW.drew (h : EW p w0 w ex at0 L) : EW p w0 w.drew ex at0 L := ⟨h.os, h.tape, h.output, h.size, h.keep, h.xl, h.ll, h.e, h.t, h.o⟩
end
def intAt (w : World) (a : Addr) : Int := match w.cell? a with
 | some v => intOf v
 | none => 0
theorem toAt_congr {D' ex ex' : List Int} : ∀ {i : Nat}, (∀ j, j < i → ex'.getD j 0 = ex.getD j 0) → toAt D' ex' i = toAt D' ex i
 | 0, _ => rfl
 | i + 1, h => by
  unfold toAt
  rw [toAt_congr fun j hj => h j (Nat.lt_succ_of_lt hj), h i (Nat.lt_succ_self i)]
theorem getD_set_ne {l : List Int} {i j : Nat} (h : j ≠ i) (v : Int) : (l.set i v).getD j 0 = l.getD j 0 := by
 simp [List.getD_eq_getElem?_getD, List.getElem?_set, Ne.symm h]
theorem getD_set_eq {l : List Int} {i : Nat} (h : i < l.length) (v : Int) : (l.set i v).getD i 0 = v := by
 simp [List.getD_eq_getElem?_getD, h]
set_option maxHeartbeats 400000 in
set_option maxRecDepth 100000 in
theorem down_calls {p : Pl} {w0 : World} (hF : Fx p w0) : ∀ (m i : Nat), i + m = p.n → ∀ (w : World) (ex : List Int) (at0 : Nat) (L : List Int) (at' : Nat) (L' : List Int), EW p w0 w ex at0 L →
  downF p.La ((p.D.zip p.D').drop i) (toAt p.D' ex i) at0 L = some (at', L') →
  Calls Tryz.prog 62 #[.int .i64 (i : Int), .pointer (some ⟨p.bd, 0, none⟩), .pointer (some ⟨p.bf, 0, none⟩), .pointer (some ⟨p.bt, 0, none⟩), .pointer (some ⟨p.bE, 0, none⟩), .pointer (some ⟨p.bn, 0, none⟩)] w
   fun e w' => e = .returned (.tuple #[]) ∧ ∃ ex', (∀ j, j < i → ex'.getD j 0 = ex.getD j 0) ∧ EW p w0 w' ex' at' L'
 | 0, i, hi, w, ex, at0, L, at', L', hw, h => by
  have hlen : (p.D.zip p.D').length = p.n := by rw [List.length_zip, hF.lD, hF.lD', Nat.min_self]
  obtain rfl : i = p.n := by omega
  rw [List.drop_eq_nil_of_le (by omega)] at h
  unfold downF leafF at h
  split at h
  ·rename_i hc
   obtain ⟨h1, h2, h3, h4⟩ := hc
   injection h with h
   injection h with e1 e2
   subst e1; subst e2
   obtain ⟨t, ht⟩ : ∃ t : Nat, toAt p.D' ex p.n = (t : Int) := ⟨_, (Int.toNat_of_nonneg h1).symm⟩
   rw [ht, Int.toNat_natCast] at h2 ⊢
   clear h1
   have n1 := hF.n1
   have cd := cell_of_one (hF.d.now hw)
   have cf := cell_of_one (hF.f.now hw)
   have cE := cell_of_one (hF.E.now hw)
   have ct := cell_of_one hw.t
   have hwr : wrap64 ((at0 : Int) + 1) = (at0 : Int) + 1 := by unfold wrap64; omega
   obtain ⟨cse, he⟩ := hw.e
   obtain ⟨cso, ho, _⟩ := hw.o
   have hbx := hF.x.now hw
   rw [← hw.ll] at hbx
   have hcall := do_calls (w := w) (be := p.be) (bD := p.bD) (ba := p.ba) (bx := p.bx) (bo := p.bo) (n := p.n) (ex := ex) (D' := p.D') (La := p.La) (L := L) (A1 := p.A1) (A2 := p.A2) (c1 := p.c1) (c2 := p.c2) (c3 := p.c3) (v0 := p.v0) (v1 := p.v1)
    (fun k hk => lies_cell he (by rw [hw.xl]; exact hk)) (cell_of_one (hF.D1.now hw)) (fun k hk => hF.rD'.now hw k (by rw [hF.lD']; exact hk))
    (cell_of_row w p.ba 0 _ 43 (0, 0) (hF.a.now hw)) (cell_of_row w p.ba 1 _ 43 (0, 0) (hF.a.now hw)) (hF.rL.now hw at0 h3) h3 (cell_of_row w p.bx 0 _ 43 (0, 0) hbx) (cell_of_row w p.bx 1 _ 43 (0, 0) hbx) n1 t ht h2 (lies_cell ho h2) (lies_free ho t)
   clear hbx he ho
   go_enter Tryz.func62, Tryz.ntmps62
   go_wp2_with (go_at_call 43; refine hcall.mono ?_; rintro e w1 ⟨rfl, hw1e⟩; have hw1 : EW p w0 w1 ex at0 (L.set t (p.La.getD at0 0)) := (by rw [hw1e]; exact (hw.out hF h2 _).drew); have ct1 := cell_of_one hw1.t; have cf1 := free_of_one hw1.t; clear hw1e ct)
   refine bodyPost_ret (results_none rfl _ _ _) rfl ?_
   exact ⟨rfl, ex, fun _ _ => rfl, hw1.tick hF (at0 + 1)⟩
  ·cases h
 | m + 1, i, hi, w, ex, at0, L, at', L', hw, h => by
  have hin : i < p.n := by omega
  have hiD : i < p.D.length := by rw [hF.lD]; exact hin
  have hiD' : i < p.D'.length := by rw [hF.lD']; exact hin
  have hlen : (p.D.zip p.D').length = p.n := by rw [List.length_zip, hF.lD, hF.lD', Nat.min_self]
  rw [List.drop_eq_getElem_cons (by omega), List.getElem_zip] at h
  obtain ⟨d, hd⟩ : ∃ d, d = p.D[i] := ⟨_, rfl⟩
  obtain ⟨d', hd'⟩ : ∃ d, d = p.D'[i] := ⟨_, rfl⟩
  rw [← hd, ← hd'] at h
  unfold downF at h
  split at h
  ·rename_i h655
   obtain ⟨g, hg⟩ : ∃ g, g = fun e => downF p.La ((p.D.zip p.D').drop (i + 1)) (wrap64 (wrap64 (toAt p.D' ex i * d') + e)) := ⟨_, rfl⟩
   rw [← hg] at h
   have n1 := hF.n1
   have eD : p.D.getD i 0 = d := by simp [hd, List.getD_eq_getElem?_getD, hiD]
   have eD' : p.D'.getD i 0 = d' := by simp [hd', List.getD_eq_getElem?_getD, hiD']
   clear hd hd'
   have hx0 : i < ex.length := by rw [hw.xl]; exact hin
   have cd := cell_of_one (hF.d.now hw)
   have cE := cell_of_one (hF.E.now hw)
   obtain ⟨cse, he⟩ := hw.e
   have cx := lies_cell he hx0
   have fx := lies_free he i
   have hne : ¬ (i : Int) = (p.n : Int) := by omega
   have hb : ((i : Int) == (p.n : Int)) = false := by simpa using hne
   obtain ⟨ad, had, _⟩ := hF.rD.now hw i hiD
   rw [had] at cd
   have hw1 := hw.setx hF hin 0
   clear he
   go_enter Tryz.func62, Tryz.ntmps62
   go_wp2
   clear cd cE cx fx
   try simp only [hb]
   clear hb hne
   go_loopw [] (fun wr => ∃ (e at1 : Nat) (L1 ex1 : List Int), e ≤ d.toNat ∧ EW p w0 wr ex1 at1 L1 ∧ ex1.getD i 0 = (e : Int) ∧ (∀ j, j < i → ex1.getD j 0 = ex.getD j 0) ∧ roundsF g (d.toNat - e) (e : Int) at1 L1 = some (at', L'))
    (fun wr => d.toNat - (intAt wr ⟨p.be, i, none⟩).toNat)
   case atStart => exact ⟨0, at0, L, _, Nat.zero_le _, hw1, getD_set_eq hx0 0, fun j hj => getD_set_ne (by omega) 0, h⟩
   case round =>
    clear hw1 h
    obtain ⟨e, at1, L1, ex1, hed, hwr, hxe, hpre, hr⟩ := hrel
    have cd := cell_of_one (hF.d.now hwr)
    have cE := cell_of_one (hF.E.now hwr)
    have cn := cell_of_one (hF.nn.now hwr)
    have hx1 : i < ex1.length := by rw [hwr.xl]; exact hin
    obtain ⟨cse, he⟩ := hwr.e
    have cx := lies_cell he hx1
    rw [hxe] at cx
    have fx := lies_free he i
    obtain ⟨ad1, had1, cD⟩ := hF.rD.now hwr i hiD
    obtain rfl : ad1 = ad := Option.some.inj (had1.symm.trans had)
    rw [eD] at cD
    rw [had] at cd
    clear had1
    clear had
    clear he
    by_cases hlt : (e : Int) < d
    ·obtain ⟨r, hr1⟩ : ∃ r, d.toNat - e = r + 1 := ⟨d.toNat - e - 1, by omega⟩
     rw [hr1] at hr
     obtain ⟨⟨at2, L2⟩, hg2, hr2⟩ := Option.bind_eq_some_iff.mp hr
     have hr3 : r = d.toNat - (e + 1) := by omega
     have hle : e + 1 ≤ d.toNat := by omega
     have hms : d.toNat - ((e : Int) + 1).toNat < d.toNat - (e : Int).toNat := by omega
     have hix : i < m + 1 + i := by omega
     have hi1 : i + 1 + m = p.n := by omega
     rw [hr3] at hr2
     have e2 : toAt p.D' ex1 (i + 1) = wrap64 (wrap64 (toAt p.D' ex i * d') + e) := by show wrap64 (wrap64 (toAt p.D' ex1 i * p.D'.getD i 0) + ex1.getD i 0) = _; rw [toAt_congr hpre, hxe, eD']
     have hg2 : downF p.La ((p.D.zip p.D').drop (i + 1)) (toAt p.D' ex1 (i + 1)) at1 L1 = some (at2, L2) := by rw [e2]; rw [hg] at hg2; exact hg2
     have hcall : Calls Tryz.prog 62 #[.int .i64 ((i : Int) + 1), .pointer (some ⟨p.bd, 0, none⟩), .pointer (some ⟨p.bf, 0, none⟩), .pointer (some ⟨p.bt, 0, none⟩), .pointer (some ⟨p.bE, 0, none⟩), .pointer (some ⟨p.bn, 0, none⟩)] wr.drew _ := down_calls hF m (i + 1) hi1 wr.drew ex1 at1 L1 at2 L2 hwr.drew hg2
     have hib : (i : Int) + 1 ≤ 1000000 := by omega
     have heb : (e : Int) + 1 ≤ 65536 := by omega
     have hm : intAt wr ⟨p.be, i, none⟩ = (e : Int) := by unfold intAt; rw [cx]; rfl
     clear hg hg2 e2 hr hr1 hr3
     go_wp2
     go_region
     go_wp2_with (go_at_call 62; refine hcall.mono ?_; rintro z w2 ⟨rfl, ex2, hpre2, hw2⟩; have cE2 := cell_of_one (hF.E.now hw2); obtain ⟨cs2, he2⟩ := hw2.e; have cx2 := lies_cell he2 (show i < ex2.length by rw [hw2.xl]; exact hin); rw [hpre2 i (Nat.lt_succ_self i), hxe] at cx2; have fx2 := lies_free he2 i; have hm2 : intAt (w2.setCell ⟨p.be, i, none⟩ (.int .i64 ((e : Int) + 1))) ⟨p.be, i, none⟩ = (e : Int) + 1 := (by unfold intAt; rw [lies_cell (lies_set he2 (show i < ex2.length by rw [hw2.xl]; exact hin) _) (by rw [List.length_set, hw2.xl]; exact hin)]; exact getD_set_eq (by rw [hw2.xl]; exact hin) _); clear he2)
     refine ⟨⟨e + 1, at2, L2, _, hle, hw2.setx hF hin _, getD_set_eq (by rw [hw2.xl]; exact hin) _, fun j hj => (getD_set_ne (Nat.ne_of_lt hj) _).trans ((hpre2 j (Nat.lt_succ_of_lt hj)).trans (hpre j hj)), hr2⟩, ?_⟩
     rw [hm, hm2]
     exact hms
    ·have hde : d.toNat - e = 0 := by omega
     rw [hde] at hr
     have hr : some (at1, L1) = some (at', L') := hr
     injection hr with hr
     injection hr with hr1 hr2
     subst hr1; subst hr2
     go_wp2
     go_region
     go_wp2
     go_end0
     exact ⟨rfl, ex1, hpre, hwr.drew⟩
  ·cases h
theorem Tz.info3 : (Tryz.prog.info? 3).map (fun i => (i.zero, i.size, i.bytes)) = some (some (.int .i64 0), 1, 8) := by kernel_rfl
theorem alloc_size (W : World) (o : Obj) : (W.alloc o).heap.size = W.heap.size + 1 := by simp
theorem alloc_top (W : World) (o : Obj) (k : Nat) (hk : k = W.heap.size) : (W.alloc o).heap[k]? = some o := by
 subst hk
 show (W.heap.push o)[_]? = _
 simp
theorem six (w : World) (o0 o1 o2 o3 o4 o5 : Obj) (W : World) (hW : (((((w.alloc o0).alloc o1).alloc o2).alloc o3).alloc o4).alloc o5 = W) :
  W.os = w.os ∧ W.tape = w.tape ∧ W.output = w.output ∧ W.heap.size = w.heap.size + 6 ∧ (∀ k, k < w.heap.size → W.heap[k]? = w.heap[k]?) ∧ W.heap[w.heap.size]? = some o0 ∧ W.heap[w.heap.size + 1]? = some o1 ∧ W.heap[w.heap.size + 2]? = some o2 ∧ W.heap[w.heap.size + 3]? = some o3 ∧ W.heap[w.heap.size + 4]? = some o4 ∧ W.heap[w.heap.size + 5]? = some o5 := by
 subst hW
 refine ⟨rfl, rfl, rfl, by simp only [alloc_size], fun k hk => ?_, ?_, ?_, ?_, ?_, ?_, ?_⟩
 ·iterate 6 rw [Below.heap_alloc _ _ _ (by first | omega | (simp only [alloc_size]; omega))]
 ·iterate 5 rw [Below.heap_alloc _ _ _ (by simp only [alloc_size]; omega)]
  exact alloc_top _ _ _ (by simp only [alloc_size])
 ·iterate 4 rw [Below.heap_alloc _ _ _ (by simp only [alloc_size]; omega)]
  exact alloc_top _ _ _ (by simp only [alloc_size])
 ·iterate 3 rw [Below.heap_alloc _ _ _ (by simp only [alloc_size]; omega)]
  exact alloc_top _ _ _ (by simp only [alloc_size])
 ·iterate 2 rw [Below.heap_alloc _ _ _ (by simp only [alloc_size]; omega)]
  exact alloc_top _ _ _ (by simp only [alloc_size])
 ·rw [Below.heap_alloc _ _ _ (by simp only [alloc_size]; omega)]
  exact alloc_top _ _ _ (by simp only [alloc_size])
 ·exact alloc_top _ _ _ (by simp only [alloc_size])
set_option maxHeartbeats 1000000 in
set_option maxRecDepth 100000 in
theorem each_calls {w : World} {A : Option Addr} {n c bD ba bx : Nat} (n1 : n ≤ 1000000) {Q : Ending → World → Prop}
  (h : ∀ W : World, W.os = w.os ∧ W.tape = w.tape ∧ W.output = w.output ∧ W.heap.size = w.heap.size + 6 ∧ (∀ k, k < w.heap.size → W.heap[k]? = w.heap[k]?) ∧
   W.heap[w.heap.size]? = some (.cells #[.slice A n c] 41 (0, 0)) ∧
   W.heap[w.heap.size + 1]? = some (.cells #[.func (.func 43) #[] #[.pointer (some ⟨bD, 0, none⟩), .pointer (some ⟨ba, 0, none⟩), .pointer (some ⟨bx, 0, none⟩)]] 73 (0, 0)) ∧
   W.heap[w.heap.size + 2]? = some (.cells (madeCells #[.int .i64 0] n) 3 (0, 0)) ∧
   W.heap[w.heap.size + 3]? = some (.cells #[.slice (some ⟨w.heap.size + 2, 0, none⟩) n n] 41 (0, 0)) ∧
   W.heap[w.heap.size + 4]? = some (.cells #[.int .i64 0] 3 (0, 0)) ∧
   W.heap[w.heap.size + 5]? = some (.cells #[.func (.func 62) #[] #[.pointer (some ⟨w.heap.size, 0, none⟩), .pointer (some ⟨w.heap.size + 1, 0, none⟩), .pointer (some ⟨w.heap.size + 4, 0, none⟩), .pointer (some ⟨w.heap.size + 3, 0, none⟩), .pointer (some ⟨w.heap.size + 5, 0, none⟩)]] 100 (0, 0)) →
   Calls Tryz.prog 62 #[.int .i64 0, .pointer (some ⟨w.heap.size, 0, none⟩), .pointer (some ⟨w.heap.size + 1, 0, none⟩), .pointer (some ⟨w.heap.size + 4, 0, none⟩), .pointer (some ⟨w.heap.size + 3, 0, none⟩), .pointer (some ⟨w.heap.size + 5, 0, none⟩)] W fun e w' => e = .returned (.tuple #[]) ∧ Q (.returned (.tuple #[])) w') :
  Calls Tryz.prog 42 #[.slice A n c, .func (.func 43) #[] #[.pointer (some ⟨bD, 0, none⟩), .pointer (some ⟨ba, 0, none⟩), .pointer (some ⟨bx, 0, none⟩)]] w Q := by
 have hmk := run_make_row' (P := Tryz.prog) 41 3 (.int .i64 0) 8 Tryz.underlying41 Tz.info3 rfl .i64 .i64 n (by omega) (by omega)
 go_enter Tryz.func42, Tryz.ntmps42
 go_wp2_with (go_at_call 62; refine (h _ (six _ _ _ _ _ _ _ _ rfl)).mono ?_; rintro e w1 ⟨rfl, hq⟩)
 go_end0
 exact hq
def RowB (w : World) (bo : Nat) (k : IntKind) (l : List Int) (A : Option Addr) : Prop := ∀ j, j < l.length → ∃ a, A = some a ∧ a.block ≠ bo ∧ w.cell? (a.add j) = some (.int k (l.getD j 0))
theorem each_ok {w : World} {A A1 A2 : Option Addr} {n c c1 c2 c3 bD ba bx bo : Nat} {D D' La L L' : List Int} {v0 v1 : Value} {cs : Array Value} {at' : Nat} (n1 : n ≤ 1000000) (lD : D.length = n) (lD' : D'.length = n)
  (rD : RowB w bo .i64 D A) (rD' : RowB w bo .i64 D' A1) (rL : RowB w bo .u64 La A2)
  (hD : w.heap[bD]? = some (.cells #[.slice A1 n c1] 41 (0, 0))) (ha : w.heap[ba]? = some (.cells #[v0, .slice A2 La.length c2] 43 (0, 0))) (hx : w.heap[bx]? = some (.cells #[v1, .slice (some ⟨bo, 0, none⟩) L.length c3] 43 (0, 0)))
  (ho : Lies w 23 .u64 L bo cs) (nD : bD ≠ bo) (na : ba ≠ bo) (nx : bx ≠ bo) (h : downF La (D.zip D') 0 0 L = some (at', L')) :
  Calls Tryz.prog 42 #[.slice A n c, .func (.func 43) #[] #[.pointer (some ⟨bD, 0, none⟩), .pointer (some ⟨ba, 0, none⟩), .pointer (some ⟨bx, 0, none⟩)]] w
   fun e w' => e = .returned (.tuple #[]) ∧ w'.os = w.os ∧ w'.tape = w.tape ∧ w'.output = w.output ∧ w.heap.size ≤ w'.heap.size ∧ (∀ k, k < w.heap.size → k ≠ bo → w'.heap[k]? = w.heap[k]?) ∧ L'.length = L.length ∧ ∃ cs', Lies w' 23 .u64 L' bo cs' ∧ cs'.size = cs.size := by
 have blt : ∀ {b : Nat} {vs : Array Value} {t : TypeId} {fz : Nat × Nat}, w.heap[b]? = some (.cells vs t fz) → b < w.heap.size := fun {b vs t fz} hb => by
  refine Classical.byContradiction fun hn => ?_
  rw [Array.getElem?_eq_none (by omega)] at hb
  cases hb
 have clt : ∀ {a : Addr} {v : Value}, w.cell? a = some v → a.block < w.heap.size := fun {a v} hb => by
  obtain ⟨cs, ty, fz, h1⟩ := cell_block hb
  exact blt h1
 refine each_calls n1 (Q := fun e w' => e = .returned (.tuple #[]) ∧ w'.os = w.os ∧ w'.tape = w.tape ∧ w'.output = w.output ∧ w.heap.size ≤ w'.heap.size ∧ (∀ k, k < w.heap.size → k ≠ bo → w'.heap[k]? = w.heap[k]?) ∧ L'.length = L.length ∧ ∃ cs', Lies w' 23 .u64 L' bo cs' ∧ cs'.size = cs.size) fun W ⟨h1, h2, h3, h4, h5, b0, b1, b2, b3, b4, b5⟩ => ?_
 have bo1 := blt ho.1
 let p : Pl := { be := w.heap.size + 2, bt := w.heap.size + 4, bo := bo, bd := w.heap.size, bf := w.heap.size + 1, bE := w.heap.size + 3, bn := w.heap.size + 5, bD := bD, ba := ba, bx := bx, n := n, cd := c, c1 := c1, c2 := c2, c3 := c3, m := L.length, γ := cs.size, Ad := A, A1 := A1, A2 := A2, v0 := v0, v1 := v1, D := D, D' := D', La := La }
 have old : ∀ k, k < w.heap.size → k ≠ bo → Oth p k := fun k hk hn => ⟨Nat.ne_of_lt (by show k < w.heap.size + 2; omega), Nat.ne_of_lt (by show k < w.heap.size + 4; omega), hn⟩
 have row : ∀ {k : IntKind} {l : List Int} {B : Option Addr}, RowB w bo k l B → RowO p W k l B := fun {k l B} hr j hj => by
  obtain ⟨a, e1, e2, e3⟩ := hr j hj
  have e4 := clt e3
  rw [add_blk] at e4
  exact ⟨a, e1, old _ e4 e2, by omega, (cell_same (by rw [add_blk]; exact h5 _ e4)).trans e3⟩
 have one : ∀ {b : Nat} {vs : Array Value} {t : TypeId}, w.heap[b]? = some (.cells vs t (0, 0)) → b ≠ bo → OneO p W b vs t := fun {b vs t} hb hn => ⟨old _ (blt hb) hn, by have := blt hb; omega, (h5 _ (blt hb)).trans hb⟩
 have hF : Fx p W := {
  et := by show w.heap.size + 2 ≠ w.heap.size + 4; omega
  eo := by show w.heap.size + 2 ≠ bo; omega
  tn := by show w.heap.size + 4 ≠ bo; omega
  n1 := n1
  lD := lD
  lD' := lD'
  d := ⟨⟨by show w.heap.size ≠ w.heap.size + 2; omega, by show w.heap.size ≠ w.heap.size + 4; omega, by show w.heap.size ≠ bo; omega⟩, by show w.heap.size < _; omega, b0⟩
  f := ⟨⟨by show w.heap.size + 1 ≠ w.heap.size + 2; omega, by show w.heap.size + 1 ≠ w.heap.size + 4; omega, by show w.heap.size + 1 ≠ bo; omega⟩, by show w.heap.size + 1 < _; omega, b1⟩
  E := ⟨⟨by show w.heap.size + 3 ≠ w.heap.size + 2; omega, by show w.heap.size + 3 ≠ w.heap.size + 4; omega, by show w.heap.size + 3 ≠ bo; omega⟩, by show w.heap.size + 3 < _; omega, b3⟩
  nn := ⟨⟨by show w.heap.size + 5 ≠ w.heap.size + 2; omega, by show w.heap.size + 5 ≠ w.heap.size + 4; omega, by show w.heap.size + 5 ≠ bo; omega⟩, by show w.heap.size + 5 < _; omega, b5⟩
  D1 := one hD nD
  a := one ha na
  x := one hx nx
  rD := row rD
  rD' := row rD'
  rL := row rL
  be1 := by show w.heap.size + 2 < _; omega
  bt1 := by show w.heap.size + 4 < _; omega
  bo1 := by show bo < _; omega }
 have hw : EW p W W (List.replicate n 0) 0 L := {
  os := rfl
  tape := rfl
  output := rfl
  size := Nat.le_refl _
  keep := fun _ _ _ => rfl
  xl := by simp [p]
  ll := rfl
  e := ⟨_, b2, by rw [size_madeCells]; exact Nat.le_trans n1 (by decide), by rw [size_madeCells]; simp, fun i hi => by
   rw [List.length_replicate] at hi
   rw [made_get (by decide) hi]
   simp [List.getD_eq_getElem?_getD, hi, Nat.mod_one]⟩
  t := b4
  o := ⟨cs, ⟨(h5 _ bo1).trans ho.1, ho.2⟩, rfl⟩ }
 refine (down_calls hF n 0 (Nat.zero_add _) W _ 0 L at' L' hw (by rw [List.drop_zero]; exact h)).mono ?_
 rintro e w' ⟨rfl, ex', _, hw'⟩
 refine ⟨rfl, rfl, hw'.os.trans h1, hw'.tape.trans h2, hw'.output.trans h3, Nat.le_trans (by omega) hw'.size, fun k hk hn => (hw'.keep k (by omega) (old k hk hn)).trans (h5 k hk), hw'.ll, hw'.o⟩
def eachF0 (D D' La L : List Int) : Option (List Int) := if D.length = D'.length ∧ D.length ≤ 1000000 ∧ 0 < L.length then (downF La (D.zip D') 0 0 L).map Prod.snd else none
noncomputable def eachF : List Int → List Int → List Int → List Int → Option (List Int) := (still eachF0).1
theorem eachF_eq : eachF = eachF0 := (still eachF0).2
noncomputable def rawEach (R : Type) : Raw R := fun st id zs K => match zs with
 | [.row .i64 D, .clo f [.ptr d 0, .ptr a 0, .ptr o 0]] => (match Nat.beq f 43 with
  | true => (match st.blk d, st.blk a, st.blk o with
   | some (.cells t1 [.row .i64 D']), some (.cells t2 [v0, .row .u64 La]), some (.cells t3 [v1, .sli m]) => (match Nat.beq t1 41, Nat.beq t2 43, Nat.beq t3 43 with
    | true, true, true => (match st.blk m with
     | some (.ints (.num .u64) e L) => (match Nat.beq e 23 with
      | true => (eachF D D' La L).bind fun L' => K (.tup []) [(m, .ints (.num .u64) 23 L')] [d, a, o, m]
      | false => none)
     | _ => none)
    | _, _, _ => none)
   | _, _, _ => none)
  | false => none)
 | _ => none
theorem row_foot {E : En} {B : Nat → Option Blk} {w : World} {nb : Nat → Prop} {k : IntKind} {l : List Int} {u : Value} (h : Held E B w nb (.row k l) u) : ∃ A c, u = .slice A l.length c ∧ ∀ j, j < l.length → ∃ a, A = some a ∧ nb a.block ∧ w.cell? (a.add j) = some (.int k (l.getD j 0)) := by
 have h1 := h.now
 unfold Den RowAt at h1
 obtain ⟨A, c, rfl, _, h2⟩ := h1
 refine ⟨A, c, rfl, fun j hj => ?_⟩
 obtain ⟨a, rfl, h3⟩ := h2 (by omega)
 refine ⟨a, rfl, ?_, h3 j hj⟩
 refine (foot_in (w := w) (g := a.block) fun W' hW => ?_).1
 have h4 := h W' hW
 unfold Den RowAt at h4
 obtain ⟨A', c', he, _, h5⟩ := h4
 obtain ⟨a', ha', h6⟩ := h5 (by omega)
 injection he with he _ _
 rw [ha'] at he
 injection he with he
 subst he
 obtain ⟨cs, ty, fz, h7⟩ := cell_block (h6 j hj)
 rw [add_blk] at h7
 exact ⟨cs, ty, fz, h7⟩
theorem blk_cells {X : Cx} {E : En} {F : FS} {a : Act} {w : World} (hs : SimAt X E F a w) {i ty : Nat} {l : List AV} (hb : F.B i = some (.cells ty l)) : Live E F.B i ∧ ∃ us : List Value, w.heap[E.ρ i]? = some (.cells us.toArray ty (0, 0)) ∧ HeldL E F.B w (NB X.okk E F.B) l us := by
 have h := hs.blk i _ hb
 obtain ⟨hn, us, h1, h2⟩ := h
 exact ⟨⟨⟨_, hb, by simp⟩, hn⟩, us, h1, h2⟩
theorem ptr_of {E : En} {B : Nat → Option Blk} {w : World} {nb : Nat → Prop} {i off : Nat} {v : Value} (h : Held E B w nb (.ptr i off) v) : v = .pointer (some ⟨E.ρ i, off, none⟩) := by
 have h1 := h.now
 unfold Den at h1
 exact h1.2
theorem sli_is {E : En} {B : Nat → Option Blk} {w : World} {nb : Nat → Prop} {m : Nat} {k : EK} {e : TypeId} {L : List Int} {v : Value} (h : Held E B w nb (.sli m) v) (hb : B m = some (.ints k e L)) (hn : E.ν m = false) : v = .slice (some ⟨E.ρ m, 0, none⟩) L.length (E.γ m) := by
 have h1 := h.now
 unfold Den at h1
 have h2 := h1.2.2 _ _ _ hb
 rw [hn] at h2
 exact h2
theorem rawEach_ok (R : Type) : RawOk Tryz.prog 42 (rawEach R) := by
 refine ⟨⟨Tryz.f42, Tryz.func42, by kernel_rfl, by kernel_rfl⟩, fun st id zs K r h => ?_⟩
 unfold rawEach at h
 split at h
 ·rename_i D f d a o
  split at h
  ·rename_i hf
   obtain rfl : f = 43 := Nat.eq_of_beq_eq_true hf
   split at h
   ·rename_i t1 D' t2 v0 La t3 v1 m hd ha ho
    split at h
    ·rename_i e1 e2 e3
     obtain rfl : t1 = 41 := Nat.eq_of_beq_eq_true e1
     obtain rfl : t2 = 43 := Nat.eq_of_beq_eq_true e2
     obtain rfl : t3 = 43 := Nat.eq_of_beq_eq_true e3
     split at h
     ·rename_i e L hm
      split at h
      ·rename_i e4
       obtain rfl : e = 23 := Nat.eq_of_beq_eq_true e4
       obtain ⟨L', hL, hK⟩ := Option.bind_eq_some_iff.mp h
       refine ⟨_, _, _, hK, ?_⟩
       intro X F ac w E us hs hrb hbs hea
       rw [eachF_eq] at hL
       unfold eachF0 at hL
       split at hL
       ·rename_i hc
        obtain ⟨c1, c2, c3⟩ := hc
        obtain ⟨⟨at', L1⟩, hdn, hL1⟩ := Option.map_eq_some_iff.mp hL
        have hL1 : L1 = L' := hL1
        subst hL1
        have bd : F.B d = some (.cells 41 [.row .i64 D']) := (hrb d (by simp)).trans hd
        have ba : F.B a = some (.cells 43 [v0, .row .u64 La]) := (hrb a (by simp)).trans ha
        have bo : F.B o = some (.cells 43 [v1, .sli m]) := (hrb o (by simp)).trans ho
        have bm : F.B m = some (.ints (.num .u64) 23 L) := (hrb m (by simp)).trans hm
        obtain ⟨ld, ud, wd, hud⟩ := blk_cells hs bd
        obtain ⟨la, ua, wa, hua⟩ := blk_cells hs ba
        obtain ⟨lo, uo, wo, huo⟩ := blk_cells hs bo
        have hbm := hs.blk m _ bm
        have hnu : E.ν m = false := by
         refine Bool.eq_false_iff.2 fun hn => ?_
         simp only [BlkAt, hn, if_true] at hbm
         rw [hbm] at c3
         simp at c3
        simp only [BlkAt, hnu, Bool.false_eq_true, if_false] at hbm
        obtain ⟨cs, m1, m2, m3, m4, m5⟩ := hbm
        have lm : Live E F.B m := ⟨⟨_, bm, by simp⟩, hnu⟩
        have hne : ∀ {i ty l}, F.B i = some (.cells ty l) → Live E F.B i → E.ρ i ≠ E.ρ m := fun {i ty l} hb hl he => by
         have := hs.inj _ _ hl lm he
         subst this
         rw [bm] at hb; cases hb
        have hnb : ∀ k, NB X.okk E F.B k → k ≠ E.ρ m := fun k hk he => hk.2 m lm he.symm
        obtain ⟨x1, r1, rfl, hx1, hr1⟩ := heldL_cons_of hud
        obtain rfl := heldL_nil_of hr1
        obtain ⟨y0, r2, rfl, hy0, hr2⟩ := heldL_cons_of hua
        obtain ⟨y1, r3, rfl, hy1, hr3⟩ := heldL_cons_of hr2
        obtain rfl := heldL_nil_of hr3
        obtain ⟨z0, r4, rfl, hz0, hr4⟩ := heldL_cons_of huo
        obtain ⟨z1, r5, rfl, hz1, hr5⟩ := heldL_cons_of hr4
        obtain rfl := heldL_nil_of hr5
        obtain rfl := sli_is hz1 bm hnu
        obtain ⟨A1, q1, rfl, row1⟩ := row_foot hx1
        obtain ⟨A2, q2, rfl, row2⟩ := row_foot hy1
        match us, hea with
        | [p0, p1], hea =>
         obtain ⟨A, q0, rfl, row0⟩ := row_foot hea.1
         obtain ⟨cus, rfl, hcu⟩ := clo_of hea.2.1
         obtain ⟨g0, s0, rfl, hg0, hs0⟩ := heldL_cons_of hcu
         obtain ⟨g1, s1, rfl, hg1, hs1⟩ := heldL_cons_of hs0
         obtain ⟨g2, s2, rfl, hg2, hs2⟩ := heldL_cons_of hs1
         obtain rfl := heldL_nil_of hs2
         obtain rfl := ptr_of hg0
         obtain rfl := ptr_of hg1
         obtain rfl := ptr_of hg2
         have hrow : ∀ {k : IntKind} {l : List Int} {B : Option Addr}, (∀ j, j < l.length → ∃ a, B = some a ∧ NB X.okk E F.B a.block ∧ w.cell? (a.add j) = some (.int k (l.getD j 0))) → RowB w (E.ρ m) k l B := fun {k l B} hr j hj => by
          obtain ⟨a, e1, e2, e3⟩ := hr j hj
          exact ⟨a, e1, hnb _ e2, e3⟩
         have hcall := each_ok (w := w) (n := D.length) (c := q0) (bD := E.ρ d) (ba := E.ρ a) (bx := E.ρ o) (bo := E.ρ m) (c3 := E.γ m) (v0 := y0) (v1 := z0) c2 rfl c1.symm (hrow row0) (hrow row1) (hrow row2) (by rw [c1]; exact wd) wa wo ⟨m1, m3, m4, m5⟩ (hne bd ld) (hne ba la) (hne bo lo) hdn
         refine hcall.mono ?_
         rintro e w' ⟨rfl, h1, h2, h3, h4, h5, h6, cs', h7, h8⟩
         refine ⟨.tuple #[], E, rfl, ?_, held_tup heldL_nil⟩
         have hlook : ∀ i, addB [(m, .ints (.num .u64) 23 L1)] F.B i = if i = m then some (.ints (.num .u64) 23 L1) else F.B i := fun i => by
          unfold addB
          rw [look_one]
          by_cases hi : i = m <;> simp [hi]
         have hlive : ∀ i, Live E (addB [(m, .ints (.num .u64) 23 L1)] F.B) i → Live E F.B i := fun i ⟨⟨b, hb, hd⟩, hn⟩ => by
          rw [hlook] at hb
          by_cases hi : i = m
          ·rw [hi]; exact lm
          ·rw [if_neg hi] at hb; exact ⟨⟨b, hb, hd⟩, hn⟩
         refine hs.mem (F' := ⟨F.sl, addB [(m, .ints (.num .u64) 23 L1)] F.B⟩) (E' := E) (fun i => i = m) rfl h1 h2 h3 h4 (fun k hk hT => h5 k hk fun e => hT m lm rfl e.symm) (fun i hi => ?_) (fun _ _ => ⟨rfl, rfl, rfl⟩) (fun i hi => .inr ⟨i, hlive i hi, rfl⟩) (fun i b hb => ?_) fun i j hi hj he => hs.inj i j (hlive i hi) (hlive j hj) he
         ·show (addB _ F.B i).isSome = true ∧ _
          rw [hlook]
          by_cases him : i = m
          ·subst him
           rw [if_pos rfl]
           refine ⟨rfl, fun k' e' l' hl => ?_⟩
           have hl := (hlook i).symm.trans hl
           rw [if_pos rfl] at hl
           injection hl with hl
           injection hl with g1 g2 g3
           exact ⟨23, L, by rw [← g1]; exact bm, by rw [← g3]; exact h6.symm⟩
          ·rw [if_neg him]
           refine ⟨hi, fun k' e' l' hl => ?_⟩
           have hl := (hlook i).symm.trans hl
           rw [if_neg him] at hl
           exact ⟨e', l', hl, rfl⟩
         ·have hb : addB [(m, .ints (.num .u64) 23 L1)] F.B i = some b := hb
          rw [hlook] at hb
          by_cases him : i = m
          ·subst him
           rw [if_pos rfl] at hb
           injection hb with hb
           subst hb
           right
           simp only [BlkAt, hnu, Bool.false_eq_true, if_false]
           exact ⟨cs', h7.1, by rw [h8]; exact m2, h7.2.1, h7.2.2.1, h7.2.2.2⟩
          ·rw [if_neg him] at hb
           exact .inl ⟨hb, him⟩
       ·cases hL
      ·cases h
     ·cases h
    ·cases h
   ·cases h
  ·cases h
 ·cases h
noncomputable def eachSpec (R : Type) : Spec R := ⟨[], false, fun _ _ => none, some (rawEach R)⟩
theorem eachSpec_ok (R : Type) : (eachSpec R).ok Tryz.prog 42 := ⟨fun xs K r h => (by cases h), fun g hg => (by injection hg with hg; subst hg; exact rawEach_ok R)⟩
end Go.Proofs.YtkoeddgbhohggaaGreatDoor.E
end
section
namespace Go.Proofs.YtkoeddgbhohggaaGreatDoor.E
open Go.RowKit Go.Lib
set_option linter.unusedVariables false
set_option linter.unusedSimpArgs false
theorem Tz.info3b : (Tryz.prog.info? 3).map (fun i => (i.zero, i.size, i.bytes)) = some (some (.int .i64 0), 1, 8) := by kernel_rfl
set_option maxHeartbeats 2000000 in
set_option maxRecDepth 100000 in
theorem clone_some (a : Addr) (n c : Nat) (xs : List Int) (w : World) (hx : xs.length = n) (hbig : n ≤ 1000000) (hc : ∀ j, j < n → w.cell? (a.add j) = some (.int .i64 (xs.getD j 0))) :
  Calls Tryz.prog 41 #[.slice (some a) n c] w fun e w' => ∃ v', e = .returned v' ∧ w'.ownsRow w.heap.size 3 1 v' n (xs.map (Value.int .i64)) ∧ v' ≠ .slice none 0 0 ∧ Below w.heap.size w w' := by
 obtain ⟨i0, hi, hz0, hz1, hz2⟩ := info_parts Tz.info3b
 have q41 : ∀ (w : World) (a : Option Addr) (n c n' c' : Nat), (binOp .eql 41 (.slice a n c) (.slice none n' c')).run Tryz.prog w = .ok (.bool a.isNone) w := fun w a n c n' c' => Lib.run_eql_slice_nil w _ _ a n c n' c' Tryz.underlying41
 have A : Aside (∀ j, j < n → w.cell? (a.add j) = some (.int .i64 (xs.getD j 0))) := hc
 clear hc
 go_enter Tryz.func41, Tryz.ntmps41
 go_wp2_with (at_builtin; refine wpList_append_own _ rfl _ _ 41 rfl w.heap.size 3 i0 (.int .i64 0) 1 8 Tryz.underlying41 hi hz0 hz1 hz2 rfl (by decide) _ _ _ rfl (World.ownsRow_made w #[] 0 (Nat.le_refl _) (Nat.zero_le _) rfl) a n c (xs.map (Value.int .i64)) rfl ?qc1 ?qc2 ?qc3 ?qc4 ?qc5 ?qc6 ?_)
 case qc1 => simp [hx]
 case qc2 =>
  intro j u hj
  have hjn : j < n := by
   have := (List.getElem?_eq_some_iff.1 hj).1
   simp at this
   omega
  refine Lib.cell?_alloc_some _ ?_
  rw [A.out j hjn]
  have e : (xs.map (Value.int .i64))[j]? = some (Value.int .i64 (xs.getD j 0)) := by simp [List.getD, hx, hjn]
  rw [e] at hj
  exact hj
 case qc3 => intro u hu; obtain ⟨x, _, rfl⟩ := List.mem_map.1 hu; rfl
 case qc4 => unfold maxLen; omega
 case qc5 => omega
 case qc6 => simp
 intro v' w1 hown hgrow hnil
 go_wp2
 go_ret
 refine ⟨v', rfl, by simpa [hx] using hown, ?_, ?_⟩
 ·exact hnil
 ·exact ((Below.refl _ w).alloc (Nat.le_refl _) _).grown hgrow (by simp) (by intro k hk; simp [Value.ownBlock] at hk; omega)
set_option maxHeartbeats 1000000 in
theorem clone_none (n c : Nat) (w : World) : Calls Tryz.prog 41 #[.slice none n c] w fun e w' => e = .returned (.slice none 0 0) ∧ w' = w := by
 have q41 : ∀ (w : World) (a : Option Addr) (n c n' c' : Nat), (binOp .eql 41 (.slice a n c) (.slice none n' c')).run Tryz.prog w = .ok (.bool a.isNone) w := fun w a n c n' c' => Lib.run_eql_slice_nil w _ _ a n c n' c' Tryz.underlying41
 go_enter Tryz.func41, Tryz.ntmps41
 go_wp2
 go_ret
 exact ⟨rfl, rfl⟩
end Go.Proofs.YtkoeddgbhohggaaGreatDoor.E
namespace Go.Proofs.YtkoeddgbhohggaaGreatDoor.F
open Go.Proofs.YtkoeddgbhohggaaGreatDoor.E Go.RowKit Go.Proofs.YtkoeddgbhohggaaGreatDoorW.PrintWords Go.Proofs.YtkoeddgbhohggaaGreatDoorW.PrintLast
set_option linter.unusedVariables false
def Zz70.A : AK := .p (.row .i64) .nil
def Zz70.Q : RK := .o (.num .i64) 3 .nil
def Zz70.h : (List Int) → Zz70.Q.T × List Int := fun b => (((b), ()), [])
def Zz70.f (k : Nat) (l : List Int) : Option (List Int) := if l.length ≤ 1000000 then some l else none
def Zz70.g (k : Nat) (x : Zz70.A.T) : Option (List Int) := Zz70.f k x.1
theorem map_geti {l : List Int} {i : Nat} (h : i < l.length) : (l.map (Value.int .i64))[i]? = some (.int .i64 (l.getD i 0)) := by simp [List.getD_eq_getElem?_getD, h]
theorem Zz70.does (k : Nat) : Does Tryz.prog 41 Zz70.A Zz70.Q (Zz70.g k) Zz70.h := fun x b hb => by
 obtain ⟨l, x2⟩ := x
 have hb : Zz70.f k l = some b := hb
 unfold Zz70.f at hb
 split at hb
 ·rename_i hl
  injection hb with hb
  subst hb
  refine ⟨⟨Tryz.f41, Tryz.func41, by kernel_rfl, by kernel_rfl⟩, fun ok M w us hgl hx => ?_⟩
  match us, hx with
  | [u], hx =>
   have h1 : HeldF w ok (.row .i64 l) u := hx.1
   have h2 := h1.now
   unfold Den RowAt at h2
   obtain ⟨A, c, rfl, _, h3⟩ := h2
   cases A with
   | none =>
    have h0 : l.length = 0 := Nat.eq_zero_of_not_pos fun hp => by
     obtain ⟨a, ha, _⟩ := h3 hp
     cases ha
    have h00 := List.length_eq_zero_iff.1 h0
    refine (clone_none l.length c w).mono ?_
    rintro e w' ⟨rfl, rfl⟩
    exact ⟨none, [.slice none 0 0], rfl, ⟨⟨⟨⟨rfl, rfl⟩, rfl, h00⟩, fun g hg => by cases hg⟩, trivial⟩, Fr.refl _ _, trivial⟩
   | some a =>
    refine (clone_some a l.length c l w rfl hl fun j hj => ?_).mono ?_
    ·obtain ⟨a', ha, h4⟩ := h3 (by omega)
     injection ha with ha
     subst ha
     exact h4 j hj
    ·rintro e w' ⟨v', rfl, ⟨_, h5⟩, h6, h7⟩
     rcases h5 with h5 | ⟨g, cap, cur, rfl, h8, h9, h10, h11, h12, h13⟩
     ·exact absurd h5.1 h6
     ·refine ⟨some g, [.slice (some ⟨g, 0, none⟩) l.length cap], rfl, ⟨⟨⟨⟨rfl, rfl⟩, cap, rfl, oth_num.2 ⟨cur, h9, by omega, by omega, show l.length ≤ cur.size by omega, fun i hi => ?_⟩⟩, fun q hq => by injection hq with hq; subst hq; exact h8⟩, trivial⟩, Fr.of_below h7, trivial⟩
      have hi : i < l.length := hi
      have h14 := congrArg (fun z : List Value => z[i]?) h13
      simp only [Nat.mul_one] at h14
      rw [List.getElem?_take_of_lt (by omega)] at h14
      show cur[i]? = some (.int .i64 (l.getD i 0))
      exact (Array.getElem?_toList (xs := cur) (i := i)).symm.trans (h14.trans (map_geti hi))
 ·cases hb
end Go.Proofs.YtkoeddgbhohggaaGreatDoor.F
end

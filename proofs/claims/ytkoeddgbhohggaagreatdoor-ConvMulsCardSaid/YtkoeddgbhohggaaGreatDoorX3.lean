/-
  Texts of this proof, one behind the other: EO, EP, ER, ES, Shelf, EY, EXa, EXb, EXc, EXd, EXe, EXf, Da. No condition of their own.
-/
import Derived.Test.YtkoeddgbhohggaaGreatDoorX2
import Derived.Shelf.Bits.Mul64
import Derived.Shelf.Strconv.Itoa0
import Derived.Shelf.Small.Bits
import Derived.Shelf.Spec.TrailingZeros
import Derived.Test.YtkoeddgbhohggaaGreatDoorProg
import Derived.WalkKit
import Derived.WalkSpells
import Derived.BigRegion
import Derived.Laws.EntriesVeiled
import Derived.Lib.Walk
import Derived.Lib.SliceRun
section
namespace Go.Proofs.YtkoeddgbhohggaaGreatDoor.E
open Go.RowKit Go.Proofs.YtkoeddgbhohggaaGreatDoorW.PrintWords Go.Proofs.YtkoeddgbhohggaaGreatDoorW.PrintLast
set_option linter.unusedVariables false
set_option linter.unusedSimpArgs false
inductive RM where
 | p
 | o (k : EK) (e : TypeId)
def retOne (T : TT) (st : St) : ResultVar → RM → Option (RV × List Nat × Option Nat)
 | .tmp t, .p => (match frz st 8 (st.get t) with
  | some (a, ids) => some (.p a, ids, none)
  | none => none)
 | .tmp t, .o k e => (match k.isMap || k.nn with
  | true => none
  | false => (match st.get t with
   | .sli id => (match st.blk id with
    | some (.ints k' e' l) => (match Nat.beq e e' with
     | true => if k' = k ∨ (k' = .bigN ∧ k = .big) then some (.o k e l, [], some id) else none
     | false => none)
    | _ => none)
   | .lit (.slice none 0 0) => some (.o k e [], [], none)
   | _ => none))
 | .cell p ty, _ => (match st.get p, look ty T.und, look ty T.inf with
  | .ptr id 0, some d, some (s, _) => (match d.scalar, st.blk id with
   | false, some (.cells _ l) => (match Nat.beq s l.length, frzL (frz st 8) l with
    | true, some (l', ids) => some (.p (.agg l'), ids, none)
    | _, _ => none)
   | _, _ => none)
  | _, _, _ => none)
def retAll (T : TT) (st : St) : List ResultVar → List RM → Option (List RV × List Nat × List (Option Nat))
 | [], _ => some ([], [], [])
 | v :: vs, ms => (match retOne T st v (ms.headD .p), retAll T st vs ms.tail with
  | some (r, ids, o), some (rs, ids', os) => some (r :: rs, ids ++ ids', o :: os)
  | _, _ => none)
def countO : List RV → Nat
 | [] => 0
 | .o _ _ _ :: r => countO r + 1
 | _ :: r => countO r
def rowOf (b : Option TypeId) (a : AV) : Option Nat := match b, a with
 | none, .sli i => some i
 | some ty, .fp ty' [.sli i] => (match Nat.beq ty' ty with
  | true => some i
  | false => none)
 | _, _ => none
def mutEnd (st : St) : Option (Nat × Option TypeId × IntKind × TypeId) → Option (List Int × List Nat)
 | none => some ([], [])
 | some (s, b, k, e) => (match rowOf b (st.get s) with
  | some i => (match st.blk i with
   | some (.ints (.num k') e' l) => (match Nat.beq e e' with
    | true => if k' = k then some (l, [i]) else none
    | false => none)
   | _ => none)
  | none => none)
def retV {R : Type} (T : TT) (vars : List ResultVar) (ms : List RM) (pn : Option (Nat × Option TypeId × IntKind × TypeId)) (K : List RV → List Int → Option R) (st : St) : Option R := match retAll T st vars ms, mutEnd st pn with
 | some (rs, ids, os), some (m', mi) => (match Nat.ble (countO rs) 1 && !(meets ids (ownIds os ++ mi)) && !(meets (ownIds os) mi) with
  | true => K rs m'
  | false => none)
 | _, _ => none
def Kmain {R : Type} (K : St → Option R) : Exit → St → Option R := fun e st => match e with
 | .ret => K st
 | .normal => K st
 | _ => none
def initSl : List XV → Nat → List (Nat × AV)
 | [], _ => []
 | .p a :: xs, j => (j, a) :: initSl xs (j + 1)
 | .m none _ _ _ :: xs, j => (j, .sli 0) :: initSl xs (j + 1)
 | .m (some ty) _ _ _ :: xs, j => (j, .fp ty [.sli 0]) :: initSl xs (j + 1)
def initBl : List XV → List (Nat × Blk)
 | [] => []
 | .p _ :: xs => initBl xs
 | .m _ k e l :: _ => [(0, .ints (.num k) e l)]
def pinAt : List XV → Nat → Option Nat
 | [], _ => none
 | .p _ :: xs, j => pinAt xs (j + 1)
 | .m _ _ _ _ :: _, j => some j
def pinK : List XV → Nat → Option (Nat × Option TypeId × IntKind × TypeId)
 | [], _ => none
 | .p _ :: xs, j => pinK xs (j + 1)
 | .m b k e _ :: _, j => some (j, b, k, e)
def countM : List XV → Nat
 | [] => 0
 | .p _ :: xs => countM xs
 | .m _ _ _ _ :: xs => countM xs + 1
def initSt (xs : List XV) : St := ⟨initSl xs 0, initBl xs, 1⟩
def RImp : List RV → List RV → Prop
 | [], [] => True
 | .p a :: r, .p a' :: r' => (∀ W v, Den En0 (fun _ => none) W a v → Den En0 (fun _ => none) W a' v) ∧ RImp r r'
 | .o k e l :: r, .o k' e' l' :: r' => (k = k' ∧ e = e' ∧ l = l') ∧ RImp r r'
 | _, _ => False
section
variable {P : Program} {X : Cx} {E E' : En} {F : FS} {a : Act} {w w' : World} {st : St} {R : Type} {r : R} {T : TT}
def ROk (E : En) (B : Nat → Option Blk) (w' : World) (nb' : Nat → Prop) : RV → Option Nat → Value → Prop
 | .p a, _, u => HeldF w' nb' a u
 | .o k e l, none, u => (k.isMap = false ∧ k.nn = false) ∧ u = .slice none 0 0 ∧ l = []
 | .o k e l, some id, u => (k.isMap = false ∧ k.nn = false) ∧ (∃ k0, B id = some (.ints k0 e l)) ∧ ((E.ν id = true ∧ u = .slice none 0 0 ∧ l = []) ∨ (E.ν id = false ∧ ∃ c, u = .slice (some ⟨E.ρ id, 0, none⟩) l.length c ∧ OthAt w' nb' (E.ρ id) c k e l))
theorem retOne_of {v : ResultVar} {m : RM} {rv : RV} {ids : List Nat} {ow : Option Nat} {nb' : Nat → Prop} (hT : T.ok P) (hs : SimAt X E st.fs a w) (hN : ∀ t, v = .tmp t ∨ (∃ ty, v = .cell t ty) → t < X.N) (h : retOne T st v m = some (rv, ids, ow)) (hnb : ∀ k, Lent E st.fs.B (NB X.okk E st.fs.B) ids k → nb' k) :
  ∃ u, (∀ rs vs, Vals P a.tmps w rs vs → Vals P a.tmps w (v :: rs) (u :: vs)) ∧ ROk E st.fs.B w nb' rv ow u := by
 cases v with
 | tmp t =>
  obtain ⟨u, h1, h2⟩ := hs.slot t (hN t (.inl rfl))
  have hu : a.tmps.getD t undef = u := by simp [h1]
  refine ⟨u, fun rs vs hv => hu ▸ .tmp hv, ?_⟩
  cases m with
  | p =>
   simp only [retOne] at h
   split at h
   ·rename_i a' ids' hf
    injection h with h; injection h with h3 h4; injection h4 with h4 h5
    subst h3; subst h4; subst h5
    exact Held.mono (frz_of hs 8 hf (fun _ _ => rfl) h2) hnb
   ·cases h
  | o k e =>
   simp only [retOne] at h
   split at h
   ·cases h
   ·rename_i hkk
    have hkk' : k.isMap = false ∧ k.nn = false := by simpa using hkk
    split at h
    ·rename_i id hg
     split at h
     ·rename_i k' e' l hb
      split at h
      ·rename_i he
       split at h
       ·rename_i hk
        injection h with h; injection h with h3 h4; injection h4 with h4 h5
        subst h3; subst h4; subst h5
        have := Nat.eq_of_beq_eq_true he
        subst this
        have h2' : Held E st.fs.B w (NB X.okk E st.fs.B) (.sli id) u := hg ▸ h2
        have hkm : k'.isMap = false := by
         rcases hk with rfl | ⟨rfl, _⟩
         ·exact hkk'.1
         ·rfl
        refine ⟨hkk', ⟨_, hb⟩, ?_⟩
        rcases sli_oth hs hkm hb h2' with h6 | ⟨h6, h7, h8⟩
        ·exact .inl h6
        ·have h9 : OthAt w (NB X.okk E st.fs.B) (E.ρ id) (E.γ id) k e l := by
          rcases hk with rfl | ⟨rfl, rfl⟩
          ·exact h8
          ·exact oth_nn.1 h8
         exact .inr ⟨h6, _, h7, h9.move rfl (Nat.le_refl _) fun q hq _ => ⟨rfl, hnb q (.inl hq)⟩⟩
       ·cases h
      ·cases h
     ·cases h
    ·rename_i hg
     injection h with h; injection h with h3 h4; injection h4 with h4 h5
     subst h3; subst h5
     have h2' : Held E st.fs.B w (NB X.okk E st.fs.B) (.lit (.slice none 0 0)) u := hg ▸ h2
     exact ⟨hkk', lit_of h2', rfl⟩
    ·cases h
 | cell p ty =>
  obtain ⟨u, h1, h2⟩ := hs.slot p (hN p (.inr ⟨ty, rfl⟩))
  have hu : a.tmps.getD p undef = u := by simp [h1]
  simp only [retOne] at h
  split at h
  ·rename_i id d s rest hg hd hi
   split at h
   ·rename_i ty' l hsc hb
    split at h
    ·rename_i l' ids' hl hf
     injection h with h; injection h with h3 h4; injection h4 with h4 h5
     subst h3; subst h4; subst h5
     have h2' : Held E st.fs.B w (NB X.okk E st.fs.B) (.ptr id 0) u := hg ▸ h2
     have h6 := h2'.now
     unfold Den at h6
     obtain ⟨hn, us, h7, h8⟩ := hs.blk id _ hb
     obtain ⟨i, z, h9, h10, _⟩ := hT.2 ty _ hi
     have hlen : s = us.length := by rw [heldL_len h8]; exact Nat.eq_of_beq_eq_true hl
     have hok := hT.1 ty d hd
     have hsz : (P.info? ty).map (·.size) = some us.toArray.size := by rw [h9]; simp [h10, hlen]
     refine ⟨.agg us.toArray, fun rs vs hv => ?_, ?_⟩
     ·cases d with
      | struct fs => obtain ⟨f, h11, _⟩ := hok; exact .cell (E.ρ id) ty' us.toArray (0, 0) _ (hu.trans h6.2) h7 h11 rfl hsz hv
      | array n e => exact .cell (E.ρ id) ty' us.toArray (0, 0) _ (hu.trans h6.2) h7 hok rfl hsz hv
      | int k => cases hsc
      | bool => cases hsc
      | str => cases hsc
      | ptr e => cases hsc
      | slice e => cases hsc
      | map k e => cases hsc
     exact Held.mono (held_agg (frzL_of (frz_of hs 8) hf (fun _ _ => rfl) h8)) hnb
    ·cases h
   ·cases h
  ·cases h
theorem retAll_of {nb' : Nat → Prop} (hT : T.ok P) (hs : SimAt X E st.fs a w) : ∀ (vars : List ResultVar) (ms : List RM) {rs : List RV} {ids : List Nat} {os : List (Option Nat)}, (∀ v ∈ vars, ∀ t, v = .tmp t ∨ (∃ ty, v = .cell t ty) → t < X.N) → retAll T st vars ms = some (rs, ids, os) → (∀ k, Lent E st.fs.B (NB X.okk E st.fs.B) ids k → nb' k) →
  ∃ vs, Vals P a.tmps w vars vs ∧ rs.length = vs.length ∧ os.length = vs.length ∧ ∀ (j : Nat) (rv : RV) (ow : Option Nat) (u : Value), rs[j]? = some rv → os[j]? = some ow → vs[j]? = some u → ROk E st.fs.B w nb' rv ow u
 | [], ms, rs, ids, os, _, h, _ => by
  injection h with h; injection h with h1 h2; injection h2 with h2 h3
  subst h1; subst h3
  exact ⟨[], .nil, rfl, rfl, fun j rv ow u h => by simp at h⟩
 | v :: vars, ms, rs, ids, os, hN, h, hnb => by
  unfold retAll at h
  split at h
  ·rename_i r0 ids0 o0 rs' ids' os' h1 h2
   injection h with h; injection h with e1 e2; injection e2 with e2 e3
   subst e1; subst e2; subst e3
   obtain ⟨u, h3, h4⟩ := retOne_of hT hs (hN v List.mem_cons_self) h1 fun k hk => hnb k (hk.elim .inl fun ⟨i, hi, hh⟩ => .inr ⟨i, List.mem_append_left _ hi, hh⟩)
   obtain ⟨vs, h5, h6, h7, h8⟩ := retAll_of hT hs vars _ (fun v' hv' => hN v' (List.mem_cons_of_mem _ hv')) h2 fun k hk => hnb k (hk.elim .inl fun ⟨i, hi, hh⟩ => .inr ⟨i, List.mem_append_right _ hi, hh⟩)
   refine ⟨u :: vs, h3 _ _ h5, by simp [h6], by simp [h7], fun j rv ow x e1 e2 e3 => ?_⟩
   cases j with
   | zero =>
    simp only [List.getElem?_cons_zero, Option.some.injEq] at e1 e2 e3
    subst e1; subst e2; subst e3
    exact h4
   | succ j =>
    simp only [List.getElem?_cons_succ] at e1 e2 e3
    exact h8 j rv ow x e1 e2 e3
  ·cases h
theorem rall_of {ok : Nat → Prop} {G : Option Nat} {w0 : World} {B : Nat → Option Blk} {nb' : Nat → Prop} (hp : ∀ k, nb' k → (ok k ∨ w0.heap.size ≤ k) ∧ G ≠ some k) : ∀ (rs : List RV) (os : List (Option Nat)) (vs : List Value), rs.length = vs.length → os.length = vs.length → (∀ (j : Nat) (rv : RV) (ow : Option Nat) (u : Value), rs[j]? = some rv → os[j]? = some ow → vs[j]? = some u → ROk E B w nb' rv ow u) →
  (∀ (j : Nat) (ow : Option Nat) (k : EK) (e : TypeId) (l : List Int) (u : Value), rs[j]? = some (.o k e l) → os[j]? = some ow → ROk E B w nb' (.o k e l) ow u → OAt w (fun k => (ok k ∨ w0.heap.size ≤ k) ∧ G ≠ some k) G k e l u ∧ ∀ g, G = some g → w0.heap.size ≤ g) → RAll w0 w ok G rs vs
 | [], os, [], _, _, _, _ => trivial
 | [], os, _ :: _, h, _, _, _ => by simp at h
 | _ :: _, os, [], h, _, _, _ => by simp at h
 | r0 :: rs, [], _ :: _, _, h, _, _ => by simp at h
 | r0 :: rs, o0 :: os, v :: vs, h1, h2, h3, h4 => by
  refine ⟨?_, rall_of hp rs os vs (by simpa using h1) (by simpa using h2) (fun j rv ow u e1 e2 e3 => h3 (j + 1) rv ow u e1 e2 e3) fun j ow k e l u e1 e2 e3 => h4 (j + 1) ow k e l u e1 e2 e3⟩
  have h5 := h3 0 r0 o0 v rfl rfl rfl
  cases r0 with
  | p a' => exact Held.mono h5 hp
  | o k e l => exact h4 0 o0 k e l v rfl rfl h5
theorem rall_imp {ok : Nat → Prop} {G : Option Nat} {w0 : World} : ∀ {rs rs' : List RV} {vs : List Value}, RImp rs rs' → RAll w0 w ok G rs vs → RAll w0 w ok G rs' vs
 | [], [], [], _, _ => trivial
 | [], [], _ :: _, _, h => (h : False).elim
 | .p a :: rs, .p a' :: rs', v :: vs, h, h' => ⟨fun W' hW => h.1 _ _ (h'.1 W' hW), rall_imp h.2 h'.2⟩
 | .o k e l :: rs, .o k' e' l' :: rs', v :: vs, h, h' => by
  obtain ⟨⟨rfl, rfl, rfl⟩, h2⟩ := h
  exact ⟨h'.1, rall_imp h2 h'.2⟩
 | .p _ :: _, [], _, h, _ => (h : False).elim
 | .o _ _ _ :: _, [], _, h, _ => (h : False).elim
 | [], .p _ :: _, _, h, _ => (h : False).elim
 | [], .o _ _ _ :: _, _, h, _ => (h : False).elim
 | .p _ :: _, .o _ _ _ :: _, _, h, _ => (h : False).elim
 | .o _ _ _ :: _, .p _ :: _, _, h, _ => (h : False).elim
 | .p _ :: _, .p _ :: _, [], _, h => (h : False).elim
 | .o _ _ _ :: _, .o _ _ _ :: _, [], _, h => (h : False).elim
theorem xall_len {ok : Nat → Prop} {M : Option Nat} : ∀ {xs : List XV} {us : List Value}, XAll w ok M xs us → us.length = xs.length
 | [], [], _ => rfl
 | [], _ :: _, h => (h : False).elim
 | _ :: _, [], h => (h : False).elim
 | x :: xs, u :: us, h => by rw [List.length_cons, List.length_cons, xall_len h.2]
def mAV : Option TypeId → AV
 | none => .sli 0
 | some ty => .fp ty [.sli 0]
theorem init_at {ok : Nat → Prop} {M : Option Nat} {t : Nat} : ∀ (xs : List XV) (us : List Value) (j : Nat), XAll w ok M xs us → j ≤ t → (∃ x u, us[t - j]? = some u ∧ xs[t - j]? = some x ∧ XAt w ok M x u ∧ look t (initSl xs j) = some (match x with | .p a => a | .m b _ _ _ => mAV b)) ∨ (us[t - j]? = none ∧ look t (initSl xs j) = none)
 | [], [], j, _, _ => .inr ⟨by simp, rfl⟩
 | [], _ :: _, j, h, _ => (h : False).elim
 | _ :: _, [], j, h, _ => (h : False).elim
 | x :: xs, u :: us, j, h, hj => by
  by_cases he : t = j
  ·subst he
   refine .inl ⟨x, u, by simp, by simp, h.1, ?_⟩
   cases x with
   | p a => simp [initSl, look]
   | m b k e l => cases b <;> simp [initSl, look, mAV]
  ·have hne : Nat.beq t j = false := by cases hb : Nat.beq t j with
    | false => rfl
    | true => exact absurd (Nat.eq_of_beq_eq_true hb) he
   have e1 : t - j = (t - (j + 1)) + 1 := by omega
   have e2 : look t (initSl (x :: xs) j) = look t (initSl xs (j + 1)) := by
    cases x with
    | p a => show (match Nat.beq t j with | true => some a | false => look t (initSl xs (j + 1))) = _; rw [hne]
    | m b k e l => cases b with
     | none => show (match Nat.beq t j with | true => some (AV.sli 0) | false => look t (initSl xs (j + 1))) = _; rw [hne]
     | some ty => show (match Nat.beq t j with | true => some (AV.fp ty [.sli 0]) | false => look t (initSl xs (j + 1))) = _; rw [hne]
   rw [e1, e2, List.getElem?_cons_succ, List.getElem?_cons_succ]
   exact init_at xs us (j + 1) h.2 (by omega)
theorem pin_at {ok : Nat → Prop} {M : Option Nat} : ∀ (xs : List XV) (us : List Value) (j : Nat), XAll w ok M xs us → (pinAt xs j = none ∧ pinK xs j = none ∧ initBl xs = [] ∧ countM xs = 0) ∨ ∃ (s : Nat) (b : Option TypeId) (k : IntKind) (e : TypeId) (l : List Int) (u x : Value), pinAt xs j = some (j + s) ∧ pinK xs j = some (j + s, b, k, e) ∧ initBl xs = [(0, .ints (.num k) e l)] ∧ us[s]? = some u ∧ xs[s]? = some (.m b k e l) ∧ RowIn w b u x ∧ MAt w M k e l x ∧ BoxOk ok b u ∧ ∀ g, M = some g → ¬ ok g
 | [], [], j, _ => .inl ⟨rfl, rfl, rfl, rfl⟩
 | [], _ :: _, j, h => (h : False).elim
 | _ :: _, [], j, h => (h : False).elim
 | .p a :: xs, u :: us, j, h => by
  rcases pin_at xs us (j + 1) h.2 with h1 | ⟨s, b, k, e, l, u', x, h1, h1k, h2, h3, h4, h5⟩
  ·exact .inl h1
  ·exact .inr ⟨s + 1, b, k, e, l, u', x, by show pinAt xs (j + 1) = _; rw [h1, Nat.add_assoc, Nat.add_comm 1 s], by show pinK xs (j + 1) = _; rw [h1k, Nat.add_assoc, Nat.add_comm 1 s], h2, h3, h4, h5⟩
 | .m b k e l :: xs, u :: us, j, h => by
  obtain ⟨⟨⟨x, h1, h2⟩, h3, h4⟩, _⟩ := h
  exact .inr ⟨0, b, k, e, l, u, x, rfl, rfl, rfl, rfl, rfl, h1, h2, h3, h4⟩
theorem m_count : ∀ {xs : List XV} {i : Nat} {b : Option TypeId} {k : IntKind} {e : TypeId} {l : List Int}, xs[i]? = some (.m b k e l) → 1 ≤ countM xs
 | [], i, _, _, _, _, h => by simp at h
 | .m _ _ _ _ :: xs, i, _, _, _, _, h => by simp [countM]
 | .p a :: xs, i, b, k, e, l, h => by
  cases i with
  | zero => simp at h
  | succ i => simp only [List.getElem?_cons_succ] at h; exact m_count (xs := xs) h
theorem count_uniq : ∀ {xs : List XV} {i j : Nat} {b b' : Option TypeId} {k k' : IntKind} {e e' : TypeId} {l l' : List Int}, countM xs ≤ 1 → xs[i]? = some (.m b k e l) → xs[j]? = some (.m b' k' e' l') → i = j
 | [], i, j, _, _, _, _, _, _, _, _, _, h, _ => by simp at h
 | x :: xs, i, j, b, b', k, k', e, e', l, l', hc, hi, hj => by
  have hmem : ∀ {xs : List XV} {i : Nat} {b : Option TypeId} {k : IntKind} {e : TypeId} {l : List Int}, xs[i]? = some (.m b k e l) → 1 ≤ countM xs := m_count
  cases x with
  | p a =>
   cases i with
   | zero => simp at hi
   | succ i =>
    cases j with
    | zero => simp at hj
    | succ j =>
     simp only [List.getElem?_cons_succ] at hi hj
     rw [count_uniq (xs := xs) hc hi hj]
  | m b0 k0 e0 l0 =>
   cases i with
   | zero =>
    cases j with
    | zero => rfl
    | succ j => simp only [List.getElem?_cons_succ] at hj; have := hmem hj; simp [countM] at hc; omega
   | succ i => simp only [List.getElem?_cons_succ] at hi; have := hmem hi; simp [countM] at hc; omega
def frameOf (N : Nat) (w : World) (ok : Nat → Prop) (M : Option Nat) (xs : List XV) (us : List Value) : Cx :=
 ⟨N, w, fun k => ok k ∨ w.heap.size ≤ k ∨ ((pinAt xs 0).isSome = true ∧ M = some k), fun k => (pinAt xs 0).isSome = true ∧ M = some k, (pinAt xs 0).map fun s => (s, us.getD s undef)⟩
theorem init_sim {N : Nat} {ok : Nat → Prop} {M : Option Nat} {xs : List XV} {us : List Value} (hgl : GOk w ok) (hx : XAll w ok M xs us) (hlen : xs.length ≤ N) (hc : countM xs ≤ 1) : Sim (frameOf N w ok M xs us) (initSt xs).fs ⟨us.toArray ++ Array.replicate (N - us.toArray.size) undef, []⟩ w := by
 have hul := xall_len hx
 have hp := pin_at xs us 0 hx
 have hcs : ∃ c : Nat, ∀ (s : Nat) (b : Option TypeId) (k : IntKind) (e : TypeId) (l : List Int) (u x : Value), xs[s]? = some (.m b k e l) → us[s]? = some u → RowIn w b u x → MAt w M k e l x → ∀ g, M = some g → ∃ cs : Array Value, cs.size = c ∧ x = .slice (some ⟨g, 0, none⟩) l.length cs.size ∧ Lies w e k l g cs := by
  rcases hp with ⟨h1, _, h2, h3⟩ | ⟨s, b, k, e, l, u, x, h1, _, h2, h3, h4, h5, h6, h7, h8⟩
  ·refine ⟨0, fun s b k e l u x hs => ?_⟩
   have := m_count hs
   omega
  ·cases hM : M with
   | none => exact ⟨0, fun _ _ _ _ _ _ _ _ _ _ _ g hg => by cases hg⟩
   | some g0 =>
    rw [hM] at h6
    obtain ⟨cs, h9, h10⟩ := h6
    refine ⟨cs.size, fun s' b' k' e' l' u' x' hs' hu' hr' hm' g hg => ?_⟩
    have := count_uniq hc h4 hs'
    subst this
    rw [h4] at hs'
    injection hs' with hs'
    injection hs' with e0 e1 e2 e3
    subst e0; subst e1; subst e2; subst e3
    rw [h3] at hu'
    injection hu' with hu'
    subst hu'
    have := RowIn.uniq h5 hr'
    subst this
    injection hg with hg
    subst hg
    exact ⟨cs, rfl, h9, h10⟩
 obtain ⟨c, hcs⟩ := hcs
 refine ⟨⟨fun _ => M.getD 0, fun _ => c, fun _ => M.isNone⟩, ?_⟩
 have hB : ∀ i b, (initSt xs).fs.B i = some b → i = 0 ∧ ∃ (s : Nat) (bx : Option TypeId) (k : IntKind) (e : TypeId) (l : List Int) (u x : Value), pinAt xs 0 = some s ∧ b = .ints (.num k) e l ∧ us[s]? = some u ∧ xs[s]? = some (.m bx k e l) ∧ RowIn w bx u x ∧ MAt w M k e l x ∧ BoxOk ok bx u ∧ ∀ g, M = some g → ¬ ok g := by
  intro i b hb
  have hb' : look i (initBl xs) = some b := hb
  rcases hp with ⟨h1, _, h2, h3⟩ | ⟨s, bx, k, e, l, u, x, h1, _, h2, h3, h4, h5, h6, h7, h8⟩
  ·rw [h2] at hb'; cases hb'
  ·rw [h2, look_one] at hb'
   split at hb'
   ·rename_i hi
    injection hb' with hb'
    exact ⟨hi, s, bx, k, e, l, u, x, by rw [h1, Nat.zero_add], hb'.symm, h3, h4, h5, h6, h7, h8⟩
   ·cases hb'
 have hlive : ∀ i, Live ⟨fun _ => M.getD 0, fun _ => c, fun _ => M.isNone⟩ (initSt xs).fs.B i → i = 0 ∧ (pinAt xs 0).isSome = true ∧ M = some (M.getD 0) ∧ ∀ g, M = some g → ¬ ok g := by
  rintro i ⟨⟨b, h1, _⟩, h2⟩
  obtain ⟨h3, s, bx, k, e, l, u, x, h4, _, _, _, _, _, _, h5⟩ := hB i b h1
  refine ⟨h3, by rw [h4]; rfl, ?_, h5⟩
  cases M with
  | none => cases h2
  | some g => rfl
 have hnb : ∀ k, ok k → NB (frameOf N w ok M xs us).okk ⟨fun _ => M.getD 0, fun _ => c, fun _ => M.isNone⟩ (initSt xs).fs.B k := fun k hk => ⟨.inl hk, fun i hi he => by
  obtain ⟨_, _, h3, h4⟩ := hlive i hi
  exact h4 k (by rw [h3]; exact congrArg some he) hk⟩
 refine ⟨?_, rfl, fun k hk => ?_, fun p hp' => ?_, Fr.refl _ _, fun t ht => ?_, fun i b hb => ?_, fun i hi => ?_, fun i i' hi hi' _ => by rw [(hlive i hi).1, (hlive i' hi').1], fun s v hv => ?_⟩
 ·show (us.toArray ++ Array.replicate (N - us.toArray.size) undef).size = N
  simp
  omega
 ·rcases hk with hk | hk
  ·exact .inr (.inl hk)
  ·exact .inr (.inr hk)
 ·obtain ⟨h1, h2, h3⟩ := hgl p hp'
  refine ⟨⟨.inl h1, fun hm => ?_⟩, h2, h3⟩
  obtain ⟨hm1, hm2⟩ := (hm : (pinAt xs 0).isSome = true ∧ M = some p.1)
  rcases hp with ⟨h4, _⟩ | ⟨s, bx, k, e, l, u, x, _, _, _, _, _, _, _, _, h8⟩
  ·rw [h4] at hm1; cases hm1
  ·exact h8 _ hm2 h1
 ·rcases init_at (t := t) xs us 0 hx (Nat.zero_le _) with ⟨x, u, h1, h1x, h2, h3⟩ | ⟨h1, h2⟩
  ·rw [Nat.sub_zero] at h1 h1x
   have htl := (List.getElem?_eq_some_iff.1 h1).1
   refine ⟨u, by rw [Array.getElem?_append_left (by simpa using htl)]; simpa using h1, ?_⟩
   show Held _ _ _ _ (match look t (initSl xs 0) with | some a => a | none => .any) u
   rw [h3]
   cases x with
   | p a => exact ((h2 : HeldF w ok a u).any).mono hnb
   | m bx k e l =>
    have hBl : (initSt xs).fs.B 0 = some (.ints (.num k) e l) := by
     show look 0 (initBl xs) = _
     rcases hp with ⟨_, _, _, h4⟩ | ⟨s, b', k', e', l', u', x', _, _, h5, _, h6, _⟩
     ·have := m_count h1x; omega
     ·have := count_uniq hc h1x h6
      subst this
      rw [h1x] at h6
      injection h6 with h6
      injection h6 with e0 e1 e2 e3
      rw [h5, e1, e2, e3]
      rfl
    obtain ⟨⟨x, hr, hm⟩, hbx, _⟩ := h2
    have hsl : Held ⟨fun _ => M.getD 0, fun _ => c, fun _ => M.isNone⟩ (initSt xs).fs.B w (NB (frameOf N w ok M xs us).okk ⟨fun _ => M.getD 0, fun _ => c, fun _ => M.isNone⟩ (initSt xs).fs.B) (.sli 0) x := by
     intro W' hW
     unfold Den
     rw [hBl]
     refine ⟨rfl, ?_, fun k' e' l' hl => ?_⟩
     ·have h7 := hm
      unfold MAt at h7
      cases M with
      | none => exact ⟨_, _, _, h7.1⟩
      | some g => obtain ⟨cs, h8, _⟩ := h7; exact ⟨_, _, _, h8⟩
     ·injection hl with hl
      injection hl with _ _ hl
      cases hM : M with
      | none =>
       have h7 := hm
       rw [hM] at h7
       simp only [Option.isNone_none, if_true]
       exact h7.1
      | some g =>
       obtain ⟨cs, h8, h9, _⟩ := hcs t bx k e l u x h1x h1 hr hm g hM
       simp only [Option.isNone_some, Bool.false_eq_true, if_false, Option.getD_some]
       rw [h9, h8, hl]
    cases bx with
    | none =>
     have hr' : x = u := hr
     subst hr'
     exact hsl
    | some ty =>
     obtain ⟨g, rfl, hg⟩ := hr
     have hgl' : g < w.heap.size := (Array.getElem?_eq_some_iff.1 hg).1
     intro W' hW
     show Den _ _ W' (.fp ty [.sli 0]) _
     unfold Den
     refine ⟨g, [x], rfl, (hW g (hnb g (hbx rfl g rfl)) hgl').trans hg, ?_⟩
     unfold DenL
     refine ⟨x, [], rfl, hsl W' hW, ?_⟩
     unfold DenL
     rfl
  ·rw [Nat.sub_zero] at h1
   have htl : us.length ≤ t := List.getElem?_eq_none_iff.1 h1
   refine ⟨undef, ?_, ?_⟩
   ·have ht' : t < N := ht
    rw [Array.getElem?_append_right (by simpa using htl)]
    simp only [List.size_toArray, Array.getElem?_replicate]
    rw [if_pos (by omega)]
   ·show Held _ _ _ _ (match look t (initSl xs 0) with | some a => a | none => .any) undef
    rw [h2]
    exact held_any
 ·obtain ⟨h1, s, bx, k, e, l, u, x, h2, rfl, h3, h4, hr, h5, _⟩ := hB i b hb
  simp only [BlkAt]
  cases hM : M with
  | none => rw [hM] at h5; simp only [Option.isNone_none, if_true]; exact h5.2
  | some g =>
   obtain ⟨cs, h6, h7, h8⟩ := hcs s bx k e l u x h4 h3 hr h5 g hM
   simp only [Option.isNone_some, Bool.false_eq_true, if_false, Option.getD_some]
   exact ⟨cs, h8.1, h6, h8.2.1, h8.2.2.1, h8.2.2.2⟩
 ·obtain ⟨_, h1, h2, _⟩ := hlive i hi
  exact .inr ⟨h1, h2⟩
 ·have hv' : (pinAt xs 0).map (fun s => (s, us.getD s undef)) = some (s, v) := hv
  rcases hp with ⟨h1, _⟩ | ⟨s', bx, k, e, l, u, x, h1, _, _, h3, _⟩
  ·rw [h1] at hv'; cases hv'
  ·rw [h1, Nat.zero_add] at hv'
   simp only [Option.map_some, Option.some.injEq, Prod.mk.injEq] at hv'
   obtain ⟨rfl, rfl⟩ := hv'
   have htl := (List.getElem?_eq_some_iff.1 h3).1
   show (us.toArray ++ _)[s']? = _
   rw [Array.getElem?_append_left (by simpa using htl)]
   simp [h3]
def varsIn (N : Nat) : List ResultVar → Bool
 | [] => true
 | .tmp t :: r => (match Nat.blt t N with
  | true => varsIn N r
  | false => false)
 | .cell t _ :: r => (match Nat.blt t N with
  | true => varsIn N r
  | false => false)
theorem varsIn_of {N : Nat} : ∀ {l : List ResultVar}, varsIn N l = true → ∀ v ∈ l, ∀ t, v = .tmp t ∨ (∃ ty, v = .cell t ty) → t < N
 | [], _, v, hv, _, _ => by cases hv
 | .tmp s :: l, h, v, hv, t, ht => by
  unfold varsIn at h
  split at h
  ·rename_i h1
   rcases List.mem_cons.1 hv with rfl | hv
   ·rcases ht with ht | ⟨ty, ht⟩
    ·injection ht with ht; subst ht; exact Nat.le_of_ble_eq_true h1
    ·cases ht
   ·exact varsIn_of h v hv t ht
  ·cases h
 | .cell s ty :: l, h, v, hv, t, ht => by
  unfold varsIn at h
  split at h
  ·rename_i h1
   rcases List.mem_cons.1 hv with rfl | hv
   ·rcases ht with ht | ⟨ty', ht⟩
    ·cases ht
    ·injection ht with ht; subst ht; exact Nat.le_of_ble_eq_true h1
   ·exact varsIn_of h v hv t ht
  ·cases h
theorem countO_uniq : ∀ {rs : List RV} {os : List (Option Nat)} {i j : Nat}, countO rs ≤ 1 → (∃ k e l, rs[i]? = some (.o k e l)) → (∃ k e l, rs[j]? = some (.o k e l)) → i = j
 | [], os, i, j, _, ⟨_, _, _, h⟩, _ => by simp at h
 | x :: rs, os, i, j, hc, hi, hj => by
  have hmem : ∀ {rs : List RV} {i : Nat}, (∃ k e l, rs[i]? = some (.o k e l)) → 1 ≤ countO rs := by
   intro rs
   induction rs with
   | nil => rintro i ⟨k, e, l, h⟩; simp at h
   | cons x rs ih =>
    rintro i ⟨k, e, l, h⟩
    cases x with
    | o _ _ _ => simp [countO]
    | p a =>
     cases i with
     | zero => simp at h
     | succ i => simp only [List.getElem?_cons_succ] at h; exact ih ⟨k, e, l, h⟩
  obtain ⟨k, e, l, hi⟩ := hi
  obtain ⟨k', e', l', hj⟩ := hj
  cases x with
  | p a =>
   cases i with
   | zero => simp at hi
   | succ i =>
    cases j with
    | zero => simp at hj
    | succ j =>
     simp only [List.getElem?_cons_succ] at hi hj
     rw [countO_uniq (rs := rs) (os := os) hc ⟨_, _, _, hi⟩ ⟨_, _, _, hj⟩]
  | o k0 e0 l0 =>
   cases i with
   | zero =>
    cases j with
    | zero => rfl
    | succ j => simp only [List.getElem?_cons_succ] at hj; have := hmem ⟨_, _, _, hj⟩; simp [countO] at hc; omega
   | succ i => simp only [List.getElem?_cons_succ] at hi; have := hmem ⟨_, _, _, hi⟩; simp [countO] at hc; omega
theorem mall_at {M : Option Nat} {m' : List Int} {ok : Nat → Prop} : ∀ {xs : List XV} {us : List Value}, XAll w ok M xs us → (∀ (s : Nat) (b : Option TypeId) (k : IntKind) (e : TypeId) (l : List Int) (u : Value), xs[s]? = some (.m b k e l) → us[s]? = some u → ∃ x, RowIn w b u x ∧ MAt w' M k e m' x) → MAll w w' M m' xs us
 | [], [], _, _ => trivial
 | [], _ :: _, h, _ => (h : False).elim
 | x :: _, [], h, _ => (h : False).elim
 | .p a :: xs, u :: us, h, hm => mall_at (xs := xs) (us := us) h.2 fun s b k e l u' h1 h2 => hm (s + 1) b k e l u' h1 h2
 | .m b k e l :: xs, u :: us, h, hm => ⟨hm 0 b k e l u rfl rfl, mall_at (xs := xs) (us := us) h.2 fun s b k e l u' h1 h2 => hm (s + 1) b k e l u' h1 h2⟩
theorem ret_own {vars : List ResultVar} : ∀ (ms : List RM) {rs : List RV} {ids : List Nat} {os : List (Option Nat)}, retAll T st vars ms = some (rs, ids, os) → ∀ (j : Nat) (ow : Option Nat), os[j]? = some ow → ow = none ∨ ∃ id k e l, ow = some id ∧ (∃ k1, rs[j]? = some (.o k1 e l)) ∧ st.blk id = some (.ints k e l) := by
 induction vars with
 | nil =>
  intro ms rs ids os h j ow ho
  injection h with h; injection h with h1 h2; injection h2 with h2 h3
  subst h3; simp at ho
 | cons v vars ih =>
  intro ms rs ids os h j ow ho
  unfold retAll at h
  split at h
  ·rename_i r0 ids0 o0 rs' ids' os' h1 h2
   injection h with h; injection h with e1 e2; injection e2 with e2 e3
   subst e1; subst e3
   cases j with
   | zero =>
    simp only [List.getElem?_cons_zero, Option.some.injEq] at ho ⊢
    subst ho
    cases v with
    | tmp t =>
     cases hm : ms.headD .p with
     | p =>
      rw [hm] at h1
      simp only [retOne] at h1
      split at h1
      ·injection h1 with h1; injection h1 with _ h1; injection h1 with _ h1; exact .inl h1.symm
      ·cases h1
     | o k e =>
      rw [hm] at h1
      simp only [retOne] at h1
      split at h1
      ·cases h1
      ·split at h1
       ·split at h1
        ·split at h1
         ·rename_i hbe
          split at h1
          ·rename_i id hg k' e' l hb _ hk
           injection h1 with h1; injection h1 with h3 h1; injection h1 with _ h1
           have := Nat.eq_of_beq_eq_true hbe
           subst this
           exact .inr ⟨_, _, _, _, h1.symm, ⟨_, by rw [← h3]⟩, by assumption⟩
          ·cases h1
         ·cases h1
        ·cases h1
       ·injection h1 with h1; injection h1 with _ h1; injection h1 with _ h1; exact .inl h1.symm
       ·cases h1
    | cell p ty =>
     simp only [retOne] at h1
     split at h1
     ·split at h1
      ·split at h1
       ·injection h1 with h1; injection h1 with _ h1; injection h1 with _ h1; exact .inl h1.symm
       ·cases h1
      ·cases h1
     ·cases h1
   | succ j =>
    simp only [List.getElem?_cons_succ] at ho ⊢
    exact ih _ h2 j ow ho
  ·cases h
theorem own_idx {i : Nat} : ∀ {os : List (Option Nat)}, i ∈ ownIds os → ∃ j : Nat, os[j]? = some (some i)
 | none :: os, h => by
  obtain ⟨j, hj⟩ := own_idx (os := os) h
  exact ⟨j + 1, hj⟩
 | some k :: os, h => by
  rcases List.mem_cons.1 h with rfl | h
  ·exact ⟨0, rfl⟩
  ·obtain ⟨j, hj⟩ := own_idx h
   exact ⟨j + 1, hj⟩
theorem own_only : ∀ (os : List (Option Nat)) (j : Nat) (ow : Option Nat), os[j]? = some ow → (∀ j', j' ≠ j → ∀ ow', os[j']? = some ow' → ow' = none) → ownIds os = ow.toList
 | [], j, ow, h, _ => by simp at h
 | o :: os, j, ow, h, ho => by
  cases j with
  | zero =>
   simp only [List.getElem?_cons_zero, Option.some.injEq] at h
   subst h
   have hall : ownIds os = [] := by
    cases hos : ownIds os with
    | nil => rfl
    | cons i r =>
     obtain ⟨j, hj⟩ := own_idx (os := os) (i := i) (by rw [hos]; exact List.mem_cons_self)
     cases ho (j + 1) (by omega) _ hj
   cases o <;> simp [ownIds, hall]
  | succ j =>
   simp only [List.getElem?_cons_succ] at h
   have := ho 0 (by omega) o rfl
   subst this
   exact own_only os j ow h fun j' hne ow' h' => ho (j' + 1) (by omega) ow' h'
theorem ret_ok {fn : Func} {vars : List ResultVar} {ms : List RM} {K : List RV → List Int → Option R} {ok : Nat → Prop} {M : Option Nat} {xs : List XV} {us : List Value} {rs0 : List RV} {m0 : List Int} (hT : T.ok P) (hvars : fn.results.toList = vars) (hin : varsIn fn.ntmps vars = true) (hx : XAll w ok M xs us) (hc : countM xs ≤ 1)
  (hfin : ∀ rs m', K rs m' = some r → RImp rs rs0 ∧ m' = m0) (h : retV T vars ms (pinK xs 0) K st = some r) (hs : Sim (frameOf fn.ntmps w ok M xs us) st.fs a w') :
  a.defers = [] ∧ ∃ v, (results fn a.tmps).run P w' = .ok v w' ∧ ∃ G vs, Ending.returned v = .returned (packV vs) ∧ RAll w w' ok G rs0 vs ∧ Fr (fun k => M = some k) w w' ∧ MAll w w' M m0 xs us := by
 obtain ⟨E, hs⟩ := hs
 refine ⟨hs.nod, ?_⟩
 unfold retV at h
 split at h
 ·rename_i rs ids os m' mi hra hme
  split at h
  ·rename_i hchk
   rw [Bool.and_eq_true, Bool.and_eq_true] at hchk
   have hc1 : countO rs ≤ 1 := Nat.le_of_ble_eq_true hchk.1.1
   have hd1 : ∀ i, i ∈ ids → i ∈ ownIds os ++ mi → False := fun i h1 h2 => by
    have := hchk.1.2; rw [meets_of h1 h2] at this; cases this
   have hd2 : ∀ i, i ∈ ownIds os → i ∈ mi → False := fun i h1 h2 => by
    have := hchk.2; rw [meets_of h1 h2] at this; cases this
   obtain ⟨himp, hm0⟩ := hfin _ _ h
   have hp := pin_at xs us 0 hx
   have hmut : ∀ (s : Nat) (b : Option TypeId) (k : IntKind) (e : TypeId) (l : List Int) (u : Value), xs[s]? = some (.m b k e l) → us[s]? = some u → ∃ i x, RowIn w b u x ∧ mi = [i] ∧ st.fs.B i = some (.ints (.num k) e m') ∧ ((E.ν i = true ∧ x = .slice none 0 0 ∧ m' = []) ∨ (E.ν i = false ∧ ∃ cs, x = .slice (some ⟨E.ρ i, 0, none⟩) m'.length cs.size ∧ Lies w' e k m' (E.ρ i) cs)) := by
    intro s b k e l u h1 h2
    rcases hp with ⟨h3, _, _, h4⟩ | ⟨s', b', k', e', l', u', x0, h3, h3k, h4, h5, h6, h7r, h7, h7b, h7n⟩
    ·have := m_count h1; omega
    ·have hss := count_uniq hc h1 h6
     subst hss
     rw [h1] at h6
     injection h6 with h6
     injection h6 with e0 e1 e2 e3
     subst e0; subst e1; subst e2; subst e3
     rw [h2] at h5
     injection h5 with h5
     subst h5
     rw [Nat.zero_add] at h3 h3k
     rw [h3k] at hme
     simp only [mutEnd] at hme
     split at hme
     ·rename_i i hg
      split at hme
      ·rename_i k2 e2 l2 hb
       split at hme
       ·rename_i hbe
        have := Nat.eq_of_beq_eq_true hbe
        subst this
        split at hme
        ·rename_i hk
         subst hk
         injection hme with hme
         injection hme with e1 e3
         subst e1
         have hpin := hs.pin s u (by show (pinAt xs 0).map _ = _; rw [h3]; simp [List.getD_eq_getElem?_getD, h2])
         have hsN : s < fn.ntmps := by
          have := (Array.getElem?_eq_some_iff.1 hpin).1
          have hsz : a.tmps.size = fn.ntmps := hs.size
          omega
         obtain ⟨v, h8, h9⟩ := hs.slot s hsN
         rw [hpin] at h8
         injection h8 with h8
         subst h8
         have hrow : ∃ x, RowIn w b u x ∧ Held E st.fs.B w' (NB (frameOf fn.ntmps w ok M xs us).okk E st.fs.B) (.sli i) x := by
          have h9' : Held E st.fs.B w' (NB (frameOf fn.ntmps w ok M xs us).okk E st.fs.B) (st.get s) u := h9
          unfold rowOf at hg
          split at hg
          ·rename_i hgs
           injection hg with hg
           subst hg
           rw [hgs] at h9'
           exact ⟨u, rfl, h9'⟩
          ·rename_i ty ty' i' hgs
           split at hg
           ·rename_i hbt
            injection hg with hg
            subst hg
            rw [hgs] at h9'
            obtain ⟨g, us', h10, h11, h12, h13, h14⟩ := fp_of h9'
            obtain ⟨x, us2, rfl, h15, h16⟩ := heldL_cons_of h14
            obtain rfl := heldL_nil_of h16
            have hrr := h7r
            obtain ⟨g0, h17, h18⟩ := h7r
            have hgg : g = g0 := by
             rw [h10] at h17
             injection h17 with h17; injection h17 with h17; injection h17
            subst hgg
            have hnM : ¬ ((pinAt xs 0).isSome = true ∧ M = some g) := fun hM => h7n g hM.2 (h7b rfl g h10)
            have h19 := hs.fr.block g (Array.getElem?_eq_some_iff.1 h18).1 hnM
            have h20 : w'.heap[g]? = w.heap[g]? := h19
            rw [h20, h18] at h11
            injection h11 with h11
            injection h11 with h11
            have hxx : x0 = x := by simpa using h11
            subst hxx
            exact ⟨x0, hrr, h15⟩
           ·cases hg
          ·cases hg
         obtain ⟨x, hr1, hr2⟩ := hrow
         refine ⟨i, x, hr1, e3.symm, hb, ?_⟩
         rcases sli_of hs hb hr2 with h10 | ⟨h10, cs, h11, _, h12⟩
         ·exact .inl h10
         ·exact .inr ⟨h10, cs, h11, h12⟩
        ·cases hme
       ·cases hme
      ·cases hme
     ·cases hme
   have hmx : ∀ k, ((pinAt xs 0).isSome = true ∧ M = some k) → ∃ i, mi = [i] ∧ Live E st.fs.B i ∧ E.ρ i = k := by
    rintro k ⟨h1, h2⟩
    rcases hp with ⟨h3, _⟩ | ⟨s, b1, k1, e1, l1, u1, x1, h3, _, h4, h5, h6, h7r, h7, h7b, h8⟩
    ·rw [h3] at h1; cases h1
    ·obtain ⟨i, x, h9r, h9, h10, h11⟩ := hmut s b1 k1 e1 l1 u1 h6 h5
     rw [h2] at h7
     obtain ⟨cs, h12, _⟩ := h7
     have hxx := RowIn.uniq h7r h9r
     subst hxx
     rcases h11 with ⟨_, h13, _⟩ | ⟨h13, cs', h14, _⟩
     ·rw [h12] at h13; cases h13
     ·rw [h12] at h14
      injection h14 with h14
      injection h14 with h14
      injection h14 with h14
      exact ⟨i, h9, ⟨⟨_, h10, by simp⟩, h13⟩, h14.symm⟩
   have hmine : ∀ i, Live E st.fs.B i → (pinAt xs 0).isSome = true ∧ M = some (E.ρ i) → i ∈ mi := fun i hi h1 => by
    obtain ⟨i', h2, h3, h4⟩ := hmx _ h1
    rw [h2, hs.inj i i' hi h3 h4.symm]
    exact List.mem_cons_self
   have hro0 := ret_own ms hra
   obtain ⟨vs, hv, hl1, hl2, hro⟩ := retAll_of (nb' := Lent E st.fs.B (NB (frameOf fn.ntmps w ok M xs us).okk E st.fs.B) ids) hT hs vars ms (varsIn_of hin) hra fun k hk => hk
   have hown : ∀ (j : Nat) (k : EK) (e : TypeId) (l : List Int) (ow : Option Nat), rs[j]? = some (.o k e l) → os[j]? = some ow → ownIds os = ow.toList := by
    intro j k e l ow h1 h2
    refine own_only os j ow h2 fun j' hne ow' ho' => ?_
    rcases hro0 j' ow' ho' with h3 | ⟨id, k', e', l', _, ⟨_, h4⟩, _⟩
    ·exact h3
    ·exact absurd (countO_uniq (os := os) hc1 ⟨_, _, _, h4⟩ ⟨_, _, _, h1⟩) hne
   have hlive0 : ∀ i ∈ ownIds os, ∃ k e l, st.fs.B i = some (.ints k e l) := fun i hi => by
    obtain ⟨j, hj⟩ := own_idx hi
    rcases hro0 j _ hj with h1 | ⟨id, k, e, l, h1, _, h2⟩
    ·cases h1
    ·injection h1 with h1; subst h1; exact ⟨k, e, l, h2⟩
   obtain ⟨G, hG1, hG2, hG3⟩ : ∃ G : Option Nat, (ownIds os = [] → G = none) ∧ (∀ i, ownIds os = [i] → G = if E.ν i = true then none else some (E.ρ i)) ∧ ∀ g, G = some g → ∃ i ∈ ownIds os, Live E st.fs.B i ∧ E.ρ i = g := by
    cases hos : ownIds os with
    | nil => exact ⟨none, fun _ => rfl, fun i hi => (by cases hi), fun g hg => (by cases hg)⟩
    | cons i r =>
     refine ⟨if E.ν i = true then none else some (E.ρ i), (fun h => by cases h), (fun i' hi' => by injection hi' with e1 _; rw [e1]), fun g hg => ?_⟩
     split at hg
     ·cases hg
     ·rename_i hn
      injection hg with hg
      obtain ⟨k, e, l, hb⟩ := hlive0 i (by rw [hos]; exact List.mem_cons_self)
      exact ⟨i, List.mem_cons_self, ⟨⟨_, hb, by simp⟩, by simpa using hn⟩, hg⟩
   have hnbk : ∀ k, Lent E st.fs.B (NB (frameOf fn.ntmps w ok M xs us).okk E st.fs.B) ids k → (ok k ∨ w.heap.size ≤ k) ∧ G ≠ some k := by
    intro k hk
    rcases hk with hk | ⟨i, h1, h2, h3⟩
    ·refine ⟨?_, fun hg => ?_⟩
     ·rcases (hk.1 : ok k ∨ w.heap.size ≤ k ∨ ((pinAt xs 0).isSome = true ∧ M = some k)) with h1 | h1 | h1
      ·exact .inl h1
      ·exact .inr h1
      ·obtain ⟨i, _, h2, h3⟩ := hmx k h1
       exact absurd h3 (hk.2 i h2)
     ·obtain ⟨i, _, h2, h3⟩ := hG3 k hg
      exact hk.2 i h2 h3
    ·refine ⟨?_, fun hg => ?_⟩
     ·rcases hs.own i h2 with h4 | h4
      ·exact .inr (by rw [← h3]; exact h4)
      ·exact (hd1 i h1 (List.mem_append_right _ (hmine i h2 h4))).elim
     ·obtain ⟨i', h4, h5, h6⟩ := hG3 k hg
      have := hs.inj i i' h2 h5 (h3.trans h6.symm)
      subst this
      exact hd1 i h1 (List.mem_append_left _ h4)
   have hlen : vs.length = vars.length := by
    have : ∀ {vars : List ResultVar} {vs : List Value}, Vals P a.tmps w' vars vs → vs.length = vars.length := by
     intro vars vs h
     induction h with
     | nil => rfl
     | tmp _ ih => simp [ih]
     | cell _ _ _ _ _ _ _ _ _ _ _ ih => simp [ih]
    exact this hv
   have hfr : fn.results = vars.toArray := arr_of hvars
   refine ⟨packV vs, ?_, G, vs, rfl, rall_imp himp ?_, ?_, ?_⟩
   ·match vs, vars, hv, hlen, hfr with
    | [v], [x], hv, _, hfr => exact results_single hfr hv
    | [], [], hv, _, hfr => exact results_list hfr (by simp) hv
    | v1 :: v2 :: vs, vars, hv, _, hfr => exact results_list hfr (by simp) hv
   ·refine rall_of hnbk rs os vs hl1 hl2 hro fun j ow k e l u h1 h2 h3 => ?_
    have h4 := hown j k e l ow h1 h2
    refine ⟨?_, fun g hg => ?_⟩
    ·cases ow with
     | none =>
      have hg0 := hG1 h4
      subst hg0
      exact h3
     | some id =>
      have hg0 := hG2 id h4
      obtain ⟨hkk, h5, h6 | ⟨h6, c, h7, h8⟩⟩ := h3
      ·rw [if_pos h6.1] at hg0
       subst hg0
       exact ⟨hkk, h6.2.1, h6.2.2⟩
      ·rw [if_neg (by rw [h6]; simp)] at hg0
       subst hg0
       exact ⟨hkk, c, h7, h8.move rfl (Nat.le_refl _) fun q hq _ => ⟨rfl, hnbk q hq⟩⟩
    ·obtain ⟨i, h5, h6, h7⟩ := hG3 g hg
     rcases hs.own i h6 with h8 | h8
     ·rw [← h7]; exact h8
     ·exact (hd2 i h5 (hmine i h6 h8)).elim
   ·exact ⟨hs.fr.os, hs.fr.tape, hs.fr.output, hs.fr.size, fun k hk hM => hs.fr.block k hk fun h => hM h.2⟩
   ·refine mall_at hx fun s b k e l u h1 h2 => ?_
    obtain ⟨i, x, h3r, h3, h4, h5⟩ := hmut s b k e l u h1 h2
    rw [← hm0]
    refine ⟨x, h3r, ?_⟩
    rcases hp with ⟨h6, _, _, h7⟩ | ⟨s', b', k', e', l', u', x', h6, _, _, h8, h9, h10r, h10, _⟩
    ·have := m_count h1; omega
    ·have hss := count_uniq hc h1 h9
     subst hss
     rw [h1] at h9
     injection h9 with h9
     injection h9 with e0 e1 e2 e3
     subst e0; subst e1; subst e2; subst e3
     rw [h2] at h8
     injection h8 with h8
     subst h8
     have hxx := RowIn.uniq h3r h10r
     subst hxx
     cases hM : M with
     | none =>
      rw [hM] at h10
      rcases h5 with ⟨_, h11, h12⟩ | ⟨_, cs, h11, _⟩
      ·exact ⟨h11, h12⟩
      ·rw [h10.1] at h11; cases h11
     | some g =>
      rw [hM] at h10
      obtain ⟨cs0, h13, _⟩ := h10
      rcases h5 with ⟨_, h11, h12⟩ | ⟨_, cs, h11, h12⟩
      ·rw [h13] at h11; cases h11
      ·have hg : g = E.ρ i := by
        rw [h13] at h11
        injection h11 with h11
        injection h11 with h11
        injection h11
       subst hg
       exact ⟨cs, h11, h12⟩
  ·cases h
 ·cases h
end
section
variable {P : Program} {R : Type} {r : R}
theorem frame_pin {N : Nat} {w : World} {ok : Nat → Prop} {M : Option Nat} {xs : List XV} {us : List Value} : (frameOf N w ok M xs us).pin.map Prod.fst = pinAt xs 0 := by
 show ((pinAt xs 0).map _).map _ = _
 cases pinAt xs 0 <;> rfl
theorem fn_ok {f : FuncId} {fn : Func} {c : Code} {vars : List ResultVar} {ms : List RM} {Kf : List RV → List Int → Option R} {xs : List XV} {rs0 : List RV} {m0 : List Int}
  (hfn : P.funcs[f]? = some fn) (hb : fn.body = some c) (hname : (fn.name == "runtime.NumGoroutine") = false) (hmo : P.follows .mixedOrders = true) (hvars : fn.results.toList = vars) (hin : varsIn fn.ntmps vars = true)
  (hlen : xs.length ≤ fn.ntmps) (hc : countM xs ≤ 1) (G : Nat → Cfg R) (hT : ∀ k, (G k).T.ok P) (hS : ∀ k g s, (G k).S g = some s → s.ok P g) (hN : ∀ k, (G k).N = fn.ntmps) (hpn : ∀ k, (G k).pn = pinAt xs 0)
  (hk : ∀ k key, keepOf (G k) key = keepOf (G 0) key) (h0 : ∀ key vs, (G 0).F key vs ≠ some r) {T : TT} (hT0 : T.ok P)
  (hs : ∀ k, ∀ p ∈ occs (G k) c (Kmain (retV T vars ms (pinK xs 0) Kf)), ∀ keep vs, keepOf (G 0) p.1 = some keep → (G (k + 1)).F p.1 vs = some r → p.2 (build keep vs) = some r)
  (hfin : ∀ rs m', Kf rs m' = some r → RImp rs rs0 ∧ m' = m0) (k : Nat) (h : run (G k) c (initSt xs) (Kmain (retV T vars ms (pinK xs 0) Kf)) = some r) : QC P f xs rs0 m0 := by
 refine ⟨⟨fn, hfn, hname, by rw [hb]; rfl⟩, fun ok M w us hgl hx => calls_of_wp hfn hb ?_⟩
 have hf : ∀ k, Fit P (frameOf fn.ntmps w ok M xs us) (G k) := fun k => ⟨hT k, hS k, (hN k).symm, by rw [hpn k]; exact frame_pin, hmo⟩
 have hrel : Rel (frameOf fn.ntmps w ok M xs us) r (Kmain (retV T vars ms (pinK xs 0) Kf)) (bodyPost P fn fun e w' => ∃ G vs, e = .returned (packV vs) ∧ RAll w w' ok G rs0 vs ∧ Fr (fun k => M = some k) w w' ∧ MAll w w' M m0 xs us) := by
  intro e st a w' he hsim
  cases e with
  | ret => exact ret_ok hT0 hvars hin hx hc hfin he hsim
  | normal => exact ret_ok hT0 hvars hin hx hc hfin he hsim
  | _ => cases he
 exact run_ok (hf k) c _ _ _ _ _ (places G hf hk h0 hs hrel k) hrel h (init_sim hgl hx hlen hc)
end
inductive AK where
 | nil
 | p (s : SK) (r : AK)
 | m (b : Option TypeId) (k : IntKind) (e : TypeId) (r : AK)
def AK.T : AK → Type
 | .nil => Unit
 | .p s r => s.T × r.T
 | .m _ _ _ r => List Int × r.T
def AK.put : (A : AK) → A.T → List XV
 | .nil, _ => []
 | .p s r, t => .p (s.put t.1) :: r.put t.2
 | .m b k e r, t => .m b k e t.1 :: r.put t.2
def beqO : Option Nat → Option Nat → Bool
 | none, none => true
 | some a, some b => Nat.beq a b
 | _, _ => false
theorem beqO_eq {a b : Option Nat} (h : beqO a b = true) : a = b := by
 cases a <;> cases b <;> first | rfl | cases h | exact congrArg some (Nat.eq_of_beq_eq_true h)
def AK.get : (A : AK) → List XV → Option A.T
 | .nil, l => (match l with
  | [] => some ()
  | _ :: _ => none)
 | .p s r, l => (match l with
  | .p a :: l => (match s.get a, r.get l with
   | some t, some u => some (t, u)
   | _, _ => none)
  | _ => none)
 | .m b k e r, l => (match l with
  | .m b' k' e' x :: l => (match Nat.beq e' e, beqO b' b with
   | true, true => (match r.get l with
    | some u => if k' = k then some (x, u) else none
    | none => none)
   | _, _ => none)
  | _ => none)
def AK.on {R : Type} : (A : AK) → A.T → (List XV → Option R) → Option R
 | .nil, _, K => K []
 | .p s r, t, K => s.on t.1 fun a => r.on t.2 fun l => K (.p a :: l)
 | .m b k e r, t, K => r.on t.2 fun l => K (.m b k e t.1 :: l)
def AK.muts : AK → List Bool
 | .nil => []
 | .p _ r => false :: r.muts
 | .m _ _ _ r => true :: r.muts
def AK.pin : AK → Nat → Option Nat
 | .nil, _ => none
 | .p _ r, j => r.pin (j + 1)
 | .m _ _ _ _, j => some j
def AK.pinK : AK → Nat → Option (Nat × Option TypeId × IntKind × TypeId)
 | .nil, _ => none
 | .p _ r, j => r.pinK (j + 1)
 | .m b k e _, j => some (j, b, k, e)
def AK.count : AK → Nat
 | .nil => 0
 | .p _ r => r.count
 | .m _ _ _ r => r.count + 1
def AK.len : AK → Nat
 | .nil => 0
 | .p _ r => r.len + 1
 | .m _ _ _ r => r.len + 1
inductive RK where
 | nil
 | p (s : SK) (r : RK)
 | o (k : EK) (e : TypeId) (r : RK)
def SK.heap : SK → Bool
 | .int _ => false
 | .bool => false
 | .str => false
 | .nil => false
 | .agg l => l.heap
 | .cons a b => (match a.heap with
  | true => true
  | false => b.heap)
 | .row _ => true
 | .rows _ => true
 | .fp _ _ => true
 | .np _ _ => true
 | .clo _ _ => true
 | .sl _ => true
 | .pt _ _ => true
 | .any => true
def RK.heap : RK → Bool
 | .nil => false
 | .p s r => (match s.heap with
  | true => true
  | false => r.heap)
 | .o k _ r => (match k.inner with
  | true => true
  | false => r.heap)
def RK.T : RK → Type
 | .nil => Unit
 | .p s r => s.T × r.T
 | .o _ _ r => List Int × r.T
def RK.put : (A : RK) → A.T → List RV
 | .nil, _ => []
 | .p s r, t => .p (s.put t.1) :: r.put t.2
 | .o k e r, t => .o k e t.1 :: r.put t.2
def RK.get : (A : RK) → List RV → Option A.T
 | .nil, l => (match l with
  | [] => some ()
  | _ :: _ => none)
 | .p s r, l => (match l with
  | .p a :: l => (match s.get a, r.get l with
   | some t, some u => some (t, u)
   | _, _ => none)
  | _ => none)
 | .o k e r, l => (match l with
  | .o k' e' x :: l => (match Nat.beq e' e with
   | true => (match r.get l with
    | some u => if k' = k then some (x, u) else none
    | none => none)
   | false => none)
  | _ => none)
def RK.on {R : Type} : (A : RK) → A.T → (List RV → Option R) → Option R
 | .nil, _, K => K []
 | .p s r, t, K => s.on t.1 fun a => r.on t.2 fun l => K (.p a :: l)
 | .o k e r, t, K => r.on t.2 fun l => K (.o k e t.1 :: l)
def RK.ms : RK → List RM
 | .nil => []
 | .p _ r => .p :: r.ms
 | .o k e r => .o k e :: r.ms
theorem AK.on_eq {R : Type} : ∀ (A : AK) (t : A.T) (K : List XV → Option R), A.on t K = K (A.put t)
 | .nil, _, K => rfl
 | .p s r, t, K => by unfold AK.on AK.put; rw [SK.on_eq, AK.on_eq r]
 | .m b k e r, t, K => by unfold AK.on AK.put; rw [AK.on_eq r]
theorem RK.on_eq {R : Type} : ∀ (A : RK) (t : A.T) (K : List RV → Option R), A.on t K = K (A.put t)
 | .nil, _, K => rfl
 | .p s r, t, K => by unfold RK.on RK.put; rw [SK.on_eq, RK.on_eq r]
 | .o k e r, t, K => by unfold RK.on RK.put; rw [RK.on_eq r]
theorem AK.pin_put : ∀ (A : AK) (t : A.T) (j : Nat), pinAt (A.put t) j = A.pin j
 | .nil, _, j => rfl
 | .p s r, t, j => by unfold AK.put AK.pin pinAt; exact AK.pin_put r t.2 (j + 1)
 | .m b k e r, t, j => rfl
theorem AK.pinK_put : ∀ (A : AK) (t : A.T) (j : Nat), E.pinK (A.put t) j = A.pinK j
 | .nil, _, j => rfl
 | .p s r, t, j => by unfold AK.put AK.pinK E.pinK; exact AK.pinK_put r t.2 (j + 1)
 | .m b k e r, t, j => rfl
theorem AK.count_put : ∀ (A : AK) (t : A.T), countM (A.put t) = A.count
 | .nil, _ => rfl
 | .p s r, t => by unfold AK.put AK.count countM; exact AK.count_put r t.2
 | .m b k e r, t => by unfold AK.put AK.count countM; rw [AK.count_put r t.2]
theorem AK.len_put : ∀ (A : AK) (t : A.T), (A.put t).length = A.len
 | .nil, _ => rfl
 | .p s r, t => by unfold AK.put AK.len; rw [List.length_cons, AK.len_put r t.2]
 | .m b k e r, t => by unfold AK.put AK.len; rw [List.length_cons, AK.len_put r t.2]
theorem RK.get_imp : ∀ (A : RK) {l : List RV} {t : A.T}, A.get l = some t → RImp l (A.put t)
 | .nil, l, t, h => by
  unfold RK.get at h
  cases l with
  | nil => trivial
  | cons x l => cases h
 | .p s r, l, t, h => by
  unfold RK.get at h
  cases l with
  | nil => cases h
  | cons x l =>
   cases x with
   | o k e y => cases h
   | p a =>
    simp only at h
    split at h
    ·rename_i t1 t2 h1 h2
     injection h with h
     subst h
     exact ⟨fun W v hd => SK.get_den s h1 hd, RK.get_imp r h2⟩
    ·cases h
 | .o k e r, l, t, h => by
  unfold RK.get at h
  cases l with
  | nil => cases h
  | cons x l =>
   cases x with
   | p a => cases h
   | o k' e' y =>
    simp only at h
    split at h
    ·rename_i hb
     split at h
     ·rename_i u hu
      split at h
      ·rename_i hk
       injection h with h
       subst h
       exact ⟨⟨hk, Nat.eq_of_beq_eq_true hb, rfl⟩, RK.get_imp r hu⟩
      ·cases h
     ·cases h
    ·cases h
theorem AK.get_all {w : World} {ok : Nat → Prop} {M : Option Nat} : ∀ (A : AK) {l : List XV} {t : A.T} {us : List Value}, A.get l = some t → XAll w ok M l us → XAll w ok M (A.put t) us ∧ ∀ w' m', MAll w w' M m' (A.put t) us → MAll w w' M m' l us
 | .nil, l, t, us, h, hx => by
  unfold AK.get at h
  cases l with
  | nil => exact ⟨hx, fun _ _ h => h⟩
  | cons x l => cases h
 | .p s r, l, t, us, h, hx => by
  unfold AK.get at h
  cases l with
  | nil => cases h
  | cons x l =>
   cases x with
   | m b k e y => cases h
   | p a =>
    simp only at h
    split at h
    ·rename_i t1 t2 h1 h2
     injection h with h
     subst h
     cases us with
     | nil => exact hx.elim
     | cons u us =>
      obtain ⟨h3, h4⟩ := AK.get_all r h2 hx.2
      exact ⟨⟨fun W' hW => SK.get_den s h1 (hx.1 W' hW), h3⟩, fun w' m' hm => h4 w' m' hm⟩
    ·cases h
 | .m b k e r, l, t, us, h, hx => by
  unfold AK.get at h
  cases l with
  | nil => cases h
  | cons x l =>
   cases x with
   | p a => cases h
   | m b' k' e' y =>
    simp only at h
    split at h
    ·rename_i hb hbo
     have := beqO_eq hbo
     subst this
     split at h
     ·rename_i u hu
      split at h
      ·rename_i hk
       injection h with h
       subst h; subst hk
       have := Nat.eq_of_beq_eq_true hb
       subst this
       cases us with
       | nil => exact hx.elim
       | cons v us =>
        obtain ⟨h3, h4⟩ := AK.get_all r hu hx.2
        exact ⟨⟨hx.1, h3⟩, fun w' m' hm => ⟨hm.1, h4 w' m' hm.2⟩⟩
      ·cases h
     ·cases h
    ·cases h
section
variable {P : Program} {R β : Type}
def Does (P : Program) (f : FuncId) (A : AK) (Q : RK) (g : A.T → Option β) (h : β → Q.T × List Int) : Prop := ∀ x b, g x = some b → QC P f (A.put x) (Q.put (h b).1) (h b).2
def told (R : Type) (A : AK) (Q : RK) (g : A.T → Option β) (h : β → Q.T × List Int) : Spec R := ⟨A.muts, Q.heap && Nat.beq A.count 0, fun xs K => match A.get xs with
 | some x => (g x).bind fun b => Q.on (h b).1 fun rs => K rs (h b).2
 | none => none, none⟩
theorem told_ok {f : FuncId} {A : AK} {Q : RK} {g : A.T → Option β} {h : β → Q.T × List Int} (hd : Does P f A Q g h) : (told R A Q g h).ok P f := by
 refine ⟨?_, fun g hg => by cases hg⟩
 intro xs K r hr
 unfold told at hr
 simp only at hr
 split at hr
 ·rename_i x hx
  cases hg : g x with
  | none => rw [hg] at hr; cases hr
  | some b =>
   rw [hg] at hr
   have h1 : Q.on (h b).1 (fun rs => K rs (h b).2) = some r := hr
   rw [RK.on_eq] at h1
   refine ⟨_, _, h1, ?_⟩
   obtain ⟨h2, h3⟩ := hd x b hg
   refine ⟨h2, fun ok M w us hgl hxs => ?_⟩
   obtain ⟨h4, h5⟩ := AK.get_all A hx hxs
   exact fun cs => (h3 ok M w us hgl h4 cs).elim fun e h6 => h6.elim fun w' h7 => h7.elim fun fr h8 => ⟨e, w', fr, h8.1.elim fun G h9 => h9.elim fun vs a => ⟨G, vs, a.1, a.2.1, a.2.2.1, h5 w' _ a.2.2.2⟩, h8.2⟩
 ·cases hr
def TabOk (P : Program) : List (Nat × Spec R) → Prop
 | [] => True
 | p :: r => p.2.ok P p.1 ∧ TabOk P r
theorem tab_look {f : Nat} {s : Spec R} : ∀ {l : List (Nat × Spec R)}, TabOk P l → look f l = some s → s.ok P f
 | [], _, h => by cases h
 | (g, t) :: l, h, hl => by
  unfold look at hl
  split at hl
  ·rename_i hb
   injection hl with hl
   subst hl
   rw [Nat.eq_of_beq_eq_true hb]
   exact h.1
  ·exact tab_look h.2 hl
end
structure Decl (β : Type) where
 c : Code
 N : Nat
 vars : List ResultVar
 A : AK
 Q : RK
 u : Q.T → List Int → β
 T : TT
 cutR : List (Nat × List (Nat × KM))
 cutL : List (Nat × List (Nat × KM))
 fz : List (Nat × List Nat)
section
variable {P : Program} {β : Type}
def Decl.G (D : Decl β) (S : List (Nat × Spec β)) (F : Nat → List CV → Option β) : Cfg β := ⟨D.T, fun f => look f S, D.N, D.A.pin 0, fun n => look n D.cutR, fun n => look n D.cutL, fun n => (look n D.fz).getD [], F⟩
def finOk : Nat → List Int → Bool
 | 0, [] => true
 | 0, _ :: _ => false
 | _ + 1, _ => true
theorem finOk_of {n : Nat} {m : List Int} (h : finOk n m = true) (h0 : n = 0) : m = [] := by
 subst h0
 cases m with
 | nil => rfl
 | cons a l => cases h
def Decl.fin (D : Decl β) (rs : List RV) (m : List Int) : Option β := match D.Q.get rs with
 | some y => (match finOk D.A.count m with
  | true => some (D.u y m)
  | false => none)
 | none => none
def Decl.K (D : Decl β) : Exit → St → Option β := Kmain (retV D.T D.vars D.Q.ms (D.A.pinK 0) D.fin)
def Decl.keep (D : Decl β) (key : Nat) : Option (List (Nat × KM)) := if key % 2 = 0 then look (key / 2) D.cutR else look (key / 2) D.cutL
noncomputable def Decl.F (D : Decl β) (S : Nat → List (Nat × Spec β)) : Nat → Nat → List CV → Option β
 | 0 => fun _ _ => none
 | k + 1 => fun key vs => match D.keep key, look key (occs (D.G (S k) (Decl.F D S k)) D.c D.K) with
  | some keep, some q => q (build keep vs)
  | _, _ => none
noncomputable def Decl.val (D : Decl β) (S : Nat → List (Nat × Spec β)) (k : Nat) (x : D.A.T) : Option β := D.A.on x fun xs => run (D.G (S k) (D.F S k)) D.c (initSt xs) D.K
def keysOf : Code → List Nat
 | .region id _ _ => [2 * id]
 | .seq x y => keysOf x ++ keysOf y
 | .cond _ x y => keysOf x ++ keysOf y
 | .block _ x => keysOf x
 | .loop x => (2 * nameOf x + 1) :: keysOf x
 | .scope x => ((labs x).map fun l => 2 * (1000 + l) + 1) ++ keysOf x
 | _ => []
theorem occs_keys {R : Type} {G : Cfg R} : ∀ (c : Code) (K : Exit → St → Option R), (occs G c K).map Prod.fst = keysOf c
 | .region id ops draw, K => rfl
 | .seq x y, K => by unfold occs keysOf; rw [List.map_append, occs_keys x, occs_keys y]
 | .cond _ x y, K => by unfold occs keysOf; rw [List.map_append, occs_keys x, occs_keys y]
 | .block _ x, K => by unfold occs keysOf; rw [occs_keys x]
 | .loop x, K => by unfold occs keysOf; rw [List.map_cons, occs_keys x]
 | .skip, _ => rfl
 | .label _, _ => rfl
 | .exit _, _ => rfl
 | .ret, _ => rfl
 | .rangeFunc _ _ _ _, _ => rfl
 | .scope x, K => by unfold occs keysOf; rw [List.map_append, occs_keys x, List.map_map]; rfl
 | .goto _, _ => rfl
 | .refuse _, _ => rfl
theorem look_nodup {α : Type} : ∀ {l : List (Nat × α)} {p : Nat × α}, (l.map Prod.fst).Nodup → p ∈ l → look p.1 l = some p.2
 | (n, x) :: l, p, hn, hp => by
  rcases List.mem_cons.1 hp with h | h
  ·subst h
   simp [look]
  ·have hne : Nat.beq p.1 n = false := by
    cases hb : Nat.beq p.1 n with
    | false => rfl
    | true =>
     have := Nat.eq_of_beq_eq_true hb
     rw [List.map_cons] at hn
     exact absurd (this ▸ List.mem_map_of_mem (f := Prod.fst) h : n ∈ l.map Prod.fst) (List.nodup_cons.1 hn).1
   unfold look
   rw [hne]
   exact look_nodup (List.nodup_cons.1 hn).2 h
structure Decl.Fits (D : Decl β) (P : Program) (f : FuncId) (fn : Func) : Prop where
 at_ : P.funcs[f]? = some fn
 body : fn.body = some D.c
 name : (fn.name == "runtime.NumGoroutine") = false
 mo : P.follows .mixedOrders = true
 vars : fn.results.toList = D.vars
 N : fn.ntmps = D.N
 T : D.T.ok P
 chk : (varsIn D.N D.vars && Nat.ble D.A.len D.N && Nat.ble D.A.count 1 && nodupB (keysOf D.c)) = true
theorem Decl.does {D : Decl β} {f : FuncId} {fn : Func} (hf : D.Fits P f fn) {S : Nat → List (Nat × Spec β)} (hS : ∀ k, TabOk P (S k)) {h : β → D.Q.T × List Int} (hu : ∀ y m, (D.A.count = 0 → m = []) → h (D.u y m) = (y, m)) (k : Nat) : Does P f D.A D.Q (D.val S k) h := by
 intro x b hb
 have hc := hf.chk
 simp only [Bool.and_eq_true] at hc
 obtain ⟨⟨⟨h1, h2⟩, h3⟩, h4⟩ := hc
 unfold Decl.val at hb
 rw [AK.on_eq] at hb
 refine fn_ok (Kf := D.fin) (ms := D.Q.ms) (T := D.T) hf.at_ hf.body hf.name hf.mo hf.vars (by rw [hf.N]; exact h1) (by rw [AK.len_put, hf.N]; exact Nat.le_of_ble_eq_true h2) (by rw [AK.count_put]; exact Nat.le_of_ble_eq_true h3) (fun k => D.G (S k) (D.F S k)) (fun _ => hf.T) (fun k g s hg => tab_look (hS k) hg) (fun _ => hf.N.symm) (fun _ => (AK.pin_put D.A x 0).symm) (fun _ _ => rfl) (fun key vs h => (by cases (h : none = some b))) hf.T ?_ ?_ k ?_
 ·intro k p hp keep vs hk hF
  have hn : ((occs (D.G (S k) (D.F S k)) D.c D.K).map Prod.fst).Nodup := by rw [occs_keys]; exact nodup_of h4
  have hp' : p ∈ occs (D.G (S k) (D.F S k)) D.c D.K := by
   have : D.K = Kmain (retV D.T D.vars D.Q.ms (E.pinK (D.A.put x) 0) D.fin) := by unfold Decl.K; rw [AK.pinK_put]
   rw [this]; exact hp
  have hl := look_nodup hn hp'
  have hF' : D.F S (k + 1) p.1 vs = some b := hF
  have hk' : D.keep p.1 = some keep := hk
  unfold Decl.F at hF'
  simp only [hk', hl] at hF'
  exact hF'
 ·intro rs m' hr
  unfold Decl.fin at hr
  split at hr
  ·rename_i y hy
   split at hr
   ·rename_i hm
    injection hr with hr
    subst hr
    rw [hu y m' (finOk_of hm)]
    exact ⟨RK.get_imp D.Q hy, rfl⟩
   ·cases hr
  ·cases hr
 ·have : D.K = Kmain (retV D.T D.vars D.Q.ms (E.pinK (D.A.put x) 0) D.fin) := by unfold Decl.K; rw [AK.pinK_put]
  rw [← this]; exact hb
end
def udOf : TypeDesc → Option UD
 | .int k => some (.int k)
 | .bool => some .bool
 | .string => some .str
 | .pointer e => some (.ptr e)
 | .slice e => some (.slice e)
 | .struct fs => some (.struct (fs.toList.map fun f => (f.type, f.offset)))
 | .array n e => some (.array n e)
 | .map k e => some (.map k e)
 | _ => none
def undOf (P : Program) : List Nat → List (Nat × UD)
 | [] => []
 | t :: r => match P.underlying t with
  | some d => (match udOf d with
   | some u => (t, u) :: undOf P r
   | none => undOf P r)
  | none => undOf P r
def infOf (P : Program) : List Nat → List (Nat × (Nat × Nat × List Value))
 | [] => []
 | t :: r => match P.info? t with
  | some i => (match i.zero with
   | some z => (t, (i.size, i.bytes, z.cells.toList)) :: infOf P r
   | none => infOf P r)
  | none => infOf P r
def zerOf (P : Program) : List Nat → List (Nat × Value)
 | [] => []
 | t :: r => match P.info? t with
  | some i => (match i.zero with
   | some z => (t, z) :: zerOf P r
   | none => zerOf P r)
  | none => zerOf P r
def TT.of (P : Program) (ids : List Nat) (ext : List (Nat × Bool)) : TT := ⟨undOf P ids, infOf P ids, ext, zerOf P ids⟩
section
variable {P : Program}
theorem und_of {t : Nat} {d : UD} : ∀ {ids : List Nat}, look t (undOf P ids) = some d → d.ok P t
 | [], h => by cases h
 | i :: r, h => by
  unfold undOf at h
  split at h
  ·rename_i d' hd
   split at h
   ·rename_i u hu
    unfold look at h
    split at h
    ·rename_i hb
     injection h with h
     subst h
     rw [Nat.eq_of_beq_eq_true hb]
     unfold udOf at hu
     split at hu
     all_goals first
      | (injection hu with hu; subst hu; exact hd)
      | (injection hu with hu; subst hu; exact ⟨_, hd, rfl⟩)
      | cases hu
    ·exact und_of h
   ·exact und_of h
  ·exact und_of h
theorem inf_of {t : Nat} {x : Nat × Nat × List Value} : ∀ {ids : List Nat}, look t (infOf P ids) = some x → ∃ i z, P.info? t = some i ∧ i.size = x.1 ∧ i.bytes = x.2.1 ∧ i.zero = some z ∧ z.cells.toList = x.2.2
 | [], h => by cases h
 | i :: r, h => by
  unfold infOf at h
  split at h
  ·rename_i d' hd
   split at h
   ·rename_i z hz
    unfold look at h
    split at h
    ·rename_i hb
     injection h with h
     subst h
     rw [Nat.eq_of_beq_eq_true hb]
     exact ⟨_, _, hd, rfl, rfl, hz, rfl⟩
    ·exact inf_of h
   ·exact inf_of h
  ·exact inf_of h
theorem zer_of {t : Nat} {z : Value} : ∀ {ids : List Nat}, look t (zerOf P ids) = some z → ∃ i, P.info? t = some i ∧ i.zero = some z
 | [], h => by cases h
 | j :: r, h => by
  unfold zerOf at h
  split at h
  ·rename_i i hi
   split at h
   ·rename_i z' hz
    unfold look at h
    split at h
    ·rename_i hb
     injection h with h
     subst h
     rw [Nat.eq_of_beq_eq_true hb]
     exact ⟨i, hi, hz⟩
    ·exact zer_of h
   ·exact zer_of h
  ·exact zer_of h
def ExAll (P : Program) : List (Nat × Bool) → Prop
 | [] => True
 | p :: r => ExOk P p.1 p.2 ∧ ExAll P r
theorem ex_look {f : Nat} {b : Bool} : ∀ {l : List (Nat × Bool)}, ExAll P l → look f l = some b → ExOk P f b
 | [], _, h => by cases h
 | (g, c) :: l, h, hl => by
  unfold look at hl
  split at hl
  ·rename_i hb
   injection hl with hl
   subst hl
   rw [Nat.eq_of_beq_eq_true hb]
   exact h.1
  ·exact ex_look h.2 hl
theorem TT.of_ok (ids : List Nat) {ext : List (Nat × Bool)} (he : ExAll P ext) : (TT.of P ids ext).ok P := ⟨fun _ _ h => und_of h, fun _ _ h => inf_of h, fun _ _ h => ex_look he h, fun _ _ h => zer_of h⟩
def adEntry : Array Value → Sem Value := fun args => do
 let (x, y, c) ← Extern.MathBitsCarry.three "Add64" args
 pure (Extern.MathBitsCarry.pair ((x + y + c) % Extern.MathBitsCarry.m64) ((x + y + c) / Extern.MathBitsCarry.m64))
def sbEntry : Array Value → Sem Value := fun args => do
 let (x, y, b) ← Extern.MathBitsCarry.three "Sub64" args
 pure (Extern.MathBitsCarry.pair ((x + Extern.MathBitsCarry.m64 - y - b) % Extern.MathBitsCarry.m64) (if x < y + b then 1 else 0))
theorem adRun0 (x y c : Int) (h : c ≤ 1) (w : World) : (adEntry #[.int .u64 x, .int .u64 y, .int .u64 c]).run P w = .ok (.tuple #[.int .u64 (adS x y c), .int .u64 (adC x y c)]) w := by
 cases c with
 | ofNat k =>
  have : k = 0 ∨ k = 1 := by simp at h; omega
  rcases this with rfl | rfl <;> rw [adS_eq, adC_eq] <;> rfl
 | negSucc k => rw [adS_eq, adC_eq]; rfl
theorem sbRun0 (x y c : Int) (h : c ≤ 1) (w : World) : (sbEntry #[.int .u64 x, .int .u64 y, .int .u64 c]).run P w = .ok (.tuple #[.int .u64 (sbS x y c), .int .u64 (sbC x y c)]) w := by
 cases c with
 | ofNat k =>
  have : k = 0 ∨ k = 1 := by simp at h; omega
  rcases this with rfl | rfl <;> rw [sbS_eq, sbC_eq] <;> rfl
 | negSucc k => rw [sbS_eq, sbC_eq]; rfl
end
end Go.Proofs.YtkoeddgbhohggaaGreatDoor.E
end
section
namespace Go.Proofs
open Go.Shelf
def Tryd.lays264_ren : Go.Shelf.Ren := ⟨fun | 264 => 65 | n => n, fun | 53 => 23 | 46 => 85 | n => n, fun | n => n⟩
theorem Tryd.lays264 : Go.Proofs.Lays.n264 Tryz.prog Tryd.lays264_ren := {
 mixed := by kernel_rfl
 f264 := Tryz.func65.trans (congrArg some (by kernel_rfl))
 t46 := Tryz.underlying85
 a46 := Tryz.isAgg85
 z46 := Tryz.sizeOf85
 v46 := Tryz.zeroValue85
 t53 := Tryz.underlying23
 a53 := Tryz.isAgg23
 z53 := Tryz.sizeOf23
 v53 := Tryz.zeroValue23 }
def Tryd.lays129_ren : Go.Shelf.Ren := ⟨fun | 129 => 93 | n => n, fun | 53 => 23 | 3 => 3 | 4 => 4 | 46 => 85 | 5 => 5 | 9 => 9 | n => n, fun | n => n⟩
theorem Tryd.lays129 : Go.Proofs.Lays.n129 Tryz.prog Tryd.lays129_ren := {
 mixed := by kernel_rfl
 f129 := Tryz.func93.trans (congrArg some (by kernel_rfl))
 t3 := Tryz.underlying3
 a3 := Tryz.isAgg3
 z3 := Tryz.sizeOf3
 v3 := Tryz.zeroValue3
 t4 := Tryz.underlying4
 a4 := Tryz.isAgg4
 z4 := Tryz.sizeOf4
 v4 := Tryz.zeroValue4
 t5 := Tryz.underlying5
 a5 := Tryz.isAgg5
 z5 := Tryz.sizeOf5
 v5 := Tryz.zeroValue5
 t9 := Tryz.underlying9
 a9 := Tryz.isAgg9
 z9 := Tryz.sizeOf9
 v9 := Tryz.zeroValue9
 t46 := Tryz.underlying85
 a46 := Tryz.isAgg85
 z46 := Tryz.sizeOf85
 v46 := Tryz.zeroValue85
 t53 := Tryz.underlying23
 a53 := Tryz.isAgg23
 z53 := Tryz.sizeOf23
 v53 := Tryz.zeroValue23 }
def Tryd.lays134_ren : Go.Shelf.Ren := ⟨fun | 134 => 78 | 129 => 93 | n => n, fun | 53 => 23 | 3 => 3 | 4 => 4 | 46 => 85 | 5 => 5 | 9 => 9 | n => n, fun | n => n⟩
theorem Tryd.lays134 : Go.Proofs.Lays.n134 Tryz.prog Tryd.lays134_ren := {
 mixed := by kernel_rfl
 f129 := Tryz.func93.trans (congrArg some (by kernel_rfl))
 f134 := Tryz.func78.trans (congrArg some (by kernel_rfl))
 t3 := Tryz.underlying3
 a3 := Tryz.isAgg3
 z3 := Tryz.sizeOf3
 v3 := Tryz.zeroValue3
 t4 := Tryz.underlying4
 a4 := Tryz.isAgg4
 z4 := Tryz.sizeOf4
 v4 := Tryz.zeroValue4
 t5 := Tryz.underlying5
 a5 := Tryz.isAgg5
 z5 := Tryz.sizeOf5
 v5 := Tryz.zeroValue5
 t9 := Tryz.underlying9
 a9 := Tryz.isAgg9
 z9 := Tryz.sizeOf9
 v9 := Tryz.zeroValue9
 t46 := Tryz.underlying85
 a46 := Tryz.isAgg85
 z46 := Tryz.sizeOf85
 v46 := Tryz.zeroValue85
 t53 := Tryz.underlying23
 a53 := Tryz.isAgg23
 z53 := Tryz.sizeOf23
 v53 := Tryz.zeroValue23 }
def Tryd.layss29_ren : Go.Shelf.Ren := ⟨fun | 29 => 116 | n => n, fun | 22 => 23 | 3 => 3 | 4 => 4 | 25 => 85 | 54 => 152 | 0 => 0 | 5 => 5 | n => n, fun | 1 => 2 | n => n⟩
theorem Tryd.layss29 : Go.Proofs.Lays7.n29 Tryz.prog Tryd.layss29_ren := {
 mixed := by kernel_rfl
 f29 := Tryz.func116.trans (congrArg some (by kernel_rfl))
 t0 := Tryz.underlying0
 a0 := Tryz.isAgg0
 z0 := Tryz.sizeOf0
 v0 := Tryz.zeroValue0
 i0 := by kernel_rfl
 t3 := Tryz.underlying3
 a3 := Tryz.isAgg3
 z3 := Tryz.sizeOf3
 v3 := Tryz.zeroValue3
 i3 := by kernel_rfl
 t4 := Tryz.underlying4
 a4 := Tryz.isAgg4
 z4 := Tryz.sizeOf4
 v4 := Tryz.zeroValue4
 i4 := by kernel_rfl
 t5 := Tryz.underlying5
 a5 := Tryz.isAgg5
 z5 := Tryz.sizeOf5
 v5 := Tryz.zeroValue5
 i5 := by kernel_rfl
 t22 := Tryz.underlying23
 a22 := Tryz.isAgg23
 z22 := Tryz.sizeOf23
 v22 := Tryz.zeroValue23
 i22 := by kernel_rfl
 t25 := Tryz.underlying85
 a25 := Tryz.isAgg85
 z25 := Tryz.sizeOf85
 v25 := Tryz.zeroValue85
 i25 := by kernel_rfl
 t54 := Tryz.underlying152
 a54 := Tryz.isAgg152
 z54 := Tryz.sizeOf152
 g1 := by kernel_rfl }
end Go.Proofs
end
section
namespace Go.Proofs.YtkoeddgbhohggaaGreatDoor.E
open Go.RowKit Go.Proofs.YtkoeddgbhohggaaGreatDoorW.PrintWords Go.Proofs.YtkoeddgbhohggaaGreatDoorW.PrintLast
set_option linter.unusedVariables false
theorem xall_lits {w : World} {ok : Nat → Prop} {M : Option Nat} : ∀ {vs us : List Value}, XAll w ok M (vs.map fun v => .p (.lit v)) us → us = vs
 | [], [], _ => rfl
 | [], _ :: _, h => (h : False).elim
 | _ :: _, [], h => (h : False).elim
 | v :: vs, u :: us, h => by rw [lit_of (E := En0) (B := fun _ => none) h.1, xall_lits h.2]
theorem mall_lits {w w' : World} {M : Option Nat} {m : List Int} : ∀ (vs us : List Value), MAll w w' M m (vs.map fun v => .p (.lit v)) us
 | [], [] => trivial
 | [], _ :: _ => trivial
 | _ :: _, [] => trivial
 | v :: vs, u :: us => mall_lits vs us
theorem rall_lits {w w' : World} {ok : Nat → Prop} {G : Option Nat} : ∀ (vs : List Value), RAll w w' ok G (vs.map fun v => .p (.lit v)) vs
 | [] => trivial
 | v :: vs => ⟨held_lit v, rall_lits vs⟩
theorem qc_lits {P : Program} {f : FuncId} {fn : Func} (hfn : P.funcs[f]? = some fn) (hname : (fn.name == "runtime.NumGoroutine") = false) (hbody : fn.body.isSome = true) {vs rs : List Value}
  (h : ∀ w ok, GOk w ok → Calls P f vs.toArray w fun e w' => e = .returned (packV rs) ∧ w' = w) : QC P f (vs.map fun v => .p (.lit v)) (rs.map fun v => .p (.lit v)) [] := by
 refine ⟨⟨fn, hfn, hname, hbody⟩, fun ok M w us hgl hx => ?_⟩
 rw [xall_lits hx]
 refine Calls.mono (h w ok hgl) fun e w' h => ?_
 obtain ⟨h1, h2⟩ := h
 subst h2
 exact ⟨none, rs, h1, rall_lits rs, Fr.refl _ _, mall_lits _ _⟩
end Go.Proofs.YtkoeddgbhohggaaGreatDoor.E
namespace Go.Proofs.YtkoeddgbhohggaaGreatDoor.F
open Go.Proofs.YtkoeddgbhohggaaGreatDoor.E Go.RowKit Go.Proofs.YtkoeddgbhohggaaGreatDoorW.PrintWords Go.Proofs.YtkoeddgbhohggaaGreatDoorW.PrintLast
set_option linter.unusedVariables false
def isW (a : Int) : Bool := decide (0 ≤ a) && decide (a < 18446744073709551616)
theorem isW_of {a : Int} (h : isW a = true) : ∃ n : Nat, a = n ∧ n < 18446744073709551616 := by
 unfold isW at h
 rw [Bool.and_eq_true, decide_eq_true_eq, decide_eq_true_eq] at h
 exact ⟨a.toNat, by omega, by omega⟩
theorem isW_nat {n : Nat} (h : n < 18446744073709551616) : isW (n : Int) = true := by
 unfold isW
 rw [Bool.and_eq_true, decide_eq_true_eq, decide_eq_true_eq]
 omega
def Zz18.A : AK := .p (.int .u64) (.p (.int .u64) .nil)
def Zz18.Q : RK := .p (.int .u64) (.p (.int .u64) .nil)
def Zz18.h : (Int × Int) → Zz18.Q.T × List Int := fun b => ((b.1, b.2, ()), [])
def Zz18.f (k : Nat) (a b : Int) : Option (Int × Int) := if isW a && isW b then some (((a.toNat * b.toNat / 18446744073709551616 : Nat) : Int), ((a.toNat * b.toNat % 18446744073709551616 : Nat) : Int)) else none
def Zz18.g (k : Nat) (x : Zz18.A.T) : Option (Int × Int) := Zz18.f k x.1 x.2.1
theorem Zz18.qc (k : Nat) (a b : Int) (r : Int × Int) (hb : Zz18.f k a b = some r) : QC Go.Proofs.Tryz.prog 65 [.p (.lit (.int .u64 a)), .p (.lit (.int .u64 b))] [.p (.lit (.int .u64 r.1)), .p (.lit (.int .u64 r.2))] [] := by
 unfold Zz18.f at hb
 split at hb
 ·rename_i hw
  rw [Bool.and_eq_true] at hw
  obtain ⟨n, rfl, hn⟩ := isW_of hw.1
  obtain ⟨m, rfl, hm⟩ := isW_of hw.2
  injection hb with hb
  subst hb
  exact qc_lits (vs := [.int .u64 (n : Int), .int .u64 (m : Int)]) (rs := [.int .u64 _, .int .u64 _]) Go.Proofs.Tryz.func65 (by kernel_rfl) (by kernel_rfl) fun w ok _ => Any.bits_Mul64 Go.Proofs.Tryd.lays264 n m hn hm w
 ·cases hb
theorem Zz18.does (k : Nat) : Does Go.Proofs.Tryz.prog 65 Zz18.A Zz18.Q (Zz18.g k) Zz18.h := fun x b hb => Zz18.qc k x.1 x.2.1 b hb
def Zz17.A : AK := .p (.int .u64) .nil
def Zz17.Q : RK := .p (.int .i64) .nil
def Zz17.h : Int → Zz17.Q.T × List Int := fun b => (((b), ()), [])
def Zz17.f (k : Nat) (a : Int) : Option Int := if isW a then some ((Lib.bitLen a.toNat : Nat) : Int) else none
def Zz17.g (k : Nat) (x : Zz17.A.T) : Option Int := Zz17.f k x.1
theorem Zz17.qc (k : Nat) (a b : Int) (hb : Zz17.f k a = some b) : QC Go.Proofs.Tryz.prog 93 [.p (.lit (.int .u64 a))] [.p (.lit (.int .i64 b))] [] := by
 unfold Zz17.f at hb
 split at hb
 ·rename_i hw
  obtain ⟨n, rfl, hn⟩ := isW_of hw
  injection hb with hb
  subst hb
  exact qc_lits (vs := [.int .u64 (n : Int)]) (rs := [.int .i64 _]) Go.Proofs.Tryz.func93 (by kernel_rfl) (by kernel_rfl) fun w ok _ => Any.bits_Len64 Go.Proofs.Tryd.lays129 n w (by omega) (by omega)
 ·cases hb
theorem Zz17.does (k : Nat) : Does Go.Proofs.Tryz.prog 93 Zz17.A Zz17.Q (Zz17.g k) Zz17.h := fun x b hb => Zz17.qc k x.1 b hb
def Zz14.A : AK := .p (.int .u64) .nil
def Zz14.Q : RK := .p (.int .i64) .nil
def Zz14.h : Int → Zz14.Q.T × List Int := fun b => (((b), ()), [])
def Zz14.f (k : Nat) (a : Int) : Option Int := if isW a then some (64 - ((Lib.bitLen a.toNat : Nat) : Int)) else none
def Zz14.g (k : Nat) (x : Zz14.A.T) : Option Int := Zz14.f k x.1
theorem Zz14.qc (k : Nat) (a b : Int) (hb : Zz14.f k a = some b) : QC Go.Proofs.Tryz.prog 78 [.p (.lit (.int .u64 a))] [.p (.lit (.int .i64 b))] [] := by
 unfold Zz14.f at hb
 split at hb
 ·rename_i hw
  obtain ⟨n, rfl, hn⟩ := isW_of hw
  injection hb with hb
  subst hb
  exact qc_lits (vs := [.int .u64 (n : Int)]) (rs := [.int .i64 _]) Go.Proofs.Tryz.func78 (by kernel_rfl) (by kernel_rfl) fun w ok _ => Any.bits_LeadingZeros64 Go.Proofs.Tryd.lays134 n w (by omega) (by omega)
 ·cases hb
theorem Zz14.does (k : Nat) : Does Go.Proofs.Tryz.prog 78 Zz14.A Zz14.Q (Zz14.g k) Zz14.h := fun x b hb => Zz14.qc k x.1 b hb
def Zz20.A : AK := .p (.int .u64) .nil
def Zz20.Q : RK := .p (.int .i64) .nil
def Zz20.h : Int → Zz20.Q.T × List Int := fun b => (((b), ()), [])
def Zz20.f (k : Nat) (a : Int) : Option Int := if isW a then some ((Lib.ctz 64 a.toNat : Nat) : Int) else none
def Zz20.g (k : Nat) (x : Zz20.A.T) : Option Int := Zz20.f k x.1
theorem Zz20.qc (k : Nat) (a b : Int) (hb : Zz20.f k a = some b) : QC Go.Proofs.Tryz.prog 116 [.p (.lit (.int .u64 a))] [.p (.lit (.int .i64 b))] [] := by
 unfold Zz20.f at hb
 split at hb
 ·rename_i hw
  obtain ⟨n, rfl, hn⟩ := isW_of hw
  injection hb with hb
  subst hb
  exact qc_lits (vs := [.int .u64 (n : Int)]) (rs := [.int .i64 _]) Go.Proofs.Tryz.func116 (by kernel_rfl) (by kernel_rfl) fun w ok hgl => Any7.bits_TrailingZeros64 Go.Proofs.Tryd.layss29 n hn w fun _ => (hgl (Go.Proofs.Tryd.layss29_ren.g 1, Lib.deBruijn64tab) (List.mem_singleton.2 (by kernel_rfl))).2.2
 ·cases hb
theorem Zz20.does (k : Nat) : Does Go.Proofs.Tryz.prog 116 Zz20.A Zz20.Q (Zz20.g k) Zz20.h := fun x b hb => Zz20.qc k x.1 b hb
end Go.Proofs.YtkoeddgbhohggaaGreatDoor.F
end
section
namespace Go.Proofs.YtkoeddgbhohggaaGreatDoor.E
open Go.RowKit
set_option linter.unusedVariables false
set_option linter.unusedSimpArgs false
structure Pl where
 (be bt bo bd bf bE bn bD ba bx n cd c1 c2 c3 m γ : Nat)
 (Ad A1 A2 : Option Addr)
 (v0 v1 : Value)
 (D D' La : List Int)
def Oth (p : Pl) (k : Nat) : Prop := k ≠ p.be ∧ k ≠ p.bt ∧ k ≠ p.bo
def RowO (p : Pl) (w : World) (k : IntKind) (l : List Int) (A : Option Addr) : Prop := ∀ j, j < l.length → ∃ a, A = some a ∧ Oth p a.block ∧ a.block < w.heap.size ∧ w.cell? (a.add j) = some (.int k (l.getD j 0))
def OneO (p : Pl) (w : World) (b : Nat) (vs : Array Value) (t : TypeId) : Prop := Oth p b ∧ b < w.heap.size ∧ w.heap[b]? = some (.cells vs t (0, 0))
structure Fx (p : Pl) (w : World) : Prop where
 et : p.be ≠ p.bt
 eo : p.be ≠ p.bo
 tn : p.bt ≠ p.bo
 n1 : p.n ≤ 1000000
 lD : p.D.length = p.n
 lD' : p.D'.length = p.n
 d : OneO p w p.bd #[.slice p.Ad p.n p.cd] 41
 f : OneO p w p.bf #[.func (.func 43) #[] #[.pointer (some ⟨p.bD, 0, none⟩), .pointer (some ⟨p.ba, 0, none⟩), .pointer (some ⟨p.bx, 0, none⟩)]] 73
 E : OneO p w p.bE #[.slice (some ⟨p.be, 0, none⟩) p.n p.n] 41
 nn : OneO p w p.bn #[.func (.func 62) #[] #[.pointer (some ⟨p.bd, 0, none⟩), .pointer (some ⟨p.bf, 0, none⟩), .pointer (some ⟨p.bt, 0, none⟩), .pointer (some ⟨p.bE, 0, none⟩), .pointer (some ⟨p.bn, 0, none⟩)]] 100
 D1 : OneO p w p.bD #[.slice p.A1 p.n p.c1] 41
 a : OneO p w p.ba #[p.v0, .slice p.A2 p.La.length p.c2] 43
 x : OneO p w p.bx #[p.v1, .slice (some ⟨p.bo, 0, none⟩) p.m p.c3] 43
 rD : RowO p w .i64 p.D p.Ad
 rD' : RowO p w .i64 p.D' p.A1
 rL : RowO p w .u64 p.La p.A2
 be1 : p.be < w.heap.size
 bt1 : p.bt < w.heap.size
 bo1 : p.bo < w.heap.size
structure EW (p : Pl) (w0 w : World) (ex : List Int) (at0 : Nat) (L : List Int) : Prop where
 os : w.os = w0.os
 tape : w.tape = w0.tape
 output : w.output = w0.output
 size : w0.heap.size ≤ w.heap.size
 keep : ∀ k, k < w0.heap.size → Oth p k → w.heap[k]? = w0.heap[k]?
 xl : ex.length = p.n
 ll : L.length = p.m
 e : ∃ cs, Lies w 3 .i64 ex p.be cs
 t : w.heap[p.bt]? = some (.cells #[.int .i64 (at0 : Int)] 3 (0, 0))
 o : ∃ cs, Lies w 23 .u64 L p.bo cs ∧ cs.size = p.γ
section
variable {p : Pl} {w0 w : World} {ex L : List Int} {at0 : Nat}
theorem OneO.now {b : Nat} {vs : Array Value} {t : TypeId} (h : OneO p w0 b vs t) (hw : EW p w0 w ex at0 L) : w.heap[b]? = some (.cells vs t (0, 0)) := (hw.keep b h.2.1 h.1).trans h.2.2
theorem RowO.now {k : IntKind} {l : List Int} {A : Option Addr} (h : RowO p w0 k l A) (hw : EW p w0 w ex at0 L) : ∀ j, j < l.length → ∃ a, A = some a ∧ w.cell? (a.add j) = some (.int k (l.getD j 0)) := fun j hj => by
 obtain ⟨a, h1, h2, h3, h4⟩ := h j hj
 exact ⟨a, h1, (cell_same (by rw [add_blk]; exact hw.keep _ h3 h2)).trans h4⟩
theorem lies_set {k : IntKind} {e : TypeId} {l : List Int} {g : Nat} {cs : Array Value} (h : Lies w e k l g cs) {j : Nat} (hj : j < l.length) (v : Int) : Lies (w.setCell ⟨g, j, none⟩ (.int k v)) e k (l.set j v) g (cs.setIfInBounds j (.int k v)) := by
 obtain ⟨h1, h2, h3, h4⟩ := h
 refine ⟨heap_setCell_same w g j cs e _ h1, by simpa using h2, by simpa using h3, fun i hi => ?_⟩
 rw [List.length_set] at hi
 rw [Array.getElem?_setIfInBounds]
 by_cases hij : j = i
 ·subst hij
  rw [if_pos rfl, if_pos (by omega)]
  simp [hi]
 ·rw [if_neg hij, h4 i hi]
  simp [List.getD_eq_getElem?_getD, List.getElem?_set, hij]
theorem lies_other {k : IntKind} {e : TypeId} {l : List Int} {g : Nat} {cs : Array Value} (h : Lies w e k l g cs) {a : Addr} (ha : g ≠ a.block) (v : Value) : Lies (w.setCell a v) e k l g cs := ⟨(heap_setCell_other w a g v ha).trans h.1, h.2⟩
theorem set_size (a : Addr) (v : Value) : (w.setCell a v).heap.size = w.heap.size := by simp [World.setCell]
theorem EW.out (hF : Fx p w0) (h : EW p w0 w ex at0 L) {i : Nat} (hi : i < L.length) (v : Int) : EW p w0 (w.setCell ⟨p.bo, i, none⟩ (.int .u64 v)) ex at0 (L.set i v) := by
 obtain ⟨cs, he⟩ := h.e
 obtain ⟨co, ho, hc⟩ := h.o
 exact ⟨h.os, h.tape, h.output, by rw [set_size]; exact h.size, fun k hk ho => (heap_setCell_other w _ k _ ho.2.2).trans (h.keep k hk ho), h.xl, by rw [List.length_set]; exact h.ll, ⟨cs, lies_other he hF.eo _⟩, (heap_setCell_other w _ _ _ hF.tn).trans h.t, ⟨_, lies_set ho hi v, by simpa using hc⟩⟩
theorem EW.drew (h : EW p w0 w ex at0 L) : EW p w0 w.drew ex at0 L := ⟨h.os, h.tape, h.output, h.size, h.keep, h.xl, h.ll, h.e, h.t, h.o⟩
end



end Go.Proofs.YtkoeddgbhohggaaGreatDoor.E
end
section
namespace Go.Proofs.YtkoeddgbhohggaaGreatDoor.E
open Go.RowKit Go.Lib
set_option linter.unusedVariables false
set_option linter.unusedSimpArgs false
end Go.Proofs.YtkoeddgbhohggaaGreatDoor.E
namespace Go.Proofs.YtkoeddgbhohggaaGreatDoor.F
open Go.Proofs.YtkoeddgbhohggaaGreatDoor.E Go.RowKit Go.Proofs.YtkoeddgbhohggaaGreatDoorW.PrintWords Go.Proofs.YtkoeddgbhohggaaGreatDoorW.PrintLast
set_option linter.unusedVariables false
end Go.Proofs.YtkoeddgbhohggaaGreatDoor.F
end
section
namespace Go.Proofs.YtkoeddgbhohggaaGreatDoor.F
open Go.Proofs.YtkoeddgbhohggaaGreatDoor.E Go.RowKit Go.Proofs.YtkoeddgbhohggaaGreatDoorW.PrintWords Go.Proofs.YtkoeddgbhohggaaGreatDoorW.PrintLast
set_option linter.unusedVariables false
set_option maxRecDepth 100000
noncomputable abbrev PG : Program := Go.Proofs.Tryz.prog
def T0x : List (Nat × Bool) := [(72, true), (92, false)]
theorem T0ex : ExAll PG T0x := ⟨fun x y c h w => by rw [run_callFunc_extern Go.Proofs.Tryz.func72 (by kernel_rfl) (by kernel_rfl) (by kernel_rfl) (e := adEntry) (by kernel_rfl), adRun0 x y c h]; rfl, ⟨fun x y c h w => by rw [run_callFunc_extern Go.Proofs.Tryz.func92 (by kernel_rfl) (by kernel_rfl) (by kernel_rfl) (e := sbEntry) (by kernel_rfl), sbRun0 x y c h]; rfl, trivial⟩⟩
noncomputable def T0 : TT := TT.of PG [2, 3, 4, 5, 9, 22, 23, 25, 32, 35, 37, 39, 41, 43, 58, 65, 77, 79, 85, 93, 104, 105, 125, 130, 135, 138, 152] T0x
def Zz13.A : AK := .p (.int .u64) (.p (.int .u64) (.p (.int .u64) .nil))
def Zz13.Q : RK := .p (.int .u64) (.p (.int .u64) .nil)
def Zz13.h : (Int × Int) → Zz13.Q.T × List Int := fun b => ((b.1, b.2, ()), [])
noncomputable def Zz13.D : Decl (Int × Int) := ⟨(Go.Proofs.Tryz.f63.body).getD .skip, 135, [.tmp 6, .tmp 7], Zz13.A, Zz13.Q, fun y m => (y.1, y.2.1), T0, [], [(24, [(2, .p (some (.int .u64))), (8, .p (some (.int .u64))), (9, .p (some (.int .u64))), (10, .p (some (.int .u64))), (14, .p (some (.int .u64))), (15, .p (some (.int .u64))), (16, .p (some (.int .u64))), (17, .p (some (.int .u64))), (18, .p (some (.int .u64)))]), (17, [(2, .p (some (.int .u64))), (8, .p (some (.int .u64))), (9, .p (some (.int .u64))), (10, .p (some (.int .u64))), (11, .p (some (.int .u64))), (13, .p (some (.int .u64))), (14, .p (some (.int .u64))), (15, .p (some (.int .u64))), (16, .p (some (.int .u64)))])], []⟩
noncomputable def Zz13.S (k : Nat) : List (Nat × E.Spec (Int × Int)) := [(78, told _ Zz14.A Zz14.Q (Zz14.g k) Zz14.h)]
noncomputable def Zz13.l24 (k : Nat) (x2 x8 x9 x10 x14 x15 x16 x17 x18 : Int) : Option (Int × Int) := Zz13.D.F Zz13.S k 49 [.p (.lit (.int .u64 x2)), .p (.lit (.int .u64 x8)), .p (.lit (.int .u64 x9)), .p (.lit (.int .u64 x10)), .p (.lit (.int .u64 x14)), .p (.lit (.int .u64 x15)), .p (.lit (.int .u64 x16)), .p (.lit (.int .u64 x17)), .p (.lit (.int .u64 x18))]
noncomputable def Zz13.l17 (k : Nat) (x2 x8 x9 x10 x11 x13 x14 x15 x16 : Int) : Option (Int × Int) := Zz13.D.F Zz13.S k 35 [.p (.lit (.int .u64 x2)), .p (.lit (.int .u64 x8)), .p (.lit (.int .u64 x9)), .p (.lit (.int .u64 x10)), .p (.lit (.int .u64 x11)), .p (.lit (.int .u64 x13)), .p (.lit (.int .u64 x14)), .p (.lit (.int .u64 x15)), .p (.lit (.int .u64 x16))]
noncomputable def Zz13.f0 (k : Nat) (a0 a1 a2 : Int) : Option (Int × Int) := Zz13.D.val Zz13.S k (a0, a1, a2, ())
noncomputable def Zz13.f := (still Zz13.f0).1
theorem Zz13.f_def : Zz13.f = Zz13.f0 := (still Zz13.f0).2
noncomputable def Zz13.g (k : Nat) (x : Zz13.A.T) : Option (Int × Int) := Zz13.f k (x.1) (x.2.1) (x.2.2.1)
theorem Zz13.does (k : Nat) : Does PG 63 Zz13.A Zz13.Q (Zz13.g k) Zz13.h := (show Zz13.g k = Zz13.D.val Zz13.S k from funext fun _ => by unfold Zz13.g; rw [Zz13.f_def]; rfl) ▸ Decl.does (D := Zz13.D) (S := Zz13.S) (fn := Go.Proofs.Tryz.f63) (by constructor <;> first | kernel_rfl | exact TT.of_ok _ T0ex) (fun k => ⟨told_ok (Zz14.does k), trivial⟩) (fun _ _ h => by rw [h rfl]; rfl) k
def Zz60.A : AK := .p (.row .u64) .nil
def Zz60.Q : RK := .p (.row .u64) .nil
def Zz60.h : List Int → Zz60.Q.T × List Int := fun b => ((b, ()), [])
noncomputable def Zz60.D : Decl (List Int) := ⟨(Go.Proofs.Tryz.f64.body).getD .skip, 21, [.tmp 2], Zz60.A, Zz60.Q, fun y m => y.1, T0, [], [(2, [(0, .p (some (.row .u64))), (3, .p (some (.int .i64)))])], []⟩
noncomputable def Zz60.S (k : Nat) : List (Nat × E.Spec (List Int)) := []
noncomputable def Zz60.l2 (k : Nat) (x0 : List Int) (x3 : Int) : Option (List Int) := Zz60.D.F Zz60.S k 5 [.p (.row .u64 x0), .p (.lit (.int .i64 x3))]
noncomputable def Zz60.f0 (k : Nat) (a0 : List Int) : Option (List Int) := Zz60.D.val Zz60.S k (a0, ())
noncomputable def Zz60.f := (still Zz60.f0).1
theorem Zz60.f_def : Zz60.f = Zz60.f0 := (still Zz60.f0).2
noncomputable def Zz60.g (k : Nat) (x : Zz60.A.T) : Option (List Int) := Zz60.f k (x.1)
theorem Zz60.does (k : Nat) : Does PG 64 Zz60.A Zz60.Q (Zz60.g k) Zz60.h := (show Zz60.g k = Zz60.D.val Zz60.S k from funext fun _ => by unfold Zz60.g; rw [Zz60.f_def]; rfl) ▸ Decl.does (D := Zz60.D) (S := Zz60.S) (fn := Go.Proofs.Tryz.f64) (by constructor <;> first | kernel_rfl | exact TT.of_ok _ T0ex) (fun k => trivial) (fun _ _ h => by rw [h rfl]; rfl) k
def Zz45.A : AK := .p (.row .u64) (.p (.int .u64) .nil)
def Zz45.Q : RK := .p (.row .u64) (.p (.int .u64) (.p (.int .i64) .nil))
def Zz45.h : (List Int × Int × Int) → Zz45.Q.T × List Int := fun b => ((b.1, b.2.1, b.2.2, ()), [])
noncomputable def Zz45.D : Decl (List Int × Int × Int) := ⟨(Go.Proofs.Tryz.f44.body).getD .skip, 38, [.tmp 4, .tmp 5, .tmp 6], Zz45.A, Zz45.Q, fun y m => (y.1, y.2.1, y.2.2.1), T0, [], [(6, [(0, .p (some (.row .u64))), (1, .p (some (.int .u64))), (7, .m (.num .u64) 23), (8, .p (some (.int .u64))), (9, .p (some (.int .i64)))])], [(9, [7])]⟩
noncomputable def Zz45.S (k : Nat) : List (Nat × E.Spec (List Int × Int × Int)) := [(63, told _ Zz13.A Zz13.Q (Zz13.g k) Zz13.h), (64, told _ Zz60.A Zz60.Q (Zz60.g k) Zz60.h)]
noncomputable def Zz45.l6 (k : Nat) (x0 : List Int) (x1 : Int) (x7 : List Int) (x8 x9 : Int) : Option (List Int × Int × Int) := Zz45.D.F Zz45.S k 13 [.p (.row .u64 x0), .p (.lit (.int .u64 x1)), .m x7, .p (.lit (.int .u64 x8)), .p (.lit (.int .i64 x9))]
noncomputable def Zz45.f0 (k : Nat) (a0 : List Int) (a1 : Int) : Option (List Int × Int × Int) := Zz45.D.val Zz45.S k (a0, a1, ())
noncomputable def Zz45.f := (still Zz45.f0).1
theorem Zz45.f_def : Zz45.f = Zz45.f0 := (still Zz45.f0).2
noncomputable def Zz45.g (k : Nat) (x : Zz45.A.T) : Option (List Int × Int × Int) := Zz45.f k (x.1) (x.2.1)
theorem Zz45.does (k : Nat) : Does PG 44 Zz45.A Zz45.Q (Zz45.g k) Zz45.h := (show Zz45.g k = Zz45.D.val Zz45.S k from funext fun _ => by unfold Zz45.g; rw [Zz45.f_def]; rfl) ▸ Decl.does (D := Zz45.D) (S := Zz45.S) (fn := Go.Proofs.Tryz.f44) (by constructor <;> first | kernel_rfl | exact TT.of_ok _ T0ex) (fun k => ⟨told_ok (Zz13.does k), ⟨told_ok (Zz60.does k), trivial⟩⟩) (fun _ _ h => by rw [h rfl]; rfl) k
def Zz3.A : AK := .p (.agg (.cons (.bool) (.cons (.row .u64) .nil))) (.p (.int .u64) .nil)
def Zz3.Q : RK := .p (.int .u64) (.p (.int .i64) .nil)
def Zz3.h : (Int × Int) → Zz3.Q.T × List Int := fun b => ((b.1, b.2, ()), [])
noncomputable def Zz3.D : Decl (Int × Int) := ⟨(Go.Proofs.Tryz.f25.body).getD .skip, 28, [.tmp 4, .tmp 5], Zz3.A, Zz3.Q, fun y m => (y.1, y.2.1), T0, [], [], []⟩
noncomputable def Zz3.S (k : Nat) : List (Nat × E.Spec (Int × Int)) := [(44, told _ Zz45.A Zz45.Q (Zz45.g k) Zz45.h)]
noncomputable def Zz3.f0 (k : Nat) (a0_0 : Bool) (a0_1 : List Int) (a1 : Int) : Option (Int × Int) := Zz3.D.val Zz3.S k ((a0_0, a0_1, ()), a1, ())
noncomputable def Zz3.f := (still Zz3.f0).1
theorem Zz3.f_def : Zz3.f = Zz3.f0 := (still Zz3.f0).2
noncomputable def Zz3.g (k : Nat) (x : Zz3.A.T) : Option (Int × Int) := Zz3.f k (x.1.1) (x.1.2.1) (x.2.1)
theorem Zz3.does (k : Nat) : Does PG 25 Zz3.A Zz3.Q (Zz3.g k) Zz3.h := (show Zz3.g k = Zz3.D.val Zz3.S k from funext fun _ => by unfold Zz3.g; rw [Zz3.f_def]; rfl) ▸ Decl.does (D := Zz3.D) (S := Zz3.S) (fn := Go.Proofs.Tryz.f25) (by constructor <;> first | kernel_rfl | exact TT.of_ok _ T0ex) (fun k => ⟨told_ok (Zz45.does k), trivial⟩) (fun _ _ h => by rw [h rfl]; rfl) k
def Zz19.A : AK := .p (.int .u64) (.p (.int .u64) (.p (.int .u64) .nil))
def Zz19.Q : RK := .p (.int .u64) .nil
def Zz19.h : Int → Zz19.Q.T × List Int := fun b => ((b, ()), [])
noncomputable def Zz19.D : Decl Int := ⟨(Go.Proofs.Tryz.f66.body).getD .skip, 19, [.tmp 6], Zz19.A, Zz19.Q, fun y m => y.1, T0, [], [], []⟩
noncomputable def Zz19.S (k : Nat) : List (Nat × E.Spec Int) := [(63, told _ Zz13.A Zz13.Q (Zz13.g k) Zz13.h)]
noncomputable def Zz19.f0 (k : Nat) (a0 a1 a2 : Int) : Option Int := Zz19.D.val Zz19.S k (a0, a1, a2, ())
noncomputable def Zz19.f := (still Zz19.f0).1
theorem Zz19.f_def : Zz19.f = Zz19.f0 := (still Zz19.f0).2
noncomputable def Zz19.g (k : Nat) (x : Zz19.A.T) : Option Int := Zz19.f k (x.1) (x.2.1) (x.2.2.1)
theorem Zz19.does (k : Nat) : Does PG 66 Zz19.A Zz19.Q (Zz19.g k) Zz19.h := (show Zz19.g k = Zz19.D.val Zz19.S k from funext fun _ => by unfold Zz19.g; rw [Zz19.f_def]; rfl) ▸ Decl.does (D := Zz19.D) (S := Zz19.S) (fn := Go.Proofs.Tryz.f66) (by constructor <;> first | kernel_rfl | exact TT.of_ok _ T0ex) (fun k => ⟨told_ok (Zz13.does k), trivial⟩) (fun _ _ h => by rw [h rfl]; rfl) k
def Zz110.A : AK := .p (.fp 77 (.cons (.int .u64) (.cons (.int .u64) (.cons (.int .u64) .nil)))) (.p (.int .u64) (.p (.int .u64) .nil))
def Zz110.Q : RK := .p (.int .u64) .nil
def Zz110.h : Int → Zz110.Q.T × List Int := fun b => ((b, ()), [])
noncomputable def Zz110.D : Decl Int := ⟨(Go.Proofs.Tryz.f45.body).getD .skip, 34, [.tmp 6], Zz110.A, Zz110.Q, fun y m => y.1, T0, [], [], []⟩
noncomputable def Zz110.S (k : Nat) : List (Nat × E.Spec Int) := [(65, told _ Zz18.A Zz18.Q (Zz18.g k) Zz18.h), (66, told _ Zz19.A Zz19.Q (Zz19.g k) Zz19.h)]
noncomputable def Zz110.f0 (k : Nat) (a0_0 a0_1 a0_2 a1 a2 : Int) : Option Int := Zz110.D.val Zz110.S k ((a0_0, a0_1, a0_2, ()), a1, a2, ())
noncomputable def Zz110.f := (still Zz110.f0).1
theorem Zz110.f_def : Zz110.f = Zz110.f0 := (still Zz110.f0).2
noncomputable def Zz110.g (k : Nat) (x : Zz110.A.T) : Option Int := Zz110.f k (x.1.1) (x.1.2.1) (x.1.2.2.1) (x.2.1) (x.2.2.1)
theorem Zz110.does (k : Nat) : Does PG 45 Zz110.A Zz110.Q (Zz110.g k) Zz110.h := (show Zz110.g k = Zz110.D.val Zz110.S k from funext fun _ => by unfold Zz110.g; rw [Zz110.f_def]; rfl) ▸ Decl.does (D := Zz110.D) (S := Zz110.S) (fn := Go.Proofs.Tryz.f45) (by constructor <;> first | kernel_rfl | exact TT.of_ok _ T0ex) (fun k => ⟨told_ok (Zz18.does k), ⟨told_ok (Zz19.does k), trivial⟩⟩) (fun _ _ h => by rw [h rfl]; rfl) k
def Zz114.A : AK := .p (.int .u64) .nil
def Zz114.Q : RK := .p (.np 77 (.cons (.int .u64) (.cons (.int .u64) (.cons (.int .u64) .nil)))) (.p (.int .i64) .nil)
def Zz114.h : ((Option (Int × Int × Int × Unit)) × Int) → Zz114.Q.T × List Int := fun b => ((b.1, b.2, ()), [])
noncomputable def Zz114.D : Decl ((Option (Int × Int × Int × Unit)) × Int) := ⟨(Go.Proofs.Tryz.f27.body).getD .skip, 46, [.tmp 2, .tmp 3], Zz114.A, Zz114.Q, fun y m => (y.1, y.2.1), T0, [], [(7, [(0, .p (some (.int .u64))), (4, .p (some (.pt 3 0))), (5, .p (some (.int .u64))), (15, .b (some (.cons (.int .u64) (.cons (.int .u64) (.cons (.int .u64) .nil))))), (20, .p (some (.int .i64)))])], []⟩
noncomputable def Zz114.S (k : Nat) : List (Nat × E.Spec ((Option (Int × Int × Int × Unit)) × Int)) := [(45, told _ Zz110.A Zz110.Q (Zz110.g k) Zz110.h)]
noncomputable def Zz114.l7 (k : Nat) (x0 x5 x15_0 x15_1 x15_2 x20 : Int) : Option ((Option (Int × Int × Int × Unit)) × Int) := Zz114.D.F Zz114.S k 15 [.p (.lit (.int .u64 x0)), .p (.ptr 3 0), .p (.lit (.int .u64 x5)), .b 77 [.lit (.int .u64 x15_0), .lit (.int .u64 x15_1), .lit (.int .u64 x15_2)], .p (.lit (.int .i64 x20))]
noncomputable def Zz114.f0 (k : Nat) (a0 : Int) : Option ((Option (Int × Int × Int × Unit)) × Int) := Zz114.D.val Zz114.S k (a0, ())
noncomputable def Zz114.f := (still Zz114.f0).1
theorem Zz114.f_def : Zz114.f = Zz114.f0 := (still Zz114.f0).2
noncomputable def Zz114.g (k : Nat) (x : Zz114.A.T) : Option ((Option (Int × Int × Int × Unit)) × Int) := Zz114.f k (x.1)
theorem Zz114.does (k : Nat) : Does PG 27 Zz114.A Zz114.Q (Zz114.g k) Zz114.h := (show Zz114.g k = Zz114.D.val Zz114.S k from funext fun _ => by unfold Zz114.g; rw [Zz114.f_def]; rfl) ▸ Decl.does (D := Zz114.D) (S := Zz114.S) (fn := Go.Proofs.Tryz.f27) (by constructor <;> first | kernel_rfl | exact TT.of_ok _ T0ex) (fun k => ⟨told_ok (Zz110.does k), trivial⟩) (fun _ _ h => by rw [h rfl]; rfl) k
def Zz29.A : AK := .p (.row .u64) (.p (.row .u64) .nil)
def Zz29.Q : RK := .p (.int .i64) .nil
def Zz29.h : Int → Zz29.Q.T × List Int := fun b => ((b, ()), [])
noncomputable def Zz29.D : Decl Int := ⟨(Go.Proofs.Tryz.f28.body).getD .skip, 21, [.tmp 4], Zz29.A, Zz29.Q, fun y m => y.1, T0, [], [], []⟩
noncomputable def Zz29.S (k : Nat) : List (Nat × E.Spec Int) := []
noncomputable def Zz29.f0 (k : Nat) (a0 a1 : List Int) : Option Int := Zz29.D.val Zz29.S k (a0, a1, ())
noncomputable def Zz29.f := (still Zz29.f0).1
theorem Zz29.f_def : Zz29.f = Zz29.f0 := (still Zz29.f0).2
noncomputable def Zz29.g (k : Nat) (x : Zz29.A.T) : Option Int := Zz29.f k (x.1) (x.2.1)
theorem Zz29.does (k : Nat) : Does PG 28 Zz29.A Zz29.Q (Zz29.g k) Zz29.h := (show Zz29.g k = Zz29.D.val Zz29.S k from funext fun _ => by unfold Zz29.g; rw [Zz29.f_def]; rfl) ▸ Decl.does (D := Zz29.D) (S := Zz29.S) (fn := Go.Proofs.Tryz.f28) (by constructor <;> first | kernel_rfl | exact TT.of_ok _ T0ex) (fun k => trivial) (fun _ _ h => by rw [h rfl]; rfl) k
def Zz16.A : AK := .p (.int .u32) .nil
def Zz16.Q : RK := .p (.int .i64) .nil
def Zz16.h : Int → Zz16.Q.T × List Int := fun b => ((b, ()), [])
noncomputable def Zz16.D : Decl Int := ⟨(Go.Proofs.Tryz.f94.body).getD .skip, 19, [.tmp 2], Zz16.A, Zz16.Q, fun y m => y.1, T0, [], [], []⟩
noncomputable def Zz16.S (k : Nat) : List (Nat × E.Spec Int) := []
noncomputable def Zz16.f0 (k : Nat) (a0 : Int) : Option Int := Zz16.D.val Zz16.S k (a0, ())
noncomputable def Zz16.f := (still Zz16.f0).1
theorem Zz16.f_def : Zz16.f = Zz16.f0 := (still Zz16.f0).2
noncomputable def Zz16.g (k : Nat) (x : Zz16.A.T) : Option Int := Zz16.f k (x.1)
theorem Zz16.does (k : Nat) : Does PG 94 Zz16.A Zz16.Q (Zz16.g k) Zz16.h := (show Zz16.g k = Zz16.D.val Zz16.S k from funext fun _ => by unfold Zz16.g; rw [Zz16.f_def]; rfl) ▸ Decl.does (D := Zz16.D) (S := Zz16.S) (fn := Go.Proofs.Tryz.f94) (by constructor <;> first | kernel_rfl | exact TT.of_ok _ T0ex) (fun k => trivial) (fun _ _ h => by rw [h rfl]; rfl) k
def Zz15.A : AK := .p (.int .u64) .nil
def Zz15.Q : RK := .p (.int .i64) .nil
def Zz15.h : Int → Zz15.Q.T × List Int := fun b => ((b, ()), [])
noncomputable def Zz15.D : Decl Int := ⟨(Go.Proofs.Tryz.f79.body).getD .skip, 8, [.tmp 2], Zz15.A, Zz15.Q, fun y m => y.1, T0, [], [], []⟩
noncomputable def Zz15.S (k : Nat) : List (Nat × E.Spec Int) := [(93, told _ Zz17.A Zz17.Q (Zz17.g k) Zz17.h), (94, told _ Zz16.A Zz16.Q (Zz16.g k) Zz16.h)]
noncomputable def Zz15.f0 (k : Nat) (a0 : Int) : Option Int := Zz15.D.val Zz15.S k (a0, ())
noncomputable def Zz15.f := (still Zz15.f0).1
theorem Zz15.f_def : Zz15.f = Zz15.f0 := (still Zz15.f0).2
noncomputable def Zz15.g (k : Nat) (x : Zz15.A.T) : Option Int := Zz15.f k (x.1)
theorem Zz15.does (k : Nat) : Does PG 79 Zz15.A Zz15.Q (Zz15.g k) Zz15.h := (show Zz15.g k = Zz15.D.val Zz15.S k from funext fun _ => by unfold Zz15.g; rw [Zz15.f_def]; rfl) ▸ Decl.does (D := Zz15.D) (S := Zz15.S) (fn := Go.Proofs.Tryz.f79) (by constructor <;> first | kernel_rfl | exact TT.of_ok _ T0ex) (fun k => ⟨told_ok (Zz17.does k), ⟨told_ok (Zz16.does k), trivial⟩⟩) (fun _ _ h => by rw [h rfl]; rfl) k
def Zz65.A : AK := .nil
def Zz65.Q : RK := .p (.agg (.cons (.int .u64) (.cons (.int .u64) (.cons (.int .u64) (.cons (.int .u64) (.cons (.int .u64) (.cons (.int .u64) (.cons (.int .u64) (.cons (.int .u64) (.cons (.int .u64) (.cons (.int .u64) (.cons (.int .u64) (.cons (.int .u64) .nil))))))))))))) .nil
def Zz65.h : (Int × Int × Int × Int × Int × Int × Int × Int × Int × Int × Int × Int) → Zz65.Q.T × List Int := fun b => (((b.1, b.2.1, b.2.2.1, b.2.2.2.1, b.2.2.2.2.1, b.2.2.2.2.2.1, b.2.2.2.2.2.2.1, b.2.2.2.2.2.2.2.1, b.2.2.2.2.2.2.2.2.1, b.2.2.2.2.2.2.2.2.2.1, b.2.2.2.2.2.2.2.2.2.2.1, b.2.2.2.2.2.2.2.2.2.2.2, ()), ()), [])
noncomputable def Zz65.D : Decl (Int × Int × Int × Int × Int × Int × Int × Int × Int × Int × Int × Int) := ⟨(Go.Proofs.Tryz.f104.body).getD .skip, 2, [.cell 0 138], Zz65.A, Zz65.Q, fun y m => (y.1.1, y.1.2.1, y.1.2.2.1, y.1.2.2.2.1, y.1.2.2.2.2.1, y.1.2.2.2.2.2.1, y.1.2.2.2.2.2.2.1, y.1.2.2.2.2.2.2.2.1, y.1.2.2.2.2.2.2.2.2.1, y.1.2.2.2.2.2.2.2.2.2.1, y.1.2.2.2.2.2.2.2.2.2.2.1, y.1.2.2.2.2.2.2.2.2.2.2.2.1), T0, [], [], []⟩
noncomputable def Zz65.S (k : Nat) : List (Nat × E.Spec (Int × Int × Int × Int × Int × Int × Int × Int × Int × Int × Int × Int)) := []
noncomputable def Zz65.f0 (k : Nat) : Option (Int × Int × Int × Int × Int × Int × Int × Int × Int × Int × Int × Int) := Zz65.D.val Zz65.S k (())
noncomputable def Zz65.f := (still Zz65.f0).1
theorem Zz65.f_def : Zz65.f = Zz65.f0 := (still Zz65.f0).2
noncomputable def Zz65.g (k : Nat) (x : Zz65.A.T) : Option (Int × Int × Int × Int × Int × Int × Int × Int × Int × Int × Int × Int) := Zz65.f k
theorem Zz65.does (k : Nat) : Does PG 104 Zz65.A Zz65.Q (Zz65.g k) Zz65.h := (show Zz65.g k = Zz65.D.val Zz65.S k from funext fun _ => by unfold Zz65.g; rw [Zz65.f_def]; rfl) ▸ Decl.does (D := Zz65.D) (S := Zz65.S) (fn := Go.Proofs.Tryz.f104) (by constructor <;> first | kernel_rfl | exact TT.of_ok _ T0ex) (fun k => trivial) (fun _ _ h => by rw [h rfl]; rfl) k
def Zz67.A : AK := .p (.int .u64) (.p (.int .u64) (.p (.int .u64) .nil))
def Zz67.Q : RK := .p (.int .u64) .nil
def Zz67.h : Int → Zz67.Q.T × List Int := fun b => ((b, ()), [])
noncomputable def Zz67.D : Decl Int := ⟨(Go.Proofs.Tryz.f117.body).getD .skip, 19, [.tmp 6], Zz67.A, Zz67.Q, fun y m => y.1, T0, [], [], []⟩
noncomputable def Zz67.S (k : Nat) : List (Nat × E.Spec Int) := [(65, told _ Zz18.A Zz18.Q (Zz18.g k) Zz18.h), (66, told _ Zz19.A Zz19.Q (Zz19.g k) Zz19.h)]
noncomputable def Zz67.f0 (k : Nat) (a0 a1 a2 : Int) : Option Int := Zz67.D.val Zz67.S k (a0, a1, a2, ())
noncomputable def Zz67.f := (still Zz67.f0).1
theorem Zz67.f_def : Zz67.f = Zz67.f0 := (still Zz67.f0).2
noncomputable def Zz67.g (k : Nat) (x : Zz67.A.T) : Option Int := Zz67.f k (x.1) (x.2.1) (x.2.2.1)
theorem Zz67.does (k : Nat) : Does PG 117 Zz67.A Zz67.Q (Zz67.g k) Zz67.h := (show Zz67.g k = Zz67.D.val Zz67.S k from funext fun _ => by unfold Zz67.g; rw [Zz67.f_def]; rfl) ▸ Decl.does (D := Zz67.D) (S := Zz67.S) (fn := Go.Proofs.Tryz.f117) (by constructor <;> first | kernel_rfl | exact TT.of_ok _ T0ex) (fun k => ⟨told_ok (Zz18.does k), ⟨told_ok (Zz19.does k), trivial⟩⟩) (fun _ _ h => by rw [h rfl]; rfl) k
def Zz69.A : AK := .p (.int .u64) (.p (.int .u64) .nil)
def Zz69.Q : RK := .p (.bool) .nil
def Zz69.h : Bool → Zz69.Q.T × List Int := fun b => ((b, ()), [])
noncomputable def Zz69.D : Decl Bool := ⟨(Go.Proofs.Tryz.f105.body).getD .skip, 49, [.tmp 4], Zz69.A, Zz69.Q, fun y m => y.1, T0, [], [(12, [(0, .p (some (.int .u64))), (6, .p (some (.int .u64))), (37, .p (some (.int .i64))), (38, .p (some (.int .i64)))]), (4, [(0, .p (some (.int .u64))), (5, .p (some (.int .i64))), (6, .p (some (.int .u64))), (7, .p (some (.int .u64))), (8, .p (some (.int .u64)))])], []⟩
noncomputable def Zz69.S (k : Nat) : List (Nat × E.Spec Bool) := [(116, told _ Zz20.A Zz20.Q (Zz20.g k) Zz20.h), (117, told _ Zz67.A Zz67.Q (Zz67.g k) Zz67.h)]
noncomputable def Zz69.l12 (k : Nat) (x0 x6 x37 x38 : Int) : Option Bool := Zz69.D.F Zz69.S k 25 [.p (.lit (.int .u64 x0)), .p (.lit (.int .u64 x6)), .p (.lit (.int .i64 x37)), .p (.lit (.int .i64 x38))]
noncomputable def Zz69.l4 (k : Nat) (x0 x5 x6 x7 x8 : Int) : Option Bool := Zz69.D.F Zz69.S k 9 [.p (.lit (.int .u64 x0)), .p (.lit (.int .i64 x5)), .p (.lit (.int .u64 x6)), .p (.lit (.int .u64 x7)), .p (.lit (.int .u64 x8))]
noncomputable def Zz69.f0 (k : Nat) (a0 a1 : Int) : Option Bool := Zz69.D.val Zz69.S k (a0, a1, ())
noncomputable def Zz69.f := (still Zz69.f0).1
theorem Zz69.f_def : Zz69.f = Zz69.f0 := (still Zz69.f0).2
noncomputable def Zz69.g (k : Nat) (x : Zz69.A.T) : Option Bool := Zz69.f k (x.1) (x.2.1)
theorem Zz69.does (k : Nat) : Does PG 105 Zz69.A Zz69.Q (Zz69.g k) Zz69.h := (show Zz69.g k = Zz69.D.val Zz69.S k from funext fun _ => by unfold Zz69.g; rw [Zz69.f_def]; rfl) ▸ Decl.does (D := Zz69.D) (S := Zz69.S) (fn := Go.Proofs.Tryz.f105) (by constructor <;> first | kernel_rfl | exact TT.of_ok _ T0ex) (fun k => ⟨told_ok (Zz20.does k), ⟨told_ok (Zz67.does k), trivial⟩⟩) (fun _ _ h => by rw [h rfl]; rfl) k
def Zz62.A : AK := .p (.int .u64) .nil
def Zz62.Q : RK := .p (.bool) .nil
def Zz62.h : Bool → Zz62.Q.T × List Int := fun b => ((b, ()), [])
noncomputable def Zz62.D : Decl Bool := ⟨(Go.Proofs.Tryz.f95.body).getD .skip, 30, [.tmp 2], Zz62.A, Zz62.Q, fun y m => y.1, T0, [], [(10, [(0, .p (some (.int .u64))), (21, .p (some (.agg (.cons (.int .u64) (.cons (.int .u64) (.cons (.int .u64) (.cons (.int .u64) (.cons (.int .u64) (.cons (.int .u64) (.cons (.int .u64) (.cons (.int .u64) (.cons (.int .u64) (.cons (.int .u64) (.cons (.int .u64) (.cons (.int .u64) .nil))))))))))))))), (22, .p (some (.int .i64)))]), (4, [(0, .p (some (.int .u64))), (9, .p (some (.agg (.cons (.int .u64) (.cons (.int .u64) (.cons (.int .u64) (.cons (.int .u64) (.cons (.int .u64) (.cons (.int .u64) (.cons (.int .u64) (.cons (.int .u64) (.cons (.int .u64) (.cons (.int .u64) (.cons (.int .u64) (.cons (.int .u64) .nil))))))))))))))), (10, .p (some (.int .i64)))])], []⟩
noncomputable def Zz62.S (k : Nat) : List (Nat × E.Spec Bool) := [(104, told _ Zz65.A Zz65.Q (Zz65.g k) Zz65.h), (105, told _ Zz69.A Zz69.Q (Zz69.g k) Zz69.h)]
noncomputable def Zz62.l10 (k : Nat) (x0 x21_0 x21_1 x21_2 x21_3 x21_4 x21_5 x21_6 x21_7 x21_8 x21_9 x21_10 x21_11 x22 : Int) : Option Bool := Zz62.D.F Zz62.S k 21 [.p (.lit (.int .u64 x0)), .p (.agg [.lit (.int .u64 x21_0), .lit (.int .u64 x21_1), .lit (.int .u64 x21_2), .lit (.int .u64 x21_3), .lit (.int .u64 x21_4), .lit (.int .u64 x21_5), .lit (.int .u64 x21_6), .lit (.int .u64 x21_7), .lit (.int .u64 x21_8), .lit (.int .u64 x21_9), .lit (.int .u64 x21_10), .lit (.int .u64 x21_11)]), .p (.lit (.int .i64 x22))]
noncomputable def Zz62.l4 (k : Nat) (x0 x9_0 x9_1 x9_2 x9_3 x9_4 x9_5 x9_6 x9_7 x9_8 x9_9 x9_10 x9_11 x10 : Int) : Option Bool := Zz62.D.F Zz62.S k 9 [.p (.lit (.int .u64 x0)), .p (.agg [.lit (.int .u64 x9_0), .lit (.int .u64 x9_1), .lit (.int .u64 x9_2), .lit (.int .u64 x9_3), .lit (.int .u64 x9_4), .lit (.int .u64 x9_5), .lit (.int .u64 x9_6), .lit (.int .u64 x9_7), .lit (.int .u64 x9_8), .lit (.int .u64 x9_9), .lit (.int .u64 x9_10), .lit (.int .u64 x9_11)]), .p (.lit (.int .i64 x10))]
noncomputable def Zz62.f0 (k : Nat) (a0 : Int) : Option Bool := Zz62.D.val Zz62.S k (a0, ())
noncomputable def Zz62.f := (still Zz62.f0).1
theorem Zz62.f_def : Zz62.f = Zz62.f0 := (still Zz62.f0).2
noncomputable def Zz62.g (k : Nat) (x : Zz62.A.T) : Option Bool := Zz62.f k (x.1)
theorem Zz62.does (k : Nat) : Does PG 95 Zz62.A Zz62.Q (Zz62.g k) Zz62.h := (show Zz62.g k = Zz62.D.val Zz62.S k from funext fun _ => by unfold Zz62.g; rw [Zz62.f_def]; rfl) ▸ Decl.does (D := Zz62.D) (S := Zz62.S) (fn := Go.Proofs.Tryz.f95) (by constructor <;> first | kernel_rfl | exact TT.of_ok _ T0ex) (fun k => ⟨told_ok (Zz65.does k), ⟨told_ok (Zz69.does k), trivial⟩⟩) (fun _ _ h => by rw [h rfl]; rfl) k
def Zz64.A : AK := .p (.int .i64) (.p (.int .i64) (.p (.int .u64) .nil))
def Zz64.Q : RK := .o (.num .u64) 23 (.p (.int .i64) .nil)
def Zz64.h : (List Int × Int) → Zz64.Q.T × List Int := fun b => (((b.1), b.2, ()), [])
noncomputable def Zz64.D : Decl (List Int × Int) := ⟨(Go.Proofs.Tryz.f80.body).getD .skip, 58, [.tmp 6, .tmp 7], Zz64.A, Zz64.Q, fun y m => (y.1, y.2.1), T0, [], [(8, [(1, .p (some (.int .i64))), (8, .p (some (.int .u64))), (9, .m (.num .u64) 23), (10, .p (some (.int .u64)))])], []⟩
noncomputable def Zz64.S (k : Nat) : List (Nat × E.Spec (List Int × Int)) := [(95, told _ Zz62.A Zz62.Q (Zz62.g k) Zz62.h)]
noncomputable def Zz64.l8 (k : Nat) (x1 x8 : Int) (x9 : List Int) (x10 : Int) : Option (List Int × Int) := Zz64.D.F Zz64.S k 17 [.p (.lit (.int .i64 x1)), .p (.lit (.int .u64 x8)), .m x9, .p (.lit (.int .u64 x10))]
noncomputable def Zz64.f0 (k : Nat) (a0 a1 a2 : Int) : Option (List Int × Int) := Zz64.D.val Zz64.S k (a0, a1, a2, ())
noncomputable def Zz64.f := (still Zz64.f0).1
theorem Zz64.f_def : Zz64.f = Zz64.f0 := (still Zz64.f0).2
noncomputable def Zz64.g (k : Nat) (x : Zz64.A.T) : Option (List Int × Int) := Zz64.f k (x.1) (x.2.1) (x.2.2.1)
theorem Zz64.does (k : Nat) : Does PG 80 Zz64.A Zz64.Q (Zz64.g k) Zz64.h := (show Zz64.g k = Zz64.D.val Zz64.S k from funext fun _ => by unfold Zz64.g; rw [Zz64.f_def]; rfl) ▸ Decl.does (D := Zz64.D) (S := Zz64.S) (fn := Go.Proofs.Tryz.f80) (by constructor <;> first | kernel_rfl | exact TT.of_ok _ T0ex) (fun k => ⟨told_ok (Zz62.does k), trivial⟩) (fun _ _ h => by rw [h rfl]; rfl) k
def Zz113.A : AK := .p (.fp 77 (.cons (.int .u64) (.cons (.int .u64) (.cons (.int .u64) .nil)))) (.p (.int .u64) (.p (.int .u64) .nil))
def Zz113.Q : RK := .p (.int .u64) .nil
def Zz113.h : Int → Zz113.Q.T × List Int := fun b => ((b, ()), [])
noncomputable def Zz113.D : Decl Int := ⟨(Go.Proofs.Tryz.f89.body).getD .skip, 33, [.tmp 6], Zz113.A, Zz113.Q, fun y m => y.1, T0, [], [], []⟩
noncomputable def Zz113.S (k : Nat) : List (Nat × E.Spec Int) := []
noncomputable def Zz113.f0 (k : Nat) (a0_0 a0_1 a0_2 a1 a2 : Int) : Option Int := Zz113.D.val Zz113.S k ((a0_0, a0_1, a0_2, ()), a1, a2, ())
noncomputable def Zz113.f := (still Zz113.f0).1
theorem Zz113.f_def : Zz113.f = Zz113.f0 := (still Zz113.f0).2
noncomputable def Zz113.g (k : Nat) (x : Zz113.A.T) : Option Int := Zz113.f k (x.1.1) (x.1.2.1) (x.1.2.2.1) (x.2.1) (x.2.2.1)
theorem Zz113.does (k : Nat) : Does PG 89 Zz113.A Zz113.Q (Zz113.g k) Zz113.h := (show Zz113.g k = Zz113.D.val Zz113.S k from funext fun _ => by unfold Zz113.g; rw [Zz113.f_def]; rfl) ▸ Decl.does (D := Zz113.D) (S := Zz113.S) (fn := Go.Proofs.Tryz.f89) (by constructor <;> first | kernel_rfl | exact TT.of_ok _ T0ex) (fun k => trivial) (fun _ _ h => by rw [h rfl]; rfl) k
def Zz109.A : AK := .p (.fp 77 (.cons (.int .u64) (.cons (.int .u64) (.cons (.int .u64) .nil)))) (.p (.int .u64) .nil)
def Zz109.Q : RK := .p (.int .u64) (.p (.int .i64) .nil)
def Zz109.h : (Int × Int) → Zz109.Q.T × List Int := fun b => ((b.1, b.2, ()), [])
noncomputable def Zz109.D : Decl (Int × Int) := ⟨(Go.Proofs.Tryz.f88.body).getD .skip, 48, [.tmp 4, .tmp 5], Zz109.A, Zz109.Q, fun y m => (y.1, y.2.1), T0, [], [(8, [(0, .p (some (.fp 77 (.cons (.int .u64) (.cons (.int .u64) (.cons (.int .u64) .nil)))))), (6, .p (some (.int .u64))), (7, .p (some (.int .u64))), (8, .p (some (.int .u64))), (9, .p (some (.int .u64)))])], []⟩
noncomputable def Zz109.S (k : Nat) : List (Nat × E.Spec (Int × Int)) := [(45, told _ Zz110.A Zz110.Q (Zz110.g k) Zz110.h), (89, told _ Zz113.A Zz113.Q (Zz113.g k) Zz113.h)]
noncomputable def Zz109.l8 (k : Nat) (x0_0 x0_1 x0_2 x6 x7 x8 x9 : Int) : Option (Int × Int) := Zz109.D.F Zz109.S k 17 [.p (.fp 77 [.lit (.int .u64 x0_0), .lit (.int .u64 x0_1), .lit (.int .u64 x0_2)]), .p (.lit (.int .u64 x6)), .p (.lit (.int .u64 x7)), .p (.lit (.int .u64 x8)), .p (.lit (.int .u64 x9))]
noncomputable def Zz109.f0 (k : Nat) (a0_0 a0_1 a0_2 a1 : Int) : Option (Int × Int) := Zz109.D.val Zz109.S k ((a0_0, a0_1, a0_2, ()), a1, ())
noncomputable def Zz109.f := (still Zz109.f0).1
theorem Zz109.f_def : Zz109.f = Zz109.f0 := (still Zz109.f0).2
noncomputable def Zz109.g (k : Nat) (x : Zz109.A.T) : Option (Int × Int) := Zz109.f k (x.1.1) (x.1.2.1) (x.1.2.2.1) (x.2.1)
theorem Zz109.does (k : Nat) : Does PG 88 Zz109.A Zz109.Q (Zz109.g k) Zz109.h := (show Zz109.g k = Zz109.D.val Zz109.S k from funext fun _ => by unfold Zz109.g; rw [Zz109.f_def]; rfl) ▸ Decl.does (D := Zz109.D) (S := Zz109.S) (fn := Go.Proofs.Tryz.f88) (by constructor <;> first | kernel_rfl | exact TT.of_ok _ T0ex) (fun k => ⟨told_ok (Zz110.does k), ⟨told_ok (Zz113.does k), trivial⟩⟩) (fun _ _ h => by rw [h rfl]; rfl) k
def Zz66.A : AK := .p (.int .u64) .nil
def Zz66.Q : RK := .p (.np 77 (.cons (.int .u64) (.cons (.int .u64) (.cons (.int .u64) .nil)))) (.p (.int .i64) .nil)
def Zz66.h : ((Option (Int × Int × Int × Unit)) × Int) → Zz66.Q.T × List Int := fun b => ((b.1, b.2, ()), [])
noncomputable def Zz66.D : Decl ((Option (Int × Int × Int × Unit)) × Int) := ⟨(Go.Proofs.Tryz.f106.body).getD .skip, 15, [.tmp 2, .tmp 3], Zz66.A, Zz66.Q, fun y m => (y.1, y.2.1), T0, [], [], []⟩
noncomputable def Zz66.S (k : Nat) : List (Nat × E.Spec ((Option (Int × Int × Int × Unit)) × Int)) := [(27, told _ Zz114.A Zz114.Q (Zz114.g k) Zz114.h), (95, told _ Zz62.A Zz62.Q (Zz62.g k) Zz62.h)]
noncomputable def Zz66.f0 (k : Nat) (a0 : Int) : Option ((Option (Int × Int × Int × Unit)) × Int) := Zz66.D.val Zz66.S k (a0, ())
noncomputable def Zz66.f := (still Zz66.f0).1
theorem Zz66.f_def : Zz66.f = Zz66.f0 := (still Zz66.f0).2
noncomputable def Zz66.g (k : Nat) (x : Zz66.A.T) : Option ((Option (Int × Int × Int × Unit)) × Int) := Zz66.f k (x.1)
theorem Zz66.does (k : Nat) : Does PG 106 Zz66.A Zz66.Q (Zz66.g k) Zz66.h := (show Zz66.g k = Zz66.D.val Zz66.S k from funext fun _ => by unfold Zz66.g; rw [Zz66.f_def]; rfl) ▸ Decl.does (D := Zz66.D) (S := Zz66.S) (fn := Go.Proofs.Tryz.f106) (by constructor <;> first | kernel_rfl | exact TT.of_ok _ T0ex) (fun k => ⟨told_ok (Zz114.does k), ⟨told_ok (Zz62.does k), trivial⟩⟩) (fun _ _ h => by rw [h rfl]; rfl) k
def Zz111.A : AK := .p (.fp 77 (.cons (.int .u64) (.cons (.int .u64) (.cons (.int .u64) .nil)))) (.p (.int .u64) .nil)
def Zz111.Q : RK := .p (.int .u64) .nil
def Zz111.h : Int → Zz111.Q.T × List Int := fun b => ((b, ()), [])
noncomputable def Zz111.D : Decl Int := ⟨(Go.Proofs.Tryz.f48.body).getD .skip, 13, [.tmp 4], Zz111.A, Zz111.Q, fun y m => y.1, T0, [], [], []⟩
noncomputable def Zz111.S (k : Nat) : List (Nat × E.Spec Int) := []
noncomputable def Zz111.f0 (k : Nat) (a0_0 a0_1 a0_2 a1 : Int) : Option Int := Zz111.D.val Zz111.S k ((a0_0, a0_1, a0_2, ()), a1, ())
noncomputable def Zz111.f := (still Zz111.f0).1
theorem Zz111.f_def : Zz111.f = Zz111.f0 := (still Zz111.f0).2
noncomputable def Zz111.g (k : Nat) (x : Zz111.A.T) : Option Int := Zz111.f k (x.1.1) (x.1.2.1) (x.1.2.2.1) (x.2.1)
theorem Zz111.does (k : Nat) : Does PG 48 Zz111.A Zz111.Q (Zz111.g k) Zz111.h := (show Zz111.g k = Zz111.D.val Zz111.S k from funext fun _ => by unfold Zz111.g; rw [Zz111.f_def]; rfl) ▸ Decl.does (D := Zz111.D) (S := Zz111.S) (fn := Go.Proofs.Tryz.f48) (by constructor <;> first | kernel_rfl | exact TT.of_ok _ T0ex) (fun k => trivial) (fun _ _ h => by rw [h rfl]; rfl) k
def Zz112.A : AK := .p (.fp 77 (.cons (.int .u64) (.cons (.int .u64) (.cons (.int .u64) .nil)))) (.p (.int .u64) (.p (.int .u64) .nil))
def Zz112.Q : RK := .p (.int .u64) .nil
def Zz112.h : Int → Zz112.Q.T × List Int := fun b => ((b, ()), [])
noncomputable def Zz112.D : Decl Int := ⟨(Go.Proofs.Tryz.f107.body).getD .skip, 28, [.tmp 6], Zz112.A, Zz112.Q, fun y m => y.1, T0, [], [(2, [(0, .p (some (.fp 77 (.cons (.int .u64) (.cons (.int .u64) (.cons (.int .u64) .nil)))))), (1, .p (some (.int .u64))), (2, .p (some (.int .u64))), (7, .p (some (.int .u64)))])], []⟩
noncomputable def Zz112.S (k : Nat) : List (Nat × E.Spec Int) := [(45, told _ Zz110.A Zz110.Q (Zz110.g k) Zz110.h), (48, told _ Zz111.A Zz111.Q (Zz111.g k) Zz111.h)]
noncomputable def Zz112.l2 (k : Nat) (x0_0 x0_1 x0_2 x1 x2 x7 : Int) : Option Int := Zz112.D.F Zz112.S k 5 [.p (.fp 77 [.lit (.int .u64 x0_0), .lit (.int .u64 x0_1), .lit (.int .u64 x0_2)]), .p (.lit (.int .u64 x1)), .p (.lit (.int .u64 x2)), .p (.lit (.int .u64 x7))]
noncomputable def Zz112.f0 (k : Nat) (a0_0 a0_1 a0_2 a1 a2 : Int) : Option Int := Zz112.D.val Zz112.S k ((a0_0, a0_1, a0_2, ()), a1, a2, ())
noncomputable def Zz112.f := (still Zz112.f0).1
theorem Zz112.f_def : Zz112.f = Zz112.f0 := (still Zz112.f0).2
noncomputable def Zz112.g (k : Nat) (x : Zz112.A.T) : Option Int := Zz112.f k (x.1.1) (x.1.2.1) (x.1.2.2.1) (x.2.1) (x.2.2.1)
theorem Zz112.does (k : Nat) : Does PG 107 Zz112.A Zz112.Q (Zz112.g k) Zz112.h := (show Zz112.g k = Zz112.D.val Zz112.S k from funext fun _ => by unfold Zz112.g; rw [Zz112.f_def]; rfl) ▸ Decl.does (D := Zz112.D) (S := Zz112.S) (fn := Go.Proofs.Tryz.f107) (by constructor <;> first | kernel_rfl | exact TT.of_ok _ T0ex) (fun k => ⟨told_ok (Zz110.does k), ⟨told_ok (Zz111.does k), trivial⟩⟩) (fun _ _ h => by rw [h rfl]; rfl) k
def Zz68.A : AK := .p (.fp 77 (.cons (.int .u64) (.cons (.int .u64) (.cons (.int .u64) .nil)))) (.p (.int .u64) .nil)
def Zz68.Q : RK := .p (.int .i64) (.p (.bool) .nil)
def Zz68.h : (Int × Bool) → Zz68.Q.T × List Int := fun b => ((b.1, b.2, ()), [])
noncomputable def Zz68.D : Decl (Int × Bool) := ⟨(Go.Proofs.Tryz.f108.body).getD .skip, 18, [.tmp 4, .tmp 5], Zz68.A, Zz68.Q, fun y m => (y.1, y.2.1), T0, [], [(2, [(0, .p (some (.fp 77 (.cons (.int .u64) (.cons (.int .u64) (.cons (.int .u64) .nil)))))), (1, .p (some (.int .u64))), (7, .p (some (.int .i64)))])], []⟩
noncomputable def Zz68.S (k : Nat) : List (Nat × E.Spec (Int × Bool)) := [(45, told _ Zz110.A Zz110.Q (Zz110.g k) Zz110.h)]
noncomputable def Zz68.l2 (k : Nat) (x0_0 x0_1 x0_2 x1 x7 : Int) : Option (Int × Bool) := Zz68.D.F Zz68.S k 5 [.p (.fp 77 [.lit (.int .u64 x0_0), .lit (.int .u64 x0_1), .lit (.int .u64 x0_2)]), .p (.lit (.int .u64 x1)), .p (.lit (.int .i64 x7))]
noncomputable def Zz68.f0 (k : Nat) (a0_0 a0_1 a0_2 a1 : Int) : Option (Int × Bool) := Zz68.D.val Zz68.S k ((a0_0, a0_1, a0_2, ()), a1, ())
noncomputable def Zz68.f := (still Zz68.f0).1
theorem Zz68.f_def : Zz68.f = Zz68.f0 := (still Zz68.f0).2
noncomputable def Zz68.g (k : Nat) (x : Zz68.A.T) : Option (Int × Bool) := Zz68.f k (x.1.1) (x.1.2.1) (x.1.2.2.1) (x.2.1)
theorem Zz68.does (k : Nat) : Does PG 108 Zz68.A Zz68.Q (Zz68.g k) Zz68.h := (show Zz68.g k = Zz68.D.val Zz68.S k from funext fun _ => by unfold Zz68.g; rw [Zz68.f_def]; rfl) ▸ Decl.does (D := Zz68.D) (S := Zz68.S) (fn := Go.Proofs.Tryz.f108) (by constructor <;> first | kernel_rfl | exact TT.of_ok _ T0ex) (fun k => ⟨told_ok (Zz110.does k), trivial⟩) (fun _ _ h => by rw [h rfl]; rfl) k
def Zz63.A : AK := .p (.int .u64) (.p (.int .i64) .nil)
def Zz63.Q : RK := .p (.int .u64) (.p (.int .i64) .nil)
def Zz63.h : (Int × Int) → Zz63.Q.T × List Int := fun b => ((b.1, b.2, ()), [])
noncomputable def Zz63.D : Decl (Int × Int) := ⟨(Go.Proofs.Tryz.f96.body).getD .skip, 62, [.tmp 4, .tmp 5], Zz63.A, Zz63.Q, fun y m => (y.1, y.2.1), T0, [], [(8, [(0, .p (some (.int .u64))), (1, .p (some (.int .i64))), (6, .p (some (.fp 77 (.cons (.int .u64) (.cons (.int .u64) (.cons (.int .u64) .nil)))))), (8, .p (some (.int .u64)))])], []⟩
noncomputable def Zz63.S (k : Nat) : List (Nat × E.Spec (Int × Int)) := [(106, told _ Zz66.A Zz66.Q (Zz66.g k) Zz66.h), (107, told _ Zz112.A Zz112.Q (Zz112.g k) Zz112.h), (108, told _ Zz68.A Zz68.Q (Zz68.g k) Zz68.h)]
noncomputable def Zz63.l8 (k : Nat) (x0 x1 x6_0 x6_1 x6_2 x8 : Int) : Option (Int × Int) := Zz63.D.F Zz63.S k 17 [.p (.lit (.int .u64 x0)), .p (.lit (.int .i64 x1)), .p (.fp 77 [.lit (.int .u64 x6_0), .lit (.int .u64 x6_1), .lit (.int .u64 x6_2)]), .p (.lit (.int .u64 x8))]
noncomputable def Zz63.f0 (k : Nat) (a0 a1 : Int) : Option (Int × Int) := Zz63.D.val Zz63.S k (a0, a1, ())
noncomputable def Zz63.f := (still Zz63.f0).1
theorem Zz63.f_def : Zz63.f = Zz63.f0 := (still Zz63.f0).2
noncomputable def Zz63.g (k : Nat) (x : Zz63.A.T) : Option (Int × Int) := Zz63.f k (x.1) (x.2.1)
theorem Zz63.does (k : Nat) : Does PG 96 Zz63.A Zz63.Q (Zz63.g k) Zz63.h := (show Zz63.g k = Zz63.D.val Zz63.S k from funext fun _ => by unfold Zz63.g; rw [Zz63.f_def]; rfl) ▸ Decl.does (D := Zz63.D) (S := Zz63.S) (fn := Go.Proofs.Tryz.f96) (by constructor <;> first | kernel_rfl | exact TT.of_ok _ T0ex) (fun k => ⟨told_ok (Zz66.does k), ⟨told_ok (Zz112.does k), ⟨told_ok (Zz68.does k), trivial⟩⟩⟩) (fun _ _ h => by rw [h rfl]; rfl) k
def Zz73.A : AK := .p (.int .u64) (.p (.int .i64) .nil)
def Zz73.Q : RK := .p (.np 125 (.cons (.fp 77 (.cons (.int .u64) (.cons (.int .u64) (.cons (.int .u64) .nil)))) (.cons (.int .i64) (.cons (.row .u64) (.cons (.int .u64) .nil))))) (.p (.int .i64) .nil)
def Zz73.h : ((Option ((Int × Int × Int × Unit) × Int × List Int × Int × Unit)) × Int) → Zz73.Q.T × List Int := fun b => ((b.1, b.2, ()), [])
noncomputable def Zz73.D : Decl ((Option ((Int × Int × Int × Unit) × Int × List Int × Int × Unit)) × Int) := ⟨(Go.Proofs.Tryz.f81.body).getD .skip, 65, [.tmp 4, .tmp 5], Zz73.A, Zz73.Q, fun y m => (y.1, y.2.1), T0, [], [(11, [(1, .p (some (.int .i64))), (6, .p (some (.int .u64))), (7, .p (some (.int .i64))), (8, .p (some (.fp 77 (.cons (.int .u64) (.cons (.int .u64) (.cons (.int .u64) .nil)))))), (9, .p (some (.pt 7 0))), (10, .p (some (.int .i64))), (34, .m (.num .u64) 23), (36, .b (some (.cons (.fp 77 (.cons (.int .u64) (.cons (.int .u64) (.cons (.int .u64) .nil)))) (.cons (.int .i64) (.cons (.sl 6) (.cons (.int .u64) .nil))))))])], []⟩
noncomputable def Zz73.S (k : Nat) : List (Nat × E.Spec ((Option ((Int × Int × Int × Unit) × Int × List Int × Int × Unit)) × Int)) := [(27, told _ Zz114.A Zz114.Q (Zz114.g k) Zz114.h), (45, told _ Zz110.A Zz110.Q (Zz110.g k) Zz110.h), (88, told _ Zz109.A Zz109.Q (Zz109.g k) Zz109.h), (96, told _ Zz63.A Zz63.Q (Zz63.g k) Zz63.h)]
noncomputable def Zz73.l11 (k : Nat) (x1 x6 x7 x8_0 x8_1 x8_2 x10 : Int) (x34 : List Int) (x36_0 x36_1 x36_2 x36_3 x36_4 : Int) : Option ((Option ((Int × Int × Int × Unit) × Int × List Int × Int × Unit)) × Int) := Zz73.D.F Zz73.S k 23 [.p (.lit (.int .i64 x1)), .p (.lit (.int .u64 x6)), .p (.lit (.int .i64 x7)), .p (.fp 77 [.lit (.int .u64 x8_0), .lit (.int .u64 x8_1), .lit (.int .u64 x8_2)]), .p (.ptr 7 0), .p (.lit (.int .i64 x10)), .m x34, .b 125 [.fp 77 [.lit (.int .u64 x36_0), .lit (.int .u64 x36_1), .lit (.int .u64 x36_2)], .lit (.int .i64 x36_3), .sli 6, .lit (.int .u64 x36_4)]]
noncomputable def Zz73.f0 (k : Nat) (a0 a1 : Int) : Option ((Option ((Int × Int × Int × Unit) × Int × List Int × Int × Unit)) × Int) := Zz73.D.val Zz73.S k (a0, a1, ())
noncomputable def Zz73.f := (still Zz73.f0).1
theorem Zz73.f_def : Zz73.f = Zz73.f0 := (still Zz73.f0).2
noncomputable def Zz73.g (k : Nat) (x : Zz73.A.T) : Option ((Option ((Int × Int × Int × Unit) × Int × List Int × Int × Unit)) × Int) := Zz73.f k (x.1) (x.2.1)
theorem Zz73.does (k : Nat) : Does PG 81 Zz73.A Zz73.Q (Zz73.g k) Zz73.h := (show Zz73.g k = Zz73.D.val Zz73.S k from funext fun _ => by unfold Zz73.g; rw [Zz73.f_def]; rfl) ▸ Decl.does (D := Zz73.D) (S := Zz73.S) (fn := Go.Proofs.Tryz.f81) (by constructor <;> first | kernel_rfl | exact TT.of_ok _ T0ex) (fun k => ⟨told_ok (Zz114.does k), ⟨told_ok (Zz110.does k), ⟨told_ok (Zz109.does k), ⟨told_ok (Zz63.does k), trivial⟩⟩⟩⟩) (fun _ _ h => by rw [h rfl]; rfl) k
def Zz34.A : AK := .p (.int .i64) .nil
def Zz34.Q : RK := .p (.agg (.cons (.np 125 (.cons (.fp 77 (.cons (.int .u64) (.cons (.int .u64) (.cons (.int .u64) .nil)))) (.cons (.int .i64) (.cons (.row .u64) (.cons (.int .u64) .nil))))) (.cons (.np 125 (.cons (.fp 77 (.cons (.int .u64) (.cons (.int .u64) (.cons (.int .u64) .nil)))) (.cons (.int .i64) (.cons (.row .u64) (.cons (.int .u64) .nil))))) (.cons (.np 125 (.cons (.fp 77 (.cons (.int .u64) (.cons (.int .u64) (.cons (.int .u64) .nil)))) (.cons (.int .i64) (.cons (.row .u64) (.cons (.int .u64) .nil))))) .nil)))) (.o (.num .u64) 23 (.p (.int .i64) .nil))
def Zz34.h : ((Option ((Int × Int × Int × Unit) × Int × List Int × Int × Unit)) × (Option ((Int × Int × Int × Unit) × Int × List Int × Int × Unit)) × (Option ((Int × Int × Int × Unit) × Int × List Int × Int × Unit)) × List Int × Int) → Zz34.Q.T × List Int := fun b => (((b.1, b.2.1, b.2.2.1, ()), (b.2.2.2.1), b.2.2.2.2, ()), [])
noncomputable def Zz34.D : Decl ((Option ((Int × Int × Int × Unit) × Int × List Int × Int × Unit)) × (Option ((Int × Int × Int × Unit) × Int × List Int × Int × Unit)) × (Option ((Int × Int × Int × Unit) × Int × List Int × Int × Unit)) × List Int × Int) := ⟨(Go.Proofs.Tryz.f67.body).getD .skip, 47, [.cell 2 105, .tmp 3, .tmp 4], Zz34.A, Zz34.Q, fun y m => (y.1.1, y.1.2.1, y.1.2.2.1, y.2.1, y.2.2.1), T0, [], [(7, [(2, .b (some (.cons (.any) (.cons (.any) (.cons (.any) .nil))))), (5, .b (some (.cons (.np 125 (.cons (.fp 77 (.cons (.int .u64) (.cons (.int .u64) (.cons (.int .u64) .nil)))) (.cons (.int .i64) (.cons (.row .u64) (.cons (.int .u64) .nil))))) (.cons (.np 125 (.cons (.fp 77 (.cons (.int .u64) (.cons (.int .u64) (.cons (.int .u64) .nil)))) (.cons (.int .i64) (.cons (.row .u64) (.cons (.int .u64) .nil))))) (.cons (.np 125 (.cons (.fp 77 (.cons (.int .u64) (.cons (.int .u64) (.cons (.int .u64) .nil)))) (.cons (.int .i64) (.cons (.row .u64) (.cons (.int .u64) .nil))))) .nil))))), (6, .p (some (.int .i64))), (7, .m (.num .u64) 23), (25, .p (some (.sl 3))), (26, .p (some (.int .i64))), (27, .p (some (.int .i64)))])], []⟩
noncomputable def Zz34.S (k : Nat) : List (Nat × E.Spec ((Option ((Int × Int × Int × Unit) × Int × List Int × Int × Unit)) × (Option ((Int × Int × Int × Unit) × Int × List Int × Int × Unit)) × (Option ((Int × Int × Int × Unit) × Int × List Int × Int × Unit)) × List Int × Int)) := [(79, told _ Zz15.A Zz15.Q (Zz15.g k) Zz15.h), (80, told _ Zz64.A Zz64.Q (Zz64.g k) Zz64.h), (81, told _ Zz73.A Zz73.Q (Zz73.g k) Zz73.h)]
noncomputable def Zz34.l7 (k : Nat) (x5_0 : Option ((Int × Int × Int × Unit) × Int × List Int × Int × Unit)) (x5_1 : Option ((Int × Int × Int × Unit) × Int × List Int × Int × Unit)) (x5_2 : Option ((Int × Int × Int × Unit) × Int × List Int × Int × Unit)) (x6 : Int) (x7 : List Int) (x26 x27 : Int) : Option ((Option ((Int × Int × Int × Unit) × Int × List Int × Int × Unit)) × (Option ((Int × Int × Int × Unit) × Int × List Int × Int × Unit)) × (Option ((Int × Int × Int × Unit) × Int × List Int × Int × Unit)) × List Int × Int) := Zz34.D.F Zz34.S k 15 [.b 105 [.any, .any, .any], .b 105 [SK.put (.np 125 (.cons (.fp 77 (.cons (.int .u64) (.cons (.int .u64) (.cons (.int .u64) .nil)))) (.cons (.int .i64) (.cons (.row .u64) (.cons (.int .u64) .nil))))) x5_0, SK.put (.np 125 (.cons (.fp 77 (.cons (.int .u64) (.cons (.int .u64) (.cons (.int .u64) .nil)))) (.cons (.int .i64) (.cons (.row .u64) (.cons (.int .u64) .nil))))) x5_1, SK.put (.np 125 (.cons (.fp 77 (.cons (.int .u64) (.cons (.int .u64) (.cons (.int .u64) .nil)))) (.cons (.int .i64) (.cons (.row .u64) (.cons (.int .u64) .nil))))) x5_2], .p (.lit (.int .i64 x6)), .m x7, .p (.sli 3), .p (.lit (.int .i64 x26)), .p (.lit (.int .i64 x27))]
noncomputable def Zz34.f0 (k : Nat) (a0 : Int) : Option ((Option ((Int × Int × Int × Unit) × Int × List Int × Int × Unit)) × (Option ((Int × Int × Int × Unit) × Int × List Int × Int × Unit)) × (Option ((Int × Int × Int × Unit) × Int × List Int × Int × Unit)) × List Int × Int) := Zz34.D.val Zz34.S k (a0, ())
noncomputable def Zz34.f := (still Zz34.f0).1
theorem Zz34.f_def : Zz34.f = Zz34.f0 := (still Zz34.f0).2
noncomputable def Zz34.g (k : Nat) (x : Zz34.A.T) : Option ((Option ((Int × Int × Int × Unit) × Int × List Int × Int × Unit)) × (Option ((Int × Int × Int × Unit) × Int × List Int × Int × Unit)) × (Option ((Int × Int × Int × Unit) × Int × List Int × Int × Unit)) × List Int × Int) := Zz34.f k (x.1)
theorem Zz34.does (k : Nat) : Does PG 67 Zz34.A Zz34.Q (Zz34.g k) Zz34.h := (show Zz34.g k = Zz34.D.val Zz34.S k from funext fun _ => by unfold Zz34.g; rw [Zz34.f_def]; rfl) ▸ Decl.does (D := Zz34.D) (S := Zz34.S) (fn := Go.Proofs.Tryz.f67) (by constructor <;> first | kernel_rfl | exact TT.of_ok _ T0ex) (fun k => ⟨told_ok (Zz15.does k), ⟨told_ok (Zz64.does k), ⟨told_ok (Zz73.does k), trivial⟩⟩⟩) (fun _ _ h => by rw [h rfl]; rfl) k
def Zz76.A : AK := .p (.np 125 (.cons (.fp 77 (.cons (.int .u64) (.cons (.int .u64) (.cons (.int .u64) .nil)))) (.cons (.int .i64) (.cons (.row .u64) (.cons (.int .u64) .nil))))) .nil
def Zz76.Q : RK := .p (.int .i64) .nil
def Zz76.h : Int → Zz76.Q.T × List Int := fun b => ((b, ()), [])
noncomputable def Zz76.D : Decl Int := ⟨(Go.Proofs.Tryz.f82.body).getD .skip, 11, [.tmp 2], Zz76.A, Zz76.Q, fun y m => y.1, T0, [], [], []⟩
noncomputable def Zz76.S (k : Nat) : List (Nat × E.Spec Int) := []
noncomputable def Zz76.f0 (k : Nat) (a0 : Option ((Int × Int × Int × Unit) × Int × List Int × Int × Unit)) : Option Int := Zz76.D.val Zz76.S k (a0, ())
noncomputable def Zz76.f := (still Zz76.f0).1
theorem Zz76.f_def : Zz76.f = Zz76.f0 := (still Zz76.f0).2
noncomputable def Zz76.g (k : Nat) (x : Zz76.A.T) : Option Int := Zz76.f k (x.1)
theorem Zz76.does (k : Nat) : Does PG 82 Zz76.A Zz76.Q (Zz76.g k) Zz76.h := (show Zz76.g k = Zz76.D.val Zz76.S k from funext fun _ => by unfold Zz76.g; rw [Zz76.f_def]; rfl) ▸ Decl.does (D := Zz76.D) (S := Zz76.S) (fn := Go.Proofs.Tryz.f82) (by constructor <;> first | kernel_rfl | exact TT.of_ok _ T0ex) (fun k => trivial) (fun _ _ h => by rw [h rfl]; rfl) k
def Zz108.A : AK := .p (.fp 77 (.cons (.int .u64) (.cons (.int .u64) (.cons (.int .u64) .nil)))) (.p (.int .u64) (.p (.int .u64) .nil))
def Zz108.Q : RK := .p (.int .u64) .nil
def Zz108.h : Int → Zz108.Q.T × List Int := fun b => ((b, ()), [])
noncomputable def Zz108.D : Decl Int := ⟨(Go.Proofs.Tryz.f109.body).getD .skip, 36, [.tmp 6], Zz108.A, Zz108.Q, fun y m => y.1, T0, [], [], []⟩
noncomputable def Zz108.S (k : Nat) : List (Nat × E.Spec Int) := []
noncomputable def Zz108.f0 (k : Nat) (a0_0 a0_1 a0_2 a1 a2 : Int) : Option Int := Zz108.D.val Zz108.S k ((a0_0, a0_1, a0_2, ()), a1, a2, ())
noncomputable def Zz108.f := (still Zz108.f0).1
theorem Zz108.f_def : Zz108.f = Zz108.f0 := (still Zz108.f0).2
noncomputable def Zz108.g (k : Nat) (x : Zz108.A.T) : Option Int := Zz108.f k (x.1.1) (x.1.2.1) (x.1.2.2.1) (x.2.1) (x.2.2.1)
theorem Zz108.does (k : Nat) : Does PG 109 Zz108.A Zz108.Q (Zz108.g k) Zz108.h := (show Zz108.g k = Zz108.D.val Zz108.S k from funext fun _ => by unfold Zz108.g; rw [Zz108.f_def]; rfl) ▸ Decl.does (D := Zz108.D) (S := Zz108.S) (fn := Go.Proofs.Tryz.f109) (by constructor <;> first | kernel_rfl | exact TT.of_ok _ T0ex) (fun k => trivial) (fun _ _ h => by rw [h rfl]; rfl) k
def Zz80.A : AK := .p (.np 125 (.cons (.fp 77 (.cons (.int .u64) (.cons (.int .u64) (.cons (.int .u64) .nil)))) (.cons (.int .i64) (.cons (.row .u64) (.cons (.int .u64) .nil))))) (.p (.int .i64) (.p (.int .u64) .nil))
def Zz80.Q : RK := .p (.agg (.cons (.int .i64) (.cons (.int .u64) (.cons (.int .u64) .nil)))) .nil
def Zz80.h : (Int × Int × Int) → Zz80.Q.T × List Int := fun b => (((b.1, b.2.1, b.2.2, ()), ()), [])
noncomputable def Zz80.D : Decl (Int × Int × Int) := ⟨(Go.Proofs.Tryz.f99.body).getD .skip, 25, [.cell 6 135], Zz80.A, Zz80.Q, fun y m => (y.1.1, y.1.2.1, y.1.2.2.1), T0, [], [(3, [(0, .p (some (.fp 125 (.cons (.fp 77 (.cons (.int .u64) (.cons (.int .u64) (.cons (.int .u64) .nil)))) (.cons (.int .i64) (.cons (.row .u64) (.cons (.int .u64) .nil))))))), (1, .p (some (.int .i64))), (2, .p (some (.int .u64))), (6, .b (some (.cons (.int .i64) (.cons (.int .u64) (.cons (.int .u64) .nil))))), (7, .p (some (.int .u64))), (10, .p (some (.int .i64))), (11, .p (some (.int .i64)))])], []⟩
noncomputable def Zz80.S (k : Nat) : List (Nat × E.Spec (Int × Int × Int)) := [(45, told _ Zz110.A Zz110.Q (Zz110.g k) Zz110.h)]
noncomputable def Zz80.l3 (k : Nat) (x0_0 x0_1 x0_2 x0_3 : Int) (x0_4 : List Int) (x0_5 x1 x2 x6_0 x6_1 x6_2 x7 x10 x11 : Int) : Option (Int × Int × Int) := Zz80.D.F Zz80.S k 7 [.p (.fp 125 [.fp 77 [.lit (.int .u64 x0_0), .lit (.int .u64 x0_1), .lit (.int .u64 x0_2)], .lit (.int .i64 x0_3), .row .u64 x0_4, .lit (.int .u64 x0_5)]), .p (.lit (.int .i64 x1)), .p (.lit (.int .u64 x2)), .b 135 [.lit (.int .i64 x6_0), .lit (.int .u64 x6_1), .lit (.int .u64 x6_2)], .p (.lit (.int .u64 x7)), .p (.lit (.int .i64 x10)), .p (.lit (.int .i64 x11))]
noncomputable def Zz80.f0 (k : Nat) (a0 : Option ((Int × Int × Int × Unit) × Int × List Int × Int × Unit)) (a1 a2 : Int) : Option (Int × Int × Int) := Zz80.D.val Zz80.S k (a0, a1, a2, ())
noncomputable def Zz80.f := (still Zz80.f0).1
theorem Zz80.f_def : Zz80.f = Zz80.f0 := (still Zz80.f0).2
noncomputable def Zz80.g (k : Nat) (x : Zz80.A.T) : Option (Int × Int × Int) := Zz80.f k (x.1) (x.2.1) (x.2.2.1)
theorem Zz80.does (k : Nat) : Does PG 99 Zz80.A Zz80.Q (Zz80.g k) Zz80.h := (show Zz80.g k = Zz80.D.val Zz80.S k from funext fun _ => by unfold Zz80.g; rw [Zz80.f_def]; rfl) ▸ Decl.does (D := Zz80.D) (S := Zz80.S) (fn := Go.Proofs.Tryz.f99) (by constructor <;> first | kernel_rfl | exact TT.of_ok _ T0ex) (fun k => ⟨told_ok (Zz110.does k), trivial⟩) (fun _ _ h => by rw [h rfl]; rfl) k
def Zz78.A : AK := .p (.np 125 (.cons (.fp 77 (.cons (.int .u64) (.cons (.int .u64) (.cons (.int .u64) .nil)))) (.cons (.int .i64) (.cons (.row .u64) (.cons (.int .u64) .nil))))) (.p (.agg (.cons (.int .i64) (.cons (.int .u64) (.cons (.int .u64) .nil)))) .nil)
def Zz78.Q : RK := .p (.agg (.cons (.int .i64) (.cons (.int .u64) (.cons (.int .u64) .nil)))) .nil
def Zz78.h : (Int × Int × Int) → Zz78.Q.T × List Int := fun b => (((b.1, b.2.1, b.2.2, ()), ()), [])
noncomputable def Zz78.D : Decl (Int × Int × Int) := ⟨(Go.Proofs.Tryz.f110.body).getD .skip, 12, [.cell 4 135], Zz78.A, Zz78.Q, fun y m => (y.1.1, y.1.2.1, y.1.2.2.1), T0, [], [], []⟩
noncomputable def Zz78.S (k : Nat) : List (Nat × E.Spec (Int × Int × Int)) := [(99, told _ Zz80.A Zz80.Q (Zz80.g k) Zz80.h)]
noncomputable def Zz78.f0 (k : Nat) (a0 : Option ((Int × Int × Int × Unit) × Int × List Int × Int × Unit)) (a1_0 a1_1 a1_2 : Int) : Option (Int × Int × Int) := Zz78.D.val Zz78.S k (a0, (a1_0, a1_1, a1_2, ()), ())
noncomputable def Zz78.f := (still Zz78.f0).1
theorem Zz78.f_def : Zz78.f = Zz78.f0 := (still Zz78.f0).2
noncomputable def Zz78.g (k : Nat) (x : Zz78.A.T) : Option (Int × Int × Int) := Zz78.f k (x.1) (x.2.1.1) (x.2.1.2.1) (x.2.1.2.2.1)
theorem Zz78.does (k : Nat) : Does PG 110 Zz78.A Zz78.Q (Zz78.g k) Zz78.h := (show Zz78.g k = Zz78.D.val Zz78.S k from funext fun _ => by unfold Zz78.g; rw [Zz78.f_def]; rfl) ▸ Decl.does (D := Zz78.D) (S := Zz78.S) (fn := Go.Proofs.Tryz.f110) (by constructor <;> first | kernel_rfl | exact TT.of_ok _ T0ex) (fun k => ⟨told_ok (Zz80.does k), trivial⟩) (fun _ _ h => by rw [h rfl]; rfl) k
def Zz82.A : AK := .p (.np 125 (.cons (.fp 77 (.cons (.int .u64) (.cons (.int .u64) (.cons (.int .u64) .nil)))) (.cons (.int .i64) (.cons (.row .u64) (.cons (.int .u64) .nil))))) (.p (.agg (.cons (.int .i64) (.cons (.int .u64) (.cons (.int .u64) .nil)))) .nil)
def Zz82.Q : RK := .p (.agg (.cons (.int .i64) (.cons (.int .u64) (.cons (.int .u64) .nil)))) .nil
def Zz82.h : (Int × Int × Int) → Zz82.Q.T × List Int := fun b => (((b.1, b.2.1, b.2.2, ()), ()), [])
noncomputable def Zz82.D : Decl (Int × Int × Int) := ⟨(Go.Proofs.Tryz.f111.body).getD .skip, 25, [.cell 4 135], Zz82.A, Zz82.Q, fun y m => (y.1.1, y.1.2.1, y.1.2.2.1), T0, [], [], []⟩
noncomputable def Zz82.S (k : Nat) : List (Nat × E.Spec (Int × Int × Int)) := [(45, told _ Zz110.A Zz110.Q (Zz110.g k) Zz110.h), (99, told _ Zz80.A Zz80.Q (Zz80.g k) Zz80.h)]
noncomputable def Zz82.f0 (k : Nat) (a0 : Option ((Int × Int × Int × Unit) × Int × List Int × Int × Unit)) (a1_0 a1_1 a1_2 : Int) : Option (Int × Int × Int) := Zz82.D.val Zz82.S k (a0, (a1_0, a1_1, a1_2, ()), ())
noncomputable def Zz82.f := (still Zz82.f0).1
theorem Zz82.f_def : Zz82.f = Zz82.f0 := (still Zz82.f0).2
noncomputable def Zz82.g (k : Nat) (x : Zz82.A.T) : Option (Int × Int × Int) := Zz82.f k (x.1) (x.2.1.1) (x.2.1.2.1) (x.2.1.2.2.1)
theorem Zz82.does (k : Nat) : Does PG 111 Zz82.A Zz82.Q (Zz82.g k) Zz82.h := (show Zz82.g k = Zz82.D.val Zz82.S k from funext fun _ => by unfold Zz82.g; rw [Zz82.f_def]; rfl) ▸ Decl.does (D := Zz82.D) (S := Zz82.S) (fn := Go.Proofs.Tryz.f111) (by constructor <;> first | kernel_rfl | exact TT.of_ok _ T0ex) (fun k => ⟨told_ok (Zz110.does k), ⟨told_ok (Zz80.does k), trivial⟩⟩) (fun _ _ h => by rw [h rfl]; rfl) k
def Zz83.A : AK := .p (.np 125 (.cons (.fp 77 (.cons (.int .u64) (.cons (.int .u64) (.cons (.int .u64) .nil)))) (.cons (.int .i64) (.cons (.row .u64) (.cons (.int .u64) .nil))))) (.p (.row .u64) (.p (.agg (.cons (.int .i64) (.cons (.int .u64) (.cons (.int .u64) .nil)))) (.p (.int .i64) .nil)))
def Zz83.Q : RK := .o (.num .u64) 23 .nil
def Zz83.h : List Int → Zz83.Q.T × List Int := fun b => (((b), ()), [])
noncomputable def Zz83.D : Decl (List Int) := ⟨(Go.Proofs.Tryz.f97.body).getD .skip, 101, [.tmp 8], Zz83.A, Zz83.Q, fun y m => y.1, T0, [], [(8, [(0, .p (some (.fp 125 (.cons (.fp 77 (.cons (.int .u64) (.cons (.int .u64) (.cons (.int .u64) .nil)))) (.cons (.int .i64) (.cons (.row .u64) (.cons (.int .u64) .nil))))))), (1, .p (some (.row .u64))), (3, .p (some (.int .i64))), (6, .b (some (.cons (.int .i64) (.cons (.int .u64) (.cons (.int .u64) .nil))))), (9, .p (some (.int .i64))), (10, .m (.num .u64) 23), (11, .m (.num .u64) 23), (33, .p (some (.int .i64))), (34, .p (some (.int .i64)))])], [(13, [10]), (15, [11])]⟩
def Zz83.rg (R : (Option ((Int × Int × Int × Unit) × Int × List Int × Int × Unit)) → (List Int) → Int → Int → Int → Int → Option (List Int)) (x : Zz83.A.T) : Option (List Int) := R (x.1) (x.2.1) (x.2.2.1.1) (x.2.2.1.2.1) (x.2.2.1.2.2.1) (x.2.2.2.1)
noncomputable def Zz83.S (R : (Option ((Int × Int × Int × Unit) × Int × List Int × Int × Unit)) → (List Int) → Int → Int → Int → Int → Option (List Int)) (k : Nat) : List (Nat × E.Spec (List Int)) := [(45, told _ Zz110.A Zz110.Q (Zz110.g k) Zz110.h), (89, told _ Zz113.A Zz113.Q (Zz113.g k) Zz113.h), (97, told _ Zz83.A Zz83.Q (Zz83.rg R) Zz83.h), (109, told _ Zz108.A Zz108.Q (Zz108.g k) Zz108.h), (110, told _ Zz78.A Zz78.Q (Zz78.g k) Zz78.h), (111, told _ Zz82.A Zz82.Q (Zz82.g k) Zz82.h)]
noncomputable def Zz83.l8 (R : (Option ((Int × Int × Int × Unit) × Int × List Int × Int × Unit)) → (List Int) → Int → Int → Int → Int → Option (List Int)) (k : Nat) (x0_0 x0_1 x0_2 x0_3 : Int) (x0_4 : List Int) (x0_5 : Int) (x1 : List Int) (x3 x6_0 x6_1 x6_2 x9 : Int) (x10 x11 : List Int) (x33 x34 : Int) : Option (List Int) := Zz83.D.F (Zz83.S R) k 17 [.p (.fp 125 [.fp 77 [.lit (.int .u64 x0_0), .lit (.int .u64 x0_1), .lit (.int .u64 x0_2)], .lit (.int .i64 x0_3), .row .u64 x0_4, .lit (.int .u64 x0_5)]), .p (.row .u64 x1), .p (.lit (.int .i64 x3)), .b 135 [.lit (.int .i64 x6_0), .lit (.int .u64 x6_1), .lit (.int .u64 x6_2)], .p (.lit (.int .i64 x9)), .m x10, .m x11, .p (.lit (.int .i64 x33)), .p (.lit (.int .i64 x34))]
noncomputable def Zz83.v (R : (Option ((Int × Int × Int × Unit) × Int × List Int × Int × Unit)) → (List Int) → Int → Int → Int → Int → Option (List Int)) (k : Nat) (a0 : Option ((Int × Int × Int × Unit) × Int × List Int × Int × Unit)) (a1 : List Int) (a2_0 a2_1 a2_2 a3 : Int) : Option (List Int) := Zz83.D.val (Zz83.S R) k (a0, a1, (a2_0, a2_1, a2_2, ()), a3, ())
noncomputable def Zz83.rc : Nat → (Option ((Int × Int × Int × Unit) × Int × List Int × Int × Unit)) → (List Int) → Int → Int → Int → Int → Option (List Int)
 | 0 => fun _ _ _ _ _ _ => none
 | q + 1 => fun a0 a1 a2_0 a2_1 a2_2 a3 => Zz83.v (Zz83.rc q) q a0 a1 a2_0 a2_1 a2_2 a3
theorem Zz83.rdoes : ∀ q : Nat, Does PG 97 Zz83.A Zz83.Q (Zz83.rg (Zz83.rc q)) Zz83.h
 | 0 => fun _ _ h => by cases h
 | q + 1 => by
  have hR := Zz83.rdoes q
  generalize hr : Zz83.rc q = R at hR
  have e : Zz83.rg (Zz83.rc (q + 1)) = Zz83.D.val (Zz83.S R) q := by rw [← hr]; rfl
  rw [e]
  exact Decl.does (D := Zz83.D) (S := Zz83.S R) (fn := Go.Proofs.Tryz.f97) (by constructor <;> first | kernel_rfl | exact TT.of_ok _ T0ex) (fun k => ⟨told_ok (Zz110.does k), ⟨told_ok (Zz113.does k), ⟨told_ok hR, ⟨told_ok (Zz108.does k), ⟨told_ok (Zz78.does k), ⟨told_ok (Zz82.does k), trivial⟩⟩⟩⟩⟩⟩) (fun _ _ h => by rw [h rfl]; rfl) q
noncomputable def Zz83.f0 (k : Nat) (a0 : Option ((Int × Int × Int × Unit) × Int × List Int × Int × Unit)) (a1 : List Int) (a2_0 a2_1 a2_2 a3 : Int) : Option (List Int) := Zz83.rc k a0 a1 a2_0 a2_1 a2_2 a3
noncomputable def Zz83.f := (still Zz83.f0).1
theorem Zz83.f_def : Zz83.f = Zz83.f0 := (still Zz83.f0).2
noncomputable def Zz83.g (k : Nat) (x : Zz83.A.T) : Option (List Int) := Zz83.f k (x.1) (x.2.1) (x.2.2.1.1) (x.2.2.1.2.1) (x.2.2.1.2.2.1) (x.2.2.2.1)
theorem Zz83.f_rc (k : Nat) : Zz83.f k = Zz83.rc k := by rw [Zz83.f_def]; rfl
theorem Zz83.f_succ (k : Nat) (a0 : Option ((Int × Int × Int × Unit) × Int × List Int × Int × Unit)) (a1 : List Int) (a2_0 a2_1 a2_2 a3 : Int) : Zz83.f (k + 1) a0 a1 a2_0 a2_1 a2_2 a3 = Zz83.v (Zz83.f k) k a0 a1 a2_0 a2_1 a2_2 a3 := by rw [Zz83.f_rc, Zz83.f_rc]; rfl
theorem Zz83.does (k : Nat) : Does PG 97 Zz83.A Zz83.Q (Zz83.g k) Zz83.h := (show Zz83.g k = Zz83.rg (Zz83.rc k) from funext fun _ => by unfold Zz83.g; rw [Zz83.f_rc]; rfl) ▸ Zz83.rdoes k
def Zz81.A : AK := .p (.np 125 (.cons (.fp 77 (.cons (.int .u64) (.cons (.int .u64) (.cons (.int .u64) .nil)))) (.cons (.int .i64) (.cons (.row .u64) (.cons (.int .u64) .nil))))) (.p (.row .u64) .nil)
def Zz81.Q : RK := .p (.row .u64) .nil
def Zz81.h : List Int → Zz81.Q.T × List Int := fun b => ((b, ()), [])
noncomputable def Zz81.D : Decl (List Int) := ⟨(Go.Proofs.Tryz.f98.body).getD .skip, 29, [.tmp 4], Zz81.A, Zz81.Q, fun y m => y.1, T0, [], [(3, [(0, .p (some (.fp 125 (.cons (.fp 77 (.cons (.int .u64) (.cons (.int .u64) (.cons (.int .u64) .nil)))) (.cons (.int .i64) (.cons (.row .u64) (.cons (.int .u64) .nil))))))), (5, .m (.num .u64) 23), (11, .p (some (.row .u64))), (12, .p (some (.int .i64))), (13, .p (some (.int .i64)))])], []⟩
noncomputable def Zz81.S (k : Nat) : List (Nat × E.Spec (List Int)) := [(48, told _ Zz111.A Zz111.Q (Zz111.g k) Zz111.h), (82, told _ Zz76.A Zz76.Q (Zz76.g k) Zz76.h)]
noncomputable def Zz81.l3 (k : Nat) (x0_0 x0_1 x0_2 x0_3 : Int) (x0_4 : List Int) (x0_5 : Int) (x5 x11 : List Int) (x12 x13 : Int) : Option (List Int) := Zz81.D.F Zz81.S k 7 [.p (.fp 125 [.fp 77 [.lit (.int .u64 x0_0), .lit (.int .u64 x0_1), .lit (.int .u64 x0_2)], .lit (.int .i64 x0_3), .row .u64 x0_4, .lit (.int .u64 x0_5)]), .m x5, .p (.row .u64 x11), .p (.lit (.int .i64 x12)), .p (.lit (.int .i64 x13))]
noncomputable def Zz81.f0 (k : Nat) (a0 : Option ((Int × Int × Int × Unit) × Int × List Int × Int × Unit)) (a1 : List Int) : Option (List Int) := Zz81.D.val Zz81.S k (a0, a1, ())
noncomputable def Zz81.f := (still Zz81.f0).1
theorem Zz81.f_def : Zz81.f = Zz81.f0 := (still Zz81.f0).2
noncomputable def Zz81.g (k : Nat) (x : Zz81.A.T) : Option (List Int) := Zz81.f k (x.1) (x.2.1)
theorem Zz81.does (k : Nat) : Does PG 98 Zz81.A Zz81.Q (Zz81.g k) Zz81.h := (show Zz81.g k = Zz81.D.val Zz81.S k from funext fun _ => by unfold Zz81.g; rw [Zz81.f_def]; rfl) ▸ Decl.does (D := Zz81.D) (S := Zz81.S) (fn := Go.Proofs.Tryz.f98) (by constructor <;> first | kernel_rfl | exact TT.of_ok _ T0ex) (fun k => ⟨told_ok (Zz111.does k), ⟨told_ok (Zz76.does k), trivial⟩⟩) (fun _ _ h => by rw [h rfl]; rfl) k
def Zz75.A : AK := .p (.np 125 (.cons (.fp 77 (.cons (.int .u64) (.cons (.int .u64) (.cons (.int .u64) .nil)))) (.cons (.int .i64) (.cons (.row .u64) (.cons (.int .u64) .nil))))) (.p (.row .u64) (.p (.int .i64) .nil))
def Zz75.Q : RK := .o (.num .u64) 23 (.p (.int .i64) .nil)
def Zz75.h : (List Int × Int) → Zz75.Q.T × List Int := fun b => (((b.1), b.2, ()), [])
noncomputable def Zz75.D : Decl (List Int × Int) := ⟨(Go.Proofs.Tryz.f83.body).getD .skip, 38, [.tmp 6, .tmp 7], Zz75.A, Zz75.Q, fun y m => (y.1, y.2.1), T0, [], [], []⟩
noncomputable def Zz75.S (k : Nat) : List (Nat × E.Spec (List Int × Int)) := [(82, told _ Zz76.A Zz76.Q (Zz76.g k) Zz76.h), (97, told _ Zz83.A Zz83.Q (Zz83.g k) Zz83.h), (98, told _ Zz81.A Zz81.Q (Zz81.g k) Zz81.h), (99, told _ Zz80.A Zz80.Q (Zz80.g k) Zz80.h)]
noncomputable def Zz75.f0 (k : Nat) (a0 : Option ((Int × Int × Int × Unit) × Int × List Int × Int × Unit)) (a1 : List Int) (a2 : Int) : Option (List Int × Int) := Zz75.D.val Zz75.S k (a0, a1, a2, ())
noncomputable def Zz75.f := (still Zz75.f0).1
theorem Zz75.f_def : Zz75.f = Zz75.f0 := (still Zz75.f0).2
noncomputable def Zz75.g (k : Nat) (x : Zz75.A.T) : Option (List Int × Int) := Zz75.f k (x.1) (x.2.1) (x.2.2.1)
theorem Zz75.does (k : Nat) : Does PG 83 Zz75.A Zz75.Q (Zz75.g k) Zz75.h := (show Zz75.g k = Zz75.D.val Zz75.S k from funext fun _ => by unfold Zz75.g; rw [Zz75.f_def]; rfl) ▸ Decl.does (D := Zz75.D) (S := Zz75.S) (fn := Go.Proofs.Tryz.f83) (by constructor <;> first | kernel_rfl | exact TT.of_ok _ T0ex) (fun k => ⟨told_ok (Zz76.does k), ⟨told_ok (Zz83.does k), ⟨told_ok (Zz81.does k), ⟨told_ok (Zz80.does k), trivial⟩⟩⟩⟩) (fun _ _ h => by rw [h rfl]; rfl) k
def Zz84.A : AK := .p (.np 125 (.cons (.fp 77 (.cons (.int .u64) (.cons (.int .u64) (.cons (.int .u64) .nil)))) (.cons (.int .i64) (.cons (.row .u64) (.cons (.int .u64) .nil))))) (.p (.row .u64) (.p (.row .u64) (.p (.agg (.cons (.int .i64) (.cons (.int .u64) (.cons (.int .u64) .nil)))) .nil)))
def Zz84.Q : RK := .p (.row .u64) .nil
def Zz84.h : List Int → Zz84.Q.T × List Int := fun b => ((b, ()), [])
noncomputable def Zz84.D : Decl (List Int) := ⟨(Go.Proofs.Tryz.f100.body).getD .skip, 181, [.tmp 8], Zz84.A, Zz84.Q, fun y m => y.1, T0, [], [(21, [(0, .p (some (.fp 125 (.cons (.fp 77 (.cons (.int .u64) (.cons (.int .u64) (.cons (.int .u64) .nil)))) (.cons (.int .i64) (.cons (.row .u64) (.cons (.int .u64) .nil))))))), (10, .p (some (.int .i64))), (11, .p (some (.row .u64))), (16, .p (some (.row .u64))), (17, .p (some (.int .u64))), (19, .m (.num .u64) 23), (117, .p (some (.int .i64))), (118, .p (some (.int .i64)))]), (13, [(0, .p (some (.fp 125 (.cons (.fp 77 (.cons (.int .u64) (.cons (.int .u64) (.cons (.int .u64) .nil)))) (.cons (.int .i64) (.cons (.row .u64) (.cons (.int .u64) .nil))))))), (1, .p (some (.row .u64))), (7, .b (some (.cons (.int .i64) (.cons (.int .u64) (.cons (.int .u64) .nil))))), (9, .p (some (.int .i64))), (10, .p (some (.int .i64))), (11, .p (some (.row .u64))), (12, .m (.num .u64) 23), (13, .p (some (.int .u64))), (64, .p (some (.row .u64))), (65, .p (some (.int .i64))), (66, .p (some (.int .i64)))])], [(17, [12])]⟩
def Zz84.rg (R : (Option ((Int × Int × Int × Unit) × Int × List Int × Int × Unit)) → (List Int) → (List Int) → Int → Int → Int → Option (List Int)) (x : Zz84.A.T) : Option (List Int) := R (x.1) (x.2.1) (x.2.2.1) (x.2.2.2.1.1) (x.2.2.2.1.2.1) (x.2.2.2.1.2.2.1)
def Zz79.A : AK := .p (.np 125 (.cons (.fp 77 (.cons (.int .u64) (.cons (.int .u64) (.cons (.int .u64) .nil)))) (.cons (.int .i64) (.cons (.row .u64) (.cons (.int .u64) .nil))))) (.p (.row .u64) (.p (.row .u64) (.p (.agg (.cons (.int .i64) (.cons (.int .u64) (.cons (.int .u64) .nil)))) (.p (.int .i64) .nil))))
def Zz79.Q : RK := .o (.num .u64) 23 .nil
def Zz79.h : List Int → Zz79.Q.T × List Int := fun b => (((b), ()), [])
noncomputable def Zz79.D : Decl (List Int) := ⟨(Go.Proofs.Tryz.f112.body).getD .skip, 104, [.tmp 10], Zz79.A, Zz79.Q, fun y m => y.1, T0, [], [(11, [(0, .p (some (.fp 125 (.cons (.fp 77 (.cons (.int .u64) (.cons (.int .u64) (.cons (.int .u64) .nil)))) (.cons (.int .i64) (.cons (.row .u64) (.cons (.int .u64) .nil))))))), (4, .p (some (.int .i64))), (8, .b (some (.cons (.int .i64) (.cons (.int .u64) (.cons (.int .u64) .nil))))), (12, .p (some (.row .u64))), (15, .p (some (.row .u64))), (16, .m (.num .u64) 23), (66, .p (some (.int .i64))), (67, .p (some (.int .i64)))]), (5, [(0, .p (some (.fp 125 (.cons (.fp 77 (.cons (.int .u64) (.cons (.int .u64) (.cons (.int .u64) .nil)))) (.cons (.int .i64) (.cons (.row .u64) (.cons (.int .u64) .nil))))))), (1, .p (some (.row .u64))), (2, .p (some (.row .u64))), (4, .p (some (.int .i64))), (8, .b (some (.cons (.int .i64) (.cons (.int .u64) (.cons (.int .u64) .nil))))), (11, .p (some (.int .i64))), (12, .p (some (.row .u64))), (13, .m (.num .u64) 23), (14, .p (some (.int .i64)))])], [(8, [13])]⟩
noncomputable def Zz79.S (R : (Option ((Int × Int × Int × Unit) × Int × List Int × Int × Unit)) → (List Int) → (List Int) → Int → Int → Int → Option (List Int)) (k : Nat) : List (Nat × E.Spec (List Int)) := [(45, told _ Zz110.A Zz110.Q (Zz110.g k) Zz110.h), (89, told _ Zz113.A Zz113.Q (Zz113.g k) Zz113.h), (100, told _ Zz84.A Zz84.Q (Zz84.rg R) Zz84.h), (109, told _ Zz108.A Zz108.Q (Zz108.g k) Zz108.h), (110, told _ Zz78.A Zz78.Q (Zz78.g k) Zz78.h)]
noncomputable def Zz79.l11 (R : (Option ((Int × Int × Int × Unit) × Int × List Int × Int × Unit)) → (List Int) → (List Int) → Int → Int → Int → Option (List Int)) (k : Nat) (x0_0 x0_1 x0_2 x0_3 : Int) (x0_4 : List Int) (x0_5 x4 x8_0 x8_1 x8_2 : Int) (x12 x15 x16 : List Int) (x66 x67 : Int) : Option (List Int) := Zz79.D.F (Zz79.S R) k 23 [.p (.fp 125 [.fp 77 [.lit (.int .u64 x0_0), .lit (.int .u64 x0_1), .lit (.int .u64 x0_2)], .lit (.int .i64 x0_3), .row .u64 x0_4, .lit (.int .u64 x0_5)]), .p (.lit (.int .i64 x4)), .b 135 [.lit (.int .i64 x8_0), .lit (.int .u64 x8_1), .lit (.int .u64 x8_2)], .p (.row .u64 x12), .p (.row .u64 x15), .m x16, .p (.lit (.int .i64 x66)), .p (.lit (.int .i64 x67))]
noncomputable def Zz79.l5 (R : (Option ((Int × Int × Int × Unit) × Int × List Int × Int × Unit)) → (List Int) → (List Int) → Int → Int → Int → Option (List Int)) (k : Nat) (x0_0 x0_1 x0_2 x0_3 : Int) (x0_4 : List Int) (x0_5 : Int) (x1 x2 : List Int) (x4 x8_0 x8_1 x8_2 x11 : Int) (x12 x13 : List Int) (x14 : Int) : Option (List Int) := Zz79.D.F (Zz79.S R) k 11 [.p (.fp 125 [.fp 77 [.lit (.int .u64 x0_0), .lit (.int .u64 x0_1), .lit (.int .u64 x0_2)], .lit (.int .i64 x0_3), .row .u64 x0_4, .lit (.int .u64 x0_5)]), .p (.row .u64 x1), .p (.row .u64 x2), .p (.lit (.int .i64 x4)), .b 135 [.lit (.int .i64 x8_0), .lit (.int .u64 x8_1), .lit (.int .u64 x8_2)], .p (.lit (.int .i64 x11)), .p (.row .u64 x12), .m x13, .p (.lit (.int .i64 x14))]
noncomputable def Zz79.f0 (R : (Option ((Int × Int × Int × Unit) × Int × List Int × Int × Unit)) → (List Int) → (List Int) → Int → Int → Int → Option (List Int)) (k : Nat) (a0 : Option ((Int × Int × Int × Unit) × Int × List Int × Int × Unit)) (a1 a2 : List Int) (a3_0 a3_1 a3_2 a4 : Int) : Option (List Int) := Zz79.D.val (Zz79.S R) k (a0, a1, a2, (a3_0, a3_1, a3_2, ()), a4, ())
noncomputable def Zz79.f := (still Zz79.f0).1
theorem Zz79.f_def : Zz79.f = Zz79.f0 := (still Zz79.f0).2
noncomputable def Zz79.g (R : (Option ((Int × Int × Int × Unit) × Int × List Int × Int × Unit)) → (List Int) → (List Int) → Int → Int → Int → Option (List Int)) (k : Nat) (x : Zz79.A.T) : Option (List Int) := Zz79.f R k (x.1) (x.2.1) (x.2.2.1) (x.2.2.2.1.1) (x.2.2.2.1.2.1) (x.2.2.2.1.2.2.1) (x.2.2.2.2.1)
theorem Zz79.does (R : (Option ((Int × Int × Int × Unit) × Int × List Int × Int × Unit)) → (List Int) → (List Int) → Int → Int → Int → Option (List Int)) (hR : Does PG 100 Zz84.A Zz84.Q (Zz84.rg R) Zz84.h) (k : Nat) : Does PG 112 Zz79.A Zz79.Q (Zz79.g R k) Zz79.h := (show Zz79.g R k = Zz79.D.val (Zz79.S R) k from funext fun _ => by unfold Zz79.g; rw [Zz79.f_def]; rfl) ▸ Decl.does (D := Zz79.D) (S := (Zz79.S R)) (fn := Go.Proofs.Tryz.f112) (by constructor <;> first | kernel_rfl | exact TT.of_ok _ T0ex) (fun k => ⟨told_ok (Zz110.does k), ⟨told_ok (Zz113.does k), ⟨told_ok hR, ⟨told_ok (Zz108.does k), ⟨told_ok (Zz78.does k), trivial⟩⟩⟩⟩⟩) (fun _ _ h => by rw [h rfl]; rfl) k
noncomputable def Zz84.S (R : (Option ((Int × Int × Int × Unit) × Int × List Int × Int × Unit)) → (List Int) → (List Int) → Int → Int → Int → Option (List Int)) (k : Nat) : List (Nat × E.Spec (List Int)) := [(45, told _ Zz110.A Zz110.Q (Zz110.g k) Zz110.h), (88, told _ Zz109.A Zz109.Q (Zz109.g k) Zz109.h), (89, told _ Zz113.A Zz113.Q (Zz113.g k) Zz113.h), (100, told _ Zz84.A Zz84.Q (Zz84.rg R) Zz84.h), (109, told _ Zz108.A Zz108.Q (Zz108.g k) Zz108.h), (110, told _ Zz78.A Zz78.Q (Zz78.g k) Zz78.h), (111, told _ Zz82.A Zz82.Q (Zz82.g k) Zz82.h), (112, told _ Zz79.A Zz79.Q (Zz79.g R k) Zz79.h)]
noncomputable def Zz84.l21 (R : (Option ((Int × Int × Int × Unit) × Int × List Int × Int × Unit)) → (List Int) → (List Int) → Int → Int → Int → Option (List Int)) (k : Nat) (x0_0 x0_1 x0_2 x0_3 : Int) (x0_4 : List Int) (x0_5 x10 : Int) (x11 x16 : List Int) (x17 : Int) (x19 : List Int) (x117 x118 : Int) : Option (List Int) := Zz84.D.F (Zz84.S R) k 43 [.p (.fp 125 [.fp 77 [.lit (.int .u64 x0_0), .lit (.int .u64 x0_1), .lit (.int .u64 x0_2)], .lit (.int .i64 x0_3), .row .u64 x0_4, .lit (.int .u64 x0_5)]), .p (.lit (.int .i64 x10)), .p (.row .u64 x11), .p (.row .u64 x16), .p (.lit (.int .u64 x17)), .m x19, .p (.lit (.int .i64 x117)), .p (.lit (.int .i64 x118))]
noncomputable def Zz84.l13 (R : (Option ((Int × Int × Int × Unit) × Int × List Int × Int × Unit)) → (List Int) → (List Int) → Int → Int → Int → Option (List Int)) (k : Nat) (x0_0 x0_1 x0_2 x0_3 : Int) (x0_4 : List Int) (x0_5 : Int) (x1 : List Int) (x7_0 x7_1 x7_2 x9 x10 : Int) (x11 x12 : List Int) (x13 : Int) (x64 : List Int) (x65 x66 : Int) : Option (List Int) := Zz84.D.F (Zz84.S R) k 27 [.p (.fp 125 [.fp 77 [.lit (.int .u64 x0_0), .lit (.int .u64 x0_1), .lit (.int .u64 x0_2)], .lit (.int .i64 x0_3), .row .u64 x0_4, .lit (.int .u64 x0_5)]), .p (.row .u64 x1), .b 135 [.lit (.int .i64 x7_0), .lit (.int .u64 x7_1), .lit (.int .u64 x7_2)], .p (.lit (.int .i64 x9)), .p (.lit (.int .i64 x10)), .p (.row .u64 x11), .m x12, .p (.lit (.int .u64 x13)), .p (.row .u64 x64), .p (.lit (.int .i64 x65)), .p (.lit (.int .i64 x66))]
noncomputable def Zz84.v (R : (Option ((Int × Int × Int × Unit) × Int × List Int × Int × Unit)) → (List Int) → (List Int) → Int → Int → Int → Option (List Int)) (k : Nat) (a0 : Option ((Int × Int × Int × Unit) × Int × List Int × Int × Unit)) (a1 a2 : List Int) (a3_0 a3_1 a3_2 : Int) : Option (List Int) := Zz84.D.val (Zz84.S R) k (a0, a1, a2, (a3_0, a3_1, a3_2, ()), ())
noncomputable def Zz84.rc : Nat → (Option ((Int × Int × Int × Unit) × Int × List Int × Int × Unit)) → (List Int) → (List Int) → Int → Int → Int → Option (List Int)
 | 0 => fun _ _ _ _ _ _ => none
 | q + 1 => fun a0 a1 a2 a3_0 a3_1 a3_2 => Zz84.v (Zz84.rc q) q a0 a1 a2 a3_0 a3_1 a3_2
theorem Zz84.rdoes : ∀ q : Nat, Does PG 100 Zz84.A Zz84.Q (Zz84.rg (Zz84.rc q)) Zz84.h
 | 0 => fun _ _ h => by cases h
 | q + 1 => by
  have hR := Zz84.rdoes q
  generalize hr : Zz84.rc q = R at hR
  have e : Zz84.rg (Zz84.rc (q + 1)) = Zz84.D.val (Zz84.S R) q := by rw [← hr]; rfl
  rw [e]
  exact Decl.does (D := Zz84.D) (S := Zz84.S R) (fn := Go.Proofs.Tryz.f100) (by constructor <;> first | kernel_rfl | exact TT.of_ok _ T0ex) (fun k => ⟨told_ok (Zz110.does k), ⟨told_ok (Zz109.does k), ⟨told_ok (Zz113.does k), ⟨told_ok hR, ⟨told_ok (Zz108.does k), ⟨told_ok (Zz78.does k), ⟨told_ok (Zz82.does k), ⟨told_ok (Zz79.does R hR k), trivial⟩⟩⟩⟩⟩⟩⟩⟩) (fun _ _ h => by rw [h rfl]; rfl) q
noncomputable def Zz84.f0 (k : Nat) (a0 : Option ((Int × Int × Int × Unit) × Int × List Int × Int × Unit)) (a1 a2 : List Int) (a3_0 a3_1 a3_2 : Int) : Option (List Int) := Zz84.rc k a0 a1 a2 a3_0 a3_1 a3_2
noncomputable def Zz84.f := (still Zz84.f0).1
theorem Zz84.f_def : Zz84.f = Zz84.f0 := (still Zz84.f0).2
noncomputable def Zz84.g (k : Nat) (x : Zz84.A.T) : Option (List Int) := Zz84.f k (x.1) (x.2.1) (x.2.2.1) (x.2.2.2.1.1) (x.2.2.2.1.2.1) (x.2.2.2.1.2.2.1)
theorem Zz84.f_rc (k : Nat) : Zz84.f k = Zz84.rc k := by rw [Zz84.f_def]; rfl
theorem Zz84.f_succ (k : Nat) (a0 : Option ((Int × Int × Int × Unit) × Int × List Int × Int × Unit)) (a1 a2 : List Int) (a3_0 a3_1 a3_2 : Int) : Zz84.f (k + 1) a0 a1 a2 a3_0 a3_1 a3_2 = Zz84.v (Zz84.f k) k a0 a1 a2 a3_0 a3_1 a3_2 := by rw [Zz84.f_rc, Zz84.f_rc]; rfl
theorem Zz84.does (k : Nat) : Does PG 100 Zz84.A Zz84.Q (Zz84.g k) Zz84.h := (show Zz84.g k = Zz84.rg (Zz84.rc k) from funext fun _ => by unfold Zz84.g; rw [Zz84.f_rc]; rfl) ▸ Zz84.rdoes k
def Zz74.A : AK := .p (.np 125 (.cons (.fp 77 (.cons (.int .u64) (.cons (.int .u64) (.cons (.int .u64) .nil)))) (.cons (.int .i64) (.cons (.row .u64) (.cons (.int .u64) .nil))))) (.p (.row .u64) .nil)
def Zz74.Q : RK := .p (.row .u64) (.p (.int .i64) .nil)
def Zz74.h : (List Int × Int) → Zz74.Q.T × List Int := fun b => ((b.1, b.2, ()), [])
noncomputable def Zz74.D : Decl (List Int × Int) := ⟨(Go.Proofs.Tryz.f84.body).getD .skip, 42, [.tmp 4, .tmp 5], Zz74.A, Zz74.Q, fun y m => (y.1, y.2.1), T0, [], [], []⟩
noncomputable def Zz74.S (k : Nat) : List (Nat × E.Spec (List Int × Int)) := [(82, told _ Zz76.A Zz76.Q (Zz76.g k) Zz76.h), (98, told _ Zz81.A Zz81.Q (Zz81.g k) Zz81.h), (99, told _ Zz80.A Zz80.Q (Zz80.g k) Zz80.h), (100, told _ Zz84.A Zz84.Q (Zz84.g k) Zz84.h)]
noncomputable def Zz74.f0 (k : Nat) (a0 : Option ((Int × Int × Int × Unit) × Int × List Int × Int × Unit)) (a1 : List Int) : Option (List Int × Int) := Zz74.D.val Zz74.S k (a0, a1, ())
noncomputable def Zz74.f := (still Zz74.f0).1
theorem Zz74.f_def : Zz74.f = Zz74.f0 := (still Zz74.f0).2
noncomputable def Zz74.g (k : Nat) (x : Zz74.A.T) : Option (List Int × Int) := Zz74.f k (x.1) (x.2.1)
theorem Zz74.does (k : Nat) : Does PG 84 Zz74.A Zz74.Q (Zz74.g k) Zz74.h := (show Zz74.g k = Zz74.D.val Zz74.S k from funext fun _ => by unfold Zz74.g; rw [Zz74.f_def]; rfl) ▸ Decl.does (D := Zz74.D) (S := Zz74.S) (fn := Go.Proofs.Tryz.f84) (by constructor <;> first | kernel_rfl | exact TT.of_ok _ T0ex) (fun k => ⟨told_ok (Zz76.does k), ⟨told_ok (Zz81.does k), ⟨told_ok (Zz80.does k), ⟨told_ok (Zz84.does k), trivial⟩⟩⟩⟩) (fun _ _ h => by rw [h rfl]; rfl) k
def Zz77.A : AK := .p (.np 125 (.cons (.fp 77 (.cons (.int .u64) (.cons (.int .u64) (.cons (.int .u64) .nil)))) (.cons (.int .i64) (.cons (.row .u64) (.cons (.int .u64) .nil))))) (.p (.row .u64) (.p (.row .u64) .nil))
def Zz77.Q : RK := .p (.row .u64) (.p (.int .i64) .nil)
def Zz77.h : (List Int × Int) → Zz77.Q.T × List Int := fun b => ((b.1, b.2, ()), [])
noncomputable def Zz77.D : Decl (List Int × Int) := ⟨(Go.Proofs.Tryz.f68.body).getD .skip, 82, [.tmp 6, .tmp 7], Zz77.A, Zz77.Q, fun y m => (y.1, y.2.1), T0, [], [(15, [(0, .p (some (.fp 125 (.cons (.fp 77 (.cons (.int .u64) (.cons (.int .u64) (.cons (.int .u64) .nil)))) (.cons (.int .i64) (.cons (.row .u64) (.cons (.int .u64) .nil))))))), (9, .m (.num .u64) 23), (11, .p (some (.row .u64))), (56, .p (some (.int .i64))), (57, .p (some (.int .i64)))])], [(19, [9])]⟩
noncomputable def Zz77.S (k : Nat) : List (Nat × E.Spec (List Int × Int)) := [(45, told _ Zz110.A Zz110.Q (Zz110.g k) Zz110.h), (82, told _ Zz76.A Zz76.Q (Zz76.g k) Zz76.h), (83, told _ Zz75.A Zz75.Q (Zz75.g k) Zz75.h), (84, told _ Zz74.A Zz74.Q (Zz74.g k) Zz74.h)]
noncomputable def Zz77.l15 (k : Nat) (x0_0 x0_1 x0_2 x0_3 : Int) (x0_4 : List Int) (x0_5 : Int) (x9 x11 : List Int) (x56 x57 : Int) : Option (List Int × Int) := Zz77.D.F Zz77.S k 31 [.p (.fp 125 [.fp 77 [.lit (.int .u64 x0_0), .lit (.int .u64 x0_1), .lit (.int .u64 x0_2)], .lit (.int .i64 x0_3), .row .u64 x0_4, .lit (.int .u64 x0_5)]), .m x9, .p (.row .u64 x11), .p (.lit (.int .i64 x56)), .p (.lit (.int .i64 x57))]
noncomputable def Zz77.f0 (k : Nat) (a0 : Option ((Int × Int × Int × Unit) × Int × List Int × Int × Unit)) (a1 a2 : List Int) : Option (List Int × Int) := Zz77.D.val Zz77.S k (a0, a1, a2, ())
noncomputable def Zz77.f := (still Zz77.f0).1
theorem Zz77.f_def : Zz77.f = Zz77.f0 := (still Zz77.f0).2
noncomputable def Zz77.g (k : Nat) (x : Zz77.A.T) : Option (List Int × Int) := Zz77.f k (x.1) (x.2.1) (x.2.2.1)
theorem Zz77.does (k : Nat) : Does PG 68 Zz77.A Zz77.Q (Zz77.g k) Zz77.h := (show Zz77.g k = Zz77.D.val Zz77.S k from funext fun _ => by unfold Zz77.g; rw [Zz77.f_def]; rfl) ▸ Decl.does (D := Zz77.D) (S := Zz77.S) (fn := Go.Proofs.Tryz.f68) (by constructor <;> first | kernel_rfl | exact TT.of_ok _ T0ex) (fun k => ⟨told_ok (Zz110.does k), ⟨told_ok (Zz76.does k), ⟨told_ok (Zz75.does k), ⟨told_ok (Zz74.does k), trivial⟩⟩⟩⟩) (fun _ _ h => by rw [h rfl]; rfl) k
def Zz33.A : AK := .p (.row .u64) (.p (.row .u64) .nil)
def Zz33.Q : RK := .p (.agg (.cons (.row .u64) (.cons (.row .u64) (.cons (.row .u64) .nil)))) (.o (.num .u64) 23 (.p (.int .i64) .nil))
def Zz33.h : (List Int × List Int × List Int × List Int × Int) → Zz33.Q.T × List Int := fun b => (((b.1, b.2.1, b.2.2.1, ()), (b.2.2.2.1), b.2.2.2.2, ()), [])
noncomputable def Zz33.D : Decl (List Int × List Int × List Int × List Int × Int) := ⟨(Go.Proofs.Tryz.f46.body).getD .skip, 45, [.cell 4 79, .tmp 5, .tmp 6], Zz33.A, Zz33.Q, fun y m => (y.1.1, y.1.2.1, y.1.2.2.1, y.2.1, y.2.2.1), T0, [], [(4, [(0, .p (some (.row .u64))), (1, .p (some (.row .u64))), (4, .b (some (.cons (.any) (.cons (.any) (.cons (.any) .nil))))), (7, .b (some (.cons (.row .u64) (.cons (.row .u64) (.cons (.row .u64) .nil))))), (8, .b (some (.cons (.np 125 (.cons (.fp 77 (.cons (.int .u64) (.cons (.int .u64) (.cons (.int .u64) .nil)))) (.cons (.int .i64) (.cons (.row .u64) (.cons (.int .u64) .nil))))) (.cons (.np 125 (.cons (.fp 77 (.cons (.int .u64) (.cons (.int .u64) (.cons (.int .u64) .nil)))) (.cons (.int .i64) (.cons (.row .u64) (.cons (.int .u64) .nil))))) (.cons (.np 125 (.cons (.fp 77 (.cons (.int .u64) (.cons (.int .u64) (.cons (.int .u64) .nil)))) (.cons (.int .i64) (.cons (.row .u64) (.cons (.int .u64) .nil))))) .nil))))), (9, .m (.num .u64) 23), (10, .p (some (.int .i64))), (11, .p (some (.int .i64)))])], []⟩
noncomputable def Zz33.S (k : Nat) : List (Nat × E.Spec (List Int × List Int × List Int × List Int × Int)) := [(67, told _ Zz34.A Zz34.Q (Zz34.g k) Zz34.h), (68, told _ Zz77.A Zz77.Q (Zz77.g k) Zz77.h)]
noncomputable def Zz33.l4 (k : Nat) (x0 x1 x7_0 x7_1 x7_2 : List Int) (x8_0 : Option ((Int × Int × Int × Unit) × Int × List Int × Int × Unit)) (x8_1 : Option ((Int × Int × Int × Unit) × Int × List Int × Int × Unit)) (x8_2 : Option ((Int × Int × Int × Unit) × Int × List Int × Int × Unit)) (x9 : List Int) (x10 x11 : Int) : Option (List Int × List Int × List Int × List Int × Int) := Zz33.D.F Zz33.S k 9 [.p (.row .u64 x0), .p (.row .u64 x1), .b 79 [.any, .any, .any], .b 79 [.row .u64 x7_0, .row .u64 x7_1, .row .u64 x7_2], .b 105 [SK.put (.np 125 (.cons (.fp 77 (.cons (.int .u64) (.cons (.int .u64) (.cons (.int .u64) .nil)))) (.cons (.int .i64) (.cons (.row .u64) (.cons (.int .u64) .nil))))) x8_0, SK.put (.np 125 (.cons (.fp 77 (.cons (.int .u64) (.cons (.int .u64) (.cons (.int .u64) .nil)))) (.cons (.int .i64) (.cons (.row .u64) (.cons (.int .u64) .nil))))) x8_1, SK.put (.np 125 (.cons (.fp 77 (.cons (.int .u64) (.cons (.int .u64) (.cons (.int .u64) .nil)))) (.cons (.int .i64) (.cons (.row .u64) (.cons (.int .u64) .nil))))) x8_2], .m x9, .p (.lit (.int .i64 x10)), .p (.lit (.int .i64 x11))]
noncomputable def Zz33.f0 (k : Nat) (a0 a1 : List Int) : Option (List Int × List Int × List Int × List Int × Int) := Zz33.D.val Zz33.S k (a0, a1, ())
noncomputable def Zz33.f := (still Zz33.f0).1
theorem Zz33.f_def : Zz33.f = Zz33.f0 := (still Zz33.f0).2
noncomputable def Zz33.g (k : Nat) (x : Zz33.A.T) : Option (List Int × List Int × List Int × List Int × Int) := Zz33.f k (x.1) (x.2.1)
theorem Zz33.does (k : Nat) : Does PG 46 Zz33.A Zz33.Q (Zz33.g k) Zz33.h := (show Zz33.g k = Zz33.D.val Zz33.S k from funext fun _ => by unfold Zz33.g; rw [Zz33.f_def]; rfl) ▸ Decl.does (D := Zz33.D) (S := Zz33.S) (fn := Go.Proofs.Tryz.f46) (by constructor <;> first | kernel_rfl | exact TT.of_ok _ T0ex) (fun k => ⟨told_ok (Zz34.does k), ⟨told_ok (Zz77.does k), trivial⟩⟩) (fun _ _ h => by rw [h rfl]; rfl) k
def Zz39.A : AK := .p (.int .u64) .nil
def Zz39.Q : RK := .p (.bool) .nil
def Zz39.h : Bool → Zz39.Q.T × List Int := fun b => ((b, ()), [])
noncomputable def Zz39.D : Decl Bool := ⟨(Go.Proofs.Tryz.f85.body).getD .skip, 9, [.tmp 2], Zz39.A, Zz39.Q, fun y m => y.1, T0, [], [], []⟩
noncomputable def Zz39.S (k : Nat) : List (Nat × E.Spec Bool) := []
noncomputable def Zz39.f0 (k : Nat) (a0 : Int) : Option Bool := Zz39.D.val Zz39.S k (a0, ())
noncomputable def Zz39.f := (still Zz39.f0).1
theorem Zz39.f_def : Zz39.f = Zz39.f0 := (still Zz39.f0).2
noncomputable def Zz39.g (k : Nat) (x : Zz39.A.T) : Option Bool := Zz39.f k (x.1)
theorem Zz39.does (k : Nat) : Does PG 85 Zz39.A Zz39.Q (Zz39.g k) Zz39.h := (show Zz39.g k = Zz39.D.val Zz39.S k from funext fun _ => by unfold Zz39.g; rw [Zz39.f_def]; rfl) ▸ Decl.does (D := Zz39.D) (S := Zz39.S) (fn := Go.Proofs.Tryz.f85) (by constructor <;> first | kernel_rfl | exact TT.of_ok _ T0ex) (fun k => trivial) (fun _ _ h => by rw [h rfl]; rfl) k
def Zz41.A : AK := .p (.row .u64) (.p (.row .u64) .nil)
def Zz41.Q : RK := .p (.int .i64) .nil
def Zz41.h : Int → Zz41.Q.T × List Int := fun b => ((b, ()), [])
noncomputable def Zz41.D : Decl Int := ⟨(Go.Proofs.Tryz.f69.body).getD .skip, 25, [.tmp 4], Zz41.A, Zz41.Q, fun y m => y.1, T0, [], [(4, [(1, .p (some (.row .u64))), (12, .p (some (.row .u64))), (13, .p (some (.int .i64))), (14, .p (some (.int .i64)))])], []⟩
noncomputable def Zz41.S (k : Nat) : List (Nat × E.Spec Int) := [(85, told _ Zz39.A Zz39.Q (Zz39.g k) Zz39.h)]
noncomputable def Zz41.l4 (k : Nat) (x1 x12 : List Int) (x13 x14 : Int) : Option Int := Zz41.D.F Zz41.S k 9 [.p (.row .u64 x1), .p (.row .u64 x12), .p (.lit (.int .i64 x13)), .p (.lit (.int .i64 x14))]
noncomputable def Zz41.f0 (k : Nat) (a0 a1 : List Int) : Option Int := Zz41.D.val Zz41.S k (a0, a1, ())
noncomputable def Zz41.f := (still Zz41.f0).1
theorem Zz41.f_def : Zz41.f = Zz41.f0 := (still Zz41.f0).2
noncomputable def Zz41.g (k : Nat) (x : Zz41.A.T) : Option Int := Zz41.f k (x.1) (x.2.1)
theorem Zz41.does (k : Nat) : Does PG 69 Zz41.A Zz41.Q (Zz41.g k) Zz41.h := (show Zz41.g k = Zz41.D.val Zz41.S k from funext fun _ => by unfold Zz41.g; rw [Zz41.f_def]; rfl) ▸ Decl.does (D := Zz41.D) (S := Zz41.S) (fn := Go.Proofs.Tryz.f69) (by constructor <;> first | kernel_rfl | exact TT.of_ok _ T0ex) (fun k => ⟨told_ok (Zz39.does k), trivial⟩) (fun _ _ h => by rw [h rfl]; rfl) k
def Zz11.A : AK := .p (.int .i64) .nil
def Zz11.Q : RK := .p (.agg (.cons (.bool) (.cons (.row .u64) .nil))) .nil
def Zz11.h : (Bool × List Int) → Zz11.Q.T × List Int := fun b => (((b.1, b.2, ()), ()), [])
noncomputable def Zz11.D : Decl (Bool × List Int) := ⟨(Go.Proofs.Tryz.f70.body).getD .skip, 19, [.cell 2 39], Zz11.A, Zz11.Q, fun y m => (y.1.1, y.1.2.1), T0, [], [], []⟩
noncomputable def Zz11.S (k : Nat) : List (Nat × E.Spec (Bool × List Int)) := []
noncomputable def Zz11.f0 (k : Nat) (a0 : Int) : Option (Bool × List Int) := Zz11.D.val Zz11.S k (a0, ())
noncomputable def Zz11.f := (still Zz11.f0).1
theorem Zz11.f_def : Zz11.f = Zz11.f0 := (still Zz11.f0).2
noncomputable def Zz11.g (k : Nat) (x : Zz11.A.T) : Option (Bool × List Int) := Zz11.f k (x.1)
theorem Zz11.does (k : Nat) : Does PG 70 Zz11.A Zz11.Q (Zz11.g k) Zz11.h := (show Zz11.g k = Zz11.D.val Zz11.S k from funext fun _ => by unfold Zz11.g; rw [Zz11.f_def]; rfl) ▸ Decl.does (D := Zz11.D) (S := Zz11.S) (fn := Go.Proofs.Tryz.f70) (by constructor <;> first | kernel_rfl | exact TT.of_ok _ T0ex) (fun k => trivial) (fun _ _ h => by rw [h rfl]; rfl) k
def Zz12.A : AK := .p (.bool) (.p (.row .u64) .nil)
def Zz12.Q : RK := .p (.agg (.cons (.bool) (.cons (.row .u64) .nil))) .nil
def Zz12.h : (Bool × List Int) → Zz12.Q.T × List Int := fun b => (((b.1, b.2, ()), ()), [])
noncomputable def Zz12.D : Decl (Bool × List Int) := ⟨(Go.Proofs.Tryz.f49.body).getD .skip, 13, [.cell 4 39], Zz12.A, Zz12.Q, fun y m => (y.1.1, y.1.2.1), T0, [], [], []⟩
noncomputable def Zz12.S (k : Nat) : List (Nat × E.Spec (Bool × List Int)) := []
noncomputable def Zz12.f0 (k : Nat) (a0 : Bool) (a1 : List Int) : Option (Bool × List Int) := Zz12.D.val Zz12.S k (a0, a1, ())
noncomputable def Zz12.f := (still Zz12.f0).1
theorem Zz12.f_def : Zz12.f = Zz12.f0 := (still Zz12.f0).2
noncomputable def Zz12.g (k : Nat) (x : Zz12.A.T) : Option (Bool × List Int) := Zz12.f k (x.1) (x.2.1)
theorem Zz12.does (k : Nat) : Does PG 49 Zz12.A Zz12.Q (Zz12.g k) Zz12.h := (show Zz12.g k = Zz12.D.val Zz12.S k from funext fun _ => by unfold Zz12.g; rw [Zz12.f_def]; rfl) ▸ Decl.does (D := Zz12.D) (S := Zz12.S) (fn := Go.Proofs.Tryz.f49) (by constructor <;> first | kernel_rfl | exact TT.of_ok _ T0ex) (fun k => trivial) (fun _ _ h => by rw [h rfl]; rfl) k
def Zz52.A : AK := .p (.row .u64) (.p (.int .i64) .nil)
def Zz52.Q : RK := .p (.int .u64) .nil
def Zz52.h : Int → Zz52.Q.T × List Int := fun b => ((b, ()), [])
noncomputable def Zz52.D : Decl Int := ⟨(Go.Proofs.Tryz.f73.body).getD .skip, 13, [.tmp 4], Zz52.A, Zz52.Q, fun y m => y.1, T0, [], [], []⟩
noncomputable def Zz52.S (k : Nat) : List (Nat × E.Spec Int) := []
noncomputable def Zz52.f0 (k : Nat) (a0 : List Int) (a1 : Int) : Option Int := Zz52.D.val Zz52.S k (a0, a1, ())
noncomputable def Zz52.f := (still Zz52.f0).1
theorem Zz52.f_def : Zz52.f = Zz52.f0 := (still Zz52.f0).2
noncomputable def Zz52.g (k : Nat) (x : Zz52.A.T) : Option Int := Zz52.f k (x.1) (x.2.1)
theorem Zz52.does (k : Nat) : Does PG 73 Zz52.A Zz52.Q (Zz52.g k) Zz52.h := (show Zz52.g k = Zz52.D.val Zz52.S k from funext fun _ => by unfold Zz52.g; rw [Zz52.f_def]; rfl) ▸ Decl.does (D := Zz52.D) (S := Zz52.S) (fn := Go.Proofs.Tryz.f73) (by constructor <;> first | kernel_rfl | exact TT.of_ok _ T0ex) (fun k => trivial) (fun _ _ h => by rw [h rfl]; rfl) k
def Zz42.A : AK := .p (.row .u64) (.p (.row .u64) .nil)
def Zz42.Q : RK := .p (.row .u64) .nil
def Zz42.h : List Int → Zz42.Q.T × List Int := fun b => ((b, ()), [])
noncomputable def Zz42.D : Decl (List Int) := ⟨(Go.Proofs.Tryz.f50.body).getD .skip, 37, [.tmp 4], Zz42.A, Zz42.Q, fun y m => y.1, T0, [], [(4, [(0, .p (some (.row .u64))), (1, .p (some (.row .u64))), (5, .m (.num .u64) 23), (6, .p (some (.int .u64))), (16, .p (some (.int .i64))), (17, .p (some (.int .i64)))])], [(8, [5])]⟩
noncomputable def Zz42.S (k : Nat) : List (Nat × E.Spec (List Int)) := [(64, told _ Zz60.A Zz60.Q (Zz60.g k) Zz60.h), (73, told _ Zz52.A Zz52.Q (Zz52.g k) Zz52.h)]
noncomputable def Zz42.l4 (k : Nat) (x0 x1 x5 : List Int) (x6 x16 x17 : Int) : Option (List Int) := Zz42.D.F Zz42.S k 9 [.p (.row .u64 x0), .p (.row .u64 x1), .m x5, .p (.lit (.int .u64 x6)), .p (.lit (.int .i64 x16)), .p (.lit (.int .i64 x17))]
noncomputable def Zz42.f0 (k : Nat) (a0 a1 : List Int) : Option (List Int) := Zz42.D.val Zz42.S k (a0, a1, ())
noncomputable def Zz42.f := (still Zz42.f0).1
theorem Zz42.f_def : Zz42.f = Zz42.f0 := (still Zz42.f0).2
noncomputable def Zz42.g (k : Nat) (x : Zz42.A.T) : Option (List Int) := Zz42.f k (x.1) (x.2.1)
theorem Zz42.does (k : Nat) : Does PG 50 Zz42.A Zz42.Q (Zz42.g k) Zz42.h := (show Zz42.g k = Zz42.D.val Zz42.S k from funext fun _ => by unfold Zz42.g; rw [Zz42.f_def]; rfl) ▸ Decl.does (D := Zz42.D) (S := Zz42.S) (fn := Go.Proofs.Tryz.f50) (by constructor <;> first | kernel_rfl | exact TT.of_ok _ T0ex) (fun k => ⟨told_ok (Zz60.does k), ⟨told_ok (Zz52.does k), trivial⟩⟩) (fun _ _ h => by rw [h rfl]; rfl) k
def Zz43.A : AK := .p (.row .u64) (.p (.row .u64) .nil)
def Zz43.Q : RK := .p (.int .i64) .nil
def Zz43.h : Int → Zz43.Q.T × List Int := fun b => ((b, ()), [])
noncomputable def Zz43.D : Decl Int := ⟨(Go.Proofs.Tryz.f51.body).getD .skip, 49, [.tmp 4], Zz43.A, Zz43.Q, fun y m => y.1, T0, [], [(7, [(0, .p (some (.row .u64))), (1, .p (some (.row .u64))), (5, .p (some (.int .i64)))])], []⟩
noncomputable def Zz43.S (k : Nat) : List (Nat × E.Spec Int) := [(64, told _ Zz60.A Zz60.Q (Zz60.g k) Zz60.h)]
noncomputable def Zz43.l7 (k : Nat) (x0 x1 : List Int) (x5 : Int) : Option Int := Zz43.D.F Zz43.S k 15 [.p (.row .u64 x0), .p (.row .u64 x1), .p (.lit (.int .i64 x5))]
noncomputable def Zz43.f0 (k : Nat) (a0 a1 : List Int) : Option Int := Zz43.D.val Zz43.S k (a0, a1, ())
noncomputable def Zz43.f := (still Zz43.f0).1
theorem Zz43.f_def : Zz43.f = Zz43.f0 := (still Zz43.f0).2
noncomputable def Zz43.g (k : Nat) (x : Zz43.A.T) : Option Int := Zz43.f k (x.1) (x.2.1)
theorem Zz43.does (k : Nat) : Does PG 51 Zz43.A Zz43.Q (Zz43.g k) Zz43.h := (show Zz43.g k = Zz43.D.val Zz43.S k from funext fun _ => by unfold Zz43.g; rw [Zz43.f_def]; rfl) ▸ Decl.does (D := Zz43.D) (S := Zz43.S) (fn := Go.Proofs.Tryz.f51) (by constructor <;> first | kernel_rfl | exact TT.of_ok _ T0ex) (fun k => ⟨told_ok (Zz60.does k), trivial⟩) (fun _ _ h => by rw [h rfl]; rfl) k
def Zz57.A : AK := .p (.row .u64) (.p (.row .u64) .nil)
def Zz57.Q : RK := .p (.row .u64) .nil
def Zz57.h : List Int → Zz57.Q.T × List Int := fun b => ((b, ()), [])
noncomputable def Zz57.D : Decl (List Int) := ⟨(Go.Proofs.Tryz.f74.body).getD .skip, 34, [.tmp 4], Zz57.A, Zz57.Q, fun y m => y.1, T0, [], [(4, [(0, .p (some (.row .u64))), (1, .p (some (.row .u64))), (5, .m (.num .u64) 23), (6, .p (some (.int .u64))), (12, .p (some (.int .i64))), (13, .p (some (.int .i64)))])], [(8, [5])]⟩
noncomputable def Zz57.S (k : Nat) : List (Nat × E.Spec (List Int)) := [(64, told _ Zz60.A Zz60.Q (Zz60.g k) Zz60.h), (73, told _ Zz52.A Zz52.Q (Zz52.g k) Zz52.h)]
noncomputable def Zz57.l4 (k : Nat) (x0 x1 x5 : List Int) (x6 x12 x13 : Int) : Option (List Int) := Zz57.D.F Zz57.S k 9 [.p (.row .u64 x0), .p (.row .u64 x1), .m x5, .p (.lit (.int .u64 x6)), .p (.lit (.int .i64 x12)), .p (.lit (.int .i64 x13))]
noncomputable def Zz57.f0 (k : Nat) (a0 a1 : List Int) : Option (List Int) := Zz57.D.val Zz57.S k (a0, a1, ())
noncomputable def Zz57.f := (still Zz57.f0).1
theorem Zz57.f_def : Zz57.f = Zz57.f0 := (still Zz57.f0).2
noncomputable def Zz57.g (k : Nat) (x : Zz57.A.T) : Option (List Int) := Zz57.f k (x.1) (x.2.1)
theorem Zz57.does (k : Nat) : Does PG 74 Zz57.A Zz57.Q (Zz57.g k) Zz57.h := (show Zz57.g k = Zz57.D.val Zz57.S k from funext fun _ => by unfold Zz57.g; rw [Zz57.f_def]; rfl) ▸ Decl.does (D := Zz57.D) (S := Zz57.S) (fn := Go.Proofs.Tryz.f74) (by constructor <;> first | kernel_rfl | exact TT.of_ok _ T0ex) (fun k => ⟨told_ok (Zz60.does k), ⟨told_ok (Zz52.does k), trivial⟩⟩) (fun _ _ h => by rw [h rfl]; rfl) k
def Zz51.A : AK := .p (.row .u64) (.p (.row .u64) .nil)
def Zz51.Q : RK := .p (.row .u64) (.p (.int .i64) .nil)
def Zz51.h : (List Int × Int) → Zz51.Q.T × List Int := fun b => ((b.1, b.2, ()), [])
noncomputable def Zz51.D : Decl (List Int × Int) := ⟨(Go.Proofs.Tryz.f52.body).getD .skip, 17, [.tmp 4, .tmp 5], Zz51.A, Zz51.Q, fun y m => (y.1, y.2.1), T0, [], [], []⟩
noncomputable def Zz51.S (k : Nat) : List (Nat × E.Spec (List Int × Int)) := [(51, told _ Zz43.A Zz43.Q (Zz43.g k) Zz43.h), (64, told _ Zz60.A Zz60.Q (Zz60.g k) Zz60.h), (74, told _ Zz57.A Zz57.Q (Zz57.g k) Zz57.h)]
noncomputable def Zz51.f0 (k : Nat) (a0 a1 : List Int) : Option (List Int × Int) := Zz51.D.val Zz51.S k (a0, a1, ())
noncomputable def Zz51.f := (still Zz51.f0).1
theorem Zz51.f_def : Zz51.f = Zz51.f0 := (still Zz51.f0).2
noncomputable def Zz51.g (k : Nat) (x : Zz51.A.T) : Option (List Int × Int) := Zz51.f k (x.1) (x.2.1)
theorem Zz51.does (k : Nat) : Does PG 52 Zz51.A Zz51.Q (Zz51.g k) Zz51.h := (show Zz51.g k = Zz51.D.val Zz51.S k from funext fun _ => by unfold Zz51.g; rw [Zz51.f_def]; rfl) ▸ Decl.does (D := Zz51.D) (S := Zz51.S) (fn := Go.Proofs.Tryz.f52) (by constructor <;> first | kernel_rfl | exact TT.of_ok _ T0ex) (fun k => ⟨told_ok (Zz43.does k), ⟨told_ok (Zz60.does k), ⟨told_ok (Zz57.does k), trivial⟩⟩⟩) (fun _ _ h => by rw [h rfl]; rfl) k
def Zz1.A : AK := .p (.agg (.cons (.bool) (.cons (.row .u64) .nil))) (.p (.agg (.cons (.bool) (.cons (.row .u64) .nil))) .nil)
def Zz1.Q : RK := .p (.agg (.cons (.bool) (.cons (.row .u64) .nil))) .nil
def Zz1.h : (Bool × List Int) → Zz1.Q.T × List Int := fun b => (((b.1, b.2, ()), ()), [])
noncomputable def Zz1.D : Decl (Bool × List Int) := ⟨(Go.Proofs.Tryz.f33.body).getD .skip, 40, [.cell 4 39], Zz1.A, Zz1.Q, fun y m => (y.1.1, y.1.2.1), T0, [], [], []⟩
noncomputable def Zz1.S (k : Nat) : List (Nat × E.Spec (Bool × List Int)) := [(49, told _ Zz12.A Zz12.Q (Zz12.g k) Zz12.h), (50, told _ Zz42.A Zz42.Q (Zz42.g k) Zz42.h), (51, told _ Zz43.A Zz43.Q (Zz43.g k) Zz43.h), (52, told _ Zz51.A Zz51.Q (Zz51.g k) Zz51.h)]
noncomputable def Zz1.f0 (k : Nat) (a0_0 : Bool) (a0_1 : List Int) (a1_0 : Bool) (a1_1 : List Int) : Option (Bool × List Int) := Zz1.D.val Zz1.S k ((a0_0, a0_1, ()), (a1_0, a1_1, ()), ())
noncomputable def Zz1.f := (still Zz1.f0).1
theorem Zz1.f_def : Zz1.f = Zz1.f0 := (still Zz1.f0).2
noncomputable def Zz1.g (k : Nat) (x : Zz1.A.T) : Option (Bool × List Int) := Zz1.f k (x.1.1) (x.1.2.1) (x.2.1.1) (x.2.1.2.1)
theorem Zz1.does (k : Nat) : Does PG 33 Zz1.A Zz1.Q (Zz1.g k) Zz1.h := (show Zz1.g k = Zz1.D.val Zz1.S k from funext fun _ => by unfold Zz1.g; rw [Zz1.f_def]; rfl) ▸ Decl.does (D := Zz1.D) (S := Zz1.S) (fn := Go.Proofs.Tryz.f33) (by constructor <;> first | kernel_rfl | exact TT.of_ok _ T0ex) (fun k => ⟨told_ok (Zz12.does k), ⟨told_ok (Zz42.does k), ⟨told_ok (Zz43.does k), ⟨told_ok (Zz51.does k), trivial⟩⟩⟩⟩) (fun _ _ h => by rw [h rfl]; rfl) k
def Zz9.A : AK := .p (.agg (.cons (.bool) (.cons (.row .u64) .nil))) .nil
def Zz9.Q : RK := .p (.int .i64) .nil
def Zz9.h : Int → Zz9.Q.T × List Int := fun b => ((b, ()), [])
noncomputable def Zz9.D : Decl Int := ⟨(Go.Proofs.Tryz.f86.body).getD .skip, 13, [.tmp 2], Zz9.A, Zz9.Q, fun y m => y.1, T0, [], [], []⟩
noncomputable def Zz9.S (k : Nat) : List (Nat × E.Spec Int) := []
noncomputable def Zz9.f0 (k : Nat) (a0_0 : Bool) (a0_1 : List Int) : Option Int := Zz9.D.val Zz9.S k ((a0_0, a0_1, ()), ())
noncomputable def Zz9.f := (still Zz9.f0).1
theorem Zz9.f_def : Zz9.f = Zz9.f0 := (still Zz9.f0).2
noncomputable def Zz9.g (k : Nat) (x : Zz9.A.T) : Option Int := Zz9.f k (x.1.1) (x.1.2.1)
theorem Zz9.does (k : Nat) : Does PG 86 Zz9.A Zz9.Q (Zz9.g k) Zz9.h := (show Zz9.g k = Zz9.D.val Zz9.S k from funext fun _ => by unfold Zz9.g; rw [Zz9.f_def]; rfl) ▸ Decl.does (D := Zz9.D) (S := Zz9.S) (fn := Go.Proofs.Tryz.f86) (by constructor <;> first | kernel_rfl | exact TT.of_ok _ T0ex) (fun k => trivial) (fun _ _ h => by rw [h rfl]; rfl) k
def Zz47.A : AK := .p (.row .u64) .nil
def Zz47.Q : RK := .o (.num .u64) 23 .nil
def Zz47.h : List Int → Zz47.Q.T × List Int := fun b => (((b), ()), [])
noncomputable def Zz47.D : Decl (List Int) := ⟨(Go.Proofs.Tryz.f59.body).getD .skip, 6, [.tmp 2], Zz47.A, Zz47.Q, fun y m => y.1, T0, [], [], []⟩
noncomputable def Zz47.S (k : Nat) : List (Nat × E.Spec (List Int)) := [(64, told _ Zz60.A Zz60.Q (Zz60.g k) Zz60.h)]
noncomputable def Zz47.f0 (k : Nat) (a0 : List Int) : Option (List Int) := Zz47.D.val Zz47.S k (a0, ())
noncomputable def Zz47.f := (still Zz47.f0).1
theorem Zz47.f_def : Zz47.f = Zz47.f0 := (still Zz47.f0).2
noncomputable def Zz47.g (k : Nat) (x : Zz47.A.T) : Option (List Int) := Zz47.f k (x.1)
theorem Zz47.does (k : Nat) : Does PG 59 Zz47.A Zz47.Q (Zz47.g k) Zz47.h := (show Zz47.g k = Zz47.D.val Zz47.S k from funext fun _ => by unfold Zz47.g; rw [Zz47.f_def]; rfl) ▸ Decl.does (D := Zz47.D) (S := Zz47.S) (fn := Go.Proofs.Tryz.f59) (by constructor <;> first | kernel_rfl | exact TT.of_ok _ T0ex) (fun k => ⟨told_ok (Zz60.does k), trivial⟩) (fun _ _ h => by rw [h rfl]; rfl) k
def Zz58.A : AK := .p (.row .u64) (.p (.int .u64) .nil)
def Zz58.Q : RK := .o (.num .u64) 23 .nil
def Zz58.h : List Int → Zz58.Q.T × List Int := fun b => (((b), ()), [])
noncomputable def Zz58.D : Decl (List Int) := ⟨(Go.Proofs.Tryz.f76.body).getD .skip, 38, [.tmp 4], Zz58.A, Zz58.Q, fun y m => y.1, T0, [], [(3, [(1, .p (some (.int .u64))), (5, .m (.num .u64) 23), (12, .p (some (.row .u64))), (13, .p (some (.int .i64))), (14, .p (some (.int .i64)))])], []⟩
noncomputable def Zz58.S (k : Nat) : List (Nat × E.Spec (List Int)) := []
noncomputable def Zz58.l3 (k : Nat) (x1 : Int) (x5 x12 : List Int) (x13 x14 : Int) : Option (List Int) := Zz58.D.F Zz58.S k 7 [.p (.lit (.int .u64 x1)), .m x5, .p (.row .u64 x12), .p (.lit (.int .i64 x13)), .p (.lit (.int .i64 x14))]
noncomputable def Zz58.f0 (k : Nat) (a0 : List Int) (a1 : Int) : Option (List Int) := Zz58.D.val Zz58.S k (a0, a1, ())
noncomputable def Zz58.f := (still Zz58.f0).1
theorem Zz58.f_def : Zz58.f = Zz58.f0 := (still Zz58.f0).2
noncomputable def Zz58.g (k : Nat) (x : Zz58.A.T) : Option (List Int) := Zz58.f k (x.1) (x.2.1)
theorem Zz58.does (k : Nat) : Does PG 76 Zz58.A Zz58.Q (Zz58.g k) Zz58.h := (show Zz58.g k = Zz58.D.val Zz58.S k from funext fun _ => by unfold Zz58.g; rw [Zz58.f_def]; rfl) ▸ Decl.does (D := Zz58.D) (S := Zz58.S) (fn := Go.Proofs.Tryz.f76) (by constructor <;> first | kernel_rfl | exact TT.of_ok _ T0ex) (fun k => trivial) (fun _ _ h => by rw [h rfl]; rfl) k
def Zz53.A : AK := .p (.int .u64) (.p (.int .u64) (.p (.int .u64) (.p (.int .u64) .nil)))
def Zz53.Q : RK := .p (.bool) .nil
def Zz53.h : Bool → Zz53.Q.T × List Int := fun b => ((b, ()), [])
noncomputable def Zz53.D : Decl Bool := ⟨(Go.Proofs.Tryz.f122.body).getD .skip, 30, [.tmp 8], Zz53.A, Zz53.Q, fun y m => y.1, T0, [], [], []⟩
noncomputable def Zz53.S (k : Nat) : List (Nat × E.Spec Bool) := [(65, told _ Zz18.A Zz18.Q (Zz18.g k) Zz18.h)]
noncomputable def Zz53.f0 (k : Nat) (a0 a1 a2 a3 : Int) : Option Bool := Zz53.D.val Zz53.S k (a0, a1, a2, a3, ())
noncomputable def Zz53.f := (still Zz53.f0).1
theorem Zz53.f_def : Zz53.f = Zz53.f0 := (still Zz53.f0).2
noncomputable def Zz53.g (k : Nat) (x : Zz53.A.T) : Option Bool := Zz53.f k (x.1) (x.2.1) (x.2.2.1) (x.2.2.2.1)
theorem Zz53.does (k : Nat) : Does PG 122 Zz53.A Zz53.Q (Zz53.g k) Zz53.h := (show Zz53.g k = Zz53.D.val Zz53.S k from funext fun _ => by unfold Zz53.g; rw [Zz53.f_def]; rfl) ▸ Decl.does (D := Zz53.D) (S := Zz53.S) (fn := Go.Proofs.Tryz.f122) (by constructor <;> first | kernel_rfl | exact TT.of_ok _ T0ex) (fun k => ⟨told_ok (Zz18.does k), trivial⟩) (fun _ _ h => by rw [h rfl]; rfl) k
def Zz55.A : AK := .p (.int .u64) (.p (.int .u64) (.p (.int .u64) (.p (.int .u64) (.p (.int .u64) .nil))))
def Zz55.Q : RK := .p (.int .u64) .nil
def Zz55.h : Int → Zz55.Q.T × List Int := fun b => ((b, ()), [])
noncomputable def Zz55.D : Decl Int := ⟨(Go.Proofs.Tryz.f118.body).getD .skip, 69, [.tmp 10], Zz55.A, Zz55.Q, fun y m => y.1, T0, [], [(10, [(2, .p (some (.int .u64))), (3, .p (some (.int .u64))), (4, .p (some (.int .u64))), (14, .p (some (.int .u64))), (15, .p (some (.int .u64))), (16, .p (some (.int .u64)))]), (4, [(2, .p (some (.int .u64))), (3, .p (some (.int .u64))), (4, .p (some (.int .u64))), (11, .p (some (.int .u64))), (12, .p (some (.int .u64))), (13, .p (some (.int .u64)))])], []⟩
noncomputable def Zz55.S (k : Nat) : List (Nat × E.Spec Int) := [(63, told _ Zz13.A Zz13.Q (Zz13.g k) Zz13.h), (122, told _ Zz53.A Zz53.Q (Zz53.g k) Zz53.h)]
noncomputable def Zz55.l10 (k : Nat) (x2 x3 x4 x14 x15 x16 : Int) : Option Int := Zz55.D.F Zz55.S k 21 [.p (.lit (.int .u64 x2)), .p (.lit (.int .u64 x3)), .p (.lit (.int .u64 x4)), .p (.lit (.int .u64 x14)), .p (.lit (.int .u64 x15)), .p (.lit (.int .u64 x16))]
noncomputable def Zz55.l4 (k : Nat) (x2 x3 x4 x11 x12 x13 : Int) : Option Int := Zz55.D.F Zz55.S k 9 [.p (.lit (.int .u64 x2)), .p (.lit (.int .u64 x3)), .p (.lit (.int .u64 x4)), .p (.lit (.int .u64 x11)), .p (.lit (.int .u64 x12)), .p (.lit (.int .u64 x13))]
noncomputable def Zz55.f0 (k : Nat) (a0 a1 a2 a3 a4 : Int) : Option Int := Zz55.D.val Zz55.S k (a0, a1, a2, a3, a4, ())
noncomputable def Zz55.f := (still Zz55.f0).1
theorem Zz55.f_def : Zz55.f = Zz55.f0 := (still Zz55.f0).2
noncomputable def Zz55.g (k : Nat) (x : Zz55.A.T) : Option Int := Zz55.f k (x.1) (x.2.1) (x.2.2.1) (x.2.2.2.1) (x.2.2.2.2.1)
theorem Zz55.does (k : Nat) : Does PG 118 Zz55.A Zz55.Q (Zz55.g k) Zz55.h := (show Zz55.g k = Zz55.D.val Zz55.S k from funext fun _ => by unfold Zz55.g; rw [Zz55.f_def]; rfl) ▸ Decl.does (D := Zz55.D) (S := Zz55.S) (fn := Go.Proofs.Tryz.f118) (by constructor <;> first | kernel_rfl | exact TT.of_ok _ T0ex) (fun k => ⟨told_ok (Zz13.does k), ⟨told_ok (Zz53.does k), trivial⟩⟩) (fun _ _ h => by rw [h rfl]; rfl) k
def Zz59.A : AK := .m none .u64 23 (.p (.row .u64) (.p (.int .u64) (.p (.int .i64) .nil)))
def Zz59.Q : RK := .p (.bool) .nil
def Zz59.h : (Bool × List Int) → Zz59.Q.T × List Int := fun b => ((b.1, ()), b.2)
noncomputable def Zz59.D : Decl (Bool × List Int) := ⟨(Go.Proofs.Tryz.f119.body).getD .skip, 57, [.tmp 8], Zz59.A, Zz59.Q, fun y m => (y.1, m), T0, [], [(3, [(0, .m (.num .u64) 23), (1, .p (some (.row .u64))), (2, .p (some (.int .u64))), (3, .p (some (.int .i64))), (9, .p (some (.int .u64))), (10, .p (some (.int .u64))), (11, .p (some (.int .i64)))])], []⟩
noncomputable def Zz59.S (k : Nat) : List (Nat × E.Spec (Bool × List Int)) := [(65, told _ Zz18.A Zz18.Q (Zz18.g k) Zz18.h), (73, told _ Zz52.A Zz52.Q (Zz52.g k) Zz52.h)]
noncomputable def Zz59.l3 (k : Nat) (x0 x1 : List Int) (x2 x3 x9 x10 x11 : Int) : Option (Bool × List Int) := Zz59.D.F Zz59.S k 7 [.m x0, .p (.row .u64 x1), .p (.lit (.int .u64 x2)), .p (.lit (.int .i64 x3)), .p (.lit (.int .u64 x9)), .p (.lit (.int .u64 x10)), .p (.lit (.int .i64 x11))]
noncomputable def Zz59.f0 (k : Nat) (a0 a1 : List Int) (a2 a3 : Int) : Option (Bool × List Int) := Zz59.D.val Zz59.S k (a0, a1, a2, a3, ())
noncomputable def Zz59.f := (still Zz59.f0).1
theorem Zz59.f_def : Zz59.f = Zz59.f0 := (still Zz59.f0).2
noncomputable def Zz59.g (k : Nat) (x : Zz59.A.T) : Option (Bool × List Int) := Zz59.f k (x.1) (x.2.1) (x.2.2.1) (x.2.2.2.1)
theorem Zz59.does (k : Nat) : Does PG 119 Zz59.A Zz59.Q (Zz59.g k) Zz59.h := (show Zz59.g k = Zz59.D.val Zz59.S k from funext fun _ => by unfold Zz59.g; rw [Zz59.f_def]; rfl) ▸ Decl.does (D := Zz59.D) (S := Zz59.S) (fn := Go.Proofs.Tryz.f119) (by constructor <;> first | kernel_rfl | exact TT.of_ok _ T0ex) (fun k => ⟨told_ok (Zz18.does k), ⟨told_ok (Zz52.does k), trivial⟩⟩) (fun _ _ _ => rfl) k
def Zz54.A : AK := .m none .u64 23 (.p (.row .u64) (.p (.int .i64) .nil))
def Zz54.Q : RK := .nil
def Zz54.h : List Int → Zz54.Q.T × List Int := fun b => ((()), b)
noncomputable def Zz54.D : Decl (List Int) := ⟨(Go.Proofs.Tryz.f120.body).getD .skip, 33, [], Zz54.A, Zz54.Q, fun y m => m, T0, [], [(2, [(0, .m (.num .u64) 23), (1, .p (some (.row .u64))), (2, .p (some (.int .i64))), (6, .p (some (.int .u64))), (7, .p (some (.int .i64)))])], []⟩
noncomputable def Zz54.S (k : Nat) : List (Nat × E.Spec (List Int)) := [(73, told _ Zz52.A Zz52.Q (Zz52.g k) Zz52.h)]
noncomputable def Zz54.l2 (k : Nat) (x0 x1 : List Int) (x2 x6 x7 : Int) : Option (List Int) := Zz54.D.F Zz54.S k 5 [.m x0, .p (.row .u64 x1), .p (.lit (.int .i64 x2)), .p (.lit (.int .u64 x6)), .p (.lit (.int .i64 x7))]
noncomputable def Zz54.f0 (k : Nat) (a0 a1 : List Int) (a2 : Int) : Option (List Int) := Zz54.D.val Zz54.S k (a0, a1, a2, ())
noncomputable def Zz54.f := (still Zz54.f0).1
theorem Zz54.f_def : Zz54.f = Zz54.f0 := (still Zz54.f0).2
noncomputable def Zz54.g (k : Nat) (x : Zz54.A.T) : Option (List Int) := Zz54.f k (x.1) (x.2.1) (x.2.2.1)
theorem Zz54.does (k : Nat) : Does PG 120 Zz54.A Zz54.Q (Zz54.g k) Zz54.h := (show Zz54.g k = Zz54.D.val Zz54.S k from funext fun _ => by unfold Zz54.g; rw [Zz54.f_def]; rfl) ▸ Decl.does (D := Zz54.D) (S := Zz54.S) (fn := Go.Proofs.Tryz.f120) (by constructor <;> first | kernel_rfl | exact TT.of_ok _ T0ex) (fun k => ⟨told_ok (Zz52.does k), trivial⟩) (fun _ _ _ => rfl) k
def Zz50.A : AK := .p (.row .u64) (.p (.int .i64) .nil)
def Zz50.Q : RK := .p (.row .u64) (.p (.int .i64) .nil)
def Zz50.h : (List Int × Int) → Zz50.Q.T × List Int := fun b => ((b.1, b.2, ()), [])
noncomputable def Zz50.D : Decl (List Int × Int) := ⟨(Go.Proofs.Tryz.f121.body).getD .skip, 53, [.tmp 4, .tmp 5], Zz50.A, Zz50.Q, fun y m => (y.1, y.2.1), T0, [], [(9, [(0, .p (some (.row .u64))), (1, .p (some (.int .i64))), (6, .m (.num .u64) 23), (25, .p (some (.int .i64))), (26, .p (some (.int .i64)))])], [(13, [6])]⟩
noncomputable def Zz50.S (k : Nat) : List (Nat × E.Spec (List Int × Int)) := [(64, told _ Zz60.A Zz60.Q (Zz60.g k) Zz60.h), (73, told _ Zz52.A Zz52.Q (Zz52.g k) Zz52.h)]
noncomputable def Zz50.l9 (k : Nat) (x0 : List Int) (x1 : Int) (x6 : List Int) (x25 x26 : Int) : Option (List Int × Int) := Zz50.D.F Zz50.S k 19 [.p (.row .u64 x0), .p (.lit (.int .i64 x1)), .m x6, .p (.lit (.int .i64 x25)), .p (.lit (.int .i64 x26))]
noncomputable def Zz50.f0 (k : Nat) (a0 : List Int) (a1 : Int) : Option (List Int × Int) := Zz50.D.val Zz50.S k (a0, a1, ())
noncomputable def Zz50.f := (still Zz50.f0).1
theorem Zz50.f_def : Zz50.f = Zz50.f0 := (still Zz50.f0).2
noncomputable def Zz50.g (k : Nat) (x : Zz50.A.T) : Option (List Int × Int) := Zz50.f k (x.1) (x.2.1)
theorem Zz50.does (k : Nat) : Does PG 121 Zz50.A Zz50.Q (Zz50.g k) Zz50.h := (show Zz50.g k = Zz50.D.val Zz50.S k from funext fun _ => by unfold Zz50.g; rw [Zz50.f_def]; rfl) ▸ Decl.does (D := Zz50.D) (S := Zz50.S) (fn := Go.Proofs.Tryz.f121) (by constructor <;> first | kernel_rfl | exact TT.of_ok _ T0ex) (fun k => ⟨told_ok (Zz60.does k), ⟨told_ok (Zz52.does k), trivial⟩⟩) (fun _ _ h => by rw [h rfl]; rfl) k
def Zz44.A : AK := .p (.row .u64) (.p (.row .u64) .nil)
def Zz44.Q : RK := .p (.row .u64) (.p (.row .u64) (.p (.int .i64) .nil))
def Zz44.h : (List Int × List Int × Int) → Zz44.Q.T × List Int := fun b => ((b.1, b.2.1, b.2.2, ()), [])
noncomputable def Zz44.D : Decl (List Int × List Int × Int) := ⟨(Go.Proofs.Tryz.f113.body).getD .skip, 138, [.tmp 4, .tmp 5, .tmp 6], Zz44.A, Zz44.Q, fun y m => (y.1, y.2.1, y.2.2.1), T0, [], [(14, [(10, .p (some (.int .u64))), (11, .m (.num .u64) 23), (12, .p (some (.row .u64))), (13, .p (some (.int .i64))), (14, .m (.num .u64) 23), (15, .p (some (.int .i64)))])], [(21, [11]), (22, [14])]⟩
noncomputable def Zz44.S (k : Nat) : List (Nat × E.Spec (List Int × List Int × Int)) := [(44, told _ Zz45.A Zz45.Q (Zz45.g k) Zz45.h), (51, told _ Zz43.A Zz43.Q (Zz43.g k) Zz43.h), (59, told _ Zz47.A Zz47.Q (Zz47.g k) Zz47.h), (64, told _ Zz60.A Zz60.Q (Zz60.g k) Zz60.h), (76, told _ Zz58.A Zz58.Q (Zz58.g k) Zz58.h), (78, told _ Zz14.A Zz14.Q (Zz14.g k) Zz14.h), (118, told _ Zz55.A Zz55.Q (Zz55.g k) Zz55.h), (119, told _ Zz59.A Zz59.Q (Zz59.g k) Zz59.h), (120, told _ Zz54.A Zz54.Q (Zz54.g k) Zz54.h), (121, told _ Zz50.A Zz50.Q (Zz50.g k) Zz50.h)]
noncomputable def Zz44.l14 (k : Nat) (x10 : Int) (x11 x12 : List Int) (x13 : Int) (x14 : List Int) (x15 : Int) : Option (List Int × List Int × Int) := Zz44.D.F Zz44.S k 29 [.p (.lit (.int .u64 x10)), .m x11, .p (.row .u64 x12), .p (.lit (.int .i64 x13)), .m x14, .p (.lit (.int .i64 x15))]
noncomputable def Zz44.f0 (k : Nat) (a0 a1 : List Int) : Option (List Int × List Int × Int) := Zz44.D.val Zz44.S k (a0, a1, ())
noncomputable def Zz44.f := (still Zz44.f0).1
theorem Zz44.f_def : Zz44.f = Zz44.f0 := (still Zz44.f0).2
noncomputable def Zz44.g (k : Nat) (x : Zz44.A.T) : Option (List Int × List Int × Int) := Zz44.f k (x.1) (x.2.1)
theorem Zz44.does (k : Nat) : Does PG 113 Zz44.A Zz44.Q (Zz44.g k) Zz44.h := (show Zz44.g k = Zz44.D.val Zz44.S k from funext fun _ => by unfold Zz44.g; rw [Zz44.f_def]; rfl) ▸ Decl.does (D := Zz44.D) (S := Zz44.S) (fn := Go.Proofs.Tryz.f113) (by constructor <;> first | kernel_rfl | exact TT.of_ok _ T0ex) (fun k => ⟨told_ok (Zz45.does k), ⟨told_ok (Zz43.does k), ⟨told_ok (Zz47.does k), ⟨told_ok (Zz60.does k), ⟨told_ok (Zz58.does k), ⟨told_ok (Zz14.does k), ⟨told_ok (Zz55.does k), ⟨told_ok (Zz59.does k), ⟨told_ok (Zz54.does k), ⟨told_ok (Zz50.does k), trivial⟩⟩⟩⟩⟩⟩⟩⟩⟩⟩) (fun _ _ h => by rw [h rfl]; rfl) k
def Zz8.A : AK := .p (.agg (.cons (.bool) (.cons (.row .u64) .nil))) (.p (.agg (.cons (.bool) (.cons (.row .u64) .nil))) .nil)
def Zz8.Q : RK := .p (.agg (.cons (.bool) (.cons (.row .u64) .nil))) (.p (.agg (.cons (.bool) (.cons (.row .u64) .nil))) (.p (.int .i64) .nil))
def Zz8.h : (Bool × List Int × Bool × List Int × Int) → Zz8.Q.T × List Int := fun b => (((b.1, b.2.1, ()), (b.2.2.1, b.2.2.2.1, ()), b.2.2.2.2, ()), [])
noncomputable def Zz8.D : Decl (Bool × List Int × Bool × List Int × Int) := ⟨(Go.Proofs.Tryz.f101.body).getD .skip, 35, [.cell 4 39, .cell 5 39, .tmp 6], Zz8.A, Zz8.Q, fun y m => (y.1.1, y.1.2.1, y.2.1.1, y.2.1.2.1, y.2.2.1), T0, [], [], []⟩
noncomputable def Zz8.S (k : Nat) : List (Nat × E.Spec (Bool × List Int × Bool × List Int × Int)) := [(49, told _ Zz12.A Zz12.Q (Zz12.g k) Zz12.h), (113, told _ Zz44.A Zz44.Q (Zz44.g k) Zz44.h)]
noncomputable def Zz8.f0 (k : Nat) (a0_0 : Bool) (a0_1 : List Int) (a1_0 : Bool) (a1_1 : List Int) : Option (Bool × List Int × Bool × List Int × Int) := Zz8.D.val Zz8.S k ((a0_0, a0_1, ()), (a1_0, a1_1, ()), ())
noncomputable def Zz8.f := (still Zz8.f0).1
theorem Zz8.f_def : Zz8.f = Zz8.f0 := (still Zz8.f0).2
noncomputable def Zz8.g (k : Nat) (x : Zz8.A.T) : Option (Bool × List Int × Bool × List Int × Int) := Zz8.f k (x.1.1) (x.1.2.1) (x.2.1.1) (x.2.1.2.1)
theorem Zz8.does (k : Nat) : Does PG 101 Zz8.A Zz8.Q (Zz8.g k) Zz8.h := (show Zz8.g k = Zz8.D.val Zz8.S k from funext fun _ => by unfold Zz8.g; rw [Zz8.f_def]; rfl) ▸ Decl.does (D := Zz8.D) (S := Zz8.S) (fn := Go.Proofs.Tryz.f101) (by constructor <;> first | kernel_rfl | exact TT.of_ok _ T0ex) (fun k => ⟨told_ok (Zz12.does k), ⟨told_ok (Zz44.does k), trivial⟩⟩) (fun _ _ h => by rw [h rfl]; rfl) k
def Zz6.A : AK := .p (.agg (.cons (.bool) (.cons (.row .u64) .nil))) .nil
def Zz6.Q : RK := .p (.agg (.cons (.bool) (.cons (.row .u64) .nil))) .nil
def Zz6.h : (Bool × List Int) → Zz6.Q.T × List Int := fun b => (((b.1, b.2, ()), ()), [])
noncomputable def Zz6.D : Decl (Bool × List Int) := ⟨(Go.Proofs.Tryz.f114.body).getD .skip, 9, [.cell 2 39], Zz6.A, Zz6.Q, fun y m => (y.1.1, y.1.2.1), T0, [], [], []⟩
noncomputable def Zz6.S (k : Nat) : List (Nat × E.Spec (Bool × List Int)) := [(49, told _ Zz12.A Zz12.Q (Zz12.g k) Zz12.h)]
noncomputable def Zz6.f0 (k : Nat) (a0_0 : Bool) (a0_1 : List Int) : Option (Bool × List Int) := Zz6.D.val Zz6.S k ((a0_0, a0_1, ()), ())
noncomputable def Zz6.f := (still Zz6.f0).1
theorem Zz6.f_def : Zz6.f = Zz6.f0 := (still Zz6.f0).2
noncomputable def Zz6.g (k : Nat) (x : Zz6.A.T) : Option (Bool × List Int) := Zz6.f k (x.1.1) (x.1.2.1)
theorem Zz6.does (k : Nat) : Does PG 114 Zz6.A Zz6.Q (Zz6.g k) Zz6.h := (show Zz6.g k = Zz6.D.val Zz6.S k from funext fun _ => by unfold Zz6.g; rw [Zz6.f_def]; rfl) ▸ Decl.does (D := Zz6.D) (S := Zz6.S) (fn := Go.Proofs.Tryz.f114) (by constructor <;> first | kernel_rfl | exact TT.of_ok _ T0ex) (fun k => ⟨told_ok (Zz12.does k), trivial⟩) (fun _ _ h => by rw [h rfl]; rfl) k
def Zz10.A : AK := .p (.agg (.cons (.bool) (.cons (.row .u64) .nil))) (.p (.agg (.cons (.bool) (.cons (.row .u64) .nil))) .nil)
def Zz10.Q : RK := .p (.agg (.cons (.bool) (.cons (.row .u64) .nil))) .nil
def Zz10.h : (Bool × List Int) → Zz10.Q.T × List Int := fun b => (((b.1, b.2, ()), ()), [])
noncomputable def Zz10.D : Decl (Bool × List Int) := ⟨(Go.Proofs.Tryz.f102.body).getD .skip, 9, [.cell 4 39], Zz10.A, Zz10.Q, fun y m => (y.1.1, y.1.2.1), T0, [], [], []⟩
noncomputable def Zz10.S (k : Nat) : List (Nat × E.Spec (Bool × List Int)) := [(33, told _ Zz1.A Zz1.Q (Zz1.g k) Zz1.h), (114, told _ Zz6.A Zz6.Q (Zz6.g k) Zz6.h)]
noncomputable def Zz10.f0 (k : Nat) (a0_0 : Bool) (a0_1 : List Int) (a1_0 : Bool) (a1_1 : List Int) : Option (Bool × List Int) := Zz10.D.val Zz10.S k ((a0_0, a0_1, ()), (a1_0, a1_1, ()), ())
noncomputable def Zz10.f := (still Zz10.f0).1
theorem Zz10.f_def : Zz10.f = Zz10.f0 := (still Zz10.f0).2
noncomputable def Zz10.g (k : Nat) (x : Zz10.A.T) : Option (Bool × List Int) := Zz10.f k (x.1.1) (x.1.2.1) (x.2.1.1) (x.2.1.2.1)
theorem Zz10.does (k : Nat) : Does PG 102 Zz10.A Zz10.Q (Zz10.g k) Zz10.h := (show Zz10.g k = Zz10.D.val Zz10.S k from funext fun _ => by unfold Zz10.g; rw [Zz10.f_def]; rfl) ▸ Decl.does (D := Zz10.D) (S := Zz10.S) (fn := Go.Proofs.Tryz.f102) (by constructor <;> first | kernel_rfl | exact TT.of_ok _ T0ex) (fun k => ⟨told_ok (Zz1.does k), ⟨told_ok (Zz6.does k), trivial⟩⟩) (fun _ _ h => by rw [h rfl]; rfl) k
def Zz2.A : AK := .p (.agg (.cons (.bool) (.cons (.row .u64) .nil))) (.p (.agg (.cons (.bool) (.cons (.row .u64) .nil))) .nil)
def Zz2.Q : RK := .p (.agg (.cons (.bool) (.cons (.row .u64) .nil))) (.p (.agg (.cons (.bool) (.cons (.row .u64) .nil))) (.p (.int .i64) .nil))
def Zz2.h : (Bool × List Int × Bool × List Int × Int) → Zz2.Q.T × List Int := fun b => (((b.1, b.2.1, ()), (b.2.2.1, b.2.2.2.1, ()), b.2.2.2.2, ()), [])
noncomputable def Zz2.D : Decl (Bool × List Int × Bool × List Int × Int) := ⟨(Go.Proofs.Tryz.f87.body).getD .skip, 32, [.cell 4 39, .cell 5 39, .tmp 6], Zz2.A, Zz2.Q, fun y m => (y.1.1, y.1.2.1, y.2.1.1, y.2.1.2.1, y.2.2.1), T0, [], [], []⟩
noncomputable def Zz2.S (k : Nat) : List (Nat × E.Spec (Bool × List Int × Bool × List Int × Int)) := [(33, told _ Zz1.A Zz1.Q (Zz1.g k) Zz1.h), (70, told _ Zz11.A Zz11.Q (Zz11.g k) Zz11.h), (86, told _ Zz9.A Zz9.Q (Zz9.g k) Zz9.h), (101, told _ Zz8.A Zz8.Q (Zz8.g k) Zz8.h), (102, told _ Zz10.A Zz10.Q (Zz10.g k) Zz10.h)]
noncomputable def Zz2.f0 (k : Nat) (a0_0 : Bool) (a0_1 : List Int) (a1_0 : Bool) (a1_1 : List Int) : Option (Bool × List Int × Bool × List Int × Int) := Zz2.D.val Zz2.S k ((a0_0, a0_1, ()), (a1_0, a1_1, ()), ())
noncomputable def Zz2.f := (still Zz2.f0).1
theorem Zz2.f_def : Zz2.f = Zz2.f0 := (still Zz2.f0).2
noncomputable def Zz2.g (k : Nat) (x : Zz2.A.T) : Option (Bool × List Int × Bool × List Int × Int) := Zz2.f k (x.1.1) (x.1.2.1) (x.2.1.1) (x.2.1.2.1)
theorem Zz2.does (k : Nat) : Does PG 87 Zz2.A Zz2.Q (Zz2.g k) Zz2.h := (show Zz2.g k = Zz2.D.val Zz2.S k from funext fun _ => by unfold Zz2.g; rw [Zz2.f_def]; rfl) ▸ Decl.does (D := Zz2.D) (S := Zz2.S) (fn := Go.Proofs.Tryz.f87) (by constructor <;> first | kernel_rfl | exact TT.of_ok _ T0ex) (fun k => ⟨told_ok (Zz1.does k), ⟨told_ok (Zz11.does k), ⟨told_ok (Zz9.does k), ⟨told_ok (Zz8.does k), ⟨told_ok (Zz10.does k), trivial⟩⟩⟩⟩⟩) (fun _ _ h => by rw [h rfl]; rfl) k
def Zz56.A : AK := .m none .u64 23 (.p (.row .u64) (.p (.int .u64) (.p (.int .i64) .nil)))
def Zz56.Q : RK := .nil
def Zz56.h : List Int → Zz56.Q.T × List Int := fun b => ((()), b)
noncomputable def Zz56.D : Decl (List Int) := ⟨(Go.Proofs.Tryz.f115.body).getD .skip, 77, [], Zz56.A, Zz56.Q, fun y m => m, T0, [], [(12, [(0, .m (.num .u64) 23), (8, .p (some (.int .u64))), (14, .p (some (.int .i64)))]), (2, [(0, .m (.num .u64) 23), (1, .p (some (.row .u64))), (2, .p (some (.int .u64))), (3, .p (some (.int .i64))), (8, .p (some (.int .u64))), (15, .p (some (.row .u64))), (16, .p (some (.int .i64))), (17, .p (some (.int .i64)))])], []⟩
noncomputable def Zz56.S (k : Nat) : List (Nat × E.Spec (List Int)) := [(65, told _ Zz18.A Zz18.Q (Zz18.g k) Zz18.h)]
noncomputable def Zz56.l12 (k : Nat) (x0 : List Int) (x8 x14 : Int) : Option (List Int) := Zz56.D.F Zz56.S k 25 [.m x0, .p (.lit (.int .u64 x8)), .p (.lit (.int .i64 x14))]
noncomputable def Zz56.l2 (k : Nat) (x0 x1 : List Int) (x2 x3 x8 : Int) (x15 : List Int) (x16 x17 : Int) : Option (List Int) := Zz56.D.F Zz56.S k 5 [.m x0, .p (.row .u64 x1), .p (.lit (.int .u64 x2)), .p (.lit (.int .i64 x3)), .p (.lit (.int .u64 x8)), .p (.row .u64 x15), .p (.lit (.int .i64 x16)), .p (.lit (.int .i64 x17))]
noncomputable def Zz56.f0 (k : Nat) (a0 a1 : List Int) (a2 a3 : Int) : Option (List Int) := Zz56.D.val Zz56.S k (a0, a1, a2, a3, ())
noncomputable def Zz56.f := (still Zz56.f0).1
theorem Zz56.f_def : Zz56.f = Zz56.f0 := (still Zz56.f0).2
noncomputable def Zz56.g (k : Nat) (x : Zz56.A.T) : Option (List Int) := Zz56.f k (x.1) (x.2.1) (x.2.2.1) (x.2.2.2.1)
theorem Zz56.does (k : Nat) : Does PG 115 Zz56.A Zz56.Q (Zz56.g k) Zz56.h := (show Zz56.g k = Zz56.D.val Zz56.S k from funext fun _ => by unfold Zz56.g; rw [Zz56.f_def]; rfl) ▸ Decl.does (D := Zz56.D) (S := Zz56.S) (fn := Go.Proofs.Tryz.f115) (by constructor <;> first | kernel_rfl | exact TT.of_ok _ T0ex) (fun k => ⟨told_ok (Zz18.does k), trivial⟩) (fun _ _ _ => rfl) k
def Zz46.A : AK := .p (.row .u64) (.p (.row .u64) .nil)
def Zz46.Q : RK := .p (.row .u64) .nil
def Zz46.h : List Int → Zz46.Q.T × List Int := fun b => ((b, ()), [])
noncomputable def Zz46.D : Decl (List Int) := ⟨(Go.Proofs.Tryz.f103.body).getD .skip, 34, [.tmp 4], Zz46.A, Zz46.Q, fun y m => y.1, T0, [], [(4, [(0, .p (some (.row .u64))), (5, .m (.num .u64) 23), (19, .p (some (.row .u64))), (20, .p (some (.int .i64))), (21, .p (some (.int .i64)))])], [(8, [5])]⟩
noncomputable def Zz46.S (k : Nat) : List (Nat × E.Spec (List Int)) := [(64, told _ Zz60.A Zz60.Q (Zz60.g k) Zz60.h), (115, told _ Zz56.A Zz56.Q (Zz56.g k) Zz56.h)]
noncomputable def Zz46.l4 (k : Nat) (x0 x5 x19 : List Int) (x20 x21 : Int) : Option (List Int) := Zz46.D.F Zz46.S k 9 [.p (.row .u64 x0), .m x5, .p (.row .u64 x19), .p (.lit (.int .i64 x20)), .p (.lit (.int .i64 x21))]
noncomputable def Zz46.f0 (k : Nat) (a0 a1 : List Int) : Option (List Int) := Zz46.D.val Zz46.S k (a0, a1, ())
noncomputable def Zz46.f := (still Zz46.f0).1
theorem Zz46.f_def : Zz46.f = Zz46.f0 := (still Zz46.f0).2
noncomputable def Zz46.g (k : Nat) (x : Zz46.A.T) : Option (List Int) := Zz46.f k (x.1) (x.2.1)
theorem Zz46.does (k : Nat) : Does PG 103 Zz46.A Zz46.Q (Zz46.g k) Zz46.h := (show Zz46.g k = Zz46.D.val Zz46.S k from funext fun _ => by unfold Zz46.g; rw [Zz46.f_def]; rfl) ▸ Decl.does (D := Zz46.D) (S := Zz46.S) (fn := Go.Proofs.Tryz.f103) (by constructor <;> first | kernel_rfl | exact TT.of_ok _ T0ex) (fun k => ⟨told_ok (Zz60.does k), ⟨told_ok (Zz56.does k), trivial⟩⟩) (fun _ _ h => by rw [h rfl]; rfl) k
def Zz4.A : AK := .p (.agg (.cons (.bool) (.cons (.row .u64) .nil))) (.p (.agg (.cons (.bool) (.cons (.row .u64) .nil))) .nil)
def Zz4.Q : RK := .p (.agg (.cons (.bool) (.cons (.row .u64) .nil))) .nil
def Zz4.h : (Bool × List Int) → Zz4.Q.T × List Int := fun b => (((b.1, b.2, ()), ()), [])
noncomputable def Zz4.D : Decl (Bool × List Int) := ⟨(Go.Proofs.Tryz.f90.body).getD .skip, 16, [.cell 4 39], Zz4.A, Zz4.Q, fun y m => (y.1.1, y.1.2.1), T0, [], [], []⟩
noncomputable def Zz4.S (k : Nat) : List (Nat × E.Spec (Bool × List Int)) := [(49, told _ Zz12.A Zz12.Q (Zz12.g k) Zz12.h), (103, told _ Zz46.A Zz46.Q (Zz46.g k) Zz46.h)]
noncomputable def Zz4.f0 (k : Nat) (a0_0 : Bool) (a0_1 : List Int) (a1_0 : Bool) (a1_1 : List Int) : Option (Bool × List Int) := Zz4.D.val Zz4.S k ((a0_0, a0_1, ()), (a1_0, a1_1, ()), ())
noncomputable def Zz4.f := (still Zz4.f0).1
theorem Zz4.f_def : Zz4.f = Zz4.f0 := (still Zz4.f0).2
noncomputable def Zz4.g (k : Nat) (x : Zz4.A.T) : Option (Bool × List Int) := Zz4.f k (x.1.1) (x.1.2.1) (x.2.1.1) (x.2.1.2.1)
theorem Zz4.does (k : Nat) : Does PG 90 Zz4.A Zz4.Q (Zz4.g k) Zz4.h := (show Zz4.g k = Zz4.D.val Zz4.S k from funext fun _ => by unfold Zz4.g; rw [Zz4.f_def]; rfl) ▸ Decl.does (D := Zz4.D) (S := Zz4.S) (fn := Go.Proofs.Tryz.f90) (by constructor <;> first | kernel_rfl | exact TT.of_ok _ T0ex) (fun k => ⟨told_ok (Zz12.does k), ⟨told_ok (Zz46.does k), trivial⟩⟩) (fun _ _ h => by rw [h rfl]; rfl) k
def Zz0.A : AK := .p (.bool) (.p (.row .u64) .nil)
def Zz0.Q : RK := .p (.agg (.cons (.bool) (.cons (.row .u64) .nil))) .nil
def Zz0.h : (Bool × List Int) → Zz0.Q.T × List Int := fun b => (((b.1, b.2, ()), ()), [])
noncomputable def Zz0.D : Decl (Bool × List Int) := ⟨(Go.Proofs.Tryz.f55.body).getD .skip, 9, [.cell 4 39], Zz0.A, Zz0.Q, fun y m => (y.1.1, y.1.2.1), T0, [], [], []⟩
noncomputable def Zz0.S (k : Nat) : List (Nat × E.Spec (Bool × List Int)) := [(49, told _ Zz12.A Zz12.Q (Zz12.g k) Zz12.h), (59, told _ Zz47.A Zz47.Q (Zz47.g k) Zz47.h)]
noncomputable def Zz0.f0 (k : Nat) (a0 : Bool) (a1 : List Int) : Option (Bool × List Int) := Zz0.D.val Zz0.S k (a0, a1, ())
noncomputable def Zz0.f := (still Zz0.f0).1
theorem Zz0.f_def : Zz0.f = Zz0.f0 := (still Zz0.f0).2
noncomputable def Zz0.g (k : Nat) (x : Zz0.A.T) : Option (Bool × List Int) := Zz0.f k (x.1) (x.2.1)
theorem Zz0.does (k : Nat) : Does PG 55 Zz0.A Zz0.Q (Zz0.g k) Zz0.h := (show Zz0.g k = Zz0.D.val Zz0.S k from funext fun _ => by unfold Zz0.g; rw [Zz0.f_def]; rfl) ▸ Decl.does (D := Zz0.D) (S := Zz0.S) (fn := Go.Proofs.Tryz.f55) (by constructor <;> first | kernel_rfl | exact TT.of_ok _ T0ex) (fun k => ⟨told_ok (Zz12.does k), ⟨told_ok (Zz47.does k), trivial⟩⟩) (fun _ _ h => by rw [h rfl]; rfl) k
def Zz40.A : AK := .p (.int .u64) .nil
def Zz40.Q : RK := .p (.agg (.cons (.bool) (.cons (.row .u64) .nil))) .nil
def Zz40.h : (Bool × List Int) → Zz40.Q.T × List Int := fun b => (((b.1, b.2, ()), ()), [])
noncomputable def Zz40.D : Decl (Bool × List Int) := ⟨(Go.Proofs.Tryz.f91.body).getD .skip, 6, [.cell 2 39], Zz40.A, Zz40.Q, fun y m => (y.1.1, y.1.2.1), T0, [], [], []⟩
noncomputable def Zz40.S (k : Nat) : List (Nat × E.Spec (Bool × List Int)) := [(55, told _ Zz0.A Zz0.Q (Zz0.g k) Zz0.h)]
noncomputable def Zz40.f0 (k : Nat) (a0 : Int) : Option (Bool × List Int) := Zz40.D.val Zz40.S k (a0, ())
noncomputable def Zz40.f := (still Zz40.f0).1
theorem Zz40.f_def : Zz40.f = Zz40.f0 := (still Zz40.f0).2
noncomputable def Zz40.g (k : Nat) (x : Zz40.A.T) : Option (Bool × List Int) := Zz40.f k (x.1)
theorem Zz40.does (k : Nat) : Does PG 91 Zz40.A Zz40.Q (Zz40.g k) Zz40.h := (show Zz40.g k = Zz40.D.val Zz40.S k from funext fun _ => by unfold Zz40.g; rw [Zz40.f_def]; rfl) ▸ Decl.does (D := Zz40.D) (S := Zz40.S) (fn := Go.Proofs.Tryz.f91) (by constructor <;> first | kernel_rfl | exact TT.of_ok _ T0ex) (fun k => ⟨told_ok (Zz0.does k), trivial⟩) (fun _ _ h => by rw [h rfl]; rfl) k
def Zz38.A : AK := .p (.agg (.cons (.bool) (.cons (.row .u64) .nil))) (.p (.agg (.cons (.bool) (.cons (.row .u64) .nil))) (.p (.int .u64) (.p (.int .u64) .nil)))
def Zz38.Q : RK := .p (.agg (.cons (.bool) (.cons (.row .u64) .nil))) (.p (.agg (.cons (.bool) (.cons (.row .u64) .nil))) (.p (.int .i64) .nil))
def Zz38.h : (Bool × List Int × Bool × List Int × Int) → Zz38.Q.T × List Int := fun b => (((b.1, b.2.1, ()), (b.2.2.1, b.2.2.2.1, ()), b.2.2.2.2, ()), [])
noncomputable def Zz38.D : Decl (Bool × List Int × Bool × List Int × Int) := ⟨(Go.Proofs.Tryz.f71.body).getD .skip, 85, [.cell 8 39, .cell 9 39, .tmp 10], Zz38.A, Zz38.Q, fun y m => (y.1.1, y.1.2.1, y.2.1.1, y.2.1.2.1, y.2.2.1), T0, [], [], []⟩
noncomputable def Zz38.S (k : Nat) : List (Nat × E.Spec (Bool × List Int × Bool × List Int × Int)) := [(25, told _ Zz3.A Zz3.Q (Zz3.g k) Zz3.h), (27, told _ Zz114.A Zz114.Q (Zz114.g k) Zz114.h), (33, told _ Zz1.A Zz1.Q (Zz1.g k) Zz1.h), (45, told _ Zz110.A Zz110.Q (Zz110.g k) Zz110.h), (85, told _ Zz39.A Zz39.Q (Zz39.g k) Zz39.h), (86, told _ Zz9.A Zz9.Q (Zz9.g k) Zz9.h), (87, told _ Zz2.A Zz2.Q (Zz2.g k) Zz2.h), (88, told _ Zz109.A Zz109.Q (Zz109.g k) Zz109.h), (89, told _ Zz113.A Zz113.Q (Zz113.g k) Zz113.h), (90, told _ Zz4.A Zz4.Q (Zz4.g k) Zz4.h), (91, told _ Zz40.A Zz40.Q (Zz40.g k) Zz40.h)]
noncomputable def Zz38.f0 (k : Nat) (a0_0 : Bool) (a0_1 : List Int) (a1_0 : Bool) (a1_1 : List Int) (a2 a3 : Int) : Option (Bool × List Int × Bool × List Int × Int) := Zz38.D.val Zz38.S k ((a0_0, a0_1, ()), (a1_0, a1_1, ()), a2, a3, ())
noncomputable def Zz38.f := (still Zz38.f0).1
theorem Zz38.f_def : Zz38.f = Zz38.f0 := (still Zz38.f0).2
noncomputable def Zz38.g (k : Nat) (x : Zz38.A.T) : Option (Bool × List Int × Bool × List Int × Int) := Zz38.f k (x.1.1) (x.1.2.1) (x.2.1.1) (x.2.1.2.1) (x.2.2.1) (x.2.2.2.1)
theorem Zz38.does (k : Nat) : Does PG 71 Zz38.A Zz38.Q (Zz38.g k) Zz38.h := (show Zz38.g k = Zz38.D.val Zz38.S k from funext fun _ => by unfold Zz38.g; rw [Zz38.f_def]; rfl) ▸ Decl.does (D := Zz38.D) (S := Zz38.S) (fn := Go.Proofs.Tryz.f71) (by constructor <;> first | kernel_rfl | exact TT.of_ok _ T0ex) (fun k => ⟨told_ok (Zz3.does k), ⟨told_ok (Zz114.does k), ⟨told_ok (Zz1.does k), ⟨told_ok (Zz110.does k), ⟨told_ok (Zz39.does k), ⟨told_ok (Zz9.does k), ⟨told_ok (Zz2.does k), ⟨told_ok (Zz109.does k), ⟨told_ok (Zz113.does k), ⟨told_ok (Zz4.does k), ⟨told_ok (Zz40.does k), trivial⟩⟩⟩⟩⟩⟩⟩⟩⟩⟩⟩) (fun _ _ h => by rw [h rfl]; rfl) k
def Zz37.A : AK := .p (.row .u64) (.p (.row .u64) .nil)
def Zz37.Q : RK := .p (.agg (.cons (.bool) (.cons (.row .u64) .nil))) (.p (.agg (.cons (.bool) (.cons (.row .u64) .nil))) (.p (.int .i64) .nil))
def Zz37.h : (Bool × List Int × Bool × List Int × Int) → Zz37.Q.T × List Int := fun b => (((b.1, b.2.1, ()), (b.2.2.1, b.2.2.2.1, ()), b.2.2.2.2, ()), [])
noncomputable def Zz37.D : Decl (Bool × List Int × Bool × List Int × Int) := ⟨(Go.Proofs.Tryz.f47.body).getD .skip, 50, [.cell 4 39, .cell 5 39, .tmp 6], Zz37.A, Zz37.Q, fun y m => (y.1.1, y.1.2.1, y.2.1.1, y.2.1.2.1, y.2.2.1), T0, [], [(1000, [(0, .p (some (.row .u64))), (1, .p (some (.row .u64))), (4, .b (some (.cons (.bool) (.cons (.row .u64) .nil)))), (5, .b (some (.cons (.bool) (.cons (.row .u64) .nil)))), (8, .b (some (.cons (.bool) (.cons (.row .u64) .nil)))), (9, .b (some (.cons (.bool) (.cons (.row .u64) .nil)))), (11, .p (some (.int .i64)))])], []⟩
noncomputable def Zz37.S (k : Nat) : List (Nat × E.Spec (Bool × List Int × Bool × List Int × Int)) := [(69, told _ Zz41.A Zz41.Q (Zz41.g k) Zz41.h), (70, told _ Zz11.A Zz11.Q (Zz11.g k) Zz11.h), (71, told _ Zz38.A Zz38.Q (Zz38.g k) Zz38.h)]
noncomputable def Zz37.l1000 (k : Nat) (x0 x1 : List Int) (x4_0 : Bool) (x4_1 : List Int) (x5_0 : Bool) (x5_1 : List Int) (x8_0 : Bool) (x8_1 : List Int) (x9_0 : Bool) (x9_1 : List Int) (x11 : Int) : Option (Bool × List Int × Bool × List Int × Int) := Zz37.D.F Zz37.S k 2001 [.p (.row .u64 x0), .p (.row .u64 x1), .b 39 [.lit (.bool x4_0), .row .u64 x4_1], .b 39 [.lit (.bool x5_0), .row .u64 x5_1], .b 39 [.lit (.bool x8_0), .row .u64 x8_1], .b 39 [.lit (.bool x9_0), .row .u64 x9_1], .p (.lit (.int .i64 x11))]
noncomputable def Zz37.f0 (k : Nat) (a0 a1 : List Int) : Option (Bool × List Int × Bool × List Int × Int) := Zz37.D.val Zz37.S k (a0, a1, ())
noncomputable def Zz37.f := (still Zz37.f0).1
theorem Zz37.f_def : Zz37.f = Zz37.f0 := (still Zz37.f0).2
noncomputable def Zz37.g (k : Nat) (x : Zz37.A.T) : Option (Bool × List Int × Bool × List Int × Int) := Zz37.f k (x.1) (x.2.1)
theorem Zz37.does (k : Nat) : Does PG 47 Zz37.A Zz37.Q (Zz37.g k) Zz37.h := (show Zz37.g k = Zz37.D.val Zz37.S k from funext fun _ => by unfold Zz37.g; rw [Zz37.f_def]; rfl) ▸ Decl.does (D := Zz37.D) (S := Zz37.S) (fn := Go.Proofs.Tryz.f47) (by constructor <;> first | kernel_rfl | exact TT.of_ok _ T0ex) (fun k => ⟨told_ok (Zz41.does k), ⟨told_ok (Zz11.does k), ⟨told_ok (Zz38.does k), trivial⟩⟩⟩) (fun _ _ h => by rw [h rfl]; rfl) k
def Zz35.A : AK := .p (.row .u64) (.p (.row .u64) .nil)
def Zz35.Q : RK := .o .big 39 (.p (.int .i64) .nil)
def Zz35.h : (List Int × Int) → Zz35.Q.T × List Int := fun b => (((b.1), b.2, ()), [])
noncomputable def Zz35.D : Decl (List Int × Int) := ⟨(Go.Proofs.Tryz.f29.body).getD .skip, 69, [.tmp 4, .tmp 5], Zz35.A, Zz35.Q, fun y m => (y.1, y.2.1), T0, [], [(8, [(6, .b (some (.cons (.row .u64) (.cons (.row .u64) (.cons (.row .u64) .nil))))), (7, .p (some (.row .u64))), (9, .m .big 39), (34, .p (some (.int .i64))), (35, .p (some (.int .i64)))])], [(10, [7])]⟩
noncomputable def Zz35.S (k : Nat) : List (Nat × E.Spec (List Int × Int)) := [(46, told _ Zz33.A Zz33.Q (Zz33.g k) Zz33.h), (47, told _ Zz37.A Zz37.Q (Zz37.g k) Zz37.h)]
noncomputable def Zz35.l8 (k : Nat) (x6_0 x6_1 x6_2 x7 x9 : List Int) (x34 x35 : Int) : Option (List Int × Int) := Zz35.D.F Zz35.S k 17 [.b 79 [.row .u64 x6_0, .row .u64 x6_1, .row .u64 x6_2], .p (.row .u64 x7), .m x9, .p (.lit (.int .i64 x34)), .p (.lit (.int .i64 x35))]
noncomputable def Zz35.f0 (k : Nat) (a0 a1 : List Int) : Option (List Int × Int) := Zz35.D.val Zz35.S k (a0, a1, ())
noncomputable def Zz35.f := (still Zz35.f0).1
theorem Zz35.f_def : Zz35.f = Zz35.f0 := (still Zz35.f0).2
noncomputable def Zz35.g (k : Nat) (x : Zz35.A.T) : Option (List Int × Int) := Zz35.f k (x.1) (x.2.1)
theorem Zz35.does (k : Nat) : Does PG 29 Zz35.A Zz35.Q (Zz35.g k) Zz35.h := (show Zz35.g k = Zz35.D.val Zz35.S k from funext fun _ => by unfold Zz35.g; rw [Zz35.f_def]; rfl) ▸ Decl.does (D := Zz35.D) (S := Zz35.S) (fn := Go.Proofs.Tryz.f29) (by constructor <;> first | kernel_rfl | exact TT.of_ok _ T0ex) (fun k => ⟨told_ok (Zz33.does k), ⟨told_ok (Zz37.does k), trivial⟩⟩) (fun _ _ h => by rw [h rfl]; rfl) k
def Zz31.A : AK := .p (.fp 77 (.cons (.int .u64) (.cons (.int .u64) (.cons (.int .u64) .nil)))) (.p (.row .u64) .nil)
def Zz31.Q : RK := .o (.num .u64) 23 .nil
def Zz31.h : List Int → Zz31.Q.T × List Int := fun b => (((b), ()), [])
noncomputable def Zz31.D : Decl (List Int) := ⟨(Go.Proofs.Tryz.f30.body).getD .skip, 26, [.tmp 4], Zz31.A, Zz31.Q, fun y m => y.1, T0, [], [(3, [(0, .p (some (.fp 77 (.cons (.int .u64) (.cons (.int .u64) (.cons (.int .u64) .nil)))))), (5, .m (.num .u64) 23), (11, .p (some (.row .u64))), (12, .p (some (.int .i64))), (13, .p (some (.int .i64)))])], []⟩
noncomputable def Zz31.S (k : Nat) : List (Nat × E.Spec (List Int)) := [(48, told _ Zz111.A Zz111.Q (Zz111.g k) Zz111.h)]
noncomputable def Zz31.l3 (k : Nat) (x0_0 x0_1 x0_2 : Int) (x5 x11 : List Int) (x12 x13 : Int) : Option (List Int) := Zz31.D.F Zz31.S k 7 [.p (.fp 77 [.lit (.int .u64 x0_0), .lit (.int .u64 x0_1), .lit (.int .u64 x0_2)]), .m x5, .p (.row .u64 x11), .p (.lit (.int .i64 x12)), .p (.lit (.int .i64 x13))]
noncomputable def Zz31.f0 (k : Nat) (a0_0 a0_1 a0_2 : Int) (a1 : List Int) : Option (List Int) := Zz31.D.val Zz31.S k ((a0_0, a0_1, a0_2, ()), a1, ())
noncomputable def Zz31.f := (still Zz31.f0).1
theorem Zz31.f_def : Zz31.f = Zz31.f0 := (still Zz31.f0).2
noncomputable def Zz31.g (k : Nat) (x : Zz31.A.T) : Option (List Int) := Zz31.f k (x.1.1) (x.1.2.1) (x.1.2.2.1) (x.2.1)
theorem Zz31.does (k : Nat) : Does PG 30 Zz31.A Zz31.Q (Zz31.g k) Zz31.h := (show Zz31.g k = Zz31.D.val Zz31.S k from funext fun _ => by unfold Zz31.g; rw [Zz31.f_def]; rfl) ▸ Decl.does (D := Zz31.D) (S := Zz31.S) (fn := Go.Proofs.Tryz.f30) (by constructor <;> first | kernel_rfl | exact TT.of_ok _ T0ex) (fun k => ⟨told_ok (Zz111.does k), trivial⟩) (fun _ _ h => by rw [h rfl]; rfl) k
def Zz22.A : AK := .p (.row .u64) (.p (.row .u64) (.p (.int .u64) .nil))
def Zz22.Q : RK := .o (.num .u64) 23 (.p (.int .i64) .nil)
def Zz22.h : (List Int × Int) → Zz22.Q.T × List Int := fun b => (((b.1), b.2, ()), [])
noncomputable def Zz22.D : Decl (List Int × Int) := ⟨(Go.Proofs.Tryz.f9.body).getD .skip, 65, [.tmp 6, .tmp 7], Zz22.A, Zz22.Q, fun y m => (y.1, y.2.1), T0, [], [(12, [(2, .p (some (.int .u64))), (12, .m (.num .u64) 23), (44, .p (some (.rows .big))), (45, .p (some (.int .i64))), (46, .p (some (.int .i64)))])], []⟩
noncomputable def Zz22.S (k : Nat) : List (Nat × E.Spec (List Int × Int)) := [(25, told _ Zz3.A Zz3.Q (Zz3.g k) Zz3.h), (27, told _ Zz114.A Zz114.Q (Zz114.g k) Zz114.h), (28, told _ Zz29.A Zz29.Q (Zz29.g k) Zz29.h), (29, told _ Zz35.A Zz35.Q (Zz35.g k) Zz35.h), (30, told _ Zz31.A Zz31.Q (Zz31.g k) Zz31.h)]
noncomputable def Zz22.l12 (k : Nat) (x2 : Int) (x12 x44 : List Int) (x45 x46 : Int) : Option (List Int × Int) := Zz22.D.F Zz22.S k 25 [.p (.lit (.int .u64 x2)), .m x12, .p (.rows .big x44), .p (.lit (.int .i64 x45)), .p (.lit (.int .i64 x46))]
noncomputable def Zz22.f0 (k : Nat) (a0 a1 : List Int) (a2 : Int) : Option (List Int × Int) := Zz22.D.val Zz22.S k (a0, a1, a2, ())
noncomputable def Zz22.f := (still Zz22.f0).1
theorem Zz22.f_def : Zz22.f = Zz22.f0 := (still Zz22.f0).2
noncomputable def Zz22.g (k : Nat) (x : Zz22.A.T) : Option (List Int × Int) := Zz22.f k (x.1) (x.2.1) (x.2.2.1)
theorem Zz22.does (k : Nat) : Does PG 9 Zz22.A Zz22.Q (Zz22.g k) Zz22.h := (show Zz22.g k = Zz22.D.val Zz22.S k from funext fun _ => by unfold Zz22.g; rw [Zz22.f_def]; rfl) ▸ Decl.does (D := Zz22.D) (S := Zz22.S) (fn := Go.Proofs.Tryz.f9) (by constructor <;> first | kernel_rfl | exact TT.of_ok _ T0ex) (fun k => ⟨told_ok (Zz3.does k), ⟨told_ok (Zz114.does k), ⟨told_ok (Zz29.does k), ⟨told_ok (Zz35.does k), ⟨told_ok (Zz31.does k), trivial⟩⟩⟩⟩⟩) (fun _ _ h => by rw [h rfl]; rfl) k
def Zz103.A : AK := .p (.row .u64) (.p (.row .u64) .nil)
def Zz103.Q : RK := .p (.bool) .nil
def Zz103.h : Bool → Zz103.Q.T × List Int := fun b => ((b, ()), [])
noncomputable def Zz103.D : Decl Bool := ⟨(Go.Proofs.Tryz.f11.body).getD .skip, 26, [.tmp 4], Zz103.A, Zz103.Q, fun y m => y.1, T0, [], [(4, [(0, .p (some (.row .u64))), (1, .p (some (.row .u64))), (5, .p (some (.int .i64)))])], []⟩
noncomputable def Zz103.S (k : Nat) : List (Nat × E.Spec Bool) := []
noncomputable def Zz103.l4 (k : Nat) (x0 x1 : List Int) (x5 : Int) : Option Bool := Zz103.D.F Zz103.S k 9 [.p (.row .u64 x0), .p (.row .u64 x1), .p (.lit (.int .i64 x5))]
noncomputable def Zz103.f0 (k : Nat) (a0 a1 : List Int) : Option Bool := Zz103.D.val Zz103.S k (a0, a1, ())
noncomputable def Zz103.f := (still Zz103.f0).1
theorem Zz103.f_def : Zz103.f = Zz103.f0 := (still Zz103.f0).2
noncomputable def Zz103.g (k : Nat) (x : Zz103.A.T) : Option Bool := Zz103.f k (x.1) (x.2.1)
theorem Zz103.does (k : Nat) : Does PG 11 Zz103.A Zz103.Q (Zz103.g k) Zz103.h := (show Zz103.g k = Zz103.D.val Zz103.S k from funext fun _ => by unfold Zz103.g; rw [Zz103.f_def]; rfl) ▸ Decl.does (D := Zz103.D) (S := Zz103.S) (fn := Go.Proofs.Tryz.f11) (by constructor <;> first | kernel_rfl | exact TT.of_ok _ T0ex) (fun k => trivial) (fun _ _ h => by rw [h rfl]; rfl) k
def Zz30.A : AK := .p (.row .u64) .nil
def Zz30.Q : RK := .p (.row .u64) (.p (.row .u64) .nil)
def Zz30.h : (List Int × List Int) → Zz30.Q.T × List Int := fun b => ((b.1, b.2, ()), [])
noncomputable def Zz30.D : Decl (List Int × List Int) := ⟨(Go.Proofs.Tryz.f31.body).getD .skip, 27, [.tmp 2, .tmp 3], Zz30.A, Zz30.Q, fun y m => (y.1, y.2.1), T0, [], [(3, [(4, .m (.num .u64) 23), (5, .m (.num .u64) 23), (8, .p (some (.row .u64))), (9, .p (some (.int .i64))), (10, .p (some (.int .i64)))])], []⟩
noncomputable def Zz30.S (k : Nat) : List (Nat × E.Spec (List Int × List Int)) := []
noncomputable def Zz30.l3 (k : Nat) (x4 x5 x8 : List Int) (x9 x10 : Int) : Option (List Int × List Int) := Zz30.D.F Zz30.S k 7 [.m x4, .m x5, .p (.row .u64 x8), .p (.lit (.int .i64 x9)), .p (.lit (.int .i64 x10))]
noncomputable def Zz30.f0 (k : Nat) (a0 : List Int) : Option (List Int × List Int) := Zz30.D.val Zz30.S k (a0, ())
noncomputable def Zz30.f := (still Zz30.f0).1
theorem Zz30.f_def : Zz30.f = Zz30.f0 := (still Zz30.f0).2
noncomputable def Zz30.g (k : Nat) (x : Zz30.A.T) : Option (List Int × List Int) := Zz30.f k (x.1)
theorem Zz30.does (k : Nat) : Does PG 31 Zz30.A Zz30.Q (Zz30.g k) Zz30.h := (show Zz30.g k = Zz30.D.val Zz30.S k from funext fun _ => by unfold Zz30.g; rw [Zz30.f_def]; rfl) ▸ Decl.does (D := Zz30.D) (S := Zz30.S) (fn := Go.Proofs.Tryz.f31) (by constructor <;> first | kernel_rfl | exact TT.of_ok _ T0ex) (fun k => trivial) (fun _ _ h => by rw [h rfl]; rfl) k
def Zz61.A : AK := .p (.row .u64) (.p (.int .i64) .nil)
def Zz61.Q : RK := .o (.num .u64) 23 .nil
def Zz61.h : List Int → Zz61.Q.T × List Int := fun b => (((b), ()), [])
noncomputable def Zz61.D : Decl (List Int) := ⟨(Go.Proofs.Tryz.f75.body).getD .skip, 16, [.tmp 4], Zz61.A, Zz61.Q, fun y m => y.1, T0, [], [], []⟩
noncomputable def Zz61.S (k : Nat) : List (Nat × E.Spec (List Int)) := []
noncomputable def Zz61.f0 (k : Nat) (a0 : List Int) (a1 : Int) : Option (List Int) := Zz61.D.val Zz61.S k (a0, a1, ())
noncomputable def Zz61.f := (still Zz61.f0).1
theorem Zz61.f_def : Zz61.f = Zz61.f0 := (still Zz61.f0).2
noncomputable def Zz61.g (k : Nat) (x : Zz61.A.T) : Option (List Int) := Zz61.f k (x.1) (x.2.1)
theorem Zz61.does (k : Nat) : Does PG 75 Zz61.A Zz61.Q (Zz61.g k) Zz61.h := (show Zz61.g k = Zz61.D.val Zz61.S k from funext fun _ => by unfold Zz61.g; rw [Zz61.f_def]; rfl) ▸ Decl.does (D := Zz61.D) (S := Zz61.S) (fn := Go.Proofs.Tryz.f75) (by constructor <;> first | kernel_rfl | exact TT.of_ok _ T0ex) (fun k => trivial) (fun _ _ h => by rw [h rfl]; rfl) k
def Zz49.A : AK := .p (.row .u64) (.p (.int .i64) .nil)
def Zz49.Q : RK := .p (.row .u64) (.p (.int .i64) .nil)
def Zz49.h : (List Int × Int) → Zz49.Q.T × List Int := fun b => ((b.1, b.2, ()), [])
noncomputable def Zz49.D : Decl (List Int × Int) := ⟨(Go.Proofs.Tryz.f53.body).getD .skip, 22, [.tmp 4, .tmp 5], Zz49.A, Zz49.Q, fun y m => (y.1, y.2.1), T0, [], [], []⟩
noncomputable def Zz49.S (k : Nat) : List (Nat × E.Spec (List Int × Int)) := [(64, told _ Zz60.A Zz60.Q (Zz60.g k) Zz60.h), (75, told _ Zz61.A Zz61.Q (Zz61.g k) Zz61.h), (76, told _ Zz58.A Zz58.Q (Zz58.g k) Zz58.h)]
noncomputable def Zz49.f0 (k : Nat) (a0 : List Int) (a1 : Int) : Option (List Int × Int) := Zz49.D.val Zz49.S k (a0, a1, ())
noncomputable def Zz49.f := (still Zz49.f0).1
theorem Zz49.f_def : Zz49.f = Zz49.f0 := (still Zz49.f0).2
noncomputable def Zz49.g (k : Nat) (x : Zz49.A.T) : Option (List Int × Int) := Zz49.f k (x.1) (x.2.1)
theorem Zz49.does (k : Nat) : Does PG 53 Zz49.A Zz49.Q (Zz49.g k) Zz49.h := (show Zz49.g k = Zz49.D.val Zz49.S k from funext fun _ => by unfold Zz49.g; rw [Zz49.f_def]; rfl) ▸ Decl.does (D := Zz49.D) (S := Zz49.S) (fn := Go.Proofs.Tryz.f53) (by constructor <;> first | kernel_rfl | exact TT.of_ok _ T0ex) (fun k => ⟨told_ok (Zz60.does k), ⟨told_ok (Zz61.does k), ⟨told_ok (Zz58.does k), trivial⟩⟩⟩) (fun _ _ h => by rw [h rfl]; rfl) k
def Zz5.A : AK := .p (.agg (.cons (.bool) (.cons (.row .u64) .nil))) .nil
def Zz5.Q : RK := .o (.num .u64) 23 .nil
def Zz5.h : List Int → Zz5.Q.T × List Int := fun b => (((b), ()), [])
noncomputable def Zz5.D : Decl (List Int) := ⟨(Go.Proofs.Tryz.f54.body).getD .skip, 6, [.tmp 2], Zz5.A, Zz5.Q, fun y m => y.1, T0, [], [], []⟩
noncomputable def Zz5.S (k : Nat) : List (Nat × E.Spec (List Int)) := [(59, told _ Zz47.A Zz47.Q (Zz47.g k) Zz47.h)]
noncomputable def Zz5.f0 (k : Nat) (a0_0 : Bool) (a0_1 : List Int) : Option (List Int) := Zz5.D.val Zz5.S k ((a0_0, a0_1, ()), ())
noncomputable def Zz5.f := (still Zz5.f0).1
theorem Zz5.f_def : Zz5.f = Zz5.f0 := (still Zz5.f0).2
noncomputable def Zz5.g (k : Nat) (x : Zz5.A.T) : Option (List Int) := Zz5.f k (x.1.1) (x.1.2.1)
theorem Zz5.does (k : Nat) : Does PG 54 Zz5.A Zz5.Q (Zz5.g k) Zz5.h := (show Zz5.g k = Zz5.D.val Zz5.S k from funext fun _ => by unfold Zz5.g; rw [Zz5.f_def]; rfl) ▸ Decl.does (D := Zz5.D) (S := Zz5.S) (fn := Go.Proofs.Tryz.f54) (by constructor <;> first | kernel_rfl | exact TT.of_ok _ T0ex) (fun k => ⟨told_ok (Zz47.does k), trivial⟩) (fun _ _ h => by rw [h rfl]; rfl) k
def Zz32.A : AK := .p (.agg (.cons (.bool) (.cons (.row .u64) .nil))) (.p (.int .i64) .nil)
def Zz32.Q : RK := .p (.agg (.cons (.bool) (.cons (.row .u64) .nil))) .nil
def Zz32.h : (Bool × List Int) → Zz32.Q.T × List Int := fun b => (((b.1, b.2, ()), ()), [])
noncomputable def Zz32.D : Decl (Bool × List Int) := ⟨(Go.Proofs.Tryz.f34.body).getD .skip, 16, [.cell 4 39], Zz32.A, Zz32.Q, fun y m => (y.1.1, y.1.2.1), T0, [], [], []⟩
noncomputable def Zz32.S (k : Nat) : List (Nat × E.Spec (Bool × List Int)) := [(53, told _ Zz49.A Zz49.Q (Zz49.g k) Zz49.h), (54, told _ Zz5.A Zz5.Q (Zz5.g k) Zz5.h), (55, told _ Zz0.A Zz0.Q (Zz0.g k) Zz0.h)]
noncomputable def Zz32.f0 (k : Nat) (a0_0 : Bool) (a0_1 : List Int) (a1 : Int) : Option (Bool × List Int) := Zz32.D.val Zz32.S k ((a0_0, a0_1, ()), a1, ())
noncomputable def Zz32.f := (still Zz32.f0).1
theorem Zz32.f_def : Zz32.f = Zz32.f0 := (still Zz32.f0).2
noncomputable def Zz32.g (k : Nat) (x : Zz32.A.T) : Option (Bool × List Int) := Zz32.f k (x.1.1) (x.1.2.1) (x.2.1)
theorem Zz32.does (k : Nat) : Does PG 34 Zz32.A Zz32.Q (Zz32.g k) Zz32.h := (show Zz32.g k = Zz32.D.val Zz32.S k from funext fun _ => by unfold Zz32.g; rw [Zz32.f_def]; rfl) ▸ Decl.does (D := Zz32.D) (S := Zz32.S) (fn := Go.Proofs.Tryz.f34) (by constructor <;> first | kernel_rfl | exact TT.of_ok _ T0ex) (fun k => ⟨told_ok (Zz49.does k), ⟨told_ok (Zz5.does k), ⟨told_ok (Zz0.does k), trivial⟩⟩⟩) (fun _ _ h => by rw [h rfl]; rfl) k
def Zz36.A : AK := .p (.row .u64) (.p (.row .u64) .nil)
def Zz36.Q : RK := .o .big 39 (.p (.int .i64) .nil)
def Zz36.h : (List Int × Int) → Zz36.Q.T × List Int := fun b => (((b.1), b.2, ()), [])
noncomputable def Zz36.D : Decl (List Int × Int) := ⟨(Go.Proofs.Tryz.f32.body).getD .skip, 53, [.tmp 4, .tmp 5], Zz36.A, Zz36.Q, fun y m => (y.1, y.2.1), T0, [], [(7, [(8, .m .big 39), (9, .p (some (.int .i64))), (10, .p (some (.rows .big))), (33, .p (some (.int .i64))), (34, .p (some (.int .i64)))])], []⟩
noncomputable def Zz36.S (k : Nat) : List (Nat × E.Spec (List Int × Int)) := [(29, told _ Zz35.A Zz35.Q (Zz35.g k) Zz35.h), (31, told _ Zz30.A Zz30.Q (Zz30.g k) Zz30.h), (33, told _ Zz1.A Zz1.Q (Zz1.g k) Zz1.h), (34, told _ Zz32.A Zz32.Q (Zz32.g k) Zz32.h)]
noncomputable def Zz36.l7 (k : Nat) (x8 : List Int) (x9 : Int) (x10 : List Int) (x33 x34 : Int) : Option (List Int × Int) := Zz36.D.F Zz36.S k 15 [.m x8, .p (.lit (.int .i64 x9)), .p (.rows .big x10), .p (.lit (.int .i64 x33)), .p (.lit (.int .i64 x34))]
noncomputable def Zz36.f0 (k : Nat) (a0 a1 : List Int) : Option (List Int × Int) := Zz36.D.val Zz36.S k (a0, a1, ())
noncomputable def Zz36.f := (still Zz36.f0).1
theorem Zz36.f_def : Zz36.f = Zz36.f0 := (still Zz36.f0).2
noncomputable def Zz36.g (k : Nat) (x : Zz36.A.T) : Option (List Int × Int) := Zz36.f k (x.1) (x.2.1)
theorem Zz36.does (k : Nat) : Does PG 32 Zz36.A Zz36.Q (Zz36.g k) Zz36.h := (show Zz36.g k = Zz36.D.val Zz36.S k from funext fun _ => by unfold Zz36.g; rw [Zz36.f_def]; rfl) ▸ Decl.does (D := Zz36.D) (S := Zz36.S) (fn := Go.Proofs.Tryz.f32) (by constructor <;> first | kernel_rfl | exact TT.of_ok _ T0ex) (fun k => ⟨told_ok (Zz35.does k), ⟨told_ok (Zz30.does k), ⟨told_ok (Zz1.does k), ⟨told_ok (Zz32.does k), trivial⟩⟩⟩⟩) (fun _ _ h => by rw [h rfl]; rfl) k
def Zz23.A : AK := .p (.row .u64) (.p (.row .u64) .nil)
def Zz23.Q : RK := .o .big 39 (.p (.int .i64) .nil)
def Zz23.h : (List Int × Int) → Zz23.Q.T × List Int := fun b => (((b.1), b.2, ()), [])
noncomputable def Zz23.D : Decl (List Int × Int) := ⟨(Go.Proofs.Tryz.f13.body).getD .skip, 72, [.tmp 4, .tmp 5], Zz23.A, Zz23.Q, fun y m => (y.1, y.2.1), T0, [], [(15, [(1, .p (some (.row .u64))), (9, .m .bigN 39), (10, .p (some (.int .i64))), (29, .p (some (.rows (.row .u64)))), (30, .p (some (.int .i64))), (31, .p (some (.int .i64))), (50, .p (some (.rows .big))), (51, .p (some (.int .i64))), (52, .p (some (.int .i64)))])], []⟩
noncomputable def Zz23.S (k : Nat) : List (Nat × E.Spec (List Int × Int)) := [(28, told _ Zz29.A Zz29.Q (Zz29.g k) Zz29.h), (31, told _ Zz30.A Zz30.Q (Zz30.g k) Zz30.h), (32, told _ Zz36.A Zz36.Q (Zz36.g k) Zz36.h), (33, told _ Zz1.A Zz1.Q (Zz1.g k) Zz1.h), (34, told _ Zz32.A Zz32.Q (Zz32.g k) Zz32.h)]
noncomputable def Zz23.l15 (k : Nat) (x1 x9 : List Int) (x10 : Int) (x29 : List Int) (x30 x31 : Int) (x50 : List Int) (x51 x52 : Int) : Option (List Int × Int) := Zz23.D.F Zz23.S k 31 [.p (.row .u64 x1), .m x9, .p (.lit (.int .i64 x10)), .p (.rows (.row .u64) x29), .p (.lit (.int .i64 x30)), .p (.lit (.int .i64 x31)), .p (.rows .big x50), .p (.lit (.int .i64 x51)), .p (.lit (.int .i64 x52))]
noncomputable def Zz23.f0 (k : Nat) (a0 a1 : List Int) : Option (List Int × Int) := Zz23.D.val Zz23.S k (a0, a1, ())
noncomputable def Zz23.f := (still Zz23.f0).1
theorem Zz23.f_def : Zz23.f = Zz23.f0 := (still Zz23.f0).2
noncomputable def Zz23.g (k : Nat) (x : Zz23.A.T) : Option (List Int × Int) := Zz23.f k (x.1) (x.2.1)
theorem Zz23.does (k : Nat) : Does PG 13 Zz23.A Zz23.Q (Zz23.g k) Zz23.h := (show Zz23.g k = Zz23.D.val Zz23.S k from funext fun _ => by unfold Zz23.g; rw [Zz23.f_def]; rfl) ▸ Decl.does (D := Zz23.D) (S := Zz23.S) (fn := Go.Proofs.Tryz.f13) (by constructor <;> first | kernel_rfl | exact TT.of_ok _ T0ex) (fun k => ⟨told_ok (Zz29.does k), ⟨told_ok (Zz30.does k), ⟨told_ok (Zz36.does k), ⟨told_ok (Zz1.does k), ⟨told_ok (Zz32.does k), trivial⟩⟩⟩⟩⟩) (fun _ _ h => by rw [h rfl]; rfl) k
def Zz48.A : AK := .p (.row .u64) .nil
def Zz48.Q : RK := .p (.str) .nil
def Zz48.h : ByteArray → Zz48.Q.T × List Int := fun b => ((b, ()), [])
noncomputable def Zz48.D : Decl ByteArray := ⟨(Go.Proofs.Tryz.f38.body).getD .skip, 70, [.tmp 2], Zz48.A, Zz48.Q, fun y m => y.1, T0, [], [(14, [(3, .m (.num .u8) 5), (6, .p (some (.int .i64))), (7, .p (some (.int .i64)))]), (9, [(0, .p (some (.row .u64))), (3, .m (.num .u8) 5), (4, .p (some (.int .u64))), (5, .p (some (.int .i64)))]), (5, [(0, .p (some (.row .u64))), (3, .m (.num .u8) 5)])], []⟩
noncomputable def Zz48.S (k : Nat) : List (Nat × E.Spec ByteArray) := [(44, told _ Zz45.A Zz45.Q (Zz45.g k) Zz45.h), (59, told _ Zz47.A Zz47.Q (Zz47.g k) Zz47.h)]
noncomputable def Zz48.l14 (k : Nat) (x3 : List Int) (x6 x7 : Int) : Option ByteArray := Zz48.D.F Zz48.S k 29 [.m x3, .p (.lit (.int .i64 x6)), .p (.lit (.int .i64 x7))]
noncomputable def Zz48.l9 (k : Nat) (x0 x3 : List Int) (x4 x5 : Int) : Option ByteArray := Zz48.D.F Zz48.S k 19 [.p (.row .u64 x0), .m x3, .p (.lit (.int .u64 x4)), .p (.lit (.int .i64 x5))]
noncomputable def Zz48.l5 (k : Nat) (x0 x3 : List Int) : Option ByteArray := Zz48.D.F Zz48.S k 11 [.p (.row .u64 x0), .m x3]
noncomputable def Zz48.f0 (k : Nat) (a0 : List Int) : Option ByteArray := Zz48.D.val Zz48.S k (a0, ())
noncomputable def Zz48.f := (still Zz48.f0).1
theorem Zz48.f_def : Zz48.f = Zz48.f0 := (still Zz48.f0).2
noncomputable def Zz48.g (k : Nat) (x : Zz48.A.T) : Option ByteArray := Zz48.f k (x.1)
theorem Zz48.does (k : Nat) : Does PG 38 Zz48.A Zz48.Q (Zz48.g k) Zz48.h := (show Zz48.g k = Zz48.D.val Zz48.S k from funext fun _ => by unfold Zz48.g; rw [Zz48.f_def]; rfl) ▸ Decl.does (D := Zz48.D) (S := Zz48.S) (fn := Go.Proofs.Tryz.f38) (by constructor <;> first | kernel_rfl | exact TT.of_ok _ T0ex) (fun k => ⟨told_ok (Zz45.does k), ⟨told_ok (Zz47.does k), trivial⟩⟩) (fun _ _ h => by rw [h rfl]; rfl) k
def Zz7.A : AK := .p (.agg (.cons (.bool) (.cons (.row .u64) .nil))) .nil
def Zz7.Q : RK := .p (.str) .nil
def Zz7.h : ByteArray → Zz7.Q.T × List Int := fun b => ((b, ()), [])
noncomputable def Zz7.D : Decl ByteArray := ⟨(Go.Proofs.Tryz.f15.body).getD .skip, 12, [.tmp 2], Zz7.A, Zz7.Q, fun y m => y.1, T0, [], [], []⟩
noncomputable def Zz7.S (k : Nat) : List (Nat × E.Spec ByteArray) := [(38, told _ Zz48.A Zz48.Q (Zz48.g k) Zz48.h)]
noncomputable def Zz7.f0 (k : Nat) (a0_0 : Bool) (a0_1 : List Int) : Option ByteArray := Zz7.D.val Zz7.S k ((a0_0, a0_1, ()), ())
noncomputable def Zz7.f := (still Zz7.f0).1
theorem Zz7.f_def : Zz7.f = Zz7.f0 := (still Zz7.f0).2
noncomputable def Zz7.g (k : Nat) (x : Zz7.A.T) : Option ByteArray := Zz7.f k (x.1.1) (x.1.2.1)
theorem Zz7.does (k : Nat) : Does PG 15 Zz7.A Zz7.Q (Zz7.g k) Zz7.h := (show Zz7.g k = Zz7.D.val Zz7.S k from funext fun _ => by unfold Zz7.g; rw [Zz7.f_def]; rfl) ▸ Decl.does (D := Zz7.D) (S := Zz7.S) (fn := Go.Proofs.Tryz.f15) (by constructor <;> first | kernel_rfl | exact TT.of_ok _ T0ex) (fun k => ⟨told_ok (Zz48.does k), trivial⟩) (fun _ _ h => by rw [h rfl]; rfl) k
def Zz27.A : AK := .p (.int .i64) .nil
def Zz27.Q : RK := .p (.bool) .nil
def Zz27.h : Bool → Zz27.Q.T × List Int := fun b => ((b, ()), [])
noncomputable def Zz27.D : Decl Bool := ⟨(Go.Proofs.Tryz.f61.body).getD .skip, 5, [.tmp 2], Zz27.A, Zz27.Q, fun y m => y.1, T0, [], [], []⟩
noncomputable def Zz27.S (k : Nat) : List (Nat × E.Spec Bool) := []
noncomputable def Zz27.f0 (k : Nat) (a0 : Int) : Option Bool := Zz27.D.val Zz27.S k (a0, ())
noncomputable def Zz27.f := (still Zz27.f0).1
theorem Zz27.f_def : Zz27.f = Zz27.f0 := (still Zz27.f0).2
noncomputable def Zz27.g (k : Nat) (x : Zz27.A.T) : Option Bool := Zz27.f k (x.1)
theorem Zz27.does (k : Nat) : Does PG 61 Zz27.A Zz27.Q (Zz27.g k) Zz27.h := (show Zz27.g k = Zz27.D.val Zz27.S k from funext fun _ => by unfold Zz27.g; rw [Zz27.f_def]; rfl) ▸ Decl.does (D := Zz27.D) (S := Zz27.S) (fn := Go.Proofs.Tryz.f61) (by constructor <;> first | kernel_rfl | exact TT.of_ok _ T0ex) (fun k => trivial) (fun _ _ h => by rw [h rfl]; rfl) k
def Zz72.A : AK := .p (.row .i64) (.p (.clo 61 .nil) .nil)
def Zz72.Q : RK := .p (.int .i64) .nil
def Zz72.h : Int → Zz72.Q.T × List Int := fun b => ((b, ()), [])
noncomputable def Zz72.D : Decl Int := ⟨(Go.Proofs.Tryz.f77.body).getD .skip, 19, [.tmp 4], Zz72.A, Zz72.Q, fun y m => y.1, T0, [], [(2, [(0, .p (some (.row .i64))), (1, .p (some (.clo 61 .nil))), (7, .p (some (.int .i64))), (8, .p (some (.int .i64)))])], []⟩
noncomputable def Zz72.S (k : Nat) : List (Nat × E.Spec Int) := [(61, told _ Zz27.A Zz27.Q (Zz27.g k) Zz27.h)]
noncomputable def Zz72.l2 (k : Nat) (x0 : List Int) (x7 x8 : Int) : Option Int := Zz72.D.F Zz72.S k 5 [.p (.row .i64 x0), .p (.clo 61 []), .p (.lit (.int .i64 x7)), .p (.lit (.int .i64 x8))]
noncomputable def Zz72.f0 (k : Nat) (a0 : List Int) : Option Int := Zz72.D.val Zz72.S k (a0, (()), ())
noncomputable def Zz72.f := (still Zz72.f0).1
theorem Zz72.f_def : Zz72.f = Zz72.f0 := (still Zz72.f0).2
noncomputable def Zz72.g (k : Nat) (x : Zz72.A.T) : Option Int := Zz72.f k (x.1)
theorem Zz72.does (k : Nat) : Does PG 77 Zz72.A Zz72.Q (Zz72.g k) Zz72.h := (show Zz72.g k = Zz72.D.val Zz72.S k from funext fun _ => by unfold Zz72.g; rw [Zz72.f_def]; rfl) ▸ Decl.does (D := Zz72.D) (S := Zz72.S) (fn := Go.Proofs.Tryz.f77) (by constructor <;> first | kernel_rfl | exact TT.of_ok _ T0ex) (fun k => ⟨told_ok (Zz27.does k), trivial⟩) (fun _ _ h => by rw [h rfl]; rfl) k
def Zz71.A : AK := .p (.row .i64) (.p (.clo 61 .nil) .nil)
def Zz71.Q : RK := .p (.bool) .nil
def Zz71.h : Bool → Zz71.Q.T × List Int := fun b => ((b, ()), [])
noncomputable def Zz71.D : Decl Bool := ⟨(Go.Proofs.Tryz.f60.body).getD .skip, 9, [.tmp 4], Zz71.A, Zz71.Q, fun y m => y.1, T0, [], [], []⟩
noncomputable def Zz71.S (k : Nat) : List (Nat × E.Spec Bool) := [(61, told _ Zz27.A Zz27.Q (Zz27.g k) Zz27.h), (77, told _ Zz72.A Zz72.Q (Zz72.g k) Zz72.h)]
noncomputable def Zz71.f0 (k : Nat) (a0 : List Int) : Option Bool := Zz71.D.val Zz71.S k (a0, (()), ())
noncomputable def Zz71.f := (still Zz71.f0).1
theorem Zz71.f_def : Zz71.f = Zz71.f0 := (still Zz71.f0).2
noncomputable def Zz71.g (k : Nat) (x : Zz71.A.T) : Option Bool := Zz71.f k (x.1)
theorem Zz71.does (k : Nat) : Does PG 60 Zz71.A Zz71.Q (Zz71.g k) Zz71.h := (show Zz71.g k = Zz71.D.val Zz71.S k from funext fun _ => by unfold Zz71.g; rw [Zz71.f_def]; rfl) ▸ Decl.does (D := Zz71.D) (S := Zz71.S) (fn := Go.Proofs.Tryz.f60) (by constructor <;> first | kernel_rfl | exact TT.of_ok _ T0ex) (fun k => ⟨told_ok (Zz27.does k), ⟨told_ok (Zz72.does k), trivial⟩⟩) (fun _ _ h => by rw [h rfl]; rfl) k
def Zz26.A : AK := .p (.row .i64) .nil
def Zz26.Q : RK := .p (.int .i64) (.p (.int .i64) .nil)
def Zz26.h : (Int × Int) → Zz26.Q.T × List Int := fun b => ((b.1, b.2, ()), [])
noncomputable def Zz26.D : Decl (Int × Int) := ⟨(Go.Proofs.Tryz.f40.body).getD .skip, 29, [.tmp 2, .tmp 3], Zz26.A, Zz26.Q, fun y m => (y.1, y.2.1), T0, [], [(5, [(4, .p (some (.int .i64))), (14, .p (some (.row .i64))), (15, .p (some (.int .i64))), (16, .p (some (.int .i64)))])], []⟩
noncomputable def Zz26.S (k : Nat) : List (Nat × E.Spec (Int × Int)) := [(60, told _ Zz71.A Zz71.Q (Zz71.g k) Zz71.h)]
noncomputable def Zz26.l5 (k : Nat) (x4 : Int) (x14 : List Int) (x15 x16 : Int) : Option (Int × Int) := Zz26.D.F Zz26.S k 11 [.p (.lit (.int .i64 x4)), .p (.row .i64 x14), .p (.lit (.int .i64 x15)), .p (.lit (.int .i64 x16))]
noncomputable def Zz26.f0 (k : Nat) (a0 : List Int) : Option (Int × Int) := Zz26.D.val Zz26.S k (a0, ())
noncomputable def Zz26.f := (still Zz26.f0).1
theorem Zz26.f_def : Zz26.f = Zz26.f0 := (still Zz26.f0).2
noncomputable def Zz26.g (k : Nat) (x : Zz26.A.T) : Option (Int × Int) := Zz26.f k (x.1)
theorem Zz26.does (k : Nat) : Does PG 40 Zz26.A Zz26.Q (Zz26.g k) Zz26.h := (show Zz26.g k = Zz26.D.val Zz26.S k from funext fun _ => by unfold Zz26.g; rw [Zz26.f_def]; rfl) ▸ Decl.does (D := Zz26.D) (S := Zz26.S) (fn := Go.Proofs.Tryz.f40) (by constructor <;> first | kernel_rfl | exact TT.of_ok _ T0ex) (fun k => ⟨told_ok (Zz71.does k), trivial⟩) (fun _ _ h => by rw [h rfl]; rfl) k
def Zz25.A : AK := .p (.row .i64) (.p (.row .i64) .nil)
def Zz25.Q : RK := .p (.int .i64) (.p (.int .i64) .nil)
def Zz25.h : (Int × Int) → Zz25.Q.T × List Int := fun b => ((b.1, b.2, ()), [])
noncomputable def Zz25.D : Decl (Int × Int) := ⟨(Go.Proofs.Tryz.f26.body).getD .skip, 54, [.tmp 4, .tmp 5], Zz25.A, Zz25.Q, fun y m => (y.1, y.2.1), T0, [], [(8, [(1, .p (some (.row .i64))), (8, .p (some (.int .i64))), (24, .p (some (.row .i64))), (25, .p (some (.int .i64))), (26, .p (some (.int .i64)))])], []⟩
noncomputable def Zz25.S (k : Nat) : List (Nat × E.Spec (Int × Int)) := [(40, told _ Zz26.A Zz26.Q (Zz26.g k) Zz26.h)]
noncomputable def Zz25.l8 (k : Nat) (x1 : List Int) (x8 : Int) (x24 : List Int) (x25 x26 : Int) : Option (Int × Int) := Zz25.D.F Zz25.S k 17 [.p (.row .i64 x1), .p (.lit (.int .i64 x8)), .p (.row .i64 x24), .p (.lit (.int .i64 x25)), .p (.lit (.int .i64 x26))]
noncomputable def Zz25.f0 (k : Nat) (a0 a1 : List Int) : Option (Int × Int) := Zz25.D.val Zz25.S k (a0, a1, ())
noncomputable def Zz25.f := (still Zz25.f0).1
theorem Zz25.f_def : Zz25.f = Zz25.f0 := (still Zz25.f0).2
noncomputable def Zz25.g (k : Nat) (x : Zz25.A.T) : Option (Int × Int) := Zz25.f k (x.1) (x.2.1)
theorem Zz25.does (k : Nat) : Does PG 26 Zz25.A Zz25.Q (Zz25.g k) Zz25.h := (show Zz25.g k = Zz25.D.val Zz25.S k from funext fun _ => by unfold Zz25.g; rw [Zz25.f_def]; rfl) ▸ Decl.does (D := Zz25.D) (S := Zz25.S) (fn := Go.Proofs.Tryz.f26) (by constructor <;> first | kernel_rfl | exact TT.of_ok _ T0ex) (fun k => ⟨told_ok (Zz26.does k), trivial⟩) (fun _ _ h => by rw [h rfl]; rfl) k
def Zz90.A : AK := .nil
def Zz90.Q : RK := .p (.bool) .nil
def Zz90.h : Bool → Zz90.Q.T × List Int := fun b => ((b, ()), [])
noncomputable def Zz90.D : Decl Bool := ⟨(Go.Proofs.Tryz.f8.body).getD .skip, 56, [.tmp 0], Zz90.A, Zz90.Q, fun y m => y.1, T0, [], [], []⟩
noncomputable def Zz90.S (k : Nat) : List (Nat × E.Spec Bool) := [(9, told _ Zz22.A Zz22.Q (Zz22.g k) Zz22.h), (11, told _ Zz103.A Zz103.Q (Zz103.g k) Zz103.h), (13, told _ Zz23.A Zz23.Q (Zz23.g k) Zz23.h), (15, told _ Zz7.A Zz7.Q (Zz7.g k) Zz7.h), (26, told _ Zz25.A Zz25.Q (Zz25.g k) Zz25.h)]
noncomputable def Zz90.f0 (k : Nat) : Option Bool := Zz90.D.val Zz90.S k (())
noncomputable def Zz90.f := (still Zz90.f0).1
theorem Zz90.f_def : Zz90.f = Zz90.f0 := (still Zz90.f0).2
noncomputable def Zz90.g (k : Nat) (x : Zz90.A.T) : Option Bool := Zz90.f k
theorem Zz90.does (k : Nat) : Does PG 8 Zz90.A Zz90.Q (Zz90.g k) Zz90.h := (show Zz90.g k = Zz90.D.val Zz90.S k from funext fun _ => by unfold Zz90.g; rw [Zz90.f_def]; rfl) ▸ Decl.does (D := Zz90.D) (S := Zz90.S) (fn := Go.Proofs.Tryz.f8) (by constructor <;> first | kernel_rfl | exact TT.of_ok _ T0ex) (fun k => ⟨told_ok (Zz22.does k), ⟨told_ok (Zz103.does k), ⟨told_ok (Zz23.does k), ⟨told_ok (Zz7.does k), ⟨told_ok (Zz25.does k), trivial⟩⟩⟩⟩⟩) (fun _ _ h => by rw [h rfl]; rfl) k
def Zz100.A : AK := .p (.int .u64) .nil
def Zz100.Q : RK := .p (.bool) .nil
def Zz100.h : Bool → Zz100.Q.T × List Int := fun b => ((b, ()), [])
noncomputable def Zz100.D : Decl Bool := ⟨(Go.Proofs.Tryz.f10.body).getD .skip, 9, [.tmp 2], Zz100.A, Zz100.Q, fun y m => y.1, T0, [], [], []⟩
noncomputable def Zz100.S (k : Nat) : List (Nat × E.Spec Bool) := []
noncomputable def Zz100.f0 (k : Nat) (a0 : Int) : Option Bool := Zz100.D.val Zz100.S k (a0, ())
noncomputable def Zz100.f := (still Zz100.f0).1
theorem Zz100.f_def : Zz100.f = Zz100.f0 := (still Zz100.f0).2
noncomputable def Zz100.g (k : Nat) (x : Zz100.A.T) : Option Bool := Zz100.f k (x.1)
theorem Zz100.does (k : Nat) : Does PG 10 Zz100.A Zz100.Q (Zz100.g k) Zz100.h := (show Zz100.g k = Zz100.D.val Zz100.S k from funext fun _ => by unfold Zz100.g; rw [Zz100.f_def]; rfl) ▸ Decl.does (D := Zz100.D) (S := Zz100.S) (fn := Go.Proofs.Tryz.f10) (by constructor <;> first | kernel_rfl | exact TT.of_ok _ T0ex) (fun k => trivial) (fun _ _ h => by rw [h rfl]; rfl) k
def Zz99.A : AK := .p (.int .u64) (.p (.int .u64) (.p (.int .u64) .nil))
def Zz99.Q : RK := .p (.int .u64) .nil
def Zz99.h : Int → Zz99.Q.T × List Int := fun b => ((b, ()), [])
noncomputable def Zz99.D : Decl Int := ⟨(Go.Proofs.Tryz.f23.body).getD .skip, 16, [.tmp 6], Zz99.A, Zz99.Q, fun y m => y.1, T0, [], [], []⟩
noncomputable def Zz99.S (k : Nat) : List (Nat × E.Spec Int) := []
noncomputable def Zz99.f0 (k : Nat) (a0 a1 a2 : Int) : Option Int := Zz99.D.val Zz99.S k (a0, a1, a2, ())
noncomputable def Zz99.f := (still Zz99.f0).1
theorem Zz99.f_def : Zz99.f = Zz99.f0 := (still Zz99.f0).2
noncomputable def Zz99.g (k : Nat) (x : Zz99.A.T) : Option Int := Zz99.f k (x.1) (x.2.1) (x.2.2.1)
theorem Zz99.does (k : Nat) : Does PG 23 Zz99.A Zz99.Q (Zz99.g k) Zz99.h := (show Zz99.g k = Zz99.D.val Zz99.S k from funext fun _ => by unfold Zz99.g; rw [Zz99.f_def]; rfl) ▸ Decl.does (D := Zz99.D) (S := Zz99.S) (fn := Go.Proofs.Tryz.f23) (by constructor <;> first | kernel_rfl | exact TT.of_ok _ T0ex) (fun k => trivial) (fun _ _ h => by rw [h rfl]; rfl) k
def Zz101.A : AK := .p (.int .u64) (.p (.int .u64) (.p (.int .u64) .nil))
def Zz101.Q : RK := .p (.int .u64) .nil
def Zz101.h : Int → Zz101.Q.T × List Int := fun b => ((b, ()), [])
noncomputable def Zz101.D : Decl Int := ⟨(Go.Proofs.Tryz.f24.body).getD .skip, 30, [.tmp 6], Zz101.A, Zz101.Q, fun y m => y.1, T0, [], [(4, [(0, .p (some (.int .u64))), (1, .p (some (.int .u64))), (2, .p (some (.int .u64))), (7, .p (some (.int .u64)))])], []⟩
noncomputable def Zz101.S (k : Nat) : List (Nat × E.Spec Int) := [(23, told _ Zz99.A Zz99.Q (Zz99.g k) Zz99.h)]
noncomputable def Zz101.l4 (k : Nat) (x0 x1 x2 x7 : Int) : Option Int := Zz101.D.F Zz101.S k 9 [.p (.lit (.int .u64 x0)), .p (.lit (.int .u64 x1)), .p (.lit (.int .u64 x2)), .p (.lit (.int .u64 x7))]
noncomputable def Zz101.f0 (k : Nat) (a0 a1 a2 : Int) : Option Int := Zz101.D.val Zz101.S k (a0, a1, a2, ())
noncomputable def Zz101.f := (still Zz101.f0).1
theorem Zz101.f_def : Zz101.f = Zz101.f0 := (still Zz101.f0).2
noncomputable def Zz101.g (k : Nat) (x : Zz101.A.T) : Option Int := Zz101.f k (x.1) (x.2.1) (x.2.2.1)
theorem Zz101.does (k : Nat) : Does PG 24 Zz101.A Zz101.Q (Zz101.g k) Zz101.h := (show Zz101.g k = Zz101.D.val Zz101.S k from funext fun _ => by unfold Zz101.g; rw [Zz101.f_def]; rfl) ▸ Decl.does (D := Zz101.D) (S := Zz101.S) (fn := Go.Proofs.Tryz.f24) (by constructor <;> first | kernel_rfl | exact TT.of_ok _ T0ex) (fun k => ⟨told_ok (Zz99.does k), trivial⟩) (fun _ _ h => by rw [h rfl]; rfl) k
def Zz102.A : AK := .p (.row .u64) (.p (.row .u64) (.p (.int .u64) .nil))
def Zz102.Q : RK := .o (.num .u64) 23 .nil
def Zz102.h : List Int → Zz102.Q.T × List Int := fun b => (((b), ()), [])
noncomputable def Zz102.D : Decl (List Int) := ⟨(Go.Proofs.Tryz.f12.body).getD .skip, 61, [.tmp 6], Zz102.A, Zz102.Q, fun y m => y.1, T0, [], [(8, [(0, .p (some (.row .u64))), (1, .p (some (.row .u64))), (2, .p (some (.int .u64))), (7, .m (.num .u64) 23), (8, .p (some (.int .i64))), (9, .p (some (.int .i64)))]), (5, [(0, .p (some (.row .u64))), (1, .p (some (.row .u64))), (2, .p (some (.int .u64))), (7, .m (.num .u64) 23), (8, .p (some (.int .i64)))])], []⟩
noncomputable def Zz102.S (k : Nat) : List (Nat × E.Spec (List Int)) := [(23, told _ Zz99.A Zz99.Q (Zz99.g k) Zz99.h), (24, told _ Zz101.A Zz101.Q (Zz101.g k) Zz101.h)]
noncomputable def Zz102.l8 (k : Nat) (x0 x1 : List Int) (x2 : Int) (x7 : List Int) (x8 x9 : Int) : Option (List Int) := Zz102.D.F Zz102.S k 17 [.p (.row .u64 x0), .p (.row .u64 x1), .p (.lit (.int .u64 x2)), .m x7, .p (.lit (.int .i64 x8)), .p (.lit (.int .i64 x9))]
noncomputable def Zz102.l5 (k : Nat) (x0 x1 : List Int) (x2 : Int) (x7 : List Int) (x8 : Int) : Option (List Int) := Zz102.D.F Zz102.S k 11 [.p (.row .u64 x0), .p (.row .u64 x1), .p (.lit (.int .u64 x2)), .m x7, .p (.lit (.int .i64 x8))]
noncomputable def Zz102.f0 (k : Nat) (a0 a1 : List Int) (a2 : Int) : Option (List Int) := Zz102.D.val Zz102.S k (a0, a1, a2, ())
noncomputable def Zz102.f := (still Zz102.f0).1
theorem Zz102.f_def : Zz102.f = Zz102.f0 := (still Zz102.f0).2
noncomputable def Zz102.g (k : Nat) (x : Zz102.A.T) : Option (List Int) := Zz102.f k (x.1) (x.2.1) (x.2.2.1)
theorem Zz102.does (k : Nat) : Does PG 12 Zz102.A Zz102.Q (Zz102.g k) Zz102.h := (show Zz102.g k = Zz102.D.val Zz102.S k from funext fun _ => by unfold Zz102.g; rw [Zz102.f_def]; rfl) ▸ Decl.does (D := Zz102.D) (S := Zz102.S) (fn := Go.Proofs.Tryz.f12) (by constructor <;> first | kernel_rfl | exact TT.of_ok _ T0ex) (fun k => ⟨told_ok (Zz99.does k), ⟨told_ok (Zz101.does k), trivial⟩⟩) (fun _ _ h => by rw [h rfl]; rfl) k
def Zz87.A : AK := .p (.row .u64) (.p (.row .u64) (.p (.int .u64) .nil))
def Zz87.Q : RK := .p (.bool) .nil
def Zz87.h : Bool → Zz87.Q.T × List Int := fun b => ((b, ()), [])
noncomputable def Zz87.D : Decl Bool := ⟨(Go.Proofs.Tryz.f3.body).getD .skip, 51, [.tmp 6], Zz87.A, Zz87.Q, fun y m => y.1, T0, [], [], []⟩
noncomputable def Zz87.S (k : Nat) : List (Nat × E.Spec Bool) := [(8, told _ Zz90.A Zz90.Q (Zz90.g k) Zz90.h), (9, told _ Zz22.A Zz22.Q (Zz22.g k) Zz22.h), (10, told _ Zz100.A Zz100.Q (Zz100.g k) Zz100.h), (11, told _ Zz103.A Zz103.Q (Zz103.g k) Zz103.h), (12, told _ Zz102.A Zz102.Q (Zz102.g k) Zz102.h)]
noncomputable def Zz87.f0 (k : Nat) (a0 a1 : List Int) (a2 : Int) : Option Bool := Zz87.D.val Zz87.S k (a0, a1, a2, ())
noncomputable def Zz87.f := (still Zz87.f0).1
theorem Zz87.f_def : Zz87.f = Zz87.f0 := (still Zz87.f0).2
noncomputable def Zz87.g (k : Nat) (x : Zz87.A.T) : Option Bool := Zz87.f k (x.1) (x.2.1) (x.2.2.1)
theorem Zz87.does (k : Nat) : Does PG 3 Zz87.A Zz87.Q (Zz87.g k) Zz87.h := (show Zz87.g k = Zz87.D.val Zz87.S k from funext fun _ => by unfold Zz87.g; rw [Zz87.f_def]; rfl) ▸ Decl.does (D := Zz87.D) (S := Zz87.S) (fn := Go.Proofs.Tryz.f3) (by constructor <;> first | kernel_rfl | exact TT.of_ok _ T0ex) (fun k => ⟨told_ok (Zz90.does k), ⟨told_ok (Zz22.does k), ⟨told_ok (Zz100.does k), ⟨told_ok (Zz103.does k), ⟨told_ok (Zz102.does k), trivial⟩⟩⟩⟩⟩) (fun _ _ h => by rw [h rfl]; rfl) k
def Zz96.A : AK := .p (.str) (.p (.int .i64) .nil)
def Zz96.Q : RK := .p (.int .i64) .nil
def Zz96.h : Int → Zz96.Q.T × List Int := fun b => ((b, ()), [])
noncomputable def Zz96.D : Decl Int := ⟨(Go.Proofs.Tryz.f56.body).getD .skip, 18, [.tmp 4], Zz96.A, Zz96.Q, fun y m => y.1, T0, [], [], []⟩
noncomputable def Zz96.S (k : Nat) : List (Nat × E.Spec Int) := []
noncomputable def Zz96.f0 (k : Nat) (a0 : ByteArray) (a1 : Int) : Option Int := Zz96.D.val Zz96.S k (a0, a1, ())
noncomputable def Zz96.f := (still Zz96.f0).1
theorem Zz96.f_def : Zz96.f = Zz96.f0 := (still Zz96.f0).2
noncomputable def Zz96.g (k : Nat) (x : Zz96.A.T) : Option Int := Zz96.f k (x.1) (x.2.1)
theorem Zz96.does (k : Nat) : Does PG 56 Zz96.A Zz96.Q (Zz96.g k) Zz96.h := (show Zz96.g k = Zz96.D.val Zz96.S k from funext fun _ => by unfold Zz96.g; rw [Zz96.f_def]; rfl) ▸ Decl.does (D := Zz96.D) (S := Zz96.S) (fn := Go.Proofs.Tryz.f56) (by constructor <;> first | kernel_rfl | exact TT.of_ok _ T0ex) (fun k => trivial) (fun _ _ h => by rw [h rfl]; rfl) k
def Zz97.A : AK := .p (.str) .nil
def Zz97.Q : RK := .p (.str) .nil
def Zz97.h : ByteArray → Zz97.Q.T × List Int := fun b => ((b, ()), [])
noncomputable def Zz97.D : Decl ByteArray := ⟨(Go.Proofs.Tryz.f57.body).getD .skip, 16, [.tmp 2], Zz97.A, Zz97.Q, fun y m => y.1, T0, [], [(1, [(0, .p (some (.str)))])], []⟩
noncomputable def Zz97.S (k : Nat) : List (Nat × E.Spec ByteArray) := []
noncomputable def Zz97.l1 (k : Nat) (x0 : ByteArray) : Option ByteArray := Zz97.D.F Zz97.S k 3 [.p (.lit (.string x0))]
noncomputable def Zz97.f0 (k : Nat) (a0 : ByteArray) : Option ByteArray := Zz97.D.val Zz97.S k (a0, ())
noncomputable def Zz97.f := (still Zz97.f0).1
theorem Zz97.f_def : Zz97.f = Zz97.f0 := (still Zz97.f0).2
noncomputable def Zz97.g (k : Nat) (x : Zz97.A.T) : Option ByteArray := Zz97.f k (x.1)
theorem Zz97.does (k : Nat) : Does PG 57 Zz97.A Zz97.Q (Zz97.g k) Zz97.h := (show Zz97.g k = Zz97.D.val Zz97.S k from funext fun _ => by unfold Zz97.g; rw [Zz97.f_def]; rfl) ▸ Decl.does (D := Zz97.D) (S := Zz97.S) (fn := Go.Proofs.Tryz.f57) (by constructor <;> first | kernel_rfl | exact TT.of_ok _ T0ex) (fun k => trivial) (fun _ _ h => by rw [h rfl]; rfl) k
def Zz98.A : AK := .p (.row .u8) .nil
def Zz98.Q : RK := .p (.str) .nil
def Zz98.h : ByteArray → Zz98.Q.T × List Int := fun b => ((b, ()), [])
noncomputable def Zz98.D : Decl ByteArray := ⟨(Go.Proofs.Tryz.f58.body).getD .skip, 21, [.tmp 2], Zz98.A, Zz98.Q, fun y m => y.1, T0, [], [(3, [(0, .p (some (.row .u8))), (3, .m (.num .u8) 5), (4, .p (some (.int .i64)))])], []⟩
noncomputable def Zz98.S (k : Nat) : List (Nat × E.Spec ByteArray) := []
noncomputable def Zz98.l3 (k : Nat) (x0 x3 : List Int) (x4 : Int) : Option ByteArray := Zz98.D.F Zz98.S k 7 [.p (.row .u8 x0), .m x3, .p (.lit (.int .i64 x4))]
noncomputable def Zz98.f0 (k : Nat) (a0 : List Int) : Option ByteArray := Zz98.D.val Zz98.S k (a0, ())
noncomputable def Zz98.f := (still Zz98.f0).1
theorem Zz98.f_def : Zz98.f = Zz98.f0 := (still Zz98.f0).2
noncomputable def Zz98.g (k : Nat) (x : Zz98.A.T) : Option ByteArray := Zz98.f k (x.1)
theorem Zz98.does (k : Nat) : Does PG 58 Zz98.A Zz98.Q (Zz98.g k) Zz98.h := (show Zz98.g k = Zz98.D.val Zz98.S k from funext fun _ => by unfold Zz98.g; rw [Zz98.f_def]; rfl) ▸ Decl.does (D := Zz98.D) (S := Zz98.S) (fn := Go.Proofs.Tryz.f58) (by constructor <;> first | kernel_rfl | exact TT.of_ok _ T0ex) (fun k => trivial) (fun _ _ h => by rw [h rfl]; rfl) k
def Zz93.A : AK := .p (.str) (.p (.str) .nil)
def Zz93.Q : RK := .p (.str) .nil
def Zz93.h : ByteArray → Zz93.Q.T × List Int := fun b => ((b, ()), [])
noncomputable def Zz93.D : Decl ByteArray := ⟨(Go.Proofs.Tryz.f35.body).getD .skip, 46, [.tmp 4], Zz93.A, Zz93.Q, fun y m => y.1, T0, [], [(4, [(0, .p (some (.str))), (1, .p (some (.str))), (5, .m (.num .u8) 5), (6, .p (some (.int .i64))), (7, .p (some (.int .i64)))])], []⟩
noncomputable def Zz93.S (k : Nat) : List (Nat × E.Spec ByteArray) := [(56, told _ Zz96.A Zz96.Q (Zz96.g k) Zz96.h), (57, told _ Zz97.A Zz97.Q (Zz97.g k) Zz97.h), (58, told _ Zz98.A Zz98.Q (Zz98.g k) Zz98.h)]
noncomputable def Zz93.l4 (k : Nat) (x0 x1 : ByteArray) (x5 : List Int) (x6 x7 : Int) : Option ByteArray := Zz93.D.F Zz93.S k 9 [.p (.lit (.string x0)), .p (.lit (.string x1)), .m x5, .p (.lit (.int .i64 x6)), .p (.lit (.int .i64 x7))]
noncomputable def Zz93.f0 (k : Nat) (a0 a1 : ByteArray) : Option ByteArray := Zz93.D.val Zz93.S k (a0, a1, ())
noncomputable def Zz93.f := (still Zz93.f0).1
theorem Zz93.f_def : Zz93.f = Zz93.f0 := (still Zz93.f0).2
noncomputable def Zz93.g (k : Nat) (x : Zz93.A.T) : Option ByteArray := Zz93.f k (x.1) (x.2.1)
theorem Zz93.does (k : Nat) : Does PG 35 Zz93.A Zz93.Q (Zz93.g k) Zz93.h := (show Zz93.g k = Zz93.D.val Zz93.S k from funext fun _ => by unfold Zz93.g; rw [Zz93.f_def]; rfl) ▸ Decl.does (D := Zz93.D) (S := Zz93.S) (fn := Go.Proofs.Tryz.f35) (by constructor <;> first | kernel_rfl | exact TT.of_ok _ T0ex) (fun k => ⟨told_ok (Zz96.does k), ⟨told_ok (Zz97.does k), ⟨told_ok (Zz98.does k), trivial⟩⟩⟩) (fun _ _ h => by rw [h rfl]; rfl) k
def Zz94.A : AK := .p (.str) (.p (.str) .nil)
def Zz94.Q : RK := .p (.str) .nil
def Zz94.h : ByteArray → Zz94.Q.T × List Int := fun b => ((b, ()), [])
noncomputable def Zz94.D : Decl ByteArray := ⟨(Go.Proofs.Tryz.f36.body).getD .skip, 74, [.tmp 4], Zz94.A, Zz94.Q, fun y m => y.1, T0, [], [(12, [(5, .m (.num .i64) 3), (8, .m (.num .u8) 5), (9, .p (some (.int .i64))), (10, .p (some (.int .i64)))]), (6, [(0, .p (some (.str))), (1, .p (some (.str))), (5, .m (.num .i64) 3), (6, .p (some (.int .i64))), (7, .p (some (.int .i64)))]), (3, [(0, .p (some (.str))), (1, .p (some (.str))), (5, .m (.num .i64) 3), (6, .p (some (.int .i64)))])], []⟩
noncomputable def Zz94.S (k : Nat) : List (Nat × E.Spec ByteArray) := [(56, told _ Zz96.A Zz96.Q (Zz96.g k) Zz96.h), (57, told _ Zz97.A Zz97.Q (Zz97.g k) Zz97.h), (58, told _ Zz98.A Zz98.Q (Zz98.g k) Zz98.h)]
noncomputable def Zz94.l12 (k : Nat) (x5 x8 : List Int) (x9 x10 : Int) : Option ByteArray := Zz94.D.F Zz94.S k 25 [.m x5, .m x8, .p (.lit (.int .i64 x9)), .p (.lit (.int .i64 x10))]
noncomputable def Zz94.l6 (k : Nat) (x0 x1 : ByteArray) (x5 : List Int) (x6 x7 : Int) : Option ByteArray := Zz94.D.F Zz94.S k 13 [.p (.lit (.string x0)), .p (.lit (.string x1)), .m x5, .p (.lit (.int .i64 x6)), .p (.lit (.int .i64 x7))]
noncomputable def Zz94.l3 (k : Nat) (x0 x1 : ByteArray) (x5 : List Int) (x6 : Int) : Option ByteArray := Zz94.D.F Zz94.S k 7 [.p (.lit (.string x0)), .p (.lit (.string x1)), .m x5, .p (.lit (.int .i64 x6))]
noncomputable def Zz94.f0 (k : Nat) (a0 a1 : ByteArray) : Option ByteArray := Zz94.D.val Zz94.S k (a0, a1, ())
noncomputable def Zz94.f := (still Zz94.f0).1
theorem Zz94.f_def : Zz94.f = Zz94.f0 := (still Zz94.f0).2
noncomputable def Zz94.g (k : Nat) (x : Zz94.A.T) : Option ByteArray := Zz94.f k (x.1) (x.2.1)
theorem Zz94.does (k : Nat) : Does PG 36 Zz94.A Zz94.Q (Zz94.g k) Zz94.h := (show Zz94.g k = Zz94.D.val Zz94.S k from funext fun _ => by unfold Zz94.g; rw [Zz94.f_def]; rfl) ▸ Decl.does (D := Zz94.D) (S := Zz94.S) (fn := Go.Proofs.Tryz.f36) (by constructor <;> first | kernel_rfl | exact TT.of_ok _ T0ex) (fun k => ⟨told_ok (Zz96.does k), ⟨told_ok (Zz97.does k), ⟨told_ok (Zz98.does k), trivial⟩⟩⟩) (fun _ _ h => by rw [h rfl]; rfl) k
def Zz95.A : AK := .p (.int .u64) .nil
def Zz95.Q : RK := .p (.str) .nil
def Zz95.h : ByteArray → Zz95.Q.T × List Int := fun b => ((b, ()), [])
noncomputable def Zz95.D : Decl ByteArray := ⟨(Go.Proofs.Tryz.f37.body).getD .skip, 18, [.tmp 2], Zz95.A, Zz95.Q, fun y m => y.1, T0, [], [(2, [(0, .p (some (.int .u64))), (3, .m (.num .u8) 5)])], []⟩
noncomputable def Zz95.S (k : Nat) : List (Nat × E.Spec ByteArray) := [(57, told _ Zz97.A Zz97.Q (Zz97.g k) Zz97.h), (58, told _ Zz98.A Zz98.Q (Zz98.g k) Zz98.h)]
noncomputable def Zz95.l2 (k : Nat) (x0 : Int) (x3 : List Int) : Option ByteArray := Zz95.D.F Zz95.S k 5 [.p (.lit (.int .u64 x0)), .m x3]
noncomputable def Zz95.f0 (k : Nat) (a0 : Int) : Option ByteArray := Zz95.D.val Zz95.S k (a0, ())
noncomputable def Zz95.f := (still Zz95.f0).1
theorem Zz95.f_def : Zz95.f = Zz95.f0 := (still Zz95.f0).2
noncomputable def Zz95.g (k : Nat) (x : Zz95.A.T) : Option ByteArray := Zz95.f k (x.1)
theorem Zz95.does (k : Nat) : Does PG 37 Zz95.A Zz95.Q (Zz95.g k) Zz95.h := (show Zz95.g k = Zz95.D.val Zz95.S k from funext fun _ => by unfold Zz95.g; rw [Zz95.f_def]; rfl) ▸ Decl.does (D := Zz95.D) (S := Zz95.S) (fn := Go.Proofs.Tryz.f37) (by constructor <;> first | kernel_rfl | exact TT.of_ok _ T0ex) (fun k => ⟨told_ok (Zz97.does k), ⟨told_ok (Zz98.does k), trivial⟩⟩) (fun _ _ h => by rw [h rfl]; rfl) k
def Zz104.A : AK := .p (.row .u64) (.p (.row .u64) .nil)
def Zz104.Q : RK := .o .txt 9 .nil
def Zz104.h : List Int → Zz104.Q.T × List Int := fun b => (((b), ()), [])
noncomputable def Zz104.D : Decl (List Int) := ⟨(Go.Proofs.Tryz.f14.body).getD .skip, 69, [.tmp 4], Zz104.A, Zz104.Q, fun y m => y.1, T0, [], [(12, [(0, .p (some (.row .u64))), (1, .p (some (.row .u64))), (5, .m .txt 9), (7, .p (some (.int .i64))), (8, .p (some (.int .i64)))]), (9, [(0, .p (some (.row .u64))), (1, .p (some (.row .u64))), (5, .m .txt 9), (7, .p (some (.int .i64)))]), (5, [(0, .p (some (.row .u64))), (1, .p (some (.row .u64))), (5, .m .txt 9), (6, .p (some (.int .i64)))])], []⟩
noncomputable def Zz104.S (k : Nat) : List (Nat × E.Spec (List Int)) := [(35, told _ Zz93.A Zz93.Q (Zz93.g k) Zz93.h), (36, told _ Zz94.A Zz94.Q (Zz94.g k) Zz94.h), (37, told _ Zz95.A Zz95.Q (Zz95.g k) Zz95.h)]
noncomputable def Zz104.l12 (k : Nat) (x0 x1 x5 : List Int) (x7 x8 : Int) : Option (List Int) := Zz104.D.F Zz104.S k 25 [.p (.row .u64 x0), .p (.row .u64 x1), .m x5, .p (.lit (.int .i64 x7)), .p (.lit (.int .i64 x8))]
noncomputable def Zz104.l9 (k : Nat) (x0 x1 x5 : List Int) (x7 : Int) : Option (List Int) := Zz104.D.F Zz104.S k 19 [.p (.row .u64 x0), .p (.row .u64 x1), .m x5, .p (.lit (.int .i64 x7))]
noncomputable def Zz104.l5 (k : Nat) (x0 x1 x5 : List Int) (x6 : Int) : Option (List Int) := Zz104.D.F Zz104.S k 11 [.p (.row .u64 x0), .p (.row .u64 x1), .m x5, .p (.lit (.int .i64 x6))]
noncomputable def Zz104.f0 (k : Nat) (a0 a1 : List Int) : Option (List Int) := Zz104.D.val Zz104.S k (a0, a1, ())
noncomputable def Zz104.f := (still Zz104.f0).1
theorem Zz104.f_def : Zz104.f = Zz104.f0 := (still Zz104.f0).2
noncomputable def Zz104.g (k : Nat) (x : Zz104.A.T) : Option (List Int) := Zz104.f k (x.1) (x.2.1)
theorem Zz104.does (k : Nat) : Does PG 14 Zz104.A Zz104.Q (Zz104.g k) Zz104.h := (show Zz104.g k = Zz104.D.val Zz104.S k from funext fun _ => by unfold Zz104.g; rw [Zz104.f_def]; rfl) ▸ Decl.does (D := Zz104.D) (S := Zz104.S) (fn := Go.Proofs.Tryz.f14) (by constructor <;> first | kernel_rfl | exact TT.of_ok _ T0ex) (fun k => ⟨told_ok (Zz93.does k), ⟨told_ok (Zz94.does k), ⟨told_ok (Zz95.does k), trivial⟩⟩⟩) (fun _ _ h => by rw [h rfl]; rfl) k
def Zz86.A : AK := .p (.row .u64) (.p (.row .u64) .nil)
def Zz86.Q : RK := .p (.bool) .nil
def Zz86.h : Bool → Zz86.Q.T × List Int := fun b => ((b, ()), [])
noncomputable def Zz86.D : Decl Bool := ⟨(Go.Proofs.Tryz.f4.body).getD .skip, 53, [.tmp 4], Zz86.A, Zz86.Q, fun y m => y.1, T0, [], [(8, [(5, .p (some (.rows .big))), (7, .p (some (.rows .txt))), (8, .p (some (.int .i64)))])], []⟩
noncomputable def Zz86.S (k : Nat) : List (Nat × E.Spec Bool) := [(8, told _ Zz90.A Zz90.Q (Zz90.g k) Zz90.h), (13, told _ Zz23.A Zz23.Q (Zz23.g k) Zz23.h), (14, told _ Zz104.A Zz104.Q (Zz104.g k) Zz104.h), (15, told _ Zz7.A Zz7.Q (Zz7.g k) Zz7.h)]
noncomputable def Zz86.l8 (k : Nat) (x5 x7 : List Int) (x8 : Int) : Option Bool := Zz86.D.F Zz86.S k 17 [.p (.rows .big x5), .p (.rows .txt x7), .p (.lit (.int .i64 x8))]
noncomputable def Zz86.f0 (k : Nat) (a0 a1 : List Int) : Option Bool := Zz86.D.val Zz86.S k (a0, a1, ())
noncomputable def Zz86.f := (still Zz86.f0).1
theorem Zz86.f_def : Zz86.f = Zz86.f0 := (still Zz86.f0).2
noncomputable def Zz86.g (k : Nat) (x : Zz86.A.T) : Option Bool := Zz86.f k (x.1) (x.2.1)
theorem Zz86.does (k : Nat) : Does PG 4 Zz86.A Zz86.Q (Zz86.g k) Zz86.h := (show Zz86.g k = Zz86.D.val Zz86.S k from funext fun _ => by unfold Zz86.g; rw [Zz86.f_def]; rfl) ▸ Decl.does (D := Zz86.D) (S := Zz86.S) (fn := Go.Proofs.Tryz.f4) (by constructor <;> first | kernel_rfl | exact TT.of_ok _ T0ex) (fun k => ⟨told_ok (Zz90.does k), ⟨told_ok (Zz23.does k), ⟨told_ok (Zz104.does k), ⟨told_ok (Zz7.does k), trivial⟩⟩⟩⟩) (fun _ _ h => by rw [h rfl]; rfl) k
end Go.Proofs.YtkoeddgbhohggaaGreatDoor.F
end

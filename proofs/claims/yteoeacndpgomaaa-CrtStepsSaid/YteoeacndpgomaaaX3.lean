/-
  Texts of this proof, one behind the other: EP, ER, ES, Shelf, EY, Da. No condition of their own.
-/
import Derived.Test.YteoeacndpgomaaaX2
import Derived.Shelf.Bits.Mul64
import Derived.Shelf.Strconv.Itoa0
import Derived.Shelf.Small.Bits
import Derived.Shelf.Spec.TrailingZeros
import Derived.Shelf.Strings.SlTrimAscii
import Derived.Test.YteoeacndpgomaaaProg
section
/-
  A walk by evaluation, 16: a function's contract from its evaluation. No condition.
-/
namespace Go.Proofs.Yteoeacndpgomaaa.E
open Go.RowKit Go.Proofs.YteoeacndpgomaaaW.PrintWords Go.Proofs.YteoeacndpgomaaaW.PrintLast
set_option linter.unusedVariables false
set_option linter.unusedSimpArgs false
section
variable {P : Program} {R : Type} {r : R}
theorem frame_pin {N : Nat} {w : World} {ok : Nat → Prop} {M : Option Nat} {xs : List XV} {us : List Value} : (frameOf N w ok M xs us).pin.map Prod.fst = pinAt xs 0 := by
  show ((pinAt xs 0).map _).map _ = _
  cases pinAt xs 0 <;> rfl
/-- A FUNCTION'S CONTRACT: what the walk by evaluation comes to is what a call answers. -/
theorem fn_ok {f : FuncId} {fn : Func} {c : Code} {vars : List ResultVar} {ms : List RM} {Kf : List RV → List Int → Option R} {xs : List XV} {rs0 : List RV} {m0 : List Int}
    (hfn : P.funcs[f]? = some fn) (hb : fn.body = some c) (hname : (fn.name == "runtime.NumGoroutine") = false) (hmo : P.follows .mixedOrders = true) (hvars : fn.results.toList = vars) (hin : varsIn fn.ntmps vars = true)
    (hlen : xs.length ≤ fn.ntmps) (hc : countM xs ≤ 1) (G : Nat → Cfg R) (hT : ∀ k, (G k).T.ok P) (hS : ∀ k g s, (G k).S g = some s → s.ok P g) (hN : ∀ k, (G k).N = fn.ntmps) (hpn : ∀ k, (G k).pn = pinAt xs 0)
    (hk : ∀ k key, keepOf (G k) key = keepOf (G 0) key) (h0 : ∀ key vs, (G 0).F key vs ≠ some r) {T : TT} (hT0 : T.ok P)
    (hs : ∀ k, ∀ p ∈ occs (G k) c (Kmain (retV T vars ms (pinK xs 0) Kf)), ∀ keep vs, keepOf (G 0) p.1 = some keep → (G (k + 1)).F p.1 vs = some r → p.2 (build keep vs) = some r)
    (hfin : ∀ rs m', Kf rs m' = some r → RImp rs rs0 ∧ m' = m0) (k : Nat) (h : run (G k) c (initSt xs) (Kmain (retV T vars ms (pinK xs 0) Kf)) = some r) : QC P f xs rs0 m0 := by
  refine ⟨⟨fn, hfn, hname, by rw [hb]; rfl⟩, fun ok M w us hgl hx => calls_of_wp hfn hb ?_⟩
  have hf : ∀ k, Fit P (frameOf fn.ntmps w ok M xs us) (G k) := fun k => ⟨hT k, hS k, (hN k).symm, by rw [hpn k]; exact frame_pin, hmo⟩
  have hrel : Rel (frameOf fn.ntmps w ok M xs us) r (Kmain (retV T vars ms (pinK xs 0) Kf)) (bodyPost P fn fun e w' => ∃ G vs, e = .returned (packV vs) ∧ RAll w w' ok G rs0 vs ∧ Fr (fun k => M = some k) w w' ∧ MAll w w' M m0 xs us) := by
    intro e st a w' he hsim
    cases e with
    | ret => exact ret_ok hT0 hvars hin hx hc hfin he hsim
    | normal => exact ret_ok hT0 hvars hin hx hc hfin he hsim
    | _ => cases he
  exact run_ok (hf k) c _ _ _ _ _ (places G hf hk h0 hs hrel k) hrel h (init_sim hgl hx hlen hc)
end
end Go.Proofs.Yteoeacndpgomaaa.E
end
section
/-
  A walk by evaluation, 17: functions declared by kinds; their places' functions from the walk itself. No condition.
-/
namespace Go.Proofs.Yteoeacndpgomaaa.E
open Go.RowKit Go.Proofs.YteoeacndpgomaaaW.PrintWords Go.Proofs.YteoeacndpgomaaaW.PrintLast
set_option linter.unusedVariables false
set_option linter.unusedSimpArgs false
/-- Arguments: values; a row that may be written. -/
inductive AK where
  | nil
  | p (s : SK) (r : AK)
  | m (b : Option TypeId) (k : IntKind) (e : TypeId) (r : AK)
def AK.T : AK → Type
  | .nil => Unit
  | .p s r => s.T × r.T
  | .m _ _ _ r => List Int × r.T
def AK.put : (A : AK) → A.T → List XV
  | .nil, _ => []
  | .p s r, t => .p (s.put t.1) :: r.put t.2
  | .m b k e r, t => .m b k e t.1 :: r.put t.2
def beqO : Option Nat → Option Nat → Bool
  | none, none => true
  | some a, some b => Nat.beq a b
  | _, _ => false
theorem beqO_eq {a b : Option Nat} (h : beqO a b = true) : a = b := by
  cases a <;> cases b <;> first | rfl | cases h | exact congrArg some (Nat.eq_of_beq_eq_true h)
def AK.get : (A : AK) → List XV → Option A.T
  | .nil, l => (match l with
    | [] => some ()
    | _ :: _ => none)
  | .p s r, l => (match l with
    | .p a :: l => (match s.get a, r.get l with
      | some t, some u => some (t, u)
      | _, _ => none)
    | _ => none)
  | .m b k e r, l => (match l with
    | .m b' k' e' x :: l => (match Nat.beq e' e, beqO b' b with
      | true, true => (match r.get l with
        | some u => if k' = k then some (x, u) else none
        | none => none)
      | _, _ => none)
    | _ => none)
def AK.on {R : Type} : (A : AK) → A.T → (List XV → Option R) → Option R
  | .nil, _, K => K []
  | .p s r, t, K => s.on t.1 fun a => r.on t.2 fun l => K (.p a :: l)
  | .m b k e r, t, K => r.on t.2 fun l => K (.m b k e t.1 :: l)
def AK.muts : AK → List Bool
  | .nil => []
  | .p _ r => false :: r.muts
  | .m _ _ _ r => true :: r.muts
def AK.pin : AK → Nat → Option Nat
  | .nil, _ => none
  | .p _ r, j => r.pin (j + 1)
  | .m _ _ _ _, j => some j
def AK.pinK : AK → Nat → Option (Nat × Option TypeId × IntKind × TypeId)
  | .nil, _ => none
  | .p _ r, j => r.pinK (j + 1)
  | .m b k e _, j => some (j, b, k, e)
def AK.count : AK → Nat
  | .nil => 0
  | .p _ r => r.count
  | .m _ _ _ r => r.count + 1
def AK.len : AK → Nat
  | .nil => 0
  | .p _ r => r.len + 1
  | .m _ _ _ r => r.len + 1
/-- Results: values; a row of the caller's from here on. -/
inductive RK where
  | nil
  | p (s : SK) (r : RK)
  | o (k : IntKind) (e : TypeId) (r : RK)
/-- Does a value of that kind hold memory? -/
def SK.heap : SK → Bool
  | .int _ => false
  | .bool => false
  | .str => false
  | .nil => false
  | .agg l => l.heap
  | .cons a b => (match a.heap with
    | true => true
    | false => b.heap)
  | .row _ => true
  | .fp _ _ => true
  | .np _ _ => true
  | .clo _ _ => true
  | .sl _ => true
  | .pt _ _ => true
  | .any => true
def RK.heap : RK → Bool
  | .nil => false
  | .p s r => (match s.heap with
    | true => true
    | false => r.heap)
  | .o _ _ r => r.heap
def RK.T : RK → Type
  | .nil => Unit
  | .p s r => s.T × r.T
  | .o _ _ r => List Int × r.T
def RK.put : (A : RK) → A.T → List RV
  | .nil, _ => []
  | .p s r, t => .p (s.put t.1) :: r.put t.2
  | .o k e r, t => .o k e t.1 :: r.put t.2
def RK.get : (A : RK) → List RV → Option A.T
  | .nil, l => (match l with
    | [] => some ()
    | _ :: _ => none)
  | .p s r, l => (match l with
    | .p a :: l => (match s.get a, r.get l with
      | some t, some u => some (t, u)
      | _, _ => none)
    | _ => none)
  | .o k e r, l => (match l with
    | .o k' e' x :: l => (match Nat.beq e' e with
      | true => (match r.get l with
        | some u => if k' = k then some (x, u) else none
        | none => none)
      | false => none)
    | _ => none)
def RK.on {R : Type} : (A : RK) → A.T → (List RV → Option R) → Option R
  | .nil, _, K => K []
  | .p s r, t, K => s.on t.1 fun a => r.on t.2 fun l => K (.p a :: l)
  | .o k e r, t, K => r.on t.2 fun l => K (.o k e t.1 :: l)
def RK.ms : RK → List RM
  | .nil => []
  | .p _ r => .p :: r.ms
  | .o k e r => .o k e :: r.ms
theorem AK.on_eq {R : Type} : ∀ (A : AK) (t : A.T) (K : List XV → Option R), A.on t K = K (A.put t)
  | .nil, _, K => rfl
  | .p s r, t, K => by unfold AK.on AK.put; rw [SK.on_eq, AK.on_eq r]
  | .m b k e r, t, K => by unfold AK.on AK.put; rw [AK.on_eq r]
theorem RK.on_eq {R : Type} : ∀ (A : RK) (t : A.T) (K : List RV → Option R), A.on t K = K (A.put t)
  | .nil, _, K => rfl
  | .p s r, t, K => by unfold RK.on RK.put; rw [SK.on_eq, RK.on_eq r]
  | .o k e r, t, K => by unfold RK.on RK.put; rw [RK.on_eq r]
theorem AK.pin_put : ∀ (A : AK) (t : A.T) (j : Nat), pinAt (A.put t) j = A.pin j
  | .nil, _, j => rfl
  | .p s r, t, j => by unfold AK.put AK.pin pinAt; exact AK.pin_put r t.2 (j + 1)
  | .m b k e r, t, j => rfl
theorem AK.pinK_put : ∀ (A : AK) (t : A.T) (j : Nat), E.pinK (A.put t) j = A.pinK j
  | .nil, _, j => rfl
  | .p s r, t, j => by unfold AK.put AK.pinK E.pinK; exact AK.pinK_put r t.2 (j + 1)
  | .m b k e r, t, j => rfl
theorem AK.count_put : ∀ (A : AK) (t : A.T), countM (A.put t) = A.count
  | .nil, _ => rfl
  | .p s r, t => by unfold AK.put AK.count countM; exact AK.count_put r t.2
  | .m b k e r, t => by unfold AK.put AK.count countM; rw [AK.count_put r t.2]
theorem AK.len_put : ∀ (A : AK) (t : A.T), (A.put t).length = A.len
  | .nil, _ => rfl
  | .p s r, t => by unfold AK.put AK.len; rw [List.length_cons, AK.len_put r t.2]
  | .m b k e r, t => by unfold AK.put AK.len; rw [List.length_cons, AK.len_put r t.2]
theorem RK.get_imp : ∀ (A : RK) {l : List RV} {t : A.T}, A.get l = some t → RImp l (A.put t)
  | .nil, l, t, h => by
    unfold RK.get at h
    cases l with
    | nil => trivial
    | cons x l => cases h
  | .p s r, l, t, h => by
    unfold RK.get at h
    cases l with
    | nil => cases h
    | cons x l =>
      cases x with
      | o k e y => cases h
      | p a =>
        simp only at h
        split at h
        · rename_i t1 t2 h1 h2
          injection h with h
          subst h
          exact ⟨fun W v hd => SK.get_den s h1 hd, RK.get_imp r h2⟩
        · cases h
  | .o k e r, l, t, h => by
    unfold RK.get at h
    cases l with
    | nil => cases h
    | cons x l =>
      cases x with
      | p a => cases h
      | o k' e' y =>
        simp only at h
        split at h
        · rename_i hb
          split at h
          · rename_i u hu
            split at h
            · rename_i hk
              injection h with h
              subst h
              exact ⟨⟨hk, Nat.eq_of_beq_eq_true hb, rfl⟩, RK.get_imp r hu⟩
            · cases h
          · cases h
        · cases h
theorem AK.get_all {w : World} {ok : Nat → Prop} {M : Option Nat} : ∀ (A : AK) {l : List XV} {t : A.T} {us : List Value}, A.get l = some t → XAll w ok M l us → XAll w ok M (A.put t) us ∧ ∀ w' m', MAll w w' M m' (A.put t) us → MAll w w' M m' l us
  | .nil, l, t, us, h, hx => by
    unfold AK.get at h
    cases l with
    | nil => exact ⟨hx, fun _ _ h => h⟩
    | cons x l => cases h
  | .p s r, l, t, us, h, hx => by
    unfold AK.get at h
    cases l with
    | nil => cases h
    | cons x l =>
      cases x with
      | m b k e y => cases h
      | p a =>
        simp only at h
        split at h
        · rename_i t1 t2 h1 h2
          injection h with h
          subst h
          cases us with
          | nil => exact hx.elim
          | cons u us =>
            obtain ⟨h3, h4⟩ := AK.get_all r h2 hx.2
            exact ⟨⟨fun W' hW => SK.get_den s h1 (hx.1 W' hW), h3⟩, fun w' m' hm => h4 w' m' hm⟩
        · cases h
  | .m b k e r, l, t, us, h, hx => by
    unfold AK.get at h
    cases l with
    | nil => cases h
    | cons x l =>
      cases x with
      | p a => cases h
      | m b' k' e' y =>
        simp only at h
        split at h
        · rename_i hb hbo
          have := beqO_eq hbo
          subst this
          split at h
          · rename_i u hu
            split at h
            · rename_i hk
              injection h with h
              subst h; subst hk
              have := Nat.eq_of_beq_eq_true hb
              subst this
              cases us with
              | nil => exact hx.elim
              | cons v us =>
                obtain ⟨h3, h4⟩ := AK.get_all r hu hx.2
                exact ⟨⟨hx.1, h3⟩, fun w' m' hm => ⟨hm.1, h4 w' m' hm.2⟩⟩
            · cases h
          · cases h
        · cases h
section
variable {P : Program} {R β : Type}
/-- WHAT A FUNCTION COMPUTES: g, its answer laid out by h as results and the row that was written. -/
def Does (P : Program) (f : FuncId) (A : AK) (Q : RK) (g : A.T → Option β) (h : β → Q.T × List Int) : Prop := ∀ x b, g x = some b → QC P f (A.put x) (Q.put (h b).1) (h b).2
/-- The function as a caller is told of it. -/
def told (R : Type) (A : AK) (Q : RK) (g : A.T → Option β) (h : β → Q.T × List Int) : Spec R := ⟨A.muts, Q.heap && Nat.beq A.count 0, fun xs K => match A.get xs with
  | some x => (g x).bind fun b => Q.on (h b).1 fun rs => K rs (h b).2
  | none => none⟩
theorem told_ok {f : FuncId} {A : AK} {Q : RK} {g : A.T → Option β} {h : β → Q.T × List Int} (hd : Does P f A Q g h) : (told R A Q g h).ok P f := by
  intro xs K r hr
  unfold told at hr
  simp only at hr
  split at hr
  · rename_i x hx
    cases hg : g x with
    | none => rw [hg] at hr; cases hr
    | some b =>
      rw [hg] at hr
      have h1 : Q.on (h b).1 (fun rs => K rs (h b).2) = some r := hr
      rw [RK.on_eq] at h1
      refine ⟨_, _, h1, ?_⟩
      obtain ⟨h2, h3⟩ := hd x b hg
      refine ⟨h2, fun ok M w us hgl hxs => ?_⟩
      obtain ⟨h4, h5⟩ := AK.get_all A hx hxs
      exact fun cs => (h3 ok M w us hgl h4 cs).elim fun e h6 => h6.elim fun w' h7 => h7.elim fun fr h8 => ⟨e, w', fr, h8.1.elim fun G h9 => h9.elim fun vs a => ⟨G, vs, a.1, a.2.1, a.2.2.1, h5 w' _ a.2.2.2⟩, h8.2⟩
  · cases hr
/-- A table of functions. -/
def TabOk (P : Program) : List (Nat × Spec R) → Prop
  | [] => True
  | p :: r => p.2.ok P p.1 ∧ TabOk P r
theorem tab_look {f : Nat} {s : Spec R} : ∀ {l : List (Nat × Spec R)}, TabOk P l → look f l = some s → s.ok P f
  | [], _, h => by cases h
  | (g, t) :: l, h, hl => by
    unfold look at hl
    split at hl
    · rename_i hb
      injection hl with hl
      subst hl
      rw [Nat.eq_of_beq_eq_true hb]
      exact h.1
    · exact tab_look h.2 hl
end
/-- A function declared. -/
structure Decl (β : Type) where
  c : Code
  N : Nat
  vars : List ResultVar
  A : AK
  Q : RK
  u : Q.T → List Int → β
  T : TT
  cutR : List (Nat × List (Nat × KM))
  cutL : List (Nat × List (Nat × KM))
  fz : List (Nat × List Nat)
section
variable {P : Program} {β : Type}
def Decl.G (D : Decl β) (S : List (Nat × Spec β)) (F : Nat → List CV → Option β) : Cfg β := ⟨D.T, fun f => look f S, D.N, D.A.pin 0, fun n => look n D.cutR, fun n => look n D.cutL, fun n => (look n D.fz).getD [], F⟩
def finOk : Nat → List Int → Bool
  | 0, [] => true
  | 0, _ :: _ => false
  | _ + 1, _ => true
theorem finOk_of {n : Nat} {m : List Int} (h : finOk n m = true) (h0 : n = 0) : m = [] := by
  subst h0
  cases m with
  | nil => rfl
  | cons a l => cases h
def Decl.fin (D : Decl β) (rs : List RV) (m : List Int) : Option β := match D.Q.get rs with
  | some y => (match finOk D.A.count m with
    | true => some (D.u y m)
    | false => none)
  | none => none
def Decl.K (D : Decl β) : Exit → St → Option β := Kmain (retV D.T D.vars D.Q.ms (D.A.pinK 0) D.fin)
def Decl.keep (D : Decl β) (key : Nat) : Option (List (Nat × KM)) := if key % 2 = 0 then look (key / 2) D.cutR else look (key / 2) D.cutL
/-- What goes on from a place, by so many rounds. -/
noncomputable def Decl.F (D : Decl β) (S : Nat → List (Nat × Spec β)) : Nat → Nat → List CV → Option β
  | 0 => fun _ _ => none
  | k + 1 => fun key vs => match D.keep key, look key (occs (D.G (S k) (Decl.F D S k)) D.c D.K) with
    | some keep, some q => q (build keep vs)
    | _, _ => none
noncomputable def Decl.val (D : Decl β) (S : Nat → List (Nat × Spec β)) (k : Nat) (x : D.A.T) : Option β := D.A.on x fun xs => run (D.G (S k) (D.F S k)) D.c (initSt xs) D.K
/-- The places' names. -/
def keysOf : Code → List Nat
  | .region id _ _ => [2 * id]
  | .seq x y => keysOf x ++ keysOf y
  | .cond _ x y => keysOf x ++ keysOf y
  | .block _ x => keysOf x
  | .loop x => (2 * nameOf x + 1) :: keysOf x
  | .scope x => ((labs x).map fun l => 2 * (1000 + l) + 1) ++ keysOf x
  | _ => []
theorem occs_keys {R : Type} {G : Cfg R} : ∀ (c : Code) (K : Exit → St → Option R), (occs G c K).map Prod.fst = keysOf c
  | .region id ops draw, K => rfl
  | .seq x y, K => by unfold occs keysOf; rw [List.map_append, occs_keys x, occs_keys y]
  | .cond _ x y, K => by unfold occs keysOf; rw [List.map_append, occs_keys x, occs_keys y]
  | .block _ x, K => by unfold occs keysOf; rw [occs_keys x]
  | .loop x, K => by unfold occs keysOf; rw [List.map_cons, occs_keys x]
  | .skip, _ => rfl
  | .label _, _ => rfl
  | .exit _, _ => rfl
  | .ret, _ => rfl
  | .rangeFunc _ _ _ _, _ => rfl
  | .scope x, K => by unfold occs keysOf; rw [List.map_append, occs_keys x, List.map_map]; rfl
  | .goto _, _ => rfl
  | .refuse _, _ => rfl
theorem look_nodup {α : Type} : ∀ {l : List (Nat × α)} {p : Nat × α}, (l.map Prod.fst).Nodup → p ∈ l → look p.1 l = some p.2
  | (n, x) :: l, p, hn, hp => by
    rcases List.mem_cons.1 hp with h | h
    · subst h
      simp [look]
    · have hne : Nat.beq p.1 n = false := by
        cases hb : Nat.beq p.1 n with
        | false => rfl
        | true =>
          have := Nat.eq_of_beq_eq_true hb
          rw [List.map_cons] at hn
          exact absurd (this ▸ List.mem_map_of_mem (f := Prod.fst) h : n ∈ l.map Prod.fst) (List.nodup_cons.1 hn).1
      unfold look
      rw [hne]
      exact look_nodup (List.nodup_cons.1 hn).2 h
/-- The declaration fits the program's function. -/
structure Decl.Fits (D : Decl β) (P : Program) (f : FuncId) (fn : Func) : Prop where
  at_ : P.funcs[f]? = some fn
  body : fn.body = some D.c
  name : (fn.name == "runtime.NumGoroutine") = false
  mo : P.follows .mixedOrders = true
  vars : fn.results.toList = D.vars
  N : fn.ntmps = D.N
  T : D.T.ok P
  chk : (varsIn D.N D.vars && Nat.ble D.A.len D.N && Nat.ble D.A.count 1 && nodupB (keysOf D.c)) = true
theorem Decl.does {D : Decl β} {f : FuncId} {fn : Func} (hf : D.Fits P f fn) {S : Nat → List (Nat × Spec β)} (hS : ∀ k, TabOk P (S k)) {h : β → D.Q.T × List Int} (hu : ∀ y m, (D.A.count = 0 → m = []) → h (D.u y m) = (y, m)) (k : Nat) : Does P f D.A D.Q (D.val S k) h := by
  intro x b hb
  have hc := hf.chk
  simp only [Bool.and_eq_true] at hc
  obtain ⟨⟨⟨h1, h2⟩, h3⟩, h4⟩ := hc
  unfold Decl.val at hb
  rw [AK.on_eq] at hb
  refine fn_ok (Kf := D.fin) (ms := D.Q.ms) (T := D.T) hf.at_ hf.body hf.name hf.mo hf.vars (by rw [hf.N]; exact h1) (by rw [AK.len_put, hf.N]; exact Nat.le_of_ble_eq_true h2) (by rw [AK.count_put]; exact Nat.le_of_ble_eq_true h3) (fun k => D.G (S k) (D.F S k)) (fun _ => hf.T) (fun k g s hg => tab_look (hS k) hg) (fun _ => hf.N.symm) (fun _ => (AK.pin_put D.A x 0).symm) (fun _ _ => rfl) (fun key vs h => (by cases (h : none = some b))) hf.T ?_ ?_ k ?_
  · intro k p hp keep vs hk hF
    have hn : ((occs (D.G (S k) (D.F S k)) D.c D.K).map Prod.fst).Nodup := by rw [occs_keys]; exact nodup_of h4
    have hp' : p ∈ occs (D.G (S k) (D.F S k)) D.c D.K := by
      have : D.K = Kmain (retV D.T D.vars D.Q.ms (E.pinK (D.A.put x) 0) D.fin) := by unfold Decl.K; rw [AK.pinK_put]
      rw [this]; exact hp
    have hl := look_nodup hn hp'
    have hF' : D.F S (k + 1) p.1 vs = some b := hF
    have hk' : D.keep p.1 = some keep := hk
    unfold Decl.F at hF'
    simp only [hk', hl] at hF'
    exact hF'
  · intro rs m' hr
    unfold Decl.fin at hr
    split at hr
    · rename_i y hy
      split at hr
      · rename_i hm
        injection hr with hr
        subst hr
        rw [hu y m' (finOk_of hm)]
        exact ⟨RK.get_imp D.Q hy, rfl⟩
      · cases hr
    · cases hr
  · have : D.K = Kmain (retV D.T D.vars D.Q.ms (E.pinK (D.A.put x) 0) D.fin) := by unfold Decl.K; rw [AK.pinK_put]
    rw [← this]; exact hb
end
end Go.Proofs.Yteoeacndpgomaaa.E
end
section
/-
  A walk by evaluation, 18: the table of types, from the program. No condition.
-/
namespace Go.Proofs.Yteoeacndpgomaaa.E
open Go.RowKit Go.Proofs.YteoeacndpgomaaaW.PrintWords Go.Proofs.YteoeacndpgomaaaW.PrintLast
set_option linter.unusedVariables false
set_option linter.unusedSimpArgs false
def udOf : TypeDesc → Option UD
  | .int k => some (.int k)
  | .bool => some .bool
  | .string => some .str
  | .pointer e => some (.ptr e)
  | .slice e => some (.slice e)
  | .struct fs => some (.struct (fs.toList.map fun f => (f.type, f.offset)))
  | .array n e => some (.array n e)
  | _ => none
def undOf (P : Program) : List Nat → List (Nat × UD)
  | [] => []
  | t :: r => match P.underlying t with
    | some d => (match udOf d with
      | some u => (t, u) :: undOf P r
      | none => undOf P r)
    | none => undOf P r
def infOf (P : Program) : List Nat → List (Nat × (Nat × Nat × List Value))
  | [] => []
  | t :: r => match P.info? t with
    | some i => (match i.zero with
      | some z => (t, (i.size, i.bytes, z.cells.toList)) :: infOf P r
      | none => infOf P r)
    | none => infOf P r
def TT.of (P : Program) (ids : List Nat) (ext : List (Nat × Bool)) : TT := ⟨undOf P ids, infOf P ids, ext⟩
section
variable {P : Program}
theorem und_of {t : Nat} {d : UD} : ∀ {ids : List Nat}, look t (undOf P ids) = some d → d.ok P t
  | [], h => by cases h
  | i :: r, h => by
    unfold undOf at h
    split at h
    · rename_i d' hd
      split at h
      · rename_i u hu
        unfold look at h
        split at h
        · rename_i hb
          injection h with h
          subst h
          rw [Nat.eq_of_beq_eq_true hb]
          unfold udOf at hu
          split at hu
          all_goals first
            | (injection hu with hu; subst hu; exact hd)
            | (injection hu with hu; subst hu; exact ⟨_, hd, rfl⟩)
            | cases hu
        · exact und_of h
      · exact und_of h
    · exact und_of h
theorem inf_of {t : Nat} {x : Nat × Nat × List Value} : ∀ {ids : List Nat}, look t (infOf P ids) = some x → ∃ i z, P.info? t = some i ∧ i.size = x.1 ∧ i.bytes = x.2.1 ∧ i.zero = some z ∧ z.cells.toList = x.2.2
  | [], h => by cases h
  | i :: r, h => by
    unfold infOf at h
    split at h
    · rename_i d' hd
      split at h
      · rename_i z hz
        unfold look at h
        split at h
        · rename_i hb
          injection h with h
          subst h
          rw [Nat.eq_of_beq_eq_true hb]
          exact ⟨_, _, hd, rfl, rfl, hz, rfl⟩
        · exact inf_of h
      · exact inf_of h
    · exact inf_of h
/-- Functions that have no body here. -/
def ExAll (P : Program) : List (Nat × Bool) → Prop
  | [] => True
  | p :: r => ExOk P p.1 p.2 ∧ ExAll P r
theorem ex_look {f : Nat} {b : Bool} : ∀ {l : List (Nat × Bool)}, ExAll P l → look f l = some b → ExOk P f b
  | [], _, h => by cases h
  | (g, c) :: l, h, hl => by
    unfold look at hl
    split at hl
    · rename_i hb
      injection hl with hl
      subst hl
      rw [Nat.eq_of_beq_eq_true hb]
      exact h.1
    · exact ex_look h.2 hl
theorem TT.of_ok (ids : List Nat) {ext : List (Nat × Bool)} (he : ExAll P ext) : (TT.of P ids ext).ok P := ⟨fun _ _ h => und_of h, fun _ _ h => inf_of h, fun _ _ h => ex_look he h⟩
def adEntry : Array Value → Sem Value := fun args => do
  let (x, y, c) ← Extern.MathBitsCarry.three "Add64" args
  pure (Extern.MathBitsCarry.pair ((x + y + c) % Extern.MathBitsCarry.m64) ((x + y + c) / Extern.MathBitsCarry.m64))
def sbEntry : Array Value → Sem Value := fun args => do
  let (x, y, b) ← Extern.MathBitsCarry.three "Sub64" args
  pure (Extern.MathBitsCarry.pair ((x + Extern.MathBitsCarry.m64 - y - b) % Extern.MathBitsCarry.m64) (if x < y + b then 1 else 0))
theorem adRun0 (x y c : Int) (h : c ≤ 1) (w : World) : (adEntry #[.int .u64 x, .int .u64 y, .int .u64 c]).run P w = .ok (.tuple #[.int .u64 (adS x y c), .int .u64 (adC x y c)]) w := by
  cases c with
  | ofNat k =>
    have : k = 0 ∨ k = 1 := by simp at h; omega
    rcases this with rfl | rfl <;> rw [adS_eq, adC_eq] <;> rfl
  | negSucc k => rw [adS_eq, adC_eq]; rfl
theorem sbRun0 (x y c : Int) (h : c ≤ 1) (w : World) : (sbEntry #[.int .u64 x, .int .u64 y, .int .u64 c]).run P w = .ok (.tuple #[.int .u64 (sbS x y c), .int .u64 (sbC x y c)]) w := by
  cases c with
  | ofNat k =>
    have : k = 0 ∨ k = 1 := by simp at h; omega
    rcases this with rfl | rfl <;> rw [sbS_eq, sbC_eq] <;> rfl
  | negSucc k => rw [sbS_eq, sbC_eq]; rfl
end
/-- Less or equal, one answer after the other. -/
theorem leO_of_eq {α : Type} {x y : Option α} (h : x = y) : ∀ r, x = some r → y = some r := fun _ hr => h ▸ hr
end Go.Proofs.Yteoeacndpgomaaa.E
end
section
namespace Go.Proofs
open Go.Shelf
def Tryd.lays264_ren : Go.Shelf.Ren := ⟨fun | 264 => 81 | n => n, fun | 53 => 40 | 46 => 114 | n => n, fun | n => n⟩
theorem Tryd.lays264 : Go.Proofs.Lays.n264 Try.prog Tryd.lays264_ren := {
  mixed := by kernel_rfl
  f264 := Try.func81.trans (congrArg some (by kernel_rfl))
  t46 := Try.underlying114
  a46 := Try.isAgg114
  z46 := Try.sizeOf114
  v46 := Try.zeroValue114
  t53 := Try.underlying40
  a53 := Try.isAgg40
  z53 := Try.sizeOf40
  v53 := Try.zeroValue40 }
def Tryd.lays129_ren : Go.Shelf.Ren := ⟨fun | 129 => 88 | n => n, fun | 53 => 40 | 3 => 3 | 4 => 4 | 46 => 114 | 5 => 5 | 9 => 9 | n => n, fun | n => n⟩
theorem Tryd.lays129 : Go.Proofs.Lays.n129 Try.prog Tryd.lays129_ren := {
  mixed := by kernel_rfl
  f129 := Try.func88.trans (congrArg some (by kernel_rfl))
  t3 := Try.underlying3
  a3 := Try.isAgg3
  z3 := Try.sizeOf3
  v3 := Try.zeroValue3
  t4 := Try.underlying4
  a4 := Try.isAgg4
  z4 := Try.sizeOf4
  v4 := Try.zeroValue4
  t5 := Try.underlying5
  a5 := Try.isAgg5
  z5 := Try.sizeOf5
  v5 := Try.zeroValue5
  t9 := Try.underlying9
  a9 := Try.isAgg9
  z9 := Try.sizeOf9
  v9 := Try.zeroValue9
  t46 := Try.underlying114
  a46 := Try.isAgg114
  z46 := Try.sizeOf114
  v46 := Try.zeroValue114
  t53 := Try.underlying40
  a53 := Try.isAgg40
  z53 := Try.sizeOf40
  v53 := Try.zeroValue40 }
def Tryd.lays134_ren : Go.Shelf.Ren := ⟨fun | 134 => 95 | 129 => 88 | n => n, fun | 53 => 40 | 3 => 3 | 4 => 4 | 46 => 114 | 5 => 5 | 9 => 9 | n => n, fun | n => n⟩
theorem Tryd.lays134 : Go.Proofs.Lays.n134 Try.prog Tryd.lays134_ren := {
  mixed := by kernel_rfl
  f129 := Try.func88.trans (congrArg some (by kernel_rfl))
  f134 := Try.func95.trans (congrArg some (by kernel_rfl))
  t3 := Try.underlying3
  a3 := Try.isAgg3
  z3 := Try.sizeOf3
  v3 := Try.zeroValue3
  t4 := Try.underlying4
  a4 := Try.isAgg4
  z4 := Try.sizeOf4
  v4 := Try.zeroValue4
  t5 := Try.underlying5
  a5 := Try.isAgg5
  z5 := Try.sizeOf5
  v5 := Try.zeroValue5
  t9 := Try.underlying9
  a9 := Try.isAgg9
  z9 := Try.sizeOf9
  v9 := Try.zeroValue9
  t46 := Try.underlying114
  a46 := Try.isAgg114
  z46 := Try.sizeOf114
  v46 := Try.zeroValue114
  t53 := Try.underlying40
  a53 := Try.isAgg40
  z53 := Try.sizeOf40
  v53 := Try.zeroValue40 }
end Go.Proofs
end
section
/-
  math/bits.Mul64, Len64, LeadingZeros64, TrailingZeros64 for the walk by evaluation: by the library's own contracts, laid at this dump (<Name>Shelf); the table of the last one stands as the rows say. Condition: words.
-/
namespace Go.Proofs.Yteoeacndpgomaaa.E
open Go.RowKit Go.Proofs.YteoeacndpgomaaaW.PrintWords Go.Proofs.YteoeacndpgomaaaW.PrintLast
set_option linter.unusedVariables false
theorem xall_lits {w : World} {ok : Nat → Prop} {M : Option Nat} : ∀ {vs us : List Value}, XAll w ok M (vs.map fun v => .p (.lit v)) us → us = vs
  | [], [], _ => rfl
  | [], _ :: _, h => (h : False).elim
  | _ :: _, [], h => (h : False).elim
  | v :: vs, u :: us, h => by rw [lit_of (E := En0) (B := fun _ => none) h.1, xall_lits h.2]
theorem mall_lits {w w' : World} {M : Option Nat} {m : List Int} : ∀ (vs us : List Value), MAll w w' M m (vs.map fun v => .p (.lit v)) us
  | [], [] => trivial
  | [], _ :: _ => trivial
  | _ :: _, [] => trivial
  | v :: vs, u :: us => mall_lits vs us
theorem rall_lits {w w' : World} {ok : Nat → Prop} {G : Option Nat} : ∀ (vs : List Value), RAll w w' ok G (vs.map fun v => .p (.lit v)) vs
  | [] => trivial
  | v :: vs => ⟨held_lit v, rall_lits vs⟩
/-- A contract of numbers alone. -/
theorem qc_lits {P : Program} {f : FuncId} {fn : Func} (hfn : P.funcs[f]? = some fn) (hname : (fn.name == "runtime.NumGoroutine") = false) (hbody : fn.body.isSome = true) {vs rs : List Value}
    (h : ∀ w ok, GOk w ok → Calls P f vs.toArray w fun e w' => e = .returned (packV rs) ∧ w' = w) : QC P f (vs.map fun v => .p (.lit v)) (rs.map fun v => .p (.lit v)) [] := by
  refine ⟨⟨fn, hfn, hname, hbody⟩, fun ok M w us hgl hx => ?_⟩
  rw [xall_lits hx]
  refine Calls.mono (h w ok hgl) fun e w' h => ?_
  obtain ⟨h1, h2⟩ := h
  subst h2
  exact ⟨none, rs, h1, rall_lits rs, Fr.refl _ _, mall_lits _ _⟩
/-- The same, where memory is made. -/
theorem qc_below {P : Program} {f : FuncId} {fn : Func} (hfn : P.funcs[f]? = some fn) (hname : (fn.name == "runtime.NumGoroutine") = false) (hbody : fn.body.isSome = true) {vs rs : List Value}
    (h : ∀ w, Calls P f vs.toArray w fun e w' => e = .returned (packV rs) ∧ Below w.heap.size w w') : QC P f (vs.map fun v => .p (.lit v)) (rs.map fun v => .p (.lit v)) [] := by
  refine ⟨⟨fn, hfn, hname, hbody⟩, fun ok M w us hgl hx => ?_⟩
  rw [xall_lits hx]
  refine Calls.mono (h w) fun e w' h => ?_
  obtain ⟨h1, h2⟩ := h
  exact ⟨none, rs, h1, rall_lits rs, Fr.of_below h2, mall_lits _ _⟩
end Go.Proofs.Yteoeacndpgomaaa.E
namespace Go.Proofs.Yteoeacndpgomaaa.F
open Go.Proofs.Yteoeacndpgomaaa.E Go.RowKit Go.Proofs.YteoeacndpgomaaaW.PrintWords Go.Proofs.YteoeacndpgomaaaW.PrintLast
set_option linter.unusedVariables false
/-- A word. -/
def isW (a : Int) : Bool := decide (0 ≤ a) && decide (a < 18446744073709551616)
theorem isW_of {a : Int} (h : isW a = true) : ∃ n : Nat, a = n ∧ n < 18446744073709551616 := by
  unfold isW at h
  rw [Bool.and_eq_true, decide_eq_true_eq, decide_eq_true_eq] at h
  exact ⟨a.toNat, by omega, by omega⟩
theorem isW_nat {n : Nat} (h : n < 18446744073709551616) : isW (n : Int) = true := by
  unfold isW
  rw [Bool.and_eq_true, decide_eq_true_eq, decide_eq_true_eq]
  omega
def bits_Mul64.A : AK := .p (.int .u64) (.p (.int .u64) .nil)
def bits_Mul64.Q : RK := .p (.int .u64) (.p (.int .u64) .nil)
def bits_Mul64.h : (Int × Int) → bits_Mul64.Q.T × List Int := fun b => ((b.1, b.2, ()), [])
def bits_Mul64.f (k : Nat) (a b : Int) : Option (Int × Int) := if isW a && isW b then some (((a.toNat * b.toNat / 18446744073709551616 : Nat) : Int), ((a.toNat * b.toNat % 18446744073709551616 : Nat) : Int)) else none
def bits_Mul64.g (k : Nat) (x : bits_Mul64.A.T) : Option (Int × Int) := bits_Mul64.f k x.1 x.2.1
theorem bits_Mul64.qc (k : Nat) (a b : Int) (r : Int × Int) (hb : bits_Mul64.f k a b = some r) : QC Go.Proofs.Try.prog 81 [.p (.lit (.int .u64 a)), .p (.lit (.int .u64 b))] [.p (.lit (.int .u64 r.1)), .p (.lit (.int .u64 r.2))] [] := by
  unfold bits_Mul64.f at hb
  split at hb
  · rename_i hw
    rw [Bool.and_eq_true] at hw
    obtain ⟨n, rfl, hn⟩ := isW_of hw.1
    obtain ⟨m, rfl, hm⟩ := isW_of hw.2
    injection hb with hb
    subst hb
    exact qc_lits (vs := [.int .u64 (n : Int), .int .u64 (m : Int)]) (rs := [.int .u64 _, .int .u64 _]) Go.Proofs.Try.func81 (by kernel_rfl) (by kernel_rfl) fun w ok _ => Any.bits_Mul64 Go.Proofs.Tryd.lays264 n m hn hm w
  · cases hb
theorem bits_Mul64.does (k : Nat) : Does Go.Proofs.Try.prog 81 bits_Mul64.A bits_Mul64.Q (bits_Mul64.g k) bits_Mul64.h := fun x b hb => bits_Mul64.qc k x.1 x.2.1 b hb
def bits_Len64.A : AK := .p (.int .u64) .nil
def bits_Len64.Q : RK := .p (.int .i64) .nil
def bits_Len64.h : Int → bits_Len64.Q.T × List Int := fun b => (((b), ()), [])
def bits_Len64.f (k : Nat) (a : Int) : Option Int := if isW a then some ((Lib.bitLen a.toNat : Nat) : Int) else none
def bits_Len64.g (k : Nat) (x : bits_Len64.A.T) : Option Int := bits_Len64.f k x.1
theorem bits_Len64.qc (k : Nat) (a b : Int) (hb : bits_Len64.f k a = some b) : QC Go.Proofs.Try.prog 88 [.p (.lit (.int .u64 a))] [.p (.lit (.int .i64 b))] [] := by
  unfold bits_Len64.f at hb
  split at hb
  · rename_i hw
    obtain ⟨n, rfl, hn⟩ := isW_of hw
    injection hb with hb
    subst hb
    exact qc_lits (vs := [.int .u64 (n : Int)]) (rs := [.int .i64 _]) Go.Proofs.Try.func88 (by kernel_rfl) (by kernel_rfl) fun w ok _ => Any.bits_Len64 Go.Proofs.Tryd.lays129 n w (by omega) (by omega)
  · cases hb
theorem bits_Len64.does (k : Nat) : Does Go.Proofs.Try.prog 88 bits_Len64.A bits_Len64.Q (bits_Len64.g k) bits_Len64.h := fun x b hb => bits_Len64.qc k x.1 b hb
def bits_LeadingZeros64.A : AK := .p (.int .u64) .nil
def bits_LeadingZeros64.Q : RK := .p (.int .i64) .nil
def bits_LeadingZeros64.h : Int → bits_LeadingZeros64.Q.T × List Int := fun b => (((b), ()), [])
def bits_LeadingZeros64.f (k : Nat) (a : Int) : Option Int := if isW a then some (64 - ((Lib.bitLen a.toNat : Nat) : Int)) else none
def bits_LeadingZeros64.g (k : Nat) (x : bits_LeadingZeros64.A.T) : Option Int := bits_LeadingZeros64.f k x.1
theorem bits_LeadingZeros64.qc (k : Nat) (a b : Int) (hb : bits_LeadingZeros64.f k a = some b) : QC Go.Proofs.Try.prog 95 [.p (.lit (.int .u64 a))] [.p (.lit (.int .i64 b))] [] := by
  unfold bits_LeadingZeros64.f at hb
  split at hb
  · rename_i hw
    obtain ⟨n, rfl, hn⟩ := isW_of hw
    injection hb with hb
    subst hb
    exact qc_lits (vs := [.int .u64 (n : Int)]) (rs := [.int .i64 _]) Go.Proofs.Try.func95 (by kernel_rfl) (by kernel_rfl) fun w ok _ => Any.bits_LeadingZeros64 Go.Proofs.Tryd.lays134 n w (by omega) (by omega)
  · cases hb
theorem bits_LeadingZeros64.does (k : Nat) : Does Go.Proofs.Try.prog 95 bits_LeadingZeros64.A bits_LeadingZeros64.Q (bits_LeadingZeros64.g k) bits_LeadingZeros64.h := fun x b hb => bits_LeadingZeros64.qc k x.1 b hb
end Go.Proofs.Yteoeacndpgomaaa.F
end
section
namespace Go.Proofs.Yteoeacndpgomaaa.F
open Go.Proofs.Yteoeacndpgomaaa.E Go.RowKit Go.Proofs.YteoeacndpgomaaaW.PrintWords Go.Proofs.YteoeacndpgomaaaW.PrintLast
set_option linter.unusedVariables false
set_option maxRecDepth 100000
noncomputable abbrev PG : Program := Go.Proofs.Try.prog
def T0x : List (Nat × Bool) := [(91, true), (100, false)]
theorem T0ex : ExAll PG T0x := ⟨fun x y c h w => by rw [run_callFunc_extern Go.Proofs.Try.func91 (by kernel_rfl) (by kernel_rfl) (by kernel_rfl) (e := adEntry) (by kernel_rfl), adRun0 x y c h]; rfl, ⟨fun x y c h w => by rw [run_callFunc_extern Go.Proofs.Try.func100 (by kernel_rfl) (by kernel_rfl) (by kernel_rfl) (e := sbEntry) (by kernel_rfl), sbRun0 x y c h]; rfl, trivial⟩⟩
noncomputable def T0 : TT := TT.of PG [2, 3, 4, 5, 9, 22, 24, 26, 27, 33, 40, 44, 53, 82, 95, 105, 114, 116] T0x
/-! bigint_Int_Sign: function 12 -/
def bigint_Int_Sign.A : AK := .p (.agg (.cons (.bool) (.cons (.row .u64) .nil))) .nil
def bigint_Int_Sign.Q : RK := .p (.int .i64) .nil
def bigint_Int_Sign.h : Int → bigint_Int_Sign.Q.T × List Int := fun b => ((b, ()), [])
noncomputable def bigint_Int_Sign.D : Decl Int := ⟨(Go.Proofs.Try.f12.body).getD .skip, 13, [.tmp 2], bigint_Int_Sign.A, bigint_Int_Sign.Q, fun y m => y.1, T0, [], [], []⟩
noncomputable def bigint_Int_Sign.S (k : Nat) : List (Nat × E.Spec Int) := []
noncomputable def bigint_Int_Sign.f0 (k : Nat) (a0_0 : Bool) (a0_1 : List Int) : Option Int := bigint_Int_Sign.D.val bigint_Int_Sign.S k ((a0_0, a0_1, ()), ())
noncomputable def bigint_Int_Sign.f := (still bigint_Int_Sign.f0).1
theorem bigint_Int_Sign.f_def : bigint_Int_Sign.f = bigint_Int_Sign.f0 := (still bigint_Int_Sign.f0).2
noncomputable def bigint_Int_Sign.g (k : Nat) (x : bigint_Int_Sign.A.T) : Option Int := bigint_Int_Sign.f k (x.1.1) (x.1.2.1)
theorem bigint_Int_Sign.does (k : Nat) : Does PG 12 bigint_Int_Sign.A bigint_Int_Sign.Q (bigint_Int_Sign.g k) bigint_Int_Sign.h := (show bigint_Int_Sign.g k = bigint_Int_Sign.D.val bigint_Int_Sign.S k from funext fun _ => by unfold bigint_Int_Sign.g; rw [bigint_Int_Sign.f_def]; rfl) ▸ Decl.does (D := bigint_Int_Sign.D) (S := bigint_Int_Sign.S) (fn := Go.Proofs.Try.f12) ⟨by kernel_rfl, by kernel_rfl, by kernel_rfl, by kernel_rfl, by kernel_rfl, by kernel_rfl, TT.of_ok _ T0ex, by kernel_rfl⟩ (fun k => trivial) (fun _ _ h => by rw [h rfl]; rfl) k
/-! bigint_Of: function 36 -/
def bigint_Of.A : AK := .p (.int .i64) .nil
def bigint_Of.Q : RK := .p (.agg (.cons (.bool) (.cons (.row .u64) .nil))) .nil
def bigint_Of.h : (Bool × List Int) → bigint_Of.Q.T × List Int := fun b => (((b.1, b.2, ()), ()), [])
noncomputable def bigint_Of.D : Decl (Bool × List Int) := ⟨(Go.Proofs.Try.f36.body).getD .skip, 19, [.cell 2 26], bigint_Of.A, bigint_Of.Q, fun y m => (y.1.1, y.1.2.1), T0, [], [], []⟩
noncomputable def bigint_Of.S (k : Nat) : List (Nat × E.Spec (Bool × List Int)) := []
noncomputable def bigint_Of.f0 (k : Nat) (a0 : Int) : Option (Bool × List Int) := bigint_Of.D.val bigint_Of.S k (a0, ())
noncomputable def bigint_Of.f := (still bigint_Of.f0).1
theorem bigint_Of.f_def : bigint_Of.f = bigint_Of.f0 := (still bigint_Of.f0).2
noncomputable def bigint_Of.g (k : Nat) (x : bigint_Of.A.T) : Option (Bool × List Int) := bigint_Of.f k (x.1)
theorem bigint_Of.does (k : Nat) : Does PG 36 bigint_Of.A bigint_Of.Q (bigint_Of.g k) bigint_Of.h := (show bigint_Of.g k = bigint_Of.D.val bigint_Of.S k from funext fun _ => by unfold bigint_Of.g; rw [bigint_Of.f_def]; rfl) ▸ Decl.does (D := bigint_Of.D) (S := bigint_Of.S) (fn := Go.Proofs.Try.f36) ⟨by kernel_rfl, by kernel_rfl, by kernel_rfl, by kernel_rfl, by kernel_rfl, by kernel_rfl, TT.of_ok _ T0ex, by kernel_rfl⟩ (fun k => trivial) (fun _ _ h => by rw [h rfl]; rfl) k
/-! nat_trim: function 70 -/
def nat_trim.A : AK := .p (.row .u64) .nil
def nat_trim.Q : RK := .p (.row .u64) .nil
def nat_trim.h : List Int → nat_trim.Q.T × List Int := fun b => ((b, ()), [])
noncomputable def nat_trim.D : Decl (List Int) := ⟨(Go.Proofs.Try.f70.body).getD .skip, 21, [.tmp 2], nat_trim.A, nat_trim.Q, fun y m => y.1, T0, [], [(2, [(0, .p (some (.row .u64))), (3, .p (some (.int .i64)))])], []⟩
noncomputable def nat_trim.S (k : Nat) : List (Nat × E.Spec (List Int)) := []
noncomputable def nat_trim.l2 (k : Nat) (x0 : List Int) (x3 : Int) : Option (List Int) := nat_trim.D.F nat_trim.S k 5 [.p (.row .u64 x0), .p (.lit (.int .i64 x3))]
noncomputable def nat_trim.f0 (k : Nat) (a0 : List Int) : Option (List Int) := nat_trim.D.val nat_trim.S k (a0, ())
noncomputable def nat_trim.f := (still nat_trim.f0).1
theorem nat_trim.f_def : nat_trim.f = nat_trim.f0 := (still nat_trim.f0).2
noncomputable def nat_trim.g (k : Nat) (x : nat_trim.A.T) : Option (List Int) := nat_trim.f k (x.1)
theorem nat_trim.does (k : Nat) : Does PG 70 nat_trim.A nat_trim.Q (nat_trim.g k) nat_trim.h := (show nat_trim.g k = nat_trim.D.val nat_trim.S k from funext fun _ => by unfold nat_trim.g; rw [nat_trim.f_def]; rfl) ▸ Decl.does (D := nat_trim.D) (S := nat_trim.S) (fn := Go.Proofs.Try.f70) ⟨by kernel_rfl, by kernel_rfl, by kernel_rfl, by kernel_rfl, by kernel_rfl, by kernel_rfl, TT.of_ok _ T0ex, by kernel_rfl⟩ (fun k => trivial) (fun _ _ h => by rw [h rfl]; rfl) k
/-! nat_Cmp: function 41 -/
def nat_Cmp.A : AK := .p (.row .u64) (.p (.row .u64) .nil)
def nat_Cmp.Q : RK := .p (.int .i64) .nil
def nat_Cmp.h : Int → nat_Cmp.Q.T × List Int := fun b => ((b, ()), [])
noncomputable def nat_Cmp.D : Decl Int := ⟨(Go.Proofs.Try.f41.body).getD .skip, 49, [.tmp 4], nat_Cmp.A, nat_Cmp.Q, fun y m => y.1, T0, [], [(7, [(0, .p (some (.row .u64))), (1, .p (some (.row .u64))), (5, .p (some (.int .i64)))])], []⟩
noncomputable def nat_Cmp.S (k : Nat) : List (Nat × E.Spec Int) := [(70, told _ nat_trim.A nat_trim.Q (nat_trim.g k) nat_trim.h)]
noncomputable def nat_Cmp.l7 (k : Nat) (x0 : List Int) (x1 : List Int) (x5 : Int) : Option Int := nat_Cmp.D.F nat_Cmp.S k 15 [.p (.row .u64 x0), .p (.row .u64 x1), .p (.lit (.int .i64 x5))]
noncomputable def nat_Cmp.f0 (k : Nat) (a0 : List Int) (a1 : List Int) : Option Int := nat_Cmp.D.val nat_Cmp.S k (a0, a1, ())
noncomputable def nat_Cmp.f := (still nat_Cmp.f0).1
theorem nat_Cmp.f_def : nat_Cmp.f = nat_Cmp.f0 := (still nat_Cmp.f0).2
noncomputable def nat_Cmp.g (k : Nat) (x : nat_Cmp.A.T) : Option Int := nat_Cmp.f k (x.1) (x.2.1)
theorem nat_Cmp.does (k : Nat) : Does PG 41 nat_Cmp.A nat_Cmp.Q (nat_Cmp.g k) nat_Cmp.h := (show nat_Cmp.g k = nat_Cmp.D.val nat_Cmp.S k from funext fun _ => by unfold nat_Cmp.g; rw [nat_Cmp.f_def]; rfl) ▸ Decl.does (D := nat_Cmp.D) (S := nat_Cmp.S) (fn := Go.Proofs.Try.f41) ⟨by kernel_rfl, by kernel_rfl, by kernel_rfl, by kernel_rfl, by kernel_rfl, by kernel_rfl, TT.of_ok _ T0ex, by kernel_rfl⟩ (fun k => ⟨told_ok (nat_trim.does k), trivial⟩) (fun _ _ h => by rw [h rfl]; rfl) k
/-! bigint_made: function 73 -/
def bigint_made.A : AK := .p (.bool) (.p (.row .u64) .nil)
def bigint_made.Q : RK := .p (.agg (.cons (.bool) (.cons (.row .u64) .nil))) .nil
def bigint_made.h : (Bool × List Int) → bigint_made.Q.T × List Int := fun b => (((b.1, b.2, ()), ()), [])
noncomputable def bigint_made.D : Decl (Bool × List Int) := ⟨(Go.Proofs.Try.f73.body).getD .skip, 13, [.cell 4 26], bigint_made.A, bigint_made.Q, fun y m => (y.1.1, y.1.2.1), T0, [], [], []⟩
noncomputable def bigint_made.S (k : Nat) : List (Nat × E.Spec (Bool × List Int)) := []
noncomputable def bigint_made.f0 (k : Nat) (a0 : Bool) (a1 : List Int) : Option (Bool × List Int) := bigint_made.D.val bigint_made.S k (a0, a1, ())
noncomputable def bigint_made.f := (still bigint_made.f0).1
theorem bigint_made.f_def : bigint_made.f = bigint_made.f0 := (still bigint_made.f0).2
noncomputable def bigint_made.g (k : Nat) (x : bigint_made.A.T) : Option (Bool × List Int) := bigint_made.f k (x.1) (x.2.1)
theorem bigint_made.does (k : Nat) : Does PG 73 bigint_made.A bigint_made.Q (bigint_made.g k) bigint_made.h := (show bigint_made.g k = bigint_made.D.val bigint_made.S k from funext fun _ => by unfold bigint_made.g; rw [bigint_made.f_def]; rfl) ▸ Decl.does (D := bigint_made.D) (S := bigint_made.S) (fn := Go.Proofs.Try.f73) ⟨by kernel_rfl, by kernel_rfl, by kernel_rfl, by kernel_rfl, by kernel_rfl, by kernel_rfl, TT.of_ok _ T0ex, by kernel_rfl⟩ (fun k => trivial) (fun _ _ h => by rw [h rfl]; rfl) k
/-! nat_at: function 92 -/
def nat_at.A : AK := .p (.row .u64) (.p (.int .i64) .nil)
def nat_at.Q : RK := .p (.int .u64) .nil
def nat_at.h : Int → nat_at.Q.T × List Int := fun b => ((b, ()), [])
noncomputable def nat_at.D : Decl Int := ⟨(Go.Proofs.Try.f92.body).getD .skip, 13, [.tmp 4], nat_at.A, nat_at.Q, fun y m => y.1, T0, [], [], []⟩
noncomputable def nat_at.S (k : Nat) : List (Nat × E.Spec Int) := []
noncomputable def nat_at.f0 (k : Nat) (a0 : List Int) (a1 : Int) : Option Int := nat_at.D.val nat_at.S k (a0, a1, ())
noncomputable def nat_at.f := (still nat_at.f0).1
theorem nat_at.f_def : nat_at.f = nat_at.f0 := (still nat_at.f0).2
noncomputable def nat_at.g (k : Nat) (x : nat_at.A.T) : Option Int := nat_at.f k (x.1) (x.2.1)
theorem nat_at.does (k : Nat) : Does PG 92 nat_at.A nat_at.Q (nat_at.g k) nat_at.h := (show nat_at.g k = nat_at.D.val nat_at.S k from funext fun _ => by unfold nat_at.g; rw [nat_at.f_def]; rfl) ▸ Decl.does (D := nat_at.D) (S := nat_at.S) (fn := Go.Proofs.Try.f92) ⟨by kernel_rfl, by kernel_rfl, by kernel_rfl, by kernel_rfl, by kernel_rfl, by kernel_rfl, TT.of_ok _ T0ex, by kernel_rfl⟩ (fun k => trivial) (fun _ _ h => by rw [h rfl]; rfl) k
/-! nat_Add: function 74 -/
def nat_Add.A : AK := .p (.row .u64) (.p (.row .u64) .nil)
def nat_Add.Q : RK := .p (.row .u64) .nil
def nat_Add.h : List Int → nat_Add.Q.T × List Int := fun b => ((b, ()), [])
noncomputable def nat_Add.D : Decl (List Int) := ⟨(Go.Proofs.Try.f74.body).getD .skip, 37, [.tmp 4], nat_Add.A, nat_Add.Q, fun y m => y.1, T0, [], [(4, [(0, .p (some (.row .u64))), (1, .p (some (.row .u64))), (5, .m .u64 40), (6, .p (some (.int .u64))), (16, .p (some (.int .i64))), (17, .p (some (.int .i64)))])], [(8, [5])]⟩
noncomputable def nat_Add.S (k : Nat) : List (Nat × E.Spec (List Int)) := [(70, told _ nat_trim.A nat_trim.Q (nat_trim.g k) nat_trim.h), (92, told _ nat_at.A nat_at.Q (nat_at.g k) nat_at.h)]
noncomputable def nat_Add.l4 (k : Nat) (x0 : List Int) (x1 : List Int) (x5 : List Int) (x6 : Int) (x16 : Int) (x17 : Int) : Option (List Int) := nat_Add.D.F nat_Add.S k 9 [.p (.row .u64 x0), .p (.row .u64 x1), .m x5, .p (.lit (.int .u64 x6)), .p (.lit (.int .i64 x16)), .p (.lit (.int .i64 x17))]
noncomputable def nat_Add.f0 (k : Nat) (a0 : List Int) (a1 : List Int) : Option (List Int) := nat_Add.D.val nat_Add.S k (a0, a1, ())
noncomputable def nat_Add.f := (still nat_Add.f0).1
theorem nat_Add.f_def : nat_Add.f = nat_Add.f0 := (still nat_Add.f0).2
noncomputable def nat_Add.g (k : Nat) (x : nat_Add.A.T) : Option (List Int) := nat_Add.f k (x.1) (x.2.1)
theorem nat_Add.does (k : Nat) : Does PG 74 nat_Add.A nat_Add.Q (nat_Add.g k) nat_Add.h := (show nat_Add.g k = nat_Add.D.val nat_Add.S k from funext fun _ => by unfold nat_Add.g; rw [nat_Add.f_def]; rfl) ▸ Decl.does (D := nat_Add.D) (S := nat_Add.S) (fn := Go.Proofs.Try.f74) ⟨by kernel_rfl, by kernel_rfl, by kernel_rfl, by kernel_rfl, by kernel_rfl, by kernel_rfl, TT.of_ok _ T0ex, by kernel_rfl⟩ (fun k => ⟨told_ok (nat_trim.does k), ⟨told_ok (nat_at.does k), trivial⟩⟩) (fun _ _ h => by rw [h rfl]; rfl) k
/-! nat_less: function 93 -/
def nat_less.A : AK := .p (.row .u64) (.p (.row .u64) .nil)
def nat_less.Q : RK := .p (.row .u64) .nil
def nat_less.h : List Int → nat_less.Q.T × List Int := fun b => ((b, ()), [])
noncomputable def nat_less.D : Decl (List Int) := ⟨(Go.Proofs.Try.f93.body).getD .skip, 34, [.tmp 4], nat_less.A, nat_less.Q, fun y m => y.1, T0, [], [(4, [(0, .p (some (.row .u64))), (1, .p (some (.row .u64))), (5, .m .u64 40), (6, .p (some (.int .u64))), (12, .p (some (.int .i64))), (13, .p (some (.int .i64)))])], [(8, [5])]⟩
noncomputable def nat_less.S (k : Nat) : List (Nat × E.Spec (List Int)) := [(70, told _ nat_trim.A nat_trim.Q (nat_trim.g k) nat_trim.h), (92, told _ nat_at.A nat_at.Q (nat_at.g k) nat_at.h)]
noncomputable def nat_less.l4 (k : Nat) (x0 : List Int) (x1 : List Int) (x5 : List Int) (x6 : Int) (x12 : Int) (x13 : Int) : Option (List Int) := nat_less.D.F nat_less.S k 9 [.p (.row .u64 x0), .p (.row .u64 x1), .m x5, .p (.lit (.int .u64 x6)), .p (.lit (.int .i64 x12)), .p (.lit (.int .i64 x13))]
noncomputable def nat_less.f0 (k : Nat) (a0 : List Int) (a1 : List Int) : Option (List Int) := nat_less.D.val nat_less.S k (a0, a1, ())
noncomputable def nat_less.f := (still nat_less.f0).1
theorem nat_less.f_def : nat_less.f = nat_less.f0 := (still nat_less.f0).2
noncomputable def nat_less.g (k : Nat) (x : nat_less.A.T) : Option (List Int) := nat_less.f k (x.1) (x.2.1)
theorem nat_less.does (k : Nat) : Does PG 93 nat_less.A nat_less.Q (nat_less.g k) nat_less.h := (show nat_less.g k = nat_less.D.val nat_less.S k from funext fun _ => by unfold nat_less.g; rw [nat_less.f_def]; rfl) ▸ Decl.does (D := nat_less.D) (S := nat_less.S) (fn := Go.Proofs.Try.f93) ⟨by kernel_rfl, by kernel_rfl, by kernel_rfl, by kernel_rfl, by kernel_rfl, by kernel_rfl, TT.of_ok _ T0ex, by kernel_rfl⟩ (fun k => ⟨told_ok (nat_trim.does k), ⟨told_ok (nat_at.does k), trivial⟩⟩) (fun _ _ h => by rw [h rfl]; rfl) k
/-! nat_Sub: function 75 -/
def nat_Sub.A : AK := .p (.row .u64) (.p (.row .u64) .nil)
def nat_Sub.Q : RK := .p (.row .u64) (.p (.int .i64) .nil)
def nat_Sub.h : (List Int × Int) → nat_Sub.Q.T × List Int := fun b => ((b.1, b.2, ()), [])
noncomputable def nat_Sub.D : Decl (List Int × Int) := ⟨(Go.Proofs.Try.f75.body).getD .skip, 17, [.tmp 4, .tmp 5], nat_Sub.A, nat_Sub.Q, fun y m => (y.1, y.2.1), T0, [], [], []⟩
noncomputable def nat_Sub.S (k : Nat) : List (Nat × E.Spec (List Int × Int)) := [(41, told _ nat_Cmp.A nat_Cmp.Q (nat_Cmp.g k) nat_Cmp.h), (70, told _ nat_trim.A nat_trim.Q (nat_trim.g k) nat_trim.h), (93, told _ nat_less.A nat_less.Q (nat_less.g k) nat_less.h)]
noncomputable def nat_Sub.f0 (k : Nat) (a0 : List Int) (a1 : List Int) : Option (List Int × Int) := nat_Sub.D.val nat_Sub.S k (a0, a1, ())
noncomputable def nat_Sub.f := (still nat_Sub.f0).1
theorem nat_Sub.f_def : nat_Sub.f = nat_Sub.f0 := (still nat_Sub.f0).2
noncomputable def nat_Sub.g (k : Nat) (x : nat_Sub.A.T) : Option (List Int × Int) := nat_Sub.f k (x.1) (x.2.1)
theorem nat_Sub.does (k : Nat) : Does PG 75 nat_Sub.A nat_Sub.Q (nat_Sub.g k) nat_Sub.h := (show nat_Sub.g k = nat_Sub.D.val nat_Sub.S k from funext fun _ => by unfold nat_Sub.g; rw [nat_Sub.f_def]; rfl) ▸ Decl.does (D := nat_Sub.D) (S := nat_Sub.S) (fn := Go.Proofs.Try.f75) ⟨by kernel_rfl, by kernel_rfl, by kernel_rfl, by kernel_rfl, by kernel_rfl, by kernel_rfl, TT.of_ok _ T0ex, by kernel_rfl⟩ (fun k => ⟨told_ok (nat_Cmp.does k), ⟨told_ok (nat_trim.does k), ⟨told_ok (nat_less.does k), trivial⟩⟩⟩) (fun _ _ h => by rw [h rfl]; rfl) k
/-! bigint_Int_Add: function 46 -/
def bigint_Int_Add.A : AK := .p (.agg (.cons (.bool) (.cons (.row .u64) .nil))) (.p (.agg (.cons (.bool) (.cons (.row .u64) .nil))) .nil)
def bigint_Int_Add.Q : RK := .p (.agg (.cons (.bool) (.cons (.row .u64) .nil))) .nil
def bigint_Int_Add.h : (Bool × List Int) → bigint_Int_Add.Q.T × List Int := fun b => (((b.1, b.2, ()), ()), [])
noncomputable def bigint_Int_Add.D : Decl (Bool × List Int) := ⟨(Go.Proofs.Try.f46.body).getD .skip, 40, [.cell 4 26], bigint_Int_Add.A, bigint_Int_Add.Q, fun y m => (y.1.1, y.1.2.1), T0, [], [], []⟩
noncomputable def bigint_Int_Add.S (k : Nat) : List (Nat × E.Spec (Bool × List Int)) := [(41, told _ nat_Cmp.A nat_Cmp.Q (nat_Cmp.g k) nat_Cmp.h), (73, told _ bigint_made.A bigint_made.Q (bigint_made.g k) bigint_made.h), (74, told _ nat_Add.A nat_Add.Q (nat_Add.g k) nat_Add.h), (75, told _ nat_Sub.A nat_Sub.Q (nat_Sub.g k) nat_Sub.h)]
noncomputable def bigint_Int_Add.f0 (k : Nat) (a0_0 : Bool) (a0_1 : List Int) (a1_0 : Bool) (a1_1 : List Int) : Option (Bool × List Int) := bigint_Int_Add.D.val bigint_Int_Add.S k ((a0_0, a0_1, ()), (a1_0, a1_1, ()), ())
noncomputable def bigint_Int_Add.f := (still bigint_Int_Add.f0).1
theorem bigint_Int_Add.f_def : bigint_Int_Add.f = bigint_Int_Add.f0 := (still bigint_Int_Add.f0).2
noncomputable def bigint_Int_Add.g (k : Nat) (x : bigint_Int_Add.A.T) : Option (Bool × List Int) := bigint_Int_Add.f k (x.1.1) (x.1.2.1) (x.2.1.1) (x.2.1.2.1)
theorem bigint_Int_Add.does (k : Nat) : Does PG 46 bigint_Int_Add.A bigint_Int_Add.Q (bigint_Int_Add.g k) bigint_Int_Add.h := (show bigint_Int_Add.g k = bigint_Int_Add.D.val bigint_Int_Add.S k from funext fun _ => by unfold bigint_Int_Add.g; rw [bigint_Int_Add.f_def]; rfl) ▸ Decl.does (D := bigint_Int_Add.D) (S := bigint_Int_Add.S) (fn := Go.Proofs.Try.f46) ⟨by kernel_rfl, by kernel_rfl, by kernel_rfl, by kernel_rfl, by kernel_rfl, by kernel_rfl, TT.of_ok _ T0ex, by kernel_rfl⟩ (fun k => ⟨told_ok (nat_Cmp.does k), ⟨told_ok (bigint_made.does k), ⟨told_ok (nat_Add.does k), ⟨told_ok (nat_Sub.does k), trivial⟩⟩⟩⟩) (fun _ _ h => by rw [h rfl]; rfl) k
/-! bigint_Int_Neg: function 76 -/
def bigint_Int_Neg.A : AK := .p (.agg (.cons (.bool) (.cons (.row .u64) .nil))) .nil
def bigint_Int_Neg.Q : RK := .p (.agg (.cons (.bool) (.cons (.row .u64) .nil))) .nil
def bigint_Int_Neg.h : (Bool × List Int) → bigint_Int_Neg.Q.T × List Int := fun b => (((b.1, b.2, ()), ()), [])
noncomputable def bigint_Int_Neg.D : Decl (Bool × List Int) := ⟨(Go.Proofs.Try.f76.body).getD .skip, 9, [.cell 2 26], bigint_Int_Neg.A, bigint_Int_Neg.Q, fun y m => (y.1.1, y.1.2.1), T0, [], [], []⟩
noncomputable def bigint_Int_Neg.S (k : Nat) : List (Nat × E.Spec (Bool × List Int)) := [(73, told _ bigint_made.A bigint_made.Q (bigint_made.g k) bigint_made.h)]
noncomputable def bigint_Int_Neg.f0 (k : Nat) (a0_0 : Bool) (a0_1 : List Int) : Option (Bool × List Int) := bigint_Int_Neg.D.val bigint_Int_Neg.S k ((a0_0, a0_1, ()), ())
noncomputable def bigint_Int_Neg.f := (still bigint_Int_Neg.f0).1
theorem bigint_Int_Neg.f_def : bigint_Int_Neg.f = bigint_Int_Neg.f0 := (still bigint_Int_Neg.f0).2
noncomputable def bigint_Int_Neg.g (k : Nat) (x : bigint_Int_Neg.A.T) : Option (Bool × List Int) := bigint_Int_Neg.f k (x.1.1) (x.1.2.1)
theorem bigint_Int_Neg.does (k : Nat) : Does PG 76 bigint_Int_Neg.A bigint_Int_Neg.Q (bigint_Int_Neg.g k) bigint_Int_Neg.h := (show bigint_Int_Neg.g k = bigint_Int_Neg.D.val bigint_Int_Neg.S k from funext fun _ => by unfold bigint_Int_Neg.g; rw [bigint_Int_Neg.f_def]; rfl) ▸ Decl.does (D := bigint_Int_Neg.D) (S := bigint_Int_Neg.S) (fn := Go.Proofs.Try.f76) ⟨by kernel_rfl, by kernel_rfl, by kernel_rfl, by kernel_rfl, by kernel_rfl, by kernel_rfl, TT.of_ok _ T0ex, by kernel_rfl⟩ (fun k => ⟨told_ok (bigint_made.does k), trivial⟩) (fun _ _ h => by rw [h rfl]; rfl) k
/-! bigint_Int_Sub: function 47 -/
def bigint_Int_Sub.A : AK := .p (.agg (.cons (.bool) (.cons (.row .u64) .nil))) (.p (.agg (.cons (.bool) (.cons (.row .u64) .nil))) .nil)
def bigint_Int_Sub.Q : RK := .p (.agg (.cons (.bool) (.cons (.row .u64) .nil))) .nil
def bigint_Int_Sub.h : (Bool × List Int) → bigint_Int_Sub.Q.T × List Int := fun b => (((b.1, b.2, ()), ()), [])
noncomputable def bigint_Int_Sub.D : Decl (Bool × List Int) := ⟨(Go.Proofs.Try.f47.body).getD .skip, 9, [.cell 4 26], bigint_Int_Sub.A, bigint_Int_Sub.Q, fun y m => (y.1.1, y.1.2.1), T0, [], [], []⟩
noncomputable def bigint_Int_Sub.S (k : Nat) : List (Nat × E.Spec (Bool × List Int)) := [(46, told _ bigint_Int_Add.A bigint_Int_Add.Q (bigint_Int_Add.g k) bigint_Int_Add.h), (76, told _ bigint_Int_Neg.A bigint_Int_Neg.Q (bigint_Int_Neg.g k) bigint_Int_Neg.h)]
noncomputable def bigint_Int_Sub.f0 (k : Nat) (a0_0 : Bool) (a0_1 : List Int) (a1_0 : Bool) (a1_1 : List Int) : Option (Bool × List Int) := bigint_Int_Sub.D.val bigint_Int_Sub.S k ((a0_0, a0_1, ()), (a1_0, a1_1, ()), ())
noncomputable def bigint_Int_Sub.f := (still bigint_Int_Sub.f0).1
theorem bigint_Int_Sub.f_def : bigint_Int_Sub.f = bigint_Int_Sub.f0 := (still bigint_Int_Sub.f0).2
noncomputable def bigint_Int_Sub.g (k : Nat) (x : bigint_Int_Sub.A.T) : Option (Bool × List Int) := bigint_Int_Sub.f k (x.1.1) (x.1.2.1) (x.2.1.1) (x.2.1.2.1)
theorem bigint_Int_Sub.does (k : Nat) : Does PG 47 bigint_Int_Sub.A bigint_Int_Sub.Q (bigint_Int_Sub.g k) bigint_Int_Sub.h := (show bigint_Int_Sub.g k = bigint_Int_Sub.D.val bigint_Int_Sub.S k from funext fun _ => by unfold bigint_Int_Sub.g; rw [bigint_Int_Sub.f_def]; rfl) ▸ Decl.does (D := bigint_Int_Sub.D) (S := bigint_Int_Sub.S) (fn := Go.Proofs.Try.f47) ⟨by kernel_rfl, by kernel_rfl, by kernel_rfl, by kernel_rfl, by kernel_rfl, by kernel_rfl, TT.of_ok _ T0ex, by kernel_rfl⟩ (fun k => ⟨told_ok (bigint_Int_Add.does k), ⟨told_ok (bigint_Int_Neg.does k), trivial⟩⟩) (fun _ _ h => by rw [h rfl]; rfl) k
/-! bits_Div64: function 85 -/
def bits_Div64.A : AK := .p (.int .u64) (.p (.int .u64) (.p (.int .u64) .nil))
def bits_Div64.Q : RK := .p (.int .u64) (.p (.int .u64) .nil)
def bits_Div64.h : (Int × Int) → bits_Div64.Q.T × List Int := fun b => ((b.1, b.2, ()), [])
noncomputable def bits_Div64.D : Decl (Int × Int) := ⟨(Go.Proofs.Try.f85.body).getD .skip, 135, [.tmp 6, .tmp 7], bits_Div64.A, bits_Div64.Q, fun y m => (y.1, y.2.1), T0, [], [(24, [(2, .p (some (.int .u64))), (8, .p (some (.int .u64))), (9, .p (some (.int .u64))), (10, .p (some (.int .u64))), (14, .p (some (.int .u64))), (15, .p (some (.int .u64))), (16, .p (some (.int .u64))), (17, .p (some (.int .u64))), (18, .p (some (.int .u64)))]), (17, [(2, .p (some (.int .u64))), (8, .p (some (.int .u64))), (9, .p (some (.int .u64))), (10, .p (some (.int .u64))), (11, .p (some (.int .u64))), (13, .p (some (.int .u64))), (14, .p (some (.int .u64))), (15, .p (some (.int .u64))), (16, .p (some (.int .u64)))])], []⟩
noncomputable def bits_Div64.S (k : Nat) : List (Nat × E.Spec (Int × Int)) := [(95, told _ bits_LeadingZeros64.A bits_LeadingZeros64.Q (bits_LeadingZeros64.g k) bits_LeadingZeros64.h)]
noncomputable def bits_Div64.l24 (k : Nat) (x2 : Int) (x8 : Int) (x9 : Int) (x10 : Int) (x14 : Int) (x15 : Int) (x16 : Int) (x17 : Int) (x18 : Int) : Option (Int × Int) := bits_Div64.D.F bits_Div64.S k 49 [.p (.lit (.int .u64 x2)), .p (.lit (.int .u64 x8)), .p (.lit (.int .u64 x9)), .p (.lit (.int .u64 x10)), .p (.lit (.int .u64 x14)), .p (.lit (.int .u64 x15)), .p (.lit (.int .u64 x16)), .p (.lit (.int .u64 x17)), .p (.lit (.int .u64 x18))]
noncomputable def bits_Div64.l17 (k : Nat) (x2 : Int) (x8 : Int) (x9 : Int) (x10 : Int) (x11 : Int) (x13 : Int) (x14 : Int) (x15 : Int) (x16 : Int) : Option (Int × Int) := bits_Div64.D.F bits_Div64.S k 35 [.p (.lit (.int .u64 x2)), .p (.lit (.int .u64 x8)), .p (.lit (.int .u64 x9)), .p (.lit (.int .u64 x10)), .p (.lit (.int .u64 x11)), .p (.lit (.int .u64 x13)), .p (.lit (.int .u64 x14)), .p (.lit (.int .u64 x15)), .p (.lit (.int .u64 x16))]
noncomputable def bits_Div64.f0 (k : Nat) (a0 : Int) (a1 : Int) (a2 : Int) : Option (Int × Int) := bits_Div64.D.val bits_Div64.S k (a0, a1, a2, ())
noncomputable def bits_Div64.f := (still bits_Div64.f0).1
theorem bits_Div64.f_def : bits_Div64.f = bits_Div64.f0 := (still bits_Div64.f0).2
noncomputable def bits_Div64.g (k : Nat) (x : bits_Div64.A.T) : Option (Int × Int) := bits_Div64.f k (x.1) (x.2.1) (x.2.2.1)
theorem bits_Div64.does (k : Nat) : Does PG 85 bits_Div64.A bits_Div64.Q (bits_Div64.g k) bits_Div64.h := (show bits_Div64.g k = bits_Div64.D.val bits_Div64.S k from funext fun _ => by unfold bits_Div64.g; rw [bits_Div64.f_def]; rfl) ▸ Decl.does (D := bits_Div64.D) (S := bits_Div64.S) (fn := Go.Proofs.Try.f85) ⟨by kernel_rfl, by kernel_rfl, by kernel_rfl, by kernel_rfl, by kernel_rfl, by kernel_rfl, TT.of_ok _ T0ex, by kernel_rfl⟩ (fun k => ⟨told_ok (bits_LeadingZeros64.does k), trivial⟩) (fun _ _ h => by rw [h rfl]; rfl) k
/-! nat_DivWord: function 61 -/
def nat_DivWord.A : AK := .p (.row .u64) (.p (.int .u64) .nil)
def nat_DivWord.Q : RK := .p (.row .u64) (.p (.int .u64) (.p (.int .i64) .nil))
def nat_DivWord.h : (List Int × Int × Int) → nat_DivWord.Q.T × List Int := fun b => ((b.1, b.2.1, b.2.2, ()), [])
noncomputable def nat_DivWord.D : Decl (List Int × Int × Int) := ⟨(Go.Proofs.Try.f61.body).getD .skip, 38, [.tmp 4, .tmp 5, .tmp 6], nat_DivWord.A, nat_DivWord.Q, fun y m => (y.1, y.2.1, y.2.2.1), T0, [], [(6, [(0, .p (some (.row .u64))), (1, .p (some (.int .u64))), (7, .m .u64 40), (8, .p (some (.int .u64))), (9, .p (some (.int .i64)))])], [(9, [7])]⟩
noncomputable def nat_DivWord.S (k : Nat) : List (Nat × E.Spec (List Int × Int × Int)) := [(70, told _ nat_trim.A nat_trim.Q (nat_trim.g k) nat_trim.h), (85, told _ bits_Div64.A bits_Div64.Q (bits_Div64.g k) bits_Div64.h)]
noncomputable def nat_DivWord.l6 (k : Nat) (x0 : List Int) (x1 : Int) (x7 : List Int) (x8 : Int) (x9 : Int) : Option (List Int × Int × Int) := nat_DivWord.D.F nat_DivWord.S k 13 [.p (.row .u64 x0), .p (.lit (.int .u64 x1)), .m x7, .p (.lit (.int .u64 x8)), .p (.lit (.int .i64 x9))]
noncomputable def nat_DivWord.f0 (k : Nat) (a0 : List Int) (a1 : Int) : Option (List Int × Int × Int) := nat_DivWord.D.val nat_DivWord.S k (a0, a1, ())
noncomputable def nat_DivWord.f := (still nat_DivWord.f0).1
theorem nat_DivWord.f_def : nat_DivWord.f = nat_DivWord.f0 := (still nat_DivWord.f0).2
noncomputable def nat_DivWord.g (k : Nat) (x : nat_DivWord.A.T) : Option (List Int × Int × Int) := nat_DivWord.f k (x.1) (x.2.1)
theorem nat_DivWord.does (k : Nat) : Does PG 61 nat_DivWord.A nat_DivWord.Q (nat_DivWord.g k) nat_DivWord.h := (show nat_DivWord.g k = nat_DivWord.D.val nat_DivWord.S k from funext fun _ => by unfold nat_DivWord.g; rw [nat_DivWord.f_def]; rfl) ▸ Decl.does (D := nat_DivWord.D) (S := nat_DivWord.S) (fn := Go.Proofs.Try.f61) ⟨by kernel_rfl, by kernel_rfl, by kernel_rfl, by kernel_rfl, by kernel_rfl, by kernel_rfl, TT.of_ok _ T0ex, by kernel_rfl⟩ (fun k => ⟨told_ok (nat_trim.does k), ⟨told_ok (bits_Div64.does k), trivial⟩⟩) (fun _ _ h => by rw [h rfl]; rfl) k
/-! nat_Norm: function 71 -/
def nat_Norm.A : AK := .p (.row .u64) .nil
def nat_Norm.Q : RK := .o .u64 40 .nil
def nat_Norm.h : List Int → nat_Norm.Q.T × List Int := fun b => (((b), ()), [])
noncomputable def nat_Norm.D : Decl (List Int) := ⟨(Go.Proofs.Try.f71.body).getD .skip, 6, [.tmp 2], nat_Norm.A, nat_Norm.Q, fun y m => y.1, T0, [], [], []⟩
noncomputable def nat_Norm.S (k : Nat) : List (Nat × E.Spec (List Int)) := [(70, told _ nat_trim.A nat_trim.Q (nat_trim.g k) nat_trim.h)]
noncomputable def nat_Norm.f0 (k : Nat) (a0 : List Int) : Option (List Int) := nat_Norm.D.val nat_Norm.S k (a0, ())
noncomputable def nat_Norm.f := (still nat_Norm.f0).1
theorem nat_Norm.f_def : nat_Norm.f = nat_Norm.f0 := (still nat_Norm.f0).2
noncomputable def nat_Norm.g (k : Nat) (x : nat_Norm.A.T) : Option (List Int) := nat_Norm.f k (x.1)
theorem nat_Norm.does (k : Nat) : Does PG 71 nat_Norm.A nat_Norm.Q (nat_Norm.g k) nat_Norm.h := (show nat_Norm.g k = nat_Norm.D.val nat_Norm.S k from funext fun _ => by unfold nat_Norm.g; rw [nat_Norm.f_def]; rfl) ▸ Decl.does (D := nat_Norm.D) (S := nat_Norm.S) (fn := Go.Proofs.Try.f71) ⟨by kernel_rfl, by kernel_rfl, by kernel_rfl, by kernel_rfl, by kernel_rfl, by kernel_rfl, TT.of_ok _ T0ex, by kernel_rfl⟩ (fun k => ⟨told_ok (nat_trim.does k), trivial⟩) (fun _ _ h => by rw [h rfl]; rfl) k
/-! nat_shifted: function 87 -/
def nat_shifted.A : AK := .p (.row .u64) (.p (.int .u64) .nil)
def nat_shifted.Q : RK := .o .u64 40 .nil
def nat_shifted.h : List Int → nat_shifted.Q.T × List Int := fun b => (((b), ()), [])
noncomputable def nat_shifted.D : Decl (List Int) := ⟨(Go.Proofs.Try.f87.body).getD .skip, 38, [.tmp 4], nat_shifted.A, nat_shifted.Q, fun y m => y.1, T0, [], [(3, [(1, .p (some (.int .u64))), (5, .m .u64 40), (12, .p (some (.row .u64))), (13, .p (some (.int .i64))), (14, .p (some (.int .i64)))])], []⟩
noncomputable def nat_shifted.S (k : Nat) : List (Nat × E.Spec (List Int)) := []
noncomputable def nat_shifted.l3 (k : Nat) (x1 : Int) (x5 : List Int) (x12 : List Int) (x13 : Int) (x14 : Int) : Option (List Int) := nat_shifted.D.F nat_shifted.S k 7 [.p (.lit (.int .u64 x1)), .m x5, .p (.row .u64 x12), .p (.lit (.int .i64 x13)), .p (.lit (.int .i64 x14))]
noncomputable def nat_shifted.f0 (k : Nat) (a0 : List Int) (a1 : Int) : Option (List Int) := nat_shifted.D.val nat_shifted.S k (a0, a1, ())
noncomputable def nat_shifted.f := (still nat_shifted.f0).1
theorem nat_shifted.f_def : nat_shifted.f = nat_shifted.f0 := (still nat_shifted.f0).2
noncomputable def nat_shifted.g (k : Nat) (x : nat_shifted.A.T) : Option (List Int) := nat_shifted.f k (x.1) (x.2.1)
theorem nat_shifted.does (k : Nat) : Does PG 87 nat_shifted.A nat_shifted.Q (nat_shifted.g k) nat_shifted.h := (show nat_shifted.g k = nat_shifted.D.val nat_shifted.S k from funext fun _ => by unfold nat_shifted.g; rw [nat_shifted.f_def]; rfl) ▸ Decl.does (D := nat_shifted.D) (S := nat_shifted.S) (fn := Go.Proofs.Try.f87) ⟨by kernel_rfl, by kernel_rfl, by kernel_rfl, by kernel_rfl, by kernel_rfl, by kernel_rfl, TT.of_ok _ T0ex, by kernel_rfl⟩ (fun k => trivial) (fun _ _ h => by rw [h rfl]; rfl) k
/-! nat_beyond: function 101 -/
def nat_beyond.A : AK := .p (.int .u64) (.p (.int .u64) (.p (.int .u64) (.p (.int .u64) .nil)))
def nat_beyond.Q : RK := .p (.bool) .nil
def nat_beyond.h : Bool → nat_beyond.Q.T × List Int := fun b => ((b, ()), [])
noncomputable def nat_beyond.D : Decl Bool := ⟨(Go.Proofs.Try.f101.body).getD .skip, 30, [.tmp 8], nat_beyond.A, nat_beyond.Q, fun y m => y.1, T0, [], [], []⟩
noncomputable def nat_beyond.S (k : Nat) : List (Nat × E.Spec Bool) := [(81, told _ bits_Mul64.A bits_Mul64.Q (bits_Mul64.g k) bits_Mul64.h)]
noncomputable def nat_beyond.f0 (k : Nat) (a0 : Int) (a1 : Int) (a2 : Int) (a3 : Int) : Option Bool := nat_beyond.D.val nat_beyond.S k (a0, a1, a2, a3, ())
noncomputable def nat_beyond.f := (still nat_beyond.f0).1
theorem nat_beyond.f_def : nat_beyond.f = nat_beyond.f0 := (still nat_beyond.f0).2
noncomputable def nat_beyond.g (k : Nat) (x : nat_beyond.A.T) : Option Bool := nat_beyond.f k (x.1) (x.2.1) (x.2.2.1) (x.2.2.2.1)
theorem nat_beyond.does (k : Nat) : Does PG 101 nat_beyond.A nat_beyond.Q (nat_beyond.g k) nat_beyond.h := (show nat_beyond.g k = nat_beyond.D.val nat_beyond.S k from funext fun _ => by unfold nat_beyond.g; rw [nat_beyond.f_def]; rfl) ▸ Decl.does (D := nat_beyond.D) (S := nat_beyond.S) (fn := Go.Proofs.Try.f101) ⟨by kernel_rfl, by kernel_rfl, by kernel_rfl, by kernel_rfl, by kernel_rfl, by kernel_rfl, TT.of_ok _ T0ex, by kernel_rfl⟩ (fun k => ⟨told_ok (bits_Mul64.does k), trivial⟩) (fun _ _ h => by rw [h rfl]; rfl) k
/-! nat_guess: function 96 -/
def nat_guess.A : AK := .p (.int .u64) (.p (.int .u64) (.p (.int .u64) (.p (.int .u64) (.p (.int .u64) .nil))))
def nat_guess.Q : RK := .p (.int .u64) .nil
def nat_guess.h : Int → nat_guess.Q.T × List Int := fun b => ((b, ()), [])
noncomputable def nat_guess.D : Decl Int := ⟨(Go.Proofs.Try.f96.body).getD .skip, 69, [.tmp 10], nat_guess.A, nat_guess.Q, fun y m => y.1, T0, [], [(10, [(2, .p (some (.int .u64))), (3, .p (some (.int .u64))), (4, .p (some (.int .u64))), (14, .p (some (.int .u64))), (15, .p (some (.int .u64))), (16, .p (some (.int .u64)))]), (4, [(2, .p (some (.int .u64))), (3, .p (some (.int .u64))), (4, .p (some (.int .u64))), (11, .p (some (.int .u64))), (12, .p (some (.int .u64))), (13, .p (some (.int .u64)))])], []⟩
noncomputable def nat_guess.S (k : Nat) : List (Nat × E.Spec Int) := [(85, told _ bits_Div64.A bits_Div64.Q (bits_Div64.g k) bits_Div64.h), (101, told _ nat_beyond.A nat_beyond.Q (nat_beyond.g k) nat_beyond.h)]
noncomputable def nat_guess.l10 (k : Nat) (x2 : Int) (x3 : Int) (x4 : Int) (x14 : Int) (x15 : Int) (x16 : Int) : Option Int := nat_guess.D.F nat_guess.S k 21 [.p (.lit (.int .u64 x2)), .p (.lit (.int .u64 x3)), .p (.lit (.int .u64 x4)), .p (.lit (.int .u64 x14)), .p (.lit (.int .u64 x15)), .p (.lit (.int .u64 x16))]
noncomputable def nat_guess.l4 (k : Nat) (x2 : Int) (x3 : Int) (x4 : Int) (x11 : Int) (x12 : Int) (x13 : Int) : Option Int := nat_guess.D.F nat_guess.S k 9 [.p (.lit (.int .u64 x2)), .p (.lit (.int .u64 x3)), .p (.lit (.int .u64 x4)), .p (.lit (.int .u64 x11)), .p (.lit (.int .u64 x12)), .p (.lit (.int .u64 x13))]
noncomputable def nat_guess.f0 (k : Nat) (a0 : Int) (a1 : Int) (a2 : Int) (a3 : Int) (a4 : Int) : Option Int := nat_guess.D.val nat_guess.S k (a0, a1, a2, a3, a4, ())
noncomputable def nat_guess.f := (still nat_guess.f0).1
theorem nat_guess.f_def : nat_guess.f = nat_guess.f0 := (still nat_guess.f0).2
noncomputable def nat_guess.g (k : Nat) (x : nat_guess.A.T) : Option Int := nat_guess.f k (x.1) (x.2.1) (x.2.2.1) (x.2.2.2.1) (x.2.2.2.2.1)
theorem nat_guess.does (k : Nat) : Does PG 96 nat_guess.A nat_guess.Q (nat_guess.g k) nat_guess.h := (show nat_guess.g k = nat_guess.D.val nat_guess.S k from funext fun _ => by unfold nat_guess.g; rw [nat_guess.f_def]; rfl) ▸ Decl.does (D := nat_guess.D) (S := nat_guess.S) (fn := Go.Proofs.Try.f96) ⟨by kernel_rfl, by kernel_rfl, by kernel_rfl, by kernel_rfl, by kernel_rfl, by kernel_rfl, TT.of_ok _ T0ex, by kernel_rfl⟩ (fun k => ⟨told_ok (bits_Div64.does k), ⟨told_ok (nat_beyond.does k), trivial⟩⟩) (fun _ _ h => by rw [h rfl]; rfl) k
/-! nat_takes: function 97 -/
def nat_takes.A : AK := .m none .u64 40 (.p (.row .u64) (.p (.int .u64) (.p (.int .i64) .nil)))
def nat_takes.Q : RK := .p (.bool) .nil
def nat_takes.h : (Bool × List Int) → nat_takes.Q.T × List Int := fun b => ((b.1, ()), b.2)
noncomputable def nat_takes.D : Decl (Bool × List Int) := ⟨(Go.Proofs.Try.f97.body).getD .skip, 57, [.tmp 8], nat_takes.A, nat_takes.Q, fun y m => (y.1, m), T0, [], [(3, [(0, .m .u64 40), (1, .p (some (.row .u64))), (2, .p (some (.int .u64))), (3, .p (some (.int .i64))), (9, .p (some (.int .u64))), (10, .p (some (.int .u64))), (11, .p (some (.int .i64)))])], []⟩
noncomputable def nat_takes.S (k : Nat) : List (Nat × E.Spec (Bool × List Int)) := [(81, told _ bits_Mul64.A bits_Mul64.Q (bits_Mul64.g k) bits_Mul64.h), (92, told _ nat_at.A nat_at.Q (nat_at.g k) nat_at.h)]
noncomputable def nat_takes.l3 (k : Nat) (x0 : List Int) (x1 : List Int) (x2 : Int) (x3 : Int) (x9 : Int) (x10 : Int) (x11 : Int) : Option (Bool × List Int) := nat_takes.D.F nat_takes.S k 7 [.m x0, .p (.row .u64 x1), .p (.lit (.int .u64 x2)), .p (.lit (.int .i64 x3)), .p (.lit (.int .u64 x9)), .p (.lit (.int .u64 x10)), .p (.lit (.int .i64 x11))]
noncomputable def nat_takes.f0 (k : Nat) (a0 : List Int) (a1 : List Int) (a2 : Int) (a3 : Int) : Option (Bool × List Int) := nat_takes.D.val nat_takes.S k (a0, a1, a2, a3, ())
noncomputable def nat_takes.f := (still nat_takes.f0).1
theorem nat_takes.f_def : nat_takes.f = nat_takes.f0 := (still nat_takes.f0).2
noncomputable def nat_takes.g (k : Nat) (x : nat_takes.A.T) : Option (Bool × List Int) := nat_takes.f k (x.1) (x.2.1) (x.2.2.1) (x.2.2.2.1)
theorem nat_takes.does (k : Nat) : Does PG 97 nat_takes.A nat_takes.Q (nat_takes.g k) nat_takes.h := (show nat_takes.g k = nat_takes.D.val nat_takes.S k from funext fun _ => by unfold nat_takes.g; rw [nat_takes.f_def]; rfl) ▸ Decl.does (D := nat_takes.D) (S := nat_takes.S) (fn := Go.Proofs.Try.f97) ⟨by kernel_rfl, by kernel_rfl, by kernel_rfl, by kernel_rfl, by kernel_rfl, by kernel_rfl, TT.of_ok _ T0ex, by kernel_rfl⟩ (fun k => ⟨told_ok (bits_Mul64.does k), ⟨told_ok (nat_at.does k), trivial⟩⟩) (fun _ _ _ => rfl) k
/-! nat_gives: function 98 -/
def nat_gives.A : AK := .m none .u64 40 (.p (.row .u64) (.p (.int .i64) .nil))
def nat_gives.Q : RK := .nil
def nat_gives.h : List Int → nat_gives.Q.T × List Int := fun b => ((()), b)
noncomputable def nat_gives.D : Decl (List Int) := ⟨(Go.Proofs.Try.f98.body).getD .skip, 33, [], nat_gives.A, nat_gives.Q, fun y m => m, T0, [], [(2, [(0, .m .u64 40), (1, .p (some (.row .u64))), (2, .p (some (.int .i64))), (6, .p (some (.int .u64))), (7, .p (some (.int .i64)))])], []⟩
noncomputable def nat_gives.S (k : Nat) : List (Nat × E.Spec (List Int)) := [(92, told _ nat_at.A nat_at.Q (nat_at.g k) nat_at.h)]
noncomputable def nat_gives.l2 (k : Nat) (x0 : List Int) (x1 : List Int) (x2 : Int) (x6 : Int) (x7 : Int) : Option (List Int) := nat_gives.D.F nat_gives.S k 5 [.m x0, .p (.row .u64 x1), .p (.lit (.int .i64 x2)), .p (.lit (.int .u64 x6)), .p (.lit (.int .i64 x7))]
noncomputable def nat_gives.f0 (k : Nat) (a0 : List Int) (a1 : List Int) (a2 : Int) : Option (List Int) := nat_gives.D.val nat_gives.S k (a0, a1, a2, ())
noncomputable def nat_gives.f := (still nat_gives.f0).1
theorem nat_gives.f_def : nat_gives.f = nat_gives.f0 := (still nat_gives.f0).2
noncomputable def nat_gives.g (k : Nat) (x : nat_gives.A.T) : Option (List Int) := nat_gives.f k (x.1) (x.2.1) (x.2.2.1)
theorem nat_gives.does (k : Nat) : Does PG 98 nat_gives.A nat_gives.Q (nat_gives.g k) nat_gives.h := (show nat_gives.g k = nat_gives.D.val nat_gives.S k from funext fun _ => by unfold nat_gives.g; rw [nat_gives.f_def]; rfl) ▸ Decl.does (D := nat_gives.D) (S := nat_gives.S) (fn := Go.Proofs.Try.f98) ⟨by kernel_rfl, by kernel_rfl, by kernel_rfl, by kernel_rfl, by kernel_rfl, by kernel_rfl, TT.of_ok _ T0ex, by kernel_rfl⟩ (fun k => ⟨told_ok (nat_at.does k), trivial⟩) (fun _ _ _ => rfl) k
/-! nat_Shr: function 99 -/
def nat_Shr.A : AK := .p (.row .u64) (.p (.int .i64) .nil)
def nat_Shr.Q : RK := .p (.row .u64) (.p (.int .i64) .nil)
def nat_Shr.h : (List Int × Int) → nat_Shr.Q.T × List Int := fun b => ((b.1, b.2, ()), [])
noncomputable def nat_Shr.D : Decl (List Int × Int) := ⟨(Go.Proofs.Try.f99.body).getD .skip, 53, [.tmp 4, .tmp 5], nat_Shr.A, nat_Shr.Q, fun y m => (y.1, y.2.1), T0, [], [(9, [(0, .p (some (.row .u64))), (1, .p (some (.int .i64))), (6, .m .u64 40), (25, .p (some (.int .i64))), (26, .p (some (.int .i64)))])], [(13, [6])]⟩
noncomputable def nat_Shr.S (k : Nat) : List (Nat × E.Spec (List Int × Int)) := [(70, told _ nat_trim.A nat_trim.Q (nat_trim.g k) nat_trim.h), (92, told _ nat_at.A nat_at.Q (nat_at.g k) nat_at.h)]
noncomputable def nat_Shr.l9 (k : Nat) (x0 : List Int) (x1 : Int) (x6 : List Int) (x25 : Int) (x26 : Int) : Option (List Int × Int) := nat_Shr.D.F nat_Shr.S k 19 [.p (.row .u64 x0), .p (.lit (.int .i64 x1)), .m x6, .p (.lit (.int .i64 x25)), .p (.lit (.int .i64 x26))]
noncomputable def nat_Shr.f0 (k : Nat) (a0 : List Int) (a1 : Int) : Option (List Int × Int) := nat_Shr.D.val nat_Shr.S k (a0, a1, ())
noncomputable def nat_Shr.f := (still nat_Shr.f0).1
theorem nat_Shr.f_def : nat_Shr.f = nat_Shr.f0 := (still nat_Shr.f0).2
noncomputable def nat_Shr.g (k : Nat) (x : nat_Shr.A.T) : Option (List Int × Int) := nat_Shr.f k (x.1) (x.2.1)
theorem nat_Shr.does (k : Nat) : Does PG 99 nat_Shr.A nat_Shr.Q (nat_Shr.g k) nat_Shr.h := (show nat_Shr.g k = nat_Shr.D.val nat_Shr.S k from funext fun _ => by unfold nat_Shr.g; rw [nat_Shr.f_def]; rfl) ▸ Decl.does (D := nat_Shr.D) (S := nat_Shr.S) (fn := Go.Proofs.Try.f99) ⟨by kernel_rfl, by kernel_rfl, by kernel_rfl, by kernel_rfl, by kernel_rfl, by kernel_rfl, TT.of_ok _ T0ex, by kernel_rfl⟩ (fun k => ⟨told_ok (nat_trim.does k), ⟨told_ok (nat_at.does k), trivial⟩⟩) (fun _ _ h => by rw [h rfl]; rfl) k
/-! nat_DivMod: function 84 -/
def nat_DivMod.A : AK := .p (.row .u64) (.p (.row .u64) .nil)
def nat_DivMod.Q : RK := .p (.row .u64) (.p (.row .u64) (.p (.int .i64) .nil))
def nat_DivMod.h : (List Int × List Int × Int) → nat_DivMod.Q.T × List Int := fun b => ((b.1, b.2.1, b.2.2, ()), [])
noncomputable def nat_DivMod.D : Decl (List Int × List Int × Int) := ⟨(Go.Proofs.Try.f84.body).getD .skip, 138, [.tmp 4, .tmp 5, .tmp 6], nat_DivMod.A, nat_DivMod.Q, fun y m => (y.1, y.2.1, y.2.2.1), T0, [], [(14, [(10, .p (some (.int .u64))), (11, .m .u64 40), (12, .p (some (.row .u64))), (13, .p (some (.int .i64))), (14, .m .u64 40), (15, .p (some (.int .i64)))])], [(21, [11]), (22, [14])]⟩
noncomputable def nat_DivMod.S (k : Nat) : List (Nat × E.Spec (List Int × List Int × Int)) := [(41, told _ nat_Cmp.A nat_Cmp.Q (nat_Cmp.g k) nat_Cmp.h), (61, told _ nat_DivWord.A nat_DivWord.Q (nat_DivWord.g k) nat_DivWord.h), (70, told _ nat_trim.A nat_trim.Q (nat_trim.g k) nat_trim.h), (71, told _ nat_Norm.A nat_Norm.Q (nat_Norm.g k) nat_Norm.h), (87, told _ nat_shifted.A nat_shifted.Q (nat_shifted.g k) nat_shifted.h), (95, told _ bits_LeadingZeros64.A bits_LeadingZeros64.Q (bits_LeadingZeros64.g k) bits_LeadingZeros64.h), (96, told _ nat_guess.A nat_guess.Q (nat_guess.g k) nat_guess.h), (97, told _ nat_takes.A nat_takes.Q (nat_takes.g k) nat_takes.h), (98, told _ nat_gives.A nat_gives.Q (nat_gives.g k) nat_gives.h), (99, told _ nat_Shr.A nat_Shr.Q (nat_Shr.g k) nat_Shr.h)]
noncomputable def nat_DivMod.l14 (k : Nat) (x10 : Int) (x11 : List Int) (x12 : List Int) (x13 : Int) (x14 : List Int) (x15 : Int) : Option (List Int × List Int × Int) := nat_DivMod.D.F nat_DivMod.S k 29 [.p (.lit (.int .u64 x10)), .m x11, .p (.row .u64 x12), .p (.lit (.int .i64 x13)), .m x14, .p (.lit (.int .i64 x15))]
noncomputable def nat_DivMod.f0 (k : Nat) (a0 : List Int) (a1 : List Int) : Option (List Int × List Int × Int) := nat_DivMod.D.val nat_DivMod.S k (a0, a1, ())
noncomputable def nat_DivMod.f := (still nat_DivMod.f0).1
theorem nat_DivMod.f_def : nat_DivMod.f = nat_DivMod.f0 := (still nat_DivMod.f0).2
noncomputable def nat_DivMod.g (k : Nat) (x : nat_DivMod.A.T) : Option (List Int × List Int × Int) := nat_DivMod.f k (x.1) (x.2.1)
theorem nat_DivMod.does (k : Nat) : Does PG 84 nat_DivMod.A nat_DivMod.Q (nat_DivMod.g k) nat_DivMod.h := (show nat_DivMod.g k = nat_DivMod.D.val nat_DivMod.S k from funext fun _ => by unfold nat_DivMod.g; rw [nat_DivMod.f_def]; rfl) ▸ Decl.does (D := nat_DivMod.D) (S := nat_DivMod.S) (fn := Go.Proofs.Try.f84) ⟨by kernel_rfl, by kernel_rfl, by kernel_rfl, by kernel_rfl, by kernel_rfl, by kernel_rfl, TT.of_ok _ T0ex, by kernel_rfl⟩ (fun k => ⟨told_ok (nat_Cmp.does k), ⟨told_ok (nat_DivWord.does k), ⟨told_ok (nat_trim.does k), ⟨told_ok (nat_Norm.does k), ⟨told_ok (nat_shifted.does k), ⟨told_ok (bits_LeadingZeros64.does k), ⟨told_ok (nat_guess.does k), ⟨told_ok (nat_takes.does k), ⟨told_ok (nat_gives.does k), ⟨told_ok (nat_Shr.does k), trivial⟩⟩⟩⟩⟩⟩⟩⟩⟩⟩) (fun _ _ h => by rw [h rfl]; rfl) k
/-! bigint_Int_QuoRem: function 60 -/
def bigint_Int_QuoRem.A : AK := .p (.agg (.cons (.bool) (.cons (.row .u64) .nil))) (.p (.agg (.cons (.bool) (.cons (.row .u64) .nil))) .nil)
def bigint_Int_QuoRem.Q : RK := .p (.agg (.cons (.bool) (.cons (.row .u64) .nil))) (.p (.agg (.cons (.bool) (.cons (.row .u64) .nil))) (.p (.int .i64) .nil))
def bigint_Int_QuoRem.h : (Bool × List Int × Bool × List Int × Int) → bigint_Int_QuoRem.Q.T × List Int := fun b => (((b.1, b.2.1, ()), (b.2.2.1, b.2.2.2.1, ()), b.2.2.2.2, ()), [])
noncomputable def bigint_Int_QuoRem.D : Decl (Bool × List Int × Bool × List Int × Int) := ⟨(Go.Proofs.Try.f60.body).getD .skip, 35, [.cell 4 26, .cell 5 26, .tmp 6], bigint_Int_QuoRem.A, bigint_Int_QuoRem.Q, fun y m => (y.1.1, y.1.2.1, y.2.1.1, y.2.1.2.1, y.2.2.1), T0, [], [], []⟩
noncomputable def bigint_Int_QuoRem.S (k : Nat) : List (Nat × E.Spec (Bool × List Int × Bool × List Int × Int)) := [(73, told _ bigint_made.A bigint_made.Q (bigint_made.g k) bigint_made.h), (84, told _ nat_DivMod.A nat_DivMod.Q (nat_DivMod.g k) nat_DivMod.h)]
noncomputable def bigint_Int_QuoRem.f0 (k : Nat) (a0_0 : Bool) (a0_1 : List Int) (a1_0 : Bool) (a1_1 : List Int) : Option (Bool × List Int × Bool × List Int × Int) := bigint_Int_QuoRem.D.val bigint_Int_QuoRem.S k ((a0_0, a0_1, ()), (a1_0, a1_1, ()), ())
noncomputable def bigint_Int_QuoRem.f := (still bigint_Int_QuoRem.f0).1
theorem bigint_Int_QuoRem.f_def : bigint_Int_QuoRem.f = bigint_Int_QuoRem.f0 := (still bigint_Int_QuoRem.f0).2
noncomputable def bigint_Int_QuoRem.g (k : Nat) (x : bigint_Int_QuoRem.A.T) : Option (Bool × List Int × Bool × List Int × Int) := bigint_Int_QuoRem.f k (x.1.1) (x.1.2.1) (x.2.1.1) (x.2.1.2.1)
theorem bigint_Int_QuoRem.does (k : Nat) : Does PG 60 bigint_Int_QuoRem.A bigint_Int_QuoRem.Q (bigint_Int_QuoRem.g k) bigint_Int_QuoRem.h := (show bigint_Int_QuoRem.g k = bigint_Int_QuoRem.D.val bigint_Int_QuoRem.S k from funext fun _ => by unfold bigint_Int_QuoRem.g; rw [bigint_Int_QuoRem.f_def]; rfl) ▸ Decl.does (D := bigint_Int_QuoRem.D) (S := bigint_Int_QuoRem.S) (fn := Go.Proofs.Try.f60) ⟨by kernel_rfl, by kernel_rfl, by kernel_rfl, by kernel_rfl, by kernel_rfl, by kernel_rfl, TT.of_ok _ T0ex, by kernel_rfl⟩ (fun k => ⟨told_ok (bigint_made.does k), ⟨told_ok (nat_DivMod.does k), trivial⟩⟩) (fun _ _ h => by rw [h rfl]; rfl) k
/-! bigint_Int_DivMod: function 28 -/
def bigint_Int_DivMod.A : AK := .p (.agg (.cons (.bool) (.cons (.row .u64) .nil))) (.p (.agg (.cons (.bool) (.cons (.row .u64) .nil))) .nil)
def bigint_Int_DivMod.Q : RK := .p (.agg (.cons (.bool) (.cons (.row .u64) .nil))) (.p (.agg (.cons (.bool) (.cons (.row .u64) .nil))) (.p (.int .i64) .nil))
def bigint_Int_DivMod.h : (Bool × List Int × Bool × List Int × Int) → bigint_Int_DivMod.Q.T × List Int := fun b => (((b.1, b.2.1, ()), (b.2.2.1, b.2.2.2.1, ()), b.2.2.2.2, ()), [])
noncomputable def bigint_Int_DivMod.D : Decl (Bool × List Int × Bool × List Int × Int) := ⟨(Go.Proofs.Try.f28.body).getD .skip, 32, [.cell 4 26, .cell 5 26, .tmp 6], bigint_Int_DivMod.A, bigint_Int_DivMod.Q, fun y m => (y.1.1, y.1.2.1, y.2.1.1, y.2.1.2.1, y.2.2.1), T0, [], [], []⟩
noncomputable def bigint_Int_DivMod.S (k : Nat) : List (Nat × E.Spec (Bool × List Int × Bool × List Int × Int)) := [(12, told _ bigint_Int_Sign.A bigint_Int_Sign.Q (bigint_Int_Sign.g k) bigint_Int_Sign.h), (36, told _ bigint_Of.A bigint_Of.Q (bigint_Of.g k) bigint_Of.h), (46, told _ bigint_Int_Add.A bigint_Int_Add.Q (bigint_Int_Add.g k) bigint_Int_Add.h), (47, told _ bigint_Int_Sub.A bigint_Int_Sub.Q (bigint_Int_Sub.g k) bigint_Int_Sub.h), (60, told _ bigint_Int_QuoRem.A bigint_Int_QuoRem.Q (bigint_Int_QuoRem.g k) bigint_Int_QuoRem.h)]
noncomputable def bigint_Int_DivMod.f0 (k : Nat) (a0_0 : Bool) (a0_1 : List Int) (a1_0 : Bool) (a1_1 : List Int) : Option (Bool × List Int × Bool × List Int × Int) := bigint_Int_DivMod.D.val bigint_Int_DivMod.S k ((a0_0, a0_1, ()), (a1_0, a1_1, ()), ())
noncomputable def bigint_Int_DivMod.f := (still bigint_Int_DivMod.f0).1
theorem bigint_Int_DivMod.f_def : bigint_Int_DivMod.f = bigint_Int_DivMod.f0 := (still bigint_Int_DivMod.f0).2
noncomputable def bigint_Int_DivMod.g (k : Nat) (x : bigint_Int_DivMod.A.T) : Option (Bool × List Int × Bool × List Int × Int) := bigint_Int_DivMod.f k (x.1.1) (x.1.2.1) (x.2.1.1) (x.2.1.2.1)
theorem bigint_Int_DivMod.does (k : Nat) : Does PG 28 bigint_Int_DivMod.A bigint_Int_DivMod.Q (bigint_Int_DivMod.g k) bigint_Int_DivMod.h := (show bigint_Int_DivMod.g k = bigint_Int_DivMod.D.val bigint_Int_DivMod.S k from funext fun _ => by unfold bigint_Int_DivMod.g; rw [bigint_Int_DivMod.f_def]; rfl) ▸ Decl.does (D := bigint_Int_DivMod.D) (S := bigint_Int_DivMod.S) (fn := Go.Proofs.Try.f28) ⟨by kernel_rfl, by kernel_rfl, by kernel_rfl, by kernel_rfl, by kernel_rfl, by kernel_rfl, TT.of_ok _ T0ex, by kernel_rfl⟩ (fun k => ⟨told_ok (bigint_Int_Sign.does k), ⟨told_ok (bigint_Of.does k), ⟨told_ok (bigint_Int_Add.does k), ⟨told_ok (bigint_Int_Sub.does k), ⟨told_ok (bigint_Int_QuoRem.does k), trivial⟩⟩⟩⟩⟩) (fun _ _ h => by rw [h rfl]; rfl) k
/-! bigint_Int_Mod: function 29 -/
def bigint_Int_Mod.A : AK := .p (.agg (.cons (.bool) (.cons (.row .u64) .nil))) (.p (.int .u64) .nil)
def bigint_Int_Mod.Q : RK := .p (.int .u64) (.p (.int .i64) .nil)
def bigint_Int_Mod.h : (Int × Int) → bigint_Int_Mod.Q.T × List Int := fun b => ((b.1, b.2, ()), [])
noncomputable def bigint_Int_Mod.D : Decl (Int × Int) := ⟨(Go.Proofs.Try.f29.body).getD .skip, 28, [.tmp 4, .tmp 5], bigint_Int_Mod.A, bigint_Int_Mod.Q, fun y m => (y.1, y.2.1), T0, [], [], []⟩
noncomputable def bigint_Int_Mod.S (k : Nat) : List (Nat × E.Spec (Int × Int)) := [(61, told _ nat_DivWord.A nat_DivWord.Q (nat_DivWord.g k) nat_DivWord.h)]
noncomputable def bigint_Int_Mod.f0 (k : Nat) (a0_0 : Bool) (a0_1 : List Int) (a1 : Int) : Option (Int × Int) := bigint_Int_Mod.D.val bigint_Int_Mod.S k ((a0_0, a0_1, ()), a1, ())
noncomputable def bigint_Int_Mod.f := (still bigint_Int_Mod.f0).1
theorem bigint_Int_Mod.f_def : bigint_Int_Mod.f = bigint_Int_Mod.f0 := (still bigint_Int_Mod.f0).2
noncomputable def bigint_Int_Mod.g (k : Nat) (x : bigint_Int_Mod.A.T) : Option (Int × Int) := bigint_Int_Mod.f k (x.1.1) (x.1.2.1) (x.2.1)
theorem bigint_Int_Mod.does (k : Nat) : Does PG 29 bigint_Int_Mod.A bigint_Int_Mod.Q (bigint_Int_Mod.g k) bigint_Int_Mod.h := (show bigint_Int_Mod.g k = bigint_Int_Mod.D.val bigint_Int_Mod.S k from funext fun _ => by unfold bigint_Int_Mod.g; rw [bigint_Int_Mod.f_def]; rfl) ▸ Decl.does (D := bigint_Int_Mod.D) (S := bigint_Int_Mod.S) (fn := Go.Proofs.Try.f29) ⟨by kernel_rfl, by kernel_rfl, by kernel_rfl, by kernel_rfl, by kernel_rfl, by kernel_rfl, TT.of_ok _ T0ex, by kernel_rfl⟩ (fun k => ⟨told_ok (nat_DivWord.does k), trivial⟩) (fun _ _ h => by rw [h rfl]; rfl) k
/-! crt_may: function 53 -/
def crt_may.A : AK := .p (.int .u64) .nil
def crt_may.Q : RK := .p (.bool) .nil
def crt_may.h : Bool → crt_may.Q.T × List Int := fun b => ((b, ()), [])
noncomputable def crt_may.D : Decl Bool := ⟨(Go.Proofs.Try.f53.body).getD .skip, 9, [.tmp 2], crt_may.A, crt_may.Q, fun y m => y.1, T0, [], [], []⟩
noncomputable def crt_may.S (k : Nat) : List (Nat × E.Spec Bool) := []
noncomputable def crt_may.f0 (k : Nat) (a0 : Int) : Option Bool := crt_may.D.val crt_may.S k (a0, ())
noncomputable def crt_may.f := (still crt_may.f0).1
theorem crt_may.f_def : crt_may.f = crt_may.f0 := (still crt_may.f0).2
noncomputable def crt_may.g (k : Nat) (x : crt_may.A.T) : Option Bool := crt_may.f k (x.1)
theorem crt_may.does (k : Nat) : Does PG 53 crt_may.A crt_may.Q (crt_may.g k) crt_may.h := (show crt_may.g k = crt_may.D.val crt_may.S k from funext fun _ => by unfold crt_may.g; rw [crt_may.f_def]; rfl) ▸ Decl.does (D := crt_may.D) (S := crt_may.S) (fn := Go.Proofs.Try.f53) ⟨by kernel_rfl, by kernel_rfl, by kernel_rfl, by kernel_rfl, by kernel_rfl, by kernel_rfl, TT.of_ok _ T0ex, by kernel_rfl⟩ (fun k => trivial) (fun _ _ h => by rw [h rfl]; rfl) k
/-! bits_Rem64: function 82 -/
def bits_Rem64.A : AK := .p (.int .u64) (.p (.int .u64) (.p (.int .u64) .nil))
def bits_Rem64.Q : RK := .p (.int .u64) .nil
def bits_Rem64.h : Int → bits_Rem64.Q.T × List Int := fun b => ((b, ()), [])
noncomputable def bits_Rem64.D : Decl Int := ⟨(Go.Proofs.Try.f82.body).getD .skip, 19, [.tmp 6], bits_Rem64.A, bits_Rem64.Q, fun y m => y.1, T0, [], [], []⟩
noncomputable def bits_Rem64.S (k : Nat) : List (Nat × E.Spec Int) := [(85, told _ bits_Div64.A bits_Div64.Q (bits_Div64.g k) bits_Div64.h)]
noncomputable def bits_Rem64.f0 (k : Nat) (a0 : Int) (a1 : Int) (a2 : Int) : Option Int := bits_Rem64.D.val bits_Rem64.S k (a0, a1, a2, ())
noncomputable def bits_Rem64.f := (still bits_Rem64.f0).1
theorem bits_Rem64.f_def : bits_Rem64.f = bits_Rem64.f0 := (still bits_Rem64.f0).2
noncomputable def bits_Rem64.g (k : Nat) (x : bits_Rem64.A.T) : Option Int := bits_Rem64.f k (x.1) (x.2.1) (x.2.2.1)
theorem bits_Rem64.does (k : Nat) : Does PG 82 bits_Rem64.A bits_Rem64.Q (bits_Rem64.g k) bits_Rem64.h := (show bits_Rem64.g k = bits_Rem64.D.val bits_Rem64.S k from funext fun _ => by unfold bits_Rem64.g; rw [bits_Rem64.f_def]; rfl) ▸ Decl.does (D := bits_Rem64.D) (S := bits_Rem64.S) (fn := Go.Proofs.Try.f82) ⟨by kernel_rfl, by kernel_rfl, by kernel_rfl, by kernel_rfl, by kernel_rfl, by kernel_rfl, TT.of_ok _ T0ex, by kernel_rfl⟩ (fun k => ⟨told_ok (bits_Div64.does k), trivial⟩) (fun _ _ h => by rw [h rfl]; rfl) k
/-! word_Field_Mul: function 56 -/
def word_Field_Mul.A : AK := .p (.fp 105 (.cons (.int .u64) (.cons (.int .u64) (.cons (.int .u64) .nil)))) (.p (.int .u64) (.p (.int .u64) .nil))
def word_Field_Mul.Q : RK := .p (.int .u64) .nil
def word_Field_Mul.h : Int → word_Field_Mul.Q.T × List Int := fun b => ((b, ()), [])
noncomputable def word_Field_Mul.D : Decl Int := ⟨(Go.Proofs.Try.f56.body).getD .skip, 34, [.tmp 6], word_Field_Mul.A, word_Field_Mul.Q, fun y m => y.1, T0, [], [], []⟩
noncomputable def word_Field_Mul.S (k : Nat) : List (Nat × E.Spec Int) := [(81, told _ bits_Mul64.A bits_Mul64.Q (bits_Mul64.g k) bits_Mul64.h), (82, told _ bits_Rem64.A bits_Rem64.Q (bits_Rem64.g k) bits_Rem64.h)]
noncomputable def word_Field_Mul.f0 (k : Nat) (a0_0 : Int) (a0_1 : Int) (a0_2 : Int) (a1 : Int) (a2 : Int) : Option Int := word_Field_Mul.D.val word_Field_Mul.S k ((a0_0, a0_1, a0_2, ()), a1, a2, ())
noncomputable def word_Field_Mul.f := (still word_Field_Mul.f0).1
theorem word_Field_Mul.f_def : word_Field_Mul.f = word_Field_Mul.f0 := (still word_Field_Mul.f0).2
noncomputable def word_Field_Mul.g (k : Nat) (x : word_Field_Mul.A.T) : Option Int := word_Field_Mul.f k (x.1.1) (x.1.2.1) (x.1.2.2.1) (x.2.1) (x.2.2.1)
theorem word_Field_Mul.does (k : Nat) : Does PG 56 word_Field_Mul.A word_Field_Mul.Q (word_Field_Mul.g k) word_Field_Mul.h := (show word_Field_Mul.g k = word_Field_Mul.D.val word_Field_Mul.S k from funext fun _ => by unfold word_Field_Mul.g; rw [word_Field_Mul.f_def]; rfl) ▸ Decl.does (D := word_Field_Mul.D) (S := word_Field_Mul.S) (fn := Go.Proofs.Try.f56) ⟨by kernel_rfl, by kernel_rfl, by kernel_rfl, by kernel_rfl, by kernel_rfl, by kernel_rfl, TT.of_ok _ T0ex, by kernel_rfl⟩ (fun k => ⟨told_ok (bits_Mul64.does k), ⟨told_ok (bits_Rem64.does k), trivial⟩⟩) (fun _ _ h => by rw [h rfl]; rfl) k
/-! word_New: function 54 -/
def word_New.A : AK := .p (.int .u64) .nil
def word_New.Q : RK := .p (.np 105 (.cons (.int .u64) (.cons (.int .u64) (.cons (.int .u64) .nil)))) (.p (.int .i64) .nil)
def word_New.h : ((Option (Int × Int × Int × Unit)) × Int) → word_New.Q.T × List Int := fun b => ((b.1, b.2, ()), [])
noncomputable def word_New.D : Decl ((Option (Int × Int × Int × Unit)) × Int) := ⟨(Go.Proofs.Try.f54.body).getD .skip, 46, [.tmp 2, .tmp 3], word_New.A, word_New.Q, fun y m => (y.1, y.2.1), T0, [], [(7, [(0, .p (some (.int .u64))), (4, .p (some (.pt 3 0))), (5, .p (some (.int .u64))), (15, .b (some (.cons (.int .u64) (.cons (.int .u64) (.cons (.int .u64) .nil))))), (20, .p (some (.int .i64)))])], []⟩
noncomputable def word_New.S (k : Nat) : List (Nat × E.Spec ((Option (Int × Int × Int × Unit)) × Int)) := [(56, told _ word_Field_Mul.A word_Field_Mul.Q (word_Field_Mul.g k) word_Field_Mul.h)]
noncomputable def word_New.l7 (k : Nat) (x0 : Int) (x5 : Int) (x15_0 : Int) (x15_1 : Int) (x15_2 : Int) (x20 : Int) : Option ((Option (Int × Int × Int × Unit)) × Int) := word_New.D.F word_New.S k 15 [.p (.lit (.int .u64 x0)), .p (.ptr 3 0), .p (.lit (.int .u64 x5)), .b 105 [.lit (.int .u64 x15_0), .lit (.int .u64 x15_1), .lit (.int .u64 x15_2)], .p (.lit (.int .i64 x20))]
noncomputable def word_New.f0 (k : Nat) (a0 : Int) : Option ((Option (Int × Int × Int × Unit)) × Int) := word_New.D.val word_New.S k (a0, ())
noncomputable def word_New.f := (still word_New.f0).1
theorem word_New.f_def : word_New.f = word_New.f0 := (still word_New.f0).2
noncomputable def word_New.g (k : Nat) (x : word_New.A.T) : Option ((Option (Int × Int × Int × Unit)) × Int) := word_New.f k (x.1)
theorem word_New.does (k : Nat) : Does PG 54 word_New.A word_New.Q (word_New.g k) word_New.h := (show word_New.g k = word_New.D.val word_New.S k from funext fun _ => by unfold word_New.g; rw [word_New.f_def]; rfl) ▸ Decl.does (D := word_New.D) (S := word_New.S) (fn := Go.Proofs.Try.f54) ⟨by kernel_rfl, by kernel_rfl, by kernel_rfl, by kernel_rfl, by kernel_rfl, by kernel_rfl, TT.of_ok _ T0ex, by kernel_rfl⟩ (fun k => ⟨told_ok (word_Field_Mul.does k), trivial⟩) (fun _ _ h => by rw [h rfl]; rfl) k
/-! word_Field_Sub: function 57 -/
def word_Field_Sub.A : AK := .p (.fp 105 (.cons (.int .u64) (.cons (.int .u64) (.cons (.int .u64) .nil)))) (.p (.int .u64) (.p (.int .u64) .nil))
def word_Field_Sub.Q : RK := .p (.int .u64) .nil
def word_Field_Sub.h : Int → word_Field_Sub.Q.T × List Int := fun b => ((b, ()), [])
noncomputable def word_Field_Sub.D : Decl Int := ⟨(Go.Proofs.Try.f57.body).getD .skip, 33, [.tmp 6], word_Field_Sub.A, word_Field_Sub.Q, fun y m => y.1, T0, [], [], []⟩
noncomputable def word_Field_Sub.S (k : Nat) : List (Nat × E.Spec Int) := []
noncomputable def word_Field_Sub.f0 (k : Nat) (a0_0 : Int) (a0_1 : Int) (a0_2 : Int) (a1 : Int) (a2 : Int) : Option Int := word_Field_Sub.D.val word_Field_Sub.S k ((a0_0, a0_1, a0_2, ()), a1, a2, ())
noncomputable def word_Field_Sub.f := (still word_Field_Sub.f0).1
theorem word_Field_Sub.f_def : word_Field_Sub.f = word_Field_Sub.f0 := (still word_Field_Sub.f0).2
noncomputable def word_Field_Sub.g (k : Nat) (x : word_Field_Sub.A.T) : Option Int := word_Field_Sub.f k (x.1.1) (x.1.2.1) (x.1.2.2.1) (x.2.1) (x.2.2.1)
theorem word_Field_Sub.does (k : Nat) : Does PG 57 word_Field_Sub.A word_Field_Sub.Q (word_Field_Sub.g k) word_Field_Sub.h := (show word_Field_Sub.g k = word_Field_Sub.D.val word_Field_Sub.S k from funext fun _ => by unfold word_Field_Sub.g; rw [word_Field_Sub.f_def]; rfl) ▸ Decl.does (D := word_Field_Sub.D) (S := word_Field_Sub.S) (fn := Go.Proofs.Try.f57) ⟨by kernel_rfl, by kernel_rfl, by kernel_rfl, by kernel_rfl, by kernel_rfl, by kernel_rfl, TT.of_ok _ T0ex, by kernel_rfl⟩ (fun k => trivial) (fun _ _ h => by rw [h rfl]; rfl) k
/-! word_Field_Inv: function 55 -/
def word_Field_Inv.A : AK := .p (.fp 105 (.cons (.int .u64) (.cons (.int .u64) (.cons (.int .u64) .nil)))) (.p (.int .u64) .nil)
def word_Field_Inv.Q : RK := .p (.int .u64) (.p (.int .i64) .nil)
def word_Field_Inv.h : (Int × Int) → word_Field_Inv.Q.T × List Int := fun b => ((b.1, b.2, ()), [])
noncomputable def word_Field_Inv.D : Decl (Int × Int) := ⟨(Go.Proofs.Try.f55.body).getD .skip, 48, [.tmp 4, .tmp 5], word_Field_Inv.A, word_Field_Inv.Q, fun y m => (y.1, y.2.1), T0, [], [(8, [(0, .p (some (.fp 105 (.cons (.int .u64) (.cons (.int .u64) (.cons (.int .u64) .nil)))))), (6, .p (some (.int .u64))), (7, .p (some (.int .u64))), (8, .p (some (.int .u64))), (9, .p (some (.int .u64)))])], []⟩
noncomputable def word_Field_Inv.S (k : Nat) : List (Nat × E.Spec (Int × Int)) := [(56, told _ word_Field_Mul.A word_Field_Mul.Q (word_Field_Mul.g k) word_Field_Mul.h), (57, told _ word_Field_Sub.A word_Field_Sub.Q (word_Field_Sub.g k) word_Field_Sub.h)]
noncomputable def word_Field_Inv.l8 (k : Nat) (x0_0 : Int) (x0_1 : Int) (x0_2 : Int) (x6 : Int) (x7 : Int) (x8 : Int) (x9 : Int) : Option (Int × Int) := word_Field_Inv.D.F word_Field_Inv.S k 17 [.p (.fp 105 [.lit (.int .u64 x0_0), .lit (.int .u64 x0_1), .lit (.int .u64 x0_2)]), .p (.lit (.int .u64 x6)), .p (.lit (.int .u64 x7)), .p (.lit (.int .u64 x8)), .p (.lit (.int .u64 x9))]
noncomputable def word_Field_Inv.f0 (k : Nat) (a0_0 : Int) (a0_1 : Int) (a0_2 : Int) (a1 : Int) : Option (Int × Int) := word_Field_Inv.D.val word_Field_Inv.S k ((a0_0, a0_1, a0_2, ()), a1, ())
noncomputable def word_Field_Inv.f := (still word_Field_Inv.f0).1
theorem word_Field_Inv.f_def : word_Field_Inv.f = word_Field_Inv.f0 := (still word_Field_Inv.f0).2
noncomputable def word_Field_Inv.g (k : Nat) (x : word_Field_Inv.A.T) : Option (Int × Int) := word_Field_Inv.f k (x.1.1) (x.1.2.1) (x.1.2.2.1) (x.2.1)
theorem word_Field_Inv.does (k : Nat) : Does PG 55 word_Field_Inv.A word_Field_Inv.Q (word_Field_Inv.g k) word_Field_Inv.h := (show word_Field_Inv.g k = word_Field_Inv.D.val word_Field_Inv.S k from funext fun _ => by unfold word_Field_Inv.g; rw [word_Field_Inv.f_def]; rfl) ▸ Decl.does (D := word_Field_Inv.D) (S := word_Field_Inv.S) (fn := Go.Proofs.Try.f55) ⟨by kernel_rfl, by kernel_rfl, by kernel_rfl, by kernel_rfl, by kernel_rfl, by kernel_rfl, TT.of_ok _ T0ex, by kernel_rfl⟩ (fun k => ⟨told_ok (word_Field_Mul.does k), ⟨told_ok (word_Field_Sub.does k), trivial⟩⟩) (fun _ _ h => by rw [h rfl]; rfl) k
/-! nat_into: function 94 -/
def nat_into.A : AK := .m none .u64 40 (.p (.row .u64) (.p (.int .u64) (.p (.int .i64) .nil)))
def nat_into.Q : RK := .nil
def nat_into.h : List Int → nat_into.Q.T × List Int := fun b => ((()), b)
noncomputable def nat_into.D : Decl (List Int) := ⟨(Go.Proofs.Try.f94.body).getD .skip, 77, [], nat_into.A, nat_into.Q, fun y m => m, T0, [], [(12, [(0, .m .u64 40), (8, .p (some (.int .u64))), (14, .p (some (.int .i64)))]), (2, [(0, .m .u64 40), (1, .p (some (.row .u64))), (2, .p (some (.int .u64))), (3, .p (some (.int .i64))), (8, .p (some (.int .u64))), (15, .p (some (.row .u64))), (16, .p (some (.int .i64))), (17, .p (some (.int .i64)))])], []⟩
noncomputable def nat_into.S (k : Nat) : List (Nat × E.Spec (List Int)) := [(81, told _ bits_Mul64.A bits_Mul64.Q (bits_Mul64.g k) bits_Mul64.h)]
noncomputable def nat_into.l12 (k : Nat) (x0 : List Int) (x8 : Int) (x14 : Int) : Option (List Int) := nat_into.D.F nat_into.S k 25 [.m x0, .p (.lit (.int .u64 x8)), .p (.lit (.int .i64 x14))]
noncomputable def nat_into.l2 (k : Nat) (x0 : List Int) (x1 : List Int) (x2 : Int) (x3 : Int) (x8 : Int) (x15 : List Int) (x16 : Int) (x17 : Int) : Option (List Int) := nat_into.D.F nat_into.S k 5 [.m x0, .p (.row .u64 x1), .p (.lit (.int .u64 x2)), .p (.lit (.int .i64 x3)), .p (.lit (.int .u64 x8)), .p (.row .u64 x15), .p (.lit (.int .i64 x16)), .p (.lit (.int .i64 x17))]
noncomputable def nat_into.f0 (k : Nat) (a0 : List Int) (a1 : List Int) (a2 : Int) (a3 : Int) : Option (List Int) := nat_into.D.val nat_into.S k (a0, a1, a2, a3, ())
noncomputable def nat_into.f := (still nat_into.f0).1
theorem nat_into.f_def : nat_into.f = nat_into.f0 := (still nat_into.f0).2
noncomputable def nat_into.g (k : Nat) (x : nat_into.A.T) : Option (List Int) := nat_into.f k (x.1) (x.2.1) (x.2.2.1) (x.2.2.2.1)
theorem nat_into.does (k : Nat) : Does PG 94 nat_into.A nat_into.Q (nat_into.g k) nat_into.h := (show nat_into.g k = nat_into.D.val nat_into.S k from funext fun _ => by unfold nat_into.g; rw [nat_into.f_def]; rfl) ▸ Decl.does (D := nat_into.D) (S := nat_into.S) (fn := Go.Proofs.Try.f94) ⟨by kernel_rfl, by kernel_rfl, by kernel_rfl, by kernel_rfl, by kernel_rfl, by kernel_rfl, TT.of_ok _ T0ex, by kernel_rfl⟩ (fun k => ⟨told_ok (bits_Mul64.does k), trivial⟩) (fun _ _ _ => rfl) k
/-! nat_Mul: function 83 -/
def nat_Mul.A : AK := .p (.row .u64) (.p (.row .u64) .nil)
def nat_Mul.Q : RK := .p (.row .u64) .nil
def nat_Mul.h : List Int → nat_Mul.Q.T × List Int := fun b => ((b, ()), [])
noncomputable def nat_Mul.D : Decl (List Int) := ⟨(Go.Proofs.Try.f83.body).getD .skip, 34, [.tmp 4], nat_Mul.A, nat_Mul.Q, fun y m => y.1, T0, [], [(4, [(0, .p (some (.row .u64))), (5, .m .u64 40), (19, .p (some (.row .u64))), (20, .p (some (.int .i64))), (21, .p (some (.int .i64)))])], [(8, [5])]⟩
noncomputable def nat_Mul.S (k : Nat) : List (Nat × E.Spec (List Int)) := [(70, told _ nat_trim.A nat_trim.Q (nat_trim.g k) nat_trim.h), (94, told _ nat_into.A nat_into.Q (nat_into.g k) nat_into.h)]
noncomputable def nat_Mul.l4 (k : Nat) (x0 : List Int) (x5 : List Int) (x19 : List Int) (x20 : Int) (x21 : Int) : Option (List Int) := nat_Mul.D.F nat_Mul.S k 9 [.p (.row .u64 x0), .m x5, .p (.row .u64 x19), .p (.lit (.int .i64 x20)), .p (.lit (.int .i64 x21))]
noncomputable def nat_Mul.f0 (k : Nat) (a0 : List Int) (a1 : List Int) : Option (List Int) := nat_Mul.D.val nat_Mul.S k (a0, a1, ())
noncomputable def nat_Mul.f := (still nat_Mul.f0).1
theorem nat_Mul.f_def : nat_Mul.f = nat_Mul.f0 := (still nat_Mul.f0).2
noncomputable def nat_Mul.g (k : Nat) (x : nat_Mul.A.T) : Option (List Int) := nat_Mul.f k (x.1) (x.2.1)
theorem nat_Mul.does (k : Nat) : Does PG 83 nat_Mul.A nat_Mul.Q (nat_Mul.g k) nat_Mul.h := (show nat_Mul.g k = nat_Mul.D.val nat_Mul.S k from funext fun _ => by unfold nat_Mul.g; rw [nat_Mul.f_def]; rfl) ▸ Decl.does (D := nat_Mul.D) (S := nat_Mul.S) (fn := Go.Proofs.Try.f83) ⟨by kernel_rfl, by kernel_rfl, by kernel_rfl, by kernel_rfl, by kernel_rfl, by kernel_rfl, TT.of_ok _ T0ex, by kernel_rfl⟩ (fun k => ⟨told_ok (nat_trim.does k), ⟨told_ok (nat_into.does k), trivial⟩⟩) (fun _ _ h => by rw [h rfl]; rfl) k
/-! bigint_Int_Mul: function 58 -/
def bigint_Int_Mul.A : AK := .p (.agg (.cons (.bool) (.cons (.row .u64) .nil))) (.p (.agg (.cons (.bool) (.cons (.row .u64) .nil))) .nil)
def bigint_Int_Mul.Q : RK := .p (.agg (.cons (.bool) (.cons (.row .u64) .nil))) .nil
def bigint_Int_Mul.h : (Bool × List Int) → bigint_Int_Mul.Q.T × List Int := fun b => (((b.1, b.2, ()), ()), [])
noncomputable def bigint_Int_Mul.D : Decl (Bool × List Int) := ⟨(Go.Proofs.Try.f58.body).getD .skip, 16, [.cell 4 26], bigint_Int_Mul.A, bigint_Int_Mul.Q, fun y m => (y.1.1, y.1.2.1), T0, [], [], []⟩
noncomputable def bigint_Int_Mul.S (k : Nat) : List (Nat × E.Spec (Bool × List Int)) := [(73, told _ bigint_made.A bigint_made.Q (bigint_made.g k) bigint_made.h), (83, told _ nat_Mul.A nat_Mul.Q (nat_Mul.g k) nat_Mul.h)]
noncomputable def bigint_Int_Mul.f0 (k : Nat) (a0_0 : Bool) (a0_1 : List Int) (a1_0 : Bool) (a1_1 : List Int) : Option (Bool × List Int) := bigint_Int_Mul.D.val bigint_Int_Mul.S k ((a0_0, a0_1, ()), (a1_0, a1_1, ()), ())
noncomputable def bigint_Int_Mul.f := (still bigint_Int_Mul.f0).1
theorem bigint_Int_Mul.f_def : bigint_Int_Mul.f = bigint_Int_Mul.f0 := (still bigint_Int_Mul.f0).2
noncomputable def bigint_Int_Mul.g (k : Nat) (x : bigint_Int_Mul.A.T) : Option (Bool × List Int) := bigint_Int_Mul.f k (x.1.1) (x.1.2.1) (x.2.1.1) (x.2.1.2.1)
theorem bigint_Int_Mul.does (k : Nat) : Does PG 58 bigint_Int_Mul.A bigint_Int_Mul.Q (bigint_Int_Mul.g k) bigint_Int_Mul.h := (show bigint_Int_Mul.g k = bigint_Int_Mul.D.val bigint_Int_Mul.S k from funext fun _ => by unfold bigint_Int_Mul.g; rw [bigint_Int_Mul.f_def]; rfl) ▸ Decl.does (D := bigint_Int_Mul.D) (S := bigint_Int_Mul.S) (fn := Go.Proofs.Try.f58) ⟨by kernel_rfl, by kernel_rfl, by kernel_rfl, by kernel_rfl, by kernel_rfl, by kernel_rfl, TT.of_ok _ T0ex, by kernel_rfl⟩ (fun k => ⟨told_ok (bigint_made.does k), ⟨told_ok (nat_Mul.does k), trivial⟩⟩) (fun _ _ h => by rw [h rfl]; rfl) k
/-! bigint_From: function 48 -/
def bigint_From.A : AK := .p (.bool) (.p (.row .u64) .nil)
def bigint_From.Q : RK := .p (.agg (.cons (.bool) (.cons (.row .u64) .nil))) .nil
def bigint_From.h : (Bool × List Int) → bigint_From.Q.T × List Int := fun b => (((b.1, b.2, ()), ()), [])
noncomputable def bigint_From.D : Decl (Bool × List Int) := ⟨(Go.Proofs.Try.f48.body).getD .skip, 9, [.cell 4 26], bigint_From.A, bigint_From.Q, fun y m => (y.1.1, y.1.2.1), T0, [], [], []⟩
noncomputable def bigint_From.S (k : Nat) : List (Nat × E.Spec (Bool × List Int)) := [(71, told _ nat_Norm.A nat_Norm.Q (nat_Norm.g k) nat_Norm.h), (73, told _ bigint_made.A bigint_made.Q (bigint_made.g k) bigint_made.h)]
noncomputable def bigint_From.f0 (k : Nat) (a0 : Bool) (a1 : List Int) : Option (Bool × List Int) := bigint_From.D.val bigint_From.S k (a0, a1, ())
noncomputable def bigint_From.f := (still bigint_From.f0).1
theorem bigint_From.f_def : bigint_From.f = bigint_From.f0 := (still bigint_From.f0).2
noncomputable def bigint_From.g (k : Nat) (x : bigint_From.A.T) : Option (Bool × List Int) := bigint_From.f k (x.1) (x.2.1)
theorem bigint_From.does (k : Nat) : Does PG 48 bigint_From.A bigint_From.Q (bigint_From.g k) bigint_From.h := (show bigint_From.g k = bigint_From.D.val bigint_From.S k from funext fun _ => by unfold bigint_From.g; rw [bigint_From.f_def]; rfl) ▸ Decl.does (D := bigint_From.D) (S := bigint_From.S) (fn := Go.Proofs.Try.f48) ⟨by kernel_rfl, by kernel_rfl, by kernel_rfl, by kernel_rfl, by kernel_rfl, by kernel_rfl, TT.of_ok _ T0ex, by kernel_rfl⟩ (fun k => ⟨told_ok (nat_Norm.does k), ⟨told_ok (bigint_made.does k), trivial⟩⟩) (fun _ _ h => by rw [h rfl]; rfl) k
/-! crt_of: function 59 -/
def crt_of.A : AK := .p (.int .u64) .nil
def crt_of.Q : RK := .p (.agg (.cons (.bool) (.cons (.row .u64) .nil))) .nil
def crt_of.h : (Bool × List Int) → crt_of.Q.T × List Int := fun b => (((b.1, b.2, ()), ()), [])
noncomputable def crt_of.D : Decl (Bool × List Int) := ⟨(Go.Proofs.Try.f59.body).getD .skip, 6, [.cell 2 26], crt_of.A, crt_of.Q, fun y m => (y.1.1, y.1.2.1), T0, [], [], []⟩
noncomputable def crt_of.S (k : Nat) : List (Nat × E.Spec (Bool × List Int)) := [(48, told _ bigint_From.A bigint_From.Q (bigint_From.g k) bigint_From.h)]
noncomputable def crt_of.f0 (k : Nat) (a0 : Int) : Option (Bool × List Int) := crt_of.D.val crt_of.S k (a0, ())
noncomputable def crt_of.f := (still crt_of.f0).1
theorem crt_of.f_def : crt_of.f = crt_of.f0 := (still crt_of.f0).2
noncomputable def crt_of.g (k : Nat) (x : crt_of.A.T) : Option (Bool × List Int) := crt_of.f k (x.1)
theorem crt_of.does (k : Nat) : Does PG 59 crt_of.A crt_of.Q (crt_of.g k) crt_of.h := (show crt_of.g k = crt_of.D.val crt_of.S k from funext fun _ => by unfold crt_of.g; rw [crt_of.f_def]; rfl) ▸ Decl.does (D := crt_of.D) (S := crt_of.S) (fn := Go.Proofs.Try.f59) ⟨by kernel_rfl, by kernel_rfl, by kernel_rfl, by kernel_rfl, by kernel_rfl, by kernel_rfl, TT.of_ok _ T0ex, by kernel_rfl⟩ (fun k => ⟨told_ok (bigint_From.does k), trivial⟩) (fun _ _ h => by rw [h rfl]; rfl) k
/-! crt_Step: function 25 -/
def crt_Step.A : AK := .p (.agg (.cons (.bool) (.cons (.row .u64) .nil))) (.p (.agg (.cons (.bool) (.cons (.row .u64) .nil))) (.p (.int .u64) (.p (.int .u64) .nil)))
def crt_Step.Q : RK := .p (.agg (.cons (.bool) (.cons (.row .u64) .nil))) (.p (.agg (.cons (.bool) (.cons (.row .u64) .nil))) (.p (.int .i64) .nil))
def crt_Step.h : (Bool × List Int × Bool × List Int × Int) → crt_Step.Q.T × List Int := fun b => (((b.1, b.2.1, ()), (b.2.2.1, b.2.2.2.1, ()), b.2.2.2.2, ()), [])
noncomputable def crt_Step.D : Decl (Bool × List Int × Bool × List Int × Int) := ⟨(Go.Proofs.Try.f25.body).getD .skip, 85, [.cell 8 26, .cell 9 26, .tmp 10], crt_Step.A, crt_Step.Q, fun y m => (y.1.1, y.1.2.1, y.2.1.1, y.2.1.2.1, y.2.2.1), T0, [], [], []⟩
noncomputable def crt_Step.S (k : Nat) : List (Nat × E.Spec (Bool × List Int × Bool × List Int × Int)) := [(12, told _ bigint_Int_Sign.A bigint_Int_Sign.Q (bigint_Int_Sign.g k) bigint_Int_Sign.h), (28, told _ bigint_Int_DivMod.A bigint_Int_DivMod.Q (bigint_Int_DivMod.g k) bigint_Int_DivMod.h), (29, told _ bigint_Int_Mod.A bigint_Int_Mod.Q (bigint_Int_Mod.g k) bigint_Int_Mod.h), (46, told _ bigint_Int_Add.A bigint_Int_Add.Q (bigint_Int_Add.g k) bigint_Int_Add.h), (53, told _ crt_may.A crt_may.Q (crt_may.g k) crt_may.h), (54, told _ word_New.A word_New.Q (word_New.g k) word_New.h), (55, told _ word_Field_Inv.A word_Field_Inv.Q (word_Field_Inv.g k) word_Field_Inv.h), (56, told _ word_Field_Mul.A word_Field_Mul.Q (word_Field_Mul.g k) word_Field_Mul.h), (57, told _ word_Field_Sub.A word_Field_Sub.Q (word_Field_Sub.g k) word_Field_Sub.h), (58, told _ bigint_Int_Mul.A bigint_Int_Mul.Q (bigint_Int_Mul.g k) bigint_Int_Mul.h), (59, told _ crt_of.A crt_of.Q (crt_of.g k) crt_of.h)]
noncomputable def crt_Step.f0 (k : Nat) (a0_0 : Bool) (a0_1 : List Int) (a1_0 : Bool) (a1_1 : List Int) (a2 : Int) (a3 : Int) : Option (Bool × List Int × Bool × List Int × Int) := crt_Step.D.val crt_Step.S k ((a0_0, a0_1, ()), (a1_0, a1_1, ()), a2, a3, ())
noncomputable def crt_Step.f := (still crt_Step.f0).1
theorem crt_Step.f_def : crt_Step.f = crt_Step.f0 := (still crt_Step.f0).2
noncomputable def crt_Step.g (k : Nat) (x : crt_Step.A.T) : Option (Bool × List Int × Bool × List Int × Int) := crt_Step.f k (x.1.1) (x.1.2.1) (x.2.1.1) (x.2.1.2.1) (x.2.2.1) (x.2.2.2.1)
theorem crt_Step.does (k : Nat) : Does PG 25 crt_Step.A crt_Step.Q (crt_Step.g k) crt_Step.h := (show crt_Step.g k = crt_Step.D.val crt_Step.S k from funext fun _ => by unfold crt_Step.g; rw [crt_Step.f_def]; rfl) ▸ Decl.does (D := crt_Step.D) (S := crt_Step.S) (fn := Go.Proofs.Try.f25) ⟨by kernel_rfl, by kernel_rfl, by kernel_rfl, by kernel_rfl, by kernel_rfl, by kernel_rfl, TT.of_ok _ T0ex, by kernel_rfl⟩ (fun k => ⟨told_ok (bigint_Int_Sign.does k), ⟨told_ok (bigint_Int_DivMod.does k), ⟨told_ok (bigint_Int_Mod.does k), ⟨told_ok (bigint_Int_Add.does k), ⟨told_ok (crt_may.does k), ⟨told_ok (word_New.does k), ⟨told_ok (word_Field_Inv.does k), ⟨told_ok (word_Field_Mul.does k), ⟨told_ok (word_Field_Sub.does k), ⟨told_ok (bigint_Int_Mul.does k), ⟨told_ok (crt_of.does k), trivial⟩⟩⟩⟩⟩⟩⟩⟩⟩⟩⟩) (fun _ _ h => by rw [h rfl]; rfl) k
/-! crt_wrong: function 37 -/
def crt_wrong.A : AK := .p (.row .u64) (.p (.row .u64) .nil)
def crt_wrong.Q : RK := .p (.int .i64) .nil
def crt_wrong.h : Int → crt_wrong.Q.T × List Int := fun b => ((b, ()), [])
noncomputable def crt_wrong.D : Decl Int := ⟨(Go.Proofs.Try.f37.body).getD .skip, 25, [.tmp 4], crt_wrong.A, crt_wrong.Q, fun y m => y.1, T0, [], [(4, [(1, .p (some (.row .u64))), (12, .p (some (.row .u64))), (13, .p (some (.int .i64))), (14, .p (some (.int .i64)))])], []⟩
noncomputable def crt_wrong.S (k : Nat) : List (Nat × E.Spec Int) := [(53, told _ crt_may.A crt_may.Q (crt_may.g k) crt_may.h)]
noncomputable def crt_wrong.l4 (k : Nat) (x1 : List Int) (x12 : List Int) (x13 : Int) (x14 : Int) : Option Int := crt_wrong.D.F crt_wrong.S k 9 [.p (.row .u64 x1), .p (.row .u64 x12), .p (.lit (.int .i64 x13)), .p (.lit (.int .i64 x14))]
noncomputable def crt_wrong.f0 (k : Nat) (a0 : List Int) (a1 : List Int) : Option Int := crt_wrong.D.val crt_wrong.S k (a0, a1, ())
noncomputable def crt_wrong.f := (still crt_wrong.f0).1
theorem crt_wrong.f_def : crt_wrong.f = crt_wrong.f0 := (still crt_wrong.f0).2
noncomputable def crt_wrong.g (k : Nat) (x : crt_wrong.A.T) : Option Int := crt_wrong.f k (x.1) (x.2.1)
theorem crt_wrong.does (k : Nat) : Does PG 37 crt_wrong.A crt_wrong.Q (crt_wrong.g k) crt_wrong.h := (show crt_wrong.g k = crt_wrong.D.val crt_wrong.S k from funext fun _ => by unfold crt_wrong.g; rw [crt_wrong.f_def]; rfl) ▸ Decl.does (D := crt_wrong.D) (S := crt_wrong.S) (fn := Go.Proofs.Try.f37) ⟨by kernel_rfl, by kernel_rfl, by kernel_rfl, by kernel_rfl, by kernel_rfl, by kernel_rfl, TT.of_ok _ T0ex, by kernel_rfl⟩ (fun k => ⟨told_ok (crt_may.does k), trivial⟩) (fun _ _ h => by rw [h rfl]; rfl) k
/-! crt_Lift: function 10 -/
def crt_Lift.A : AK := .p (.row .u64) (.p (.row .u64) .nil)
def crt_Lift.Q : RK := .p (.agg (.cons (.bool) (.cons (.row .u64) .nil))) (.p (.agg (.cons (.bool) (.cons (.row .u64) .nil))) (.p (.int .i64) .nil))
def crt_Lift.h : (Bool × List Int × Bool × List Int × Int) → crt_Lift.Q.T × List Int := fun b => (((b.1, b.2.1, ()), (b.2.2.1, b.2.2.2.1, ()), b.2.2.2.2, ()), [])
noncomputable def crt_Lift.D : Decl (Bool × List Int × Bool × List Int × Int) := ⟨(Go.Proofs.Try.f10.body).getD .skip, 50, [.cell 4 26, .cell 5 26, .tmp 6], crt_Lift.A, crt_Lift.Q, fun y m => (y.1.1, y.1.2.1, y.2.1.1, y.2.1.2.1, y.2.2.1), T0, [], [(1000, [(0, .p (some (.row .u64))), (1, .p (some (.row .u64))), (4, .b (some (.cons (.bool) (.cons (.row .u64) .nil)))), (5, .b (some (.cons (.bool) (.cons (.row .u64) .nil)))), (8, .b (some (.cons (.bool) (.cons (.row .u64) .nil)))), (9, .b (some (.cons (.bool) (.cons (.row .u64) .nil)))), (11, .p (some (.int .i64)))])], []⟩
noncomputable def crt_Lift.S (k : Nat) : List (Nat × E.Spec (Bool × List Int × Bool × List Int × Int)) := [(25, told _ crt_Step.A crt_Step.Q (crt_Step.g k) crt_Step.h), (36, told _ bigint_Of.A bigint_Of.Q (bigint_Of.g k) bigint_Of.h), (37, told _ crt_wrong.A crt_wrong.Q (crt_wrong.g k) crt_wrong.h)]
noncomputable def crt_Lift.l1000 (k : Nat) (x0 : List Int) (x1 : List Int) (x4_0 : Bool) (x4_1 : List Int) (x5_0 : Bool) (x5_1 : List Int) (x8_0 : Bool) (x8_1 : List Int) (x9_0 : Bool) (x9_1 : List Int) (x11 : Int) : Option (Bool × List Int × Bool × List Int × Int) := crt_Lift.D.F crt_Lift.S k 2001 [.p (.row .u64 x0), .p (.row .u64 x1), .b 26 [.lit (.bool x4_0), .row .u64 x4_1], .b 26 [.lit (.bool x5_0), .row .u64 x5_1], .b 26 [.lit (.bool x8_0), .row .u64 x8_1], .b 26 [.lit (.bool x9_0), .row .u64 x9_1], .p (.lit (.int .i64 x11))]
noncomputable def crt_Lift.f0 (k : Nat) (a0 : List Int) (a1 : List Int) : Option (Bool × List Int × Bool × List Int × Int) := crt_Lift.D.val crt_Lift.S k (a0, a1, ())
noncomputable def crt_Lift.f := (still crt_Lift.f0).1
theorem crt_Lift.f_def : crt_Lift.f = crt_Lift.f0 := (still crt_Lift.f0).2
noncomputable def crt_Lift.g (k : Nat) (x : crt_Lift.A.T) : Option (Bool × List Int × Bool × List Int × Int) := crt_Lift.f k (x.1) (x.2.1)
theorem crt_Lift.does (k : Nat) : Does PG 10 crt_Lift.A crt_Lift.Q (crt_Lift.g k) crt_Lift.h := (show crt_Lift.g k = crt_Lift.D.val crt_Lift.S k from funext fun _ => by unfold crt_Lift.g; rw [crt_Lift.f_def]; rfl) ▸ Decl.does (D := crt_Lift.D) (S := crt_Lift.S) (fn := Go.Proofs.Try.f10) ⟨by kernel_rfl, by kernel_rfl, by kernel_rfl, by kernel_rfl, by kernel_rfl, by kernel_rfl, TT.of_ok _ T0ex, by kernel_rfl⟩ (fun k => ⟨told_ok (crt_Step.does k), ⟨told_ok (bigint_Of.does k), ⟨told_ok (crt_wrong.does k), trivial⟩⟩⟩) (fun _ _ h => by rw [h rfl]; rfl) k
/-! nat_Print: function 44 -/
def nat_Print.A : AK := .p (.row .u64) .nil
def nat_Print.Q : RK := .p (.str) .nil
def nat_Print.h : ByteArray → nat_Print.Q.T × List Int := fun b => ((b, ()), [])
noncomputable def nat_Print.D : Decl ByteArray := ⟨(Go.Proofs.Try.f44.body).getD .skip, 70, [.tmp 2], nat_Print.A, nat_Print.Q, fun y m => y.1, T0, [], [(14, [(3, .m .u8 5), (6, .p (some (.int .i64))), (7, .p (some (.int .i64)))]), (9, [(0, .p (some (.row .u64))), (3, .m .u8 5), (4, .p (some (.int .u64))), (5, .p (some (.int .i64)))]), (5, [(0, .p (some (.row .u64))), (3, .m .u8 5)])], []⟩
noncomputable def nat_Print.S (k : Nat) : List (Nat × E.Spec ByteArray) := [(61, told _ nat_DivWord.A nat_DivWord.Q (nat_DivWord.g k) nat_DivWord.h), (71, told _ nat_Norm.A nat_Norm.Q (nat_Norm.g k) nat_Norm.h)]
noncomputable def nat_Print.l14 (k : Nat) (x3 : List Int) (x6 : Int) (x7 : Int) : Option ByteArray := nat_Print.D.F nat_Print.S k 29 [.m x3, .p (.lit (.int .i64 x6)), .p (.lit (.int .i64 x7))]
noncomputable def nat_Print.l9 (k : Nat) (x0 : List Int) (x3 : List Int) (x4 : Int) (x5 : Int) : Option ByteArray := nat_Print.D.F nat_Print.S k 19 [.p (.row .u64 x0), .m x3, .p (.lit (.int .u64 x4)), .p (.lit (.int .i64 x5))]
noncomputable def nat_Print.l5 (k : Nat) (x0 : List Int) (x3 : List Int) : Option ByteArray := nat_Print.D.F nat_Print.S k 11 [.p (.row .u64 x0), .m x3]
noncomputable def nat_Print.f0 (k : Nat) (a0 : List Int) : Option ByteArray := nat_Print.D.val nat_Print.S k (a0, ())
noncomputable def nat_Print.f := (still nat_Print.f0).1
theorem nat_Print.f_def : nat_Print.f = nat_Print.f0 := (still nat_Print.f0).2
noncomputable def nat_Print.g (k : Nat) (x : nat_Print.A.T) : Option ByteArray := nat_Print.f k (x.1)
theorem nat_Print.does (k : Nat) : Does PG 44 nat_Print.A nat_Print.Q (nat_Print.g k) nat_Print.h := (show nat_Print.g k = nat_Print.D.val nat_Print.S k from funext fun _ => by unfold nat_Print.g; rw [nat_Print.f_def]; rfl) ▸ Decl.does (D := nat_Print.D) (S := nat_Print.S) (fn := Go.Proofs.Try.f44) ⟨by kernel_rfl, by kernel_rfl, by kernel_rfl, by kernel_rfl, by kernel_rfl, by kernel_rfl, TT.of_ok _ T0ex, by kernel_rfl⟩ (fun k => ⟨told_ok (nat_DivWord.does k), ⟨told_ok (nat_Norm.does k), trivial⟩⟩) (fun _ _ h => by rw [h rfl]; rfl) k
/-! bigint_Int_Print: function 17 -/
def bigint_Int_Print.A : AK := .p (.agg (.cons (.bool) (.cons (.row .u64) .nil))) .nil
def bigint_Int_Print.Q : RK := .p (.str) .nil
def bigint_Int_Print.h : ByteArray → bigint_Int_Print.Q.T × List Int := fun b => ((b, ()), [])
noncomputable def bigint_Int_Print.D : Decl ByteArray := ⟨(Go.Proofs.Try.f17.body).getD .skip, 12, [.tmp 2], bigint_Int_Print.A, bigint_Int_Print.Q, fun y m => y.1, T0, [], [], []⟩
noncomputable def bigint_Int_Print.S (k : Nat) : List (Nat × E.Spec ByteArray) := [(44, told _ nat_Print.A nat_Print.Q (nat_Print.g k) nat_Print.h)]
noncomputable def bigint_Int_Print.f0 (k : Nat) (a0_0 : Bool) (a0_1 : List Int) : Option ByteArray := bigint_Int_Print.D.val bigint_Int_Print.S k ((a0_0, a0_1, ()), ())
noncomputable def bigint_Int_Print.f := (still bigint_Int_Print.f0).1
theorem bigint_Int_Print.f_def : bigint_Int_Print.f = bigint_Int_Print.f0 := (still bigint_Int_Print.f0).2
noncomputable def bigint_Int_Print.g (k : Nat) (x : bigint_Int_Print.A.T) : Option ByteArray := bigint_Int_Print.f k (x.1.1) (x.1.2.1)
theorem bigint_Int_Print.does (k : Nat) : Does PG 17 bigint_Int_Print.A bigint_Int_Print.Q (bigint_Int_Print.g k) bigint_Int_Print.h := (show bigint_Int_Print.g k = bigint_Int_Print.D.val bigint_Int_Print.S k from funext fun _ => by unfold bigint_Int_Print.g; rw [bigint_Int_Print.f_def]; rfl) ▸ Decl.does (D := bigint_Int_Print.D) (S := bigint_Int_Print.S) (fn := Go.Proofs.Try.f17) ⟨by kernel_rfl, by kernel_rfl, by kernel_rfl, by kernel_rfl, by kernel_rfl, by kernel_rfl, TT.of_ok _ T0ex, by kernel_rfl⟩ (fun k => ⟨told_ok (nat_Print.does k), trivial⟩) (fun _ _ h => by rw [h rfl]; rfl) k
/-! bigint_Int_Cmp: function 15 -/
def bigint_Int_Cmp.A : AK := .p (.agg (.cons (.bool) (.cons (.row .u64) .nil))) (.p (.agg (.cons (.bool) (.cons (.row .u64) .nil))) .nil)
def bigint_Int_Cmp.Q : RK := .p (.int .i64) .nil
def bigint_Int_Cmp.h : Int → bigint_Int_Cmp.Q.T × List Int := fun b => ((b, ()), [])
noncomputable def bigint_Int_Cmp.D : Decl Int := ⟨(Go.Proofs.Try.f15.body).getD .skip, 28, [.tmp 4], bigint_Int_Cmp.A, bigint_Int_Cmp.Q, fun y m => y.1, T0, [], [], []⟩
noncomputable def bigint_Int_Cmp.S (k : Nat) : List (Nat × E.Spec Int) := [(41, told _ nat_Cmp.A nat_Cmp.Q (nat_Cmp.g k) nat_Cmp.h)]
noncomputable def bigint_Int_Cmp.f0 (k : Nat) (a0_0 : Bool) (a0_1 : List Int) (a1_0 : Bool) (a1_1 : List Int) : Option Int := bigint_Int_Cmp.D.val bigint_Int_Cmp.S k ((a0_0, a0_1, ()), (a1_0, a1_1, ()), ())
noncomputable def bigint_Int_Cmp.f := (still bigint_Int_Cmp.f0).1
theorem bigint_Int_Cmp.f_def : bigint_Int_Cmp.f = bigint_Int_Cmp.f0 := (still bigint_Int_Cmp.f0).2
noncomputable def bigint_Int_Cmp.g (k : Nat) (x : bigint_Int_Cmp.A.T) : Option Int := bigint_Int_Cmp.f k (x.1.1) (x.1.2.1) (x.2.1.1) (x.2.1.2.1)
theorem bigint_Int_Cmp.does (k : Nat) : Does PG 15 bigint_Int_Cmp.A bigint_Int_Cmp.Q (bigint_Int_Cmp.g k) bigint_Int_Cmp.h := (show bigint_Int_Cmp.g k = bigint_Int_Cmp.D.val bigint_Int_Cmp.S k from funext fun _ => by unfold bigint_Int_Cmp.g; rw [bigint_Int_Cmp.f_def]; rfl) ▸ Decl.does (D := bigint_Int_Cmp.D) (S := bigint_Int_Cmp.S) (fn := Go.Proofs.Try.f15) ⟨by kernel_rfl, by kernel_rfl, by kernel_rfl, by kernel_rfl, by kernel_rfl, by kernel_rfl, TT.of_ok _ T0ex, by kernel_rfl⟩ (fun k => ⟨told_ok (nat_Cmp.does k), trivial⟩) (fun _ _ h => by rw [h rfl]; rfl) k
/-! crt_Near: function 20 -/
def crt_Near.A : AK := .p (.agg (.cons (.bool) (.cons (.row .u64) .nil))) (.p (.agg (.cons (.bool) (.cons (.row .u64) .nil))) .nil)
def crt_Near.Q : RK := .p (.agg (.cons (.bool) (.cons (.row .u64) .nil))) (.p (.int .i64) .nil)
def crt_Near.h : (Bool × List Int × Int) → crt_Near.Q.T × List Int := fun b => (((b.1, b.2.1, ()), b.2.2, ()), [])
noncomputable def crt_Near.D : Decl (Bool × List Int × Int) := ⟨(Go.Proofs.Try.f20.body).getD .skip, 31, [.cell 4 26, .tmp 5], crt_Near.A, crt_Near.Q, fun y m => (y.1.1, y.1.2.1, y.2.1), T0, [], [], []⟩
noncomputable def crt_Near.S (k : Nat) : List (Nat × E.Spec (Bool × List Int × Int)) := [(12, told _ bigint_Int_Sign.A bigint_Int_Sign.Q (bigint_Int_Sign.g k) bigint_Int_Sign.h), (15, told _ bigint_Int_Cmp.A bigint_Int_Cmp.Q (bigint_Int_Cmp.g k) bigint_Int_Cmp.h), (28, told _ bigint_Int_DivMod.A bigint_Int_DivMod.Q (bigint_Int_DivMod.g k) bigint_Int_DivMod.h), (46, told _ bigint_Int_Add.A bigint_Int_Add.Q (bigint_Int_Add.g k) bigint_Int_Add.h), (47, told _ bigint_Int_Sub.A bigint_Int_Sub.Q (bigint_Int_Sub.g k) bigint_Int_Sub.h)]
noncomputable def crt_Near.f0 (k : Nat) (a0_0 : Bool) (a0_1 : List Int) (a1_0 : Bool) (a1_1 : List Int) : Option (Bool × List Int × Int) := crt_Near.D.val crt_Near.S k ((a0_0, a0_1, ()), (a1_0, a1_1, ()), ())
noncomputable def crt_Near.f := (still crt_Near.f0).1
theorem crt_Near.f_def : crt_Near.f = crt_Near.f0 := (still crt_Near.f0).2
noncomputable def crt_Near.g (k : Nat) (x : crt_Near.A.T) : Option (Bool × List Int × Int) := crt_Near.f k (x.1.1) (x.1.2.1) (x.2.1.1) (x.2.1.2.1)
theorem crt_Near.does (k : Nat) : Does PG 20 crt_Near.A crt_Near.Q (crt_Near.g k) crt_Near.h := (show crt_Near.g k = crt_Near.D.val crt_Near.S k from funext fun _ => by unfold crt_Near.g; rw [crt_Near.f_def]; rfl) ▸ Decl.does (D := crt_Near.D) (S := crt_Near.S) (fn := Go.Proofs.Try.f20) ⟨by kernel_rfl, by kernel_rfl, by kernel_rfl, by kernel_rfl, by kernel_rfl, by kernel_rfl, TT.of_ok _ T0ex, by kernel_rfl⟩ (fun k => ⟨told_ok (bigint_Int_Sign.does k), ⟨told_ok (bigint_Int_Cmp.does k), ⟨told_ok (bigint_Int_DivMod.does k), ⟨told_ok (bigint_Int_Add.does k), ⟨told_ok (bigint_Int_Sub.does k), trivial⟩⟩⟩⟩⟩) (fun _ _ h => by rw [h rfl]; rfl) k
/-! vinculumlaw05_awake: function 9 -/
def vinculumlaw05_awake.A : AK := .nil
def vinculumlaw05_awake.Q : RK := .p (.bool) .nil
def vinculumlaw05_awake.h : Bool → vinculumlaw05_awake.Q.T × List Int := fun b => ((b, ()), [])
noncomputable def vinculumlaw05_awake.D : Decl Bool := ⟨(Go.Proofs.Try.f9.body).getD .skip, 71, [.tmp 0], vinculumlaw05_awake.A, vinculumlaw05_awake.Q, fun y m => y.1, T0, [], [], []⟩
noncomputable def vinculumlaw05_awake.S (k : Nat) : List (Nat × E.Spec Bool) := [(10, told _ crt_Lift.A crt_Lift.Q (crt_Lift.g k) crt_Lift.h), (17, told _ bigint_Int_Print.A bigint_Int_Print.Q (bigint_Int_Print.g k) bigint_Int_Print.h), (20, told _ crt_Near.A crt_Near.Q (crt_Near.g k) crt_Near.h), (36, told _ bigint_Of.A bigint_Of.Q (bigint_Of.g k) bigint_Of.h)]
noncomputable def vinculumlaw05_awake.f0 (k : Nat) : Option Bool := vinculumlaw05_awake.D.val vinculumlaw05_awake.S k (())
noncomputable def vinculumlaw05_awake.f := (still vinculumlaw05_awake.f0).1
theorem vinculumlaw05_awake.f_def : vinculumlaw05_awake.f = vinculumlaw05_awake.f0 := (still vinculumlaw05_awake.f0).2
noncomputable def vinculumlaw05_awake.g (k : Nat) (x : vinculumlaw05_awake.A.T) : Option Bool := vinculumlaw05_awake.f k
theorem vinculumlaw05_awake.does (k : Nat) : Does PG 9 vinculumlaw05_awake.A vinculumlaw05_awake.Q (vinculumlaw05_awake.g k) vinculumlaw05_awake.h := (show vinculumlaw05_awake.g k = vinculumlaw05_awake.D.val vinculumlaw05_awake.S k from funext fun _ => by unfold vinculumlaw05_awake.g; rw [vinculumlaw05_awake.f_def]; rfl) ▸ Decl.does (D := vinculumlaw05_awake.D) (S := vinculumlaw05_awake.S) (fn := Go.Proofs.Try.f9) ⟨by kernel_rfl, by kernel_rfl, by kernel_rfl, by kernel_rfl, by kernel_rfl, by kernel_rfl, TT.of_ok _ T0ex, by kernel_rfl⟩ (fun k => ⟨told_ok (crt_Lift.does k), ⟨told_ok (bigint_Int_Print.does k), ⟨told_ok (crt_Near.does k), ⟨told_ok (bigint_Of.does k), trivial⟩⟩⟩⟩) (fun _ _ h => by rw [h rfl]; rfl) k
/-! vinculumref03_May: function 26 -/
def vinculumref03_May.A : AK := .p (.int .u64) .nil
def vinculumref03_May.Q : RK := .p (.bool) .nil
def vinculumref03_May.h : Bool → vinculumref03_May.Q.T × List Int := fun b => ((b, ()), [])
noncomputable def vinculumref03_May.D : Decl Bool := ⟨(Go.Proofs.Try.f26.body).getD .skip, 9, [.tmp 2], vinculumref03_May.A, vinculumref03_May.Q, fun y m => y.1, T0, [], [], []⟩
noncomputable def vinculumref03_May.S (k : Nat) : List (Nat × E.Spec Bool) := []
noncomputable def vinculumref03_May.f0 (k : Nat) (a0 : Int) : Option Bool := vinculumref03_May.D.val vinculumref03_May.S k (a0, ())
noncomputable def vinculumref03_May.f := (still vinculumref03_May.f0).1
theorem vinculumref03_May.f_def : vinculumref03_May.f = vinculumref03_May.f0 := (still vinculumref03_May.f0).2
noncomputable def vinculumref03_May.g (k : Nat) (x : vinculumref03_May.A.T) : Option Bool := vinculumref03_May.f k (x.1)
theorem vinculumref03_May.does (k : Nat) : Does PG 26 vinculumref03_May.A vinculumref03_May.Q (vinculumref03_May.g k) vinculumref03_May.h := (show vinculumref03_May.g k = vinculumref03_May.D.val vinculumref03_May.S k from funext fun _ => by unfold vinculumref03_May.g; rw [vinculumref03_May.f_def]; rfl) ▸ Decl.does (D := vinculumref03_May.D) (S := vinculumref03_May.S) (fn := Go.Proofs.Try.f26) ⟨by kernel_rfl, by kernel_rfl, by kernel_rfl, by kernel_rfl, by kernel_rfl, by kernel_rfl, TT.of_ok _ T0ex, by kernel_rfl⟩ (fun k => trivial) (fun _ _ h => by rw [h rfl]; rfl) k
/-! vinculumref03_Gcd: function 27 -/
def vinculumref03_Gcd.A : AK := .p (.int .u64) (.p (.int .u64) .nil)
def vinculumref03_Gcd.Q : RK := .p (.int .u64) .nil
def vinculumref03_Gcd.h : Int → vinculumref03_Gcd.Q.T × List Int := fun b => ((b, ()), [])
noncomputable def vinculumref03_Gcd.D : Decl Int := ⟨(Go.Proofs.Try.f27.body).getD .skip, 14, [.tmp 4], vinculumref03_Gcd.A, vinculumref03_Gcd.Q, fun y m => y.1, T0, [], [(1, [(0, .p (some (.int .u64))), (1, .p (some (.int .u64)))])], []⟩
noncomputable def vinculumref03_Gcd.S (k : Nat) : List (Nat × E.Spec Int) := []
noncomputable def vinculumref03_Gcd.l1 (k : Nat) (x0 : Int) (x1 : Int) : Option Int := vinculumref03_Gcd.D.F vinculumref03_Gcd.S k 3 [.p (.lit (.int .u64 x0)), .p (.lit (.int .u64 x1))]
noncomputable def vinculumref03_Gcd.f0 (k : Nat) (a0 : Int) (a1 : Int) : Option Int := vinculumref03_Gcd.D.val vinculumref03_Gcd.S k (a0, a1, ())
noncomputable def vinculumref03_Gcd.f := (still vinculumref03_Gcd.f0).1
theorem vinculumref03_Gcd.f_def : vinculumref03_Gcd.f = vinculumref03_Gcd.f0 := (still vinculumref03_Gcd.f0).2
noncomputable def vinculumref03_Gcd.g (k : Nat) (x : vinculumref03_Gcd.A.T) : Option Int := vinculumref03_Gcd.f k (x.1) (x.2.1)
theorem vinculumref03_Gcd.does (k : Nat) : Does PG 27 vinculumref03_Gcd.A vinculumref03_Gcd.Q (vinculumref03_Gcd.g k) vinculumref03_Gcd.h := (show vinculumref03_Gcd.g k = vinculumref03_Gcd.D.val vinculumref03_Gcd.S k from funext fun _ => by unfold vinculumref03_Gcd.g; rw [vinculumref03_Gcd.f_def]; rfl) ▸ Decl.does (D := vinculumref03_Gcd.D) (S := vinculumref03_Gcd.S) (fn := Go.Proofs.Try.f27) ⟨by kernel_rfl, by kernel_rfl, by kernel_rfl, by kernel_rfl, by kernel_rfl, by kernel_rfl, TT.of_ok _ T0ex, by kernel_rfl⟩ (fun k => trivial) (fun _ _ h => by rw [h rfl]; rfl) k
/-! vinculumref05_Wrong: function 11 -/
def vinculumref05_Wrong.A : AK := .p (.int .i64) (.p (.row .u64) .nil)
def vinculumref05_Wrong.Q : RK := .p (.int .i64) .nil
def vinculumref05_Wrong.h : Int → vinculumref05_Wrong.Q.T × List Int := fun b => ((b, ()), [])
noncomputable def vinculumref05_Wrong.D : Decl Int := ⟨(Go.Proofs.Try.f11.body).getD .skip, 48, [.tmp 4], vinculumref05_Wrong.A, vinculumref05_Wrong.Q, fun y m => y.1, T0, [], [(14, [(1, .p (some (.row .u64))), (6, .p (some (.int .i64))), (7, .p (some (.int .i64)))]), (11, [(1, .p (some (.row .u64))), (6, .p (some (.int .i64)))]), (4, [(1, .p (some (.row .u64))), (5, .p (some (.int .i64)))])], []⟩
noncomputable def vinculumref05_Wrong.S (k : Nat) : List (Nat × E.Spec Int) := [(26, told _ vinculumref03_May.A vinculumref03_May.Q (vinculumref03_May.g k) vinculumref03_May.h), (27, told _ vinculumref03_Gcd.A vinculumref03_Gcd.Q (vinculumref03_Gcd.g k) vinculumref03_Gcd.h)]
noncomputable def vinculumref05_Wrong.l14 (k : Nat) (x1 : List Int) (x6 : Int) (x7 : Int) : Option Int := vinculumref05_Wrong.D.F vinculumref05_Wrong.S k 29 [.p (.row .u64 x1), .p (.lit (.int .i64 x6)), .p (.lit (.int .i64 x7))]
noncomputable def vinculumref05_Wrong.l11 (k : Nat) (x1 : List Int) (x6 : Int) : Option Int := vinculumref05_Wrong.D.F vinculumref05_Wrong.S k 23 [.p (.row .u64 x1), .p (.lit (.int .i64 x6))]
noncomputable def vinculumref05_Wrong.l4 (k : Nat) (x1 : List Int) (x5 : Int) : Option Int := vinculumref05_Wrong.D.F vinculumref05_Wrong.S k 9 [.p (.row .u64 x1), .p (.lit (.int .i64 x5))]
noncomputable def vinculumref05_Wrong.f0 (k : Nat) (a0 : Int) (a1 : List Int) : Option Int := vinculumref05_Wrong.D.val vinculumref05_Wrong.S k (a0, a1, ())
noncomputable def vinculumref05_Wrong.f := (still vinculumref05_Wrong.f0).1
theorem vinculumref05_Wrong.f_def : vinculumref05_Wrong.f = vinculumref05_Wrong.f0 := (still vinculumref05_Wrong.f0).2
noncomputable def vinculumref05_Wrong.g (k : Nat) (x : vinculumref05_Wrong.A.T) : Option Int := vinculumref05_Wrong.f k (x.1) (x.2.1)
theorem vinculumref05_Wrong.does (k : Nat) : Does PG 11 vinculumref05_Wrong.A vinculumref05_Wrong.Q (vinculumref05_Wrong.g k) vinculumref05_Wrong.h := (show vinculumref05_Wrong.g k = vinculumref05_Wrong.D.val vinculumref05_Wrong.S k from funext fun _ => by unfold vinculumref05_Wrong.g; rw [vinculumref05_Wrong.f_def]; rfl) ▸ Decl.does (D := vinculumref05_Wrong.D) (S := vinculumref05_Wrong.S) (fn := Go.Proofs.Try.f11) ⟨by kernel_rfl, by kernel_rfl, by kernel_rfl, by kernel_rfl, by kernel_rfl, by kernel_rfl, TT.of_ok _ T0ex, by kernel_rfl⟩ (fun k => ⟨told_ok (vinculumref03_May.does k), ⟨told_ok (vinculumref03_Gcd.does k), trivial⟩⟩) (fun _ _ h => by rw [h rfl]; rfl) k
/-! vinculumref02_made: function 43 -/
def vinculumref02_made.A : AK := .p (.bool) (.p (.str) .nil)
def vinculumref02_made.Q : RK := .p (.agg (.cons (.bool) (.cons (.str) .nil))) .nil
def vinculumref02_made.h : (Bool × ByteArray) → vinculumref02_made.Q.T × List Int := fun b => (((b.1, b.2, ()), ()), [])
noncomputable def vinculumref02_made.D : Decl (Bool × ByteArray) := ⟨(Go.Proofs.Try.f43.body).getD .skip, 12, [.cell 4 33], vinculumref02_made.A, vinculumref02_made.Q, fun y m => (y.1.1, y.1.2.1), T0, [], [], []⟩
noncomputable def vinculumref02_made.S (k : Nat) : List (Nat × E.Spec (Bool × ByteArray)) := []
noncomputable def vinculumref02_made.f0 (k : Nat) (a0 : Bool) (a1 : ByteArray) : Option (Bool × ByteArray) := vinculumref02_made.D.val vinculumref02_made.S k (a0, a1, ())
noncomputable def vinculumref02_made.f := (still vinculumref02_made.f0).1
theorem vinculumref02_made.f_def : vinculumref02_made.f = vinculumref02_made.f0 := (still vinculumref02_made.f0).2
noncomputable def vinculumref02_made.g (k : Nat) (x : vinculumref02_made.A.T) : Option (Bool × ByteArray) := vinculumref02_made.f k (x.1) (x.2.1)
theorem vinculumref02_made.does (k : Nat) : Does PG 43 vinculumref02_made.A vinculumref02_made.Q (vinculumref02_made.g k) vinculumref02_made.h := (show vinculumref02_made.g k = vinculumref02_made.D.val vinculumref02_made.S k from funext fun _ => by unfold vinculumref02_made.g; rw [vinculumref02_made.f_def]; rfl) ▸ Decl.does (D := vinculumref02_made.D) (S := vinculumref02_made.S) (fn := Go.Proofs.Try.f43) ⟨by kernel_rfl, by kernel_rfl, by kernel_rfl, by kernel_rfl, by kernel_rfl, by kernel_rfl, TT.of_ok _ T0ex, by kernel_rfl⟩ (fun k => trivial) (fun _ _ h => by rw [h rfl]; rfl) k
/-! vinculumref01_strip: function 68 -/
def vinculumref01_strip.A : AK := .p (.str) .nil
def vinculumref01_strip.Q : RK := .p (.str) .nil
def vinculumref01_strip.h : ByteArray → vinculumref01_strip.Q.T × List Int := fun b => ((b, ()), [])
noncomputable def vinculumref01_strip.D : Decl ByteArray := ⟨(Go.Proofs.Try.f68.body).getD .skip, 16, [.tmp 2], vinculumref01_strip.A, vinculumref01_strip.Q, fun y m => y.1, T0, [], [(1, [(0, .p (some (.str)))])], []⟩
noncomputable def vinculumref01_strip.S (k : Nat) : List (Nat × E.Spec ByteArray) := []
noncomputable def vinculumref01_strip.l1 (k : Nat) (x0 : ByteArray) : Option ByteArray := vinculumref01_strip.D.F vinculumref01_strip.S k 3 [.p (.lit (.string x0))]
noncomputable def vinculumref01_strip.f0 (k : Nat) (a0 : ByteArray) : Option ByteArray := vinculumref01_strip.D.val vinculumref01_strip.S k (a0, ())
noncomputable def vinculumref01_strip.f := (still vinculumref01_strip.f0).1
theorem vinculumref01_strip.f_def : vinculumref01_strip.f = vinculumref01_strip.f0 := (still vinculumref01_strip.f0).2
noncomputable def vinculumref01_strip.g (k : Nat) (x : vinculumref01_strip.A.T) : Option ByteArray := vinculumref01_strip.f k (x.1)
theorem vinculumref01_strip.does (k : Nat) : Does PG 68 vinculumref01_strip.A vinculumref01_strip.Q (vinculumref01_strip.g k) vinculumref01_strip.h := (show vinculumref01_strip.g k = vinculumref01_strip.D.val vinculumref01_strip.S k from funext fun _ => by unfold vinculumref01_strip.g; rw [vinculumref01_strip.f_def]; rfl) ▸ Decl.does (D := vinculumref01_strip.D) (S := vinculumref01_strip.S) (fn := Go.Proofs.Try.f68) ⟨by kernel_rfl, by kernel_rfl, by kernel_rfl, by kernel_rfl, by kernel_rfl, by kernel_rfl, TT.of_ok _ T0ex, by kernel_rfl⟩ (fun k => trivial) (fun _ _ h => by rw [h rfl]; rfl) k
/-! vinculumref01_turned: function 69 -/
def vinculumref01_turned.A : AK := .p (.row .u8) .nil
def vinculumref01_turned.Q : RK := .p (.str) .nil
def vinculumref01_turned.h : ByteArray → vinculumref01_turned.Q.T × List Int := fun b => ((b, ()), [])
noncomputable def vinculumref01_turned.D : Decl ByteArray := ⟨(Go.Proofs.Try.f69.body).getD .skip, 21, [.tmp 2], vinculumref01_turned.A, vinculumref01_turned.Q, fun y m => y.1, T0, [], [(3, [(0, .p (some (.row .u8))), (3, .m .u8 5), (4, .p (some (.int .i64)))])], []⟩
noncomputable def vinculumref01_turned.S (k : Nat) : List (Nat × E.Spec ByteArray) := []
noncomputable def vinculumref01_turned.l3 (k : Nat) (x0 : List Int) (x3 : List Int) (x4 : Int) : Option ByteArray := vinculumref01_turned.D.F vinculumref01_turned.S k 7 [.p (.row .u8 x0), .m x3, .p (.lit (.int .i64 x4))]
noncomputable def vinculumref01_turned.f0 (k : Nat) (a0 : List Int) : Option ByteArray := vinculumref01_turned.D.val vinculumref01_turned.S k (a0, ())
noncomputable def vinculumref01_turned.f := (still vinculumref01_turned.f0).1
theorem vinculumref01_turned.f_def : vinculumref01_turned.f = vinculumref01_turned.f0 := (still vinculumref01_turned.f0).2
noncomputable def vinculumref01_turned.g (k : Nat) (x : vinculumref01_turned.A.T) : Option ByteArray := vinculumref01_turned.f k (x.1)
theorem vinculumref01_turned.does (k : Nat) : Does PG 69 vinculumref01_turned.A vinculumref01_turned.Q (vinculumref01_turned.g k) vinculumref01_turned.h := (show vinculumref01_turned.g k = vinculumref01_turned.D.val vinculumref01_turned.S k from funext fun _ => by unfold vinculumref01_turned.g; rw [vinculumref01_turned.f_def]; rfl) ▸ Decl.does (D := vinculumref01_turned.D) (S := vinculumref01_turned.S) (fn := Go.Proofs.Try.f69) ⟨by kernel_rfl, by kernel_rfl, by kernel_rfl, by kernel_rfl, by kernel_rfl, by kernel_rfl, TT.of_ok _ T0ex, by kernel_rfl⟩ (fun k => trivial) (fun _ _ h => by rw [h rfl]; rfl) k
/-! vinculumref01_digit: function 89 -/
def vinculumref01_digit.A : AK := .p (.str) (.p (.int .i64) .nil)
def vinculumref01_digit.Q : RK := .p (.int .i64) .nil
def vinculumref01_digit.h : Int → vinculumref01_digit.Q.T × List Int := fun b => ((b, ()), [])
noncomputable def vinculumref01_digit.D : Decl Int := ⟨(Go.Proofs.Try.f89.body).getD .skip, 18, [.tmp 4], vinculumref01_digit.A, vinculumref01_digit.Q, fun y m => y.1, T0, [], [], []⟩
noncomputable def vinculumref01_digit.S (k : Nat) : List (Nat × E.Spec Int) := []
noncomputable def vinculumref01_digit.f0 (k : Nat) (a0 : ByteArray) (a1 : Int) : Option Int := vinculumref01_digit.D.val vinculumref01_digit.S k (a0, a1, ())
noncomputable def vinculumref01_digit.f := (still vinculumref01_digit.f0).1
theorem vinculumref01_digit.f_def : vinculumref01_digit.f = vinculumref01_digit.f0 := (still vinculumref01_digit.f0).2
noncomputable def vinculumref01_digit.g (k : Nat) (x : vinculumref01_digit.A.T) : Option Int := vinculumref01_digit.f k (x.1) (x.2.1)
theorem vinculumref01_digit.does (k : Nat) : Does PG 89 vinculumref01_digit.A vinculumref01_digit.Q (vinculumref01_digit.g k) vinculumref01_digit.h := (show vinculumref01_digit.g k = vinculumref01_digit.D.val vinculumref01_digit.S k from funext fun _ => by unfold vinculumref01_digit.g; rw [vinculumref01_digit.f_def]; rfl) ▸ Decl.does (D := vinculumref01_digit.D) (S := vinculumref01_digit.S) (fn := Go.Proofs.Try.f89) ⟨by kernel_rfl, by kernel_rfl, by kernel_rfl, by kernel_rfl, by kernel_rfl, by kernel_rfl, TT.of_ok _ T0ex, by kernel_rfl⟩ (fun k => trivial) (fun _ _ h => by rw [h rfl]; rfl) k
/-! vinculumref01_Mul: function 67 -/
def vinculumref01_Mul.A : AK := .p (.str) (.p (.str) .nil)
def vinculumref01_Mul.Q : RK := .p (.str) .nil
def vinculumref01_Mul.h : ByteArray → vinculumref01_Mul.Q.T × List Int := fun b => ((b, ()), [])
noncomputable def vinculumref01_Mul.D : Decl ByteArray := ⟨(Go.Proofs.Try.f67.body).getD .skip, 74, [.tmp 4], vinculumref01_Mul.A, vinculumref01_Mul.Q, fun y m => y.1, T0, [], [(12, [(5, .m .i64 3), (8, .m .u8 5), (9, .p (some (.int .i64))), (10, .p (some (.int .i64)))]), (6, [(0, .p (some (.str))), (1, .p (some (.str))), (5, .m .i64 3), (6, .p (some (.int .i64))), (7, .p (some (.int .i64)))]), (3, [(0, .p (some (.str))), (1, .p (some (.str))), (5, .m .i64 3), (6, .p (some (.int .i64)))])], []⟩
noncomputable def vinculumref01_Mul.S (k : Nat) : List (Nat × E.Spec ByteArray) := [(68, told _ vinculumref01_strip.A vinculumref01_strip.Q (vinculumref01_strip.g k) vinculumref01_strip.h), (69, told _ vinculumref01_turned.A vinculumref01_turned.Q (vinculumref01_turned.g k) vinculumref01_turned.h), (89, told _ vinculumref01_digit.A vinculumref01_digit.Q (vinculumref01_digit.g k) vinculumref01_digit.h)]
noncomputable def vinculumref01_Mul.l12 (k : Nat) (x5 : List Int) (x8 : List Int) (x9 : Int) (x10 : Int) : Option ByteArray := vinculumref01_Mul.D.F vinculumref01_Mul.S k 25 [.m x5, .m x8, .p (.lit (.int .i64 x9)), .p (.lit (.int .i64 x10))]
noncomputable def vinculumref01_Mul.l6 (k : Nat) (x0 : ByteArray) (x1 : ByteArray) (x5 : List Int) (x6 : Int) (x7 : Int) : Option ByteArray := vinculumref01_Mul.D.F vinculumref01_Mul.S k 13 [.p (.lit (.string x0)), .p (.lit (.string x1)), .m x5, .p (.lit (.int .i64 x6)), .p (.lit (.int .i64 x7))]
noncomputable def vinculumref01_Mul.l3 (k : Nat) (x0 : ByteArray) (x1 : ByteArray) (x5 : List Int) (x6 : Int) : Option ByteArray := vinculumref01_Mul.D.F vinculumref01_Mul.S k 7 [.p (.lit (.string x0)), .p (.lit (.string x1)), .m x5, .p (.lit (.int .i64 x6))]
noncomputable def vinculumref01_Mul.f0 (k : Nat) (a0 : ByteArray) (a1 : ByteArray) : Option ByteArray := vinculumref01_Mul.D.val vinculumref01_Mul.S k (a0, a1, ())
noncomputable def vinculumref01_Mul.f := (still vinculumref01_Mul.f0).1
theorem vinculumref01_Mul.f_def : vinculumref01_Mul.f = vinculumref01_Mul.f0 := (still vinculumref01_Mul.f0).2
noncomputable def vinculumref01_Mul.g (k : Nat) (x : vinculumref01_Mul.A.T) : Option ByteArray := vinculumref01_Mul.f k (x.1) (x.2.1)
theorem vinculumref01_Mul.does (k : Nat) : Does PG 67 vinculumref01_Mul.A vinculumref01_Mul.Q (vinculumref01_Mul.g k) vinculumref01_Mul.h := (show vinculumref01_Mul.g k = vinculumref01_Mul.D.val vinculumref01_Mul.S k from funext fun _ => by unfold vinculumref01_Mul.g; rw [vinculumref01_Mul.f_def]; rfl) ▸ Decl.does (D := vinculumref01_Mul.D) (S := vinculumref01_Mul.S) (fn := Go.Proofs.Try.f67) ⟨by kernel_rfl, by kernel_rfl, by kernel_rfl, by kernel_rfl, by kernel_rfl, by kernel_rfl, TT.of_ok _ T0ex, by kernel_rfl⟩ (fun k => ⟨told_ok (vinculumref01_strip.does k), ⟨told_ok (vinculumref01_turned.does k), ⟨told_ok (vinculumref01_digit.does k), trivial⟩⟩⟩) (fun _ _ h => by rw [h rfl]; rfl) k
/-! vinculumref02_Mul: function 38 -/
def vinculumref02_Mul.A : AK := .p (.agg (.cons (.bool) (.cons (.str) .nil))) (.p (.agg (.cons (.bool) (.cons (.str) .nil))) .nil)
def vinculumref02_Mul.Q : RK := .p (.agg (.cons (.bool) (.cons (.str) .nil))) .nil
def vinculumref02_Mul.h : (Bool × ByteArray) → vinculumref02_Mul.Q.T × List Int := fun b => (((b.1, b.2, ()), ()), [])
noncomputable def vinculumref02_Mul.D : Decl (Bool × ByteArray) := ⟨(Go.Proofs.Try.f38.body).getD .skip, 16, [.cell 4 33], vinculumref02_Mul.A, vinculumref02_Mul.Q, fun y m => (y.1.1, y.1.2.1), T0, [], [], []⟩
noncomputable def vinculumref02_Mul.S (k : Nat) : List (Nat × E.Spec (Bool × ByteArray)) := [(43, told _ vinculumref02_made.A vinculumref02_made.Q (vinculumref02_made.g k) vinculumref02_made.h), (67, told _ vinculumref01_Mul.A vinculumref01_Mul.Q (vinculumref01_Mul.g k) vinculumref01_Mul.h)]
noncomputable def vinculumref02_Mul.f0 (k : Nat) (a0_0 : Bool) (a0_1 : ByteArray) (a1_0 : Bool) (a1_1 : ByteArray) : Option (Bool × ByteArray) := vinculumref02_Mul.D.val vinculumref02_Mul.S k ((a0_0, a0_1, ()), (a1_0, a1_1, ()), ())
noncomputable def vinculumref02_Mul.f := (still vinculumref02_Mul.f0).1
theorem vinculumref02_Mul.f_def : vinculumref02_Mul.f = vinculumref02_Mul.f0 := (still vinculumref02_Mul.f0).2
noncomputable def vinculumref02_Mul.g (k : Nat) (x : vinculumref02_Mul.A.T) : Option (Bool × ByteArray) := vinculumref02_Mul.f k (x.1.1) (x.1.2.1) (x.2.1.1) (x.2.1.2.1)
theorem vinculumref02_Mul.does (k : Nat) : Does PG 38 vinculumref02_Mul.A vinculumref02_Mul.Q (vinculumref02_Mul.g k) vinculumref02_Mul.h := (show vinculumref02_Mul.g k = vinculumref02_Mul.D.val vinculumref02_Mul.S k from funext fun _ => by unfold vinculumref02_Mul.g; rw [vinculumref02_Mul.f_def]; rfl) ▸ Decl.does (D := vinculumref02_Mul.D) (S := vinculumref02_Mul.S) (fn := Go.Proofs.Try.f38) ⟨by kernel_rfl, by kernel_rfl, by kernel_rfl, by kernel_rfl, by kernel_rfl, by kernel_rfl, TT.of_ok _ T0ex, by kernel_rfl⟩ (fun k => ⟨told_ok (vinculumref02_made.does k), ⟨told_ok (vinculumref01_Mul.does k), trivial⟩⟩) (fun _ _ h => by rw [h rfl]; rfl) k
/-! vinculumref01_Word: function 39 -/
def vinculumref01_Word.A : AK := .p (.int .u64) .nil
def vinculumref01_Word.Q : RK := .p (.str) .nil
def vinculumref01_Word.h : ByteArray → vinculumref01_Word.Q.T × List Int := fun b => ((b, ()), [])
noncomputable def vinculumref01_Word.D : Decl ByteArray := ⟨(Go.Proofs.Try.f39.body).getD .skip, 18, [.tmp 2], vinculumref01_Word.A, vinculumref01_Word.Q, fun y m => y.1, T0, [], [(2, [(0, .p (some (.int .u64))), (3, .m .u8 5)])], []⟩
noncomputable def vinculumref01_Word.S (k : Nat) : List (Nat × E.Spec ByteArray) := [(68, told _ vinculumref01_strip.A vinculumref01_strip.Q (vinculumref01_strip.g k) vinculumref01_strip.h), (69, told _ vinculumref01_turned.A vinculumref01_turned.Q (vinculumref01_turned.g k) vinculumref01_turned.h)]
noncomputable def vinculumref01_Word.l2 (k : Nat) (x0 : Int) (x3 : List Int) : Option ByteArray := vinculumref01_Word.D.F vinculumref01_Word.S k 5 [.p (.lit (.int .u64 x0)), .m x3]
noncomputable def vinculumref01_Word.f0 (k : Nat) (a0 : Int) : Option ByteArray := vinculumref01_Word.D.val vinculumref01_Word.S k (a0, ())
noncomputable def vinculumref01_Word.f := (still vinculumref01_Word.f0).1
theorem vinculumref01_Word.f_def : vinculumref01_Word.f = vinculumref01_Word.f0 := (still vinculumref01_Word.f0).2
noncomputable def vinculumref01_Word.g (k : Nat) (x : vinculumref01_Word.A.T) : Option ByteArray := vinculumref01_Word.f k (x.1)
theorem vinculumref01_Word.does (k : Nat) : Does PG 39 vinculumref01_Word.A vinculumref01_Word.Q (vinculumref01_Word.g k) vinculumref01_Word.h := (show vinculumref01_Word.g k = vinculumref01_Word.D.val vinculumref01_Word.S k from funext fun _ => by unfold vinculumref01_Word.g; rw [vinculumref01_Word.f_def]; rfl) ▸ Decl.does (D := vinculumref01_Word.D) (S := vinculumref01_Word.S) (fn := Go.Proofs.Try.f39) ⟨by kernel_rfl, by kernel_rfl, by kernel_rfl, by kernel_rfl, by kernel_rfl, by kernel_rfl, TT.of_ok _ T0ex, by kernel_rfl⟩ (fun k => ⟨told_ok (vinculumref01_strip.does k), ⟨told_ok (vinculumref01_turned.does k), trivial⟩⟩) (fun _ _ h => by rw [h rfl]; rfl) k
/-! vinculumref05_All: function 13 -/
def vinculumref05_All.A : AK := .p (.row .u64) .nil
def vinculumref05_All.Q : RK := .p (.agg (.cons (.bool) (.cons (.str) .nil))) .nil
def vinculumref05_All.h : (Bool × ByteArray) → vinculumref05_All.Q.T × List Int := fun b => (((b.1, b.2, ()), ()), [])
noncomputable def vinculumref05_All.D : Decl (Bool × ByteArray) := ⟨(Go.Proofs.Try.f13.body).getD .skip, 21, [.cell 2 33], vinculumref05_All.A, vinculumref05_All.Q, fun y m => (y.1.1, y.1.2.1), T0, [], [(3, [(0, .p (some (.row .u64))), (2, .b (some (.cons (.bool) (.cons (.str) .nil)))), (3, .b (some (.cons (.bool) (.cons (.str) .nil)))), (4, .p (some (.int .i64)))])], []⟩
noncomputable def vinculumref05_All.S (k : Nat) : List (Nat × E.Spec (Bool × ByteArray)) := [(38, told _ vinculumref02_Mul.A vinculumref02_Mul.Q (vinculumref02_Mul.g k) vinculumref02_Mul.h), (39, told _ vinculumref01_Word.A vinculumref01_Word.Q (vinculumref01_Word.g k) vinculumref01_Word.h)]
noncomputable def vinculumref05_All.l3 (k : Nat) (x0 : List Int) (x2_0 : Bool) (x2_1 : ByteArray) (x3_0 : Bool) (x3_1 : ByteArray) (x4 : Int) : Option (Bool × ByteArray) := vinculumref05_All.D.F vinculumref05_All.S k 7 [.p (.row .u64 x0), .b 33 [.lit (.bool x2_0), .lit (.string x2_1)], .b 33 [.lit (.bool x3_0), .lit (.string x3_1)], .p (.lit (.int .i64 x4))]
noncomputable def vinculumref05_All.f0 (k : Nat) (a0 : List Int) : Option (Bool × ByteArray) := vinculumref05_All.D.val vinculumref05_All.S k (a0, ())
noncomputable def vinculumref05_All.f := (still vinculumref05_All.f0).1
theorem vinculumref05_All.f_def : vinculumref05_All.f = vinculumref05_All.f0 := (still vinculumref05_All.f0).2
noncomputable def vinculumref05_All.g (k : Nat) (x : vinculumref05_All.A.T) : Option (Bool × ByteArray) := vinculumref05_All.f k (x.1)
theorem vinculumref05_All.does (k : Nat) : Does PG 13 vinculumref05_All.A vinculumref05_All.Q (vinculumref05_All.g k) vinculumref05_All.h := (show vinculumref05_All.g k = vinculumref05_All.D.val vinculumref05_All.S k from funext fun _ => by unfold vinculumref05_All.g; rw [vinculumref05_All.f_def]; rfl) ▸ Decl.does (D := vinculumref05_All.D) (S := vinculumref05_All.S) (fn := Go.Proofs.Try.f13) ⟨by kernel_rfl, by kernel_rfl, by kernel_rfl, by kernel_rfl, by kernel_rfl, by kernel_rfl, TT.of_ok _ T0ex, by kernel_rfl⟩ (fun k => ⟨told_ok (vinculumref02_Mul.does k), ⟨told_ok (vinculumref01_Word.does k), trivial⟩⟩) (fun _ _ h => by rw [h rfl]; rfl) k
/-! vinculumref02_Print: function 40 -/
def vinculumref02_Print.A : AK := .p (.agg (.cons (.bool) (.cons (.str) .nil))) .nil
def vinculumref02_Print.Q : RK := .p (.str) .nil
def vinculumref02_Print.h : ByteArray → vinculumref02_Print.Q.T × List Int := fun b => ((b, ()), [])
noncomputable def vinculumref02_Print.D : Decl ByteArray := ⟨(Go.Proofs.Try.f40.body).getD .skip, 10, [.tmp 2], vinculumref02_Print.A, vinculumref02_Print.Q, fun y m => y.1, T0, [], [], []⟩
noncomputable def vinculumref02_Print.S (k : Nat) : List (Nat × E.Spec ByteArray) := []
noncomputable def vinculumref02_Print.f0 (k : Nat) (a0_0 : Bool) (a0_1 : ByteArray) : Option ByteArray := vinculumref02_Print.D.val vinculumref02_Print.S k ((a0_0, a0_1, ()), ())
noncomputable def vinculumref02_Print.f := (still vinculumref02_Print.f0).1
theorem vinculumref02_Print.f_def : vinculumref02_Print.f = vinculumref02_Print.f0 := (still vinculumref02_Print.f0).2
noncomputable def vinculumref02_Print.g (k : Nat) (x : vinculumref02_Print.A.T) : Option ByteArray := vinculumref02_Print.f k (x.1.1) (x.1.2.1)
theorem vinculumref02_Print.does (k : Nat) : Does PG 40 vinculumref02_Print.A vinculumref02_Print.Q (vinculumref02_Print.g k) vinculumref02_Print.h := (show vinculumref02_Print.g k = vinculumref02_Print.D.val vinculumref02_Print.S k from funext fun _ => by unfold vinculumref02_Print.g; rw [vinculumref02_Print.f_def]; rfl) ▸ Decl.does (D := vinculumref02_Print.D) (S := vinculumref02_Print.S) (fn := Go.Proofs.Try.f40) ⟨by kernel_rfl, by kernel_rfl, by kernel_rfl, by kernel_rfl, by kernel_rfl, by kernel_rfl, TT.of_ok _ T0ex, by kernel_rfl⟩ (fun k => trivial) (fun _ _ h => by rw [h rfl]; rfl) k
/-! vinculumlaw02_Is: function 14 -/
def vinculumlaw02_Is.A : AK := .p (.agg (.cons (.bool) (.cons (.row .u64) .nil))) (.p (.agg (.cons (.bool) (.cons (.str) .nil))) .nil)
def vinculumlaw02_Is.Q : RK := .p (.bool) .nil
def vinculumlaw02_Is.h : Bool → vinculumlaw02_Is.Q.T × List Int := fun b => ((b, ()), [])
noncomputable def vinculumlaw02_Is.D : Decl Bool := ⟨(Go.Proofs.Try.f14.body).getD .skip, 10, [.tmp 4], vinculumlaw02_Is.A, vinculumlaw02_Is.Q, fun y m => y.1, T0, [], [], []⟩
noncomputable def vinculumlaw02_Is.S (k : Nat) : List (Nat × E.Spec Bool) := [(17, told _ bigint_Int_Print.A bigint_Int_Print.Q (bigint_Int_Print.g k) bigint_Int_Print.h), (40, told _ vinculumref02_Print.A vinculumref02_Print.Q (vinculumref02_Print.g k) vinculumref02_Print.h)]
noncomputable def vinculumlaw02_Is.f0 (k : Nat) (a0_0 : Bool) (a0_1 : List Int) (a1_0 : Bool) (a1_1 : ByteArray) : Option Bool := vinculumlaw02_Is.D.val vinculumlaw02_Is.S k ((a0_0, a0_1, ()), (a1_0, a1_1, ()), ())
noncomputable def vinculumlaw02_Is.f := (still vinculumlaw02_Is.f0).1
theorem vinculumlaw02_Is.f_def : vinculumlaw02_Is.f = vinculumlaw02_Is.f0 := (still vinculumlaw02_Is.f0).2
noncomputable def vinculumlaw02_Is.g (k : Nat) (x : vinculumlaw02_Is.A.T) : Option Bool := vinculumlaw02_Is.f k (x.1.1) (x.1.2.1) (x.2.1.1) (x.2.1.2.1)
theorem vinculumlaw02_Is.does (k : Nat) : Does PG 14 vinculumlaw02_Is.A vinculumlaw02_Is.Q (vinculumlaw02_Is.g k) vinculumlaw02_Is.h := (show vinculumlaw02_Is.g k = vinculumlaw02_Is.D.val vinculumlaw02_Is.S k from funext fun _ => by unfold vinculumlaw02_Is.g; rw [vinculumlaw02_Is.f_def]; rfl) ▸ Decl.does (D := vinculumlaw02_Is.D) (S := vinculumlaw02_Is.S) (fn := Go.Proofs.Try.f14) ⟨by kernel_rfl, by kernel_rfl, by kernel_rfl, by kernel_rfl, by kernel_rfl, by kernel_rfl, TT.of_ok _ T0ex, by kernel_rfl⟩ (fun k => ⟨told_ok (bigint_Int_Print.does k), ⟨told_ok (vinculumref02_Print.does k), trivial⟩⟩) (fun _ _ h => by rw [h rfl]; rfl) k
/-! vinculumref01_Parse: function 42 -/
def vinculumref01_Parse.A : AK := .p (.str) .nil
def vinculumref01_Parse.Q : RK := .p (.int .i64) .nil
def vinculumref01_Parse.h : Int → vinculumref01_Parse.Q.T × List Int := fun b => ((b, ()), [])
noncomputable def vinculumref01_Parse.D : Decl Int := ⟨(Go.Proofs.Try.f42.body).getD .skip, 35, [.tmp 2], vinculumref01_Parse.A, vinculumref01_Parse.Q, fun y m => y.1, T0, [], [(4, [(0, .p (some (.str))), (3, .p (some (.int .i64)))])], []⟩
noncomputable def vinculumref01_Parse.S (k : Nat) : List (Nat × E.Spec Int) := []
noncomputable def vinculumref01_Parse.l4 (k : Nat) (x0 : ByteArray) (x3 : Int) : Option Int := vinculumref01_Parse.D.F vinculumref01_Parse.S k 9 [.p (.lit (.string x0)), .p (.lit (.int .i64 x3))]
noncomputable def vinculumref01_Parse.f0 (k : Nat) (a0 : ByteArray) : Option Int := vinculumref01_Parse.D.val vinculumref01_Parse.S k (a0, ())
noncomputable def vinculumref01_Parse.f := (still vinculumref01_Parse.f0).1
theorem vinculumref01_Parse.f_def : vinculumref01_Parse.f = vinculumref01_Parse.f0 := (still vinculumref01_Parse.f0).2
noncomputable def vinculumref01_Parse.g (k : Nat) (x : vinculumref01_Parse.A.T) : Option Int := vinculumref01_Parse.f k (x.1)
theorem vinculumref01_Parse.does (k : Nat) : Does PG 42 vinculumref01_Parse.A vinculumref01_Parse.Q (vinculumref01_Parse.g k) vinculumref01_Parse.h := (show vinculumref01_Parse.g k = vinculumref01_Parse.D.val vinculumref01_Parse.S k from funext fun _ => by unfold vinculumref01_Parse.g; rw [vinculumref01_Parse.f_def]; rfl) ▸ Decl.does (D := vinculumref01_Parse.D) (S := vinculumref01_Parse.S) (fn := Go.Proofs.Try.f42) ⟨by kernel_rfl, by kernel_rfl, by kernel_rfl, by kernel_rfl, by kernel_rfl, by kernel_rfl, TT.of_ok _ T0ex, by kernel_rfl⟩ (fun k => trivial) (fun _ _ h => by rw [h rfl]; rfl) k
/-! vinculumref02_Parse: function 16 -/
def vinculumref02_Parse.A : AK := .p (.str) .nil
def vinculumref02_Parse.Q : RK := .p (.agg (.cons (.bool) (.cons (.str) .nil))) (.p (.int .i64) .nil)
def vinculumref02_Parse.h : (Bool × ByteArray × Int) → vinculumref02_Parse.Q.T × List Int := fun b => (((b.1, b.2.1, ()), b.2.2, ()), [])
noncomputable def vinculumref02_Parse.D : Decl (Bool × ByteArray × Int) := ⟨(Go.Proofs.Try.f16.body).getD .skip, 33, [.cell 2 33, .tmp 3], vinculumref02_Parse.A, vinculumref02_Parse.Q, fun y m => (y.1.1, y.1.2.1, y.2.1), T0, [], [], []⟩
noncomputable def vinculumref02_Parse.S (k : Nat) : List (Nat × E.Spec (Bool × ByteArray × Int)) := [(42, told _ vinculumref01_Parse.A vinculumref01_Parse.Q (vinculumref01_Parse.g k) vinculumref01_Parse.h), (43, told _ vinculumref02_made.A vinculumref02_made.Q (vinculumref02_made.g k) vinculumref02_made.h)]
noncomputable def vinculumref02_Parse.f0 (k : Nat) (a0 : ByteArray) : Option (Bool × ByteArray × Int) := vinculumref02_Parse.D.val vinculumref02_Parse.S k (a0, ())
noncomputable def vinculumref02_Parse.f := (still vinculumref02_Parse.f0).1
theorem vinculumref02_Parse.f_def : vinculumref02_Parse.f = vinculumref02_Parse.f0 := (still vinculumref02_Parse.f0).2
noncomputable def vinculumref02_Parse.g (k : Nat) (x : vinculumref02_Parse.A.T) : Option (Bool × ByteArray × Int) := vinculumref02_Parse.f k (x.1)
theorem vinculumref02_Parse.does (k : Nat) : Does PG 16 vinculumref02_Parse.A vinculumref02_Parse.Q (vinculumref02_Parse.g k) vinculumref02_Parse.h := (show vinculumref02_Parse.g k = vinculumref02_Parse.D.val vinculumref02_Parse.S k from funext fun _ => by unfold vinculumref02_Parse.g; rw [vinculumref02_Parse.f_def]; rfl) ▸ Decl.does (D := vinculumref02_Parse.D) (S := vinculumref02_Parse.S) (fn := Go.Proofs.Try.f16) ⟨by kernel_rfl, by kernel_rfl, by kernel_rfl, by kernel_rfl, by kernel_rfl, by kernel_rfl, TT.of_ok _ T0ex, by kernel_rfl⟩ (fun k => ⟨told_ok (vinculumref01_Parse.does k), ⟨told_ok (vinculumref02_made.does k), trivial⟩⟩) (fun _ _ h => by rw [h rfl]; rfl) k
/-! vinculumref02_Sign: function 23 -/
def vinculumref02_Sign.A : AK := .p (.agg (.cons (.bool) (.cons (.str) .nil))) .nil
def vinculumref02_Sign.Q : RK := .p (.int .i64) .nil
def vinculumref02_Sign.h : Int → vinculumref02_Sign.Q.T × List Int := fun b => ((b, ()), [])
noncomputable def vinculumref02_Sign.D : Decl Int := ⟨(Go.Proofs.Try.f23.body).getD .skip, 8, [.tmp 2], vinculumref02_Sign.A, vinculumref02_Sign.Q, fun y m => y.1, T0, [], [], []⟩
noncomputable def vinculumref02_Sign.S (k : Nat) : List (Nat × E.Spec Int) := []
noncomputable def vinculumref02_Sign.f0 (k : Nat) (a0_0 : Bool) (a0_1 : ByteArray) : Option Int := vinculumref02_Sign.D.val vinculumref02_Sign.S k ((a0_0, a0_1, ()), ())
noncomputable def vinculumref02_Sign.f := (still vinculumref02_Sign.f0).1
theorem vinculumref02_Sign.f_def : vinculumref02_Sign.f = vinculumref02_Sign.f0 := (still vinculumref02_Sign.f0).2
noncomputable def vinculumref02_Sign.g (k : Nat) (x : vinculumref02_Sign.A.T) : Option Int := vinculumref02_Sign.f k (x.1.1) (x.1.2.1)
theorem vinculumref02_Sign.does (k : Nat) : Does PG 23 vinculumref02_Sign.A vinculumref02_Sign.Q (vinculumref02_Sign.g k) vinculumref02_Sign.h := (show vinculumref02_Sign.g k = vinculumref02_Sign.D.val vinculumref02_Sign.S k from funext fun _ => by unfold vinculumref02_Sign.g; rw [vinculumref02_Sign.f_def]; rfl) ▸ Decl.does (D := vinculumref02_Sign.D) (S := vinculumref02_Sign.S) (fn := Go.Proofs.Try.f23) ⟨by kernel_rfl, by kernel_rfl, by kernel_rfl, by kernel_rfl, by kernel_rfl, by kernel_rfl, TT.of_ok _ T0ex, by kernel_rfl⟩ (fun k => trivial) (fun _ _ h => by rw [h rfl]; rfl) k
/-! vinculumref01_Cmp: function 64 -/
def vinculumref01_Cmp.A : AK := .p (.str) (.p (.str) .nil)
def vinculumref01_Cmp.Q : RK := .p (.int .i64) .nil
def vinculumref01_Cmp.h : Int → vinculumref01_Cmp.Q.T × List Int := fun b => ((b, ()), [])
noncomputable def vinculumref01_Cmp.D : Decl Int := ⟨(Go.Proofs.Try.f64.body).getD .skip, 21, [.tmp 4], vinculumref01_Cmp.A, vinculumref01_Cmp.Q, fun y m => y.1, T0, [], [], []⟩
noncomputable def vinculumref01_Cmp.S (k : Nat) : List (Nat × E.Spec Int) := []
noncomputable def vinculumref01_Cmp.f0 (k : Nat) (a0 : ByteArray) (a1 : ByteArray) : Option Int := vinculumref01_Cmp.D.val vinculumref01_Cmp.S k (a0, a1, ())
noncomputable def vinculumref01_Cmp.f := (still vinculumref01_Cmp.f0).1
theorem vinculumref01_Cmp.f_def : vinculumref01_Cmp.f = vinculumref01_Cmp.f0 := (still vinculumref01_Cmp.f0).2
noncomputable def vinculumref01_Cmp.g (k : Nat) (x : vinculumref01_Cmp.A.T) : Option Int := vinculumref01_Cmp.f k (x.1) (x.2.1)
theorem vinculumref01_Cmp.does (k : Nat) : Does PG 64 vinculumref01_Cmp.A vinculumref01_Cmp.Q (vinculumref01_Cmp.g k) vinculumref01_Cmp.h := (show vinculumref01_Cmp.g k = vinculumref01_Cmp.D.val vinculumref01_Cmp.S k from funext fun _ => by unfold vinculumref01_Cmp.g; rw [vinculumref01_Cmp.f_def]; rfl) ▸ Decl.does (D := vinculumref01_Cmp.D) (S := vinculumref01_Cmp.S) (fn := Go.Proofs.Try.f64) ⟨by kernel_rfl, by kernel_rfl, by kernel_rfl, by kernel_rfl, by kernel_rfl, by kernel_rfl, TT.of_ok _ T0ex, by kernel_rfl⟩ (fun k => trivial) (fun _ _ h => by rw [h rfl]; rfl) k
/-! vinculumref01_Add: function 78 -/
def vinculumref01_Add.A : AK := .p (.str) (.p (.str) .nil)
def vinculumref01_Add.Q : RK := .p (.str) .nil
def vinculumref01_Add.h : ByteArray → vinculumref01_Add.Q.T × List Int := fun b => ((b, ()), [])
noncomputable def vinculumref01_Add.D : Decl ByteArray := ⟨(Go.Proofs.Try.f78.body).getD .skip, 46, [.tmp 4], vinculumref01_Add.A, vinculumref01_Add.Q, fun y m => y.1, T0, [], [(4, [(0, .p (some (.str))), (1, .p (some (.str))), (5, .m .u8 5), (6, .p (some (.int .i64))), (7, .p (some (.int .i64)))])], []⟩
noncomputable def vinculumref01_Add.S (k : Nat) : List (Nat × E.Spec ByteArray) := [(68, told _ vinculumref01_strip.A vinculumref01_strip.Q (vinculumref01_strip.g k) vinculumref01_strip.h), (69, told _ vinculumref01_turned.A vinculumref01_turned.Q (vinculumref01_turned.g k) vinculumref01_turned.h), (89, told _ vinculumref01_digit.A vinculumref01_digit.Q (vinculumref01_digit.g k) vinculumref01_digit.h)]
noncomputable def vinculumref01_Add.l4 (k : Nat) (x0 : ByteArray) (x1 : ByteArray) (x5 : List Int) (x6 : Int) (x7 : Int) : Option ByteArray := vinculumref01_Add.D.F vinculumref01_Add.S k 9 [.p (.lit (.string x0)), .p (.lit (.string x1)), .m x5, .p (.lit (.int .i64 x6)), .p (.lit (.int .i64 x7))]
noncomputable def vinculumref01_Add.f0 (k : Nat) (a0 : ByteArray) (a1 : ByteArray) : Option ByteArray := vinculumref01_Add.D.val vinculumref01_Add.S k (a0, a1, ())
noncomputable def vinculumref01_Add.f := (still vinculumref01_Add.f0).1
theorem vinculumref01_Add.f_def : vinculumref01_Add.f = vinculumref01_Add.f0 := (still vinculumref01_Add.f0).2
noncomputable def vinculumref01_Add.g (k : Nat) (x : vinculumref01_Add.A.T) : Option ByteArray := vinculumref01_Add.f k (x.1) (x.2.1)
theorem vinculumref01_Add.does (k : Nat) : Does PG 78 vinculumref01_Add.A vinculumref01_Add.Q (vinculumref01_Add.g k) vinculumref01_Add.h := (show vinculumref01_Add.g k = vinculumref01_Add.D.val vinculumref01_Add.S k from funext fun _ => by unfold vinculumref01_Add.g; rw [vinculumref01_Add.f_def]; rfl) ▸ Decl.does (D := vinculumref01_Add.D) (S := vinculumref01_Add.S) (fn := Go.Proofs.Try.f78) ⟨by kernel_rfl, by kernel_rfl, by kernel_rfl, by kernel_rfl, by kernel_rfl, by kernel_rfl, TT.of_ok _ T0ex, by kernel_rfl⟩ (fun k => ⟨told_ok (vinculumref01_strip.does k), ⟨told_ok (vinculumref01_turned.does k), ⟨told_ok (vinculumref01_digit.does k), trivial⟩⟩⟩) (fun _ _ h => by rw [h rfl]; rfl) k
/-! vinculumref01_Sub: function 79 -/
def vinculumref01_Sub.A : AK := .p (.str) (.p (.str) .nil)
def vinculumref01_Sub.Q : RK := .p (.str) .nil
def vinculumref01_Sub.h : ByteArray → vinculumref01_Sub.Q.T × List Int := fun b => ((b, ()), [])
noncomputable def vinculumref01_Sub.D : Decl ByteArray := ⟨(Go.Proofs.Try.f79.body).getD .skip, 37, [.tmp 4], vinculumref01_Sub.A, vinculumref01_Sub.Q, fun y m => y.1, T0, [], [(4, [(0, .p (some (.str))), (1, .p (some (.str))), (5, .m .u8 5), (6, .p (some (.int .i64))), (7, .p (some (.int .i64)))])], []⟩
noncomputable def vinculumref01_Sub.S (k : Nat) : List (Nat × E.Spec ByteArray) := [(68, told _ vinculumref01_strip.A vinculumref01_strip.Q (vinculumref01_strip.g k) vinculumref01_strip.h), (69, told _ vinculumref01_turned.A vinculumref01_turned.Q (vinculumref01_turned.g k) vinculumref01_turned.h), (89, told _ vinculumref01_digit.A vinculumref01_digit.Q (vinculumref01_digit.g k) vinculumref01_digit.h)]
noncomputable def vinculumref01_Sub.l4 (k : Nat) (x0 : ByteArray) (x1 : ByteArray) (x5 : List Int) (x6 : Int) (x7 : Int) : Option ByteArray := vinculumref01_Sub.D.F vinculumref01_Sub.S k 9 [.p (.lit (.string x0)), .p (.lit (.string x1)), .m x5, .p (.lit (.int .i64 x6)), .p (.lit (.int .i64 x7))]
noncomputable def vinculumref01_Sub.f0 (k : Nat) (a0 : ByteArray) (a1 : ByteArray) : Option ByteArray := vinculumref01_Sub.D.val vinculumref01_Sub.S k (a0, a1, ())
noncomputable def vinculumref01_Sub.f := (still vinculumref01_Sub.f0).1
theorem vinculumref01_Sub.f_def : vinculumref01_Sub.f = vinculumref01_Sub.f0 := (still vinculumref01_Sub.f0).2
noncomputable def vinculumref01_Sub.g (k : Nat) (x : vinculumref01_Sub.A.T) : Option ByteArray := vinculumref01_Sub.f k (x.1) (x.2.1)
theorem vinculumref01_Sub.does (k : Nat) : Does PG 79 vinculumref01_Sub.A vinculumref01_Sub.Q (vinculumref01_Sub.g k) vinculumref01_Sub.h := (show vinculumref01_Sub.g k = vinculumref01_Sub.D.val vinculumref01_Sub.S k from funext fun _ => by unfold vinculumref01_Sub.g; rw [vinculumref01_Sub.f_def]; rfl) ▸ Decl.does (D := vinculumref01_Sub.D) (S := vinculumref01_Sub.S) (fn := Go.Proofs.Try.f79) ⟨by kernel_rfl, by kernel_rfl, by kernel_rfl, by kernel_rfl, by kernel_rfl, by kernel_rfl, TT.of_ok _ T0ex, by kernel_rfl⟩ (fun k => ⟨told_ok (vinculumref01_strip.does k), ⟨told_ok (vinculumref01_turned.does k), ⟨told_ok (vinculumref01_digit.does k), trivial⟩⟩⟩) (fun _ _ h => by rw [h rfl]; rfl) k
/-! vinculumref02_Add: function 51 -/
def vinculumref02_Add.A : AK := .p (.agg (.cons (.bool) (.cons (.str) .nil))) (.p (.agg (.cons (.bool) (.cons (.str) .nil))) .nil)
def vinculumref02_Add.Q : RK := .p (.agg (.cons (.bool) (.cons (.str) .nil))) .nil
def vinculumref02_Add.h : (Bool × ByteArray) → vinculumref02_Add.Q.T × List Int := fun b => (((b.1, b.2, ()), ()), [])
noncomputable def vinculumref02_Add.D : Decl (Bool × ByteArray) := ⟨(Go.Proofs.Try.f51.body).getD .skip, 40, [.cell 4 33], vinculumref02_Add.A, vinculumref02_Add.Q, fun y m => (y.1.1, y.1.2.1), T0, [], [], []⟩
noncomputable def vinculumref02_Add.S (k : Nat) : List (Nat × E.Spec (Bool × ByteArray)) := [(43, told _ vinculumref02_made.A vinculumref02_made.Q (vinculumref02_made.g k) vinculumref02_made.h), (64, told _ vinculumref01_Cmp.A vinculumref01_Cmp.Q (vinculumref01_Cmp.g k) vinculumref01_Cmp.h), (78, told _ vinculumref01_Add.A vinculumref01_Add.Q (vinculumref01_Add.g k) vinculumref01_Add.h), (79, told _ vinculumref01_Sub.A vinculumref01_Sub.Q (vinculumref01_Sub.g k) vinculumref01_Sub.h)]
noncomputable def vinculumref02_Add.f0 (k : Nat) (a0_0 : Bool) (a0_1 : ByteArray) (a1_0 : Bool) (a1_1 : ByteArray) : Option (Bool × ByteArray) := vinculumref02_Add.D.val vinculumref02_Add.S k ((a0_0, a0_1, ()), (a1_0, a1_1, ()), ())
noncomputable def vinculumref02_Add.f := (still vinculumref02_Add.f0).1
theorem vinculumref02_Add.f_def : vinculumref02_Add.f = vinculumref02_Add.f0 := (still vinculumref02_Add.f0).2
noncomputable def vinculumref02_Add.g (k : Nat) (x : vinculumref02_Add.A.T) : Option (Bool × ByteArray) := vinculumref02_Add.f k (x.1.1) (x.1.2.1) (x.2.1.1) (x.2.1.2.1)
theorem vinculumref02_Add.does (k : Nat) : Does PG 51 vinculumref02_Add.A vinculumref02_Add.Q (vinculumref02_Add.g k) vinculumref02_Add.h := (show vinculumref02_Add.g k = vinculumref02_Add.D.val vinculumref02_Add.S k from funext fun _ => by unfold vinculumref02_Add.g; rw [vinculumref02_Add.f_def]; rfl) ▸ Decl.does (D := vinculumref02_Add.D) (S := vinculumref02_Add.S) (fn := Go.Proofs.Try.f51) ⟨by kernel_rfl, by kernel_rfl, by kernel_rfl, by kernel_rfl, by kernel_rfl, by kernel_rfl, TT.of_ok _ T0ex, by kernel_rfl⟩ (fun k => ⟨told_ok (vinculumref02_made.does k), ⟨told_ok (vinculumref01_Cmp.does k), ⟨told_ok (vinculumref01_Add.does k), ⟨told_ok (vinculumref01_Sub.does k), trivial⟩⟩⟩⟩) (fun _ _ h => by rw [h rfl]; rfl) k
/-! vinculumref02_Neg: function 80 -/
def vinculumref02_Neg.A : AK := .p (.agg (.cons (.bool) (.cons (.str) .nil))) .nil
def vinculumref02_Neg.Q : RK := .p (.agg (.cons (.bool) (.cons (.str) .nil))) .nil
def vinculumref02_Neg.h : (Bool × ByteArray) → vinculumref02_Neg.Q.T × List Int := fun b => (((b.1, b.2, ()), ()), [])
noncomputable def vinculumref02_Neg.D : Decl (Bool × ByteArray) := ⟨(Go.Proofs.Try.f80.body).getD .skip, 9, [.cell 2 33], vinculumref02_Neg.A, vinculumref02_Neg.Q, fun y m => (y.1.1, y.1.2.1), T0, [], [], []⟩
noncomputable def vinculumref02_Neg.S (k : Nat) : List (Nat × E.Spec (Bool × ByteArray)) := [(43, told _ vinculumref02_made.A vinculumref02_made.Q (vinculumref02_made.g k) vinculumref02_made.h)]
noncomputable def vinculumref02_Neg.f0 (k : Nat) (a0_0 : Bool) (a0_1 : ByteArray) : Option (Bool × ByteArray) := vinculumref02_Neg.D.val vinculumref02_Neg.S k ((a0_0, a0_1, ()), ())
noncomputable def vinculumref02_Neg.f := (still vinculumref02_Neg.f0).1
theorem vinculumref02_Neg.f_def : vinculumref02_Neg.f = vinculumref02_Neg.f0 := (still vinculumref02_Neg.f0).2
noncomputable def vinculumref02_Neg.g (k : Nat) (x : vinculumref02_Neg.A.T) : Option (Bool × ByteArray) := vinculumref02_Neg.f k (x.1.1) (x.1.2.1)
theorem vinculumref02_Neg.does (k : Nat) : Does PG 80 vinculumref02_Neg.A vinculumref02_Neg.Q (vinculumref02_Neg.g k) vinculumref02_Neg.h := (show vinculumref02_Neg.g k = vinculumref02_Neg.D.val vinculumref02_Neg.S k from funext fun _ => by unfold vinculumref02_Neg.g; rw [vinculumref02_Neg.f_def]; rfl) ▸ Decl.does (D := vinculumref02_Neg.D) (S := vinculumref02_Neg.S) (fn := Go.Proofs.Try.f80) ⟨by kernel_rfl, by kernel_rfl, by kernel_rfl, by kernel_rfl, by kernel_rfl, by kernel_rfl, TT.of_ok _ T0ex, by kernel_rfl⟩ (fun k => ⟨told_ok (vinculumref02_made.does k), trivial⟩) (fun _ _ h => by rw [h rfl]; rfl) k
/-! vinculumref02_Sub: function 52 -/
def vinculumref02_Sub.A : AK := .p (.agg (.cons (.bool) (.cons (.str) .nil))) (.p (.agg (.cons (.bool) (.cons (.str) .nil))) .nil)
def vinculumref02_Sub.Q : RK := .p (.agg (.cons (.bool) (.cons (.str) .nil))) .nil
def vinculumref02_Sub.h : (Bool × ByteArray) → vinculumref02_Sub.Q.T × List Int := fun b => (((b.1, b.2, ()), ()), [])
noncomputable def vinculumref02_Sub.D : Decl (Bool × ByteArray) := ⟨(Go.Proofs.Try.f52.body).getD .skip, 9, [.cell 4 33], vinculumref02_Sub.A, vinculumref02_Sub.Q, fun y m => (y.1.1, y.1.2.1), T0, [], [], []⟩
noncomputable def vinculumref02_Sub.S (k : Nat) : List (Nat × E.Spec (Bool × ByteArray)) := [(51, told _ vinculumref02_Add.A vinculumref02_Add.Q (vinculumref02_Add.g k) vinculumref02_Add.h), (80, told _ vinculumref02_Neg.A vinculumref02_Neg.Q (vinculumref02_Neg.g k) vinculumref02_Neg.h)]
noncomputable def vinculumref02_Sub.f0 (k : Nat) (a0_0 : Bool) (a0_1 : ByteArray) (a1_0 : Bool) (a1_1 : ByteArray) : Option (Bool × ByteArray) := vinculumref02_Sub.D.val vinculumref02_Sub.S k ((a0_0, a0_1, ()), (a1_0, a1_1, ()), ())
noncomputable def vinculumref02_Sub.f := (still vinculumref02_Sub.f0).1
theorem vinculumref02_Sub.f_def : vinculumref02_Sub.f = vinculumref02_Sub.f0 := (still vinculumref02_Sub.f0).2
noncomputable def vinculumref02_Sub.g (k : Nat) (x : vinculumref02_Sub.A.T) : Option (Bool × ByteArray) := vinculumref02_Sub.f k (x.1.1) (x.1.2.1) (x.2.1.1) (x.2.1.2.1)
theorem vinculumref02_Sub.does (k : Nat) : Does PG 52 vinculumref02_Sub.A vinculumref02_Sub.Q (vinculumref02_Sub.g k) vinculumref02_Sub.h := (show vinculumref02_Sub.g k = vinculumref02_Sub.D.val vinculumref02_Sub.S k from funext fun _ => by unfold vinculumref02_Sub.g; rw [vinculumref02_Sub.f_def]; rfl) ▸ Decl.does (D := vinculumref02_Sub.D) (S := vinculumref02_Sub.S) (fn := Go.Proofs.Try.f52) ⟨by kernel_rfl, by kernel_rfl, by kernel_rfl, by kernel_rfl, by kernel_rfl, by kernel_rfl, TT.of_ok _ T0ex, by kernel_rfl⟩ (fun k => ⟨told_ok (vinculumref02_Add.does k), ⟨told_ok (vinculumref02_Neg.does k), trivial⟩⟩) (fun _ _ h => by rw [h rfl]; rfl) k
/-! vinculumref01_DivMod: function 90 -/
def vinculumref01_DivMod.A : AK := .p (.str) (.p (.str) .nil)
def vinculumref01_DivMod.Q : RK := .p (.str) (.p (.str) .nil)
def vinculumref01_DivMod.h : (ByteArray × ByteArray) → vinculumref01_DivMod.Q.T × List Int := fun b => ((b.1, b.2, ()), [])
noncomputable def vinculumref01_DivMod.D : Decl (ByteArray × ByteArray) := ⟨(Go.Proofs.Try.f90.body).getD .skip, 43, [.tmp 4, .tmp 5], vinculumref01_DivMod.A, vinculumref01_DivMod.Q, fun y m => (y.1, y.2.1), T0, [], [(8, [(0, .p (some (.str))), (1, .p (some (.str))), (6, .m .u8 5), (7, .p (some (.str))), (8, .p (some (.int .i64))), (9, .p (some (.int .i64)))]), (4, [(0, .p (some (.str))), (1, .p (some (.str))), (6, .m .u8 5), (7, .p (some (.str))), (8, .p (some (.int .i64)))])], []⟩
noncomputable def vinculumref01_DivMod.S (k : Nat) : List (Nat × E.Spec (ByteArray × ByteArray)) := [(64, told _ vinculumref01_Cmp.A vinculumref01_Cmp.Q (vinculumref01_Cmp.g k) vinculumref01_Cmp.h), (68, told _ vinculumref01_strip.A vinculumref01_strip.Q (vinculumref01_strip.g k) vinculumref01_strip.h), (79, told _ vinculumref01_Sub.A vinculumref01_Sub.Q (vinculumref01_Sub.g k) vinculumref01_Sub.h)]
noncomputable def vinculumref01_DivMod.l8 (k : Nat) (x0 : ByteArray) (x1 : ByteArray) (x6 : List Int) (x7 : ByteArray) (x8 : Int) (x9 : Int) : Option (ByteArray × ByteArray) := vinculumref01_DivMod.D.F vinculumref01_DivMod.S k 17 [.p (.lit (.string x0)), .p (.lit (.string x1)), .m x6, .p (.lit (.string x7)), .p (.lit (.int .i64 x8)), .p (.lit (.int .i64 x9))]
noncomputable def vinculumref01_DivMod.l4 (k : Nat) (x0 : ByteArray) (x1 : ByteArray) (x6 : List Int) (x7 : ByteArray) (x8 : Int) : Option (ByteArray × ByteArray) := vinculumref01_DivMod.D.F vinculumref01_DivMod.S k 9 [.p (.lit (.string x0)), .p (.lit (.string x1)), .m x6, .p (.lit (.string x7)), .p (.lit (.int .i64 x8))]
noncomputable def vinculumref01_DivMod.f0 (k : Nat) (a0 : ByteArray) (a1 : ByteArray) : Option (ByteArray × ByteArray) := vinculumref01_DivMod.D.val vinculumref01_DivMod.S k (a0, a1, ())
noncomputable def vinculumref01_DivMod.f := (still vinculumref01_DivMod.f0).1
theorem vinculumref01_DivMod.f_def : vinculumref01_DivMod.f = vinculumref01_DivMod.f0 := (still vinculumref01_DivMod.f0).2
noncomputable def vinculumref01_DivMod.g (k : Nat) (x : vinculumref01_DivMod.A.T) : Option (ByteArray × ByteArray) := vinculumref01_DivMod.f k (x.1) (x.2.1)
theorem vinculumref01_DivMod.does (k : Nat) : Does PG 90 vinculumref01_DivMod.A vinculumref01_DivMod.Q (vinculumref01_DivMod.g k) vinculumref01_DivMod.h := (show vinculumref01_DivMod.g k = vinculumref01_DivMod.D.val vinculumref01_DivMod.S k from funext fun _ => by unfold vinculumref01_DivMod.g; rw [vinculumref01_DivMod.f_def]; rfl) ▸ Decl.does (D := vinculumref01_DivMod.D) (S := vinculumref01_DivMod.S) (fn := Go.Proofs.Try.f90) ⟨by kernel_rfl, by kernel_rfl, by kernel_rfl, by kernel_rfl, by kernel_rfl, by kernel_rfl, TT.of_ok _ T0ex, by kernel_rfl⟩ (fun k => ⟨told_ok (vinculumref01_Cmp.does k), ⟨told_ok (vinculumref01_strip.does k), ⟨told_ok (vinculumref01_Sub.does k), trivial⟩⟩⟩) (fun _ _ h => by rw [h rfl]; rfl) k
/-! vinculumref02_QuoRem: function 72 -/
def vinculumref02_QuoRem.A : AK := .p (.agg (.cons (.bool) (.cons (.str) .nil))) (.p (.agg (.cons (.bool) (.cons (.str) .nil))) .nil)
def vinculumref02_QuoRem.Q : RK := .p (.agg (.cons (.bool) (.cons (.str) .nil))) (.p (.agg (.cons (.bool) (.cons (.str) .nil))) .nil)
def vinculumref02_QuoRem.h : (Bool × ByteArray × Bool × ByteArray) → vinculumref02_QuoRem.Q.T × List Int := fun b => (((b.1, b.2.1, ()), (b.2.2.1, b.2.2.2, ()), ()), [])
noncomputable def vinculumref02_QuoRem.D : Decl (Bool × ByteArray × Bool × ByteArray) := ⟨(Go.Proofs.Try.f72.body).getD .skip, 27, [.cell 4 33, .cell 5 33], vinculumref02_QuoRem.A, vinculumref02_QuoRem.Q, fun y m => (y.1.1, y.1.2.1, y.2.1.1, y.2.1.2.1), T0, [], [], []⟩
noncomputable def vinculumref02_QuoRem.S (k : Nat) : List (Nat × E.Spec (Bool × ByteArray × Bool × ByteArray)) := [(43, told _ vinculumref02_made.A vinculumref02_made.Q (vinculumref02_made.g k) vinculumref02_made.h), (90, told _ vinculumref01_DivMod.A vinculumref01_DivMod.Q (vinculumref01_DivMod.g k) vinculumref01_DivMod.h)]
noncomputable def vinculumref02_QuoRem.f0 (k : Nat) (a0_0 : Bool) (a0_1 : ByteArray) (a1_0 : Bool) (a1_1 : ByteArray) : Option (Bool × ByteArray × Bool × ByteArray) := vinculumref02_QuoRem.D.val vinculumref02_QuoRem.S k ((a0_0, a0_1, ()), (a1_0, a1_1, ()), ())
noncomputable def vinculumref02_QuoRem.f := (still vinculumref02_QuoRem.f0).1
theorem vinculumref02_QuoRem.f_def : vinculumref02_QuoRem.f = vinculumref02_QuoRem.f0 := (still vinculumref02_QuoRem.f0).2
noncomputable def vinculumref02_QuoRem.g (k : Nat) (x : vinculumref02_QuoRem.A.T) : Option (Bool × ByteArray × Bool × ByteArray) := vinculumref02_QuoRem.f k (x.1.1) (x.1.2.1) (x.2.1.1) (x.2.1.2.1)
theorem vinculumref02_QuoRem.does (k : Nat) : Does PG 72 vinculumref02_QuoRem.A vinculumref02_QuoRem.Q (vinculumref02_QuoRem.g k) vinculumref02_QuoRem.h := (show vinculumref02_QuoRem.g k = vinculumref02_QuoRem.D.val vinculumref02_QuoRem.S k from funext fun _ => by unfold vinculumref02_QuoRem.g; rw [vinculumref02_QuoRem.f_def]; rfl) ▸ Decl.does (D := vinculumref02_QuoRem.D) (S := vinculumref02_QuoRem.S) (fn := Go.Proofs.Try.f72) ⟨by kernel_rfl, by kernel_rfl, by kernel_rfl, by kernel_rfl, by kernel_rfl, by kernel_rfl, TT.of_ok _ T0ex, by kernel_rfl⟩ (fun k => ⟨told_ok (vinculumref02_made.does k), ⟨told_ok (vinculumref01_DivMod.does k), trivial⟩⟩) (fun _ _ h => by rw [h rfl]; rfl) k
/-! vinculumref02_DivMod: function 45 -/
def vinculumref02_DivMod.A : AK := .p (.agg (.cons (.bool) (.cons (.str) .nil))) (.p (.agg (.cons (.bool) (.cons (.str) .nil))) .nil)
def vinculumref02_DivMod.Q : RK := .p (.agg (.cons (.bool) (.cons (.str) .nil))) (.p (.agg (.cons (.bool) (.cons (.str) .nil))) .nil)
def vinculumref02_DivMod.h : (Bool × ByteArray × Bool × ByteArray) → vinculumref02_DivMod.Q.T × List Int := fun b => (((b.1, b.2.1, ()), (b.2.2.1, b.2.2.2, ()), ()), [])
noncomputable def vinculumref02_DivMod.D : Decl (Bool × ByteArray × Bool × ByteArray) := ⟨(Go.Proofs.Try.f45.body).getD .skip, 32, [.cell 4 33, .cell 5 33], vinculumref02_DivMod.A, vinculumref02_DivMod.Q, fun y m => (y.1.1, y.1.2.1, y.2.1.1, y.2.1.2.1), T0, [], [], []⟩
noncomputable def vinculumref02_DivMod.S (k : Nat) : List (Nat × E.Spec (Bool × ByteArray × Bool × ByteArray)) := [(23, told _ vinculumref02_Sign.A vinculumref02_Sign.Q (vinculumref02_Sign.g k) vinculumref02_Sign.h), (51, told _ vinculumref02_Add.A vinculumref02_Add.Q (vinculumref02_Add.g k) vinculumref02_Add.h), (52, told _ vinculumref02_Sub.A vinculumref02_Sub.Q (vinculumref02_Sub.g k) vinculumref02_Sub.h), (72, told _ vinculumref02_QuoRem.A vinculumref02_QuoRem.Q (vinculumref02_QuoRem.g k) vinculumref02_QuoRem.h)]
noncomputable def vinculumref02_DivMod.f0 (k : Nat) (a0_0 : Bool) (a0_1 : ByteArray) (a1_0 : Bool) (a1_1 : ByteArray) : Option (Bool × ByteArray × Bool × ByteArray) := vinculumref02_DivMod.D.val vinculumref02_DivMod.S k ((a0_0, a0_1, ()), (a1_0, a1_1, ()), ())
noncomputable def vinculumref02_DivMod.f := (still vinculumref02_DivMod.f0).1
theorem vinculumref02_DivMod.f_def : vinculumref02_DivMod.f = vinculumref02_DivMod.f0 := (still vinculumref02_DivMod.f0).2
noncomputable def vinculumref02_DivMod.g (k : Nat) (x : vinculumref02_DivMod.A.T) : Option (Bool × ByteArray × Bool × ByteArray) := vinculumref02_DivMod.f k (x.1.1) (x.1.2.1) (x.2.1.1) (x.2.1.2.1)
theorem vinculumref02_DivMod.does (k : Nat) : Does PG 45 vinculumref02_DivMod.A vinculumref02_DivMod.Q (vinculumref02_DivMod.g k) vinculumref02_DivMod.h := (show vinculumref02_DivMod.g k = vinculumref02_DivMod.D.val vinculumref02_DivMod.S k from funext fun _ => by unfold vinculumref02_DivMod.g; rw [vinculumref02_DivMod.f_def]; rfl) ▸ Decl.does (D := vinculumref02_DivMod.D) (S := vinculumref02_DivMod.S) (fn := Go.Proofs.Try.f45) ⟨by kernel_rfl, by kernel_rfl, by kernel_rfl, by kernel_rfl, by kernel_rfl, by kernel_rfl, TT.of_ok _ T0ex, by kernel_rfl⟩ (fun k => ⟨told_ok (vinculumref02_Sign.does k), ⟨told_ok (vinculumref02_Add.does k), ⟨told_ok (vinculumref02_Sub.does k), ⟨told_ok (vinculumref02_QuoRem.does k), trivial⟩⟩⟩⟩) (fun _ _ h => by rw [h rfl]; rfl) k
/-! vinculumref05_Left: function 18 -/
def vinculumref05_Left.A : AK := .p (.agg (.cons (.bool) (.cons (.str) .nil))) (.p (.int .u64) .nil)
def vinculumref05_Left.Q : RK := .p (.int .u64) .nil
def vinculumref05_Left.h : Int → vinculumref05_Left.Q.T × List Int := fun b => ((b, ()), [])
noncomputable def vinculumref05_Left.D : Decl Int := ⟨(Go.Proofs.Try.f18.body).getD .skip, 34, [.tmp 4], vinculumref05_Left.A, vinculumref05_Left.Q, fun y m => y.1, T0, [], [(4, [(6, .b (some (.cons (.bool) (.cons (.str) .nil)))), (7, .p (some (.int .u64))), (8, .p (some (.int .i64)))])], []⟩
noncomputable def vinculumref05_Left.S (k : Nat) : List (Nat × E.Spec Int) := [(39, told _ vinculumref01_Word.A vinculumref01_Word.Q (vinculumref01_Word.g k) vinculumref01_Word.h), (45, told _ vinculumref02_DivMod.A vinculumref02_DivMod.Q (vinculumref02_DivMod.g k) vinculumref02_DivMod.h)]
noncomputable def vinculumref05_Left.l4 (k : Nat) (x6_0 : Bool) (x6_1 : ByteArray) (x7 : Int) (x8 : Int) : Option Int := vinculumref05_Left.D.F vinculumref05_Left.S k 9 [.b 33 [.lit (.bool x6_0), .lit (.string x6_1)], .p (.lit (.int .u64 x7)), .p (.lit (.int .i64 x8))]
noncomputable def vinculumref05_Left.f0 (k : Nat) (a0_0 : Bool) (a0_1 : ByteArray) (a1 : Int) : Option Int := vinculumref05_Left.D.val vinculumref05_Left.S k ((a0_0, a0_1, ()), a1, ())
noncomputable def vinculumref05_Left.f := (still vinculumref05_Left.f0).1
theorem vinculumref05_Left.f_def : vinculumref05_Left.f = vinculumref05_Left.f0 := (still vinculumref05_Left.f0).2
noncomputable def vinculumref05_Left.g (k : Nat) (x : vinculumref05_Left.A.T) : Option Int := vinculumref05_Left.f k (x.1.1) (x.1.2.1) (x.2.1)
theorem vinculumref05_Left.does (k : Nat) : Does PG 18 vinculumref05_Left.A vinculumref05_Left.Q (vinculumref05_Left.g k) vinculumref05_Left.h := (show vinculumref05_Left.g k = vinculumref05_Left.D.val vinculumref05_Left.S k from funext fun _ => by unfold vinculumref05_Left.g; rw [vinculumref05_Left.f_def]; rfl) ▸ Decl.does (D := vinculumref05_Left.D) (S := vinculumref05_Left.S) (fn := Go.Proofs.Try.f18) ⟨by kernel_rfl, by kernel_rfl, by kernel_rfl, by kernel_rfl, by kernel_rfl, by kernel_rfl, TT.of_ok _ T0ex, by kernel_rfl⟩ (fun k => ⟨told_ok (vinculumref01_Word.does k), ⟨told_ok (vinculumref02_DivMod.does k), trivial⟩⟩) (fun _ _ h => by rw [h rfl]; rfl) k
/-! vinculumlaw05_CrtLifts: function 3 -/
def vinculumlaw05_CrtLifts.A : AK := .p (.row .u64) (.p (.row .u64) .nil)
def vinculumlaw05_CrtLifts.Q : RK := .p (.bool) .nil
def vinculumlaw05_CrtLifts.h : Bool → vinculumlaw05_CrtLifts.Q.T × List Int := fun b => ((b, ()), [])
noncomputable def vinculumlaw05_CrtLifts.D : Decl Bool := ⟨(Go.Proofs.Try.f3.body).getD .skip, 99, [.tmp 4], vinculumlaw05_CrtLifts.A, vinculumlaw05_CrtLifts.Q, fun y m => y.1, T0, [], [(14, [(0, .p (some (.row .u64))), (1, .p (some (.row .u64))), (10, .b (some (.cons (.bool) (.cons (.str) .nil)))), (11, .p (some (.int .i64))), (12, .p (some (.int .i64)))])], []⟩
noncomputable def vinculumlaw05_CrtLifts.S (k : Nat) : List (Nat × E.Spec Bool) := [(9, told _ vinculumlaw05_awake.A vinculumlaw05_awake.Q (vinculumlaw05_awake.g k) vinculumlaw05_awake.h), (10, told _ crt_Lift.A crt_Lift.Q (crt_Lift.g k) crt_Lift.h), (11, told _ vinculumref05_Wrong.A vinculumref05_Wrong.Q (vinculumref05_Wrong.g k) vinculumref05_Wrong.h), (12, told _ bigint_Int_Sign.A bigint_Int_Sign.Q (bigint_Int_Sign.g k) bigint_Int_Sign.h), (13, told _ vinculumref05_All.A vinculumref05_All.Q (vinculumref05_All.g k) vinculumref05_All.h), (14, told _ vinculumlaw02_Is.A vinculumlaw02_Is.Q (vinculumlaw02_Is.g k) vinculumlaw02_Is.h), (15, told _ bigint_Int_Cmp.A bigint_Int_Cmp.Q (bigint_Int_Cmp.g k) bigint_Int_Cmp.h), (16, told _ vinculumref02_Parse.A vinculumref02_Parse.Q (vinculumref02_Parse.g k) vinculumref02_Parse.h), (17, told _ bigint_Int_Print.A bigint_Int_Print.Q (bigint_Int_Print.g k) bigint_Int_Print.h), (18, told _ vinculumref05_Left.A vinculumref05_Left.Q (vinculumref05_Left.g k) vinculumref05_Left.h)]
noncomputable def vinculumlaw05_CrtLifts.l14 (k : Nat) (x0 : List Int) (x1 : List Int) (x10_0 : Bool) (x10_1 : ByteArray) (x11 : Int) (x12 : Int) : Option Bool := vinculumlaw05_CrtLifts.D.F vinculumlaw05_CrtLifts.S k 29 [.p (.row .u64 x0), .p (.row .u64 x1), .b 33 [.lit (.bool x10_0), .lit (.string x10_1)], .p (.lit (.int .i64 x11)), .p (.lit (.int .i64 x12))]
noncomputable def vinculumlaw05_CrtLifts.f0 (k : Nat) (a0 : List Int) (a1 : List Int) : Option Bool := vinculumlaw05_CrtLifts.D.val vinculumlaw05_CrtLifts.S k (a0, a1, ())
noncomputable def vinculumlaw05_CrtLifts.f := (still vinculumlaw05_CrtLifts.f0).1
theorem vinculumlaw05_CrtLifts.f_def : vinculumlaw05_CrtLifts.f = vinculumlaw05_CrtLifts.f0 := (still vinculumlaw05_CrtLifts.f0).2
noncomputable def vinculumlaw05_CrtLifts.g (k : Nat) (x : vinculumlaw05_CrtLifts.A.T) : Option Bool := vinculumlaw05_CrtLifts.f k (x.1) (x.2.1)
theorem vinculumlaw05_CrtLifts.does (k : Nat) : Does PG 3 vinculumlaw05_CrtLifts.A vinculumlaw05_CrtLifts.Q (vinculumlaw05_CrtLifts.g k) vinculumlaw05_CrtLifts.h := (show vinculumlaw05_CrtLifts.g k = vinculumlaw05_CrtLifts.D.val vinculumlaw05_CrtLifts.S k from funext fun _ => by unfold vinculumlaw05_CrtLifts.g; rw [vinculumlaw05_CrtLifts.f_def]; rfl) ▸ Decl.does (D := vinculumlaw05_CrtLifts.D) (S := vinculumlaw05_CrtLifts.S) (fn := Go.Proofs.Try.f3) ⟨by kernel_rfl, by kernel_rfl, by kernel_rfl, by kernel_rfl, by kernel_rfl, by kernel_rfl, TT.of_ok _ T0ex, by kernel_rfl⟩ (fun k => ⟨told_ok (vinculumlaw05_awake.does k), ⟨told_ok (crt_Lift.does k), ⟨told_ok (vinculumref05_Wrong.does k), ⟨told_ok (bigint_Int_Sign.does k), ⟨told_ok (vinculumref05_All.does k), ⟨told_ok (vinculumlaw02_Is.does k), ⟨told_ok (bigint_Int_Cmp.does k), ⟨told_ok (vinculumref02_Parse.does k), ⟨told_ok (bigint_Int_Print.does k), ⟨told_ok (vinculumref05_Left.does k), trivial⟩⟩⟩⟩⟩⟩⟩⟩⟩⟩) (fun _ _ h => by rw [h rfl]; rfl) k
/-! vinculumlaw02_Few: function 19 -/
def vinculumlaw02_Few.A : AK := .p (.agg (.cons (.bool) (.cons (.row .u64) .nil))) .nil
def vinculumlaw02_Few.Q : RK := .p (.bool) .nil
def vinculumlaw02_Few.h : Bool → vinculumlaw02_Few.Q.T × List Int := fun b => ((b, ()), [])
noncomputable def vinculumlaw02_Few.D : Decl Bool := ⟨(Go.Proofs.Try.f19.body).getD .skip, 7, [.tmp 2], vinculumlaw02_Few.A, vinculumlaw02_Few.Q, fun y m => y.1, T0, [], [], []⟩
noncomputable def vinculumlaw02_Few.S (k : Nat) : List (Nat × E.Spec Bool) := []
noncomputable def vinculumlaw02_Few.f0 (k : Nat) (a0_0 : Bool) (a0_1 : List Int) : Option Bool := vinculumlaw02_Few.D.val vinculumlaw02_Few.S k ((a0_0, a0_1, ()), ())
noncomputable def vinculumlaw02_Few.f := (still vinculumlaw02_Few.f0).1
theorem vinculumlaw02_Few.f_def : vinculumlaw02_Few.f = vinculumlaw02_Few.f0 := (still vinculumlaw02_Few.f0).2
noncomputable def vinculumlaw02_Few.g (k : Nat) (x : vinculumlaw02_Few.A.T) : Option Bool := vinculumlaw02_Few.f k (x.1.1) (x.1.2.1)
theorem vinculumlaw02_Few.does (k : Nat) : Does PG 19 vinculumlaw02_Few.A vinculumlaw02_Few.Q (vinculumlaw02_Few.g k) vinculumlaw02_Few.h := (show vinculumlaw02_Few.g k = vinculumlaw02_Few.D.val vinculumlaw02_Few.S k from funext fun _ => by unfold vinculumlaw02_Few.g; rw [vinculumlaw02_Few.f_def]; rfl) ▸ Decl.does (D := vinculumlaw02_Few.D) (S := vinculumlaw02_Few.S) (fn := Go.Proofs.Try.f19) ⟨by kernel_rfl, by kernel_rfl, by kernel_rfl, by kernel_rfl, by kernel_rfl, by kernel_rfl, TT.of_ok _ T0ex, by kernel_rfl⟩ (fun k => trivial) (fun _ _ h => by rw [h rfl]; rfl) k
/-! vinculumlaw02_Of: function 21 -/
def vinculumlaw02_Of.A : AK := .p (.agg (.cons (.bool) (.cons (.row .u64) .nil))) .nil
def vinculumlaw02_Of.Q : RK := .p (.agg (.cons (.bool) (.cons (.row .u64) .nil))) .nil
def vinculumlaw02_Of.h : (Bool × List Int) → vinculumlaw02_Of.Q.T × List Int := fun b => (((b.1, b.2, ()), ()), [])
noncomputable def vinculumlaw02_Of.D : Decl (Bool × List Int) := ⟨(Go.Proofs.Try.f21.body).getD .skip, 8, [.cell 2 26], vinculumlaw02_Of.A, vinculumlaw02_Of.Q, fun y m => (y.1.1, y.1.2.1), T0, [], [], []⟩
noncomputable def vinculumlaw02_Of.S (k : Nat) : List (Nat × E.Spec (Bool × List Int)) := [(48, told _ bigint_From.A bigint_From.Q (bigint_From.g k) bigint_From.h)]
noncomputable def vinculumlaw02_Of.f0 (k : Nat) (a0_0 : Bool) (a0_1 : List Int) : Option (Bool × List Int) := vinculumlaw02_Of.D.val vinculumlaw02_Of.S k ((a0_0, a0_1, ()), ())
noncomputable def vinculumlaw02_Of.f := (still vinculumlaw02_Of.f0).1
theorem vinculumlaw02_Of.f_def : vinculumlaw02_Of.f = vinculumlaw02_Of.f0 := (still vinculumlaw02_Of.f0).2
noncomputable def vinculumlaw02_Of.g (k : Nat) (x : vinculumlaw02_Of.A.T) : Option (Bool × List Int) := vinculumlaw02_Of.f k (x.1.1) (x.1.2.1)
theorem vinculumlaw02_Of.does (k : Nat) : Does PG 21 vinculumlaw02_Of.A vinculumlaw02_Of.Q (vinculumlaw02_Of.g k) vinculumlaw02_Of.h := (show vinculumlaw02_Of.g k = vinculumlaw02_Of.D.val vinculumlaw02_Of.S k from funext fun _ => by unfold vinculumlaw02_Of.g; rw [vinculumlaw02_Of.f_def]; rfl) ▸ Decl.does (D := vinculumlaw02_Of.D) (S := vinculumlaw02_Of.S) (fn := Go.Proofs.Try.f21) ⟨by kernel_rfl, by kernel_rfl, by kernel_rfl, by kernel_rfl, by kernel_rfl, by kernel_rfl, TT.of_ok _ T0ex, by kernel_rfl⟩ (fun k => ⟨told_ok (bigint_From.does k), trivial⟩) (fun _ _ h => by rw [h rfl]; rfl) k
/-! vinculumref01_Of: function 77 -/
def vinculumref01_Of.A : AK := .p (.row .u64) .nil
def vinculumref01_Of.Q : RK := .p (.str) .nil
def vinculumref01_Of.h : ByteArray → vinculumref01_Of.Q.T × List Int := fun b => ((b, ()), [])
noncomputable def vinculumref01_Of.D : Decl ByteArray := ⟨(Go.Proofs.Try.f77.body).getD .skip, 21, [.tmp 2], vinculumref01_Of.A, vinculumref01_Of.Q, fun y m => y.1, T0, [], [(3, [(0, .p (some (.row .u64))), (3, .p (some (.str))), (4, .p (some (.int .i64)))])], []⟩
noncomputable def vinculumref01_Of.S (k : Nat) : List (Nat × E.Spec ByteArray) := [(39, told _ vinculumref01_Word.A vinculumref01_Word.Q (vinculumref01_Word.g k) vinculumref01_Word.h), (67, told _ vinculumref01_Mul.A vinculumref01_Mul.Q (vinculumref01_Mul.g k) vinculumref01_Mul.h), (78, told _ vinculumref01_Add.A vinculumref01_Add.Q (vinculumref01_Add.g k) vinculumref01_Add.h)]
noncomputable def vinculumref01_Of.l3 (k : Nat) (x0 : List Int) (x3 : ByteArray) (x4 : Int) : Option ByteArray := vinculumref01_Of.D.F vinculumref01_Of.S k 7 [.p (.row .u64 x0), .p (.lit (.string x3)), .p (.lit (.int .i64 x4))]
noncomputable def vinculumref01_Of.f0 (k : Nat) (a0 : List Int) : Option ByteArray := vinculumref01_Of.D.val vinculumref01_Of.S k (a0, ())
noncomputable def vinculumref01_Of.f := (still vinculumref01_Of.f0).1
theorem vinculumref01_Of.f_def : vinculumref01_Of.f = vinculumref01_Of.f0 := (still vinculumref01_Of.f0).2
noncomputable def vinculumref01_Of.g (k : Nat) (x : vinculumref01_Of.A.T) : Option ByteArray := vinculumref01_Of.f k (x.1)
theorem vinculumref01_Of.does (k : Nat) : Does PG 77 vinculumref01_Of.A vinculumref01_Of.Q (vinculumref01_Of.g k) vinculumref01_Of.h := (show vinculumref01_Of.g k = vinculumref01_Of.D.val vinculumref01_Of.S k from funext fun _ => by unfold vinculumref01_Of.g; rw [vinculumref01_Of.f_def]; rfl) ▸ Decl.does (D := vinculumref01_Of.D) (S := vinculumref01_Of.S) (fn := Go.Proofs.Try.f77) ⟨by kernel_rfl, by kernel_rfl, by kernel_rfl, by kernel_rfl, by kernel_rfl, by kernel_rfl, TT.of_ok _ T0ex, by kernel_rfl⟩ (fun k => ⟨told_ok (vinculumref01_Word.does k), ⟨told_ok (vinculumref01_Mul.does k), ⟨told_ok (vinculumref01_Add.does k), trivial⟩⟩⟩) (fun _ _ h => by rw [h rfl]; rfl) k
/-! vinculumref02_Of: function 49 -/
def vinculumref02_Of.A : AK := .p (.bool) (.p (.row .u64) .nil)
def vinculumref02_Of.Q : RK := .p (.agg (.cons (.bool) (.cons (.str) .nil))) .nil
def vinculumref02_Of.h : (Bool × ByteArray) → vinculumref02_Of.Q.T × List Int := fun b => (((b.1, b.2, ()), ()), [])
noncomputable def vinculumref02_Of.D : Decl (Bool × ByteArray) := ⟨(Go.Proofs.Try.f49.body).getD .skip, 9, [.cell 4 33], vinculumref02_Of.A, vinculumref02_Of.Q, fun y m => (y.1.1, y.1.2.1), T0, [], [], []⟩
noncomputable def vinculumref02_Of.S (k : Nat) : List (Nat × E.Spec (Bool × ByteArray)) := [(43, told _ vinculumref02_made.A vinculumref02_made.Q (vinculumref02_made.g k) vinculumref02_made.h), (77, told _ vinculumref01_Of.A vinculumref01_Of.Q (vinculumref01_Of.g k) vinculumref01_Of.h)]
noncomputable def vinculumref02_Of.f0 (k : Nat) (a0 : Bool) (a1 : List Int) : Option (Bool × ByteArray) := vinculumref02_Of.D.val vinculumref02_Of.S k (a0, a1, ())
noncomputable def vinculumref02_Of.f := (still vinculumref02_Of.f0).1
theorem vinculumref02_Of.f_def : vinculumref02_Of.f = vinculumref02_Of.f0 := (still vinculumref02_Of.f0).2
noncomputable def vinculumref02_Of.g (k : Nat) (x : vinculumref02_Of.A.T) : Option (Bool × ByteArray) := vinculumref02_Of.f k (x.1) (x.2.1)
theorem vinculumref02_Of.does (k : Nat) : Does PG 49 vinculumref02_Of.A vinculumref02_Of.Q (vinculumref02_Of.g k) vinculumref02_Of.h := (show vinculumref02_Of.g k = vinculumref02_Of.D.val vinculumref02_Of.S k from funext fun _ => by unfold vinculumref02_Of.g; rw [vinculumref02_Of.f_def]; rfl) ▸ Decl.does (D := vinculumref02_Of.D) (S := vinculumref02_Of.S) (fn := Go.Proofs.Try.f49) ⟨by kernel_rfl, by kernel_rfl, by kernel_rfl, by kernel_rfl, by kernel_rfl, by kernel_rfl, TT.of_ok _ T0ex, by kernel_rfl⟩ (fun k => ⟨told_ok (vinculumref02_made.does k), ⟨told_ok (vinculumref01_Of.does k), trivial⟩⟩) (fun _ _ h => by rw [h rfl]; rfl) k
/-! vinculumlaw02_Plain: function 22 -/
def vinculumlaw02_Plain.A : AK := .p (.agg (.cons (.bool) (.cons (.row .u64) .nil))) .nil
def vinculumlaw02_Plain.Q : RK := .p (.agg (.cons (.bool) (.cons (.str) .nil))) .nil
def vinculumlaw02_Plain.h : (Bool × ByteArray) → vinculumlaw02_Plain.Q.T × List Int := fun b => (((b.1, b.2, ()), ()), [])
noncomputable def vinculumlaw02_Plain.D : Decl (Bool × ByteArray) := ⟨(Go.Proofs.Try.f22.body).getD .skip, 8, [.cell 2 33], vinculumlaw02_Plain.A, vinculumlaw02_Plain.Q, fun y m => (y.1.1, y.1.2.1), T0, [], [], []⟩
noncomputable def vinculumlaw02_Plain.S (k : Nat) : List (Nat × E.Spec (Bool × ByteArray)) := [(49, told _ vinculumref02_Of.A vinculumref02_Of.Q (vinculumref02_Of.g k) vinculumref02_Of.h)]
noncomputable def vinculumlaw02_Plain.f0 (k : Nat) (a0_0 : Bool) (a0_1 : List Int) : Option (Bool × ByteArray) := vinculumlaw02_Plain.D.val vinculumlaw02_Plain.S k ((a0_0, a0_1, ()), ())
noncomputable def vinculumlaw02_Plain.f := (still vinculumlaw02_Plain.f0).1
theorem vinculumlaw02_Plain.f_def : vinculumlaw02_Plain.f = vinculumlaw02_Plain.f0 := (still vinculumlaw02_Plain.f0).2
noncomputable def vinculumlaw02_Plain.g (k : Nat) (x : vinculumlaw02_Plain.A.T) : Option (Bool × ByteArray) := vinculumlaw02_Plain.f k (x.1.1) (x.1.2.1)
theorem vinculumlaw02_Plain.does (k : Nat) : Does PG 22 vinculumlaw02_Plain.A vinculumlaw02_Plain.Q (vinculumlaw02_Plain.g k) vinculumlaw02_Plain.h := (show vinculumlaw02_Plain.g k = vinculumlaw02_Plain.D.val vinculumlaw02_Plain.S k from funext fun _ => by unfold vinculumlaw02_Plain.g; rw [vinculumlaw02_Plain.f_def]; rfl) ▸ Decl.does (D := vinculumlaw02_Plain.D) (S := vinculumlaw02_Plain.S) (fn := Go.Proofs.Try.f22) ⟨by kernel_rfl, by kernel_rfl, by kernel_rfl, by kernel_rfl, by kernel_rfl, by kernel_rfl, TT.of_ok _ T0ex, by kernel_rfl⟩ (fun k => ⟨told_ok (vinculumref02_Of.does k), trivial⟩) (fun _ _ h => by rw [h rfl]; rfl) k
/-! vinculumref02_Cmp: function 50 -/
def vinculumref02_Cmp.A : AK := .p (.agg (.cons (.bool) (.cons (.str) .nil))) (.p (.agg (.cons (.bool) (.cons (.str) .nil))) .nil)
def vinculumref02_Cmp.Q : RK := .p (.int .i64) .nil
def vinculumref02_Cmp.h : Int → vinculumref02_Cmp.Q.T × List Int := fun b => ((b, ()), [])
noncomputable def vinculumref02_Cmp.D : Decl Int := ⟨(Go.Proofs.Try.f50.body).getD .skip, 9, [.tmp 4], vinculumref02_Cmp.A, vinculumref02_Cmp.Q, fun y m => y.1, T0, [], [], []⟩
noncomputable def vinculumref02_Cmp.S (k : Nat) : List (Nat × E.Spec Int) := [(23, told _ vinculumref02_Sign.A vinculumref02_Sign.Q (vinculumref02_Sign.g k) vinculumref02_Sign.h), (52, told _ vinculumref02_Sub.A vinculumref02_Sub.Q (vinculumref02_Sub.g k) vinculumref02_Sub.h)]
noncomputable def vinculumref02_Cmp.f0 (k : Nat) (a0_0 : Bool) (a0_1 : ByteArray) (a1_0 : Bool) (a1_1 : ByteArray) : Option Int := vinculumref02_Cmp.D.val vinculumref02_Cmp.S k ((a0_0, a0_1, ()), (a1_0, a1_1, ()), ())
noncomputable def vinculumref02_Cmp.f := (still vinculumref02_Cmp.f0).1
theorem vinculumref02_Cmp.f_def : vinculumref02_Cmp.f = vinculumref02_Cmp.f0 := (still vinculumref02_Cmp.f0).2
noncomputable def vinculumref02_Cmp.g (k : Nat) (x : vinculumref02_Cmp.A.T) : Option Int := vinculumref02_Cmp.f k (x.1.1) (x.1.2.1) (x.2.1.1) (x.2.1.2.1)
theorem vinculumref02_Cmp.does (k : Nat) : Does PG 50 vinculumref02_Cmp.A vinculumref02_Cmp.Q (vinculumref02_Cmp.g k) vinculumref02_Cmp.h := (show vinculumref02_Cmp.g k = vinculumref02_Cmp.D.val vinculumref02_Cmp.S k from funext fun _ => by unfold vinculumref02_Cmp.g; rw [vinculumref02_Cmp.f_def]; rfl) ▸ Decl.does (D := vinculumref02_Cmp.D) (S := vinculumref02_Cmp.S) (fn := Go.Proofs.Try.f50) ⟨by kernel_rfl, by kernel_rfl, by kernel_rfl, by kernel_rfl, by kernel_rfl, by kernel_rfl, TT.of_ok _ T0ex, by kernel_rfl⟩ (fun k => ⟨told_ok (vinculumref02_Sign.does k), ⟨told_ok (vinculumref02_Sub.does k), trivial⟩⟩) (fun _ _ h => by rw [h rfl]; rfl) k
/-! vinculumref05_Near: function 24 -/
def vinculumref05_Near.A : AK := .p (.agg (.cons (.bool) (.cons (.str) .nil))) (.p (.agg (.cons (.bool) (.cons (.str) .nil))) .nil)
def vinculumref05_Near.Q : RK := .p (.agg (.cons (.bool) (.cons (.str) .nil))) .nil
def vinculumref05_Near.h : (Bool × ByteArray) → vinculumref05_Near.Q.T × List Int := fun b => (((b.1, b.2, ()), ()), [])
noncomputable def vinculumref05_Near.D : Decl (Bool × ByteArray) := ⟨(Go.Proofs.Try.f24.body).getD .skip, 23, [.cell 4 33], vinculumref05_Near.A, vinculumref05_Near.Q, fun y m => (y.1.1, y.1.2.1), T0, [], [], []⟩
noncomputable def vinculumref05_Near.S (k : Nat) : List (Nat × E.Spec (Bool × ByteArray)) := [(45, told _ vinculumref02_DivMod.A vinculumref02_DivMod.Q (vinculumref02_DivMod.g k) vinculumref02_DivMod.h), (50, told _ vinculumref02_Cmp.A vinculumref02_Cmp.Q (vinculumref02_Cmp.g k) vinculumref02_Cmp.h), (51, told _ vinculumref02_Add.A vinculumref02_Add.Q (vinculumref02_Add.g k) vinculumref02_Add.h), (52, told _ vinculumref02_Sub.A vinculumref02_Sub.Q (vinculumref02_Sub.g k) vinculumref02_Sub.h)]
noncomputable def vinculumref05_Near.f0 (k : Nat) (a0_0 : Bool) (a0_1 : ByteArray) (a1_0 : Bool) (a1_1 : ByteArray) : Option (Bool × ByteArray) := vinculumref05_Near.D.val vinculumref05_Near.S k ((a0_0, a0_1, ()), (a1_0, a1_1, ()), ())
noncomputable def vinculumref05_Near.f := (still vinculumref05_Near.f0).1
theorem vinculumref05_Near.f_def : vinculumref05_Near.f = vinculumref05_Near.f0 := (still vinculumref05_Near.f0).2
noncomputable def vinculumref05_Near.g (k : Nat) (x : vinculumref05_Near.A.T) : Option (Bool × ByteArray) := vinculumref05_Near.f k (x.1.1) (x.1.2.1) (x.2.1.1) (x.2.1.2.1)
theorem vinculumref05_Near.does (k : Nat) : Does PG 24 vinculumref05_Near.A vinculumref05_Near.Q (vinculumref05_Near.g k) vinculumref05_Near.h := (show vinculumref05_Near.g k = vinculumref05_Near.D.val vinculumref05_Near.S k from funext fun _ => by unfold vinculumref05_Near.g; rw [vinculumref05_Near.f_def]; rfl) ▸ Decl.does (D := vinculumref05_Near.D) (S := vinculumref05_Near.S) (fn := Go.Proofs.Try.f24) ⟨by kernel_rfl, by kernel_rfl, by kernel_rfl, by kernel_rfl, by kernel_rfl, by kernel_rfl, TT.of_ok _ T0ex, by kernel_rfl⟩ (fun k => ⟨told_ok (vinculumref02_DivMod.does k), ⟨told_ok (vinculumref02_Cmp.does k), ⟨told_ok (vinculumref02_Add.does k), ⟨told_ok (vinculumref02_Sub.does k), trivial⟩⟩⟩⟩) (fun _ _ h => by rw [h rfl]; rfl) k
/-! vinculumlaw05_CrtNears: function 4 -/
def vinculumlaw05_CrtNears.A : AK := .p (.agg (.cons (.bool) (.cons (.row .u64) .nil))) (.p (.agg (.cons (.bool) (.cons (.row .u64) .nil))) .nil)
def vinculumlaw05_CrtNears.Q : RK := .p (.bool) .nil
def vinculumlaw05_CrtNears.h : Bool → vinculumlaw05_CrtNears.Q.T × List Int := fun b => ((b, ()), [])
noncomputable def vinculumlaw05_CrtNears.D : Decl Bool := ⟨(Go.Proofs.Try.f4.body).getD .skip, 53, [.tmp 4], vinculumlaw05_CrtNears.A, vinculumlaw05_CrtNears.Q, fun y m => y.1, T0, [], [], []⟩
noncomputable def vinculumlaw05_CrtNears.S (k : Nat) : List (Nat × E.Spec Bool) := [(9, told _ vinculumlaw05_awake.A vinculumlaw05_awake.Q (vinculumlaw05_awake.g k) vinculumlaw05_awake.h), (12, told _ bigint_Int_Sign.A bigint_Int_Sign.Q (bigint_Int_Sign.g k) bigint_Int_Sign.h), (14, told _ vinculumlaw02_Is.A vinculumlaw02_Is.Q (vinculumlaw02_Is.g k) vinculumlaw02_Is.h), (19, told _ vinculumlaw02_Few.A vinculumlaw02_Few.Q (vinculumlaw02_Few.g k) vinculumlaw02_Few.h), (20, told _ crt_Near.A crt_Near.Q (crt_Near.g k) crt_Near.h), (21, told _ vinculumlaw02_Of.A vinculumlaw02_Of.Q (vinculumlaw02_Of.g k) vinculumlaw02_Of.h), (22, told _ vinculumlaw02_Plain.A vinculumlaw02_Plain.Q (vinculumlaw02_Plain.g k) vinculumlaw02_Plain.h), (23, told _ vinculumref02_Sign.A vinculumref02_Sign.Q (vinculumref02_Sign.g k) vinculumref02_Sign.h), (24, told _ vinculumref05_Near.A vinculumref05_Near.Q (vinculumref05_Near.g k) vinculumref05_Near.h)]
noncomputable def vinculumlaw05_CrtNears.f0 (k : Nat) (a0_0 : Bool) (a0_1 : List Int) (a1_0 : Bool) (a1_1 : List Int) : Option Bool := vinculumlaw05_CrtNears.D.val vinculumlaw05_CrtNears.S k ((a0_0, a0_1, ()), (a1_0, a1_1, ()), ())
noncomputable def vinculumlaw05_CrtNears.f := (still vinculumlaw05_CrtNears.f0).1
theorem vinculumlaw05_CrtNears.f_def : vinculumlaw05_CrtNears.f = vinculumlaw05_CrtNears.f0 := (still vinculumlaw05_CrtNears.f0).2
noncomputable def vinculumlaw05_CrtNears.g (k : Nat) (x : vinculumlaw05_CrtNears.A.T) : Option Bool := vinculumlaw05_CrtNears.f k (x.1.1) (x.1.2.1) (x.2.1.1) (x.2.1.2.1)
theorem vinculumlaw05_CrtNears.does (k : Nat) : Does PG 4 vinculumlaw05_CrtNears.A vinculumlaw05_CrtNears.Q (vinculumlaw05_CrtNears.g k) vinculumlaw05_CrtNears.h := (show vinculumlaw05_CrtNears.g k = vinculumlaw05_CrtNears.D.val vinculumlaw05_CrtNears.S k from funext fun _ => by unfold vinculumlaw05_CrtNears.g; rw [vinculumlaw05_CrtNears.f_def]; rfl) ▸ Decl.does (D := vinculumlaw05_CrtNears.D) (S := vinculumlaw05_CrtNears.S) (fn := Go.Proofs.Try.f4) ⟨by kernel_rfl, by kernel_rfl, by kernel_rfl, by kernel_rfl, by kernel_rfl, by kernel_rfl, TT.of_ok _ T0ex, by kernel_rfl⟩ (fun k => ⟨told_ok (vinculumlaw05_awake.does k), ⟨told_ok (bigint_Int_Sign.does k), ⟨told_ok (vinculumlaw02_Is.does k), ⟨told_ok (vinculumlaw02_Few.does k), ⟨told_ok (crt_Near.does k), ⟨told_ok (vinculumlaw02_Of.does k), ⟨told_ok (vinculumlaw02_Plain.does k), ⟨told_ok (vinculumref02_Sign.does k), ⟨told_ok (vinculumref05_Near.does k), trivial⟩⟩⟩⟩⟩⟩⟩⟩⟩) (fun _ _ h => by rw [h rfl]; rfl) k
/-! bigint_Int_Exact: function 30 -/
def bigint_Int_Exact.A : AK := .p (.agg (.cons (.bool) (.cons (.row .u64) .nil))) (.p (.agg (.cons (.bool) (.cons (.row .u64) .nil))) .nil)
def bigint_Int_Exact.Q : RK := .p (.agg (.cons (.bool) (.cons (.row .u64) .nil))) (.p (.int .i64) .nil)
def bigint_Int_Exact.h : (Bool × List Int × Int) → bigint_Int_Exact.Q.T × List Int := fun b => (((b.1, b.2.1, ()), b.2.2, ()), [])
noncomputable def bigint_Int_Exact.D : Decl (Bool × List Int × Int) := ⟨(Go.Proofs.Try.f30.body).getD .skip, 27, [.cell 4 26, .tmp 5], bigint_Int_Exact.A, bigint_Int_Exact.Q, fun y m => (y.1.1, y.1.2.1, y.2.1), T0, [], [], []⟩
noncomputable def bigint_Int_Exact.S (k : Nat) : List (Nat × E.Spec (Bool × List Int × Int)) := [(12, told _ bigint_Int_Sign.A bigint_Int_Sign.Q (bigint_Int_Sign.g k) bigint_Int_Sign.h), (60, told _ bigint_Int_QuoRem.A bigint_Int_QuoRem.Q (bigint_Int_QuoRem.g k) bigint_Int_QuoRem.h)]
noncomputable def bigint_Int_Exact.f0 (k : Nat) (a0_0 : Bool) (a0_1 : List Int) (a1_0 : Bool) (a1_1 : List Int) : Option (Bool × List Int × Int) := bigint_Int_Exact.D.val bigint_Int_Exact.S k ((a0_0, a0_1, ()), (a1_0, a1_1, ()), ())
noncomputable def bigint_Int_Exact.f := (still bigint_Int_Exact.f0).1
theorem bigint_Int_Exact.f_def : bigint_Int_Exact.f = bigint_Int_Exact.f0 := (still bigint_Int_Exact.f0).2
noncomputable def bigint_Int_Exact.g (k : Nat) (x : bigint_Int_Exact.A.T) : Option (Bool × List Int × Int) := bigint_Int_Exact.f k (x.1.1) (x.1.2.1) (x.2.1.1) (x.2.1.2.1)
theorem bigint_Int_Exact.does (k : Nat) : Does PG 30 bigint_Int_Exact.A bigint_Int_Exact.Q (bigint_Int_Exact.g k) bigint_Int_Exact.h := (show bigint_Int_Exact.g k = bigint_Int_Exact.D.val bigint_Int_Exact.S k from funext fun _ => by unfold bigint_Int_Exact.g; rw [bigint_Int_Exact.f_def]; rfl) ▸ Decl.does (D := bigint_Int_Exact.D) (S := bigint_Int_Exact.S) (fn := Go.Proofs.Try.f30) ⟨by kernel_rfl, by kernel_rfl, by kernel_rfl, by kernel_rfl, by kernel_rfl, by kernel_rfl, TT.of_ok _ T0ex, by kernel_rfl⟩ (fun k => ⟨told_ok (bigint_Int_Sign.does k), ⟨told_ok (bigint_Int_QuoRem.does k), trivial⟩⟩) (fun _ _ h => by rw [h rfl]; rfl) k
/-! vinculumlaw05_CrtSteps: function 5 -/
def vinculumlaw05_CrtSteps.A : AK := .p (.agg (.cons (.bool) (.cons (.row .u64) .nil))) (.p (.agg (.cons (.bool) (.cons (.row .u64) .nil))) (.p (.agg (.cons (.int .u64) (.cons (.int .u64) .nil))) .nil))
def vinculumlaw05_CrtSteps.Q : RK := .p (.bool) .nil
def vinculumlaw05_CrtSteps.h : Bool → vinculumlaw05_CrtSteps.Q.T × List Int := fun b => ((b, ()), [])
noncomputable def vinculumlaw05_CrtSteps.D : Decl Bool := ⟨(Go.Proofs.Try.f5.body).getD .skip, 175, [.tmp 6], vinculumlaw05_CrtSteps.A, vinculumlaw05_CrtSteps.Q, fun y m => y.1, T0, [], [], []⟩
noncomputable def vinculumlaw05_CrtSteps.S (k : Nat) : List (Nat × E.Spec Bool) := [(9, told _ vinculumlaw05_awake.A vinculumlaw05_awake.Q (vinculumlaw05_awake.g k) vinculumlaw05_awake.h), (12, told _ bigint_Int_Sign.A bigint_Int_Sign.Q (bigint_Int_Sign.g k) bigint_Int_Sign.h), (15, told _ bigint_Int_Cmp.A bigint_Int_Cmp.Q (bigint_Int_Cmp.g k) bigint_Int_Cmp.h), (17, told _ bigint_Int_Print.A bigint_Int_Print.Q (bigint_Int_Print.g k) bigint_Int_Print.h), (18, told _ vinculumref05_Left.A vinculumref05_Left.Q (vinculumref05_Left.g k) vinculumref05_Left.h), (21, told _ vinculumlaw02_Of.A vinculumlaw02_Of.Q (vinculumlaw02_Of.g k) vinculumlaw02_Of.h), (22, told _ vinculumlaw02_Plain.A vinculumlaw02_Plain.Q (vinculumlaw02_Plain.g k) vinculumlaw02_Plain.h), (25, told _ crt_Step.A crt_Step.Q (crt_Step.g k) crt_Step.h), (26, told _ vinculumref03_May.A vinculumref03_May.Q (vinculumref03_May.g k) vinculumref03_May.h), (27, told _ vinculumref03_Gcd.A vinculumref03_Gcd.Q (vinculumref03_Gcd.g k) vinculumref03_Gcd.h), (28, told _ bigint_Int_DivMod.A bigint_Int_DivMod.Q (bigint_Int_DivMod.g k) bigint_Int_DivMod.h), (29, told _ bigint_Int_Mod.A bigint_Int_Mod.Q (bigint_Int_Mod.g k) bigint_Int_Mod.h), (30, told _ bigint_Int_Exact.A bigint_Int_Exact.Q (bigint_Int_Exact.g k) bigint_Int_Exact.h)]
noncomputable def vinculumlaw05_CrtSteps.f0 (k : Nat) (a0_0 : Bool) (a0_1 : List Int) (a1_0 : Bool) (a1_1 : List Int) (a2_0 : Int) (a2_1 : Int) : Option Bool := vinculumlaw05_CrtSteps.D.val vinculumlaw05_CrtSteps.S k ((a0_0, a0_1, ()), (a1_0, a1_1, ()), (a2_0, a2_1, ()), ())
noncomputable def vinculumlaw05_CrtSteps.f := (still vinculumlaw05_CrtSteps.f0).1
theorem vinculumlaw05_CrtSteps.f_def : vinculumlaw05_CrtSteps.f = vinculumlaw05_CrtSteps.f0 := (still vinculumlaw05_CrtSteps.f0).2
noncomputable def vinculumlaw05_CrtSteps.g (k : Nat) (x : vinculumlaw05_CrtSteps.A.T) : Option Bool := vinculumlaw05_CrtSteps.f k (x.1.1) (x.1.2.1) (x.2.1.1) (x.2.1.2.1) (x.2.2.1.1) (x.2.2.1.2.1)
theorem vinculumlaw05_CrtSteps.does (k : Nat) : Does PG 5 vinculumlaw05_CrtSteps.A vinculumlaw05_CrtSteps.Q (vinculumlaw05_CrtSteps.g k) vinculumlaw05_CrtSteps.h := (show vinculumlaw05_CrtSteps.g k = vinculumlaw05_CrtSteps.D.val vinculumlaw05_CrtSteps.S k from funext fun _ => by unfold vinculumlaw05_CrtSteps.g; rw [vinculumlaw05_CrtSteps.f_def]; rfl) ▸ Decl.does (D := vinculumlaw05_CrtSteps.D) (S := vinculumlaw05_CrtSteps.S) (fn := Go.Proofs.Try.f5) ⟨by kernel_rfl, by kernel_rfl, by kernel_rfl, by kernel_rfl, by kernel_rfl, by kernel_rfl, TT.of_ok _ T0ex, by kernel_rfl⟩ (fun k => ⟨told_ok (vinculumlaw05_awake.does k), ⟨told_ok (bigint_Int_Sign.does k), ⟨told_ok (bigint_Int_Cmp.does k), ⟨told_ok (bigint_Int_Print.does k), ⟨told_ok (vinculumref05_Left.does k), ⟨told_ok (vinculumlaw02_Of.does k), ⟨told_ok (vinculumlaw02_Plain.does k), ⟨told_ok (crt_Step.does k), ⟨told_ok (vinculumref03_May.does k), ⟨told_ok (vinculumref03_Gcd.does k), ⟨told_ok (bigint_Int_DivMod.does k), ⟨told_ok (bigint_Int_Mod.does k), ⟨told_ok (bigint_Int_Exact.does k), trivial⟩⟩⟩⟩⟩⟩⟩⟩⟩⟩⟩⟩⟩) (fun _ _ h => by rw [h rfl]; rfl) k
/-! crt_Parts: function 31 -/
def crt_Parts.A : AK := .p (.agg (.cons (.bool) (.cons (.row .u64) .nil))) (.p (.row .u64) .nil)
def crt_Parts.Q : RK := .o .u64 40 (.p (.int .i64) .nil)
def crt_Parts.h : (List Int × Int) → crt_Parts.Q.T × List Int := fun b => (((b.1), b.2, ()), [])
noncomputable def crt_Parts.D : Decl (List Int × Int) := ⟨(Go.Proofs.Try.f31.body).getD .skip, 44, [.tmp 4, .tmp 5], crt_Parts.A, crt_Parts.Q, fun y m => (y.1, y.2.1), T0, [], [(9, [(2, .b (some (.cons (.bool) (.cons (.row .u64) .nil)))), (8, .m .u64 40), (23, .p (some (.row .u64))), (24, .p (some (.int .i64))), (25, .p (some (.int .i64)))]), (2, [(1, .p (some (.row .u64))), (2, .b (some (.cons (.bool) (.cons (.row .u64) .nil)))), (13, .p (some (.row .u64))), (14, .p (some (.int .i64))), (15, .p (some (.int .i64)))])], []⟩
noncomputable def crt_Parts.S (k : Nat) : List (Nat × E.Spec (List Int × Int)) := [(29, told _ bigint_Int_Mod.A bigint_Int_Mod.Q (bigint_Int_Mod.g k) bigint_Int_Mod.h), (53, told _ crt_may.A crt_may.Q (crt_may.g k) crt_may.h)]
noncomputable def crt_Parts.l9 (k : Nat) (x2_0 : Bool) (x2_1 : List Int) (x8 : List Int) (x23 : List Int) (x24 : Int) (x25 : Int) : Option (List Int × Int) := crt_Parts.D.F crt_Parts.S k 19 [.b 26 [.lit (.bool x2_0), .row .u64 x2_1], .m x8, .p (.row .u64 x23), .p (.lit (.int .i64 x24)), .p (.lit (.int .i64 x25))]
noncomputable def crt_Parts.l2 (k : Nat) (x1 : List Int) (x2_0 : Bool) (x2_1 : List Int) (x13 : List Int) (x14 : Int) (x15 : Int) : Option (List Int × Int) := crt_Parts.D.F crt_Parts.S k 5 [.p (.row .u64 x1), .b 26 [.lit (.bool x2_0), .row .u64 x2_1], .p (.row .u64 x13), .p (.lit (.int .i64 x14)), .p (.lit (.int .i64 x15))]
noncomputable def crt_Parts.f0 (k : Nat) (a0_0 : Bool) (a0_1 : List Int) (a1 : List Int) : Option (List Int × Int) := crt_Parts.D.val crt_Parts.S k ((a0_0, a0_1, ()), a1, ())
noncomputable def crt_Parts.f := (still crt_Parts.f0).1
theorem crt_Parts.f_def : crt_Parts.f = crt_Parts.f0 := (still crt_Parts.f0).2
noncomputable def crt_Parts.g (k : Nat) (x : crt_Parts.A.T) : Option (List Int × Int) := crt_Parts.f k (x.1.1) (x.1.2.1) (x.2.1)
theorem crt_Parts.does (k : Nat) : Does PG 31 crt_Parts.A crt_Parts.Q (crt_Parts.g k) crt_Parts.h := (show crt_Parts.g k = crt_Parts.D.val crt_Parts.S k from funext fun _ => by unfold crt_Parts.g; rw [crt_Parts.f_def]; rfl) ▸ Decl.does (D := crt_Parts.D) (S := crt_Parts.S) (fn := Go.Proofs.Try.f31) ⟨by kernel_rfl, by kernel_rfl, by kernel_rfl, by kernel_rfl, by kernel_rfl, by kernel_rfl, TT.of_ok _ T0ex, by kernel_rfl⟩ (fun k => ⟨told_ok (bigint_Int_Mod.does k), ⟨told_ok (crt_may.does k), trivial⟩⟩) (fun _ _ h => by rw [h rfl]; rfl) k
/-! vinculumlaw05_CrtParts: function 6 -/
def vinculumlaw05_CrtParts.A : AK := .p (.agg (.cons (.bool) (.cons (.row .u64) .nil))) (.p (.row .u64) .nil)
def vinculumlaw05_CrtParts.Q : RK := .p (.bool) .nil
def vinculumlaw05_CrtParts.h : Bool → vinculumlaw05_CrtParts.Q.T × List Int := fun b => ((b, ()), [])
noncomputable def vinculumlaw05_CrtParts.D : Decl Bool := ⟨(Go.Proofs.Try.f6.body).getD .skip, 75, [.tmp 4], vinculumlaw05_CrtParts.A, vinculumlaw05_CrtParts.Q, fun y m => y.1, T0, [], [(12, [(1, .p (some (.row .u64))), (2, .b (some (.cons (.bool) (.cons (.row .u64) .nil)))), (5, .p (some (.row .u64))), (8, .p (some (.int .i64)))]), (5, [(1, .p (some (.row .u64))), (2, .b (some (.cons (.bool) (.cons (.row .u64) .nil)))), (5, .p (some (.row .u64))), (6, .p (some (.int .i64))), (7, .p (some (.int .i64)))])], []⟩
noncomputable def vinculumlaw05_CrtParts.S (k : Nat) : List (Nat × E.Spec Bool) := [(9, told _ vinculumlaw05_awake.A vinculumlaw05_awake.Q (vinculumlaw05_awake.g k) vinculumlaw05_awake.h), (18, told _ vinculumref05_Left.A vinculumref05_Left.Q (vinculumref05_Left.g k) vinculumref05_Left.h), (19, told _ vinculumlaw02_Few.A vinculumlaw02_Few.Q (vinculumlaw02_Few.g k) vinculumlaw02_Few.h), (21, told _ vinculumlaw02_Of.A vinculumlaw02_Of.Q (vinculumlaw02_Of.g k) vinculumlaw02_Of.h), (22, told _ vinculumlaw02_Plain.A vinculumlaw02_Plain.Q (vinculumlaw02_Plain.g k) vinculumlaw02_Plain.h), (26, told _ vinculumref03_May.A vinculumref03_May.Q (vinculumref03_May.g k) vinculumref03_May.h), (31, told _ crt_Parts.A crt_Parts.Q (crt_Parts.g k) crt_Parts.h)]
noncomputable def vinculumlaw05_CrtParts.l12 (k : Nat) (x1 : List Int) (x2_0 : Bool) (x2_1 : List Int) (x5 : List Int) (x8 : Int) : Option Bool := vinculumlaw05_CrtParts.D.F vinculumlaw05_CrtParts.S k 25 [.p (.row .u64 x1), .b 44 [.lit (.bool x2_0), .row .u64 x2_1], .p (.row .u64 x5), .p (.lit (.int .i64 x8))]
noncomputable def vinculumlaw05_CrtParts.l5 (k : Nat) (x1 : List Int) (x2_0 : Bool) (x2_1 : List Int) (x5 : List Int) (x6 : Int) (x7 : Int) : Option Bool := vinculumlaw05_CrtParts.D.F vinculumlaw05_CrtParts.S k 11 [.p (.row .u64 x1), .b 44 [.lit (.bool x2_0), .row .u64 x2_1], .p (.row .u64 x5), .p (.lit (.int .i64 x6)), .p (.lit (.int .i64 x7))]
noncomputable def vinculumlaw05_CrtParts.f0 (k : Nat) (a0_0 : Bool) (a0_1 : List Int) (a1 : List Int) : Option Bool := vinculumlaw05_CrtParts.D.val vinculumlaw05_CrtParts.S k ((a0_0, a0_1, ()), a1, ())
noncomputable def vinculumlaw05_CrtParts.f := (still vinculumlaw05_CrtParts.f0).1
theorem vinculumlaw05_CrtParts.f_def : vinculumlaw05_CrtParts.f = vinculumlaw05_CrtParts.f0 := (still vinculumlaw05_CrtParts.f0).2
noncomputable def vinculumlaw05_CrtParts.g (k : Nat) (x : vinculumlaw05_CrtParts.A.T) : Option Bool := vinculumlaw05_CrtParts.f k (x.1.1) (x.1.2.1) (x.2.1)
theorem vinculumlaw05_CrtParts.does (k : Nat) : Does PG 6 vinculumlaw05_CrtParts.A vinculumlaw05_CrtParts.Q (vinculumlaw05_CrtParts.g k) vinculumlaw05_CrtParts.h := (show vinculumlaw05_CrtParts.g k = vinculumlaw05_CrtParts.D.val vinculumlaw05_CrtParts.S k from funext fun _ => by unfold vinculumlaw05_CrtParts.g; rw [vinculumlaw05_CrtParts.f_def]; rfl) ▸ Decl.does (D := vinculumlaw05_CrtParts.D) (S := vinculumlaw05_CrtParts.S) (fn := Go.Proofs.Try.f6) ⟨by kernel_rfl, by kernel_rfl, by kernel_rfl, by kernel_rfl, by kernel_rfl, by kernel_rfl, TT.of_ok _ T0ex, by kernel_rfl⟩ (fun k => ⟨told_ok (vinculumlaw05_awake.does k), ⟨told_ok (vinculumref05_Left.does k), ⟨told_ok (vinculumlaw02_Few.does k), ⟨told_ok (vinculumlaw02_Of.does k), ⟨told_ok (vinculumlaw02_Plain.does k), ⟨told_ok (vinculumref03_May.does k), ⟨told_ok (crt_Parts.does k), trivial⟩⟩⟩⟩⟩⟩⟩) (fun _ _ h => by rw [h rfl]; rfl) k
/-! crt_Join: function 32 -/
def crt_Join.A : AK := .p (.row .u64) (.p (.row .u64) .nil)
def crt_Join.Q : RK := .p (.agg (.cons (.bool) (.cons (.row .u64) .nil))) (.p (.int .i64) .nil)
def crt_Join.h : (Bool × List Int × Int) → crt_Join.Q.T × List Int := fun b => (((b.1, b.2.1, ()), b.2.2, ()), [])
noncomputable def crt_Join.D : Decl (Bool × List Int × Int) := ⟨(Go.Proofs.Try.f32.body).getD .skip, 25, [.cell 4 26, .tmp 5], crt_Join.A, crt_Join.Q, fun y m => (y.1.1, y.1.2.1, y.2.1), T0, [], [], []⟩
noncomputable def crt_Join.S (k : Nat) : List (Nat × E.Spec (Bool × List Int × Int)) := [(10, told _ crt_Lift.A crt_Lift.Q (crt_Lift.g k) crt_Lift.h), (20, told _ crt_Near.A crt_Near.Q (crt_Near.g k) crt_Near.h)]
noncomputable def crt_Join.f0 (k : Nat) (a0 : List Int) (a1 : List Int) : Option (Bool × List Int × Int) := crt_Join.D.val crt_Join.S k (a0, a1, ())
noncomputable def crt_Join.f := (still crt_Join.f0).1
theorem crt_Join.f_def : crt_Join.f = crt_Join.f0 := (still crt_Join.f0).2
noncomputable def crt_Join.g (k : Nat) (x : crt_Join.A.T) : Option (Bool × List Int × Int) := crt_Join.f k (x.1) (x.2.1)
theorem crt_Join.does (k : Nat) : Does PG 32 crt_Join.A crt_Join.Q (crt_Join.g k) crt_Join.h := (show crt_Join.g k = crt_Join.D.val crt_Join.S k from funext fun _ => by unfold crt_Join.g; rw [crt_Join.f_def]; rfl) ▸ Decl.does (D := crt_Join.D) (S := crt_Join.S) (fn := Go.Proofs.Try.f32) ⟨by kernel_rfl, by kernel_rfl, by kernel_rfl, by kernel_rfl, by kernel_rfl, by kernel_rfl, TT.of_ok _ T0ex, by kernel_rfl⟩ (fun k => ⟨told_ok (crt_Lift.does k), ⟨told_ok (crt_Near.does k), trivial⟩⟩) (fun _ _ h => by rw [h rfl]; rfl) k
/-! nat_up: function 86 -/
def nat_up.A : AK := .p (.row .u64) (.p (.int .i64) .nil)
def nat_up.Q : RK := .o .u64 40 .nil
def nat_up.h : List Int → nat_up.Q.T × List Int := fun b => (((b), ()), [])
noncomputable def nat_up.D : Decl (List Int) := ⟨(Go.Proofs.Try.f86.body).getD .skip, 16, [.tmp 4], nat_up.A, nat_up.Q, fun y m => y.1, T0, [], [], []⟩
noncomputable def nat_up.S (k : Nat) : List (Nat × E.Spec (List Int)) := []
noncomputable def nat_up.f0 (k : Nat) (a0 : List Int) (a1 : Int) : Option (List Int) := nat_up.D.val nat_up.S k (a0, a1, ())
noncomputable def nat_up.f := (still nat_up.f0).1
theorem nat_up.f_def : nat_up.f = nat_up.f0 := (still nat_up.f0).2
noncomputable def nat_up.g (k : Nat) (x : nat_up.A.T) : Option (List Int) := nat_up.f k (x.1) (x.2.1)
theorem nat_up.does (k : Nat) : Does PG 86 nat_up.A nat_up.Q (nat_up.g k) nat_up.h := (show nat_up.g k = nat_up.D.val nat_up.S k from funext fun _ => by unfold nat_up.g; rw [nat_up.f_def]; rfl) ▸ Decl.does (D := nat_up.D) (S := nat_up.S) (fn := Go.Proofs.Try.f86) ⟨by kernel_rfl, by kernel_rfl, by kernel_rfl, by kernel_rfl, by kernel_rfl, by kernel_rfl, TT.of_ok _ T0ex, by kernel_rfl⟩ (fun k => trivial) (fun _ _ h => by rw [h rfl]; rfl) k
/-! nat_Shl: function 62 -/
def nat_Shl.A : AK := .p (.row .u64) (.p (.int .i64) .nil)
def nat_Shl.Q : RK := .p (.row .u64) (.p (.int .i64) .nil)
def nat_Shl.h : (List Int × Int) → nat_Shl.Q.T × List Int := fun b => ((b.1, b.2, ()), [])
noncomputable def nat_Shl.D : Decl (List Int × Int) := ⟨(Go.Proofs.Try.f62.body).getD .skip, 22, [.tmp 4, .tmp 5], nat_Shl.A, nat_Shl.Q, fun y m => (y.1, y.2.1), T0, [], [], []⟩
noncomputable def nat_Shl.S (k : Nat) : List (Nat × E.Spec (List Int × Int)) := [(70, told _ nat_trim.A nat_trim.Q (nat_trim.g k) nat_trim.h), (86, told _ nat_up.A nat_up.Q (nat_up.g k) nat_up.h), (87, told _ nat_shifted.A nat_shifted.Q (nat_shifted.g k) nat_shifted.h)]
noncomputable def nat_Shl.f0 (k : Nat) (a0 : List Int) (a1 : Int) : Option (List Int × Int) := nat_Shl.D.val nat_Shl.S k (a0, a1, ())
noncomputable def nat_Shl.f := (still nat_Shl.f0).1
theorem nat_Shl.f_def : nat_Shl.f = nat_Shl.f0 := (still nat_Shl.f0).2
noncomputable def nat_Shl.g (k : Nat) (x : nat_Shl.A.T) : Option (List Int × Int) := nat_Shl.f k (x.1) (x.2.1)
theorem nat_Shl.does (k : Nat) : Does PG 62 nat_Shl.A nat_Shl.Q (nat_Shl.g k) nat_Shl.h := (show nat_Shl.g k = nat_Shl.D.val nat_Shl.S k from funext fun _ => by unfold nat_Shl.g; rw [nat_Shl.f_def]; rfl) ▸ Decl.does (D := nat_Shl.D) (S := nat_Shl.S) (fn := Go.Proofs.Try.f62) ⟨by kernel_rfl, by kernel_rfl, by kernel_rfl, by kernel_rfl, by kernel_rfl, by kernel_rfl, TT.of_ok _ T0ex, by kernel_rfl⟩ (fun k => ⟨told_ok (nat_trim.does k), ⟨told_ok (nat_up.does k), ⟨told_ok (nat_shifted.does k), trivial⟩⟩⟩) (fun _ _ h => by rw [h rfl]; rfl) k
/-! bigint_Int_Nat: function 63 -/
def bigint_Int_Nat.A : AK := .p (.agg (.cons (.bool) (.cons (.row .u64) .nil))) .nil
def bigint_Int_Nat.Q : RK := .o .u64 40 .nil
def bigint_Int_Nat.h : List Int → bigint_Int_Nat.Q.T × List Int := fun b => (((b), ()), [])
noncomputable def bigint_Int_Nat.D : Decl (List Int) := ⟨(Go.Proofs.Try.f63.body).getD .skip, 6, [.tmp 2], bigint_Int_Nat.A, bigint_Int_Nat.Q, fun y m => y.1, T0, [], [], []⟩
noncomputable def bigint_Int_Nat.S (k : Nat) : List (Nat × E.Spec (List Int)) := [(71, told _ nat_Norm.A nat_Norm.Q (nat_Norm.g k) nat_Norm.h)]
noncomputable def bigint_Int_Nat.f0 (k : Nat) (a0_0 : Bool) (a0_1 : List Int) : Option (List Int) := bigint_Int_Nat.D.val bigint_Int_Nat.S k ((a0_0, a0_1, ()), ())
noncomputable def bigint_Int_Nat.f := (still bigint_Int_Nat.f0).1
theorem bigint_Int_Nat.f_def : bigint_Int_Nat.f = bigint_Int_Nat.f0 := (still bigint_Int_Nat.f0).2
noncomputable def bigint_Int_Nat.g (k : Nat) (x : bigint_Int_Nat.A.T) : Option (List Int) := bigint_Int_Nat.f k (x.1.1) (x.1.2.1)
theorem bigint_Int_Nat.does (k : Nat) : Does PG 63 bigint_Int_Nat.A bigint_Int_Nat.Q (bigint_Int_Nat.g k) bigint_Int_Nat.h := (show bigint_Int_Nat.g k = bigint_Int_Nat.D.val bigint_Int_Nat.S k from funext fun _ => by unfold bigint_Int_Nat.g; rw [bigint_Int_Nat.f_def]; rfl) ▸ Decl.does (D := bigint_Int_Nat.D) (S := bigint_Int_Nat.S) (fn := Go.Proofs.Try.f63) ⟨by kernel_rfl, by kernel_rfl, by kernel_rfl, by kernel_rfl, by kernel_rfl, by kernel_rfl, TT.of_ok _ T0ex, by kernel_rfl⟩ (fun k => ⟨told_ok (nat_Norm.does k), trivial⟩) (fun _ _ h => by rw [h rfl]; rfl) k
/-! crt_Enough: function 33 -/
def crt_Enough.A : AK := .p (.int .i64) (.p (.row .u64) .nil)
def crt_Enough.Q : RK := .p (.bool) .nil
def crt_Enough.h : Bool → crt_Enough.Q.T × List Int := fun b => ((b, ()), [])
noncomputable def crt_Enough.D : Decl Bool := ⟨(Go.Proofs.Try.f33.body).getD .skip, 47, [.tmp 4], crt_Enough.A, crt_Enough.Q, fun y m => y.1, T0, [], [(3, [(0, .p (some (.int .i64))), (5, .b (some (.cons (.bool) (.cons (.row .u64) .nil)))), (11, .p (some (.row .u64))), (12, .p (some (.int .i64))), (13, .p (some (.int .i64)))])], []⟩
noncomputable def crt_Enough.S (k : Nat) : List (Nat × E.Spec Bool) := [(36, told _ bigint_Of.A bigint_Of.Q (bigint_Of.g k) bigint_Of.h), (41, told _ nat_Cmp.A nat_Cmp.Q (nat_Cmp.g k) nat_Cmp.h), (53, told _ crt_may.A crt_may.Q (crt_may.g k) crt_may.h), (58, told _ bigint_Int_Mul.A bigint_Int_Mul.Q (bigint_Int_Mul.g k) bigint_Int_Mul.h), (59, told _ crt_of.A crt_of.Q (crt_of.g k) crt_of.h), (62, told _ nat_Shl.A nat_Shl.Q (nat_Shl.g k) nat_Shl.h), (63, told _ bigint_Int_Nat.A bigint_Int_Nat.Q (bigint_Int_Nat.g k) bigint_Int_Nat.h)]
noncomputable def crt_Enough.l3 (k : Nat) (x0 : Int) (x5_0 : Bool) (x5_1 : List Int) (x11 : List Int) (x12 : Int) (x13 : Int) : Option Bool := crt_Enough.D.F crt_Enough.S k 7 [.p (.lit (.int .i64 x0)), .b 26 [.lit (.bool x5_0), .row .u64 x5_1], .p (.row .u64 x11), .p (.lit (.int .i64 x12)), .p (.lit (.int .i64 x13))]
noncomputable def crt_Enough.f0 (k : Nat) (a0 : Int) (a1 : List Int) : Option Bool := crt_Enough.D.val crt_Enough.S k (a0, a1, ())
noncomputable def crt_Enough.f := (still crt_Enough.f0).1
theorem crt_Enough.f_def : crt_Enough.f = crt_Enough.f0 := (still crt_Enough.f0).2
noncomputable def crt_Enough.g (k : Nat) (x : crt_Enough.A.T) : Option Bool := crt_Enough.f k (x.1) (x.2.1)
theorem crt_Enough.does (k : Nat) : Does PG 33 crt_Enough.A crt_Enough.Q (crt_Enough.g k) crt_Enough.h := (show crt_Enough.g k = crt_Enough.D.val crt_Enough.S k from funext fun _ => by unfold crt_Enough.g; rw [crt_Enough.f_def]; rfl) ▸ Decl.does (D := crt_Enough.D) (S := crt_Enough.S) (fn := Go.Proofs.Try.f33) ⟨by kernel_rfl, by kernel_rfl, by kernel_rfl, by kernel_rfl, by kernel_rfl, by kernel_rfl, TT.of_ok _ T0ex, by kernel_rfl⟩ (fun k => ⟨told_ok (bigint_Of.does k), ⟨told_ok (nat_Cmp.does k), ⟨told_ok (crt_may.does k), ⟨told_ok (bigint_Int_Mul.does k), ⟨told_ok (crt_of.does k), ⟨told_ok (nat_Shl.does k), ⟨told_ok (bigint_Int_Nat.does k), trivial⟩⟩⟩⟩⟩⟩⟩) (fun _ _ h => by rw [h rfl]; rfl) k
/-! vinculumref01_Double: function 65 -/
def vinculumref01_Double.A : AK := .p (.int .i64) .nil
def vinculumref01_Double.Q : RK := .p (.str) .nil
def vinculumref01_Double.h : ByteArray → vinculumref01_Double.Q.T × List Int := fun b => ((b, ()), [])
noncomputable def vinculumref01_Double.D : Decl ByteArray := ⟨(Go.Proofs.Try.f65.body).getD .skip, 14, [.tmp 2], vinculumref01_Double.A, vinculumref01_Double.Q, fun y m => y.1, T0, [], [(3, [(0, .p (some (.int .i64))), (3, .p (some (.str))), (4, .p (some (.int .i64)))])], []⟩
noncomputable def vinculumref01_Double.S (k : Nat) : List (Nat × E.Spec ByteArray) := [(78, told _ vinculumref01_Add.A vinculumref01_Add.Q (vinculumref01_Add.g k) vinculumref01_Add.h)]
noncomputable def vinculumref01_Double.l3 (k : Nat) (x0 : Int) (x3 : ByteArray) (x4 : Int) : Option ByteArray := vinculumref01_Double.D.F vinculumref01_Double.S k 7 [.p (.lit (.int .i64 x0)), .p (.lit (.string x3)), .p (.lit (.int .i64 x4))]
noncomputable def vinculumref01_Double.f0 (k : Nat) (a0 : Int) : Option ByteArray := vinculumref01_Double.D.val vinculumref01_Double.S k (a0, ())
noncomputable def vinculumref01_Double.f := (still vinculumref01_Double.f0).1
theorem vinculumref01_Double.f_def : vinculumref01_Double.f = vinculumref01_Double.f0 := (still vinculumref01_Double.f0).2
noncomputable def vinculumref01_Double.g (k : Nat) (x : vinculumref01_Double.A.T) : Option ByteArray := vinculumref01_Double.f k (x.1)
theorem vinculumref01_Double.does (k : Nat) : Does PG 65 vinculumref01_Double.A vinculumref01_Double.Q (vinculumref01_Double.g k) vinculumref01_Double.h := (show vinculumref01_Double.g k = vinculumref01_Double.D.val vinculumref01_Double.S k from funext fun _ => by unfold vinculumref01_Double.g; rw [vinculumref01_Double.f_def]; rfl) ▸ Decl.does (D := vinculumref01_Double.D) (S := vinculumref01_Double.S) (fn := Go.Proofs.Try.f65) ⟨by kernel_rfl, by kernel_rfl, by kernel_rfl, by kernel_rfl, by kernel_rfl, by kernel_rfl, TT.of_ok _ T0ex, by kernel_rfl⟩ (fun k => ⟨told_ok (vinculumref01_Add.does k), trivial⟩) (fun _ _ h => by rw [h rfl]; rfl) k
/-! vinculumref05_Enough: function 34 -/
def vinculumref05_Enough.A : AK := .p (.int .i64) (.p (.row .u64) .nil)
def vinculumref05_Enough.Q : RK := .p (.bool) .nil
def vinculumref05_Enough.h : Bool → vinculumref05_Enough.Q.T × List Int := fun b => ((b, ()), [])
noncomputable def vinculumref05_Enough.D : Decl Bool := ⟨(Go.Proofs.Try.f34.body).getD .skip, 37, [.tmp 4], vinculumref05_Enough.A, vinculumref05_Enough.Q, fun y m => y.1, T0, [], [(2, [(0, .p (some (.int .i64))), (1, .p (some (.row .u64))), (5, .p (some (.int .i64)))])], []⟩
noncomputable def vinculumref05_Enough.S (k : Nat) : List (Nat × E.Spec Bool) := [(13, told _ vinculumref05_All.A vinculumref05_All.Q (vinculumref05_All.g k) vinculumref05_All.h), (26, told _ vinculumref03_May.A vinculumref03_May.Q (vinculumref03_May.g k) vinculumref03_May.h), (64, told _ vinculumref01_Cmp.A vinculumref01_Cmp.Q (vinculumref01_Cmp.g k) vinculumref01_Cmp.h), (65, told _ vinculumref01_Double.A vinculumref01_Double.Q (vinculumref01_Double.g k) vinculumref01_Double.h)]
noncomputable def vinculumref05_Enough.l2 (k : Nat) (x0 : Int) (x1 : List Int) (x5 : Int) : Option Bool := vinculumref05_Enough.D.F vinculumref05_Enough.S k 5 [.p (.lit (.int .i64 x0)), .p (.row .u64 x1), .p (.lit (.int .i64 x5))]
noncomputable def vinculumref05_Enough.f0 (k : Nat) (a0 : Int) (a1 : List Int) : Option Bool := vinculumref05_Enough.D.val vinculumref05_Enough.S k (a0, a1, ())
noncomputable def vinculumref05_Enough.f := (still vinculumref05_Enough.f0).1
theorem vinculumref05_Enough.f_def : vinculumref05_Enough.f = vinculumref05_Enough.f0 := (still vinculumref05_Enough.f0).2
noncomputable def vinculumref05_Enough.g (k : Nat) (x : vinculumref05_Enough.A.T) : Option Bool := vinculumref05_Enough.f k (x.1) (x.2.1)
theorem vinculumref05_Enough.does (k : Nat) : Does PG 34 vinculumref05_Enough.A vinculumref05_Enough.Q (vinculumref05_Enough.g k) vinculumref05_Enough.h := (show vinculumref05_Enough.g k = vinculumref05_Enough.D.val vinculumref05_Enough.S k from funext fun _ => by unfold vinculumref05_Enough.g; rw [vinculumref05_Enough.f_def]; rfl) ▸ Decl.does (D := vinculumref05_Enough.D) (S := vinculumref05_Enough.S) (fn := Go.Proofs.Try.f34) ⟨by kernel_rfl, by kernel_rfl, by kernel_rfl, by kernel_rfl, by kernel_rfl, by kernel_rfl, TT.of_ok _ T0ex, by kernel_rfl⟩ (fun k => ⟨told_ok (vinculumref05_All.does k), ⟨told_ok (vinculumref03_May.does k), ⟨told_ok (vinculumref01_Cmp.does k), ⟨told_ok (vinculumref01_Double.does k), trivial⟩⟩⟩⟩) (fun _ _ h => by rw [h rfl]; rfl) k
/-! vinculumlaw05_CrtEnough: function 7 -/
def vinculumlaw05_CrtEnough.A : AK := .p (.int .i64) (.p (.row .u64) (.p (.row .u64) .nil))
def vinculumlaw05_CrtEnough.Q : RK := .p (.bool) .nil
def vinculumlaw05_CrtEnough.h : Bool → vinculumlaw05_CrtEnough.Q.T × List Int := fun b => ((b, ()), [])
noncomputable def vinculumlaw05_CrtEnough.D : Decl Bool := ⟨(Go.Proofs.Try.f7.body).getD .skip, 68, [.tmp 6], vinculumlaw05_CrtEnough.A, vinculumlaw05_CrtEnough.Q, fun y m => y.1, T0, [], [], []⟩
noncomputable def vinculumlaw05_CrtEnough.S (k : Nat) : List (Nat × E.Spec Bool) := [(9, told _ vinculumlaw05_awake.A vinculumlaw05_awake.Q (vinculumlaw05_awake.g k) vinculumlaw05_awake.h), (10, told _ crt_Lift.A crt_Lift.Q (crt_Lift.g k) crt_Lift.h), (12, told _ bigint_Int_Sign.A bigint_Int_Sign.Q (bigint_Int_Sign.g k) bigint_Int_Sign.h), (15, told _ bigint_Int_Cmp.A bigint_Int_Cmp.Q (bigint_Int_Cmp.g k) bigint_Int_Cmp.h), (20, told _ crt_Near.A crt_Near.Q (crt_Near.g k) crt_Near.h), (32, told _ crt_Join.A crt_Join.Q (crt_Join.g k) crt_Join.h), (33, told _ crt_Enough.A crt_Enough.Q (crt_Enough.g k) crt_Enough.h), (34, told _ vinculumref05_Enough.A vinculumref05_Enough.Q (vinculumref05_Enough.g k) vinculumref05_Enough.h)]
noncomputable def vinculumlaw05_CrtEnough.f0 (k : Nat) (a0 : Int) (a1 : List Int) (a2 : List Int) : Option Bool := vinculumlaw05_CrtEnough.D.val vinculumlaw05_CrtEnough.S k (a0, a1, a2, ())
noncomputable def vinculumlaw05_CrtEnough.f := (still vinculumlaw05_CrtEnough.f0).1
theorem vinculumlaw05_CrtEnough.f_def : vinculumlaw05_CrtEnough.f = vinculumlaw05_CrtEnough.f0 := (still vinculumlaw05_CrtEnough.f0).2
noncomputable def vinculumlaw05_CrtEnough.g (k : Nat) (x : vinculumlaw05_CrtEnough.A.T) : Option Bool := vinculumlaw05_CrtEnough.f k (x.1) (x.2.1) (x.2.2.1)
theorem vinculumlaw05_CrtEnough.does (k : Nat) : Does PG 7 vinculumlaw05_CrtEnough.A vinculumlaw05_CrtEnough.Q (vinculumlaw05_CrtEnough.g k) vinculumlaw05_CrtEnough.h := (show vinculumlaw05_CrtEnough.g k = vinculumlaw05_CrtEnough.D.val vinculumlaw05_CrtEnough.S k from funext fun _ => by unfold vinculumlaw05_CrtEnough.g; rw [vinculumlaw05_CrtEnough.f_def]; rfl) ▸ Decl.does (D := vinculumlaw05_CrtEnough.D) (S := vinculumlaw05_CrtEnough.S) (fn := Go.Proofs.Try.f7) ⟨by kernel_rfl, by kernel_rfl, by kernel_rfl, by kernel_rfl, by kernel_rfl, by kernel_rfl, TT.of_ok _ T0ex, by kernel_rfl⟩ (fun k => ⟨told_ok (vinculumlaw05_awake.does k), ⟨told_ok (crt_Lift.does k), ⟨told_ok (bigint_Int_Sign.does k), ⟨told_ok (bigint_Int_Cmp.does k), ⟨told_ok (crt_Near.does k), ⟨told_ok (crt_Join.does k), ⟨told_ok (crt_Enough.does k), ⟨told_ok (vinculumref05_Enough.does k), trivial⟩⟩⟩⟩⟩⟩⟩⟩) (fun _ _ h => by rw [h rfl]; rfl) k
/-! nat_Bits: function 66 -/
def nat_Bits.A : AK := .p (.row .u64) .nil
def nat_Bits.Q : RK := .p (.int .i64) .nil
def nat_Bits.h : Int → nat_Bits.Q.T × List Int := fun b => ((b, ()), [])
noncomputable def nat_Bits.D : Decl Int := ⟨(Go.Proofs.Try.f66.body).getD .skip, 20, [.tmp 2], nat_Bits.A, nat_Bits.Q, fun y m => y.1, T0, [], [], []⟩
noncomputable def nat_Bits.S (k : Nat) : List (Nat × E.Spec Int) := [(70, told _ nat_trim.A nat_trim.Q (nat_trim.g k) nat_trim.h), (88, told _ bits_Len64.A bits_Len64.Q (bits_Len64.g k) bits_Len64.h)]
noncomputable def nat_Bits.f0 (k : Nat) (a0 : List Int) : Option Int := nat_Bits.D.val nat_Bits.S k (a0, ())
noncomputable def nat_Bits.f := (still nat_Bits.f0).1
theorem nat_Bits.f_def : nat_Bits.f = nat_Bits.f0 := (still nat_Bits.f0).2
noncomputable def nat_Bits.g (k : Nat) (x : nat_Bits.A.T) : Option Int := nat_Bits.f k (x.1)
theorem nat_Bits.does (k : Nat) : Does PG 66 nat_Bits.A nat_Bits.Q (nat_Bits.g k) nat_Bits.h := (show nat_Bits.g k = nat_Bits.D.val nat_Bits.S k from funext fun _ => by unfold nat_Bits.g; rw [nat_Bits.f_def]; rfl) ▸ Decl.does (D := nat_Bits.D) (S := nat_Bits.S) (fn := Go.Proofs.Try.f66) ⟨by kernel_rfl, by kernel_rfl, by kernel_rfl, by kernel_rfl, by kernel_rfl, by kernel_rfl, TT.of_ok _ T0ex, by kernel_rfl⟩ (fun k => ⟨told_ok (nat_trim.does k), ⟨told_ok (bits_Len64.does k), trivial⟩⟩) (fun _ _ h => by rw [h rfl]; rfl) k
/-! bigint_Int_Bits: function 35 -/
def bigint_Int_Bits.A : AK := .p (.agg (.cons (.bool) (.cons (.row .u64) .nil))) .nil
def bigint_Int_Bits.Q : RK := .p (.int .i64) .nil
def bigint_Int_Bits.h : Int → bigint_Int_Bits.Q.T × List Int := fun b => ((b, ()), [])
noncomputable def bigint_Int_Bits.D : Decl Int := ⟨(Go.Proofs.Try.f35.body).getD .skip, 6, [.tmp 2], bigint_Int_Bits.A, bigint_Int_Bits.Q, fun y m => y.1, T0, [], [], []⟩
noncomputable def bigint_Int_Bits.S (k : Nat) : List (Nat × E.Spec Int) := [(66, told _ nat_Bits.A nat_Bits.Q (nat_Bits.g k) nat_Bits.h)]
noncomputable def bigint_Int_Bits.f0 (k : Nat) (a0_0 : Bool) (a0_1 : List Int) : Option Int := bigint_Int_Bits.D.val bigint_Int_Bits.S k ((a0_0, a0_1, ()), ())
noncomputable def bigint_Int_Bits.f := (still bigint_Int_Bits.f0).1
theorem bigint_Int_Bits.f_def : bigint_Int_Bits.f = bigint_Int_Bits.f0 := (still bigint_Int_Bits.f0).2
noncomputable def bigint_Int_Bits.g (k : Nat) (x : bigint_Int_Bits.A.T) : Option Int := bigint_Int_Bits.f k (x.1.1) (x.1.2.1)
theorem bigint_Int_Bits.does (k : Nat) : Does PG 35 bigint_Int_Bits.A bigint_Int_Bits.Q (bigint_Int_Bits.g k) bigint_Int_Bits.h := (show bigint_Int_Bits.g k = bigint_Int_Bits.D.val bigint_Int_Bits.S k from funext fun _ => by unfold bigint_Int_Bits.g; rw [bigint_Int_Bits.f_def]; rfl) ▸ Decl.does (D := bigint_Int_Bits.D) (S := bigint_Int_Bits.S) (fn := Go.Proofs.Try.f35) ⟨by kernel_rfl, by kernel_rfl, by kernel_rfl, by kernel_rfl, by kernel_rfl, by kernel_rfl, TT.of_ok _ T0ex, by kernel_rfl⟩ (fun k => ⟨told_ok (nat_Bits.does k), trivial⟩) (fun _ _ h => by rw [h rfl]; rfl) k
/-! vinculumlaw05_CrtBack: function 8 -/
def vinculumlaw05_CrtBack.A : AK := .p (.agg (.cons (.bool) (.cons (.row .u64) .nil))) (.p (.row .u64) .nil)
def vinculumlaw05_CrtBack.Q : RK := .p (.bool) .nil
def vinculumlaw05_CrtBack.h : Bool → vinculumlaw05_CrtBack.Q.T × List Int := fun b => ((b, ()), [])
noncomputable def vinculumlaw05_CrtBack.D : Decl Bool := ⟨(Go.Proofs.Try.f8.body).getD .skip, 61, [.tmp 4], vinculumlaw05_CrtBack.A, vinculumlaw05_CrtBack.Q, fun y m => y.1, T0, [], [], []⟩
noncomputable def vinculumlaw05_CrtBack.S (k : Nat) : List (Nat × E.Spec Bool) := [(9, told _ vinculumlaw05_awake.A vinculumlaw05_awake.Q (vinculumlaw05_awake.g k) vinculumlaw05_awake.h), (11, told _ vinculumref05_Wrong.A vinculumref05_Wrong.Q (vinculumref05_Wrong.g k) vinculumref05_Wrong.h), (15, told _ bigint_Int_Cmp.A bigint_Int_Cmp.Q (bigint_Int_Cmp.g k) bigint_Int_Cmp.h), (19, told _ vinculumlaw02_Few.A vinculumlaw02_Few.Q (vinculumlaw02_Few.g k) vinculumlaw02_Few.h), (21, told _ vinculumlaw02_Of.A vinculumlaw02_Of.Q (vinculumlaw02_Of.g k) vinculumlaw02_Of.h), (31, told _ crt_Parts.A crt_Parts.Q (crt_Parts.g k) crt_Parts.h), (32, told _ crt_Join.A crt_Join.Q (crt_Join.g k) crt_Join.h), (33, told _ crt_Enough.A crt_Enough.Q (crt_Enough.g k) crt_Enough.h), (35, told _ bigint_Int_Bits.A bigint_Int_Bits.Q (bigint_Int_Bits.g k) bigint_Int_Bits.h)]
noncomputable def vinculumlaw05_CrtBack.f0 (k : Nat) (a0_0 : Bool) (a0_1 : List Int) (a1 : List Int) : Option Bool := vinculumlaw05_CrtBack.D.val vinculumlaw05_CrtBack.S k ((a0_0, a0_1, ()), a1, ())
noncomputable def vinculumlaw05_CrtBack.f := (still vinculumlaw05_CrtBack.f0).1
theorem vinculumlaw05_CrtBack.f_def : vinculumlaw05_CrtBack.f = vinculumlaw05_CrtBack.f0 := (still vinculumlaw05_CrtBack.f0).2
noncomputable def vinculumlaw05_CrtBack.g (k : Nat) (x : vinculumlaw05_CrtBack.A.T) : Option Bool := vinculumlaw05_CrtBack.f k (x.1.1) (x.1.2.1) (x.2.1)
theorem vinculumlaw05_CrtBack.does (k : Nat) : Does PG 8 vinculumlaw05_CrtBack.A vinculumlaw05_CrtBack.Q (vinculumlaw05_CrtBack.g k) vinculumlaw05_CrtBack.h := (show vinculumlaw05_CrtBack.g k = vinculumlaw05_CrtBack.D.val vinculumlaw05_CrtBack.S k from funext fun _ => by unfold vinculumlaw05_CrtBack.g; rw [vinculumlaw05_CrtBack.f_def]; rfl) ▸ Decl.does (D := vinculumlaw05_CrtBack.D) (S := vinculumlaw05_CrtBack.S) (fn := Go.Proofs.Try.f8) ⟨by kernel_rfl, by kernel_rfl, by kernel_rfl, by kernel_rfl, by kernel_rfl, by kernel_rfl, TT.of_ok _ T0ex, by kernel_rfl⟩ (fun k => ⟨told_ok (vinculumlaw05_awake.does k), ⟨told_ok (vinculumref05_Wrong.does k), ⟨told_ok (bigint_Int_Cmp.does k), ⟨told_ok (vinculumlaw02_Few.does k), ⟨told_ok (vinculumlaw02_Of.does k), ⟨told_ok (crt_Parts.does k), ⟨told_ok (crt_Join.does k), ⟨told_ok (crt_Enough.does k), ⟨told_ok (bigint_Int_Bits.does k), trivial⟩⟩⟩⟩⟩⟩⟩⟩⟩) (fun _ _ h => by rw [h rfl]; rfl) k
end Go.Proofs.Yteoeacndpgomaaa.F
end

/-
  Texts of this proof, one behind the other: EN, EO, EP, ER, ES, Shelf, EY. No condition of their own.
-/
import Derived.Test.YtkoeddgbhohggaaDoorX2
import Derived.Scope
import Derived.Shelf.Bits.Mul64
import Derived.Shelf.Strconv.Itoa0
import Derived.Shelf.Small.Bits
import Derived.Shelf.Spec.TrailingZeros
import Derived.Test.YtkoeddgbhohggaaDoorProg
section
namespace Go.Proofs.YtkoeddgbhohggaaDoor.E
open Go.RowKit Go.Proofs.YtkoeddgbhohggaaDoorW.PrintWords Go.Proofs.YtkoeddgbhohggaaDoorW.PrintLast
set_option linter.unusedVariables false
set_option linter.unusedSimpArgs false
structure Cfg (R : Type) where
  T : TT
  S : FuncId → Option (Spec R)
  N : Nat
  pn : Option Nat
  cutR : Nat → Option (List (Nat × KM))
  cutL : Nat → Option (List (Nat × KM))
  fz : Nat → List Nat
  F : Nat → List CV → Option R
def frzSt (st : St) : List Nat → Option St
  | [] => some st
  | s :: r => (match frz st 8 (st.get s) with
    | some (a, ids) => frzSt ⟨(s, a) :: st.sl, deadB ids ++ st.bl, st.nx⟩ r
    | none => none)
noncomputable def regV {R : Type} (G : Cfg R) (id : Nat) (ops : Array Oper) (draw : Bool) (st : St) (K : St → Option R) : Option R := match frzSt st (G.fz id), ops.toList.all (within G.N G.pn ops) && (G.fz id).all (fun s => Nat.blt s G.N) with
  | some st1, true => runOps G.T G.S ops (guards ops ops.toList) ops.toList st1.nx st1 [] fun st' tr => (match draw with
    | false => K ⟨st'.sl, st'.bl, st'.nx + ops.toList.length⟩
    | true => (match waitsOk (rtab .any ops).2 (mkB (rtab .any ops).2) && baseOk (rtab .any ops).2 (List.range ops.size) && apart ops (mkB (rtab .any ops).2) [] 0 tr.reverse with
      | true => K ⟨st'.sl, st'.bl, st'.nx + ops.toList.length⟩
      | false => none))
  | _, _ => none
def nameOf : Code → Nat
  | .region id _ _ => id
  | .seq a _ => nameOf a
  | .block _ b => nameOf b
  | .loop b => nameOf b
  | .scope b => nameOf b
  | _ => 0
def atEnd {R : Type} (id : Nat) (K : Exit → St → Option R) : Exit → St → Option R := fun e st => match e with
  | .exit i => (match Nat.beq i id with
    | true => K .normal st
    | false => K (.exit i) st)
  | e => K e st
def andThen {R : Type} (k : St → Option R) (K : Exit → St → Option R) : Exit → St → Option R := fun e st => match e with
  | .normal => k st
  | e => K e st
def slotsIn (N : Nat) : List (Nat × KM) → Bool
  | [] => true
  | p :: r => match Nat.blt p.1 N with
    | true => slotsIn N r
    | false => false
def toCut {R : Type} (G : Cfg R) (key : Nat) (keep : List (Nat × KM)) (st : St) : Option R := match slotsIn G.N keep with
  | true => cutTo st keep (G.F key)
  | false => none
def cutL {R : Type} (G : Cfg R) (n : Nat) (st : St) : Option R := match G.cutL n with
  | some keep => toCut G (2 * n + 1) keep st
  | none => none
def labs : Code → List Nat
  | .seq x y => labs x ++ labs y
  | .label l => [l]
  | _ => []
def gotoK {R : Type} (G : Cfg R) (x : Code) (K : Exit → St → Option R) : Exit → St → Option R := fun e st => match e with
  | .goto l => (match (labs x).any (Nat.beq l) with
    | true => cutL G (1000 + l) st
    | false => none)
  | e => K e st
def slotIn (N : Nat) : Operand → Bool
  | .tmp s => Nat.blt s N
  | _ => true
def loopN {R : Type} (f : St → (Exit → St → Option R) → Option R) (K : Exit → St → Option R) : Nat → St → Option R
  | 0, _ => none
  | n + 1, st => f st (andThen (loopN f K n) K)
def again {R : Type} (G : Cfg R) (f : St → (Exit → St → Option R) → Option R) (n : Nat) (K : Exit → St → Option R) (st : St) : Option R := match G.cutL n with
  | some _ => cutL G n st
  | none => loopN f K 2 st
noncomputable def run {R : Type} (G : Cfg R) : Code → St → (Exit → St → Option R) → Option R
  | .skip, st, K => K .normal st
  | .label _, st, K => K .normal st
  | .region id ops draw, st, K => (match G.cutR id with
    | some keep => toCut G (2 * id) keep st
    | none => regV G id ops draw st (K .normal))
  | .seq x y, st, K => run G x st (andThen (fun st' => run G y st' K) K)
  | .cond c x y, st, K => (match slotIn G.N c with
    | true => onB (ev st c) (run G x st K) (run G y st K)
    | false => none)
  | .block id x, st, K => run G x st (atEnd id K)
  | .loop x, st, K => again G (fun st K => run G x st K) (nameOf x) K st
  | .scope x, st, K => run G x st (gotoK G x K)
  | .goto l, st, K => K (.goto l) st
  | .exit id, st, K => K (.exit id) st
  | .ret, st, K => K .ret st
  | _, _, _ => none
noncomputable def occs {R : Type} (G : Cfg R) : Code → (Exit → St → Option R) → List (Nat × (St → Option R))
  | .region id ops draw, K => [(2 * id, fun st => regV G id ops draw st (K .normal))]
  | .seq x y, K => occs G x (andThen (fun st' => run G y st' K) K) ++ occs G y K
  | .cond _ x y, K => occs G x K ++ occs G y K
  | .block id x, K => occs G x (atEnd id K)
  | .loop x, K => (2 * nameOf x + 1, fun st => run G x st (andThen (again G (fun st K => run G x st K) (nameOf x) K) K)) :: occs G x (andThen (again G (fun st K => run G x st K) (nameOf x) K) K)
  | .scope x, K => ((labs x).map fun l => (2 * (1000 + l) + 1, fun st => run G ((findLabel x l).getD .skip) st (gotoK G x K))) ++ occs G x (gotoK G x K)
  | _, _ => []
def Lwp (P : Program) (c : Code) (Q : Exit → Act → World → Prop) (a : Act) (w : World) : Prop :=
  ∀ (b : Frame) (k : List Item) (cs : List Frame), ∃ e a' w', Q e a' w' ∧ Arrives P (lone (b.at a (.code c :: .inLoop c :: k)) cs w) b k cs e a' w'
theorem lwp_loop {P : Program} {c : Code} {Q : Exit → Act → World → Prop} {a : Act} {w : World} (h : Lwp P c Q a w) : (Code.loop c).wp P Q a w := fun b k cs => by
  obtain ⟨e, a', w', hq, harr⟩ := h b k cs
  exact ⟨e, a', w', hq, .of_steps (.one step_loop) harr⟩
theorem lwp_round {P : Program} {c : Code} {Q : Exit → Act → World → Prop} {a : Act} {w : World} (h : c.wp P (Exit.then (Lwp P c Q) Q) a w) : Lwp P c Q a w := by
  intro b k cs
  obtain ⟨e, a₁, w₁, hq, harr⟩ := h b (.inLoop c :: k) cs
  cases e with
  | normal =>
    obtain ⟨e₂, a₂, w₂, hq₂, harr₂⟩ := hq b k cs
    exact ⟨e₂, a₂, w₂, hq₂, .of_steps (Steps.trans harr (.one step_inLoop)) harr₂⟩
  | exit id => exact ⟨_, a₁, w₁, hq, .pass (x := .inLoop c) rfl (fun _ _ => .inl (by simp)) harr⟩
  | goto l => exact ⟨_, a₁, w₁, hq, .pass (x := .inLoop c) rfl (fun _ _ => .inl (by simp)) harr⟩
  | ret => exact ⟨_, a₁, w₁, hq, .pass (x := .inLoop c) rfl (fun _ _ => .inl (by simp)) harr⟩
  | panic ch => exact ⟨_, a₁, w₁, hq, .pass (x := .inLoop c) rfl (fun _ _ => .inl (by simp)) harr⟩
  | outgrown => exact ⟨_, a₁, w₁, hq, .pass (x := .inLoop c) rfl (fun _ _ => .inl (by simp)) harr⟩
def Swp (P : Program) (x rest : Code) (Q : Exit → Act → World → Prop) (a : Act) (w : World) : Prop :=
  ∀ (b : Frame) (k : List Item) (cs : List Frame), ∃ e a' w', Q e a' w' ∧ Arrives P (lone (b.at a (.code rest :: .inScope x :: k)) cs w) b k cs e a' w'
def gotoQ (P : Program) (x : Code) (Q : Exit → Act → World → Prop) : Exit → Act → World → Prop
  | .goto l, a, w => ∃ rest, findLabel x l = some rest ∧ Swp P x rest Q a w
  | e, a, w => Q e a w
theorem swp_round {P : Program} {x rest : Code} {Q : Exit → Act → World → Prop} {a : Act} {w : World} (h : rest.wp P (gotoQ P x Q) a w) : Swp P x rest Q a w := by
  intro b k cs
  obtain ⟨e, a₁, w₁, hq, harr⟩ := h b (.inScope x :: k) cs
  cases e with
  | normal => exact ⟨.normal, a₁, w₁, hq, Steps.trans harr (.one step_inScope)⟩
  | exit id => exact ⟨.exit id, a₁, w₁, hq, fun k' hk => harr k' (by simp [exitTo, hk])⟩
  | goto l =>
    obtain ⟨rest', hf, h2⟩ := hq
    obtain ⟨e₂, a₂, w₂, hq₂, harr₂⟩ := h2 b k cs
    exact ⟨e₂, a₂, w₂, hq₂, .of_steps (harr _ (by simp [gotoIn, hf])) harr₂⟩
  | ret => exact ⟨_, a₁, w₁, hq, harr⟩
  | panic ch => exact ⟨_, a₁, w₁, hq, harr⟩
  | outgrown => exact ⟨_, a₁, w₁, hq, harr⟩
theorem swp_scope {P : Program} {x : Code} {Q : Exit → Act → World → Prop} {a : Act} {w : World} (h : Swp P x x Q a w) : (Code.scope x).wp P Q a w := by
  intro b k cs
  obtain ⟨e, a₁, w₁, hq, harr⟩ := h b k cs
  exact ⟨e, a₁, w₁, hq, .of_steps (.one step_scope) harr⟩
theorem lab_find : ∀ (x : Code) {l : Nat}, (labs x).any (Nat.beq l) = true → ∃ rest, findLabel x l = some rest
  | .seq x y, l, h => by
    simp only [labs, List.any_append, Bool.or_eq_true] at h
    simp only [findLabel]
    cases hx : findLabel x l with
    | some r => exact ⟨_, rfl⟩
    | none =>
      rcases h with h | h
      · obtain ⟨r, hr⟩ := lab_find x h; rw [hx] at hr; cases hr
      · exact lab_find y h
  | .label l', l, h => by
    simp only [labs, List.any_cons, List.any_nil, Bool.or_false] at h
    have := Nat.eq_of_beq_eq_true h
    subst this
    exact ⟨.skip, by simp [findLabel]⟩
  | .skip, l, h => by simp [labs] at h
  | .region _ _ _, l, h => by simp [labs] at h
  | .cond _ _ _, l, h => by simp [labs] at h
  | .block _ _, l, h => by simp [labs] at h
  | .loop _, l, h => by simp [labs] at h
  | .rangeFunc _ _ _ _, l, h => by simp [labs] at h
  | .exit _, l, h => by simp [labs] at h
  | .scope _, l, h => by simp [labs] at h
  | .goto _, l, h => by simp [labs] at h
  | .ret, l, h => by simp [labs] at h
  | .refuse _, l, h => by simp [labs] at h
def occQ (P : Program) : Code → (Exit → Act → World → Prop) → List (Nat × (Act → World → Prop))
  | .region id ops draw, Q => [(2 * id, (Code.region id ops draw).wp P Q)]
  | .seq x y, Q => occQ P x (Exit.then (y.wp P Q) Q) ++ occQ P y Q
  | .cond _ x y, Q => occQ P x Q ++ occQ P y Q
  | .block id x, Q => occQ P x (Exit.inBlock id Q)
  | .loop x, Q => (2 * nameOf x + 1, Lwp P x Q) :: occQ P x (Exit.then (Lwp P x Q) Q)
  | .scope x, Q => ((labs x).map fun l => (2 * (1000 + l) + 1, Swp P x ((findLabel x l).getD .skip) Q)) ++ occQ P x (gotoQ P x Q)
  | _, _ => []
theorem occQ_find {P : Program} {l : Nat} : ∀ (x : Code) {rest : Code} (Q : Exit → Act → World → Prop), findLabel x l = some rest → ∀ p ∈ occQ P rest Q, p ∈ occQ P x Q
  | .seq x y, rest, Q, h, p, hp => by
    simp only [findLabel] at h
    simp only [occQ]
    split at h
    · rename_i r hr
      injection h with h
      subst h
      simp only [occQ] at hp
      rcases List.mem_append.1 hp with hp | hp
      · exact List.mem_append_left _ (occQ_find x _ hr p hp)
      · exact List.mem_append_right _ hp
    · exact List.mem_append_right _ (occQ_find y _ h p hp)
  | .label l', rest, Q, h, p, hp => by
    simp only [findLabel] at h
    split at h
    · injection h with h; subst h; cases hp
    · cases h
  | .skip, rest, Q, h, p, hp => by simp [findLabel] at h
  | .region _ _ _, rest, Q, h, p, hp => by simp [findLabel] at h
  | .cond _ _ _, rest, Q, h, p, hp => by simp [findLabel] at h
  | .block _ _, rest, Q, h, p, hp => by simp [findLabel] at h
  | .loop _, rest, Q, h, p, hp => by simp [findLabel] at h
  | .rangeFunc _ _ _ _, rest, Q, h, p, hp => by simp [findLabel] at h
  | .exit _, rest, Q, h, p, hp => by simp [findLabel] at h
  | .scope _, rest, Q, h, p, hp => by simp [findLabel] at h
  | .goto _, rest, Q, h, p, hp => by simp [findLabel] at h
  | .ret, rest, Q, h, p, hp => by simp [findLabel] at h
  | .refuse _, rest, Q, h, p, hp => by simp [findLabel] at h
section
variable {P : Program} {X : Cx} {E E' : En} {a : Act} {w w' : World} {st : St} {R : Type} {r : R} {G : Cfg R}
def keepOf (G : Cfg R) (key : Nat) : Option (List (Nat × KM)) := if key % 2 = 0 then G.cutR (key / 2) else G.cutL (key / 2)
def Rel (X : Cx) (r : R) (K : Exit → St → Option R) (Q : Exit → Act → World → Prop) : Prop := ∀ e st a w, K e st = some r → Sim X st.fs a w → Q e a w
def HG (P : Program) (X : Cx) (r : R) (G : Cfg R) (l : List (Nat × (Act → World → Prop))) : Prop := ∀ p ∈ l, ∀ keep vs a w, keepOf G p.1 = some keep → G.F p.1 vs = some r → Sim X (build keep vs).fs a w → p.2 a w
structure Fit (P : Program) (X : Cx) (G : Cfg R) : Prop where
  T : G.T.ok P
  S : ∀ f s, G.S f = some s → s.ok P f
  N : X.N = G.N
  pn : X.pin.map Prod.fst = G.pn
  mo : P.follows .mixedOrders = true
theorem frz_one {s : Nat} {a' : AV} {ids : List Nat} (hsN : s < X.N) (h : frz st 8 (st.get s) = some (a', ids)) (hsim : Sim X st.fs a w) : Sim X (St.fs ⟨(s, a') :: st.sl, deadB ids ++ st.bl, st.nx⟩) a w := by
  obtain ⟨E, hs⟩ := hsim
  refine ⟨E, ?_⟩
  let Bn : Nat → Option Blk := fun i => look i (deadB ids ++ st.bl)
  have hB : ∀ i, Bn i = if i ∈ ids then some .dead else st.blk i := fun i => by
    show look i (deadB ids ++ st.bl) = _
    rw [look_append, dead_look]
    by_cases hi : i ∈ ids <;> simp [hi, St.blk]
  have hle : BLe st.fs.B Bn := fun i hi => by
    rw [hB]
    by_cases h1 : i ∈ ids
    · rw [if_pos h1]; exact ⟨rfl, fun _ _ _ hx => by cases hx⟩
    · rw [if_neg h1]; exact BLe.refl _ i hi
  have hlive : ∀ j, Live E Bn j → Live E st.fs.B j ∧ j ∉ ids := by
    rintro j ⟨⟨b, h1, h2⟩, h3⟩
    rw [hB] at h1
    by_cases hj : j ∈ ids
    · rw [if_pos hj] at h1; injection h1 with h1; exact absurd h1.symm h2
    · rw [if_neg hj] at h1; exact ⟨⟨⟨b, h1, h2⟩, h3⟩, hj⟩
  have hnb : ∀ k, Lent E st.fs.B (NB X.okk E st.fs.B) ids k → NB X.okk E Bn k := by
    intro k hk
    refine ⟨?_, fun j hj he => ?_⟩
    · rcases hk with hk | ⟨i, h1, h2, h3⟩
      · exact hk.1
      · rw [← h3]; exact hs.new _ (hs.own i h2)
    · obtain ⟨h4, h5⟩ := hlive j hj
      rcases hk with hk | ⟨i, h1, h2, h3⟩
      · exact hk.2 j h4 he
      · exact h5 (by rw [hs.inj j i h4 h2 (he.trans h3.symm)]; exact h1)
  have hmv : ∀ k, NB X.okk E st.fs.B k → k < w.heap.size → w.heap[k]? = w.heap[k]? ∧ NB X.okk E Bn k := fun k hk _ => ⟨rfl, hnb k (.inl hk)⟩
  refine ⟨hs.size, hs.nod, hs.new, hs.gl, hs.fr, fun t ht => ?_, fun j b hj => ?_, fun j hj => hs.own j (hlive j hj).1, fun j j' hj hj' he => hs.inj j j' (hlive j hj).1 (hlive j' hj').1 he, hs.pin⟩
  · obtain ⟨v, h1, h2⟩ := hs.slot t ht
    refine ⟨v, h1, ?_⟩
    show Held E Bn w _ (match (match Nat.beq t s with | true => some a' | false => look t st.sl) with | some a => a | none => .any) v
    cases hb : Nat.beq t s with
    | true =>
      have := Nat.eq_of_beq_eq_true hb
      subst this
      exact (HeldF.any (frz_of hs 8 h (fun _ _ => rfl) h2)).move (Nat.le_refl _) fun k hk _ => ⟨rfl, hnb k hk⟩
    | false => exact (h2.re hle fun _ _ => ⟨rfl, rfl, rfl⟩).move (Nat.le_refl _) hmv
  · have hj' : Bn j = some b := hj
    rw [hB] at hj'
    by_cases hjd : j ∈ ids
    · rw [if_pos hjd] at hj'; injection hj' with hj'; subst hj'; trivial
    · rw [if_neg hjd] at hj'
      have h1 := hs.blk j b hj'
      cases b with
      | dead => trivial
      | ints k e l => exact blk_move rfl rfl rfl (fun _ => rfl) (Nat.le_refl _) hmv h1
      | cells ty l =>
        obtain ⟨hn, us, h4, h5⟩ := h1
        exact ⟨hn, us, h4, (h5.re hle fun _ _ => ⟨rfl, rfl, rfl⟩).move (Nat.le_refl _) hmv⟩
theorem frz_sim : ∀ (l : List Nat) {st st1 : St}, (l.all fun s => Nat.blt s X.N) = true → frzSt st l = some st1 → Sim X st.fs a w → Sim X st1.fs a w
  | [], st, st1, _, h, hs => by injection h with h; rw [← h]; exact hs
  | s :: l, st, st1, hN, h, hs => by
    rw [List.all_cons, Bool.and_eq_true] at hN
    unfold frzSt at h
    split at h
    · rename_i a' ids h1
      exact frz_sim l hN.2 h (frz_one (Nat.le_of_ble_eq_true hN.1) h1 hs)
    · cases h
theorem regV_ok {id : Nat} {ops : Array Oper} {draw : Bool} {K : St → Option R} {Q : Exit → Act → World → Prop} (hf : Fit P X G) (h : regV G id ops draw st K = some r) (hK : ∀ st' a w, K st' = some r → Sim X st'.fs a w → Q .normal a w) (hs : Sim X st.fs a w) : (Code.region id ops draw).wp P Q a w := by
  unfold regV at h
  split at h
  · rename_i st1 hz hin
    rw [Bool.and_eq_true] at hin
    have hs1 := frz_sim _ (by rw [hf.N]; exact hin.2) hz hs
    obtain ⟨l', st', h1, htr⟩ := run_tr hf.T hf.S _ _ _ _ h
    have hfs : ∀ n, (St.fs ⟨st'.sl, st'.bl, n⟩) = st'.fs := fun _ => rfl
    split at h1
    · exact wp_region_list (seq_tr hf.N hf.pn _ _ _ _ a w hin.1 htr hs1 fun a w h2 => hK _ a w h1 h2)
    · split at h1
      · rename_i hc
        rw [Bool.and_eq_true, Bool.and_eq_true] at hc
        rw [List.append_nil, List.reverse_reverse] at hc
        exact any_tr hf.N hf.pn hf.mo hc.1.1 hc.1.2 hin.1 htr hc.2 hs1 fun a w h2 => hK _ a w h1 h2
      · cases h1
  · cases h
theorem rel_then {k : St → Option R} {K : Exit → St → Option R} {q : Act → World → Prop} {Q : Exit → Act → World → Prop} (h1 : ∀ st a w, k st = some r → Sim X st.fs a w → q a w) (h2 : Rel X r K Q) : Rel X r (andThen k K) (Exit.then q Q) := by
  intro e st a w h hs
  cases e with
  | normal => exact h1 st a w h hs
  | exit id => exact h2 (.exit id) st a w h hs
  | goto l => exact h2 (.goto l) st a w h hs
  | ret => exact h2 .ret st a w h hs
  | panic c => exact h2 (.panic c) st a w h hs
  | outgrown => exact h2 .outgrown st a w h hs
theorem rel_end {id : Nat} {K : Exit → St → Option R} {Q : Exit → Act → World → Prop} (h : Rel X r K Q) : Rel X r (atEnd id K) (Exit.inBlock id Q) := by
  intro e st a w h1 hs
  cases e with
  | normal => exact h .normal st a w h1 hs
  | exit i =>
    simp only [atEnd] at h1
    show if i = id then Q .normal a w else Q (.exit i) a w
    split at h1
    · rename_i hb
      rw [if_pos (Nat.eq_of_beq_eq_true hb)]
      exact h .normal st a w h1 hs
    · rename_i hb
      rw [if_neg (beq_ne hb)]
      exact h (.exit i) st a w h1 hs
  | goto l => exact h (.goto l) st a w h1 hs
  | ret => exact h .ret st a w h1 hs
  | panic c => exact h (.panic c) st a w h1 hs
  | outgrown => exact h .outgrown st a w h1 hs
theorem keep_r (n : Nat) : keepOf G (2 * n) = G.cutR n := by
  unfold keepOf
  rw [if_pos (by omega), show 2 * n / 2 = n by omega]
theorem keep_l (n : Nat) : keepOf G (2 * n + 1) = G.cutL n := by
  unfold keepOf
  rw [if_neg (by omega), show (2 * n + 1) / 2 = n by omega]
theorem slots_all {N : Nat} : ∀ {l : List (Nat × KM)}, slotsIn N l = true → (l.all fun p => Nat.blt p.1 N) = true
  | [], _ => rfl
  | p :: l, h => by
    unfold slotsIn at h
    split at h
    · rename_i h1; rw [List.all_cons, h1, slots_all h]; rfl
    · cases h
theorem cutL_ok {n : Nat} {q : Act → World → Prop} (hf : Fit P X G) (hg : ∀ keep vs a w, keepOf G (2 * n + 1) = some keep → G.F (2 * n + 1) vs = some r → Sim X (build keep vs).fs a w → q a w) (h : cutL G n st = some r) (hs : Sim X st.fs a w) : q a w := by
  unfold cutL at h
  split at h
  · rename_i keep hk
    have hk' : keepOf G (2 * n + 1) = some keep := by rw [keep_l]; exact hk
    unfold toCut at h
    split at h
    · rename_i hsl
      obtain ⟨vs, h1, h2⟩ := cut_sim hs (by rw [hf.N]; exact slots_all hsl) h
      exact hg keep vs a w hk' h1 h2
    · cases h
  · cases h
theorem rel_goto (hf : Fit P X G) {x : Code} {K : Exit → St → Option R} {Q : Exit → Act → World → Prop} (hg : HG P X r G ((labs x).map fun l => (2 * (1000 + l) + 1, Swp P x ((findLabel x l).getD .skip) Q))) (h : Rel X r K Q) : Rel X r (gotoK G x K) (gotoQ P x Q) := by
  intro e st a w h1 hs
  cases e with
  | normal => exact h .normal st a w h1 hs
  | exit i => exact h (.exit i) st a w h1 hs
  | goto l =>
    simp only [gotoK] at h1
    split at h1
    · rename_i hl
      obtain ⟨rest, hr⟩ := lab_find x hl
      refine ⟨rest, hr, cutL_ok hf (fun keep vs a w h2 h3 h4 => ?_) h1 hs⟩
      have hm : l ∈ labs x := by
        obtain ⟨l', h5, h6⟩ := List.any_eq_true.1 hl
        rwa [Nat.eq_of_beq_eq_true h6]
      have := hg _ (List.mem_map_of_mem (f := fun l => (2 * (1000 + l) + 1, Swp P x ((findLabel x l).getD .skip) Q)) hm) keep vs a w h2 h3 h4
      simpa [hr] using this
    · cases h1
  | ret => exact h .ret st a w h1 hs
  | panic c => exact h (.panic c) st a w h1 hs
  | outgrown => exact h .outgrown st a w h1 hs
theorem again_ok (hf : Fit P X G) {x : Code} {K : Exit → St → Option R} {Q : Exit → Act → World → Prop} (hb : ∀ (st : St) (K : Exit → St → Option R) (Q : Exit → Act → World → Prop) (a : Act) (w : World), HG P X r G (occQ P x Q) → Rel X r K Q → run G x st K = some r → Sim X st.fs a w → x.wp P Q a w)
    (hg : HG P X r G (occQ P (.loop x) Q)) (hr : Rel X r K Q) : ∀ (st : St) (a : Act) (w : World), again G (fun st K => run G x st K) (nameOf x) K st = some r → Sim X st.fs a w → Lwp P x Q a w := by
  intro st a w h hs
  unfold again at h
  split at h
  · exact cutL_ok hf (fun keep vs a w h1 h2 h3 => hg _ (by simp only [occQ]; exact List.mem_cons_self) keep vs a w h1 h2 h3) h hs
  · have hgx : HG P X r G (occQ P x (Exit.then (Lwp P x Q) Q)) := fun p hp => hg p (by simp only [occQ]; exact List.mem_cons_of_mem _ hp)
    have main : ∀ (n : Nat) (st : St) (a : Act) (w : World), loopN (fun st K => run G x st K) K n st = some r → Sim X st.fs a w → Lwp P x Q a w := by
      intro n
      induction n with
      | zero => intro st a w h _; cases h
      | succ n ih => intro st a w h hs; exact lwp_round (hb st _ _ a w hgx (rel_then ih hr) h hs)
    exact main _ st a w h hs
theorem run_ok (hf : Fit P X G) : ∀ (c : Code) (st : St) (K : Exit → St → Option R) (Q : Exit → Act → World → Prop) (a : Act) (w : World), HG P X r G (occQ P c Q) → Rel X r K Q → run G c st K = some r → Sim X st.fs a w → c.wp P Q a w
  | .skip, st, K, Q, a, w, _, hr, h, hs => wp_skip (hr _ _ _ _ h hs)
  | .label l, st, K, Q, a, w, _, hr, h, hs => wp_label (hr _ _ _ _ h hs)
  | .region id ops draw, st, K, Q, a, w, hg, hr, h, hs => by
    simp only [run] at h
    split at h
    · rename_i keep hk
      have hk' : keepOf G (2 * id) = some keep := by rw [keep_r]; exact hk
      unfold toCut at h
      split at h
      · rename_i hsl
        obtain ⟨vs, h1, h2⟩ := cut_sim hs (by rw [hf.N]; exact slots_all hsl) h
        exact hg _ (by simp only [occQ]; exact List.mem_cons_self) keep vs a w hk' h1 h2
      · cases h
    · exact regV_ok hf h (fun st' a w h1 h2 => hr _ _ _ _ h1 h2) hs
  | .seq x y, st, K, Q, a, w, hg, hr, h, hs => by
    refine wp_seq (run_ok hf x st _ _ a w (fun p hp => hg p ?_) (rel_then (fun st' a w h1 h2 => run_ok hf y st' K Q a w (fun p hp => hg p ?_) hr h1 h2) hr) h hs)
    · simp only [occQ]; exact List.mem_append_left _ hp
    · simp only [occQ]; exact List.mem_append_right _ hp
  | .cond c x y, st, K, Q, a, w, hg, hr, h, hs => by
    simp only [run] at h
    split at h
    · rename_i hin
      obtain ⟨b, h1, h2⟩ := onB_of h
      obtain ⟨E, hsE⟩ := hs
      have hv := ev_held hsE (st := st) (x := c) fun s hs => ⟨rfl, by subst hs; rw [hf.N]; exact Nat.le_of_ble_eq_true hin⟩
      have hb := asB_of h1 hv
      refine wp_cond hb ?_
      cases b with
      | true => exact run_ok hf x st K Q a w (fun p hp => hg p (by simp only [occQ]; exact List.mem_append_left _ hp)) hr h2 ⟨E, hsE⟩
      | false => exact run_ok hf y st K Q a w (fun p hp => hg p (by simp only [occQ]; exact List.mem_append_right _ hp)) hr h2 ⟨E, hsE⟩
    · cases h
  | .block id x, st, K, Q, a, w, hg, hr, h, hs => wp_block (run_ok hf x st _ _ a w hg (rel_end hr) h hs)
  | .loop x, st, K, Q, a, w, hg, hr, h, hs => lwp_loop (again_ok hf (fun st K Q a w => run_ok hf x st K Q a w) hg hr st a w (by simpa only [run] using h) hs)
  | .exit id, st, K, Q, a, w, _, hr, h, hs => wp_exit (hr _ _ _ _ h hs)
  | .ret, st, K, Q, a, w, _, hr, h, hs => wp_ret (hr _ _ _ _ h hs)
  | .rangeFunc _ _ _ _, st, K, Q, a, w, _, _, h, _ => by simp [run] at h
  | .scope x, st, K, Q, a, w, hg, hr, h, hs => swp_scope (swp_round (run_ok hf x st _ _ a w (fun p hp => hg p (by simp only [occQ]; exact List.mem_append_right _ hp)) (rel_goto hf (fun p hp => hg p (by simp only [occQ]; exact List.mem_append_left _ hp)) hr) h hs))
  | .goto l, st, K, Q, a, w, _, hr, h, hs => wp_goto (hr _ _ _ _ h hs)
  | .refuse _, st, K, Q, a, w, _, _, h, _ => by simp [run] at h
def Side (X : Cx) (r : R) : List (Nat × (St → Option R)) → List (Nat × (Act → World → Prop)) → Prop
  | [], [] => True
  | p :: l, q :: l' => p.1 = q.1 ∧ (∀ st a w, p.2 st = some r → Sim X st.fs a w → q.2 a w) ∧ Side X r l l'
  | _, _ => False
theorem side_append {l1 l2 : List (Nat × (St → Option R))} {m1 m2 : List (Nat × (Act → World → Prop))} (h1 : Side X r l1 m1) (h2 : Side X r l2 m2) : Side X r (l1 ++ l2) (m1 ++ m2) := by
  induction l1 generalizing m1 with
  | nil =>
    cases m1 with
    | nil => exact h2
    | cons q m => exact h1.elim
  | cons p l ih =>
    cases m1 with
    | nil => exact h1.elim
    | cons q m => exact ⟨h1.1, h1.2.1, ih h1.2.2⟩
theorem side_mem {l : List (Nat × (St → Option R))} {m : List (Nat × (Act → World → Prop))} (h : Side X r l m) {q : Nat × (Act → World → Prop)} (hq : q ∈ m) : ∃ p ∈ l, p.1 = q.1 ∧ ∀ st a w, p.2 st = some r → Sim X st.fs a w → q.2 a w := by
  induction l generalizing m with
  | nil =>
    cases m with
    | nil => cases hq
    | cons q m => exact h.elim
  | cons p l ih =>
    cases m with
    | nil => exact h.elim
    | cons q' m =>
      rcases List.mem_cons.1 hq with rfl | hq
      · exact ⟨p, List.mem_cons_self, h.1, h.2.1⟩
      · obtain ⟨p', h1, h2⟩ := ih h.2.2 hq
        exact ⟨p', List.mem_cons_of_mem _ h1, h2⟩
theorem occs_ok (hf : Fit P X G) : ∀ (c : Code) (K : Exit → St → Option R) (Q : Exit → Act → World → Prop), HG P X r G (occQ P c Q) → Rel X r K Q → Side X r (occs G c K) (occQ P c Q)
  | .region id ops draw, K, Q, hg, hr => ⟨rfl, fun st a w h hs => regV_ok hf h (fun st' a w h1 h2 => hr _ _ _ _ h1 h2) hs, trivial⟩
  | .seq x y, K, Q, hg, hr => by
    simp only [occs, occQ] at hg ⊢
    have hgx : HG P X r G (occQ P x (Exit.then (y.wp P Q) Q)) := fun p hp => hg p (List.mem_append_left _ hp)
    have hgy : HG P X r G (occQ P y Q) := fun p hp => hg p (List.mem_append_right _ hp)
    exact side_append (occs_ok hf x _ _ hgx (rel_then (fun st' a w h1 h2 => run_ok hf y st' K Q a w hgy hr h1 h2) hr)) (occs_ok hf y K Q hgy hr)
  | .cond c x y, K, Q, hg, hr => by
    simp only [occs, occQ] at hg ⊢
    exact side_append (occs_ok hf x K Q (fun p hp => hg p (List.mem_append_left _ hp)) hr) (occs_ok hf y K Q (fun p hp => hg p (List.mem_append_right _ hp)) hr)
  | .block id x, K, Q, hg, hr => occs_ok hf x _ _ hg (rel_end hr)
  | .loop x, K, Q, hg, hr => by
    have hg0 := hg
    simp only [occs, occQ] at hg ⊢
    have hgx : HG P X r G (occQ P x (Exit.then (Lwp P x Q) Q)) := fun p hp => hg p (List.mem_cons_of_mem _ hp)
    have hrel : Rel X r (andThen (again G (fun st K => run G x st K) (nameOf x) K) K) (Exit.then (Lwp P x Q) Q) := rel_then (again_ok hf (fun st K Q a w => run_ok hf x st K Q a w) hg0 hr) hr
    exact ⟨rfl, fun st a w h hs => lwp_round (run_ok hf x st _ _ a w hgx hrel h hs), occs_ok hf x _ _ hgx hrel⟩
  | .skip, K, Q, _, _ => trivial
  | .label _, K, Q, _, _ => trivial
  | .exit _, K, Q, _, _ => trivial
  | .ret, K, Q, _, _ => trivial
  | .rangeFunc _ _ _ _, K, Q, _, _ => trivial
  | .scope x, K, Q, hg, hr => by
    simp only [occs, occQ] at hg ⊢
    have hgl : HG P X r G ((labs x).map fun l => (2 * (1000 + l) + 1, Swp P x ((findLabel x l).getD .skip) Q)) := fun p hp => hg p (List.mem_append_left _ hp)
    have hgx : HG P X r G (occQ P x (gotoQ P x Q)) := fun p hp => hg p (List.mem_append_right _ hp)
    have hrel := rel_goto hf hgl hr
    refine side_append ?_ (occs_ok hf x _ _ hgx hrel)
    have : ∀ ls : List Nat, (∀ l ∈ ls, l ∈ labs x) → Side X r (ls.map fun l => (2 * (1000 + l) + 1, fun st => run G ((findLabel x l).getD .skip) st (gotoK G x K))) (ls.map fun l => (2 * (1000 + l) + 1, Swp P x ((findLabel x l).getD .skip) Q)) := by
      intro ls
      induction ls with
      | nil => intro _; trivial
      | cons l ls ih =>
        intro hl
        refine ⟨rfl, fun st a w h hs => ?_, ih fun l' h' => hl l' (List.mem_cons_of_mem _ h')⟩
        obtain ⟨rest, hrest⟩ := lab_find x (l := l) (List.any_eq_true.2 ⟨l, hl l List.mem_cons_self, Nat.beq_refl l⟩)
        simp only [hrest, Option.getD_some] at h ⊢
        exact swp_round (run_ok hf rest st _ _ a w (fun p hp => hgx p (occQ_find x _ hrest p hp)) hrel h hs)
    exact this _ fun _ h => h
  | .goto _, K, Q, _, _ => trivial
  | .refuse _, K, Q, _, _ => trivial
end
def Cfg.with {R : Type} (G : Cfg R) (S : FuncId → Option (Spec R)) (F : Nat → List CV → Option R) : Cfg R := { G with S := S, F := F }
theorem places {P : Program} {X : Cx} {R : Type} {r : R} {c : Code} {K : Exit → St → Option R} {Q : Exit → Act → World → Prop} (G : Nat → Cfg R) (hf : ∀ k, Fit P X (G k)) (hk : ∀ k key, keepOf (G k) key = keepOf (G 0) key) (h0 : ∀ key vs, (G 0).F key vs ≠ some r)
    (hs : ∀ k, ∀ p ∈ occs (G k) c K, ∀ keep vs, keepOf (G 0) p.1 = some keep → (G (k + 1)).F p.1 vs = some r → p.2 (build keep vs) = some r) (hr : Rel X r K Q) : ∀ k, HG P X r (G k) (occQ P c Q)
  | 0 => fun p _ keep vs a w _ h _ => absurd h (h0 _ _)
  | k + 1 => fun q hq keep vs a w hkp h hsim => by
    have ih := places G hf hk h0 hs hr k
    obtain ⟨p, h1, h2, h3⟩ := side_mem (occs_ok (hf k) c K Q ih hr) hq
    refine h3 _ a w (hs k p h1 keep vs ?_ ?_) hsim
    · rw [h2, ← hk (k + 1)]; exact hkp
    · rw [h2]; exact h
inductive RM where
  | p
  | o (k : EK) (e : TypeId)
def retOne (T : TT) (st : St) : ResultVar → RM → Option (RV × List Nat × Option Nat)
  | .tmp t, .p => (match frz st 8 (st.get t) with
    | some (a, ids) => some (.p a, ids, none)
    | none => none)
  | .tmp t, .o k e => (match k.isMap || k.nn with
    | true => none
    | false => (match st.get t with
      | .sli id => (match st.blk id with
        | some (.ints k' e' l) => (match Nat.beq e e' with
          | true => if k' = k ∨ (k' = .bigN ∧ k = .big) then some (.o k e l, [], some id) else none
          | false => none)
        | _ => none)
      | .lit (.slice none 0 0) => some (.o k e [], [], none)
      | _ => none))
  | .cell p ty, _ => (match st.get p, look ty T.und, look ty T.inf with
    | .ptr id 0, some d, some (s, _) => (match d.scalar, st.blk id with
      | false, some (.cells _ l) => (match Nat.beq s l.length, frzL (frz st 8) l with
        | true, some (l', ids) => some (.p (.agg l'), ids, none)
        | _, _ => none)
      | _, _ => none)
    | _, _, _ => none)
def retAll (T : TT) (st : St) : List ResultVar → List RM → Option (List RV × List Nat × List (Option Nat))
  | [], _ => some ([], [], [])
  | v :: vs, ms => (match retOne T st v (ms.headD .p), retAll T st vs ms.tail with
    | some (r, ids, o), some (rs, ids', os) => some (r :: rs, ids ++ ids', o :: os)
    | _, _ => none)
def countO : List RV → Nat
  | [] => 0
  | .o _ _ _ :: r => countO r + 1
  | _ :: r => countO r
def rowOf (b : Option TypeId) (a : AV) : Option Nat := match b, a with
  | none, .sli i => some i
  | some ty, .fp ty' [.sli i] => (match Nat.beq ty' ty with
    | true => some i
    | false => none)
  | _, _ => none
def mutEnd (st : St) : Option (Nat × Option TypeId × IntKind × TypeId) → Option (List Int × List Nat)
  | none => some ([], [])
  | some (s, b, k, e) => (match rowOf b (st.get s) with
    | some i => (match st.blk i with
      | some (.ints (.num k') e' l) => (match Nat.beq e e' with
        | true => if k' = k then some (l, [i]) else none
        | false => none)
      | _ => none)
    | none => none)
def retV {R : Type} (T : TT) (vars : List ResultVar) (ms : List RM) (pn : Option (Nat × Option TypeId × IntKind × TypeId)) (K : List RV → List Int → Option R) (st : St) : Option R := match retAll T st vars ms, mutEnd st pn with
  | some (rs, ids, os), some (m', mi) => (match Nat.ble (countO rs) 1 && !(meets ids (ownIds os ++ mi)) && !(meets (ownIds os) mi) with
    | true => K rs m'
    | false => none)
  | _, _ => none
def Kmain {R : Type} (K : St → Option R) : Exit → St → Option R := fun e st => match e with
  | .ret => K st
  | .normal => K st
  | _ => none
def initSl : List XV → Nat → List (Nat × AV)
  | [], _ => []
  | .p a :: xs, j => (j, a) :: initSl xs (j + 1)
  | .m none _ _ _ :: xs, j => (j, .sli 0) :: initSl xs (j + 1)
  | .m (some ty) _ _ _ :: xs, j => (j, .fp ty [.sli 0]) :: initSl xs (j + 1)
def initBl : List XV → List (Nat × Blk)
  | [] => []
  | .p _ :: xs => initBl xs
  | .m _ k e l :: _ => [(0, .ints (.num k) e l)]
def pinAt : List XV → Nat → Option Nat
  | [], _ => none
  | .p _ :: xs, j => pinAt xs (j + 1)
  | .m _ _ _ _ :: _, j => some j
def pinK : List XV → Nat → Option (Nat × Option TypeId × IntKind × TypeId)
  | [], _ => none
  | .p _ :: xs, j => pinK xs (j + 1)
  | .m b k e _ :: _, j => some (j, b, k, e)
def countM : List XV → Nat
  | [] => 0
  | .p _ :: xs => countM xs
  | .m _ _ _ _ :: xs => countM xs + 1
def initSt (xs : List XV) : St := ⟨initSl xs 0, initBl xs, 1⟩
def RImp : List RV → List RV → Prop
  | [], [] => True
  | .p a :: r, .p a' :: r' => (∀ W v, Den En0 (fun _ => none) W a v → Den En0 (fun _ => none) W a' v) ∧ RImp r r'
  | .o k e l :: r, .o k' e' l' :: r' => (k = k' ∧ e = e' ∧ l = l') ∧ RImp r r'
  | _, _ => False
section
variable {P : Program} {X : Cx} {E E' : En} {F : FS} {a : Act} {w w' : World} {st : St} {R : Type} {r : R} {T : TT}
def ROk (E : En) (B : Nat → Option Blk) (w' : World) (nb' : Nat → Prop) : RV → Option Nat → Value → Prop
  | .p a, _, u => HeldF w' nb' a u
  | .o k e l, none, u => (k.isMap = false ∧ k.nn = false) ∧ u = .slice none 0 0 ∧ l = []
  | .o k e l, some id, u => (k.isMap = false ∧ k.nn = false) ∧ (∃ k0, B id = some (.ints k0 e l)) ∧ ((E.ν id = true ∧ u = .slice none 0 0 ∧ l = []) ∨ (E.ν id = false ∧ ∃ c, u = .slice (some ⟨E.ρ id, 0, none⟩) l.length c ∧ OthAt w' nb' (E.ρ id) c k e l))
theorem retOne_of {v : ResultVar} {m : RM} {rv : RV} {ids : List Nat} {ow : Option Nat} {nb' : Nat → Prop} (hT : T.ok P) (hs : SimAt X E st.fs a w) (hN : ∀ t, v = .tmp t ∨ (∃ ty, v = .cell t ty) → t < X.N) (h : retOne T st v m = some (rv, ids, ow)) (hnb : ∀ k, Lent E st.fs.B (NB X.okk E st.fs.B) ids k → nb' k) :
    ∃ u, (∀ rs vs, Vals P a.tmps w rs vs → Vals P a.tmps w (v :: rs) (u :: vs)) ∧ ROk E st.fs.B w nb' rv ow u := by
  cases v with
  | tmp t =>
    obtain ⟨u, h1, h2⟩ := hs.slot t (hN t (.inl rfl))
    have hu : a.tmps.getD t undef = u := by simp [h1]
    refine ⟨u, fun rs vs hv => hu ▸ .tmp hv, ?_⟩
    cases m with
    | p =>
      simp only [retOne] at h
      split at h
      · rename_i a' ids' hf
        injection h with h; injection h with h3 h4; injection h4 with h4 h5
        subst h3; subst h4; subst h5
        exact Held.mono (frz_of hs 8 hf (fun _ _ => rfl) h2) hnb
      · cases h
    | o k e =>
      simp only [retOne] at h
      split at h
      · cases h
      · rename_i hkk
        have hkk' : k.isMap = false ∧ k.nn = false := by simpa using hkk
        split at h
        · rename_i id hg
          split at h
          · rename_i k' e' l hb
            split at h
            · rename_i he
              split at h
              · rename_i hk
                injection h with h; injection h with h3 h4; injection h4 with h4 h5
                subst h3; subst h4; subst h5
                have := Nat.eq_of_beq_eq_true he
                subst this
                have h2' : Held E st.fs.B w (NB X.okk E st.fs.B) (.sli id) u := hg ▸ h2
                have hkm : k'.isMap = false := by
                  rcases hk with rfl | ⟨rfl, _⟩
                  · exact hkk'.1
                  · rfl
                refine ⟨hkk', ⟨_, hb⟩, ?_⟩
                rcases sli_oth hs hkm hb h2' with h6 | ⟨h6, h7, h8⟩
                · exact .inl h6
                · have h9 : OthAt w (NB X.okk E st.fs.B) (E.ρ id) (E.γ id) k e l := by
                    rcases hk with rfl | ⟨rfl, rfl⟩
                    · exact h8
                    · exact oth_nn.1 h8
                  exact .inr ⟨h6, _, h7, h9.move rfl (Nat.le_refl _) fun q hq _ => ⟨rfl, hnb q (.inl hq)⟩⟩
              · cases h
            · cases h
          · cases h
        · rename_i hg
          injection h with h; injection h with h3 h4; injection h4 with h4 h5
          subst h3; subst h5
          have h2' : Held E st.fs.B w (NB X.okk E st.fs.B) (.lit (.slice none 0 0)) u := hg ▸ h2
          exact ⟨hkk', lit_of h2', rfl⟩
        · cases h
  | cell p ty =>
    obtain ⟨u, h1, h2⟩ := hs.slot p (hN p (.inr ⟨ty, rfl⟩))
    have hu : a.tmps.getD p undef = u := by simp [h1]
    simp only [retOne] at h
    split at h
    · rename_i id d s rest hg hd hi
      split at h
      · rename_i ty' l hsc hb
        split at h
        · rename_i l' ids' hl hf
          injection h with h; injection h with h3 h4; injection h4 with h4 h5
          subst h3; subst h4; subst h5
          have h2' : Held E st.fs.B w (NB X.okk E st.fs.B) (.ptr id 0) u := hg ▸ h2
          have h6 := h2'.now
          unfold Den at h6
          obtain ⟨hn, us, h7, h8⟩ := hs.blk id _ hb
          obtain ⟨i, z, h9, h10, _⟩ := hT.2 ty _ hi
          have hlen : s = us.length := by rw [heldL_len h8]; exact Nat.eq_of_beq_eq_true hl
          have hok := hT.1 ty d hd
          have hsz : (P.info? ty).map (·.size) = some us.toArray.size := by rw [h9]; simp [h10, hlen]
          refine ⟨.agg us.toArray, fun rs vs hv => ?_, ?_⟩
          · cases d with
            | struct fs => obtain ⟨f, h11, _⟩ := hok; exact .cell (E.ρ id) ty' us.toArray (0, 0) _ (hu.trans h6.2) h7 h11 rfl hsz hv
            | array n e => exact .cell (E.ρ id) ty' us.toArray (0, 0) _ (hu.trans h6.2) h7 hok rfl hsz hv
            | int k => cases hsc
            | bool => cases hsc
            | str => cases hsc
            | ptr e => cases hsc
            | slice e => cases hsc
            | map k e => cases hsc
          exact Held.mono (held_agg (frzL_of (frz_of hs 8) hf (fun _ _ => rfl) h8)) hnb
        · cases h
      · cases h
    · cases h
theorem retAll_of {nb' : Nat → Prop} (hT : T.ok P) (hs : SimAt X E st.fs a w) : ∀ (vars : List ResultVar) (ms : List RM) {rs : List RV} {ids : List Nat} {os : List (Option Nat)}, (∀ v ∈ vars, ∀ t, v = .tmp t ∨ (∃ ty, v = .cell t ty) → t < X.N) → retAll T st vars ms = some (rs, ids, os) → (∀ k, Lent E st.fs.B (NB X.okk E st.fs.B) ids k → nb' k) →
    ∃ vs, Vals P a.tmps w vars vs ∧ rs.length = vs.length ∧ os.length = vs.length ∧ ∀ (j : Nat) (rv : RV) (ow : Option Nat) (u : Value), rs[j]? = some rv → os[j]? = some ow → vs[j]? = some u → ROk E st.fs.B w nb' rv ow u
  | [], ms, rs, ids, os, _, h, _ => by
    injection h with h; injection h with h1 h2; injection h2 with h2 h3
    subst h1; subst h3
    exact ⟨[], .nil, rfl, rfl, fun j rv ow u h => by simp at h⟩
  | v :: vars, ms, rs, ids, os, hN, h, hnb => by
    unfold retAll at h
    split at h
    · rename_i r0 ids0 o0 rs' ids' os' h1 h2
      injection h with h; injection h with e1 e2; injection e2 with e2 e3
      subst e1; subst e2; subst e3
      obtain ⟨u, h3, h4⟩ := retOne_of hT hs (hN v List.mem_cons_self) h1 fun k hk => hnb k (hk.elim .inl fun ⟨i, hi, hh⟩ => .inr ⟨i, List.mem_append_left _ hi, hh⟩)
      obtain ⟨vs, h5, h6, h7, h8⟩ := retAll_of hT hs vars _ (fun v' hv' => hN v' (List.mem_cons_of_mem _ hv')) h2 fun k hk => hnb k (hk.elim .inl fun ⟨i, hi, hh⟩ => .inr ⟨i, List.mem_append_right _ hi, hh⟩)
      refine ⟨u :: vs, h3 _ _ h5, by simp [h6], by simp [h7], fun j rv ow x e1 e2 e3 => ?_⟩
      cases j with
      | zero =>
        simp only [List.getElem?_cons_zero, Option.some.injEq] at e1 e2 e3
        subst e1; subst e2; subst e3
        exact h4
      | succ j =>
        simp only [List.getElem?_cons_succ] at e1 e2 e3
        exact h8 j rv ow x e1 e2 e3
    · cases h
theorem rall_of {ok : Nat → Prop} {G : Option Nat} {w0 : World} {B : Nat → Option Blk} {nb' : Nat → Prop} (hp : ∀ k, nb' k → (ok k ∨ w0.heap.size ≤ k) ∧ G ≠ some k) : ∀ (rs : List RV) (os : List (Option Nat)) (vs : List Value), rs.length = vs.length → os.length = vs.length → (∀ (j : Nat) (rv : RV) (ow : Option Nat) (u : Value), rs[j]? = some rv → os[j]? = some ow → vs[j]? = some u → ROk E B w nb' rv ow u) →
    (∀ (j : Nat) (ow : Option Nat) (k : EK) (e : TypeId) (l : List Int) (u : Value), rs[j]? = some (.o k e l) → os[j]? = some ow → ROk E B w nb' (.o k e l) ow u → OAt w (fun k => (ok k ∨ w0.heap.size ≤ k) ∧ G ≠ some k) G k e l u ∧ ∀ g, G = some g → w0.heap.size ≤ g) → RAll w0 w ok G rs vs
  | [], os, [], _, _, _, _ => trivial
  | [], os, _ :: _, h, _, _, _ => by simp at h
  | _ :: _, os, [], h, _, _, _ => by simp at h
  | r0 :: rs, [], _ :: _, _, h, _, _ => by simp at h
  | r0 :: rs, o0 :: os, v :: vs, h1, h2, h3, h4 => by
    refine ⟨?_, rall_of hp rs os vs (by simpa using h1) (by simpa using h2) (fun j rv ow u e1 e2 e3 => h3 (j + 1) rv ow u e1 e2 e3) fun j ow k e l u e1 e2 e3 => h4 (j + 1) ow k e l u e1 e2 e3⟩
    have h5 := h3 0 r0 o0 v rfl rfl rfl
    cases r0 with
    | p a' => exact Held.mono h5 hp
    | o k e l => exact h4 0 o0 k e l v rfl rfl h5
theorem rall_imp {ok : Nat → Prop} {G : Option Nat} {w0 : World} : ∀ {rs rs' : List RV} {vs : List Value}, RImp rs rs' → RAll w0 w ok G rs vs → RAll w0 w ok G rs' vs
  | [], [], [], _, _ => trivial
  | [], [], _ :: _, _, h => (h : False).elim
  | .p a :: rs, .p a' :: rs', v :: vs, h, h' => ⟨fun W' hW => h.1 _ _ (h'.1 W' hW), rall_imp h.2 h'.2⟩
  | .o k e l :: rs, .o k' e' l' :: rs', v :: vs, h, h' => by
    obtain ⟨⟨rfl, rfl, rfl⟩, h2⟩ := h
    exact ⟨h'.1, rall_imp h2 h'.2⟩
  | .p _ :: _, [], _, h, _ => (h : False).elim
  | .o _ _ _ :: _, [], _, h, _ => (h : False).elim
  | [], .p _ :: _, _, h, _ => (h : False).elim
  | [], .o _ _ _ :: _, _, h, _ => (h : False).elim
  | .p _ :: _, .o _ _ _ :: _, _, h, _ => (h : False).elim
  | .o _ _ _ :: _, .p _ :: _, _, h, _ => (h : False).elim
  | .p _ :: _, .p _ :: _, [], _, h => (h : False).elim
  | .o _ _ _ :: _, .o _ _ _ :: _, [], _, h => (h : False).elim
theorem xall_len {ok : Nat → Prop} {M : Option Nat} : ∀ {xs : List XV} {us : List Value}, XAll w ok M xs us → us.length = xs.length
  | [], [], _ => rfl
  | [], _ :: _, h => (h : False).elim
  | _ :: _, [], h => (h : False).elim
  | x :: xs, u :: us, h => by rw [List.length_cons, List.length_cons, xall_len h.2]
def mAV : Option TypeId → AV
  | none => .sli 0
  | some ty => .fp ty [.sli 0]
theorem init_at {ok : Nat → Prop} {M : Option Nat} {t : Nat} : ∀ (xs : List XV) (us : List Value) (j : Nat), XAll w ok M xs us → j ≤ t → (∃ x u, us[t - j]? = some u ∧ xs[t - j]? = some x ∧ XAt w ok M x u ∧ look t (initSl xs j) = some (match x with | .p a => a | .m b _ _ _ => mAV b)) ∨ (us[t - j]? = none ∧ look t (initSl xs j) = none)
  | [], [], j, _, _ => .inr ⟨by simp, rfl⟩
  | [], _ :: _, j, h, _ => (h : False).elim
  | _ :: _, [], j, h, _ => (h : False).elim
  | x :: xs, u :: us, j, h, hj => by
    by_cases he : t = j
    · subst he
      refine .inl ⟨x, u, by simp, by simp, h.1, ?_⟩
      cases x with
      | p a => simp [initSl, look]
      | m b k e l => cases b <;> simp [initSl, look, mAV]
    · have hne : Nat.beq t j = false := by cases hb : Nat.beq t j with
        | false => rfl
        | true => exact absurd (Nat.eq_of_beq_eq_true hb) he
      have e1 : t - j = (t - (j + 1)) + 1 := by omega
      have e2 : look t (initSl (x :: xs) j) = look t (initSl xs (j + 1)) := by
        cases x with
        | p a => show (match Nat.beq t j with | true => some a | false => look t (initSl xs (j + 1))) = _; rw [hne]
        | m b k e l => cases b with
          | none => show (match Nat.beq t j with | true => some (AV.sli 0) | false => look t (initSl xs (j + 1))) = _; rw [hne]
          | some ty => show (match Nat.beq t j with | true => some (AV.fp ty [.sli 0]) | false => look t (initSl xs (j + 1))) = _; rw [hne]
      rw [e1, e2, List.getElem?_cons_succ, List.getElem?_cons_succ]
      exact init_at xs us (j + 1) h.2 (by omega)
theorem pin_at {ok : Nat → Prop} {M : Option Nat} : ∀ (xs : List XV) (us : List Value) (j : Nat), XAll w ok M xs us → (pinAt xs j = none ∧ pinK xs j = none ∧ initBl xs = [] ∧ countM xs = 0) ∨ ∃ (s : Nat) (b : Option TypeId) (k : IntKind) (e : TypeId) (l : List Int) (u x : Value), pinAt xs j = some (j + s) ∧ pinK xs j = some (j + s, b, k, e) ∧ initBl xs = [(0, .ints (.num k) e l)] ∧ us[s]? = some u ∧ xs[s]? = some (.m b k e l) ∧ RowIn w b u x ∧ MAt w M k e l x ∧ BoxOk ok b u ∧ ∀ g, M = some g → ¬ ok g
  | [], [], j, _ => .inl ⟨rfl, rfl, rfl, rfl⟩
  | [], _ :: _, j, h => (h : False).elim
  | _ :: _, [], j, h => (h : False).elim
  | .p a :: xs, u :: us, j, h => by
    rcases pin_at xs us (j + 1) h.2 with h1 | ⟨s, b, k, e, l, u', x, h1, h1k, h2, h3, h4, h5⟩
    · exact .inl h1
    · exact .inr ⟨s + 1, b, k, e, l, u', x, by show pinAt xs (j + 1) = _; rw [h1, Nat.add_assoc, Nat.add_comm 1 s], by show pinK xs (j + 1) = _; rw [h1k, Nat.add_assoc, Nat.add_comm 1 s], h2, h3, h4, h5⟩
  | .m b k e l :: xs, u :: us, j, h => by
    obtain ⟨⟨⟨x, h1, h2⟩, h3, h4⟩, _⟩ := h
    exact .inr ⟨0, b, k, e, l, u, x, rfl, rfl, rfl, rfl, rfl, h1, h2, h3, h4⟩
theorem m_count : ∀ {xs : List XV} {i : Nat} {b : Option TypeId} {k : IntKind} {e : TypeId} {l : List Int}, xs[i]? = some (.m b k e l) → 1 ≤ countM xs
  | [], i, _, _, _, _, h => by simp at h
  | .m _ _ _ _ :: xs, i, _, _, _, _, h => by simp [countM]
  | .p a :: xs, i, b, k, e, l, h => by
    cases i with
    | zero => simp at h
    | succ i => simp only [List.getElem?_cons_succ] at h; exact m_count (xs := xs) h
theorem count_uniq : ∀ {xs : List XV} {i j : Nat} {b b' : Option TypeId} {k k' : IntKind} {e e' : TypeId} {l l' : List Int}, countM xs ≤ 1 → xs[i]? = some (.m b k e l) → xs[j]? = some (.m b' k' e' l') → i = j
  | [], i, j, _, _, _, _, _, _, _, _, _, h, _ => by simp at h
  | x :: xs, i, j, b, b', k, k', e, e', l, l', hc, hi, hj => by
    have hmem : ∀ {xs : List XV} {i : Nat} {b : Option TypeId} {k : IntKind} {e : TypeId} {l : List Int}, xs[i]? = some (.m b k e l) → 1 ≤ countM xs := m_count
    cases x with
    | p a =>
      cases i with
      | zero => simp at hi
      | succ i =>
        cases j with
        | zero => simp at hj
        | succ j =>
          simp only [List.getElem?_cons_succ] at hi hj
          rw [count_uniq (xs := xs) hc hi hj]
    | m b0 k0 e0 l0 =>
      cases i with
      | zero =>
        cases j with
        | zero => rfl
        | succ j => simp only [List.getElem?_cons_succ] at hj; have := hmem hj; simp [countM] at hc; omega
      | succ i => simp only [List.getElem?_cons_succ] at hi; have := hmem hi; simp [countM] at hc; omega
def frameOf (N : Nat) (w : World) (ok : Nat → Prop) (M : Option Nat) (xs : List XV) (us : List Value) : Cx :=
  ⟨N, w, fun k => ok k ∨ w.heap.size ≤ k ∨ ((pinAt xs 0).isSome = true ∧ M = some k), fun k => (pinAt xs 0).isSome = true ∧ M = some k, (pinAt xs 0).map fun s => (s, us.getD s undef)⟩
theorem init_sim {N : Nat} {ok : Nat → Prop} {M : Option Nat} {xs : List XV} {us : List Value} (hgl : GOk w ok) (hx : XAll w ok M xs us) (hlen : xs.length ≤ N) (hc : countM xs ≤ 1) : Sim (frameOf N w ok M xs us) (initSt xs).fs ⟨us.toArray ++ Array.replicate (N - us.toArray.size) undef, []⟩ w := by
  have hul := xall_len hx
  have hp := pin_at xs us 0 hx
  have hcs : ∃ c : Nat, ∀ (s : Nat) (b : Option TypeId) (k : IntKind) (e : TypeId) (l : List Int) (u x : Value), xs[s]? = some (.m b k e l) → us[s]? = some u → RowIn w b u x → MAt w M k e l x → ∀ g, M = some g → ∃ cs : Array Value, cs.size = c ∧ x = .slice (some ⟨g, 0, none⟩) l.length cs.size ∧ Lies w e k l g cs := by
    rcases hp with ⟨h1, _, h2, h3⟩ | ⟨s, b, k, e, l, u, x, h1, _, h2, h3, h4, h5, h6, h7, h8⟩
    · refine ⟨0, fun s b k e l u x hs => ?_⟩
      have := m_count hs
      omega
    · cases hM : M with
      | none => exact ⟨0, fun _ _ _ _ _ _ _ _ _ _ _ g hg => by cases hg⟩
      | some g0 =>
        rw [hM] at h6
        obtain ⟨cs, h9, h10⟩ := h6
        refine ⟨cs.size, fun s' b' k' e' l' u' x' hs' hu' hr' hm' g hg => ?_⟩
        have := count_uniq hc h4 hs'
        subst this
        rw [h4] at hs'
        injection hs' with hs'
        injection hs' with e0 e1 e2 e3
        subst e0; subst e1; subst e2; subst e3
        rw [h3] at hu'
        injection hu' with hu'
        subst hu'
        have := RowIn.uniq h5 hr'
        subst this
        injection hg with hg
        subst hg
        exact ⟨cs, rfl, h9, h10⟩
  obtain ⟨c, hcs⟩ := hcs
  refine ⟨⟨fun _ => M.getD 0, fun _ => c, fun _ => M.isNone⟩, ?_⟩
  have hB : ∀ i b, (initSt xs).fs.B i = some b → i = 0 ∧ ∃ (s : Nat) (bx : Option TypeId) (k : IntKind) (e : TypeId) (l : List Int) (u x : Value), pinAt xs 0 = some s ∧ b = .ints (.num k) e l ∧ us[s]? = some u ∧ xs[s]? = some (.m bx k e l) ∧ RowIn w bx u x ∧ MAt w M k e l x ∧ BoxOk ok bx u ∧ ∀ g, M = some g → ¬ ok g := by
    intro i b hb
    have hb' : look i (initBl xs) = some b := hb
    rcases hp with ⟨h1, _, h2, h3⟩ | ⟨s, bx, k, e, l, u, x, h1, _, h2, h3, h4, h5, h6, h7, h8⟩
    · rw [h2] at hb'; cases hb'
    · rw [h2, look_one] at hb'
      split at hb'
      · rename_i hi
        injection hb' with hb'
        exact ⟨hi, s, bx, k, e, l, u, x, by rw [h1, Nat.zero_add], hb'.symm, h3, h4, h5, h6, h7, h8⟩
      · cases hb'
  have hlive : ∀ i, Live ⟨fun _ => M.getD 0, fun _ => c, fun _ => M.isNone⟩ (initSt xs).fs.B i → i = 0 ∧ (pinAt xs 0).isSome = true ∧ M = some (M.getD 0) ∧ ∀ g, M = some g → ¬ ok g := by
    rintro i ⟨⟨b, h1, _⟩, h2⟩
    obtain ⟨h3, s, bx, k, e, l, u, x, h4, _, _, _, _, _, _, h5⟩ := hB i b h1
    refine ⟨h3, by rw [h4]; rfl, ?_, h5⟩
    cases M with
    | none => cases h2
    | some g => rfl
  have hnb : ∀ k, ok k → NB (frameOf N w ok M xs us).okk ⟨fun _ => M.getD 0, fun _ => c, fun _ => M.isNone⟩ (initSt xs).fs.B k := fun k hk => ⟨.inl hk, fun i hi he => by
    obtain ⟨_, _, h3, h4⟩ := hlive i hi
    exact h4 k (by rw [h3]; exact congrArg some he) hk⟩
  refine ⟨?_, rfl, fun k hk => ?_, fun p hp' => ?_, Fr.refl _ _, fun t ht => ?_, fun i b hb => ?_, fun i hi => ?_, fun i i' hi hi' _ => by rw [(hlive i hi).1, (hlive i' hi').1], fun s v hv => ?_⟩
  · show (us.toArray ++ Array.replicate (N - us.toArray.size) undef).size = N
    simp
    omega
  · rcases hk with hk | hk
    · exact .inr (.inl hk)
    · exact .inr (.inr hk)
  · obtain ⟨h1, h2, h3⟩ := hgl p hp'
    refine ⟨⟨.inl h1, fun hm => ?_⟩, h2, h3⟩
    obtain ⟨hm1, hm2⟩ := (hm : (pinAt xs 0).isSome = true ∧ M = some p.1)
    rcases hp with ⟨h4, _⟩ | ⟨s, bx, k, e, l, u, x, _, _, _, _, _, _, _, _, h8⟩
    · rw [h4] at hm1; cases hm1
    · exact h8 _ hm2 h1
  · rcases init_at (t := t) xs us 0 hx (Nat.zero_le _) with ⟨x, u, h1, h1x, h2, h3⟩ | ⟨h1, h2⟩
    · rw [Nat.sub_zero] at h1 h1x
      have htl := (List.getElem?_eq_some_iff.1 h1).1
      refine ⟨u, by rw [Array.getElem?_append_left (by simpa using htl)]; simpa using h1, ?_⟩
      show Held _ _ _ _ (match look t (initSl xs 0) with | some a => a | none => .any) u
      rw [h3]
      cases x with
      | p a => exact ((h2 : HeldF w ok a u).any).mono hnb
      | m bx k e l =>
        have hBl : (initSt xs).fs.B 0 = some (.ints (.num k) e l) := by
          show look 0 (initBl xs) = _
          rcases hp with ⟨_, _, _, h4⟩ | ⟨s, b', k', e', l', u', x', _, _, h5, _, h6, _⟩
          · have := m_count h1x; omega
          · have := count_uniq hc h1x h6
            subst this
            rw [h1x] at h6
            injection h6 with h6
            injection h6 with e0 e1 e2 e3
            rw [h5, e1, e2, e3]
            rfl
        obtain ⟨⟨x, hr, hm⟩, hbx, _⟩ := h2
        have hsl : Held ⟨fun _ => M.getD 0, fun _ => c, fun _ => M.isNone⟩ (initSt xs).fs.B w (NB (frameOf N w ok M xs us).okk ⟨fun _ => M.getD 0, fun _ => c, fun _ => M.isNone⟩ (initSt xs).fs.B) (.sli 0) x := by
          intro W' hW
          unfold Den
          rw [hBl]
          refine ⟨rfl, ?_, fun k' e' l' hl => ?_⟩
          · have h7 := hm
            unfold MAt at h7
            cases M with
            | none => exact ⟨_, _, _, h7.1⟩
            | some g => obtain ⟨cs, h8, _⟩ := h7; exact ⟨_, _, _, h8⟩
          · injection hl with hl
            injection hl with _ _ hl
            cases hM : M with
            | none =>
              have h7 := hm
              rw [hM] at h7
              simp only [Option.isNone_none, if_true]
              exact h7.1
            | some g =>
              obtain ⟨cs, h8, h9, _⟩ := hcs t bx k e l u x h1x h1 hr hm g hM
              simp only [Option.isNone_some, Bool.false_eq_true, if_false, Option.getD_some]
              rw [h9, h8, hl]
        cases bx with
        | none =>
          have hr' : x = u := hr
          subst hr'
          exact hsl
        | some ty =>
          obtain ⟨g, rfl, hg⟩ := hr
          have hgl' : g < w.heap.size := (Array.getElem?_eq_some_iff.1 hg).1
          intro W' hW
          show Den _ _ W' (.fp ty [.sli 0]) _
          unfold Den
          refine ⟨g, [x], rfl, (hW g (hnb g (hbx rfl g rfl)) hgl').trans hg, ?_⟩
          unfold DenL
          refine ⟨x, [], rfl, hsl W' hW, ?_⟩
          unfold DenL
          rfl
    · rw [Nat.sub_zero] at h1
      have htl : us.length ≤ t := List.getElem?_eq_none_iff.1 h1
      refine ⟨undef, ?_, ?_⟩
      · have ht' : t < N := ht
        rw [Array.getElem?_append_right (by simpa using htl)]
        simp only [List.size_toArray, Array.getElem?_replicate]
        rw [if_pos (by omega)]
      · show Held _ _ _ _ (match look t (initSl xs 0) with | some a => a | none => .any) undef
        rw [h2]
        exact held_any
  · obtain ⟨h1, s, bx, k, e, l, u, x, h2, rfl, h3, h4, hr, h5, _⟩ := hB i b hb
    simp only [BlkAt]
    cases hM : M with
    | none => rw [hM] at h5; simp only [Option.isNone_none, if_true]; exact h5.2
    | some g =>
      obtain ⟨cs, h6, h7, h8⟩ := hcs s bx k e l u x h4 h3 hr h5 g hM
      simp only [Option.isNone_some, Bool.false_eq_true, if_false, Option.getD_some]
      exact ⟨cs, h8.1, h6, h8.2.1, h8.2.2.1, h8.2.2.2⟩
  · obtain ⟨_, h1, h2, _⟩ := hlive i hi
    exact .inr ⟨h1, h2⟩
  · have hv' : (pinAt xs 0).map (fun s => (s, us.getD s undef)) = some (s, v) := hv
    rcases hp with ⟨h1, _⟩ | ⟨s', bx, k, e, l, u, x, h1, _, _, h3, _⟩
    · rw [h1] at hv'; cases hv'
    · rw [h1, Nat.zero_add] at hv'
      simp only [Option.map_some, Option.some.injEq, Prod.mk.injEq] at hv'
      obtain ⟨rfl, rfl⟩ := hv'
      have htl := (List.getElem?_eq_some_iff.1 h3).1
      show (us.toArray ++ _)[s']? = _
      rw [Array.getElem?_append_left (by simpa using htl)]
      simp [h3]
def varsIn (N : Nat) : List ResultVar → Bool
  | [] => true
  | .tmp t :: r => (match Nat.blt t N with
    | true => varsIn N r
    | false => false)
  | .cell t _ :: r => (match Nat.blt t N with
    | true => varsIn N r
    | false => false)
theorem varsIn_of {N : Nat} : ∀ {l : List ResultVar}, varsIn N l = true → ∀ v ∈ l, ∀ t, v = .tmp t ∨ (∃ ty, v = .cell t ty) → t < N
  | [], _, v, hv, _, _ => by cases hv
  | .tmp s :: l, h, v, hv, t, ht => by
    unfold varsIn at h
    split at h
    · rename_i h1
      rcases List.mem_cons.1 hv with rfl | hv
      · rcases ht with ht | ⟨ty, ht⟩
        · injection ht with ht; subst ht; exact Nat.le_of_ble_eq_true h1
        · cases ht
      · exact varsIn_of h v hv t ht
    · cases h
  | .cell s ty :: l, h, v, hv, t, ht => by
    unfold varsIn at h
    split at h
    · rename_i h1
      rcases List.mem_cons.1 hv with rfl | hv
      · rcases ht with ht | ⟨ty', ht⟩
        · cases ht
        · injection ht with ht; subst ht; exact Nat.le_of_ble_eq_true h1
      · exact varsIn_of h v hv t ht
    · cases h
theorem countO_uniq : ∀ {rs : List RV} {os : List (Option Nat)} {i j : Nat}, countO rs ≤ 1 → (∃ k e l, rs[i]? = some (.o k e l)) → (∃ k e l, rs[j]? = some (.o k e l)) → i = j
  | [], os, i, j, _, ⟨_, _, _, h⟩, _ => by simp at h
  | x :: rs, os, i, j, hc, hi, hj => by
    have hmem : ∀ {rs : List RV} {i : Nat}, (∃ k e l, rs[i]? = some (.o k e l)) → 1 ≤ countO rs := by
      intro rs
      induction rs with
      | nil => rintro i ⟨k, e, l, h⟩; simp at h
      | cons x rs ih =>
        rintro i ⟨k, e, l, h⟩
        cases x with
        | o _ _ _ => simp [countO]
        | p a =>
          cases i with
          | zero => simp at h
          | succ i => simp only [List.getElem?_cons_succ] at h; exact ih ⟨k, e, l, h⟩
    obtain ⟨k, e, l, hi⟩ := hi
    obtain ⟨k', e', l', hj⟩ := hj
    cases x with
    | p a =>
      cases i with
      | zero => simp at hi
      | succ i =>
        cases j with
        | zero => simp at hj
        | succ j =>
          simp only [List.getElem?_cons_succ] at hi hj
          rw [countO_uniq (rs := rs) (os := os) hc ⟨_, _, _, hi⟩ ⟨_, _, _, hj⟩]
    | o k0 e0 l0 =>
      cases i with
      | zero =>
        cases j with
        | zero => rfl
        | succ j => simp only [List.getElem?_cons_succ] at hj; have := hmem ⟨_, _, _, hj⟩; simp [countO] at hc; omega
      | succ i => simp only [List.getElem?_cons_succ] at hi; have := hmem ⟨_, _, _, hi⟩; simp [countO] at hc; omega
theorem mall_at {M : Option Nat} {m' : List Int} {ok : Nat → Prop} : ∀ {xs : List XV} {us : List Value}, XAll w ok M xs us → (∀ (s : Nat) (b : Option TypeId) (k : IntKind) (e : TypeId) (l : List Int) (u : Value), xs[s]? = some (.m b k e l) → us[s]? = some u → ∃ x, RowIn w b u x ∧ MAt w' M k e m' x) → MAll w w' M m' xs us
  | [], [], _, _ => trivial
  | [], _ :: _, h, _ => (h : False).elim
  | x :: _, [], h, _ => (h : False).elim
  | .p a :: xs, u :: us, h, hm => mall_at (xs := xs) (us := us) h.2 fun s b k e l u' h1 h2 => hm (s + 1) b k e l u' h1 h2
  | .m b k e l :: xs, u :: us, h, hm => ⟨hm 0 b k e l u rfl rfl, mall_at (xs := xs) (us := us) h.2 fun s b k e l u' h1 h2 => hm (s + 1) b k e l u' h1 h2⟩
theorem ret_own {vars : List ResultVar} : ∀ (ms : List RM) {rs : List RV} {ids : List Nat} {os : List (Option Nat)}, retAll T st vars ms = some (rs, ids, os) → ∀ (j : Nat) (ow : Option Nat), os[j]? = some ow → ow = none ∨ ∃ id k e l, ow = some id ∧ (∃ k1, rs[j]? = some (.o k1 e l)) ∧ st.blk id = some (.ints k e l) := by
  induction vars with
  | nil =>
    intro ms rs ids os h j ow ho
    injection h with h; injection h with h1 h2; injection h2 with h2 h3
    subst h3; simp at ho
  | cons v vars ih =>
    intro ms rs ids os h j ow ho
    unfold retAll at h
    split at h
    · rename_i r0 ids0 o0 rs' ids' os' h1 h2
      injection h with h; injection h with e1 e2; injection e2 with e2 e3
      subst e1; subst e3
      cases j with
      | zero =>
        simp only [List.getElem?_cons_zero, Option.some.injEq] at ho ⊢
        subst ho
        cases v with
        | tmp t =>
          cases hm : ms.headD .p with
          | p =>
            rw [hm] at h1
            simp only [retOne] at h1
            split at h1
            · injection h1 with h1; injection h1 with _ h1; injection h1 with _ h1; exact .inl h1.symm
            · cases h1
          | o k e =>
            rw [hm] at h1
            simp only [retOne] at h1
            split at h1
            · cases h1
            · split at h1
              · split at h1
                · split at h1
                  · rename_i hbe
                    split at h1
                    · rename_i id hg k' e' l hb _ hk
                      injection h1 with h1; injection h1 with h3 h1; injection h1 with _ h1
                      have := Nat.eq_of_beq_eq_true hbe
                      subst this
                      exact .inr ⟨_, _, _, _, h1.symm, ⟨_, by rw [← h3]⟩, by assumption⟩
                    · cases h1
                  · cases h1
                · cases h1
              · injection h1 with h1; injection h1 with _ h1; injection h1 with _ h1; exact .inl h1.symm
              · cases h1
        | cell p ty =>
          simp only [retOne] at h1
          split at h1
          · split at h1
            · split at h1
              · injection h1 with h1; injection h1 with _ h1; injection h1 with _ h1; exact .inl h1.symm
              · cases h1
            · cases h1
          · cases h1
      | succ j =>
        simp only [List.getElem?_cons_succ] at ho ⊢
        exact ih _ h2 j ow ho
    · cases h
theorem own_idx {i : Nat} : ∀ {os : List (Option Nat)}, i ∈ ownIds os → ∃ j : Nat, os[j]? = some (some i)
  | none :: os, h => by
    obtain ⟨j, hj⟩ := own_idx (os := os) h
    exact ⟨j + 1, hj⟩
  | some k :: os, h => by
    rcases List.mem_cons.1 h with rfl | h
    · exact ⟨0, rfl⟩
    · obtain ⟨j, hj⟩ := own_idx h
      exact ⟨j + 1, hj⟩
theorem own_only : ∀ (os : List (Option Nat)) (j : Nat) (ow : Option Nat), os[j]? = some ow → (∀ j', j' ≠ j → ∀ ow', os[j']? = some ow' → ow' = none) → ownIds os = ow.toList
  | [], j, ow, h, _ => by simp at h
  | o :: os, j, ow, h, ho => by
    cases j with
    | zero =>
      simp only [List.getElem?_cons_zero, Option.some.injEq] at h
      subst h
      have hall : ownIds os = [] := by
        cases hos : ownIds os with
        | nil => rfl
        | cons i r =>
          obtain ⟨j, hj⟩ := own_idx (os := os) (i := i) (by rw [hos]; exact List.mem_cons_self)
          cases ho (j + 1) (by omega) _ hj
      cases o <;> simp [ownIds, hall]
    | succ j =>
      simp only [List.getElem?_cons_succ] at h
      have := ho 0 (by omega) o rfl
      subst this
      exact own_only os j ow h fun j' hne ow' h' => ho (j' + 1) (by omega) ow' h'
theorem ret_ok {fn : Func} {vars : List ResultVar} {ms : List RM} {K : List RV → List Int → Option R} {ok : Nat → Prop} {M : Option Nat} {xs : List XV} {us : List Value} {rs0 : List RV} {m0 : List Int} (hT : T.ok P) (hvars : fn.results.toList = vars) (hin : varsIn fn.ntmps vars = true) (hx : XAll w ok M xs us) (hc : countM xs ≤ 1)
    (hfin : ∀ rs m', K rs m' = some r → RImp rs rs0 ∧ m' = m0) (h : retV T vars ms (pinK xs 0) K st = some r) (hs : Sim (frameOf fn.ntmps w ok M xs us) st.fs a w') :
    a.defers = [] ∧ ∃ v, (results fn a.tmps).run P w' = .ok v w' ∧ ∃ G vs, Ending.returned v = .returned (packV vs) ∧ RAll w w' ok G rs0 vs ∧ Fr (fun k => M = some k) w w' ∧ MAll w w' M m0 xs us := by
  obtain ⟨E, hs⟩ := hs
  refine ⟨hs.nod, ?_⟩
  unfold retV at h
  split at h
  · rename_i rs ids os m' mi hra hme
    split at h
    · rename_i hchk
      rw [Bool.and_eq_true, Bool.and_eq_true] at hchk
      have hc1 : countO rs ≤ 1 := Nat.le_of_ble_eq_true hchk.1.1
      have hd1 : ∀ i, i ∈ ids → i ∈ ownIds os ++ mi → False := fun i h1 h2 => by
        have := hchk.1.2; rw [meets_of h1 h2] at this; cases this
      have hd2 : ∀ i, i ∈ ownIds os → i ∈ mi → False := fun i h1 h2 => by
        have := hchk.2; rw [meets_of h1 h2] at this; cases this
      obtain ⟨himp, hm0⟩ := hfin _ _ h
      have hp := pin_at xs us 0 hx
      have hmut : ∀ (s : Nat) (b : Option TypeId) (k : IntKind) (e : TypeId) (l : List Int) (u : Value), xs[s]? = some (.m b k e l) → us[s]? = some u → ∃ i x, RowIn w b u x ∧ mi = [i] ∧ st.fs.B i = some (.ints (.num k) e m') ∧ ((E.ν i = true ∧ x = .slice none 0 0 ∧ m' = []) ∨ (E.ν i = false ∧ ∃ cs, x = .slice (some ⟨E.ρ i, 0, none⟩) m'.length cs.size ∧ Lies w' e k m' (E.ρ i) cs)) := by
        intro s b k e l u h1 h2
        rcases hp with ⟨h3, _, _, h4⟩ | ⟨s', b', k', e', l', u', x0, h3, h3k, h4, h5, h6, h7r, h7, h7b, h7n⟩
        · have := m_count h1; omega
        · have hss := count_uniq hc h1 h6
          subst hss
          rw [h1] at h6
          injection h6 with h6
          injection h6 with e0 e1 e2 e3
          subst e0; subst e1; subst e2; subst e3
          rw [h2] at h5
          injection h5 with h5
          subst h5
          rw [Nat.zero_add] at h3 h3k
          rw [h3k] at hme
          simp only [mutEnd] at hme
          split at hme
          · rename_i i hg
            split at hme
            · rename_i k2 e2 l2 hb
              split at hme
              · rename_i hbe
                have := Nat.eq_of_beq_eq_true hbe
                subst this
                split at hme
                · rename_i hk
                  subst hk
                  injection hme with hme
                  injection hme with e1 e3
                  subst e1
                  have hpin := hs.pin s u (by show (pinAt xs 0).map _ = _; rw [h3]; simp [List.getD_eq_getElem?_getD, h2])
                  have hsN : s < fn.ntmps := by
                    have := (Array.getElem?_eq_some_iff.1 hpin).1
                    have hsz : a.tmps.size = fn.ntmps := hs.size
                    omega
                  obtain ⟨v, h8, h9⟩ := hs.slot s hsN
                  rw [hpin] at h8
                  injection h8 with h8
                  subst h8
                  have hrow : ∃ x, RowIn w b u x ∧ Held E st.fs.B w' (NB (frameOf fn.ntmps w ok M xs us).okk E st.fs.B) (.sli i) x := by
                    have h9' : Held E st.fs.B w' (NB (frameOf fn.ntmps w ok M xs us).okk E st.fs.B) (st.get s) u := h9
                    unfold rowOf at hg
                    split at hg
                    · rename_i hgs
                      injection hg with hg
                      subst hg
                      rw [hgs] at h9'
                      exact ⟨u, rfl, h9'⟩
                    · rename_i ty ty' i' hgs
                      split at hg
                      · rename_i hbt
                        injection hg with hg
                        subst hg
                        rw [hgs] at h9'
                        obtain ⟨g, us', h10, h11, h12, h13, h14⟩ := fp_of h9'
                        obtain ⟨x, us2, rfl, h15, h16⟩ := heldL_cons_of h14
                        obtain rfl := heldL_nil_of h16
                        have hrr := h7r
                        obtain ⟨g0, h17, h18⟩ := h7r
                        have hgg : g = g0 := by
                          rw [h10] at h17
                          injection h17 with h17; injection h17 with h17; injection h17
                        subst hgg
                        have hnM : ¬ ((pinAt xs 0).isSome = true ∧ M = some g) := fun hM => h7n g hM.2 (h7b rfl g h10)
                        have h19 := hs.fr.block g (Array.getElem?_eq_some_iff.1 h18).1 hnM
                        have h20 : w'.heap[g]? = w.heap[g]? := h19
                        rw [h20, h18] at h11
                        injection h11 with h11
                        injection h11 with h11
                        have hxx : x0 = x := by simpa using h11
                        subst hxx
                        exact ⟨x0, hrr, h15⟩
                      · cases hg
                    · cases hg
                  obtain ⟨x, hr1, hr2⟩ := hrow
                  refine ⟨i, x, hr1, e3.symm, hb, ?_⟩
                  rcases sli_of hs hb hr2 with h10 | ⟨h10, cs, h11, _, h12⟩
                  · exact .inl h10
                  · exact .inr ⟨h10, cs, h11, h12⟩
                · cases hme
              · cases hme
            · cases hme
          · cases hme
      have hmx : ∀ k, ((pinAt xs 0).isSome = true ∧ M = some k) → ∃ i, mi = [i] ∧ Live E st.fs.B i ∧ E.ρ i = k := by
        rintro k ⟨h1, h2⟩
        rcases hp with ⟨h3, _⟩ | ⟨s, b1, k1, e1, l1, u1, x1, h3, _, h4, h5, h6, h7r, h7, h7b, h8⟩
        · rw [h3] at h1; cases h1
        · obtain ⟨i, x, h9r, h9, h10, h11⟩ := hmut s b1 k1 e1 l1 u1 h6 h5
          rw [h2] at h7
          obtain ⟨cs, h12, _⟩ := h7
          have hxx := RowIn.uniq h7r h9r
          subst hxx
          rcases h11 with ⟨_, h13, _⟩ | ⟨h13, cs', h14, _⟩
          · rw [h12] at h13; cases h13
          · rw [h12] at h14
            injection h14 with h14
            injection h14 with h14
            injection h14 with h14
            exact ⟨i, h9, ⟨⟨_, h10, by simp⟩, h13⟩, h14.symm⟩
      have hmine : ∀ i, Live E st.fs.B i → (pinAt xs 0).isSome = true ∧ M = some (E.ρ i) → i ∈ mi := fun i hi h1 => by
        obtain ⟨i', h2, h3, h4⟩ := hmx _ h1
        rw [h2, hs.inj i i' hi h3 h4.symm]
        exact List.mem_cons_self
      have hro0 := ret_own ms hra
      obtain ⟨vs, hv, hl1, hl2, hro⟩ := retAll_of (nb' := Lent E st.fs.B (NB (frameOf fn.ntmps w ok M xs us).okk E st.fs.B) ids) hT hs vars ms (varsIn_of hin) hra fun k hk => hk
      have hown : ∀ (j : Nat) (k : EK) (e : TypeId) (l : List Int) (ow : Option Nat), rs[j]? = some (.o k e l) → os[j]? = some ow → ownIds os = ow.toList := by
        intro j k e l ow h1 h2
        refine own_only os j ow h2 fun j' hne ow' ho' => ?_
        rcases hro0 j' ow' ho' with h3 | ⟨id, k', e', l', _, ⟨_, h4⟩, _⟩
        · exact h3
        · exact absurd (countO_uniq (os := os) hc1 ⟨_, _, _, h4⟩ ⟨_, _, _, h1⟩) hne
      have hlive0 : ∀ i ∈ ownIds os, ∃ k e l, st.fs.B i = some (.ints k e l) := fun i hi => by
        obtain ⟨j, hj⟩ := own_idx hi
        rcases hro0 j _ hj with h1 | ⟨id, k, e, l, h1, _, h2⟩
        · cases h1
        · injection h1 with h1; subst h1; exact ⟨k, e, l, h2⟩
      obtain ⟨G, hG1, hG2, hG3⟩ : ∃ G : Option Nat, (ownIds os = [] → G = none) ∧ (∀ i, ownIds os = [i] → G = if E.ν i = true then none else some (E.ρ i)) ∧ ∀ g, G = some g → ∃ i ∈ ownIds os, Live E st.fs.B i ∧ E.ρ i = g := by
        cases hos : ownIds os with
        | nil => exact ⟨none, fun _ => rfl, fun i hi => (by cases hi), fun g hg => (by cases hg)⟩
        | cons i r =>
          refine ⟨if E.ν i = true then none else some (E.ρ i), (fun h => by cases h), (fun i' hi' => by injection hi' with e1 _; rw [e1]), fun g hg => ?_⟩
          split at hg
          · cases hg
          · rename_i hn
            injection hg with hg
            obtain ⟨k, e, l, hb⟩ := hlive0 i (by rw [hos]; exact List.mem_cons_self)
            exact ⟨i, List.mem_cons_self, ⟨⟨_, hb, by simp⟩, by simpa using hn⟩, hg⟩
      have hnbk : ∀ k, Lent E st.fs.B (NB (frameOf fn.ntmps w ok M xs us).okk E st.fs.B) ids k → (ok k ∨ w.heap.size ≤ k) ∧ G ≠ some k := by
        intro k hk
        rcases hk with hk | ⟨i, h1, h2, h3⟩
        · refine ⟨?_, fun hg => ?_⟩
          · rcases (hk.1 : ok k ∨ w.heap.size ≤ k ∨ ((pinAt xs 0).isSome = true ∧ M = some k)) with h1 | h1 | h1
            · exact .inl h1
            · exact .inr h1
            · obtain ⟨i, _, h2, h3⟩ := hmx k h1
              exact absurd h3 (hk.2 i h2)
          · obtain ⟨i, _, h2, h3⟩ := hG3 k hg
            exact hk.2 i h2 h3
        · refine ⟨?_, fun hg => ?_⟩
          · rcases hs.own i h2 with h4 | h4
            · exact .inr (by rw [← h3]; exact h4)
            · exact (hd1 i h1 (List.mem_append_right _ (hmine i h2 h4))).elim
          · obtain ⟨i', h4, h5, h6⟩ := hG3 k hg
            have := hs.inj i i' h2 h5 (h3.trans h6.symm)
            subst this
            exact hd1 i h1 (List.mem_append_left _ h4)
      have hlen : vs.length = vars.length := by
        have : ∀ {vars : List ResultVar} {vs : List Value}, Vals P a.tmps w' vars vs → vs.length = vars.length := by
          intro vars vs h
          induction h with
          | nil => rfl
          | tmp _ ih => simp [ih]
          | cell _ _ _ _ _ _ _ _ _ _ _ ih => simp [ih]
        exact this hv
      have hfr : fn.results = vars.toArray := arr_of hvars
      refine ⟨packV vs, ?_, G, vs, rfl, rall_imp himp ?_, ?_, ?_⟩
      · match vs, vars, hv, hlen, hfr with
        | [v], [x], hv, _, hfr => exact results_single hfr hv
        | [], [], hv, _, hfr => exact results_list hfr (by simp) hv
        | v1 :: v2 :: vs, vars, hv, _, hfr => exact results_list hfr (by simp) hv
      · refine rall_of hnbk rs os vs hl1 hl2 hro fun j ow k e l u h1 h2 h3 => ?_
        have h4 := hown j k e l ow h1 h2
        refine ⟨?_, fun g hg => ?_⟩
        · cases ow with
          | none =>
            have hg0 := hG1 h4
            subst hg0
            exact h3
          | some id =>
            have hg0 := hG2 id h4
            obtain ⟨hkk, h5, h6 | ⟨h6, c, h7, h8⟩⟩ := h3
            · rw [if_pos h6.1] at hg0
              subst hg0
              exact ⟨hkk, h6.2.1, h6.2.2⟩
            · rw [if_neg (by rw [h6]; simp)] at hg0
              subst hg0
              exact ⟨hkk, c, h7, h8.move rfl (Nat.le_refl _) fun q hq _ => ⟨rfl, hnbk q hq⟩⟩
        · obtain ⟨i, h5, h6, h7⟩ := hG3 g hg
          rcases hs.own i h6 with h8 | h8
          · rw [← h7]; exact h8
          · exact (hd2 i h5 (hmine i h6 h8)).elim
      · exact ⟨hs.fr.os, hs.fr.tape, hs.fr.output, hs.fr.size, fun k hk hM => hs.fr.block k hk fun h => hM h.2⟩
      · refine mall_at hx fun s b k e l u h1 h2 => ?_
        obtain ⟨i, x, h3r, h3, h4, h5⟩ := hmut s b k e l u h1 h2
        rw [← hm0]
        refine ⟨x, h3r, ?_⟩
        rcases hp with ⟨h6, _, _, h7⟩ | ⟨s', b', k', e', l', u', x', h6, _, _, h8, h9, h10r, h10, _⟩
        · have := m_count h1; omega
        · have hss := count_uniq hc h1 h9
          subst hss
          rw [h1] at h9
          injection h9 with h9
          injection h9 with e0 e1 e2 e3
          subst e0; subst e1; subst e2; subst e3
          rw [h2] at h8
          injection h8 with h8
          subst h8
          have hxx := RowIn.uniq h3r h10r
          subst hxx
          cases hM : M with
          | none =>
            rw [hM] at h10
            rcases h5 with ⟨_, h11, h12⟩ | ⟨_, cs, h11, _⟩
            · exact ⟨h11, h12⟩
            · rw [h10.1] at h11; cases h11
          | some g =>
            rw [hM] at h10
            obtain ⟨cs0, h13, _⟩ := h10
            rcases h5 with ⟨_, h11, h12⟩ | ⟨_, cs, h11, h12⟩
            · rw [h13] at h11; cases h11
            · have hg : g = E.ρ i := by
                rw [h13] at h11
                injection h11 with h11
                injection h11 with h11
                injection h11
              subst hg
              exact ⟨cs, h11, h12⟩
    · cases h
  · cases h
end
section
variable {P : Program} {R : Type} {r : R}
theorem frame_pin {N : Nat} {w : World} {ok : Nat → Prop} {M : Option Nat} {xs : List XV} {us : List Value} : (frameOf N w ok M xs us).pin.map Prod.fst = pinAt xs 0 := by
  show ((pinAt xs 0).map _).map _ = _
  cases pinAt xs 0 <;> rfl
theorem fn_ok {f : FuncId} {fn : Func} {c : Code} {vars : List ResultVar} {ms : List RM} {Kf : List RV → List Int → Option R} {xs : List XV} {rs0 : List RV} {m0 : List Int}
    (hfn : P.funcs[f]? = some fn) (hb : fn.body = some c) (hname : (fn.name == "runtime.NumGoroutine") = false) (hmo : P.follows .mixedOrders = true) (hvars : fn.results.toList = vars) (hin : varsIn fn.ntmps vars = true)
    (hlen : xs.length ≤ fn.ntmps) (hc : countM xs ≤ 1) (G : Nat → Cfg R) (hT : ∀ k, (G k).T.ok P) (hS : ∀ k g s, (G k).S g = some s → s.ok P g) (hN : ∀ k, (G k).N = fn.ntmps) (hpn : ∀ k, (G k).pn = pinAt xs 0)
    (hk : ∀ k key, keepOf (G k) key = keepOf (G 0) key) (h0 : ∀ key vs, (G 0).F key vs ≠ some r) {T : TT} (hT0 : T.ok P)
    (hs : ∀ k, ∀ p ∈ occs (G k) c (Kmain (retV T vars ms (pinK xs 0) Kf)), ∀ keep vs, keepOf (G 0) p.1 = some keep → (G (k + 1)).F p.1 vs = some r → p.2 (build keep vs) = some r)
    (hfin : ∀ rs m', Kf rs m' = some r → RImp rs rs0 ∧ m' = m0) (k : Nat) (h : run (G k) c (initSt xs) (Kmain (retV T vars ms (pinK xs 0) Kf)) = some r) : QC P f xs rs0 m0 := by
  refine ⟨⟨fn, hfn, hname, by rw [hb]; rfl⟩, fun ok M w us hgl hx => calls_of_wp hfn hb ?_⟩
  have hf : ∀ k, Fit P (frameOf fn.ntmps w ok M xs us) (G k) := fun k => ⟨hT k, hS k, (hN k).symm, by rw [hpn k]; exact frame_pin, hmo⟩
  have hrel : Rel (frameOf fn.ntmps w ok M xs us) r (Kmain (retV T vars ms (pinK xs 0) Kf)) (bodyPost P fn fun e w' => ∃ G vs, e = .returned (packV vs) ∧ RAll w w' ok G rs0 vs ∧ Fr (fun k => M = some k) w w' ∧ MAll w w' M m0 xs us) := by
    intro e st a w' he hsim
    cases e with
    | ret => exact ret_ok hT0 hvars hin hx hc hfin he hsim
    | normal => exact ret_ok hT0 hvars hin hx hc hfin he hsim
    | _ => cases he
  exact run_ok (hf k) c _ _ _ _ _ (places G hf hk h0 hs hrel k) hrel h (init_sim hgl hx hlen hc)
end
inductive AK where
  | nil
  | p (s : SK) (r : AK)
  | m (b : Option TypeId) (k : IntKind) (e : TypeId) (r : AK)
def AK.T : AK → Type
  | .nil => Unit
  | .p s r => s.T × r.T
  | .m _ _ _ r => List Int × r.T
def AK.put : (A : AK) → A.T → List XV
  | .nil, _ => []
  | .p s r, t => .p (s.put t.1) :: r.put t.2
  | .m b k e r, t => .m b k e t.1 :: r.put t.2
def beqO : Option Nat → Option Nat → Bool
  | none, none => true
  | some a, some b => Nat.beq a b
  | _, _ => false
theorem beqO_eq {a b : Option Nat} (h : beqO a b = true) : a = b := by
  cases a <;> cases b <;> first | rfl | cases h | exact congrArg some (Nat.eq_of_beq_eq_true h)
def AK.get : (A : AK) → List XV → Option A.T
  | .nil, l => (match l with
    | [] => some ()
    | _ :: _ => none)
  | .p s r, l => (match l with
    | .p a :: l => (match s.get a, r.get l with
      | some t, some u => some (t, u)
      | _, _ => none)
    | _ => none)
  | .m b k e r, l => (match l with
    | .m b' k' e' x :: l => (match Nat.beq e' e, beqO b' b with
      | true, true => (match r.get l with
        | some u => if k' = k then some (x, u) else none
        | none => none)
      | _, _ => none)
    | _ => none)
def AK.on {R : Type} : (A : AK) → A.T → (List XV → Option R) → Option R
  | .nil, _, K => K []
  | .p s r, t, K => s.on t.1 fun a => r.on t.2 fun l => K (.p a :: l)
  | .m b k e r, t, K => r.on t.2 fun l => K (.m b k e t.1 :: l)
def AK.muts : AK → List Bool
  | .nil => []
  | .p _ r => false :: r.muts
  | .m _ _ _ r => true :: r.muts
def AK.pin : AK → Nat → Option Nat
  | .nil, _ => none
  | .p _ r, j => r.pin (j + 1)
  | .m _ _ _ _, j => some j
def AK.pinK : AK → Nat → Option (Nat × Option TypeId × IntKind × TypeId)
  | .nil, _ => none
  | .p _ r, j => r.pinK (j + 1)
  | .m b k e _, j => some (j, b, k, e)
def AK.count : AK → Nat
  | .nil => 0
  | .p _ r => r.count
  | .m _ _ _ r => r.count + 1
def AK.len : AK → Nat
  | .nil => 0
  | .p _ r => r.len + 1
  | .m _ _ _ r => r.len + 1
inductive RK where
  | nil
  | p (s : SK) (r : RK)
  | o (k : EK) (e : TypeId) (r : RK)
def SK.heap : SK → Bool
  | .int _ => false
  | .bool => false
  | .str => false
  | .nil => false
  | .agg l => l.heap
  | .cons a b => (match a.heap with
    | true => true
    | false => b.heap)
  | .row _ => true
  | .rows _ => true
  | .fp _ _ => true
  | .np _ _ => true
  | .clo _ _ => true
  | .sl _ => true
  | .pt _ _ => true
  | .any => true
def RK.heap : RK → Bool
  | .nil => false
  | .p s r => (match s.heap with
    | true => true
    | false => r.heap)
  | .o k _ r => (match k.inner with
    | true => true
    | false => r.heap)
def RK.T : RK → Type
  | .nil => Unit
  | .p s r => s.T × r.T
  | .o _ _ r => List Int × r.T
def RK.put : (A : RK) → A.T → List RV
  | .nil, _ => []
  | .p s r, t => .p (s.put t.1) :: r.put t.2
  | .o k e r, t => .o k e t.1 :: r.put t.2
def RK.get : (A : RK) → List RV → Option A.T
  | .nil, l => (match l with
    | [] => some ()
    | _ :: _ => none)
  | .p s r, l => (match l with
    | .p a :: l => (match s.get a, r.get l with
      | some t, some u => some (t, u)
      | _, _ => none)
    | _ => none)
  | .o k e r, l => (match l with
    | .o k' e' x :: l => (match Nat.beq e' e with
      | true => (match r.get l with
        | some u => if k' = k then some (x, u) else none
        | none => none)
      | false => none)
    | _ => none)
def RK.on {R : Type} : (A : RK) → A.T → (List RV → Option R) → Option R
  | .nil, _, K => K []
  | .p s r, t, K => s.on t.1 fun a => r.on t.2 fun l => K (.p a :: l)
  | .o k e r, t, K => r.on t.2 fun l => K (.o k e t.1 :: l)
def RK.ms : RK → List RM
  | .nil => []
  | .p _ r => .p :: r.ms
  | .o k e r => .o k e :: r.ms
theorem AK.on_eq {R : Type} : ∀ (A : AK) (t : A.T) (K : List XV → Option R), A.on t K = K (A.put t)
  | .nil, _, K => rfl
  | .p s r, t, K => by unfold AK.on AK.put; rw [SK.on_eq, AK.on_eq r]
  | .m b k e r, t, K => by unfold AK.on AK.put; rw [AK.on_eq r]
theorem RK.on_eq {R : Type} : ∀ (A : RK) (t : A.T) (K : List RV → Option R), A.on t K = K (A.put t)
  | .nil, _, K => rfl
  | .p s r, t, K => by unfold RK.on RK.put; rw [SK.on_eq, RK.on_eq r]
  | .o k e r, t, K => by unfold RK.on RK.put; rw [RK.on_eq r]
theorem AK.pin_put : ∀ (A : AK) (t : A.T) (j : Nat), pinAt (A.put t) j = A.pin j
  | .nil, _, j => rfl
  | .p s r, t, j => by unfold AK.put AK.pin pinAt; exact AK.pin_put r t.2 (j + 1)
  | .m b k e r, t, j => rfl
theorem AK.pinK_put : ∀ (A : AK) (t : A.T) (j : Nat), E.pinK (A.put t) j = A.pinK j
  | .nil, _, j => rfl
  | .p s r, t, j => by unfold AK.put AK.pinK E.pinK; exact AK.pinK_put r t.2 (j + 1)
  | .m b k e r, t, j => rfl
theorem AK.count_put : ∀ (A : AK) (t : A.T), countM (A.put t) = A.count
  | .nil, _ => rfl
  | .p s r, t => by unfold AK.put AK.count countM; exact AK.count_put r t.2
  | .m b k e r, t => by unfold AK.put AK.count countM; rw [AK.count_put r t.2]
theorem AK.len_put : ∀ (A : AK) (t : A.T), (A.put t).length = A.len
  | .nil, _ => rfl
  | .p s r, t => by unfold AK.put AK.len; rw [List.length_cons, AK.len_put r t.2]
  | .m b k e r, t => by unfold AK.put AK.len; rw [List.length_cons, AK.len_put r t.2]
theorem RK.get_imp : ∀ (A : RK) {l : List RV} {t : A.T}, A.get l = some t → RImp l (A.put t)
  | .nil, l, t, h => by
    unfold RK.get at h
    cases l with
    | nil => trivial
    | cons x l => cases h
  | .p s r, l, t, h => by
    unfold RK.get at h
    cases l with
    | nil => cases h
    | cons x l =>
      cases x with
      | o k e y => cases h
      | p a =>
        simp only at h
        split at h
        · rename_i t1 t2 h1 h2
          injection h with h
          subst h
          exact ⟨fun W v hd => SK.get_den s h1 hd, RK.get_imp r h2⟩
        · cases h
  | .o k e r, l, t, h => by
    unfold RK.get at h
    cases l with
    | nil => cases h
    | cons x l =>
      cases x with
      | p a => cases h
      | o k' e' y =>
        simp only at h
        split at h
        · rename_i hb
          split at h
          · rename_i u hu
            split at h
            · rename_i hk
              injection h with h
              subst h
              exact ⟨⟨hk, Nat.eq_of_beq_eq_true hb, rfl⟩, RK.get_imp r hu⟩
            · cases h
          · cases h
        · cases h
theorem AK.get_all {w : World} {ok : Nat → Prop} {M : Option Nat} : ∀ (A : AK) {l : List XV} {t : A.T} {us : List Value}, A.get l = some t → XAll w ok M l us → XAll w ok M (A.put t) us ∧ ∀ w' m', MAll w w' M m' (A.put t) us → MAll w w' M m' l us
  | .nil, l, t, us, h, hx => by
    unfold AK.get at h
    cases l with
    | nil => exact ⟨hx, fun _ _ h => h⟩
    | cons x l => cases h
  | .p s r, l, t, us, h, hx => by
    unfold AK.get at h
    cases l with
    | nil => cases h
    | cons x l =>
      cases x with
      | m b k e y => cases h
      | p a =>
        simp only at h
        split at h
        · rename_i t1 t2 h1 h2
          injection h with h
          subst h
          cases us with
          | nil => exact hx.elim
          | cons u us =>
            obtain ⟨h3, h4⟩ := AK.get_all r h2 hx.2
            exact ⟨⟨fun W' hW => SK.get_den s h1 (hx.1 W' hW), h3⟩, fun w' m' hm => h4 w' m' hm⟩
        · cases h
  | .m b k e r, l, t, us, h, hx => by
    unfold AK.get at h
    cases l with
    | nil => cases h
    | cons x l =>
      cases x with
      | p a => cases h
      | m b' k' e' y =>
        simp only at h
        split at h
        · rename_i hb hbo
          have := beqO_eq hbo
          subst this
          split at h
          · rename_i u hu
            split at h
            · rename_i hk
              injection h with h
              subst h; subst hk
              have := Nat.eq_of_beq_eq_true hb
              subst this
              cases us with
              | nil => exact hx.elim
              | cons v us =>
                obtain ⟨h3, h4⟩ := AK.get_all r hu hx.2
                exact ⟨⟨hx.1, h3⟩, fun w' m' hm => ⟨hm.1, h4 w' m' hm.2⟩⟩
            · cases h
          · cases h
        · cases h
section
variable {P : Program} {R β : Type}
def Does (P : Program) (f : FuncId) (A : AK) (Q : RK) (g : A.T → Option β) (h : β → Q.T × List Int) : Prop := ∀ x b, g x = some b → QC P f (A.put x) (Q.put (h b).1) (h b).2
def told (R : Type) (A : AK) (Q : RK) (g : A.T → Option β) (h : β → Q.T × List Int) : Spec R := ⟨A.muts, Q.heap && Nat.beq A.count 0, fun xs K => match A.get xs with
  | some x => (g x).bind fun b => Q.on (h b).1 fun rs => K rs (h b).2
  | none => none⟩
theorem told_ok {f : FuncId} {A : AK} {Q : RK} {g : A.T → Option β} {h : β → Q.T × List Int} (hd : Does P f A Q g h) : (told R A Q g h).ok P f := by
  intro xs K r hr
  unfold told at hr
  simp only at hr
  split at hr
  · rename_i x hx
    cases hg : g x with
    | none => rw [hg] at hr; cases hr
    | some b =>
      rw [hg] at hr
      have h1 : Q.on (h b).1 (fun rs => K rs (h b).2) = some r := hr
      rw [RK.on_eq] at h1
      refine ⟨_, _, h1, ?_⟩
      obtain ⟨h2, h3⟩ := hd x b hg
      refine ⟨h2, fun ok M w us hgl hxs => ?_⟩
      obtain ⟨h4, h5⟩ := AK.get_all A hx hxs
      exact fun cs => (h3 ok M w us hgl h4 cs).elim fun e h6 => h6.elim fun w' h7 => h7.elim fun fr h8 => ⟨e, w', fr, h8.1.elim fun G h9 => h9.elim fun vs a => ⟨G, vs, a.1, a.2.1, a.2.2.1, h5 w' _ a.2.2.2⟩, h8.2⟩
  · cases hr
def TabOk (P : Program) : List (Nat × Spec R) → Prop
  | [] => True
  | p :: r => p.2.ok P p.1 ∧ TabOk P r
theorem tab_look {f : Nat} {s : Spec R} : ∀ {l : List (Nat × Spec R)}, TabOk P l → look f l = some s → s.ok P f
  | [], _, h => by cases h
  | (g, t) :: l, h, hl => by
    unfold look at hl
    split at hl
    · rename_i hb
      injection hl with hl
      subst hl
      rw [Nat.eq_of_beq_eq_true hb]
      exact h.1
    · exact tab_look h.2 hl
end
structure Decl (β : Type) where
  c : Code
  N : Nat
  vars : List ResultVar
  A : AK
  Q : RK
  u : Q.T → List Int → β
  T : TT
  cutR : List (Nat × List (Nat × KM))
  cutL : List (Nat × List (Nat × KM))
  fz : List (Nat × List Nat)
section
variable {P : Program} {β : Type}
def Decl.G (D : Decl β) (S : List (Nat × Spec β)) (F : Nat → List CV → Option β) : Cfg β := ⟨D.T, fun f => look f S, D.N, D.A.pin 0, fun n => look n D.cutR, fun n => look n D.cutL, fun n => (look n D.fz).getD [], F⟩
def finOk : Nat → List Int → Bool
  | 0, [] => true
  | 0, _ :: _ => false
  | _ + 1, _ => true
theorem finOk_of {n : Nat} {m : List Int} (h : finOk n m = true) (h0 : n = 0) : m = [] := by
  subst h0
  cases m with
  | nil => rfl
  | cons a l => cases h
def Decl.fin (D : Decl β) (rs : List RV) (m : List Int) : Option β := match D.Q.get rs with
  | some y => (match finOk D.A.count m with
    | true => some (D.u y m)
    | false => none)
  | none => none
def Decl.K (D : Decl β) : Exit → St → Option β := Kmain (retV D.T D.vars D.Q.ms (D.A.pinK 0) D.fin)
def Decl.keep (D : Decl β) (key : Nat) : Option (List (Nat × KM)) := if key % 2 = 0 then look (key / 2) D.cutR else look (key / 2) D.cutL
noncomputable def Decl.F (D : Decl β) (S : Nat → List (Nat × Spec β)) : Nat → Nat → List CV → Option β
  | 0 => fun _ _ => none
  | k + 1 => fun key vs => match D.keep key, look key (occs (D.G (S k) (Decl.F D S k)) D.c D.K) with
    | some keep, some q => q (build keep vs)
    | _, _ => none
noncomputable def Decl.val (D : Decl β) (S : Nat → List (Nat × Spec β)) (k : Nat) (x : D.A.T) : Option β := D.A.on x fun xs => run (D.G (S k) (D.F S k)) D.c (initSt xs) D.K
def keysOf : Code → List Nat
  | .region id _ _ => [2 * id]
  | .seq x y => keysOf x ++ keysOf y
  | .cond _ x y => keysOf x ++ keysOf y
  | .block _ x => keysOf x
  | .loop x => (2 * nameOf x + 1) :: keysOf x
  | .scope x => ((labs x).map fun l => 2 * (1000 + l) + 1) ++ keysOf x
  | _ => []
theorem occs_keys {R : Type} {G : Cfg R} : ∀ (c : Code) (K : Exit → St → Option R), (occs G c K).map Prod.fst = keysOf c
  | .region id ops draw, K => rfl
  | .seq x y, K => by unfold occs keysOf; rw [List.map_append, occs_keys x, occs_keys y]
  | .cond _ x y, K => by unfold occs keysOf; rw [List.map_append, occs_keys x, occs_keys y]
  | .block _ x, K => by unfold occs keysOf; rw [occs_keys x]
  | .loop x, K => by unfold occs keysOf; rw [List.map_cons, occs_keys x]
  | .skip, _ => rfl
  | .label _, _ => rfl
  | .exit _, _ => rfl
  | .ret, _ => rfl
  | .rangeFunc _ _ _ _, _ => rfl
  | .scope x, K => by unfold occs keysOf; rw [List.map_append, occs_keys x, List.map_map]; rfl
  | .goto _, _ => rfl
  | .refuse _, _ => rfl
theorem look_nodup {α : Type} : ∀ {l : List (Nat × α)} {p : Nat × α}, (l.map Prod.fst).Nodup → p ∈ l → look p.1 l = some p.2
  | (n, x) :: l, p, hn, hp => by
    rcases List.mem_cons.1 hp with h | h
    · subst h
      simp [look]
    · have hne : Nat.beq p.1 n = false := by
        cases hb : Nat.beq p.1 n with
        | false => rfl
        | true =>
          have := Nat.eq_of_beq_eq_true hb
          rw [List.map_cons] at hn
          exact absurd (this ▸ List.mem_map_of_mem (f := Prod.fst) h : n ∈ l.map Prod.fst) (List.nodup_cons.1 hn).1
      unfold look
      rw [hne]
      exact look_nodup (List.nodup_cons.1 hn).2 h
structure Decl.Fits (D : Decl β) (P : Program) (f : FuncId) (fn : Func) : Prop where
  at_ : P.funcs[f]? = some fn
  body : fn.body = some D.c
  name : (fn.name == "runtime.NumGoroutine") = false
  mo : P.follows .mixedOrders = true
  vars : fn.results.toList = D.vars
  N : fn.ntmps = D.N
  T : D.T.ok P
  chk : (varsIn D.N D.vars && Nat.ble D.A.len D.N && Nat.ble D.A.count 1 && nodupB (keysOf D.c)) = true
theorem Decl.does {D : Decl β} {f : FuncId} {fn : Func} (hf : D.Fits P f fn) {S : Nat → List (Nat × Spec β)} (hS : ∀ k, TabOk P (S k)) {h : β → D.Q.T × List Int} (hu : ∀ y m, (D.A.count = 0 → m = []) → h (D.u y m) = (y, m)) (k : Nat) : Does P f D.A D.Q (D.val S k) h := by
  intro x b hb
  have hc := hf.chk
  simp only [Bool.and_eq_true] at hc
  obtain ⟨⟨⟨h1, h2⟩, h3⟩, h4⟩ := hc
  unfold Decl.val at hb
  rw [AK.on_eq] at hb
  refine fn_ok (Kf := D.fin) (ms := D.Q.ms) (T := D.T) hf.at_ hf.body hf.name hf.mo hf.vars (by rw [hf.N]; exact h1) (by rw [AK.len_put, hf.N]; exact Nat.le_of_ble_eq_true h2) (by rw [AK.count_put]; exact Nat.le_of_ble_eq_true h3) (fun k => D.G (S k) (D.F S k)) (fun _ => hf.T) (fun k g s hg => tab_look (hS k) hg) (fun _ => hf.N.symm) (fun _ => (AK.pin_put D.A x 0).symm) (fun _ _ => rfl) (fun key vs h => (by cases (h : none = some b))) hf.T ?_ ?_ k ?_
  · intro k p hp keep vs hk hF
    have hn : ((occs (D.G (S k) (D.F S k)) D.c D.K).map Prod.fst).Nodup := by rw [occs_keys]; exact nodup_of h4
    have hp' : p ∈ occs (D.G (S k) (D.F S k)) D.c D.K := by
      have : D.K = Kmain (retV D.T D.vars D.Q.ms (E.pinK (D.A.put x) 0) D.fin) := by unfold Decl.K; rw [AK.pinK_put]
      rw [this]; exact hp
    have hl := look_nodup hn hp'
    have hF' : D.F S (k + 1) p.1 vs = some b := hF
    have hk' : D.keep p.1 = some keep := hk
    unfold Decl.F at hF'
    simp only [hk', hl] at hF'
    exact hF'
  · intro rs m' hr
    unfold Decl.fin at hr
    split at hr
    · rename_i y hy
      split at hr
      · rename_i hm
        injection hr with hr
        subst hr
        rw [hu y m' (finOk_of hm)]
        exact ⟨RK.get_imp D.Q hy, rfl⟩
      · cases hr
    · cases hr
  · have : D.K = Kmain (retV D.T D.vars D.Q.ms (E.pinK (D.A.put x) 0) D.fin) := by unfold Decl.K; rw [AK.pinK_put]
    rw [← this]; exact hb
end
def udOf : TypeDesc → Option UD
  | .int k => some (.int k)
  | .bool => some .bool
  | .string => some .str
  | .pointer e => some (.ptr e)
  | .slice e => some (.slice e)
  | .struct fs => some (.struct (fs.toList.map fun f => (f.type, f.offset)))
  | .array n e => some (.array n e)
  | .map k e => some (.map k e)
  | _ => none
def undOf (P : Program) : List Nat → List (Nat × UD)
  | [] => []
  | t :: r => match P.underlying t with
    | some d => (match udOf d with
      | some u => (t, u) :: undOf P r
      | none => undOf P r)
    | none => undOf P r
def infOf (P : Program) : List Nat → List (Nat × (Nat × Nat × List Value))
  | [] => []
  | t :: r => match P.info? t with
    | some i => (match i.zero with
      | some z => (t, (i.size, i.bytes, z.cells.toList)) :: infOf P r
      | none => infOf P r)
    | none => infOf P r
def zerOf (P : Program) : List Nat → List (Nat × Value)
  | [] => []
  | t :: r => match P.info? t with
    | some i => (match i.zero with
      | some z => (t, z) :: zerOf P r
      | none => zerOf P r)
    | none => zerOf P r
def TT.of (P : Program) (ids : List Nat) (ext : List (Nat × Bool)) : TT := ⟨undOf P ids, infOf P ids, ext, zerOf P ids⟩
section
variable {P : Program}
theorem und_of {t : Nat} {d : UD} : ∀ {ids : List Nat}, look t (undOf P ids) = some d → d.ok P t
  | [], h => by cases h
  | i :: r, h => by
    unfold undOf at h
    split at h
    · rename_i d' hd
      split at h
      · rename_i u hu
        unfold look at h
        split at h
        · rename_i hb
          injection h with h
          subst h
          rw [Nat.eq_of_beq_eq_true hb]
          unfold udOf at hu
          split at hu
          all_goals first
            | (injection hu with hu; subst hu; exact hd)
            | (injection hu with hu; subst hu; exact ⟨_, hd, rfl⟩)
            | cases hu
        · exact und_of h
      · exact und_of h
    · exact und_of h
theorem inf_of {t : Nat} {x : Nat × Nat × List Value} : ∀ {ids : List Nat}, look t (infOf P ids) = some x → ∃ i z, P.info? t = some i ∧ i.size = x.1 ∧ i.bytes = x.2.1 ∧ i.zero = some z ∧ z.cells.toList = x.2.2
  | [], h => by cases h
  | i :: r, h => by
    unfold infOf at h
    split at h
    · rename_i d' hd
      split at h
      · rename_i z hz
        unfold look at h
        split at h
        · rename_i hb
          injection h with h
          subst h
          rw [Nat.eq_of_beq_eq_true hb]
          exact ⟨_, _, hd, rfl, rfl, hz, rfl⟩
        · exact inf_of h
      · exact inf_of h
    · exact inf_of h
theorem zer_of {t : Nat} {z : Value} : ∀ {ids : List Nat}, look t (zerOf P ids) = some z → ∃ i, P.info? t = some i ∧ i.zero = some z
  | [], h => by cases h
  | j :: r, h => by
    unfold zerOf at h
    split at h
    · rename_i i hi
      split at h
      · rename_i z' hz
        unfold look at h
        split at h
        · rename_i hb
          injection h with h
          subst h
          rw [Nat.eq_of_beq_eq_true hb]
          exact ⟨i, hi, hz⟩
        · exact zer_of h
      · exact zer_of h
    · exact zer_of h
def ExAll (P : Program) : List (Nat × Bool) → Prop
  | [] => True
  | p :: r => ExOk P p.1 p.2 ∧ ExAll P r
theorem ex_look {f : Nat} {b : Bool} : ∀ {l : List (Nat × Bool)}, ExAll P l → look f l = some b → ExOk P f b
  | [], _, h => by cases h
  | (g, c) :: l, h, hl => by
    unfold look at hl
    split at hl
    · rename_i hb
      injection hl with hl
      subst hl
      rw [Nat.eq_of_beq_eq_true hb]
      exact h.1
    · exact ex_look h.2 hl
theorem TT.of_ok (ids : List Nat) {ext : List (Nat × Bool)} (he : ExAll P ext) : (TT.of P ids ext).ok P := ⟨fun _ _ h => und_of h, fun _ _ h => inf_of h, fun _ _ h => ex_look he h, fun _ _ h => zer_of h⟩
def adEntry : Array Value → Sem Value := fun args => do
  let (x, y, c) ← Extern.MathBitsCarry.three "Add64" args
  pure (Extern.MathBitsCarry.pair ((x + y + c) % Extern.MathBitsCarry.m64) ((x + y + c) / Extern.MathBitsCarry.m64))
def sbEntry : Array Value → Sem Value := fun args => do
  let (x, y, b) ← Extern.MathBitsCarry.three "Sub64" args
  pure (Extern.MathBitsCarry.pair ((x + Extern.MathBitsCarry.m64 - y - b) % Extern.MathBitsCarry.m64) (if x < y + b then 1 else 0))
theorem adRun0 (x y c : Int) (h : c ≤ 1) (w : World) : (adEntry #[.int .u64 x, .int .u64 y, .int .u64 c]).run P w = .ok (.tuple #[.int .u64 (adS x y c), .int .u64 (adC x y c)]) w := by
  cases c with
  | ofNat k =>
    have : k = 0 ∨ k = 1 := by simp at h; omega
    rcases this with rfl | rfl <;> rw [adS_eq, adC_eq] <;> rfl
  | negSucc k => rw [adS_eq, adC_eq]; rfl
theorem sbRun0 (x y c : Int) (h : c ≤ 1) (w : World) : (sbEntry #[.int .u64 x, .int .u64 y, .int .u64 c]).run P w = .ok (.tuple #[.int .u64 (sbS x y c), .int .u64 (sbC x y c)]) w := by
  cases c with
  | ofNat k =>
    have : k = 0 ∨ k = 1 := by simp at h; omega
    rcases this with rfl | rfl <;> rw [sbS_eq, sbC_eq] <;> rfl
  | negSucc k => rw [sbS_eq, sbC_eq]; rfl
end
end Go.Proofs.YtkoeddgbhohggaaDoor.E
end
section
namespace Go.Proofs
open Go.Shelf
def Tryd.lays264_ren : Go.Shelf.Ren := ⟨fun | 264 => 43 | n => n, fun | 53 => 29 | 46 => 72 | n => n, fun | n => n⟩
theorem Tryd.lays264 : Go.Proofs.Lays.n264 Tryd.prog Tryd.lays264_ren := {
  mixed := by kernel_rfl
  f264 := Tryd.func43.trans (congrArg some (by kernel_rfl))
  t46 := Tryd.underlying72
  a46 := Tryd.isAgg72
  z46 := Tryd.sizeOf72
  v46 := Tryd.zeroValue72
  t53 := Tryd.underlying29
  a53 := Tryd.isAgg29
  z53 := Tryd.sizeOf29
  v53 := Tryd.zeroValue29 }
def Tryd.lays129_ren : Go.Shelf.Ren := ⟨fun | 129 => 73 | n => n, fun | 53 => 29 | 3 => 3 | 4 => 4 | 46 => 72 | 5 => 5 | 9 => 9 | n => n, fun | n => n⟩
theorem Tryd.lays129 : Go.Proofs.Lays.n129 Tryd.prog Tryd.lays129_ren := {
  mixed := by kernel_rfl
  f129 := Tryd.func73.trans (congrArg some (by kernel_rfl))
  t3 := Tryd.underlying3
  a3 := Tryd.isAgg3
  z3 := Tryd.sizeOf3
  v3 := Tryd.zeroValue3
  t4 := Tryd.underlying4
  a4 := Tryd.isAgg4
  z4 := Tryd.sizeOf4
  v4 := Tryd.zeroValue4
  t5 := Tryd.underlying5
  a5 := Tryd.isAgg5
  z5 := Tryd.sizeOf5
  v5 := Tryd.zeroValue5
  t9 := Tryd.underlying9
  a9 := Tryd.isAgg9
  z9 := Tryd.sizeOf9
  v9 := Tryd.zeroValue9
  t46 := Tryd.underlying72
  a46 := Tryd.isAgg72
  z46 := Tryd.sizeOf72
  v46 := Tryd.zeroValue72
  t53 := Tryd.underlying29
  a53 := Tryd.isAgg29
  z53 := Tryd.sizeOf29
  v53 := Tryd.zeroValue29 }
def Tryd.lays134_ren : Go.Shelf.Ren := ⟨fun | 134 => 70 | 129 => 73 | n => n, fun | 53 => 29 | 3 => 3 | 4 => 4 | 46 => 72 | 5 => 5 | 9 => 9 | n => n, fun | n => n⟩
theorem Tryd.lays134 : Go.Proofs.Lays.n134 Tryd.prog Tryd.lays134_ren := {
  mixed := by kernel_rfl
  f129 := Tryd.func73.trans (congrArg some (by kernel_rfl))
  f134 := Tryd.func70.trans (congrArg some (by kernel_rfl))
  t3 := Tryd.underlying3
  a3 := Tryd.isAgg3
  z3 := Tryd.sizeOf3
  v3 := Tryd.zeroValue3
  t4 := Tryd.underlying4
  a4 := Tryd.isAgg4
  z4 := Tryd.sizeOf4
  v4 := Tryd.zeroValue4
  t5 := Tryd.underlying5
  a5 := Tryd.isAgg5
  z5 := Tryd.sizeOf5
  v5 := Tryd.zeroValue5
  t9 := Tryd.underlying9
  a9 := Tryd.isAgg9
  z9 := Tryd.sizeOf9
  v9 := Tryd.zeroValue9
  t46 := Tryd.underlying72
  a46 := Tryd.isAgg72
  z46 := Tryd.sizeOf72
  v46 := Tryd.zeroValue72
  t53 := Tryd.underlying29
  a53 := Tryd.isAgg29
  z53 := Tryd.sizeOf29
  v53 := Tryd.zeroValue29 }
def Tryd.layss29_ren : Go.Shelf.Ren := ⟨fun | 29 => 95 | n => n, fun | 22 => 29 | 3 => 3 | 4 => 4 | 25 => 72 | 54 => 133 | 0 => 0 | 5 => 5 | n => n, fun | 1 => 2 | n => n⟩
theorem Tryd.layss29 : Go.Proofs.Lays7.n29 Tryd.prog Tryd.layss29_ren := {
  mixed := by kernel_rfl
  f29 := Tryd.func95.trans (congrArg some (by kernel_rfl))
  t0 := Tryd.underlying0
  a0 := Tryd.isAgg0
  z0 := Tryd.sizeOf0
  v0 := Tryd.zeroValue0
  i0 := by kernel_rfl
  t3 := Tryd.underlying3
  a3 := Tryd.isAgg3
  z3 := Tryd.sizeOf3
  v3 := Tryd.zeroValue3
  i3 := by kernel_rfl
  t4 := Tryd.underlying4
  a4 := Tryd.isAgg4
  z4 := Tryd.sizeOf4
  v4 := Tryd.zeroValue4
  i4 := by kernel_rfl
  t5 := Tryd.underlying5
  a5 := Tryd.isAgg5
  z5 := Tryd.sizeOf5
  v5 := Tryd.zeroValue5
  i5 := by kernel_rfl
  t22 := Tryd.underlying29
  a22 := Tryd.isAgg29
  z22 := Tryd.sizeOf29
  v22 := Tryd.zeroValue29
  i22 := by kernel_rfl
  t25 := Tryd.underlying72
  a25 := Tryd.isAgg72
  z25 := Tryd.sizeOf72
  v25 := Tryd.zeroValue72
  i25 := by kernel_rfl
  t54 := Tryd.underlying133
  a54 := Tryd.isAgg133
  z54 := Tryd.sizeOf133
  g1 := by kernel_rfl }
end Go.Proofs
end
section
namespace Go.Proofs.YtkoeddgbhohggaaDoor.E
open Go.RowKit Go.Proofs.YtkoeddgbhohggaaDoorW.PrintWords Go.Proofs.YtkoeddgbhohggaaDoorW.PrintLast
set_option linter.unusedVariables false
theorem xall_lits {w : World} {ok : Nat → Prop} {M : Option Nat} : ∀ {vs us : List Value}, XAll w ok M (vs.map fun v => .p (.lit v)) us → us = vs
  | [], [], _ => rfl
  | [], _ :: _, h => (h : False).elim
  | _ :: _, [], h => (h : False).elim
  | v :: vs, u :: us, h => by rw [lit_of (E := En0) (B := fun _ => none) h.1, xall_lits h.2]
theorem mall_lits {w w' : World} {M : Option Nat} {m : List Int} : ∀ (vs us : List Value), MAll w w' M m (vs.map fun v => .p (.lit v)) us
  | [], [] => trivial
  | [], _ :: _ => trivial
  | _ :: _, [] => trivial
  | v :: vs, u :: us => mall_lits vs us
theorem rall_lits {w w' : World} {ok : Nat → Prop} {G : Option Nat} : ∀ (vs : List Value), RAll w w' ok G (vs.map fun v => .p (.lit v)) vs
  | [] => trivial
  | v :: vs => ⟨held_lit v, rall_lits vs⟩
theorem qc_lits {P : Program} {f : FuncId} {fn : Func} (hfn : P.funcs[f]? = some fn) (hname : (fn.name == "runtime.NumGoroutine") = false) (hbody : fn.body.isSome = true) {vs rs : List Value}
    (h : ∀ w ok, GOk w ok → Calls P f vs.toArray w fun e w' => e = .returned (packV rs) ∧ w' = w) : QC P f (vs.map fun v => .p (.lit v)) (rs.map fun v => .p (.lit v)) [] := by
  refine ⟨⟨fn, hfn, hname, hbody⟩, fun ok M w us hgl hx => ?_⟩
  rw [xall_lits hx]
  refine Calls.mono (h w ok hgl) fun e w' h => ?_
  obtain ⟨h1, h2⟩ := h
  subst h2
  exact ⟨none, rs, h1, rall_lits rs, Fr.refl _ _, mall_lits _ _⟩
end Go.Proofs.YtkoeddgbhohggaaDoor.E
namespace Go.Proofs.YtkoeddgbhohggaaDoor.F
open Go.Proofs.YtkoeddgbhohggaaDoor.E Go.RowKit Go.Proofs.YtkoeddgbhohggaaDoorW.PrintWords Go.Proofs.YtkoeddgbhohggaaDoorW.PrintLast
set_option linter.unusedVariables false
def isW (a : Int) : Bool := decide (0 ≤ a) && decide (a < 18446744073709551616)
theorem isW_of {a : Int} (h : isW a = true) : ∃ n : Nat, a = n ∧ n < 18446744073709551616 := by
  unfold isW at h
  rw [Bool.and_eq_true, decide_eq_true_eq, decide_eq_true_eq] at h
  exact ⟨a.toNat, by omega, by omega⟩
theorem isW_nat {n : Nat} (h : n < 18446744073709551616) : isW (n : Int) = true := by
  unfold isW
  rw [Bool.and_eq_true, decide_eq_true_eq, decide_eq_true_eq]
  omega
def bits_Mul64.A : AK := .p (.int .u64) (.p (.int .u64) .nil)
def bits_Mul64.Q : RK := .p (.int .u64) (.p (.int .u64) .nil)
def bits_Mul64.h : (Int × Int) → bits_Mul64.Q.T × List Int := fun b => ((b.1, b.2, ()), [])
def bits_Mul64.f (k : Nat) (a b : Int) : Option (Int × Int) := if isW a && isW b then some (((a.toNat * b.toNat / 18446744073709551616 : Nat) : Int), ((a.toNat * b.toNat % 18446744073709551616 : Nat) : Int)) else none
def bits_Mul64.g (k : Nat) (x : bits_Mul64.A.T) : Option (Int × Int) := bits_Mul64.f k x.1 x.2.1
theorem bits_Mul64.qc (k : Nat) (a b : Int) (r : Int × Int) (hb : bits_Mul64.f k a b = some r) : QC Go.Proofs.Tryd.prog 43 [.p (.lit (.int .u64 a)), .p (.lit (.int .u64 b))] [.p (.lit (.int .u64 r.1)), .p (.lit (.int .u64 r.2))] [] := by
  unfold bits_Mul64.f at hb
  split at hb
  · rename_i hw
    rw [Bool.and_eq_true] at hw
    obtain ⟨n, rfl, hn⟩ := isW_of hw.1
    obtain ⟨m, rfl, hm⟩ := isW_of hw.2
    injection hb with hb
    subst hb
    exact qc_lits (vs := [.int .u64 (n : Int), .int .u64 (m : Int)]) (rs := [.int .u64 _, .int .u64 _]) Go.Proofs.Tryd.func43 (by kernel_rfl) (by kernel_rfl) fun w ok _ => Any.bits_Mul64 Go.Proofs.Tryd.lays264 n m hn hm w
  · cases hb
theorem bits_Mul64.does (k : Nat) : Does Go.Proofs.Tryd.prog 43 bits_Mul64.A bits_Mul64.Q (bits_Mul64.g k) bits_Mul64.h := fun x b hb => bits_Mul64.qc k x.1 x.2.1 b hb
def bits_Len64.A : AK := .p (.int .u64) .nil
def bits_Len64.Q : RK := .p (.int .i64) .nil
def bits_Len64.h : Int → bits_Len64.Q.T × List Int := fun b => (((b), ()), [])
def bits_Len64.f (k : Nat) (a : Int) : Option Int := if isW a then some ((Lib.bitLen a.toNat : Nat) : Int) else none
def bits_Len64.g (k : Nat) (x : bits_Len64.A.T) : Option Int := bits_Len64.f k x.1
theorem bits_Len64.qc (k : Nat) (a b : Int) (hb : bits_Len64.f k a = some b) : QC Go.Proofs.Tryd.prog 73 [.p (.lit (.int .u64 a))] [.p (.lit (.int .i64 b))] [] := by
  unfold bits_Len64.f at hb
  split at hb
  · rename_i hw
    obtain ⟨n, rfl, hn⟩ := isW_of hw
    injection hb with hb
    subst hb
    exact qc_lits (vs := [.int .u64 (n : Int)]) (rs := [.int .i64 _]) Go.Proofs.Tryd.func73 (by kernel_rfl) (by kernel_rfl) fun w ok _ => Any.bits_Len64 Go.Proofs.Tryd.lays129 n w (by omega) (by omega)
  · cases hb
theorem bits_Len64.does (k : Nat) : Does Go.Proofs.Tryd.prog 73 bits_Len64.A bits_Len64.Q (bits_Len64.g k) bits_Len64.h := fun x b hb => bits_Len64.qc k x.1 b hb
def bits_LeadingZeros64.A : AK := .p (.int .u64) .nil
def bits_LeadingZeros64.Q : RK := .p (.int .i64) .nil
def bits_LeadingZeros64.h : Int → bits_LeadingZeros64.Q.T × List Int := fun b => (((b), ()), [])
def bits_LeadingZeros64.f (k : Nat) (a : Int) : Option Int := if isW a then some (64 - ((Lib.bitLen a.toNat : Nat) : Int)) else none
def bits_LeadingZeros64.g (k : Nat) (x : bits_LeadingZeros64.A.T) : Option Int := bits_LeadingZeros64.f k x.1
theorem bits_LeadingZeros64.qc (k : Nat) (a b : Int) (hb : bits_LeadingZeros64.f k a = some b) : QC Go.Proofs.Tryd.prog 70 [.p (.lit (.int .u64 a))] [.p (.lit (.int .i64 b))] [] := by
  unfold bits_LeadingZeros64.f at hb
  split at hb
  · rename_i hw
    obtain ⟨n, rfl, hn⟩ := isW_of hw
    injection hb with hb
    subst hb
    exact qc_lits (vs := [.int .u64 (n : Int)]) (rs := [.int .i64 _]) Go.Proofs.Tryd.func70 (by kernel_rfl) (by kernel_rfl) fun w ok _ => Any.bits_LeadingZeros64 Go.Proofs.Tryd.lays134 n w (by omega) (by omega)
  · cases hb
theorem bits_LeadingZeros64.does (k : Nat) : Does Go.Proofs.Tryd.prog 70 bits_LeadingZeros64.A bits_LeadingZeros64.Q (bits_LeadingZeros64.g k) bits_LeadingZeros64.h := fun x b hb => bits_LeadingZeros64.qc k x.1 b hb
def bits_TrailingZeros64.A : AK := .p (.int .u64) .nil
def bits_TrailingZeros64.Q : RK := .p (.int .i64) .nil
def bits_TrailingZeros64.h : Int → bits_TrailingZeros64.Q.T × List Int := fun b => (((b), ()), [])
def bits_TrailingZeros64.f (k : Nat) (a : Int) : Option Int := if isW a then some ((Lib.ctz 64 a.toNat : Nat) : Int) else none
def bits_TrailingZeros64.g (k : Nat) (x : bits_TrailingZeros64.A.T) : Option Int := bits_TrailingZeros64.f k x.1
theorem bits_TrailingZeros64.qc (k : Nat) (a b : Int) (hb : bits_TrailingZeros64.f k a = some b) : QC Go.Proofs.Tryd.prog 95 [.p (.lit (.int .u64 a))] [.p (.lit (.int .i64 b))] [] := by
  unfold bits_TrailingZeros64.f at hb
  split at hb
  · rename_i hw
    obtain ⟨n, rfl, hn⟩ := isW_of hw
    injection hb with hb
    subst hb
    exact qc_lits (vs := [.int .u64 (n : Int)]) (rs := [.int .i64 _]) Go.Proofs.Tryd.func95 (by kernel_rfl) (by kernel_rfl) fun w ok hgl => Any7.bits_TrailingZeros64 Go.Proofs.Tryd.layss29 n hn w fun _ => (hgl (Go.Proofs.Tryd.layss29_ren.g 1, Lib.deBruijn64tab) (List.mem_singleton.2 (by kernel_rfl))).2.2
  · cases hb
theorem bits_TrailingZeros64.does (k : Nat) : Does Go.Proofs.Tryd.prog 95 bits_TrailingZeros64.A bits_TrailingZeros64.Q (bits_TrailingZeros64.g k) bits_TrailingZeros64.h := fun x b hb => bits_TrailingZeros64.qc k x.1 b hb
end Go.Proofs.YtkoeddgbhohggaaDoor.F
end

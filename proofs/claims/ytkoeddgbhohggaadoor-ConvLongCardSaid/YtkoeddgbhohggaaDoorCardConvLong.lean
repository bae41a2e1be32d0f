/-
  The statement ConvLong of this seat: the law returns true for every input (its card: the row's listed variables are tied to the program's text). Conditions: none but the statement's own.
-/
import Derived.Test.YtkoeddgbhohggaaDoorRows
import Derived.Test.YtkoeddgbhohggaaDoorX7
import Derived.Test.YtkoeddgbhohggaaDoorCards
import Derived.Test.YtkoeddgbhohggaaDoorTie
import Derived.WalkKit
import Derived.Deep.DeepHandedRow
import Derived.Deep.DeepLaidRun
import Derived.Lib.LaidTab
import Derived.MakeChecks
import Derived.ProofKit
import Derived.OpenShut
import Derived.ShutString
import Derived.ChangeOld
import Derived.Below
import Derived.SizedLaws
import Derived.Lib.SmallJoins
namespace Go.Proofs.YtkoeddgbhohggaaDoor.convLong
open Go.ChangeShapes Go.WideShapes Go.ChangeAt Go.RowKit
open Go.ChangeMaps (open_string shut_string)
set_option linter.unusedVariables false
theorem own : ownKnob Tryd.prog.godebug = none := by kernel_rfl
theorem laidOut : laidOutB Tryd.prog = true := by kernel_rfl
mutual
/-- A datum's numbers, one behind the other. -/
def flat : DataW Unit → List Value
  | .lit (.int k n) => [.int k n]
  | .agg ps => flatAll ps
  | _ => []
def flatAll : List (DataW Unit) → List Value
  | [] => []
  | d :: r => flat d ++ flatAll r
end
def fill (l : List Value) : Obj → Obj
  | .cells _ t frozen => .cells l.toArray t frozen
  | o => o
/-- A world for the witness: the settled one, the listed variables holding what they are to read as. -/
noncomputable def laidWorld (os : Os) : World := { World.holding Tryd.prog os ⟨#[], #[], []⟩ with heap := ((World.holding Tryd.prog os ⟨#[], #[], []⟩).heap.modify 2 (fill (flat Rows.laid_math_bits_deBruijn64tab))) }
theorem tab_at {W : World} (h : laidMetH Tryd.prog Rows.convLongRow.laid W) : TabAt 2 Lib.deBruijn64tab W := by
  rw [MakeChecks.laidMetH_plain _ _ _ (by kernel_rfl)] at h
  have hT : Lib.TabIs Tryd.prog W "math/bits.deBruijn64tab" .u8 (Lib.deBruijn64tab.map Int.ofNat) := Lib.tabIs_of_head (g := 2) (t := 133) (e := 5) (n := 64) (by kernel_rfl) (by kernel_rfl) Tryd.underlying133 Tryd.underlying5 (by kernel_rfl) (by kernel_rfl) h
  intro j hj
  have h2 := hT.cell (g := 2) (by kernel_rfl) j (by simpa using hj)
  rw [h2]
  have hj2 : j < Lib.deBruijn64tab.length := hj
  simp [List.getD_eq_getElem?_getD, List.getElem?_map, List.getElem?_eq_getElem hj2]
theorem tabs_ok {W : World} (h : laidMetH Tryd.prog Rows.convLongRow.laid W) : E.GOk W fun _ => True := fun p hp => by
  have ht := tab_at h
  obtain rfl : p = (2, Lib.deBruijn64tab) := List.mem_singleton.1 hp
  exact ⟨trivial, Pure.cell_lt (ht 0 (by decide)), ht⟩
set_option maxRecDepth 100000 in
theorem laid_met (os : Os) : laidMet Tryd.prog Rows.convLongRow.laid ((laidWorld os).forCall (fun _ _ => 0) ⟨#[], #[.agg #[.int .u64 0, .int .u64 0], .agg #[.int .i64 0, .int .i64 0], .int .u64 0], []⟩).memory :=
  laidMet_of_run3 8 (by kernel_rfl) (by kernel_rfl) (by kernel_rfl)
set_option maxRecDepth 100000 in
theorem reads (os : Os) {H : Type} (enc : TypeId × Value → H) : ∃ places, DataW.whole enc Tryd.prog ((laidWorld os).forCall (fun _ _ => 0) ⟨#[], #[.agg #[.int .u64 0, .int .u64 0], .agg #[.int .i64 0, .int .i64 0], .int .u64 0], []⟩).memory Tryd.f4.params.toList Rows.convLongSpec.vars false (#[.agg #[.int .u64 0, .int .u64 0], .agg #[.int .i64 0, .int .i64 0], .int .u64 0] : Array Value).toList 8 = some ([.agg [.lit (.int .u64 0), .lit (.int .u64 0)], .agg [.lit (.int .i64 0), .lit (.int .i64 0)], .lit (.int .u64 0)], [], places) := ⟨[], by kernel_rfl⟩
set_option maxRecDepth 100000 in
theorem lifted (os : Os) (started : os.Started) (H : Type) (enc : TypeId × Value → H) (F : Stop.Interp) :
    ReturnsInHanded {} Tryd.checked os 4 .any ((OpenSpec.ofChange Rows.convLongSpec).preRow enc Tryd.prog Tryd.f4 Rows.convLongRow.domain false Rows.convLongRow.laid) (((OpenSpec.ofChange Rows.convLongSpec).at F).post enc Tryd.prog Tryd.f4 false true false false) := by
  obtain ⟨places, hx⟩ := reads os enc
  refine returnsInHanded_of_row (C := Tryd.checked) (s := OpenSpec.ofChange Rows.convLongSpec) own started (by kernel_rfl) Tryd.func4
    (witness_row_at (enc := enc) (C := Tryd.checked) false (laidWorld os) #[.agg #[.int .u64 0, .int .u64 0], .agg #[.int .i64 0, .int .i64 0], .int .u64 0] rfl (by kernel_rfl) (by kernel_rfl) (by kernel_rfl)
      (OpenSpec.preRow_of_cond 8 hx (by kernel_rfl) (fun k hk => by cases hk) (by kernel_rfl) (laid_met os))) ?_
  intro W base args ds gs before hval0 hW hcnd _ hsz0 hlaid_ _ _
  have hval : ∀ (j : Nat) t v, Tryd.f4.params[j]? = some t → args[j]? = some v → Value.okWide Tryd.prog W .any base t v := hval0
  have hW' := hW
  obtain ⟨p, q, hA0, hV, rfl, hfz, hnd⟩ := hW
  have hA : DataW.TrodAll enc Tryd.prog W 0 (fun _ => true) true Tryd.f4.params.toList args.toList ds p := hA0
  rw [Tryd.params4] at hA hval
  obtain ⟨v0, vs0, d0, ds0, p0, q0, hargs, rfl, rfl, h0, r0⟩ := trodAll_cons hA
  obtain ⟨v1, vs1, d1, ds1, p1, q1, rfl, rfl, rfl, h1, r1⟩ := trodAll_cons r0
  obtain ⟨v2, vs2, d2, ds2, p2, q2, rfl, rfl, rfl, h2, r2⟩ := trodAll_cons r1
  obtain ⟨rfl, rfl, rfl⟩ := trodAll_nil r2
  obtain rfl : args = #[v0, v1, v2] := by cases args; simp_all
  obtain ⟨rfl, rfl⟩ := trodVars_none hV
  have k0 := h0
  have lt0 : ∀ x ∈ p0, x.block < W.heap.size := by obtain ⟨m, hm⟩ := k0; exact DataW.trod_lt m _ _ _ hm
  obtain ⟨a0, b0, rfl, rfl, rfl, w0, x0⟩ := Pure.open_pair Tryd.underlying30 Tryd.underlying29 (by kernel_rfl) (by kernel_rfl) (hval 0 30 v0 rfl rfl) h0
  have k1 := h1
  have lt1 : ∀ x ∈ p1, x.block < W.heap.size := by obtain ⟨m, hm⟩ := k1; exact DataW.trod_lt m _ _ _ hm
  obtain ⟨a1, b1, rfl, rfl, rfl, w1, x1⟩ := Pure.open_pair Tryd.underlying31 Tryd.underlying3 (by kernel_rfl) (by kernel_rfl) (hval 1 31 v1 rfl rfl) h1
  obtain ⟨a2, rfl, rfl, rfl, w2⟩ := open_int Tryd.underlying29 (hval 2 29 v2 rfl rfl) h2
  clear hA0 hval0 hsz0
  have ev_ := Pure.ConvLong (a := a0) (b := b0) (c := a1) (d := b1) (m := a2) (Pure.U_of_wf w0) (Pure.U_of_wf x0) (Pure.U_of_wf w2)
  refine (Pure.runs (g := Go.Proofs.YtkoeddgbhohggaaDoor.F.vinculumlaw08_ConvLong.g) Go.Proofs.YtkoeddgbhohggaaDoor.F.vinculumlaw08_ConvLong.does (x := ((a0, b0, ()), (a1, b1, ()), a2, ())) ev_ (us := [.agg #[.int .u64 a0, .int .u64 b0], .agg #[.int .i64 a1, .int .i64 b1], .int .u64 a2]) (tabs_ok hlaid_) ⟨E.held_agg (E.heldL_cons (Pure.held_int .u64 a0) (E.heldL_cons (Pure.held_int .u64 b0) E.heldL_nil)), E.held_agg (E.heldL_cons (Pure.held_int .i64 a1) (E.heldL_cons (Pure.held_int .i64 b1) E.heldL_nil)), Pure.held_int .u64 a2, trivial⟩).mono fun e W' ⟨he, bel⟩ => ?_
  subst he
  exact ⟨_, rfl, _, _, _, [], _, [], hW', trodAll_mk1 (shut_bool Tryd.underlying4 _), (trodAll_cons_mk (Below.trod laidOut (by kernel_rfl) (of_decide_eq_true (by kernel_rfl)) k0 bel lt0) (trodAll_cons_mk (Below.trod laidOut (by kernel_rfl) (of_decide_eq_true (by kernel_rfl)) k1 bel lt1) (trodAll_cons_mk (shut_int Tryd.underlying29 w2) trodAll_mk0))), rfl, bel.frame _, fun h => by cases h⟩
theorem said : Rows.ConvLongSaid :=
  OpenClaim.holds_of_cond 4 Tryd.f4 rfl rfl rfl rfl rfl rfl rfl ⟨rfl, rfl, rfl, rfl, rfl⟩ rfl rfl rfl rfl rfl (by kernel_rfl) Tryd.func4 (by kernel_rfl)
    (of_decide_eq_true (by kernel_rfl)) (by unfold Func.isWrapper; first | (rw [if_pos (by decide +kernel)]; kernel_rfl) | (rw [if_neg (by decide +kernel)]; exact ⟨rfl, rfl⟩))
    (fun os started H enc _ F => by rw [OpenClaim.pre_eq_preRow]; exact lifted os started H enc F)
/-- No parameter wants a stand-in; the program's own looks are off. -/
theorem plain (f : FuncId) (fn : Func) (hf : Tryd.pinned.checked.prog.funcNamed "vinculum/vinculumlaw08.ConvLong" = some f) (hfn : Tryd.pinned.checked.prog.funcs[f]? = some fn) :
    false = Tryd.pinned.checked.prog.looks [] ∧ ∀ (j : Nat) t, fn.params[j]? = some t → Tryd.pinned.checked.prog.wantsStandIn t = false := by
  obtain rfl : f = 4 := Option.some.inj ((show Tryd.prog.funcNamed "vinculum/vinculumlaw08.ConvLong" = some 4 by kernel_rfl).symm.trans hf) |>.symm
  obtain rfl : fn = Tryd.f4 := (Option.some.inj (Tryd.func4.symm.trans hfn)).symm
  refine ⟨by kernel_rfl, fun j t ht => ?_⟩
  rw [Tryd.params4] at ht
  have hm := Array.mem_of_getElem? ht
  have ht2 : t = 29 ∨ t = 30 ∨ t = 31 := by first | simpa using hm | (simp at hm; omega) | (simp at hm; grind) | grind
  rcases ht2 with rfl | rfl | rfl
  · exact (show Tryd.prog.wantsStandIn 29 = false by kernel_rfl)
  · exact (show Tryd.prog.wantsStandIn 30 = false by kernel_rfl)
  · exact (show Tryd.prog.wantsStandIn 31 = false by kernel_rfl)
/-- The card. -/
theorem card : Rows.ConvLongCardSaid :=
  Claim7.holds_tied_plain_at .later [] _ _ _ _ said (fun _ h => by cases h) (by kernel_rfl) (fun _ h => by cases h) convLong_row_tie rfl ⟨rfl, rfl⟩ (by kernel_rfl) rfl plain (by kernel_rfl)
#print axioms card
end Go.Proofs.YtkoeddgbhohggaaDoor.convLong
namespace Go.Proofs.YtkoeddgbhohggaaDoor
/-- The card, under a short name, for the claim. -/
theorem convLong_card : Rows.ConvLongCardSaid := convLong.card
end Go.Proofs.YtkoeddgbhohggaaDoor

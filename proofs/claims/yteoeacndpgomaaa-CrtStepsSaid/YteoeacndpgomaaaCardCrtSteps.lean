/-
  The statement CrtSteps of this seat: the law returns true for every input (its card: the row's listed variables are tied to the program's text). Conditions: none but the statement's own.
-/
import Derived.Test.YteoeacndpgomaaaRows
import Derived.Test.YteoeacndpgomaaaX5
import Derived.WalkKit
import Derived.Deep.DeepHandedRow
import Derived.Deep.DeepLaidRun
import Derived.Lib.LaidTab
import Derived.MakeChecks
import Derived.ProofKit
import Derived.OpenShut
import Derived.ShutString
import Derived.ChangeOld
import Derived.Below
import Derived.SizedLaws
import Derived.Lib.SmallJoins
namespace Go.Proofs.Yteoeacndpgomaaa.crtSteps
open Go.ChangeShapes Go.WideShapes Go.ChangeAt Go.RowKit
open Go.ChangeMaps (open_string shut_string)
set_option linter.unusedVariables false
theorem own : ownKnob Try.prog.godebug = none := by kernel_rfl
theorem laidOut : laidOutB Try.prog = true := by kernel_rfl
mutual
/-- A datum's numbers, one behind the other. -/
def flat : DataW Unit → List Value
  | .lit (.int k n) => [.int k n]
  | .agg ps => flatAll ps
  | _ => []
def flatAll : List (DataW Unit) → List Value
  | [] => []
  | d :: r => flat d ++ flatAll r
end
def fill (l : List Value) : Obj → Obj
  | .cells _ t frozen => .cells l.toArray t frozen
  | o => o
/-- A world for the witness: the settled one, the listed variables holding what they are to read as. -/
noncomputable def laidWorld (os : Os) : World := { World.holding Try.prog os ⟨#[], #[], []⟩ with heap := (World.holding Try.prog os ⟨#[], #[], []⟩).heap }
theorem tabs_ok {W : World} (h : True) : E.GOk W fun _ => True := fun p hp => by cases hp
set_option maxRecDepth 100000 in
theorem laid_met (os : Os) : laidMet Try.prog Rows.crtStepsRow.laid ((laidWorld os).forCall (fun _ _ => 0) ⟨#[], #[.agg #[.bool false, .slice none 0 0], .agg #[.bool false, .slice none 0 0], .agg #[.int .u64 0, .int .u64 0]], []⟩).memory :=
  laidMet_of_run3 8 (by kernel_rfl) (by kernel_rfl) (by kernel_rfl)
set_option maxRecDepth 100000 in
theorem reads (os : Os) {H : Type} (enc : TypeId × Value → H) : ∃ places, DataW.whole enc Try.prog ((laidWorld os).forCall (fun _ _ => 0) ⟨#[], #[.agg #[.bool false, .slice none 0 0], .agg #[.bool false, .slice none 0 0], .agg #[.int .u64 0, .int .u64 0]], []⟩).memory Try.f5.params.toList Rows.crtStepsSpec.vars false (#[.agg #[.bool false, .slice none 0 0], .agg #[.bool false, .slice none 0 0], .agg #[.int .u64 0, .int .u64 0]] : Array Value).toList 8 = some ([.agg [.lit (.bool false), DataW.nil], .agg [.lit (.bool false), DataW.nil], .agg [.lit (.int .u64 0), .lit (.int .u64 0)]], [], places) := ⟨[], by kernel_rfl⟩
set_option maxRecDepth 100000 in
theorem lifted (os : Os) (started : os.Started) (H : Type) (enc : TypeId × Value → H) (F : Stop.Interp) :
    ReturnsInHanded {} Try.checked os 5 .any ((OpenSpec.ofChange Rows.crtStepsSpec).preRow enc Try.prog Try.f5 Rows.crtStepsRow.domain false Rows.crtStepsRow.laid) (((OpenSpec.ofChange Rows.crtStepsSpec).at F).post enc Try.prog Try.f5 false true false false) := by
  obtain ⟨places, hx⟩ := reads os enc
  refine returnsInHanded_of_row (C := Try.checked) (s := OpenSpec.ofChange Rows.crtStepsSpec) own started (by kernel_rfl) Try.func5
    (witness_row_at (enc := enc) (C := Try.checked) false (laidWorld os) #[.agg #[.bool false, .slice none 0 0], .agg #[.bool false, .slice none 0 0], .agg #[.int .u64 0, .int .u64 0]] rfl (by kernel_rfl) (by kernel_rfl) (by kernel_rfl)
      (OpenSpec.preRow_of_cond 8 hx (by kernel_rfl) (fun k hk => by cases hk) (by kernel_rfl) (laid_met os))) ?_
  intro W base args ds gs before hval0 hW hcnd _ hsz0 hlaid_ _ _
  have hval : ∀ (j : Nat) t v, Try.f5.params[j]? = some t → args[j]? = some v → Value.okWide Try.prog W .any base t v := hval0
  have hW' := hW
  obtain ⟨p, q, hA0, hV, rfl, hfz, hnd⟩ := hW
  have hA : DataW.TrodAll enc Try.prog W 0 (fun _ => true) true Try.f5.params.toList args.toList ds p := hA0
  rw [Try.params5] at hA hval
  obtain ⟨v0, vs0, d0, ds0, p0, q0, hargs, rfl, rfl, h0, r0⟩ := trodAll_cons hA
  obtain ⟨v1, vs1, d1, ds1, p1, q1, rfl, rfl, rfl, h1, r1⟩ := trodAll_cons r0
  obtain ⟨v2, vs2, d2, ds2, p2, q2, rfl, rfl, rfl, h2, r2⟩ := trodAll_cons r1
  obtain ⟨rfl, rfl, rfl⟩ := trodAll_nil r2
  obtain rfl : args = #[v0, v1, v2] := by cases args; simp_all
  obtain ⟨rfl, rfl⟩ := trodVars_none hV
  have k0 := h0
  have lt0 : ∀ x ∈ p0, x.block < W.heap.size := by obtain ⟨m, hm⟩ := k0; exact DataW.trod_lt m _ _ _ hm
  obtain ⟨u0, s0, y0, z0, n0, rfl, rfl, rfl, e0, g0⟩ := Go.Joins.open_agg2 Try.underlying44 (by kernel_rfl) (by kernel_rfl) (hval 0 44 v0 rfl rfl) h0
  obtain ⟨b0, i0, _⟩ := DataW.trod_bool Try.underlying4 e0
  obtain rfl : u0 = .bool b0 := by simpa using i0
  obtain ⟨a0, len0, cap0, r0_, rfl, w0⟩ : ∃ a len cap zs, s0 = .slice a len cap ∧ Pure.IsRow .u64 W a len cap zs := by
    rcases open_ints Try.underlying24 Try.underlying40 (by kernel_rfl) g0 with ⟨hcs, _⟩ | ⟨x, l, c, zs, hcs, _, hl, hm, hz, _, hcell, hwz⟩
    · exact ⟨none, 0, 0, [], by simpa using hcs, .inl ⟨rfl, rfl, rfl, rfl⟩⟩
    · exact ⟨some x, l, c, zs, by simpa using hcs, .inr ⟨_, rfl, hl, hm, by simpa using hz, hcell, hwz⟩⟩
  have k1 := h1
  have lt1 : ∀ x ∈ p1, x.block < W.heap.size := by obtain ⟨m, hm⟩ := k1; exact DataW.trod_lt m _ _ _ hm
  obtain ⟨u1, s1, y1, z1, n1, rfl, rfl, rfl, e1, g1⟩ := Go.Joins.open_agg2 Try.underlying44 (by kernel_rfl) (by kernel_rfl) (hval 1 44 v1 rfl rfl) h1
  obtain ⟨b1, i1, _⟩ := DataW.trod_bool Try.underlying4 e1
  obtain rfl : u1 = .bool b1 := by simpa using i1
  obtain ⟨a1, len1, cap1, r1_, rfl, w1⟩ : ∃ a len cap zs, s1 = .slice a len cap ∧ Pure.IsRow .u64 W a len cap zs := by
    rcases open_ints Try.underlying24 Try.underlying40 (by kernel_rfl) g1 with ⟨hcs, _⟩ | ⟨x, l, c, zs, hcs, _, hl, hm, hz, _, hcell, hwz⟩
    · exact ⟨none, 0, 0, [], by simpa using hcs, .inl ⟨rfl, rfl, rfl, rfl⟩⟩
    · exact ⟨some x, l, c, zs, by simpa using hcs, .inr ⟨_, rfl, hl, hm, by simpa using hz, hcell, hwz⟩⟩
  have k2 := h2
  have lt2 : ∀ x ∈ p2, x.block < W.heap.size := by obtain ⟨m, hm⟩ := k2; exact DataW.trod_lt m _ _ _ hm
  obtain ⟨a2, b2, rfl, rfl, rfl, w2, x2⟩ := Pure.open_pair Try.underlying53 Try.underlying40 (by kernel_rfl) (by kernel_rfl) (hval 2 53 v2 rfl rfl) h2
  clear hA0 hval0 hsz0
  have ev_ := Pure.CrtSteps (b := b0) (l := r0_.take len0) (c := b1) (m := r1_.take len1) (p := a2) (q := b2) (w0.words) (w1.words) (Pure.U_of_wf w2) (Pure.U_of_wf x2)
  refine (Pure.runs (g := Go.Proofs.Yteoeacndpgomaaa.F.vinculumlaw05_CrtSteps.g) Go.Proofs.Yteoeacndpgomaaa.F.vinculumlaw05_CrtSteps.does (x := ((b0, r0_.take len0, ()), (b1, r1_.take len1, ()), (a2, b2, ()), ())) ev_ (us := [.agg #[.bool b0, .slice a0 len0 cap0], .agg #[.bool b1, .slice a1 len1 cap1], .agg #[.int .u64 a2, .int .u64 b2]]) (tabs_ok trivial) ⟨E.held_agg (E.heldL_cons (E.held_lit _) (E.heldL_cons w0.held E.heldL_nil)), E.held_agg (E.heldL_cons (E.held_lit _) (E.heldL_cons w1.held E.heldL_nil)), E.held_agg (E.heldL_cons (Pure.held_int .u64 a2) (E.heldL_cons (Pure.held_int .u64 b2) E.heldL_nil)), trivial⟩).mono fun e W' ⟨he, bel⟩ => ?_
  subst he
  exact ⟨_, rfl, _, _, _, [], _, [], hW', trodAll_mk1 (shut_bool Try.underlying4 _), (trodAll_cons_mk (Below.trod laidOut (by kernel_rfl) (of_decide_eq_true (by kernel_rfl)) k0 bel lt0) (trodAll_cons_mk (Below.trod laidOut (by kernel_rfl) (of_decide_eq_true (by kernel_rfl)) k1 bel lt1) (trodAll_cons_mk (Below.trod laidOut (by kernel_rfl) (of_decide_eq_true (by kernel_rfl)) k2 bel lt2) trodAll_mk0))), rfl, bel.frame _, fun h => by cases h⟩
theorem said : Rows.CrtStepsSaid :=
  OpenClaim.holds_of_cond 5 Try.f5 rfl rfl rfl rfl rfl rfl rfl ⟨rfl, rfl, rfl, rfl, rfl⟩ rfl rfl rfl rfl rfl (by kernel_rfl) Try.func5 (by kernel_rfl)
    (of_decide_eq_true (by kernel_rfl)) (by unfold Func.isWrapper; first | (rw [if_pos (by decide +kernel)]; kernel_rfl) | (rw [if_neg (by decide +kernel)]; exact ⟨rfl, rfl⟩))
    (fun os started H enc _ F => by rw [OpenClaim.pre_eq_preRow]; exact lifted os started H enc F)
#print axioms said
end Go.Proofs.Yteoeacndpgomaaa.crtSteps
namespace Go.Proofs.Yteoeacndpgomaaa
/-- The statement, under a short name, for the claim. -/
theorem crtSteps_said : Rows.CrtStepsSaid := crtSteps.said
end Go.Proofs.Yteoeacndpgomaaa

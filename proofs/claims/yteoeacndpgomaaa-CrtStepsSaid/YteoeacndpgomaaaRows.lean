/-
  No cell of these rows narrows 'for every input' (looked for: loops, veiled, ifaces, maps, wideKeys, modest, calm, conditions, laid).
  DERIVED. THE GIVEN ROWS OF THIS SEAT. 6 by the template 'for every input the law returns true; each argument reads behind the call as it read before'; 0 by the template 'total and deterministic' (their statements: YteoeacndpgomaaaTotals.lean).
  GIVEN WITH THE SEED: the statements are not yours to turn. If you find one false, say at which input.
  Laid BY PROGRAM, IN A SANDBOX (cutbox-rows.mjs): the forced cells as the released guide's own fill.sh prints them over the translation 875e222b9966972c… (all of the seat's roots in one cut). By AI agents, Wed Nov 11 2026. No macro, syntax, notation, axiom, sorry.
-/
import Derived.Test.YteoeacndpgomaaaChecked
import GoSem.Claim
import GoSem.ClaimJoined
import GoSem.ClaimMapViews
import Derived.JoinedTies
import Derived.KernelRfl
namespace Go.Proofs.Yteoeacndpgomaaa
/- THE CELL 'sum', in the pinned program and in every row, IS THE sha256 OF THE DUMP (.gsa) THAT YteoeacndpgomaaaProg.lean LOADS. Nothing in Lean hashes anything: it is a label: what it is worth is what the hold of that sum in a sandbox is worth. -/
noncomputable def Try.pinned : Pinned := { name := "yteoeacndpgomaaa", sum := "875e222b9966972ced2750b68e734997f68e7f80283175a687e4da7f51addef8", checked := Try.checked }
namespace Rows
def none {H : Type} : Left H := { results := [], args := [] }

/-- 'vinculumlaw05.CrtLifts': WHATEVER THE INPUT: true; the input reads as it did. -/
def crtLiftsSpec : ChangeSpec := { name := "crtLifts", fn := fun _ => fun
  | [d1, d2] => { results := [.lit (.bool true)], args := [d1, d2] }
  | _ => none }
def crtLiftsRow : OpenClaim := { program := "yteoeacndpgomaaa", sum := "875e222b9966972ced2750b68e734997f68e7f80283175a687e4da7f51addef8", func := "vinculum/vinculumlaw05.CrtLifts", spec := "crtLifts", inPlace := ["math/bits.Add64", "math/bits.Sub64"], named := ["math/bits.divideError", "math/bits.overflowError"], apart := false }
def CrtLiftsSaid : Prop := crtLiftsRow.holds Try.pinned (OpenSpec.ofChange crtLiftsSpec)

/-- ITS FALSE NEIGHBOUR: 'it returns false'. Refute it at one input. -/
def crtLiftsWrong : ChangeSpec := { name := "crtLifts", fn := fun _ => fun
  | [d1, d2] => { results := [.lit (.bool false)], args := [d1, d2] }
  | _ => none }
def CrtLiftsWrongFalsely : Prop := crtLiftsRow.holds Try.pinned (OpenSpec.ofChange crtLiftsWrong)

/-- 'vinculumlaw05.CrtNears': WHATEVER THE INPUT: true; the input reads as it did. -/
def crtNearsSpec : ChangeSpec := { name := "crtNears", fn := fun _ => fun
  | [d1, d2] => { results := [.lit (.bool true)], args := [d1, d2] }
  | _ => none }
def crtNearsRow : OpenClaim := { program := "yteoeacndpgomaaa", sum := "875e222b9966972ced2750b68e734997f68e7f80283175a687e4da7f51addef8", func := "vinculum/vinculumlaw05.CrtNears", spec := "crtNears", inPlace := ["math/bits.Add64", "math/bits.Sub64"], named := ["math/bits.divideError", "math/bits.overflowError"], apart := false }
def CrtNearsSaid : Prop := crtNearsRow.holds Try.pinned (OpenSpec.ofChange crtNearsSpec)

/-- ITS FALSE NEIGHBOUR: 'it returns false'. Refute it at one input. -/
def crtNearsWrong : ChangeSpec := { name := "crtNears", fn := fun _ => fun
  | [d1, d2] => { results := [.lit (.bool false)], args := [d1, d2] }
  | _ => none }
def CrtNearsWrongFalsely : Prop := crtNearsRow.holds Try.pinned (OpenSpec.ofChange crtNearsWrong)

/-- 'vinculumlaw05.CrtSteps': WHATEVER THE INPUT: true; the input reads as it did. -/
def crtStepsSpec : ChangeSpec := { name := "crtSteps", fn := fun _ => fun
  | [d1, d2, d3] => { results := [.lit (.bool true)], args := [d1, d2, d3] }
  | _ => none }
def crtStepsRow : OpenClaim := { program := "yteoeacndpgomaaa", sum := "875e222b9966972ced2750b68e734997f68e7f80283175a687e4da7f51addef8", func := "vinculum/vinculumlaw05.CrtSteps", spec := "crtSteps", inPlace := ["math/bits.Add64", "math/bits.Sub64"], named := ["math/bits.divideError", "math/bits.overflowError"], apart := false }
def CrtStepsSaid : Prop := crtStepsRow.holds Try.pinned (OpenSpec.ofChange crtStepsSpec)

/-- ITS FALSE NEIGHBOUR: 'it returns false'. Refute it at one input. -/
def crtStepsWrong : ChangeSpec := { name := "crtSteps", fn := fun _ => fun
  | [d1, d2, d3] => { results := [.lit (.bool false)], args := [d1, d2, d3] }
  | _ => none }
def CrtStepsWrongFalsely : Prop := crtStepsRow.holds Try.pinned (OpenSpec.ofChange crtStepsWrong)

/-- 'vinculumlaw05.CrtParts': WHATEVER THE INPUT: true; the input reads as it did. -/
def crtPartsSpec : ChangeSpec := { name := "crtParts", fn := fun _ => fun
  | [d1, d2] => { results := [.lit (.bool true)], args := [d1, d2] }
  | _ => none }
def crtPartsRow : OpenClaim := { program := "yteoeacndpgomaaa", sum := "875e222b9966972ced2750b68e734997f68e7f80283175a687e4da7f51addef8", func := "vinculum/vinculumlaw05.CrtParts", spec := "crtParts", inPlace := ["math/bits.Add64", "math/bits.Sub64"], named := ["math/bits.divideError", "math/bits.overflowError"], apart := false }
def CrtPartsSaid : Prop := crtPartsRow.holds Try.pinned (OpenSpec.ofChange crtPartsSpec)

/-- ITS FALSE NEIGHBOUR: 'it returns false'. Refute it at one input. -/
def crtPartsWrong : ChangeSpec := { name := "crtParts", fn := fun _ => fun
  | [d1, d2] => { results := [.lit (.bool false)], args := [d1, d2] }
  | _ => none }
def CrtPartsWrongFalsely : Prop := crtPartsRow.holds Try.pinned (OpenSpec.ofChange crtPartsWrong)

/-- 'vinculumlaw05.CrtEnough': WHATEVER THE INPUT: true; the input reads as it did. -/
def crtEnoughSpec : ChangeSpec := { name := "crtEnough", fn := fun _ => fun
  | [d1, d2, d3] => { results := [.lit (.bool true)], args := [d1, d2, d3] }
  | _ => none }
def crtEnoughRow : OpenClaim := { program := "yteoeacndpgomaaa", sum := "875e222b9966972ced2750b68e734997f68e7f80283175a687e4da7f51addef8", func := "vinculum/vinculumlaw05.CrtEnough", spec := "crtEnough", inPlace := ["math/bits.Add64", "math/bits.Sub64"], named := ["math/bits.divideError", "math/bits.overflowError"], apart := false }
def CrtEnoughSaid : Prop := crtEnoughRow.holds Try.pinned (OpenSpec.ofChange crtEnoughSpec)

/-- ITS FALSE NEIGHBOUR: 'it returns false'. Refute it at one input. -/
def crtEnoughWrong : ChangeSpec := { name := "crtEnough", fn := fun _ => fun
  | [d1, d2, d3] => { results := [.lit (.bool false)], args := [d1, d2, d3] }
  | _ => none }
def CrtEnoughWrongFalsely : Prop := crtEnoughRow.holds Try.pinned (OpenSpec.ofChange crtEnoughWrong)

/-- 'vinculumlaw05.CrtBack': WHATEVER THE INPUT: true; the input reads as it did. -/
def crtBackSpec : ChangeSpec := { name := "crtBack", fn := fun _ => fun
  | [d1, d2] => { results := [.lit (.bool true)], args := [d1, d2] }
  | _ => none }
def crtBackRow : OpenClaim := { program := "yteoeacndpgomaaa", sum := "875e222b9966972ced2750b68e734997f68e7f80283175a687e4da7f51addef8", func := "vinculum/vinculumlaw05.CrtBack", spec := "crtBack", inPlace := ["math/bits.Add64", "math/bits.Sub64"], named := ["math/bits.divideError", "math/bits.overflowError"], apart := false }
def CrtBackSaid : Prop := crtBackRow.holds Try.pinned (OpenSpec.ofChange crtBackSpec)

/-- ITS FALSE NEIGHBOUR: 'it returns false'. Refute it at one input. -/
def crtBackWrong : ChangeSpec := { name := "crtBack", fn := fun _ => fun
  | [d1, d2] => { results := [.lit (.bool false)], args := [d1, d2] }
  | _ => none }
def CrtBackWrongFalsely : Prop := crtBackRow.holds Try.pinned (OpenSpec.ofChange crtBackWrong)

/- THE SECOND FORM. 'bulk': how many values and letters a reading holds, each counted each time it is reached (what is shared counts as often as it is met; a slice's spare places count too). A statement '..UptoSaid' is the law's where the arguments, and the package variables that the reading takes, are together of bulk at most 1048576: NARROWER than '..Said'. Prove '..Said' where nothing that the law and all that it calls make is longer than what came in: it says more and counts as full. Else prove '..UptoSaid'. A law counts once. -/
mutual
def uptoBulk {H : Type} : DataW H → Nat
  | .lit (.string bytes) => bytes.length + 1
  | .lit _ => 1
  | .nil => 1
  | .ptr d => uptoBulk d + 1
  | .slice elems spare => uptoBulkAll elems + uptoBulkAll spare + 1
  | .agg parts => uptoBulkAll parts + 1
  | .iface _ d => uptoBulk d + 1
  | .map entries => uptoBulkEntries entries + 1
  | .held _ => 1
def uptoBulkAll {H : Type} : List (DataW H) → Nat
  | [] => 0
  | d :: r => uptoBulk d + uptoBulkAll r
def uptoBulkEntries {H : Type} : List (Lit × DataW H) → Nat
  | [] => 0
  | x :: r => uptoBulkEntry x + uptoBulkEntries r
def uptoBulkEntry {H : Type} : Lit × DataW H → Nat
  | (.string bytes, d) => bytes.length + uptoBulk d + 1
  | (_, d) => uptoBulk d + 1
 end
def uptoSmall : (H : Type) → List (DataW H) → Bool := fun _ ds => decide (uptoBulkAll ds ≤ 1048576)
def OpenSpec.upto (s : _root_.Go.ChangeSpec) : _root_.Go.OpenSpec := { _root_.Go.OpenSpec.ofChange s with cond := some uptoSmall }

/-- 'vinculumlaw05.CrtLifts', WHERE WHAT IT READS IS OF BULK AT MOST 1048576: true; the input reads as it did. -/
def crtLiftsUptoRow : OpenClaim := { program := "yteoeacndpgomaaa", sum := "875e222b9966972ced2750b68e734997f68e7f80283175a687e4da7f51addef8", func := "vinculum/vinculumlaw05.CrtLifts", spec := "crtLifts", inPlace := ["math/bits.Add64", "math/bits.Sub64"], named := ["math/bits.divideError", "math/bits.overflowError"], apart := false, narrowed := true }
def CrtLiftsUptoSaid : Prop := crtLiftsUptoRow.holds Try.pinned (OpenSpec.upto crtLiftsSpec)

/-- 'vinculumlaw05.CrtNears', WHERE WHAT IT READS IS OF BULK AT MOST 1048576: true; the input reads as it did. -/
def crtNearsUptoRow : OpenClaim := { program := "yteoeacndpgomaaa", sum := "875e222b9966972ced2750b68e734997f68e7f80283175a687e4da7f51addef8", func := "vinculum/vinculumlaw05.CrtNears", spec := "crtNears", inPlace := ["math/bits.Add64", "math/bits.Sub64"], named := ["math/bits.divideError", "math/bits.overflowError"], apart := false, narrowed := true }
def CrtNearsUptoSaid : Prop := crtNearsUptoRow.holds Try.pinned (OpenSpec.upto crtNearsSpec)

/-- 'vinculumlaw05.CrtSteps', WHERE WHAT IT READS IS OF BULK AT MOST 1048576: true; the input reads as it did. -/
def crtStepsUptoRow : OpenClaim := { program := "yteoeacndpgomaaa", sum := "875e222b9966972ced2750b68e734997f68e7f80283175a687e4da7f51addef8", func := "vinculum/vinculumlaw05.CrtSteps", spec := "crtSteps", inPlace := ["math/bits.Add64", "math/bits.Sub64"], named := ["math/bits.divideError", "math/bits.overflowError"], apart := false, narrowed := true }
def CrtStepsUptoSaid : Prop := crtStepsUptoRow.holds Try.pinned (OpenSpec.upto crtStepsSpec)

/-- 'vinculumlaw05.CrtParts', WHERE WHAT IT READS IS OF BULK AT MOST 1048576: true; the input reads as it did. -/
def crtPartsUptoRow : OpenClaim := { program := "yteoeacndpgomaaa", sum := "875e222b9966972ced2750b68e734997f68e7f80283175a687e4da7f51addef8", func := "vinculum/vinculumlaw05.CrtParts", spec := "crtParts", inPlace := ["math/bits.Add64", "math/bits.Sub64"], named := ["math/bits.divideError", "math/bits.overflowError"], apart := false, narrowed := true }
def CrtPartsUptoSaid : Prop := crtPartsUptoRow.holds Try.pinned (OpenSpec.upto crtPartsSpec)

/-- 'vinculumlaw05.CrtEnough', WHERE WHAT IT READS IS OF BULK AT MOST 1048576: true; the input reads as it did. -/
def crtEnoughUptoRow : OpenClaim := { program := "yteoeacndpgomaaa", sum := "875e222b9966972ced2750b68e734997f68e7f80283175a687e4da7f51addef8", func := "vinculum/vinculumlaw05.CrtEnough", spec := "crtEnough", inPlace := ["math/bits.Add64", "math/bits.Sub64"], named := ["math/bits.divideError", "math/bits.overflowError"], apart := false, narrowed := true }
def CrtEnoughUptoSaid : Prop := crtEnoughUptoRow.holds Try.pinned (OpenSpec.upto crtEnoughSpec)

/-- 'vinculumlaw05.CrtBack', WHERE WHAT IT READS IS OF BULK AT MOST 1048576: true; the input reads as it did. -/
def crtBackUptoRow : OpenClaim := { program := "yteoeacndpgomaaa", sum := "875e222b9966972ced2750b68e734997f68e7f80283175a687e4da7f51addef8", func := "vinculum/vinculumlaw05.CrtBack", spec := "crtBack", inPlace := ["math/bits.Add64", "math/bits.Sub64"], named := ["math/bits.divideError", "math/bits.overflowError"], apart := false, narrowed := true }
def CrtBackUptoSaid : Prop := crtBackUptoRow.holds Try.pinned (OpenSpec.upto crtBackSpec)

end Rows
end Go.Proofs.Yteoeacndpgomaaa

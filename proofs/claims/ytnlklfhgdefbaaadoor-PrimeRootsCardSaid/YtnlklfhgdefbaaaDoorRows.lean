/-
  NARROWER THAN 'FOR EVERY INPUT', by the rows' own cells (each row's printed sentence says how): PrimeTells: laid · PrimeTimes: laid · PrimeProth: laid · PrimeFermat: laid · PrimeNext: laid · PrimeScans: laid · PrimeGreat: laid · PrimeRoots: laid · PrimeOrders: laid.
  DERIVED. THE GIVEN ROWS OF THIS SEAT. 9 by the template 'for every input the law returns true; each argument reads behind the call as it read before'; 0 by the template 'total and deterministic' (their statements: YtnlklfhgdefbaaaDoorTotals.lean).
  GIVEN WITH THE SEED: the statements are not yours to turn. If you find one false, say at which input.
  Laid BY PROGRAM, IN A SANDBOX (cutbox-rows.mjs): the forced cells as the released guide's own fill.sh prints them over the translation e1dfe8111ce67f4e… (all of the seat's roots in one cut). By AI agents, Wed Nov 11 2026. No macro, syntax, notation, axiom, sorry.
-/
import Derived.Test.YtnlklfhgdefbaaaDoorChecked
import GoSem.Claim
import GoSem.ClaimJoined
import GoSem.ClaimMapViews
import Derived.JoinedTies
import Derived.KernelRfl
namespace Go.Proofs.YtnlklfhgdefbaaaDoor
/- THE CELL 'sum', in the pinned program and in every row, IS THE sha256 OF THE DUMP (.gsa) THAT YtnlklfhgdefbaaaDoorProg.lean LOADS. Nothing in Lean hashes anything: it is a label: what it is worth is what the hold of that sum in a sandbox is worth. -/
noncomputable def Tryd.pinned : Pinned := { name := "ytnlklfhgdefbaaadoor", sum := "e1dfe8111ce67f4ed473dcf980d999215deeb49025415c72698a475b1d141fc9", checked := Tryd.checked }
namespace Rows
def none {H : Type} : Left H := { results := [], args := [] }

/- WHAT THE LISTED PACKAGE-LEVEL VARIABLES READ AS WHEN THE CALL BEGINS. Each datum BY PROGRAM (the guide's laid-datum.mjs) off the statement by which the dump's own 'gosem.cut.vars' lays the variable. In a bare row this is a premise. The card (YtnlklfhgdefbaaaDoorCards.lean) ties it to the program's text. -/
def laid_math_bits_deBruijn64tab {H : Type} : DataW H := .agg [.lit (.int .u8 0), .lit (.int .u8 1), .lit (.int .u8 56), .lit (.int .u8 2), .lit (.int .u8 57), .lit (.int .u8 49), .lit (.int .u8 28), .lit (.int .u8 3), .lit (.int .u8 61), .lit (.int .u8 58), .lit (.int .u8 42), .lit (.int .u8 50), .lit (.int .u8 38), .lit (.int .u8 29), .lit (.int .u8 17), .lit (.int .u8 4), .lit (.int .u8 62), .lit (.int .u8 47), .lit (.int .u8 59), .lit (.int .u8 36), .lit (.int .u8 45), .lit (.int .u8 43), .lit (.int .u8 51), .lit (.int .u8 22), .lit (.int .u8 53), .lit (.int .u8 39), .lit (.int .u8 33), .lit (.int .u8 30), .lit (.int .u8 24), .lit (.int .u8 18), .lit (.int .u8 12), .lit (.int .u8 5), .lit (.int .u8 63), .lit (.int .u8 55), .lit (.int .u8 48), .lit (.int .u8 27), .lit (.int .u8 60), .lit (.int .u8 41), .lit (.int .u8 37), .lit (.int .u8 16), .lit (.int .u8 46), .lit (.int .u8 35), .lit (.int .u8 44), .lit (.int .u8 21), .lit (.int .u8 52), .lit (.int .u8 32), .lit (.int .u8 23), .lit (.int .u8 11), .lit (.int .u8 54), .lit (.int .u8 26), .lit (.int .u8 40), .lit (.int .u8 15), .lit (.int .u8 34), .lit (.int .u8 20), .lit (.int .u8 31), .lit (.int .u8 10), .lit (.int .u8 25), .lit (.int .u8 14), .lit (.int .u8 19), .lit (.int .u8 9), .lit (.int .u8 13), .lit (.int .u8 8), .lit (.int .u8 7), .lit (.int .u8 6)]

/-- 'vinculumlaw04.PrimeTells': WHATEVER THE INPUT: true; the input reads as it did. -/
def primeTellsSpec : ChangeSpec := { name := "primeTells", fn := fun _ => fun
  | [d] => { results := [.lit (.bool true)], args := [d] }
  | _ => none }
def primeTellsRow : OpenClaim := { program := "ytnlklfhgdefbaaadoor", sum := "e1dfe8111ce67f4ed473dcf980d999215deeb49025415c72698a475b1d141fc9", func := "vinculum/vinculumlaw04.PrimeTells", spec := "primeTells", named := ["math/bits.deBruijn64tab", "math/bits.divideError", "math/bits.overflowError"], apart := false, laid := [("math/bits.deBruijn64tab", laid_math_bits_deBruijn64tab)] }
def PrimeTellsSaid : Prop := primeTellsRow.holds Tryd.pinned (OpenSpec.ofChange primeTellsSpec)

/-- ITS FALSE NEIGHBOUR: 'it returns false'. Refute it at one input. -/
def primeTellsWrong : ChangeSpec := { name := "primeTells", fn := fun _ => fun
  | [d] => { results := [.lit (.bool false)], args := [d] }
  | _ => none }
def PrimeTellsWrongFalsely : Prop := primeTellsRow.holds Tryd.pinned (OpenSpec.ofChange primeTellsWrong)

/-- 'vinculumlaw04.PrimeTimes': WHATEVER THE INPUT: true; the input reads as it did. -/
def primeTimesSpec : ChangeSpec := { name := "primeTimes", fn := fun _ => fun
  | [d1, d2] => { results := [.lit (.bool true)], args := [d1, d2] }
  | _ => none }
def primeTimesRow : OpenClaim := { program := "ytnlklfhgdefbaaadoor", sum := "e1dfe8111ce67f4ed473dcf980d999215deeb49025415c72698a475b1d141fc9", func := "vinculum/vinculumlaw04.PrimeTimes", spec := "primeTimes", named := ["math/bits.deBruijn64tab", "math/bits.divideError", "math/bits.overflowError"], apart := false, laid := [("math/bits.deBruijn64tab", laid_math_bits_deBruijn64tab)] }
def PrimeTimesSaid : Prop := primeTimesRow.holds Tryd.pinned (OpenSpec.ofChange primeTimesSpec)

/-- ITS FALSE NEIGHBOUR: 'it returns false'. Refute it at one input. -/
def primeTimesWrong : ChangeSpec := { name := "primeTimes", fn := fun _ => fun
  | [d1, d2] => { results := [.lit (.bool false)], args := [d1, d2] }
  | _ => none }
def PrimeTimesWrongFalsely : Prop := primeTimesRow.holds Tryd.pinned (OpenSpec.ofChange primeTimesWrong)

/-- 'vinculumlaw04.PrimeProth': WHATEVER THE INPUT: true; the input reads as it did. -/
def primeProthSpec : ChangeSpec := { name := "primeProth", fn := fun _ => fun
  | [d1, d2, d3] => { results := [.lit (.bool true)], args := [d1, d2, d3] }
  | _ => none }
def primeProthRow : OpenClaim := { program := "ytnlklfhgdefbaaadoor", sum := "e1dfe8111ce67f4ed473dcf980d999215deeb49025415c72698a475b1d141fc9", func := "vinculum/vinculumlaw04.PrimeProth", spec := "primeProth", named := ["math/bits.deBruijn64tab", "math/bits.divideError", "math/bits.overflowError"], apart := false, laid := [("math/bits.deBruijn64tab", laid_math_bits_deBruijn64tab)] }
def PrimeProthSaid : Prop := primeProthRow.holds Tryd.pinned (OpenSpec.ofChange primeProthSpec)

/-- ITS FALSE NEIGHBOUR: 'it returns false'. Refute it at one input. -/
def primeProthWrong : ChangeSpec := { name := "primeProth", fn := fun _ => fun
  | [d1, d2, d3] => { results := [.lit (.bool false)], args := [d1, d2, d3] }
  | _ => none }
def PrimeProthWrongFalsely : Prop := primeProthRow.holds Tryd.pinned (OpenSpec.ofChange primeProthWrong)

/-- 'vinculumlaw04.PrimeFermat': WHATEVER THE INPUT: true; the input reads as it did. -/
def primeFermatSpec : ChangeSpec := { name := "primeFermat", fn := fun _ => fun
  | [d1, d2] => { results := [.lit (.bool true)], args := [d1, d2] }
  | _ => none }
def primeFermatRow : OpenClaim := { program := "ytnlklfhgdefbaaadoor", sum := "e1dfe8111ce67f4ed473dcf980d999215deeb49025415c72698a475b1d141fc9", func := "vinculum/vinculumlaw04.PrimeFermat", spec := "primeFermat", named := ["math/bits.deBruijn64tab", "math/bits.divideError", "math/bits.overflowError"], apart := false, laid := [("math/bits.deBruijn64tab", laid_math_bits_deBruijn64tab)] }
def PrimeFermatSaid : Prop := primeFermatRow.holds Tryd.pinned (OpenSpec.ofChange primeFermatSpec)

/-- ITS FALSE NEIGHBOUR: 'it returns false'. Refute it at one input. -/
def primeFermatWrong : ChangeSpec := { name := "primeFermat", fn := fun _ => fun
  | [d1, d2] => { results := [.lit (.bool false)], args := [d1, d2] }
  | _ => none }
def PrimeFermatWrongFalsely : Prop := primeFermatRow.holds Tryd.pinned (OpenSpec.ofChange primeFermatWrong)

/-- 'vinculumlaw04.PrimeNext': WHATEVER THE INPUT: true; the input reads as it did. -/
def primeNextSpec : ChangeSpec := { name := "primeNext", fn := fun _ => fun
  | [d] => { results := [.lit (.bool true)], args := [d] }
  | _ => none }
def primeNextRow : OpenClaim := { program := "ytnlklfhgdefbaaadoor", sum := "e1dfe8111ce67f4ed473dcf980d999215deeb49025415c72698a475b1d141fc9", func := "vinculum/vinculumlaw04.PrimeNext", spec := "primeNext", named := ["math/bits.deBruijn64tab", "math/bits.divideError", "math/bits.overflowError"], apart := false, laid := [("math/bits.deBruijn64tab", laid_math_bits_deBruijn64tab)] }
def PrimeNextSaid : Prop := primeNextRow.holds Tryd.pinned (OpenSpec.ofChange primeNextSpec)

/-- ITS FALSE NEIGHBOUR: 'it returns false'. Refute it at one input. -/
def primeNextWrong : ChangeSpec := { name := "primeNext", fn := fun _ => fun
  | [d] => { results := [.lit (.bool false)], args := [d] }
  | _ => none }
def PrimeNextWrongFalsely : Prop := primeNextRow.holds Tryd.pinned (OpenSpec.ofChange primeNextWrong)

/-- 'vinculumlaw04.PrimeScans': WHATEVER THE INPUT: true; the input reads as it did. -/
def primeScansSpec : ChangeSpec := { name := "primeScans", fn := fun _ => fun
  | [d1, d2, d3] => { results := [.lit (.bool true)], args := [d1, d2, d3] }
  | _ => none }
def primeScansRow : OpenClaim := { program := "ytnlklfhgdefbaaadoor", sum := "e1dfe8111ce67f4ed473dcf980d999215deeb49025415c72698a475b1d141fc9", func := "vinculum/vinculumlaw04.PrimeScans", spec := "primeScans", named := ["math/bits.deBruijn64tab", "math/bits.divideError", "math/bits.overflowError"], apart := false, laid := [("math/bits.deBruijn64tab", laid_math_bits_deBruijn64tab)] }
def PrimeScansSaid : Prop := primeScansRow.holds Tryd.pinned (OpenSpec.ofChange primeScansSpec)

/-- ITS FALSE NEIGHBOUR: 'it returns false'. Refute it at one input. -/
def primeScansWrong : ChangeSpec := { name := "primeScans", fn := fun _ => fun
  | [d1, d2, d3] => { results := [.lit (.bool false)], args := [d1, d2, d3] }
  | _ => none }
def PrimeScansWrongFalsely : Prop := primeScansRow.holds Tryd.pinned (OpenSpec.ofChange primeScansWrong)

/-- 'vinculumlaw04.PrimeGreat': WHATEVER THE INPUT: true; the input reads as it did. -/
def primeGreatSpec : ChangeSpec := { name := "primeGreat", fn := fun _ => fun
  | [d1, d2, d3] => { results := [.lit (.bool true)], args := [d1, d2, d3] }
  | _ => none }
def primeGreatRow : OpenClaim := { program := "ytnlklfhgdefbaaadoor", sum := "e1dfe8111ce67f4ed473dcf980d999215deeb49025415c72698a475b1d141fc9", func := "vinculum/vinculumlaw04.PrimeGreat", spec := "primeGreat", named := ["math/bits.deBruijn64tab", "math/bits.divideError", "math/bits.overflowError"], apart := false, laid := [("math/bits.deBruijn64tab", laid_math_bits_deBruijn64tab)] }
def PrimeGreatSaid : Prop := primeGreatRow.holds Tryd.pinned (OpenSpec.ofChange primeGreatSpec)

/-- ITS FALSE NEIGHBOUR: 'it returns false'. Refute it at one input. -/
def primeGreatWrong : ChangeSpec := { name := "primeGreat", fn := fun _ => fun
  | [d1, d2, d3] => { results := [.lit (.bool false)], args := [d1, d2, d3] }
  | _ => none }
def PrimeGreatWrongFalsely : Prop := primeGreatRow.holds Tryd.pinned (OpenSpec.ofChange primeGreatWrong)

/-- 'vinculumlaw04.PrimeRoots': WHATEVER THE INPUT: true; the input reads as it did. -/
def primeRootsSpec : ChangeSpec := { name := "primeRoots", fn := fun _ => fun
  | [d1, d2, d3] => { results := [.lit (.bool true)], args := [d1, d2, d3] }
  | _ => none }
def primeRootsRow : OpenClaim := { program := "ytnlklfhgdefbaaadoor", sum := "e1dfe8111ce67f4ed473dcf980d999215deeb49025415c72698a475b1d141fc9", func := "vinculum/vinculumlaw04.PrimeRoots", spec := "primeRoots", named := ["math/bits.deBruijn64tab", "math/bits.divideError", "math/bits.overflowError"], apart := false, laid := [("math/bits.deBruijn64tab", laid_math_bits_deBruijn64tab)] }
def PrimeRootsSaid : Prop := primeRootsRow.holds Tryd.pinned (OpenSpec.ofChange primeRootsSpec)

/-- ITS FALSE NEIGHBOUR: 'it returns false'. Refute it at one input. -/
def primeRootsWrong : ChangeSpec := { name := "primeRoots", fn := fun _ => fun
  | [d1, d2, d3] => { results := [.lit (.bool false)], args := [d1, d2, d3] }
  | _ => none }
def PrimeRootsWrongFalsely : Prop := primeRootsRow.holds Tryd.pinned (OpenSpec.ofChange primeRootsWrong)

/-- 'vinculumlaw04.PrimeOrders': WHATEVER THE INPUT: true; the input reads as it did. -/
def primeOrdersSpec : ChangeSpec := { name := "primeOrders", fn := fun _ => fun
  | [d1, d2, d3] => { results := [.lit (.bool true)], args := [d1, d2, d3] }
  | _ => none }
def primeOrdersRow : OpenClaim := { program := "ytnlklfhgdefbaaadoor", sum := "e1dfe8111ce67f4ed473dcf980d999215deeb49025415c72698a475b1d141fc9", func := "vinculum/vinculumlaw04.PrimeOrders", spec := "primeOrders", named := ["math/bits.deBruijn64tab", "math/bits.divideError", "math/bits.overflowError"], apart := false, laid := [("math/bits.deBruijn64tab", laid_math_bits_deBruijn64tab)] }
def PrimeOrdersSaid : Prop := primeOrdersRow.holds Tryd.pinned (OpenSpec.ofChange primeOrdersSpec)

/-- ITS FALSE NEIGHBOUR: 'it returns false'. Refute it at one input. -/
def primeOrdersWrong : ChangeSpec := { name := "primeOrders", fn := fun _ => fun
  | [d1, d2, d3] => { results := [.lit (.bool false)], args := [d1, d2, d3] }
  | _ => none }
def PrimeOrdersWrongFalsely : Prop := primeOrdersRow.holds Tryd.pinned (OpenSpec.ofChange primeOrdersWrong)

/- THE SECOND FORM. 'bulk': how many values and letters a reading holds, each counted each time it is reached (what is shared counts as often as it is met; a slice's spare places count too). A statement '..UptoSaid' is the law's where the arguments, and the package variables that the reading takes, are together of bulk at most 1048576: NARROWER than '..Said'. Prove '..Said' where nothing that the law and all that it calls make is longer than what came in: it says more and counts as full. Else prove '..UptoSaid'. A law counts once. -/
mutual
def uptoBulk {H : Type} : DataW H → Nat
  | .lit (.string bytes) => bytes.length + 1
  | .lit _ => 1
  | .nil => 1
  | .ptr d => uptoBulk d + 1
  | .slice elems spare => uptoBulkAll elems + uptoBulkAll spare + 1
  | .agg parts => uptoBulkAll parts + 1
  | .iface _ d => uptoBulk d + 1
  | .map entries => uptoBulkEntries entries + 1
  | .held _ => 1
def uptoBulkAll {H : Type} : List (DataW H) → Nat
  | [] => 0
  | d :: r => uptoBulk d + uptoBulkAll r
def uptoBulkEntries {H : Type} : List (Lit × DataW H) → Nat
  | [] => 0
  | x :: r => uptoBulkEntry x + uptoBulkEntries r
def uptoBulkEntry {H : Type} : Lit × DataW H → Nat
  | (.string bytes, d) => bytes.length + uptoBulk d + 1
  | (_, d) => uptoBulk d + 1
 end
def uptoSmall : (H : Type) → List (DataW H) → Bool := fun _ ds => decide (uptoBulkAll ds ≤ 1048576)
def OpenSpec.upto (s : _root_.Go.ChangeSpec) : _root_.Go.OpenSpec := { _root_.Go.OpenSpec.ofChange s with cond := some uptoSmall }

/-- 'vinculumlaw04.PrimeTells', WHERE WHAT IT READS IS OF BULK AT MOST 1048576: true; the input reads as it did. -/
def primeTellsUptoRow : OpenClaim := { program := "ytnlklfhgdefbaaadoor", sum := "e1dfe8111ce67f4ed473dcf980d999215deeb49025415c72698a475b1d141fc9", func := "vinculum/vinculumlaw04.PrimeTells", spec := "primeTells", named := ["math/bits.deBruijn64tab", "math/bits.divideError", "math/bits.overflowError"], apart := false, laid := [("math/bits.deBruijn64tab", laid_math_bits_deBruijn64tab)], narrowed := true }
def PrimeTellsUptoSaid : Prop := primeTellsUptoRow.holds Tryd.pinned (OpenSpec.upto primeTellsSpec)

/-- 'vinculumlaw04.PrimeTimes', WHERE WHAT IT READS IS OF BULK AT MOST 1048576: true; the input reads as it did. -/
def primeTimesUptoRow : OpenClaim := { program := "ytnlklfhgdefbaaadoor", sum := "e1dfe8111ce67f4ed473dcf980d999215deeb49025415c72698a475b1d141fc9", func := "vinculum/vinculumlaw04.PrimeTimes", spec := "primeTimes", named := ["math/bits.deBruijn64tab", "math/bits.divideError", "math/bits.overflowError"], apart := false, laid := [("math/bits.deBruijn64tab", laid_math_bits_deBruijn64tab)], narrowed := true }
def PrimeTimesUptoSaid : Prop := primeTimesUptoRow.holds Tryd.pinned (OpenSpec.upto primeTimesSpec)

/-- 'vinculumlaw04.PrimeProth', WHERE WHAT IT READS IS OF BULK AT MOST 1048576: true; the input reads as it did. -/
def primeProthUptoRow : OpenClaim := { program := "ytnlklfhgdefbaaadoor", sum := "e1dfe8111ce67f4ed473dcf980d999215deeb49025415c72698a475b1d141fc9", func := "vinculum/vinculumlaw04.PrimeProth", spec := "primeProth", named := ["math/bits.deBruijn64tab", "math/bits.divideError", "math/bits.overflowError"], apart := false, laid := [("math/bits.deBruijn64tab", laid_math_bits_deBruijn64tab)], narrowed := true }
def PrimeProthUptoSaid : Prop := primeProthUptoRow.holds Tryd.pinned (OpenSpec.upto primeProthSpec)

/-- 'vinculumlaw04.PrimeFermat', WHERE WHAT IT READS IS OF BULK AT MOST 1048576: true; the input reads as it did. -/
def primeFermatUptoRow : OpenClaim := { program := "ytnlklfhgdefbaaadoor", sum := "e1dfe8111ce67f4ed473dcf980d999215deeb49025415c72698a475b1d141fc9", func := "vinculum/vinculumlaw04.PrimeFermat", spec := "primeFermat", named := ["math/bits.deBruijn64tab", "math/bits.divideError", "math/bits.overflowError"], apart := false, laid := [("math/bits.deBruijn64tab", laid_math_bits_deBruijn64tab)], narrowed := true }
def PrimeFermatUptoSaid : Prop := primeFermatUptoRow.holds Tryd.pinned (OpenSpec.upto primeFermatSpec)

/-- 'vinculumlaw04.PrimeNext', WHERE WHAT IT READS IS OF BULK AT MOST 1048576: true; the input reads as it did. -/
def primeNextUptoRow : OpenClaim := { program := "ytnlklfhgdefbaaadoor", sum := "e1dfe8111ce67f4ed473dcf980d999215deeb49025415c72698a475b1d141fc9", func := "vinculum/vinculumlaw04.PrimeNext", spec := "primeNext", named := ["math/bits.deBruijn64tab", "math/bits.divideError", "math/bits.overflowError"], apart := false, laid := [("math/bits.deBruijn64tab", laid_math_bits_deBruijn64tab)], narrowed := true }
def PrimeNextUptoSaid : Prop := primeNextUptoRow.holds Tryd.pinned (OpenSpec.upto primeNextSpec)

/-- 'vinculumlaw04.PrimeScans', WHERE WHAT IT READS IS OF BULK AT MOST 1048576: true; the input reads as it did. -/
def primeScansUptoRow : OpenClaim := { program := "ytnlklfhgdefbaaadoor", sum := "e1dfe8111ce67f4ed473dcf980d999215deeb49025415c72698a475b1d141fc9", func := "vinculum/vinculumlaw04.PrimeScans", spec := "primeScans", named := ["math/bits.deBruijn64tab", "math/bits.divideError", "math/bits.overflowError"], apart := false, laid := [("math/bits.deBruijn64tab", laid_math_bits_deBruijn64tab)], narrowed := true }
def PrimeScansUptoSaid : Prop := primeScansUptoRow.holds Tryd.pinned (OpenSpec.upto primeScansSpec)

/-- 'vinculumlaw04.PrimeGreat', WHERE WHAT IT READS IS OF BULK AT MOST 1048576: true; the input reads as it did. -/
def primeGreatUptoRow : OpenClaim := { program := "ytnlklfhgdefbaaadoor", sum := "e1dfe8111ce67f4ed473dcf980d999215deeb49025415c72698a475b1d141fc9", func := "vinculum/vinculumlaw04.PrimeGreat", spec := "primeGreat", named := ["math/bits.deBruijn64tab", "math/bits.divideError", "math/bits.overflowError"], apart := false, laid := [("math/bits.deBruijn64tab", laid_math_bits_deBruijn64tab)], narrowed := true }
def PrimeGreatUptoSaid : Prop := primeGreatUptoRow.holds Tryd.pinned (OpenSpec.upto primeGreatSpec)

/-- 'vinculumlaw04.PrimeRoots', WHERE WHAT IT READS IS OF BULK AT MOST 1048576: true; the input reads as it did. -/
def primeRootsUptoRow : OpenClaim := { program := "ytnlklfhgdefbaaadoor", sum := "e1dfe8111ce67f4ed473dcf980d999215deeb49025415c72698a475b1d141fc9", func := "vinculum/vinculumlaw04.PrimeRoots", spec := "primeRoots", named := ["math/bits.deBruijn64tab", "math/bits.divideError", "math/bits.overflowError"], apart := false, laid := [("math/bits.deBruijn64tab", laid_math_bits_deBruijn64tab)], narrowed := true }
def PrimeRootsUptoSaid : Prop := primeRootsUptoRow.holds Tryd.pinned (OpenSpec.upto primeRootsSpec)

/-- 'vinculumlaw04.PrimeOrders', WHERE WHAT IT READS IS OF BULK AT MOST 1048576: true; the input reads as it did. -/
def primeOrdersUptoRow : OpenClaim := { program := "ytnlklfhgdefbaaadoor", sum := "e1dfe8111ce67f4ed473dcf980d999215deeb49025415c72698a475b1d141fc9", func := "vinculum/vinculumlaw04.PrimeOrders", spec := "primeOrders", named := ["math/bits.deBruijn64tab", "math/bits.divideError", "math/bits.overflowError"], apart := false, laid := [("math/bits.deBruijn64tab", laid_math_bits_deBruijn64tab)], narrowed := true }
def PrimeOrdersUptoSaid : Prop := primeOrdersUptoRow.holds Tryd.pinned (OpenSpec.upto primeOrdersSpec)

end Rows
end Go.Proofs.YtnlklfhgdefbaaaDoor

/-
  NARROWER THAN 'FOR EVERY INPUT', by the rows' own cells (each row's printed sentence says how): NttValues: laid · NttBack: laid · NttLinear: laid · NttMakes: laid · NttRounds: laid · NttNil: laid.
  DERIVED. THE GIVEN ROWS OF THIS SEAT. 6 by the template 'for every input the law returns true; each argument reads behind the call as it read before'; 0 by the template 'total and deterministic' (their statements: YtgaedjdmbpkejaaDoorTotals.lean).
  GIVEN WITH THE SEED: the statements are not yours to turn. If you find one false, say at which input.
  Laid BY PROGRAM, IN A SANDBOX (cutbox-rows.mjs): the forced cells as the released guide's own fill.sh prints them over the translation 295ce15987473e81… (all of the seat's roots in one cut). By AI agents, Wed Nov 11 2026. No macro, syntax, notation, axiom, sorry.
-/
import Derived.Test.YtgaedjdmbpkejaaDoorChecked
import GoSem.Claim
import GoSem.ClaimJoined
import GoSem.ClaimMapViews
import Derived.JoinedTies
import Derived.KernelRfl
namespace Go.Proofs.YtgaedjdmbpkejaaDoor
/- THE CELL 'sum', in the pinned program and in every row, IS THE sha256 OF THE DUMP (.gsa) THAT YtgaedjdmbpkejaaDoorProg.lean LOADS. Nothing in Lean hashes anything: it is a label: what it is worth is what the hold of that sum in a sandbox is worth. -/
noncomputable def Tryd.pinned : Pinned := { name := "ytgaedjdmbpkejaadoor", sum := "295ce15987473e814a24cdc1a859b0ea3d3957a902d32df3b01c50c5586ca3fe", checked := Tryd.checked }
namespace Rows
def none {H : Type} : Left H := { results := [], args := [] }

/- WHAT THE LISTED PACKAGE-LEVEL VARIABLES READ AS WHEN THE CALL BEGINS. Each datum BY PROGRAM (the guide's laid-datum.mjs) off the statement by which the dump's own 'gosem.cut.vars' lays the variable. In a bare row this is a premise. The card (YtgaedjdmbpkejaaDoorCards.lean) ties it to the program's text. -/
def laid_math_bits_deBruijn64tab {H : Type} : DataW H := .agg [.lit (.int .u8 0), .lit (.int .u8 1), .lit (.int .u8 56), .lit (.int .u8 2), .lit (.int .u8 57), .lit (.int .u8 49), .lit (.int .u8 28), .lit (.int .u8 3), .lit (.int .u8 61), .lit (.int .u8 58), .lit (.int .u8 42), .lit (.int .u8 50), .lit (.int .u8 38), .lit (.int .u8 29), .lit (.int .u8 17), .lit (.int .u8 4), .lit (.int .u8 62), .lit (.int .u8 47), .lit (.int .u8 59), .lit (.int .u8 36), .lit (.int .u8 45), .lit (.int .u8 43), .lit (.int .u8 51), .lit (.int .u8 22), .lit (.int .u8 53), .lit (.int .u8 39), .lit (.int .u8 33), .lit (.int .u8 30), .lit (.int .u8 24), .lit (.int .u8 18), .lit (.int .u8 12), .lit (.int .u8 5), .lit (.int .u8 63), .lit (.int .u8 55), .lit (.int .u8 48), .lit (.int .u8 27), .lit (.int .u8 60), .lit (.int .u8 41), .lit (.int .u8 37), .lit (.int .u8 16), .lit (.int .u8 46), .lit (.int .u8 35), .lit (.int .u8 44), .lit (.int .u8 21), .lit (.int .u8 52), .lit (.int .u8 32), .lit (.int .u8 23), .lit (.int .u8 11), .lit (.int .u8 54), .lit (.int .u8 26), .lit (.int .u8 40), .lit (.int .u8 15), .lit (.int .u8 34), .lit (.int .u8 20), .lit (.int .u8 31), .lit (.int .u8 10), .lit (.int .u8 25), .lit (.int .u8 14), .lit (.int .u8 19), .lit (.int .u8 9), .lit (.int .u8 13), .lit (.int .u8 8), .lit (.int .u8 7), .lit (.int .u8 6)]

/-- 'vinculumlaw06.NttValues': WHATEVER THE INPUT: true; the input reads as it did. -/
def nttValuesSpec : ChangeSpec := { name := "nttValues", fn := fun _ => fun
  | [d1, d2, d3] => { results := [.lit (.bool true)], args := [d1, d2, d3] }
  | _ => none }
def nttValuesRow : OpenClaim := { program := "ytgaedjdmbpkejaadoor", sum := "295ce15987473e814a24cdc1a859b0ea3d3957a902d32df3b01c50c5586ca3fe", func := "vinculum/vinculumlaw06.NttValues", spec := "nttValues", unfollowed := true, recurses := true, named := ["math/bits.deBruijn64tab", "math/bits.divideError", "math/bits.overflowError"], apart := false, laid := [("math/bits.deBruijn64tab", laid_math_bits_deBruijn64tab)] }
def NttValuesSaid : Prop := nttValuesRow.holds Tryd.pinned (OpenSpec.ofChange nttValuesSpec)

/-- ITS FALSE NEIGHBOUR: 'it returns false'. Refute it at one input. -/
def nttValuesWrong : ChangeSpec := { name := "nttValues", fn := fun _ => fun
  | [d1, d2, d3] => { results := [.lit (.bool false)], args := [d1, d2, d3] }
  | _ => none }
def NttValuesWrongFalsely : Prop := nttValuesRow.holds Tryd.pinned (OpenSpec.ofChange nttValuesWrong)

/-- 'vinculumlaw06.NttBack': WHATEVER THE INPUT: true; the input reads as it did. -/
def nttBackSpec : ChangeSpec := { name := "nttBack", fn := fun _ => fun
  | [d1, d2, d3] => { results := [.lit (.bool true)], args := [d1, d2, d3] }
  | _ => none }
def nttBackRow : OpenClaim := { program := "ytgaedjdmbpkejaadoor", sum := "295ce15987473e814a24cdc1a859b0ea3d3957a902d32df3b01c50c5586ca3fe", func := "vinculum/vinculumlaw06.NttBack", spec := "nttBack", unfollowed := true, recurses := true, named := ["math/bits.deBruijn64tab", "math/bits.divideError", "math/bits.overflowError"], apart := false, laid := [("math/bits.deBruijn64tab", laid_math_bits_deBruijn64tab)] }
def NttBackSaid : Prop := nttBackRow.holds Tryd.pinned (OpenSpec.ofChange nttBackSpec)

/-- ITS FALSE NEIGHBOUR: 'it returns false'. Refute it at one input. -/
def nttBackWrong : ChangeSpec := { name := "nttBack", fn := fun _ => fun
  | [d1, d2, d3] => { results := [.lit (.bool false)], args := [d1, d2, d3] }
  | _ => none }
def NttBackWrongFalsely : Prop := nttBackRow.holds Tryd.pinned (OpenSpec.ofChange nttBackWrong)

/-- 'vinculumlaw06.NttLinear': WHATEVER THE INPUT: true; the input reads as it did. -/
def nttLinearSpec : ChangeSpec := { name := "nttLinear", fn := fun _ => fun
  | [d1, d2, d3] => { results := [.lit (.bool true)], args := [d1, d2, d3] }
  | _ => none }
def nttLinearRow : OpenClaim := { program := "ytgaedjdmbpkejaadoor", sum := "295ce15987473e814a24cdc1a859b0ea3d3957a902d32df3b01c50c5586ca3fe", func := "vinculum/vinculumlaw06.NttLinear", spec := "nttLinear", unfollowed := true, recurses := true, named := ["math/bits.deBruijn64tab", "math/bits.divideError", "math/bits.overflowError"], apart := false, laid := [("math/bits.deBruijn64tab", laid_math_bits_deBruijn64tab)] }
def NttLinearSaid : Prop := nttLinearRow.holds Tryd.pinned (OpenSpec.ofChange nttLinearSpec)

/-- ITS FALSE NEIGHBOUR: 'it returns false'. Refute it at one input. -/
def nttLinearWrong : ChangeSpec := { name := "nttLinear", fn := fun _ => fun
  | [d1, d2, d3] => { results := [.lit (.bool false)], args := [d1, d2, d3] }
  | _ => none }
def NttLinearWrongFalsely : Prop := nttLinearRow.holds Tryd.pinned (OpenSpec.ofChange nttLinearWrong)

/-- 'vinculumlaw06.NttMakes': WHATEVER THE INPUT: true; the input reads as it did. -/
def nttMakesSpec : ChangeSpec := { name := "nttMakes", fn := fun _ => fun
  | [d1, d2] => { results := [.lit (.bool true)], args := [d1, d2] }
  | _ => none }
def nttMakesRow : OpenClaim := { program := "ytgaedjdmbpkejaadoor", sum := "295ce15987473e814a24cdc1a859b0ea3d3957a902d32df3b01c50c5586ca3fe", func := "vinculum/vinculumlaw06.NttMakes", spec := "nttMakes", unfollowed := true, recurses := true, named := ["math/bits.deBruijn64tab", "math/bits.divideError", "math/bits.overflowError"], apart := false, laid := [("math/bits.deBruijn64tab", laid_math_bits_deBruijn64tab)] }
def NttMakesSaid : Prop := nttMakesRow.holds Tryd.pinned (OpenSpec.ofChange nttMakesSpec)

/-- ITS FALSE NEIGHBOUR: 'it returns false'. Refute it at one input. -/
def nttMakesWrong : ChangeSpec := { name := "nttMakes", fn := fun _ => fun
  | [d1, d2] => { results := [.lit (.bool false)], args := [d1, d2] }
  | _ => none }
def NttMakesWrongFalsely : Prop := nttMakesRow.holds Tryd.pinned (OpenSpec.ofChange nttMakesWrong)

/-- 'vinculumlaw06.NttRounds': WHATEVER THE INPUT: true; the input reads as it did. -/
def nttRoundsSpec : ChangeSpec := { name := "nttRounds", fn := fun _ => fun
  | [d1, d2, d3] => { results := [.lit (.bool true)], args := [d1, d2, d3] }
  | _ => none }
def nttRoundsRow : OpenClaim := { program := "ytgaedjdmbpkejaadoor", sum := "295ce15987473e814a24cdc1a859b0ea3d3957a902d32df3b01c50c5586ca3fe", func := "vinculum/vinculumlaw06.NttRounds", spec := "nttRounds", unfollowed := true, recurses := true, named := ["math/bits.deBruijn64tab", "math/bits.divideError", "math/bits.overflowError"], apart := false, laid := [("math/bits.deBruijn64tab", laid_math_bits_deBruijn64tab)] }
def NttRoundsSaid : Prop := nttRoundsRow.holds Tryd.pinned (OpenSpec.ofChange nttRoundsSpec)

/-- ITS FALSE NEIGHBOUR: 'it returns false'. Refute it at one input. -/
def nttRoundsWrong : ChangeSpec := { name := "nttRounds", fn := fun _ => fun
  | [d1, d2, d3] => { results := [.lit (.bool false)], args := [d1, d2, d3] }
  | _ => none }
def NttRoundsWrongFalsely : Prop := nttRoundsRow.holds Tryd.pinned (OpenSpec.ofChange nttRoundsWrong)

/-- 'vinculumlaw06.NttNil': WHATEVER THE INPUT: true; the input reads as it did. -/
def nttNilSpec : ChangeSpec := { name := "nttNil", fn := fun _ => fun
  | [d] => { results := [.lit (.bool true)], args := [d] }
  | _ => none }
def nttNilRow : OpenClaim := { program := "ytgaedjdmbpkejaadoor", sum := "295ce15987473e814a24cdc1a859b0ea3d3957a902d32df3b01c50c5586ca3fe", func := "vinculum/vinculumlaw06.NttNil", spec := "nttNil", unfollowed := true, recurses := true, named := ["math/bits.deBruijn64tab", "math/bits.divideError", "math/bits.overflowError"], apart := false, laid := [("math/bits.deBruijn64tab", laid_math_bits_deBruijn64tab)] }
def NttNilSaid : Prop := nttNilRow.holds Tryd.pinned (OpenSpec.ofChange nttNilSpec)

/-- ITS FALSE NEIGHBOUR: 'it returns false'. Refute it at one input. -/
def nttNilWrong : ChangeSpec := { name := "nttNil", fn := fun _ => fun
  | [d] => { results := [.lit (.bool false)], args := [d] }
  | _ => none }
def NttNilWrongFalsely : Prop := nttNilRow.holds Tryd.pinned (OpenSpec.ofChange nttNilWrong)

/- THE SECOND FORM. 'bulk': how many values and letters a reading holds, each counted each time it is reached (what is shared counts as often as it is met; a slice's spare places count too). A statement '..UptoSaid' is the law's where the arguments, and the package variables that the reading takes, are together of bulk at most 1048576: NARROWER than '..Said'. Prove '..Said' where nothing that the law and all that it calls make is longer than what came in: it says more and counts as full. Else prove '..UptoSaid'. A law counts once. -/
mutual
def uptoBulk {H : Type} : DataW H → Nat
  | .lit (.string bytes) => bytes.length + 1
  | .lit _ => 1
  | .nil => 1
  | .ptr d => uptoBulk d + 1
  | .slice elems spare => uptoBulkAll elems + uptoBulkAll spare + 1
  | .agg parts => uptoBulkAll parts + 1
  | .iface _ d => uptoBulk d + 1
  | .map entries => uptoBulkEntries entries + 1
  | .held _ => 1
def uptoBulkAll {H : Type} : List (DataW H) → Nat
  | [] => 0
  | d :: r => uptoBulk d + uptoBulkAll r
def uptoBulkEntries {H : Type} : List (Lit × DataW H) → Nat
  | [] => 0
  | x :: r => uptoBulkEntry x + uptoBulkEntries r
def uptoBulkEntry {H : Type} : Lit × DataW H → Nat
  | (.string bytes, d) => bytes.length + uptoBulk d + 1
  | (_, d) => uptoBulk d + 1
 end
def uptoSmall : (H : Type) → List (DataW H) → Bool := fun _ ds => decide (uptoBulkAll ds ≤ 1048576)
def OpenSpec.upto (s : _root_.Go.ChangeSpec) : _root_.Go.OpenSpec := { _root_.Go.OpenSpec.ofChange s with cond := some uptoSmall }

/-- 'vinculumlaw06.NttValues', WHERE WHAT IT READS IS OF BULK AT MOST 1048576: true; the input reads as it did. -/
def nttValuesUptoRow : OpenClaim := { program := "ytgaedjdmbpkejaadoor", sum := "295ce15987473e814a24cdc1a859b0ea3d3957a902d32df3b01c50c5586ca3fe", func := "vinculum/vinculumlaw06.NttValues", spec := "nttValues", unfollowed := true, recurses := true, named := ["math/bits.deBruijn64tab", "math/bits.divideError", "math/bits.overflowError"], apart := false, laid := [("math/bits.deBruijn64tab", laid_math_bits_deBruijn64tab)], narrowed := true }
def NttValuesUptoSaid : Prop := nttValuesUptoRow.holds Tryd.pinned (OpenSpec.upto nttValuesSpec)

/-- 'vinculumlaw06.NttBack', WHERE WHAT IT READS IS OF BULK AT MOST 1048576: true; the input reads as it did. -/
def nttBackUptoRow : OpenClaim := { program := "ytgaedjdmbpkejaadoor", sum := "295ce15987473e814a24cdc1a859b0ea3d3957a902d32df3b01c50c5586ca3fe", func := "vinculum/vinculumlaw06.NttBack", spec := "nttBack", unfollowed := true, recurses := true, named := ["math/bits.deBruijn64tab", "math/bits.divideError", "math/bits.overflowError"], apart := false, laid := [("math/bits.deBruijn64tab", laid_math_bits_deBruijn64tab)], narrowed := true }
def NttBackUptoSaid : Prop := nttBackUptoRow.holds Tryd.pinned (OpenSpec.upto nttBackSpec)

/-- 'vinculumlaw06.NttLinear', WHERE WHAT IT READS IS OF BULK AT MOST 1048576: true; the input reads as it did. -/
def nttLinearUptoRow : OpenClaim := { program := "ytgaedjdmbpkejaadoor", sum := "295ce15987473e814a24cdc1a859b0ea3d3957a902d32df3b01c50c5586ca3fe", func := "vinculum/vinculumlaw06.NttLinear", spec := "nttLinear", unfollowed := true, recurses := true, named := ["math/bits.deBruijn64tab", "math/bits.divideError", "math/bits.overflowError"], apart := false, laid := [("math/bits.deBruijn64tab", laid_math_bits_deBruijn64tab)], narrowed := true }
def NttLinearUptoSaid : Prop := nttLinearUptoRow.holds Tryd.pinned (OpenSpec.upto nttLinearSpec)

/-- 'vinculumlaw06.NttMakes', WHERE WHAT IT READS IS OF BULK AT MOST 1048576: true; the input reads as it did. -/
def nttMakesUptoRow : OpenClaim := { program := "ytgaedjdmbpkejaadoor", sum := "295ce15987473e814a24cdc1a859b0ea3d3957a902d32df3b01c50c5586ca3fe", func := "vinculum/vinculumlaw06.NttMakes", spec := "nttMakes", unfollowed := true, recurses := true, named := ["math/bits.deBruijn64tab", "math/bits.divideError", "math/bits.overflowError"], apart := false, laid := [("math/bits.deBruijn64tab", laid_math_bits_deBruijn64tab)], narrowed := true }
def NttMakesUptoSaid : Prop := nttMakesUptoRow.holds Tryd.pinned (OpenSpec.upto nttMakesSpec)

/-- 'vinculumlaw06.NttRounds', WHERE WHAT IT READS IS OF BULK AT MOST 1048576: true; the input reads as it did. -/
def nttRoundsUptoRow : OpenClaim := { program := "ytgaedjdmbpkejaadoor", sum := "295ce15987473e814a24cdc1a859b0ea3d3957a902d32df3b01c50c5586ca3fe", func := "vinculum/vinculumlaw06.NttRounds", spec := "nttRounds", unfollowed := true, recurses := true, named := ["math/bits.deBruijn64tab", "math/bits.divideError", "math/bits.overflowError"], apart := false, laid := [("math/bits.deBruijn64tab", laid_math_bits_deBruijn64tab)], narrowed := true }
def NttRoundsUptoSaid : Prop := nttRoundsUptoRow.holds Tryd.pinned (OpenSpec.upto nttRoundsSpec)

/-- 'vinculumlaw06.NttNil', WHERE WHAT IT READS IS OF BULK AT MOST 1048576: true; the input reads as it did. -/
def nttNilUptoRow : OpenClaim := { program := "ytgaedjdmbpkejaadoor", sum := "295ce15987473e814a24cdc1a859b0ea3d3957a902d32df3b01c50c5586ca3fe", func := "vinculum/vinculumlaw06.NttNil", spec := "nttNil", unfollowed := true, recurses := true, named := ["math/bits.deBruijn64tab", "math/bits.divideError", "math/bits.overflowError"], apart := false, laid := [("math/bits.deBruijn64tab", laid_math_bits_deBruijn64tab)], narrowed := true }
def NttNilUptoSaid : Prop := nttNilUptoRow.holds Tryd.pinned (OpenSpec.upto nttNilSpec)

end Rows
end Go.Proofs.YtgaedjdmbpkejaaDoor

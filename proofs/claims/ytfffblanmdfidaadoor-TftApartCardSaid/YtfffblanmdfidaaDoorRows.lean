/-
  NARROWER THAN 'FOR EVERY INPUT', by the rows' own cells (each row's printed sentence says how): TftTurns: laid · TftPoints: laid · TftValues: laid · TftFinds: laid · TftBack: laid · TftApart: laid · TftMuls: laid · TftNil: laid.
  DERIVED. THE GIVEN ROWS OF THIS SEAT. 8 by the template 'for every input the law returns true; each argument reads behind the call as it read before'; 0 by the template 'total and deterministic' (their statements: YtfffblanmdfidaaDoorTotals.lean).
  GIVEN WITH THE SEED: the statements are not yours to turn. If you find one false, say at which input.
  Laid BY PROGRAM, IN A SANDBOX (cutbox-rows.mjs): the forced cells as the released guide's own fill.sh prints them over the translation 98ca0055699b9ec9… (all of the seat's roots in one cut). By AI agents, Wed Nov 11 2026. No macro, syntax, notation, axiom, sorry.
-/
import Derived.Test.YtfffblanmdfidaaDoorChecked
import GoSem.Claim
import GoSem.ClaimJoined
import GoSem.ClaimMapViews
import Derived.JoinedTies
import Derived.KernelRfl
namespace Go.Proofs.YtfffblanmdfidaaDoor
/- THE CELL 'sum', in the pinned program and in every row, IS THE sha256 OF THE DUMP (.gsa) THAT YtfffblanmdfidaaDoorProg.lean LOADS. Nothing in Lean hashes anything: it is a label: what it is worth is what the hold of that sum in a sandbox is worth. -/
noncomputable def Tryd.pinned : Pinned := { name := "ytfffblanmdfidaadoor", sum := "98ca0055699b9ec9882f8879190ad9bcd65b0ecdc2dd687ef61d753fe3cb99d5", checked := Tryd.checked }
namespace Rows
def none {H : Type} : Left H := { results := [], args := [] }

/- WHAT THE LISTED PACKAGE-LEVEL VARIABLES READ AS WHEN THE CALL BEGINS. Each datum BY PROGRAM (the guide's laid-datum.mjs) off the statement by which the dump's own 'gosem.cut.vars' lays the variable. In a bare row this is a premise. The card (YtfffblanmdfidaaDoorCards.lean) ties it to the program's text. -/
def laid_math_bits_deBruijn64tab {H : Type} : DataW H := .agg [.lit (.int .u8 0), .lit (.int .u8 1), .lit (.int .u8 56), .lit (.int .u8 2), .lit (.int .u8 57), .lit (.int .u8 49), .lit (.int .u8 28), .lit (.int .u8 3), .lit (.int .u8 61), .lit (.int .u8 58), .lit (.int .u8 42), .lit (.int .u8 50), .lit (.int .u8 38), .lit (.int .u8 29), .lit (.int .u8 17), .lit (.int .u8 4), .lit (.int .u8 62), .lit (.int .u8 47), .lit (.int .u8 59), .lit (.int .u8 36), .lit (.int .u8 45), .lit (.int .u8 43), .lit (.int .u8 51), .lit (.int .u8 22), .lit (.int .u8 53), .lit (.int .u8 39), .lit (.int .u8 33), .lit (.int .u8 30), .lit (.int .u8 24), .lit (.int .u8 18), .lit (.int .u8 12), .lit (.int .u8 5), .lit (.int .u8 63), .lit (.int .u8 55), .lit (.int .u8 48), .lit (.int .u8 27), .lit (.int .u8 60), .lit (.int .u8 41), .lit (.int .u8 37), .lit (.int .u8 16), .lit (.int .u8 46), .lit (.int .u8 35), .lit (.int .u8 44), .lit (.int .u8 21), .lit (.int .u8 52), .lit (.int .u8 32), .lit (.int .u8 23), .lit (.int .u8 11), .lit (.int .u8 54), .lit (.int .u8 26), .lit (.int .u8 40), .lit (.int .u8 15), .lit (.int .u8 34), .lit (.int .u8 20), .lit (.int .u8 31), .lit (.int .u8 10), .lit (.int .u8 25), .lit (.int .u8 14), .lit (.int .u8 19), .lit (.int .u8 9), .lit (.int .u8 13), .lit (.int .u8 8), .lit (.int .u8 7), .lit (.int .u8 6)]

/-- 'vinculumlaw07.TftTurns': WHATEVER THE INPUT: true; the input reads as it did. -/
def tftTurnsSpec : ChangeSpec := { name := "tftTurns", fn := fun _ => fun
  | [d1, d2] => { results := [.lit (.bool true)], args := [d1, d2] }
  | _ => none }
def tftTurnsRow : OpenClaim := { program := "ytfffblanmdfidaadoor", sum := "98ca0055699b9ec9882f8879190ad9bcd65b0ecdc2dd687ef61d753fe3cb99d5", func := "vinculum/vinculumlaw07.TftTurns", spec := "tftTurns", recurses := true, named := ["math/bits.deBruijn64tab", "math/bits.divideError", "math/bits.overflowError"], apart := false, laid := [("math/bits.deBruijn64tab", laid_math_bits_deBruijn64tab)] }
def TftTurnsSaid : Prop := tftTurnsRow.holds Tryd.pinned (OpenSpec.ofChange tftTurnsSpec)

/-- ITS FALSE NEIGHBOUR: 'it returns false'. Refute it at one input. -/
def tftTurnsWrong : ChangeSpec := { name := "tftTurns", fn := fun _ => fun
  | [d1, d2] => { results := [.lit (.bool false)], args := [d1, d2] }
  | _ => none }
def TftTurnsWrongFalsely : Prop := tftTurnsRow.holds Tryd.pinned (OpenSpec.ofChange tftTurnsWrong)

/-- 'vinculumlaw07.TftPoints': WHATEVER THE INPUT: true; the input reads as it did. -/
def tftPointsSpec : ChangeSpec := { name := "tftPoints", fn := fun _ => fun
  | [d1, d2, d3] => { results := [.lit (.bool true)], args := [d1, d2, d3] }
  | _ => none }
def tftPointsRow : OpenClaim := { program := "ytfffblanmdfidaadoor", sum := "98ca0055699b9ec9882f8879190ad9bcd65b0ecdc2dd687ef61d753fe3cb99d5", func := "vinculum/vinculumlaw07.TftPoints", spec := "tftPoints", recurses := true, named := ["math/bits.deBruijn64tab", "math/bits.divideError", "math/bits.overflowError"], apart := false, laid := [("math/bits.deBruijn64tab", laid_math_bits_deBruijn64tab)] }
def TftPointsSaid : Prop := tftPointsRow.holds Tryd.pinned (OpenSpec.ofChange tftPointsSpec)

/-- ITS FALSE NEIGHBOUR: 'it returns false'. Refute it at one input. -/
def tftPointsWrong : ChangeSpec := { name := "tftPoints", fn := fun _ => fun
  | [d1, d2, d3] => { results := [.lit (.bool false)], args := [d1, d2, d3] }
  | _ => none }
def TftPointsWrongFalsely : Prop := tftPointsRow.holds Tryd.pinned (OpenSpec.ofChange tftPointsWrong)

/-- 'vinculumlaw07.TftValues': WHATEVER THE INPUT: true; the input reads as it did. -/
def tftValuesSpec : ChangeSpec := { name := "tftValues", fn := fun _ => fun
  | [d1, d2, d3] => { results := [.lit (.bool true)], args := [d1, d2, d3] }
  | _ => none }
def tftValuesRow : OpenClaim := { program := "ytfffblanmdfidaadoor", sum := "98ca0055699b9ec9882f8879190ad9bcd65b0ecdc2dd687ef61d753fe3cb99d5", func := "vinculum/vinculumlaw07.TftValues", spec := "tftValues", recurses := true, named := ["math/bits.deBruijn64tab", "math/bits.divideError", "math/bits.overflowError"], apart := false, laid := [("math/bits.deBruijn64tab", laid_math_bits_deBruijn64tab)] }
def TftValuesSaid : Prop := tftValuesRow.holds Tryd.pinned (OpenSpec.ofChange tftValuesSpec)

/-- ITS FALSE NEIGHBOUR: 'it returns false'. Refute it at one input. -/
def tftValuesWrong : ChangeSpec := { name := "tftValues", fn := fun _ => fun
  | [d1, d2, d3] => { results := [.lit (.bool false)], args := [d1, d2, d3] }
  | _ => none }
def TftValuesWrongFalsely : Prop := tftValuesRow.holds Tryd.pinned (OpenSpec.ofChange tftValuesWrong)

/-- 'vinculumlaw07.TftFinds': WHATEVER THE INPUT: true; the input reads as it did. -/
def tftFindsSpec : ChangeSpec := { name := "tftFinds", fn := fun _ => fun
  | [d1, d2] => { results := [.lit (.bool true)], args := [d1, d2] }
  | _ => none }
def tftFindsRow : OpenClaim := { program := "ytfffblanmdfidaadoor", sum := "98ca0055699b9ec9882f8879190ad9bcd65b0ecdc2dd687ef61d753fe3cb99d5", func := "vinculum/vinculumlaw07.TftFinds", spec := "tftFinds", recurses := true, named := ["math/bits.deBruijn64tab", "math/bits.divideError", "math/bits.overflowError"], apart := false, laid := [("math/bits.deBruijn64tab", laid_math_bits_deBruijn64tab)] }
def TftFindsSaid : Prop := tftFindsRow.holds Tryd.pinned (OpenSpec.ofChange tftFindsSpec)

/-- ITS FALSE NEIGHBOUR: 'it returns false'. Refute it at one input. -/
def tftFindsWrong : ChangeSpec := { name := "tftFinds", fn := fun _ => fun
  | [d1, d2] => { results := [.lit (.bool false)], args := [d1, d2] }
  | _ => none }
def TftFindsWrongFalsely : Prop := tftFindsRow.holds Tryd.pinned (OpenSpec.ofChange tftFindsWrong)

/-- 'vinculumlaw07.TftBack': WHATEVER THE INPUT: true; the input reads as it did. -/
def tftBackSpec : ChangeSpec := { name := "tftBack", fn := fun _ => fun
  | [d1, d2, d3] => { results := [.lit (.bool true)], args := [d1, d2, d3] }
  | _ => none }
def tftBackRow : OpenClaim := { program := "ytfffblanmdfidaadoor", sum := "98ca0055699b9ec9882f8879190ad9bcd65b0ecdc2dd687ef61d753fe3cb99d5", func := "vinculum/vinculumlaw07.TftBack", spec := "tftBack", recurses := true, named := ["math/bits.deBruijn64tab", "math/bits.divideError", "math/bits.overflowError"], apart := false, laid := [("math/bits.deBruijn64tab", laid_math_bits_deBruijn64tab)] }
def TftBackSaid : Prop := tftBackRow.holds Tryd.pinned (OpenSpec.ofChange tftBackSpec)

/-- ITS FALSE NEIGHBOUR: 'it returns false'. Refute it at one input. -/
def tftBackWrong : ChangeSpec := { name := "tftBack", fn := fun _ => fun
  | [d1, d2, d3] => { results := [.lit (.bool false)], args := [d1, d2, d3] }
  | _ => none }
def TftBackWrongFalsely : Prop := tftBackRow.holds Tryd.pinned (OpenSpec.ofChange tftBackWrong)

/-- 'vinculumlaw07.TftApart': WHATEVER THE INPUT: true; the input reads as it did. -/
def tftApartSpec : ChangeSpec := { name := "tftApart", fn := fun _ => fun
  | [d1, d2, d3] => { results := [.lit (.bool true)], args := [d1, d2, d3] }
  | _ => none }
def tftApartRow : OpenClaim := { program := "ytfffblanmdfidaadoor", sum := "98ca0055699b9ec9882f8879190ad9bcd65b0ecdc2dd687ef61d753fe3cb99d5", func := "vinculum/vinculumlaw07.TftApart", spec := "tftApart", recurses := true, named := ["math/bits.deBruijn64tab", "math/bits.divideError", "math/bits.overflowError"], apart := false, laid := [("math/bits.deBruijn64tab", laid_math_bits_deBruijn64tab)] }
def TftApartSaid : Prop := tftApartRow.holds Tryd.pinned (OpenSpec.ofChange tftApartSpec)

/-- ITS FALSE NEIGHBOUR: 'it returns false'. Refute it at one input. -/
def tftApartWrong : ChangeSpec := { name := "tftApart", fn := fun _ => fun
  | [d1, d2, d3] => { results := [.lit (.bool false)], args := [d1, d2, d3] }
  | _ => none }
def TftApartWrongFalsely : Prop := tftApartRow.holds Tryd.pinned (OpenSpec.ofChange tftApartWrong)

/-- 'vinculumlaw07.TftMuls': WHATEVER THE INPUT: true; the input reads as it did. -/
def tftMulsSpec : ChangeSpec := { name := "tftMuls", fn := fun _ => fun
  | [d1, d2, d3] => { results := [.lit (.bool true)], args := [d1, d2, d3] }
  | _ => none }
def tftMulsRow : OpenClaim := { program := "ytfffblanmdfidaadoor", sum := "98ca0055699b9ec9882f8879190ad9bcd65b0ecdc2dd687ef61d753fe3cb99d5", func := "vinculum/vinculumlaw07.TftMuls", spec := "tftMuls", recurses := true, named := ["math/bits.deBruijn64tab", "math/bits.divideError", "math/bits.overflowError"], apart := false, laid := [("math/bits.deBruijn64tab", laid_math_bits_deBruijn64tab)] }
def TftMulsSaid : Prop := tftMulsRow.holds Tryd.pinned (OpenSpec.ofChange tftMulsSpec)

/-- ITS FALSE NEIGHBOUR: 'it returns false'. Refute it at one input. -/
def tftMulsWrong : ChangeSpec := { name := "tftMuls", fn := fun _ => fun
  | [d1, d2, d3] => { results := [.lit (.bool false)], args := [d1, d2, d3] }
  | _ => none }
def TftMulsWrongFalsely : Prop := tftMulsRow.holds Tryd.pinned (OpenSpec.ofChange tftMulsWrong)

/-- 'vinculumlaw07.TftNil': WHATEVER THE INPUT: true; the input reads as it did. -/
def tftNilSpec : ChangeSpec := { name := "tftNil", fn := fun _ => fun
  | [d1, d2] => { results := [.lit (.bool true)], args := [d1, d2] }
  | _ => none }
def tftNilRow : OpenClaim := { program := "ytfffblanmdfidaadoor", sum := "98ca0055699b9ec9882f8879190ad9bcd65b0ecdc2dd687ef61d753fe3cb99d5", func := "vinculum/vinculumlaw07.TftNil", spec := "tftNil", recurses := true, named := ["math/bits.deBruijn64tab", "math/bits.divideError", "math/bits.overflowError"], apart := false, laid := [("math/bits.deBruijn64tab", laid_math_bits_deBruijn64tab)] }
def TftNilSaid : Prop := tftNilRow.holds Tryd.pinned (OpenSpec.ofChange tftNilSpec)

/-- ITS FALSE NEIGHBOUR: 'it returns false'. Refute it at one input. -/
def tftNilWrong : ChangeSpec := { name := "tftNil", fn := fun _ => fun
  | [d1, d2] => { results := [.lit (.bool false)], args := [d1, d2] }
  | _ => none }
def TftNilWrongFalsely : Prop := tftNilRow.holds Tryd.pinned (OpenSpec.ofChange tftNilWrong)

/- THE SECOND FORM. 'bulk': how many values and letters a reading holds, each counted each time it is reached (what is shared counts as often as it is met; a slice's spare places count too). A statement '..UptoSaid' is the law's where the arguments, and the package variables that the reading takes, are together of bulk at most 1048576: NARROWER than '..Said'. Prove '..Said' where nothing that the law and all that it calls make is longer than what came in: it says more and counts as full. Else prove '..UptoSaid'. A law counts once. -/
mutual
def uptoBulk {H : Type} : DataW H → Nat
  | .lit (.string bytes) => bytes.length + 1
  | .lit _ => 1
  | .nil => 1
  | .ptr d => uptoBulk d + 1
  | .slice elems spare => uptoBulkAll elems + uptoBulkAll spare + 1
  | .agg parts => uptoBulkAll parts + 1
  | .iface _ d => uptoBulk d + 1
  | .map entries => uptoBulkEntries entries + 1
  | .held _ => 1
def uptoBulkAll {H : Type} : List (DataW H) → Nat
  | [] => 0
  | d :: r => uptoBulk d + uptoBulkAll r
def uptoBulkEntries {H : Type} : List (Lit × DataW H) → Nat
  | [] => 0
  | x :: r => uptoBulkEntry x + uptoBulkEntries r
def uptoBulkEntry {H : Type} : Lit × DataW H → Nat
  | (.string bytes, d) => bytes.length + uptoBulk d + 1
  | (_, d) => uptoBulk d + 1
 end
def uptoSmall : (H : Type) → List (DataW H) → Bool := fun _ ds => decide (uptoBulkAll ds ≤ 1048576)
def OpenSpec.upto (s : _root_.Go.ChangeSpec) : _root_.Go.OpenSpec := { _root_.Go.OpenSpec.ofChange s with cond := some uptoSmall }

/-- 'vinculumlaw07.TftTurns', WHERE WHAT IT READS IS OF BULK AT MOST 1048576: true; the input reads as it did. -/
def tftTurnsUptoRow : OpenClaim := { program := "ytfffblanmdfidaadoor", sum := "98ca0055699b9ec9882f8879190ad9bcd65b0ecdc2dd687ef61d753fe3cb99d5", func := "vinculum/vinculumlaw07.TftTurns", spec := "tftTurns", recurses := true, named := ["math/bits.deBruijn64tab", "math/bits.divideError", "math/bits.overflowError"], apart := false, laid := [("math/bits.deBruijn64tab", laid_math_bits_deBruijn64tab)], narrowed := true }
def TftTurnsUptoSaid : Prop := tftTurnsUptoRow.holds Tryd.pinned (OpenSpec.upto tftTurnsSpec)

/-- 'vinculumlaw07.TftPoints', WHERE WHAT IT READS IS OF BULK AT MOST 1048576: true; the input reads as it did. -/
def tftPointsUptoRow : OpenClaim := { program := "ytfffblanmdfidaadoor", sum := "98ca0055699b9ec9882f8879190ad9bcd65b0ecdc2dd687ef61d753fe3cb99d5", func := "vinculum/vinculumlaw07.TftPoints", spec := "tftPoints", recurses := true, named := ["math/bits.deBruijn64tab", "math/bits.divideError", "math/bits.overflowError"], apart := false, laid := [("math/bits.deBruijn64tab", laid_math_bits_deBruijn64tab)], narrowed := true }
def TftPointsUptoSaid : Prop := tftPointsUptoRow.holds Tryd.pinned (OpenSpec.upto tftPointsSpec)

/-- 'vinculumlaw07.TftValues', WHERE WHAT IT READS IS OF BULK AT MOST 1048576: true; the input reads as it did. -/
def tftValuesUptoRow : OpenClaim := { program := "ytfffblanmdfidaadoor", sum := "98ca0055699b9ec9882f8879190ad9bcd65b0ecdc2dd687ef61d753fe3cb99d5", func := "vinculum/vinculumlaw07.TftValues", spec := "tftValues", recurses := true, named := ["math/bits.deBruijn64tab", "math/bits.divideError", "math/bits.overflowError"], apart := false, laid := [("math/bits.deBruijn64tab", laid_math_bits_deBruijn64tab)], narrowed := true }
def TftValuesUptoSaid : Prop := tftValuesUptoRow.holds Tryd.pinned (OpenSpec.upto tftValuesSpec)

/-- 'vinculumlaw07.TftFinds', WHERE WHAT IT READS IS OF BULK AT MOST 1048576: true; the input reads as it did. -/
def tftFindsUptoRow : OpenClaim := { program := "ytfffblanmdfidaadoor", sum := "98ca0055699b9ec9882f8879190ad9bcd65b0ecdc2dd687ef61d753fe3cb99d5", func := "vinculum/vinculumlaw07.TftFinds", spec := "tftFinds", recurses := true, named := ["math/bits.deBruijn64tab", "math/bits.divideError", "math/bits.overflowError"], apart := false, laid := [("math/bits.deBruijn64tab", laid_math_bits_deBruijn64tab)], narrowed := true }
def TftFindsUptoSaid : Prop := tftFindsUptoRow.holds Tryd.pinned (OpenSpec.upto tftFindsSpec)

/-- 'vinculumlaw07.TftBack', WHERE WHAT IT READS IS OF BULK AT MOST 1048576: true; the input reads as it did. -/
def tftBackUptoRow : OpenClaim := { program := "ytfffblanmdfidaadoor", sum := "98ca0055699b9ec9882f8879190ad9bcd65b0ecdc2dd687ef61d753fe3cb99d5", func := "vinculum/vinculumlaw07.TftBack", spec := "tftBack", recurses := true, named := ["math/bits.deBruijn64tab", "math/bits.divideError", "math/bits.overflowError"], apart := false, laid := [("math/bits.deBruijn64tab", laid_math_bits_deBruijn64tab)], narrowed := true }
def TftBackUptoSaid : Prop := tftBackUptoRow.holds Tryd.pinned (OpenSpec.upto tftBackSpec)

/-- 'vinculumlaw07.TftApart', WHERE WHAT IT READS IS OF BULK AT MOST 1048576: true; the input reads as it did. -/
def tftApartUptoRow : OpenClaim := { program := "ytfffblanmdfidaadoor", sum := "98ca0055699b9ec9882f8879190ad9bcd65b0ecdc2dd687ef61d753fe3cb99d5", func := "vinculum/vinculumlaw07.TftApart", spec := "tftApart", recurses := true, named := ["math/bits.deBruijn64tab", "math/bits.divideError", "math/bits.overflowError"], apart := false, laid := [("math/bits.deBruijn64tab", laid_math_bits_deBruijn64tab)], narrowed := true }
def TftApartUptoSaid : Prop := tftApartUptoRow.holds Tryd.pinned (OpenSpec.upto tftApartSpec)

/-- 'vinculumlaw07.TftMuls', WHERE WHAT IT READS IS OF BULK AT MOST 1048576: true; the input reads as it did. -/
def tftMulsUptoRow : OpenClaim := { program := "ytfffblanmdfidaadoor", sum := "98ca0055699b9ec9882f8879190ad9bcd65b0ecdc2dd687ef61d753fe3cb99d5", func := "vinculum/vinculumlaw07.TftMuls", spec := "tftMuls", recurses := true, named := ["math/bits.deBruijn64tab", "math/bits.divideError", "math/bits.overflowError"], apart := false, laid := [("math/bits.deBruijn64tab", laid_math_bits_deBruijn64tab)], narrowed := true }
def TftMulsUptoSaid : Prop := tftMulsUptoRow.holds Tryd.pinned (OpenSpec.upto tftMulsSpec)

/-- 'vinculumlaw07.TftNil', WHERE WHAT IT READS IS OF BULK AT MOST 1048576: true; the input reads as it did. -/
def tftNilUptoRow : OpenClaim := { program := "ytfffblanmdfidaadoor", sum := "98ca0055699b9ec9882f8879190ad9bcd65b0ecdc2dd687ef61d753fe3cb99d5", func := "vinculum/vinculumlaw07.TftNil", spec := "tftNil", recurses := true, named := ["math/bits.deBruijn64tab", "math/bits.divideError", "math/bits.overflowError"], apart := false, laid := [("math/bits.deBruijn64tab", laid_math_bits_deBruijn64tab)], narrowed := true }
def TftNilUptoSaid : Prop := tftNilUptoRow.holds Tryd.pinned (OpenSpec.upto tftNilSpec)

end Rows
end Go.Proofs.YtfffblanmdfidaaDoor

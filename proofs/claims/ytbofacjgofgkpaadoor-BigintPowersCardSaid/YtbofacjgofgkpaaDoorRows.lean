/-
  NARROWER THAN 'FOR EVERY INPUT', by the rows' own cells (each row's printed sentence says how): BigintTexts: laid · BigintGcds: laid · BigintRing: laid · BigintDivides: laid · BigintBack: laid · BigintAdds: laid · BigintPowers: laid.
  DERIVED. THE GIVEN ROWS OF THIS SEAT. 7 by the template 'for every input the law returns true; each argument reads behind the call as it read before'; 0 by the template 'total and deterministic' (their statements: YtbofacjgofgkpaaDoorTotals.lean).
  GIVEN WITH THE SEED: the statements are not yours to turn. If you find one false, say at which input.
  Laid BY PROGRAM, IN A SANDBOX (cutbox-rows.mjs): the forced cells as the released guide's own fill.sh prints them over the translation 518d873f39a7a4e7… (all of the seat's roots in one cut). By AI agents, Wed Nov 11 2026. No macro, syntax, notation, axiom, sorry.
-/
import Derived.Test.YtbofacjgofgkpaaDoorChecked
import GoSem.PinnedTables
import GoSem.Claim
import GoSem.ClaimJoined
import GoSem.ClaimMapViews
import Derived.JoinedTies
import Derived.KernelRfl
namespace Go.Proofs.YtbofacjgofgkpaaDoor
/- THE CELL 'sum', in the pinned program and in every row, IS THE sha256 OF THE DUMP (.gsa) THAT YtbofacjgofgkpaaDoorProg.lean LOADS. Nothing in Lean hashes anything: it is a label: what it is worth is what the hold of that sum in a sandbox is worth. -/
noncomputable def Tryd.pinned : Pinned := { name := "ytbofacjgofgkpaadoor", sum := "518d873f39a7a4e738ad0d23dee8517ace6780b0ab561780448c3c39ea2158dd", checked := Tryd.checked }
namespace Rows
def none {H : Type} : Left H := { results := [], args := [] }

/- WHAT THE LISTED PACKAGE-LEVEL VARIABLES READ AS WHEN THE CALL BEGINS. Each datum BY PROGRAM (the guide's laid-datum.mjs) off the statement by which the dump's own 'gosem.cut.vars' lays the variable. In a bare row this is a premise. The card (YtbofacjgofgkpaaDoorCards.lean) ties it to the program's text. -/
def laid_unicode_utf8_acceptRanges {H : Type} : DataW H := .agg [.agg [.lit (.int .u8 128), .lit (.int .u8 191)], .agg [.lit (.int .u8 160), .lit (.int .u8 191)], .agg [.lit (.int .u8 128), .lit (.int .u8 159)], .agg [.lit (.int .u8 144), .lit (.int .u8 191)], .agg [.lit (.int .u8 128), .lit (.int .u8 143)], .agg [.lit (.int .u8 0), .lit (.int .u8 0)], .agg [.lit (.int .u8 0), .lit (.int .u8 0)], .agg [.lit (.int .u8 0), .lit (.int .u8 0)], .agg [.lit (.int .u8 0), .lit (.int .u8 0)], .agg [.lit (.int .u8 0), .lit (.int .u8 0)], .agg [.lit (.int .u8 0), .lit (.int .u8 0)], .agg [.lit (.int .u8 0), .lit (.int .u8 0)], .agg [.lit (.int .u8 0), .lit (.int .u8 0)], .agg [.lit (.int .u8 0), .lit (.int .u8 0)], .agg [.lit (.int .u8 0), .lit (.int .u8 0)], .agg [.lit (.int .u8 0), .lit (.int .u8 0)]]
/-- One of Go's own tables, pinned by name: the form's constant. -/
def laid_unicode_utf8_first : DataW Unit := Go.Pinned.utf8First

/-- 'vinculumlaw02.BigintTexts': WHATEVER THE INPUT: true; the input reads as it did. -/
def bigintTextsSpec : ChangeSpec := { name := "bigintTexts", fn := fun _ => fun
  | [d] => { results := [.lit (.bool true)], args := [d] }
  | _ => none }
def bigintTextsRow : OpenClaim := { program := "ytbofacjgofgkpaadoor", sum := "518d873f39a7a4e738ad0d23dee8517ace6780b0ab561780448c3c39ea2158dd", func := "vinculum/vinculumlaw02.BigintTexts", spec := "bigintTexts", inPlace := ["math/bits.Add64", "math/bits.Sub64", "internal/bytealg.IndexByteString", "internal/bytealg.IndexString"], named := ["math/bits.divideError", "math/bits.overflowError", "unicode/utf8.first", "unicode/utf8.acceptRanges", "internal/bytealg.MaxLen"], apart := false, laid := [("unicode/utf8.acceptRanges", laid_unicode_utf8_acceptRanges), ("unicode/utf8.first", laid_unicode_utf8_first)] }
def BigintTextsSaid : Prop := bigintTextsRow.holds Tryd.pinned (OpenSpec.ofChange bigintTextsSpec)

/-- ITS FALSE NEIGHBOUR: 'it returns false'. Refute it at one input. -/
def bigintTextsWrong : ChangeSpec := { name := "bigintTexts", fn := fun _ => fun
  | [d] => { results := [.lit (.bool false)], args := [d] }
  | _ => none }
def BigintTextsWrongFalsely : Prop := bigintTextsRow.holds Tryd.pinned (OpenSpec.ofChange bigintTextsWrong)

/-- 'vinculumlaw02.BigintGcds': WHATEVER THE INPUT: true; the input reads as it did. -/
def bigintGcdsSpec : ChangeSpec := { name := "bigintGcds", fn := fun _ => fun
  | [d1, d2] => { results := [.lit (.bool true)], args := [d1, d2] }
  | _ => none }
def bigintGcdsRow : OpenClaim := { program := "ytbofacjgofgkpaadoor", sum := "518d873f39a7a4e738ad0d23dee8517ace6780b0ab561780448c3c39ea2158dd", func := "vinculum/vinculumlaw02.BigintGcds", spec := "bigintGcds", inPlace := ["math/bits.Add64", "math/bits.Sub64", "internal/bytealg.IndexByteString", "internal/bytealg.IndexString"], named := ["math/bits.divideError", "math/bits.overflowError", "unicode/utf8.first", "unicode/utf8.acceptRanges", "internal/bytealg.MaxLen"], apart := false, laid := [("unicode/utf8.acceptRanges", laid_unicode_utf8_acceptRanges), ("unicode/utf8.first", laid_unicode_utf8_first)] }
def BigintGcdsSaid : Prop := bigintGcdsRow.holds Tryd.pinned (OpenSpec.ofChange bigintGcdsSpec)

/-- ITS FALSE NEIGHBOUR: 'it returns false'. Refute it at one input. -/
def bigintGcdsWrong : ChangeSpec := { name := "bigintGcds", fn := fun _ => fun
  | [d1, d2] => { results := [.lit (.bool false)], args := [d1, d2] }
  | _ => none }
def BigintGcdsWrongFalsely : Prop := bigintGcdsRow.holds Tryd.pinned (OpenSpec.ofChange bigintGcdsWrong)

/-- 'vinculumlaw02.BigintRing': WHATEVER THE INPUT: true; the input reads as it did. -/
def bigintRingSpec : ChangeSpec := { name := "bigintRing", fn := fun _ => fun
  | [d1, d2, d3] => { results := [.lit (.bool true)], args := [d1, d2, d3] }
  | _ => none }
def bigintRingRow : OpenClaim := { program := "ytbofacjgofgkpaadoor", sum := "518d873f39a7a4e738ad0d23dee8517ace6780b0ab561780448c3c39ea2158dd", func := "vinculum/vinculumlaw02.BigintRing", spec := "bigintRing", inPlace := ["math/bits.Add64", "math/bits.Sub64", "internal/bytealg.IndexByteString", "internal/bytealg.IndexString"], named := ["math/bits.divideError", "math/bits.overflowError", "unicode/utf8.first", "unicode/utf8.acceptRanges", "internal/bytealg.MaxLen"], apart := false, laid := [("unicode/utf8.acceptRanges", laid_unicode_utf8_acceptRanges), ("unicode/utf8.first", laid_unicode_utf8_first)] }
def BigintRingSaid : Prop := bigintRingRow.holds Tryd.pinned (OpenSpec.ofChange bigintRingSpec)

/-- ITS FALSE NEIGHBOUR: 'it returns false'. Refute it at one input. -/
def bigintRingWrong : ChangeSpec := { name := "bigintRing", fn := fun _ => fun
  | [d1, d2, d3] => { results := [.lit (.bool false)], args := [d1, d2, d3] }
  | _ => none }
def BigintRingWrongFalsely : Prop := bigintRingRow.holds Tryd.pinned (OpenSpec.ofChange bigintRingWrong)

/-- 'vinculumlaw02.BigintDivides': WHATEVER THE INPUT: true; the input reads as it did. -/
def bigintDividesSpec : ChangeSpec := { name := "bigintDivides", fn := fun _ => fun
  | [d1, d2, d3] => { results := [.lit (.bool true)], args := [d1, d2, d3] }
  | _ => none }
def bigintDividesRow : OpenClaim := { program := "ytbofacjgofgkpaadoor", sum := "518d873f39a7a4e738ad0d23dee8517ace6780b0ab561780448c3c39ea2158dd", func := "vinculum/vinculumlaw02.BigintDivides", spec := "bigintDivides", inPlace := ["math/bits.Add64", "math/bits.Sub64", "internal/bytealg.IndexByteString", "internal/bytealg.IndexString"], named := ["math/bits.divideError", "math/bits.overflowError", "unicode/utf8.first", "unicode/utf8.acceptRanges", "internal/bytealg.MaxLen"], apart := false, laid := [("unicode/utf8.acceptRanges", laid_unicode_utf8_acceptRanges), ("unicode/utf8.first", laid_unicode_utf8_first)] }
def BigintDividesSaid : Prop := bigintDividesRow.holds Tryd.pinned (OpenSpec.ofChange bigintDividesSpec)

/-- ITS FALSE NEIGHBOUR: 'it returns false'. Refute it at one input. -/
def bigintDividesWrong : ChangeSpec := { name := "bigintDivides", fn := fun _ => fun
  | [d1, d2, d3] => { results := [.lit (.bool false)], args := [d1, d2, d3] }
  | _ => none }
def BigintDividesWrongFalsely : Prop := bigintDividesRow.holds Tryd.pinned (OpenSpec.ofChange bigintDividesWrong)

/-- 'vinculumlaw02.BigintBack': WHATEVER THE INPUT: true; the input reads as it did. -/
def bigintBackSpec : ChangeSpec := { name := "bigintBack", fn := fun _ => fun
  | [d1, d2] => { results := [.lit (.bool true)], args := [d1, d2] }
  | _ => none }
def bigintBackRow : OpenClaim := { program := "ytbofacjgofgkpaadoor", sum := "518d873f39a7a4e738ad0d23dee8517ace6780b0ab561780448c3c39ea2158dd", func := "vinculum/vinculumlaw02.BigintBack", spec := "bigintBack", inPlace := ["math/bits.Add64", "math/bits.Sub64", "internal/bytealg.IndexByteString", "internal/bytealg.IndexString"], named := ["math/bits.divideError", "math/bits.overflowError", "unicode/utf8.first", "unicode/utf8.acceptRanges", "internal/bytealg.MaxLen"], apart := false, laid := [("unicode/utf8.acceptRanges", laid_unicode_utf8_acceptRanges), ("unicode/utf8.first", laid_unicode_utf8_first)] }
def BigintBackSaid : Prop := bigintBackRow.holds Tryd.pinned (OpenSpec.ofChange bigintBackSpec)

/-- ITS FALSE NEIGHBOUR: 'it returns false'. Refute it at one input. -/
def bigintBackWrong : ChangeSpec := { name := "bigintBack", fn := fun _ => fun
  | [d1, d2] => { results := [.lit (.bool false)], args := [d1, d2] }
  | _ => none }
def BigintBackWrongFalsely : Prop := bigintBackRow.holds Tryd.pinned (OpenSpec.ofChange bigintBackWrong)

/-- 'vinculumlaw02.BigintAdds': WHATEVER THE INPUT: true; the input reads as it did. -/
def bigintAddsSpec : ChangeSpec := { name := "bigintAdds", fn := fun _ => fun
  | [d1, d2, d3] => { results := [.lit (.bool true)], args := [d1, d2, d3] }
  | _ => none }
def bigintAddsRow : OpenClaim := { program := "ytbofacjgofgkpaadoor", sum := "518d873f39a7a4e738ad0d23dee8517ace6780b0ab561780448c3c39ea2158dd", func := "vinculum/vinculumlaw02.BigintAdds", spec := "bigintAdds", inPlace := ["math/bits.Add64", "math/bits.Sub64", "internal/bytealg.IndexByteString", "internal/bytealg.IndexString"], named := ["math/bits.divideError", "math/bits.overflowError", "unicode/utf8.first", "unicode/utf8.acceptRanges", "internal/bytealg.MaxLen"], apart := false, laid := [("unicode/utf8.acceptRanges", laid_unicode_utf8_acceptRanges), ("unicode/utf8.first", laid_unicode_utf8_first)] }
def BigintAddsSaid : Prop := bigintAddsRow.holds Tryd.pinned (OpenSpec.ofChange bigintAddsSpec)

/-- ITS FALSE NEIGHBOUR: 'it returns false'. Refute it at one input. -/
def bigintAddsWrong : ChangeSpec := { name := "bigintAdds", fn := fun _ => fun
  | [d1, d2, d3] => { results := [.lit (.bool false)], args := [d1, d2, d3] }
  | _ => none }
def BigintAddsWrongFalsely : Prop := bigintAddsRow.holds Tryd.pinned (OpenSpec.ofChange bigintAddsWrong)

/-- 'vinculumlaw02.BigintPowers': WHATEVER THE INPUT: true; the input reads as it did. -/
def bigintPowersSpec : ChangeSpec := { name := "bigintPowers", fn := fun _ => fun
  | [d1, d2] => { results := [.lit (.bool true)], args := [d1, d2] }
  | _ => none }
def bigintPowersRow : OpenClaim := { program := "ytbofacjgofgkpaadoor", sum := "518d873f39a7a4e738ad0d23dee8517ace6780b0ab561780448c3c39ea2158dd", func := "vinculum/vinculumlaw02.BigintPowers", spec := "bigintPowers", inPlace := ["math/bits.Add64", "math/bits.Sub64", "internal/bytealg.IndexByteString", "internal/bytealg.IndexString"], named := ["math/bits.divideError", "math/bits.overflowError", "unicode/utf8.first", "unicode/utf8.acceptRanges", "internal/bytealg.MaxLen"], apart := false, laid := [("unicode/utf8.acceptRanges", laid_unicode_utf8_acceptRanges), ("unicode/utf8.first", laid_unicode_utf8_first)] }
def BigintPowersSaid : Prop := bigintPowersRow.holds Tryd.pinned (OpenSpec.ofChange bigintPowersSpec)

/-- ITS FALSE NEIGHBOUR: 'it returns false'. Refute it at one input. -/
def bigintPowersWrong : ChangeSpec := { name := "bigintPowers", fn := fun _ => fun
  | [d1, d2] => { results := [.lit (.bool false)], args := [d1, d2] }
  | _ => none }
def BigintPowersWrongFalsely : Prop := bigintPowersRow.holds Tryd.pinned (OpenSpec.ofChange bigintPowersWrong)

/- THE SECOND FORM. 'bulk': how many values and letters a reading holds, each counted each time it is reached (what is shared counts as often as it is met; a slice's spare places count too). A statement '..UptoSaid' is the law's where the arguments, and the package variables that the reading takes, are together of bulk at most 1048576: NARROWER than '..Said'. Prove '..Said' where nothing that the law and all that it calls make is longer than what came in: it says more and counts as full. Else prove '..UptoSaid'. A law counts once. -/
mutual
def uptoBulk {H : Type} : DataW H → Nat
  | .lit (.string bytes) => bytes.length + 1
  | .lit _ => 1
  | .nil => 1
  | .ptr d => uptoBulk d + 1
  | .slice elems spare => uptoBulkAll elems + uptoBulkAll spare + 1
  | .agg parts => uptoBulkAll parts + 1
  | .iface _ d => uptoBulk d + 1
  | .map entries => uptoBulkEntries entries + 1
  | .held _ => 1
def uptoBulkAll {H : Type} : List (DataW H) → Nat
  | [] => 0
  | d :: r => uptoBulk d + uptoBulkAll r
def uptoBulkEntries {H : Type} : List (Lit × DataW H) → Nat
  | [] => 0
  | x :: r => uptoBulkEntry x + uptoBulkEntries r
def uptoBulkEntry {H : Type} : Lit × DataW H → Nat
  | (.string bytes, d) => bytes.length + uptoBulk d + 1
  | (_, d) => uptoBulk d + 1
 end
def uptoSmall : (H : Type) → List (DataW H) → Bool := fun _ ds => decide (uptoBulkAll ds ≤ 1048576)
def OpenSpec.upto (s : _root_.Go.ChangeSpec) : _root_.Go.OpenSpec := { _root_.Go.OpenSpec.ofChange s with cond := some uptoSmall }

/-- 'vinculumlaw02.BigintTexts', WHERE WHAT IT READS IS OF BULK AT MOST 1048576: true; the input reads as it did. -/
def bigintTextsUptoRow : OpenClaim := { program := "ytbofacjgofgkpaadoor", sum := "518d873f39a7a4e738ad0d23dee8517ace6780b0ab561780448c3c39ea2158dd", func := "vinculum/vinculumlaw02.BigintTexts", spec := "bigintTexts", inPlace := ["math/bits.Add64", "math/bits.Sub64", "internal/bytealg.IndexByteString", "internal/bytealg.IndexString"], named := ["math/bits.divideError", "math/bits.overflowError", "unicode/utf8.first", "unicode/utf8.acceptRanges", "internal/bytealg.MaxLen"], apart := false, laid := [("unicode/utf8.acceptRanges", laid_unicode_utf8_acceptRanges), ("unicode/utf8.first", laid_unicode_utf8_first)], narrowed := true }
def BigintTextsUptoSaid : Prop := bigintTextsUptoRow.holds Tryd.pinned (OpenSpec.upto bigintTextsSpec)

/-- 'vinculumlaw02.BigintGcds', WHERE WHAT IT READS IS OF BULK AT MOST 1048576: true; the input reads as it did. -/
def bigintGcdsUptoRow : OpenClaim := { program := "ytbofacjgofgkpaadoor", sum := "518d873f39a7a4e738ad0d23dee8517ace6780b0ab561780448c3c39ea2158dd", func := "vinculum/vinculumlaw02.BigintGcds", spec := "bigintGcds", inPlace := ["math/bits.Add64", "math/bits.Sub64", "internal/bytealg.IndexByteString", "internal/bytealg.IndexString"], named := ["math/bits.divideError", "math/bits.overflowError", "unicode/utf8.first", "unicode/utf8.acceptRanges", "internal/bytealg.MaxLen"], apart := false, laid := [("unicode/utf8.acceptRanges", laid_unicode_utf8_acceptRanges), ("unicode/utf8.first", laid_unicode_utf8_first)], narrowed := true }
def BigintGcdsUptoSaid : Prop := bigintGcdsUptoRow.holds Tryd.pinned (OpenSpec.upto bigintGcdsSpec)

/-- 'vinculumlaw02.BigintRing', WHERE WHAT IT READS IS OF BULK AT MOST 1048576: true; the input reads as it did. -/
def bigintRingUptoRow : OpenClaim := { program := "ytbofacjgofgkpaadoor", sum := "518d873f39a7a4e738ad0d23dee8517ace6780b0ab561780448c3c39ea2158dd", func := "vinculum/vinculumlaw02.BigintRing", spec := "bigintRing", inPlace := ["math/bits.Add64", "math/bits.Sub64", "internal/bytealg.IndexByteString", "internal/bytealg.IndexString"], named := ["math/bits.divideError", "math/bits.overflowError", "unicode/utf8.first", "unicode/utf8.acceptRanges", "internal/bytealg.MaxLen"], apart := false, laid := [("unicode/utf8.acceptRanges", laid_unicode_utf8_acceptRanges), ("unicode/utf8.first", laid_unicode_utf8_first)], narrowed := true }
def BigintRingUptoSaid : Prop := bigintRingUptoRow.holds Tryd.pinned (OpenSpec.upto bigintRingSpec)

/-- 'vinculumlaw02.BigintDivides', WHERE WHAT IT READS IS OF BULK AT MOST 1048576: true; the input reads as it did. -/
def bigintDividesUptoRow : OpenClaim := { program := "ytbofacjgofgkpaadoor", sum := "518d873f39a7a4e738ad0d23dee8517ace6780b0ab561780448c3c39ea2158dd", func := "vinculum/vinculumlaw02.BigintDivides", spec := "bigintDivides", inPlace := ["math/bits.Add64", "math/bits.Sub64", "internal/bytealg.IndexByteString", "internal/bytealg.IndexString"], named := ["math/bits.divideError", "math/bits.overflowError", "unicode/utf8.first", "unicode/utf8.acceptRanges", "internal/bytealg.MaxLen"], apart := false, laid := [("unicode/utf8.acceptRanges", laid_unicode_utf8_acceptRanges), ("unicode/utf8.first", laid_unicode_utf8_first)], narrowed := true }
def BigintDividesUptoSaid : Prop := bigintDividesUptoRow.holds Tryd.pinned (OpenSpec.upto bigintDividesSpec)

/-- 'vinculumlaw02.BigintBack', WHERE WHAT IT READS IS OF BULK AT MOST 1048576: true; the input reads as it did. -/
def bigintBackUptoRow : OpenClaim := { program := "ytbofacjgofgkpaadoor", sum := "518d873f39a7a4e738ad0d23dee8517ace6780b0ab561780448c3c39ea2158dd", func := "vinculum/vinculumlaw02.BigintBack", spec := "bigintBack", inPlace := ["math/bits.Add64", "math/bits.Sub64", "internal/bytealg.IndexByteString", "internal/bytealg.IndexString"], named := ["math/bits.divideError", "math/bits.overflowError", "unicode/utf8.first", "unicode/utf8.acceptRanges", "internal/bytealg.MaxLen"], apart := false, laid := [("unicode/utf8.acceptRanges", laid_unicode_utf8_acceptRanges), ("unicode/utf8.first", laid_unicode_utf8_first)], narrowed := true }
def BigintBackUptoSaid : Prop := bigintBackUptoRow.holds Tryd.pinned (OpenSpec.upto bigintBackSpec)

/-- 'vinculumlaw02.BigintAdds', WHERE WHAT IT READS IS OF BULK AT MOST 1048576: true; the input reads as it did. -/
def bigintAddsUptoRow : OpenClaim := { program := "ytbofacjgofgkpaadoor", sum := "518d873f39a7a4e738ad0d23dee8517ace6780b0ab561780448c3c39ea2158dd", func := "vinculum/vinculumlaw02.BigintAdds", spec := "bigintAdds", inPlace := ["math/bits.Add64", "math/bits.Sub64", "internal/bytealg.IndexByteString", "internal/bytealg.IndexString"], named := ["math/bits.divideError", "math/bits.overflowError", "unicode/utf8.first", "unicode/utf8.acceptRanges", "internal/bytealg.MaxLen"], apart := false, laid := [("unicode/utf8.acceptRanges", laid_unicode_utf8_acceptRanges), ("unicode/utf8.first", laid_unicode_utf8_first)], narrowed := true }
def BigintAddsUptoSaid : Prop := bigintAddsUptoRow.holds Tryd.pinned (OpenSpec.upto bigintAddsSpec)

/-- 'vinculumlaw02.BigintPowers', WHERE WHAT IT READS IS OF BULK AT MOST 1048576: true; the input reads as it did. -/
def bigintPowersUptoRow : OpenClaim := { program := "ytbofacjgofgkpaadoor", sum := "518d873f39a7a4e738ad0d23dee8517ace6780b0ab561780448c3c39ea2158dd", func := "vinculum/vinculumlaw02.BigintPowers", spec := "bigintPowers", inPlace := ["math/bits.Add64", "math/bits.Sub64", "internal/bytealg.IndexByteString", "internal/bytealg.IndexString"], named := ["math/bits.divideError", "math/bits.overflowError", "unicode/utf8.first", "unicode/utf8.acceptRanges", "internal/bytealg.MaxLen"], apart := false, laid := [("unicode/utf8.acceptRanges", laid_unicode_utf8_acceptRanges), ("unicode/utf8.first", laid_unicode_utf8_first)], narrowed := true }
def BigintPowersUptoSaid : Prop := bigintPowersUptoRow.holds Tryd.pinned (OpenSpec.upto bigintPowersSpec)

end Rows
end Go.Proofs.YtbofacjgofgkpaaDoor

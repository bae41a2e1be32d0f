/-
  DERIVED. GIVEN WITH THE SEED: THE CARDS: each row of YtkoeddgbhohggaaDoorRows.lean that lists a variable, with what it lists TIED to the program's text (the seventh form; the later family's looks); each row that meets fmt, with fmt's text TOLD by the authors' own Lean function (tested against real Go, not proved from fmt's source: count such statements apart). THE CARD IS WHAT COUNTS. Prove the row's statement (the work); the ties are given (YtkoeddgbhohggaaDoorTie.lean); close each card by the builder's one call (the guide's Derived/Test/ToyasCard.lean, 'card_holds'). Laid BY PROGRAM, IN A SANDBOX (cutbox-door.mjs). By AI agents, Wed Nov 11 2026. No macro, syntax, notation, axiom, sorry.
-/
import Derived.Test.YtkoeddgbhohggaaDoorRows
import GoSem.ClaimSeven
namespace Go.Proofs.YtkoeddgbhohggaaDoor
namespace Rows

/-- THE TIED CARD OF 'vinculumlaw08.ConvPlaces'. -/
def convPlacesCard : Claim7 := { stood := { row := convPlacesRow, standIns := [], harness := (true, "f219390e10c2be7f1a461df63a72337bebb3ebe408fb4914cc742d9b5b75fea2"), looks := false }, kinds := [], alts := [], laidByText := true, laidKinds := [.data], laidTests := true, laidLooks := .later }
def ConvPlacesCardSaid : Prop := Claim7.holds Tryd.pinned (.plain (OpenSpec.ofChange convPlacesSpec)) convPlacesCard

/-- THE TIED CARD OF 'vinculumlaw08.ConvLong'. -/
def convLongCard : Claim7 := { stood := { row := convLongRow, standIns := [], harness := (true, "f219390e10c2be7f1a461df63a72337bebb3ebe408fb4914cc742d9b5b75fea2"), looks := false }, kinds := [], alts := [], laidByText := true, laidKinds := [.data], laidTests := true, laidLooks := .later }
def ConvLongCardSaid : Prop := Claim7.holds Tryd.pinned (.plain (OpenSpec.ofChange convLongSpec)) convLongCard

/-- THE TIED CARD OF 'vinculumlaw08.ConvGreat'. -/
def convGreatCard : Claim7 := { stood := { row := convGreatRow, standIns := [], harness := (true, "f219390e10c2be7f1a461df63a72337bebb3ebe408fb4914cc742d9b5b75fea2"), looks := false }, kinds := [], alts := [], laidByText := true, laidKinds := [.data], laidTests := true, laidLooks := .later }
def ConvGreatCardSaid : Prop := Claim7.holds Tryd.pinned (.plain (OpenSpec.ofChange convGreatSpec)) convGreatCard

/-- THE SECOND FORM's CARD OF 'vinculumlaw08.ConvPlaces'. -/
def convPlacesUptoCard : Claim7 := { stood := { row := convPlacesUptoRow, standIns := [], harness := (true, "f219390e10c2be7f1a461df63a72337bebb3ebe408fb4914cc742d9b5b75fea2"), looks := false }, kinds := [], alts := [], laidByText := true, laidKinds := [.data], laidTests := true, laidLooks := .later }
def ConvPlacesUptoCardSaid : Prop := Claim7.holds Tryd.pinned (.plain (OpenSpec.upto convPlacesSpec)) convPlacesUptoCard

/-- THE SECOND FORM's CARD OF 'vinculumlaw08.ConvLong'. -/
def convLongUptoCard : Claim7 := { stood := { row := convLongUptoRow, standIns := [], harness := (true, "f219390e10c2be7f1a461df63a72337bebb3ebe408fb4914cc742d9b5b75fea2"), looks := false }, kinds := [], alts := [], laidByText := true, laidKinds := [.data], laidTests := true, laidLooks := .later }
def ConvLongUptoCardSaid : Prop := Claim7.holds Tryd.pinned (.plain (OpenSpec.upto convLongSpec)) convLongUptoCard

/-- THE SECOND FORM's CARD OF 'vinculumlaw08.ConvGreat'. -/
def convGreatUptoCard : Claim7 := { stood := { row := convGreatUptoRow, standIns := [], harness := (true, "f219390e10c2be7f1a461df63a72337bebb3ebe408fb4914cc742d9b5b75fea2"), looks := false }, kinds := [], alts := [], laidByText := true, laidKinds := [.data], laidTests := true, laidLooks := .later }
def ConvGreatUptoCardSaid : Prop := Claim7.holds Tryd.pinned (.plain (OpenSpec.upto convGreatSpec)) convGreatUptoCard
end Rows
end Go.Proofs.YtkoeddgbhohggaaDoor

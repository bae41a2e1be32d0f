/-
  DERIVED. GIVEN WITH THE SEED: THE CARDS: each row of YtkoeddgbhohggaaGreatDoorRows.lean that lists a variable, with what it lists TIED to the program's text (the seventh form; the later family's looks); each row that meets fmt, with fmt's text TOLD by the authors' own Lean function (tested against real Go, not proved from fmt's source: count such statements apart). THE CARD IS WHAT COUNTS. Prove the row's statement (the work); the ties are given (YtkoeddgbhohggaaGreatDoorTie.lean); close each card by the builder's one call (the guide's Derived/Test/ToyasCard.lean, 'card_holds'). Laid BY PROGRAM, IN A SANDBOX (cutbox-door.mjs). By AI agents, Wed Nov 11 2026. No macro, syntax, notation, axiom, sorry.
-/
import Derived.Test.YtkoeddgbhohggaaGreatDoorRows
import GoSem.ClaimSeven
namespace Go.Proofs.YtkoeddgbhohggaaGreatDoor
namespace Rows

/-- THE TIED CARD OF 'vinculumlaw08.ConvMuls'. -/
def convMulsCard : Claim7 := { stood := { row := convMulsRow, standIns := [], harness := (true, "df9454848c43f0eeda4cdf58ea61ec2b05e7d0c87edd58dbb3d4fb1d8f3d6b60"), looks := false }, kinds := [], alts := [], laidByText := true, laidKinds := [.data], laidTests := true, laidLooks := .later }
def ConvMulsCardSaid : Prop := Claim7.holds Tryz.pinned (.plain (OpenSpec.ofChange convMulsSpec)) convMulsCard

/-- THE TIED CARD OF 'vinculumlaw08.ConvExact'. -/
def convExactCard : Claim7 := { stood := { row := convExactRow, standIns := [], harness := (true, "df9454848c43f0eeda4cdf58ea61ec2b05e7d0c87edd58dbb3d4fb1d8f3d6b60"), looks := false }, kinds := [], alts := [], laidByText := true, laidKinds := [.data], laidTests := true, laidLooks := .later }
def ConvExactCardSaid : Prop := Claim7.holds Tryz.pinned (.plain (OpenSpec.ofChange convExactSpec)) convExactCard

/-- THE TIED CARD OF 'vinculumlaw08.ConvWidens'. -/
def convWidensCard : Claim7 := { stood := { row := convWidensRow, standIns := [], harness := (true, "df9454848c43f0eeda4cdf58ea61ec2b05e7d0c87edd58dbb3d4fb1d8f3d6b60"), looks := false }, kinds := [], alts := [], laidByText := true, laidKinds := [.data], laidTests := true, laidLooks := .later }
def ConvWidensCardSaid : Prop := Claim7.holds Tryz.pinned (.plain (OpenSpec.ofChange convWidensSpec)) convWidensCard

/-- THE TIED CARD OF 'vinculumlaw08.ConvBoxes'. -/
def convBoxesCard : Claim7 := { stood := { row := convBoxesRow, standIns := [], harness := (true, "df9454848c43f0eeda4cdf58ea61ec2b05e7d0c87edd58dbb3d4fb1d8f3d6b60"), looks := false }, kinds := [], alts := [], laidByText := true, laidKinds := [.data], laidTests := true, laidLooks := .later }
def ConvBoxesCardSaid : Prop := Claim7.holds Tryz.pinned (.plain (OpenSpec.ofChange convBoxesSpec)) convBoxesCard

/-- THE TIED CARD OF 'vinculumlaw08.ConvSame'. -/
def convSameCard : Claim7 := { stood := { row := convSameRow, standIns := [], harness := (true, "df9454848c43f0eeda4cdf58ea61ec2b05e7d0c87edd58dbb3d4fb1d8f3d6b60"), looks := false }, kinds := [], alts := [], laidByText := true, laidKinds := [.data], laidTests := true, laidLooks := .later }
def ConvSameCardSaid : Prop := Claim7.holds Tryz.pinned (.plain (OpenSpec.ofChange convSameSpec)) convSameCard

/-- THE SECOND FORM's CARD OF 'vinculumlaw08.ConvMuls'. -/
def convMulsUptoCard : Claim7 := { stood := { row := convMulsUptoRow, standIns := [], harness := (true, "df9454848c43f0eeda4cdf58ea61ec2b05e7d0c87edd58dbb3d4fb1d8f3d6b60"), looks := false }, kinds := [], alts := [], laidByText := true, laidKinds := [.data], laidTests := true, laidLooks := .later }
def ConvMulsUptoCardSaid : Prop := Claim7.holds Tryz.pinned (.plain (OpenSpec.upto convMulsSpec)) convMulsUptoCard

/-- THE SECOND FORM's CARD OF 'vinculumlaw08.ConvExact'. -/
def convExactUptoCard : Claim7 := { stood := { row := convExactUptoRow, standIns := [], harness := (true, "df9454848c43f0eeda4cdf58ea61ec2b05e7d0c87edd58dbb3d4fb1d8f3d6b60"), looks := false }, kinds := [], alts := [], laidByText := true, laidKinds := [.data], laidTests := true, laidLooks := .later }
def ConvExactUptoCardSaid : Prop := Claim7.holds Tryz.pinned (.plain (OpenSpec.upto convExactSpec)) convExactUptoCard

/-- THE SECOND FORM's CARD OF 'vinculumlaw08.ConvWidens'. -/
def convWidensUptoCard : Claim7 := { stood := { row := convWidensUptoRow, standIns := [], harness := (true, "df9454848c43f0eeda4cdf58ea61ec2b05e7d0c87edd58dbb3d4fb1d8f3d6b60"), looks := false }, kinds := [], alts := [], laidByText := true, laidKinds := [.data], laidTests := true, laidLooks := .later }
def ConvWidensUptoCardSaid : Prop := Claim7.holds Tryz.pinned (.plain (OpenSpec.upto convWidensSpec)) convWidensUptoCard

/-- THE SECOND FORM's CARD OF 'vinculumlaw08.ConvBoxes'. -/
def convBoxesUptoCard : Claim7 := { stood := { row := convBoxesUptoRow, standIns := [], harness := (true, "df9454848c43f0eeda4cdf58ea61ec2b05e7d0c87edd58dbb3d4fb1d8f3d6b60"), looks := false }, kinds := [], alts := [], laidByText := true, laidKinds := [.data], laidTests := true, laidLooks := .later }
def ConvBoxesUptoCardSaid : Prop := Claim7.holds Tryz.pinned (.plain (OpenSpec.upto convBoxesSpec)) convBoxesUptoCard

/-- THE SECOND FORM's CARD OF 'vinculumlaw08.ConvSame'. -/
def convSameUptoCard : Claim7 := { stood := { row := convSameUptoRow, standIns := [], harness := (true, "df9454848c43f0eeda4cdf58ea61ec2b05e7d0c87edd58dbb3d4fb1d8f3d6b60"), looks := false }, kinds := [], alts := [], laidByText := true, laidKinds := [.data], laidTests := true, laidLooks := .later }
def ConvSameUptoCardSaid : Prop := Claim7.holds Tryz.pinned (.plain (OpenSpec.upto convSameSpec)) convSameUptoCard
end Rows
end Go.Proofs.YtkoeddgbhohggaaGreatDoor

/-
  DERIVED. GIVEN WITH THE SEED: THE CARDS: each row of YtdomplmilbkaeaaDoorRows.lean that lists a variable, with what it lists TIED to the program's text (the seventh form; the later family's looks); each row that meets fmt, with fmt's text TOLD by the authors' own Lean function (tested against real Go, not proved from fmt's source: count such statements apart). THE CARD IS WHAT COUNTS. Prove the row's statement (the work); the ties are given (YtdomplmilbkaeaaDoorTie.lean); close each card by the builder's one call (the guide's Derived/Test/ToyasCard.lean, 'card_holds'). Laid BY PROGRAM, IN A SANDBOX (cutbox-door.mjs). By AI agents, Wed Nov 11 2026. No macro, syntax, notation, axiom, sorry.
-/
import Derived.Test.YtdomplmilbkaeaaDoorRows
import GoSem.ClaimSeven
namespace Go.Proofs.YtdomplmilbkaeaaDoor
namespace Rows

/-- THE TIED CARD OF 'vinculumlaw01.NatDivides'. -/
def natDividesCard : Claim7 := { stood := { row := natDividesRow, standIns := [], harness := (true, "f9fc80603708ca94ce9a6c07bf8a38f8df46d1cb9477b9cd0c85aab2bceb2c27"), looks := false }, kinds := [], alts := [], laidByText := true, laidKinds := [.data, .pinned], laidTests := true, laidLooks := .later }
def NatDividesCardSaid : Prop := Claim7.holds Tryd.pinned (.plain (OpenSpec.ofChange natDividesSpec)) natDividesCard

/-- THE TIED CARD OF 'vinculumlaw01.NatTexts'. -/
def natTextsCard : Claim7 := { stood := { row := natTextsRow, standIns := [], harness := (true, "f9fc80603708ca94ce9a6c07bf8a38f8df46d1cb9477b9cd0c85aab2bceb2c27"), looks := false }, kinds := [], alts := [], laidByText := true, laidKinds := [.data, .pinned], laidTests := true, laidLooks := .later }
def NatTextsCardSaid : Prop := Claim7.holds Tryd.pinned (.plain (OpenSpec.ofChange natTextsSpec)) natTextsCard

/-- THE TIED CARD OF 'vinculumlaw01.NatRing'. -/
def natRingCard : Claim7 := { stood := { row := natRingRow, standIns := [], harness := (true, "f9fc80603708ca94ce9a6c07bf8a38f8df46d1cb9477b9cd0c85aab2bceb2c27"), looks := false }, kinds := [], alts := [], laidByText := true, laidKinds := [.data, .pinned], laidTests := true, laidLooks := .later }
def NatRingCardSaid : Prop := Claim7.holds Tryd.pinned (.plain (OpenSpec.ofChange natRingSpec)) natRingCard

/-- THE TIED CARD OF 'vinculumlaw01.NatGcds'. -/
def natGcdsCard : Claim7 := { stood := { row := natGcdsRow, standIns := [], harness := (true, "f9fc80603708ca94ce9a6c07bf8a38f8df46d1cb9477b9cd0c85aab2bceb2c27"), looks := false }, kinds := [], alts := [], laidByText := true, laidKinds := [.data, .pinned], laidTests := true, laidLooks := .later }
def NatGcdsCardSaid : Prop := Claim7.holds Tryd.pinned (.plain (OpenSpec.ofChange natGcdsSpec)) natGcdsCard

/-- THE TIED CARD OF 'vinculumlaw01.NatAdds'. -/
def natAddsCard : Claim7 := { stood := { row := natAddsRow, standIns := [], harness := (true, "f9fc80603708ca94ce9a6c07bf8a38f8df46d1cb9477b9cd0c85aab2bceb2c27"), looks := false }, kinds := [], alts := [], laidByText := true, laidKinds := [.data, .pinned], laidTests := true, laidLooks := .later }
def NatAddsCardSaid : Prop := Claim7.holds Tryd.pinned (.plain (OpenSpec.ofChange natAddsSpec)) natAddsCard

/-- THE TIED CARD OF 'vinculumlaw01.NatBack'. -/
def natBackCard : Claim7 := { stood := { row := natBackRow, standIns := [], harness := (true, "f9fc80603708ca94ce9a6c07bf8a38f8df46d1cb9477b9cd0c85aab2bceb2c27"), looks := false }, kinds := [], alts := [], laidByText := true, laidKinds := [.data, .pinned], laidTests := true, laidLooks := .later }
def NatBackCardSaid : Prop := Claim7.holds Tryd.pinned (.plain (OpenSpec.ofChange natBackSpec)) natBackCard

/-- THE TIED CARD OF 'vinculumlaw01.NatMoves'. -/
def natMovesCard : Claim7 := { stood := { row := natMovesRow, standIns := [], harness := (true, "f9fc80603708ca94ce9a6c07bf8a38f8df46d1cb9477b9cd0c85aab2bceb2c27"), looks := false }, kinds := [], alts := [], laidByText := true, laidKinds := [.data, .pinned], laidTests := true, laidLooks := .later }
def NatMovesCardSaid : Prop := Claim7.holds Tryd.pinned (.plain (OpenSpec.ofChange natMovesSpec)) natMovesCard

/-- THE TIED CARD OF 'vinculumlaw01.NatMuls'. -/
def natMulsCard : Claim7 := { stood := { row := natMulsRow, standIns := [], harness := (true, "f9fc80603708ca94ce9a6c07bf8a38f8df46d1cb9477b9cd0c85aab2bceb2c27"), looks := false }, kinds := [], alts := [], laidByText := true, laidKinds := [.data, .pinned], laidTests := true, laidLooks := .later }
def NatMulsCardSaid : Prop := Claim7.holds Tryd.pinned (.plain (OpenSpec.ofChange natMulsSpec)) natMulsCard

/-- THE TIED CARD OF 'vinculumlaw01.NatHalves'. -/
def natHalvesCard : Claim7 := { stood := { row := natHalvesRow, standIns := [], harness := (true, "f9fc80603708ca94ce9a6c07bf8a38f8df46d1cb9477b9cd0c85aab2bceb2c27"), looks := false }, kinds := [], alts := [], laidByText := true, laidKinds := [.data, .pinned], laidTests := true, laidLooks := .later }
def NatHalvesCardSaid : Prop := Claim7.holds Tryd.pinned (.plain (OpenSpec.ofChange natHalvesSpec)) natHalvesCard

/-- THE TIED CARD OF 'vinculumlaw01.NatOwn'. -/
def natOwnCard : Claim7 := { stood := { row := natOwnRow, standIns := [], harness := (true, "f9fc80603708ca94ce9a6c07bf8a38f8df46d1cb9477b9cd0c85aab2bceb2c27"), looks := false }, kinds := [], alts := [], laidByText := true, laidKinds := [.data, .pinned], laidTests := true, laidLooks := .later }
def NatOwnCardSaid : Prop := Claim7.holds Tryd.pinned (.plain (OpenSpec.ofChange natOwnSpec)) natOwnCard

/-- THE SECOND FORM's CARD OF 'vinculumlaw01.NatDivides'. -/
def natDividesUptoCard : Claim7 := { stood := { row := natDividesUptoRow, standIns := [], harness := (true, "f9fc80603708ca94ce9a6c07bf8a38f8df46d1cb9477b9cd0c85aab2bceb2c27"), looks := false }, kinds := [], alts := [], laidByText := true, laidKinds := [.data, .pinned], laidTests := true, laidLooks := .later }
def NatDividesUptoCardSaid : Prop := Claim7.holds Tryd.pinned (.plain (OpenSpec.upto natDividesSpec)) natDividesUptoCard

/-- THE SECOND FORM's CARD OF 'vinculumlaw01.NatTexts'. -/
def natTextsUptoCard : Claim7 := { stood := { row := natTextsUptoRow, standIns := [], harness := (true, "f9fc80603708ca94ce9a6c07bf8a38f8df46d1cb9477b9cd0c85aab2bceb2c27"), looks := false }, kinds := [], alts := [], laidByText := true, laidKinds := [.data, .pinned], laidTests := true, laidLooks := .later }
def NatTextsUptoCardSaid : Prop := Claim7.holds Tryd.pinned (.plain (OpenSpec.upto natTextsSpec)) natTextsUptoCard

/-- THE SECOND FORM's CARD OF 'vinculumlaw01.NatRing'. -/
def natRingUptoCard : Claim7 := { stood := { row := natRingUptoRow, standIns := [], harness := (true, "f9fc80603708ca94ce9a6c07bf8a38f8df46d1cb9477b9cd0c85aab2bceb2c27"), looks := false }, kinds := [], alts := [], laidByText := true, laidKinds := [.data, .pinned], laidTests := true, laidLooks := .later }
def NatRingUptoCardSaid : Prop := Claim7.holds Tryd.pinned (.plain (OpenSpec.upto natRingSpec)) natRingUptoCard

/-- THE SECOND FORM's CARD OF 'vinculumlaw01.NatGcds'. -/
def natGcdsUptoCard : Claim7 := { stood := { row := natGcdsUptoRow, standIns := [], harness := (true, "f9fc80603708ca94ce9a6c07bf8a38f8df46d1cb9477b9cd0c85aab2bceb2c27"), looks := false }, kinds := [], alts := [], laidByText := true, laidKinds := [.data, .pinned], laidTests := true, laidLooks := .later }
def NatGcdsUptoCardSaid : Prop := Claim7.holds Tryd.pinned (.plain (OpenSpec.upto natGcdsSpec)) natGcdsUptoCard

/-- THE SECOND FORM's CARD OF 'vinculumlaw01.NatAdds'. -/
def natAddsUptoCard : Claim7 := { stood := { row := natAddsUptoRow, standIns := [], harness := (true, "f9fc80603708ca94ce9a6c07bf8a38f8df46d1cb9477b9cd0c85aab2bceb2c27"), looks := false }, kinds := [], alts := [], laidByText := true, laidKinds := [.data, .pinned], laidTests := true, laidLooks := .later }
def NatAddsUptoCardSaid : Prop := Claim7.holds Tryd.pinned (.plain (OpenSpec.upto natAddsSpec)) natAddsUptoCard

/-- THE SECOND FORM's CARD OF 'vinculumlaw01.NatBack'. -/
def natBackUptoCard : Claim7 := { stood := { row := natBackUptoRow, standIns := [], harness := (true, "f9fc80603708ca94ce9a6c07bf8a38f8df46d1cb9477b9cd0c85aab2bceb2c27"), looks := false }, kinds := [], alts := [], laidByText := true, laidKinds := [.data, .pinned], laidTests := true, laidLooks := .later }
def NatBackUptoCardSaid : Prop := Claim7.holds Tryd.pinned (.plain (OpenSpec.upto natBackSpec)) natBackUptoCard

/-- THE SECOND FORM's CARD OF 'vinculumlaw01.NatMoves'. -/
def natMovesUptoCard : Claim7 := { stood := { row := natMovesUptoRow, standIns := [], harness := (true, "f9fc80603708ca94ce9a6c07bf8a38f8df46d1cb9477b9cd0c85aab2bceb2c27"), looks := false }, kinds := [], alts := [], laidByText := true, laidKinds := [.data, .pinned], laidTests := true, laidLooks := .later }
def NatMovesUptoCardSaid : Prop := Claim7.holds Tryd.pinned (.plain (OpenSpec.upto natMovesSpec)) natMovesUptoCard

/-- THE SECOND FORM's CARD OF 'vinculumlaw01.NatMuls'. -/
def natMulsUptoCard : Claim7 := { stood := { row := natMulsUptoRow, standIns := [], harness := (true, "f9fc80603708ca94ce9a6c07bf8a38f8df46d1cb9477b9cd0c85aab2bceb2c27"), looks := false }, kinds := [], alts := [], laidByText := true, laidKinds := [.data, .pinned], laidTests := true, laidLooks := .later }
def NatMulsUptoCardSaid : Prop := Claim7.holds Tryd.pinned (.plain (OpenSpec.upto natMulsSpec)) natMulsUptoCard

/-- THE SECOND FORM's CARD OF 'vinculumlaw01.NatHalves'. -/
def natHalvesUptoCard : Claim7 := { stood := { row := natHalvesUptoRow, standIns := [], harness := (true, "f9fc80603708ca94ce9a6c07bf8a38f8df46d1cb9477b9cd0c85aab2bceb2c27"), looks := false }, kinds := [], alts := [], laidByText := true, laidKinds := [.data, .pinned], laidTests := true, laidLooks := .later }
def NatHalvesUptoCardSaid : Prop := Claim7.holds Tryd.pinned (.plain (OpenSpec.upto natHalvesSpec)) natHalvesUptoCard

/-- THE SECOND FORM's CARD OF 'vinculumlaw01.NatOwn'. -/
def natOwnUptoCard : Claim7 := { stood := { row := natOwnUptoRow, standIns := [], harness := (true, "f9fc80603708ca94ce9a6c07bf8a38f8df46d1cb9477b9cd0c85aab2bceb2c27"), looks := false }, kinds := [], alts := [], laidByText := true, laidKinds := [.data, .pinned], laidTests := true, laidLooks := .later }
def NatOwnUptoCardSaid : Prop := Claim7.holds Tryd.pinned (.plain (OpenSpec.upto natOwnSpec)) natOwnUptoCard
end Rows
end Go.Proofs.YtdomplmilbkaeaaDoor

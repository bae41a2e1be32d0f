/-
  DERIVED. GIVEN WITH THE SEED: THE CARDS: each row of YtgaedjdmbpkejaaDoorRows.lean that lists a variable, with what it lists TIED to the program's text (the seventh form; the later family's looks); each row that meets fmt, with fmt's text TOLD by the authors' own Lean function (tested against real Go, not proved from fmt's source: count such statements apart). THE CARD IS WHAT COUNTS. Prove the row's statement (the work); the ties are given (YtgaedjdmbpkejaaDoorTie.lean); close each card by the builder's one call (the guide's Derived/Test/ToyasCard.lean, 'card_holds'). Laid BY PROGRAM, IN A SANDBOX (cutbox-door.mjs). By AI agents, Wed Nov 11 2026. No macro, syntax, notation, axiom, sorry.
-/
import Derived.Test.YtgaedjdmbpkejaaDoorRows
import GoSem.ClaimSeven
namespace Go.Proofs.YtgaedjdmbpkejaaDoor
namespace Rows

/-- THE TIED CARD OF 'vinculumlaw06.NttValues'. -/
def nttValuesCard : Claim7 := { stood := { row := nttValuesRow, standIns := [], harness := (true, "fff0ffcb95041523f569ddb5ee5e7e752845a53118a7d2c94edccbc4deceaa63"), looks := false }, kinds := [], alts := [], laidByText := true, laidKinds := [.data], laidTests := true, laidLooks := .later }
def NttValuesCardSaid : Prop := Claim7.holds Tryd.pinned (.plain (OpenSpec.ofChange nttValuesSpec)) nttValuesCard

/-- THE TIED CARD OF 'vinculumlaw06.NttBack'. -/
def nttBackCard : Claim7 := { stood := { row := nttBackRow, standIns := [], harness := (true, "fff0ffcb95041523f569ddb5ee5e7e752845a53118a7d2c94edccbc4deceaa63"), looks := false }, kinds := [], alts := [], laidByText := true, laidKinds := [.data], laidTests := true, laidLooks := .later }
def NttBackCardSaid : Prop := Claim7.holds Tryd.pinned (.plain (OpenSpec.ofChange nttBackSpec)) nttBackCard

/-- THE TIED CARD OF 'vinculumlaw06.NttLinear'. -/
def nttLinearCard : Claim7 := { stood := { row := nttLinearRow, standIns := [], harness := (true, "fff0ffcb95041523f569ddb5ee5e7e752845a53118a7d2c94edccbc4deceaa63"), looks := false }, kinds := [], alts := [], laidByText := true, laidKinds := [.data], laidTests := true, laidLooks := .later }
def NttLinearCardSaid : Prop := Claim7.holds Tryd.pinned (.plain (OpenSpec.ofChange nttLinearSpec)) nttLinearCard

/-- THE TIED CARD OF 'vinculumlaw06.NttMakes'. -/
def nttMakesCard : Claim7 := { stood := { row := nttMakesRow, standIns := [], harness := (true, "fff0ffcb95041523f569ddb5ee5e7e752845a53118a7d2c94edccbc4deceaa63"), looks := false }, kinds := [], alts := [], laidByText := true, laidKinds := [.data], laidTests := true, laidLooks := .later }
def NttMakesCardSaid : Prop := Claim7.holds Tryd.pinned (.plain (OpenSpec.ofChange nttMakesSpec)) nttMakesCard

/-- THE TIED CARD OF 'vinculumlaw06.NttRounds'. -/
def nttRoundsCard : Claim7 := { stood := { row := nttRoundsRow, standIns := [], harness := (true, "fff0ffcb95041523f569ddb5ee5e7e752845a53118a7d2c94edccbc4deceaa63"), looks := false }, kinds := [], alts := [], laidByText := true, laidKinds := [.data], laidTests := true, laidLooks := .later }
def NttRoundsCardSaid : Prop := Claim7.holds Tryd.pinned (.plain (OpenSpec.ofChange nttRoundsSpec)) nttRoundsCard

/-- THE TIED CARD OF 'vinculumlaw06.NttNil'. -/
def nttNilCard : Claim7 := { stood := { row := nttNilRow, standIns := [], harness := (true, "fff0ffcb95041523f569ddb5ee5e7e752845a53118a7d2c94edccbc4deceaa63"), looks := false }, kinds := [], alts := [], laidByText := true, laidKinds := [.data], laidTests := true, laidLooks := .later }
def NttNilCardSaid : Prop := Claim7.holds Tryd.pinned (.plain (OpenSpec.ofChange nttNilSpec)) nttNilCard

/-- THE SECOND FORM's CARD OF 'vinculumlaw06.NttValues'. -/
def nttValuesUptoCard : Claim7 := { stood := { row := nttValuesUptoRow, standIns := [], harness := (true, "fff0ffcb95041523f569ddb5ee5e7e752845a53118a7d2c94edccbc4deceaa63"), looks := false }, kinds := [], alts := [], laidByText := true, laidKinds := [.data], laidTests := true, laidLooks := .later }
def NttValuesUptoCardSaid : Prop := Claim7.holds Tryd.pinned (.plain (OpenSpec.upto nttValuesSpec)) nttValuesUptoCard

/-- THE SECOND FORM's CARD OF 'vinculumlaw06.NttBack'. -/
def nttBackUptoCard : Claim7 := { stood := { row := nttBackUptoRow, standIns := [], harness := (true, "fff0ffcb95041523f569ddb5ee5e7e752845a53118a7d2c94edccbc4deceaa63"), looks := false }, kinds := [], alts := [], laidByText := true, laidKinds := [.data], laidTests := true, laidLooks := .later }
def NttBackUptoCardSaid : Prop := Claim7.holds Tryd.pinned (.plain (OpenSpec.upto nttBackSpec)) nttBackUptoCard

/-- THE SECOND FORM's CARD OF 'vinculumlaw06.NttLinear'. -/
def nttLinearUptoCard : Claim7 := { stood := { row := nttLinearUptoRow, standIns := [], harness := (true, "fff0ffcb95041523f569ddb5ee5e7e752845a53118a7d2c94edccbc4deceaa63"), looks := false }, kinds := [], alts := [], laidByText := true, laidKinds := [.data], laidTests := true, laidLooks := .later }
def NttLinearUptoCardSaid : Prop := Claim7.holds Tryd.pinned (.plain (OpenSpec.upto nttLinearSpec)) nttLinearUptoCard

/-- THE SECOND FORM's CARD OF 'vinculumlaw06.NttMakes'. -/
def nttMakesUptoCard : Claim7 := { stood := { row := nttMakesUptoRow, standIns := [], harness := (true, "fff0ffcb95041523f569ddb5ee5e7e752845a53118a7d2c94edccbc4deceaa63"), looks := false }, kinds := [], alts := [], laidByText := true, laidKinds := [.data], laidTests := true, laidLooks := .later }
def NttMakesUptoCardSaid : Prop := Claim7.holds Tryd.pinned (.plain (OpenSpec.upto nttMakesSpec)) nttMakesUptoCard

/-- THE SECOND FORM's CARD OF 'vinculumlaw06.NttRounds'. -/
def nttRoundsUptoCard : Claim7 := { stood := { row := nttRoundsUptoRow, standIns := [], harness := (true, "fff0ffcb95041523f569ddb5ee5e7e752845a53118a7d2c94edccbc4deceaa63"), looks := false }, kinds := [], alts := [], laidByText := true, laidKinds := [.data], laidTests := true, laidLooks := .later }
def NttRoundsUptoCardSaid : Prop := Claim7.holds Tryd.pinned (.plain (OpenSpec.upto nttRoundsSpec)) nttRoundsUptoCard

/-- THE SECOND FORM's CARD OF 'vinculumlaw06.NttNil'. -/
def nttNilUptoCard : Claim7 := { stood := { row := nttNilUptoRow, standIns := [], harness := (true, "fff0ffcb95041523f569ddb5ee5e7e752845a53118a7d2c94edccbc4deceaa63"), looks := false }, kinds := [], alts := [], laidByText := true, laidKinds := [.data], laidTests := true, laidLooks := .later }
def NttNilUptoCardSaid : Prop := Claim7.holds Tryd.pinned (.plain (OpenSpec.upto nttNilSpec)) nttNilUptoCard
end Rows
end Go.Proofs.YtgaedjdmbpkejaaDoor

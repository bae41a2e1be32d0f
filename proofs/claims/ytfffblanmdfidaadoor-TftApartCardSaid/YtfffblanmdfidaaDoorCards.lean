/-
  DERIVED. GIVEN WITH THE SEED: THE CARDS: each row of YtfffblanmdfidaaDoorRows.lean that lists a variable, with what it lists TIED to the program's text (the seventh form; the later family's looks); each row that meets fmt, with fmt's text TOLD by the authors' own Lean function (tested against real Go, not proved from fmt's source: count such statements apart). THE CARD IS WHAT COUNTS. Prove the row's statement (the work); the ties are given (YtfffblanmdfidaaDoorTie.lean); close each card by the builder's one call (the guide's Derived/Test/ToyasCard.lean, 'card_holds'). Laid BY PROGRAM, IN A SANDBOX (cutbox-door.mjs). By AI agents, Wed Nov 11 2026. No macro, syntax, notation, axiom, sorry.
-/
import Derived.Test.YtfffblanmdfidaaDoorRows
import GoSem.ClaimSeven
namespace Go.Proofs.YtfffblanmdfidaaDoor
namespace Rows

/-- THE TIED CARD OF 'vinculumlaw07.TftTurns'. -/
def tftTurnsCard : Claim7 := { stood := { row := tftTurnsRow, standIns := [], harness := (true, "9ccb65cb83754a89e69f49d453f504466ae2bdae143783297f8377c2f3d5728b"), looks := false }, kinds := [], alts := [], laidByText := true, laidKinds := [.data], laidTests := true, laidLooks := .later }
def TftTurnsCardSaid : Prop := Claim7.holds Tryd.pinned (.plain (OpenSpec.ofChange tftTurnsSpec)) tftTurnsCard

/-- THE TIED CARD OF 'vinculumlaw07.TftPoints'. -/
def tftPointsCard : Claim7 := { stood := { row := tftPointsRow, standIns := [], harness := (true, "9ccb65cb83754a89e69f49d453f504466ae2bdae143783297f8377c2f3d5728b"), looks := false }, kinds := [], alts := [], laidByText := true, laidKinds := [.data], laidTests := true, laidLooks := .later }
def TftPointsCardSaid : Prop := Claim7.holds Tryd.pinned (.plain (OpenSpec.ofChange tftPointsSpec)) tftPointsCard

/-- THE TIED CARD OF 'vinculumlaw07.TftValues'. -/
def tftValuesCard : Claim7 := { stood := { row := tftValuesRow, standIns := [], harness := (true, "9ccb65cb83754a89e69f49d453f504466ae2bdae143783297f8377c2f3d5728b"), looks := false }, kinds := [], alts := [], laidByText := true, laidKinds := [.data], laidTests := true, laidLooks := .later }
def TftValuesCardSaid : Prop := Claim7.holds Tryd.pinned (.plain (OpenSpec.ofChange tftValuesSpec)) tftValuesCard

/-- THE TIED CARD OF 'vinculumlaw07.TftFinds'. -/
def tftFindsCard : Claim7 := { stood := { row := tftFindsRow, standIns := [], harness := (true, "9ccb65cb83754a89e69f49d453f504466ae2bdae143783297f8377c2f3d5728b"), looks := false }, kinds := [], alts := [], laidByText := true, laidKinds := [.data], laidTests := true, laidLooks := .later }
def TftFindsCardSaid : Prop := Claim7.holds Tryd.pinned (.plain (OpenSpec.ofChange tftFindsSpec)) tftFindsCard

/-- THE TIED CARD OF 'vinculumlaw07.TftBack'. -/
def tftBackCard : Claim7 := { stood := { row := tftBackRow, standIns := [], harness := (true, "9ccb65cb83754a89e69f49d453f504466ae2bdae143783297f8377c2f3d5728b"), looks := false }, kinds := [], alts := [], laidByText := true, laidKinds := [.data], laidTests := true, laidLooks := .later }
def TftBackCardSaid : Prop := Claim7.holds Tryd.pinned (.plain (OpenSpec.ofChange tftBackSpec)) tftBackCard

/-- THE TIED CARD OF 'vinculumlaw07.TftApart'. -/
def tftApartCard : Claim7 := { stood := { row := tftApartRow, standIns := [], harness := (true, "9ccb65cb83754a89e69f49d453f504466ae2bdae143783297f8377c2f3d5728b"), looks := false }, kinds := [], alts := [], laidByText := true, laidKinds := [.data], laidTests := true, laidLooks := .later }
def TftApartCardSaid : Prop := Claim7.holds Tryd.pinned (.plain (OpenSpec.ofChange tftApartSpec)) tftApartCard

/-- THE TIED CARD OF 'vinculumlaw07.TftMuls'. -/
def tftMulsCard : Claim7 := { stood := { row := tftMulsRow, standIns := [], harness := (true, "9ccb65cb83754a89e69f49d453f504466ae2bdae143783297f8377c2f3d5728b"), looks := false }, kinds := [], alts := [], laidByText := true, laidKinds := [.data], laidTests := true, laidLooks := .later }
def TftMulsCardSaid : Prop := Claim7.holds Tryd.pinned (.plain (OpenSpec.ofChange tftMulsSpec)) tftMulsCard

/-- THE TIED CARD OF 'vinculumlaw07.TftNil'. -/
def tftNilCard : Claim7 := { stood := { row := tftNilRow, standIns := [], harness := (true, "9ccb65cb83754a89e69f49d453f504466ae2bdae143783297f8377c2f3d5728b"), looks := false }, kinds := [], alts := [], laidByText := true, laidKinds := [.data], laidTests := true, laidLooks := .later }
def TftNilCardSaid : Prop := Claim7.holds Tryd.pinned (.plain (OpenSpec.ofChange tftNilSpec)) tftNilCard

/-- THE SECOND FORM's CARD OF 'vinculumlaw07.TftTurns'. -/
def tftTurnsUptoCard : Claim7 := { stood := { row := tftTurnsUptoRow, standIns := [], harness := (true, "9ccb65cb83754a89e69f49d453f504466ae2bdae143783297f8377c2f3d5728b"), looks := false }, kinds := [], alts := [], laidByText := true, laidKinds := [.data], laidTests := true, laidLooks := .later }
def TftTurnsUptoCardSaid : Prop := Claim7.holds Tryd.pinned (.plain (OpenSpec.upto tftTurnsSpec)) tftTurnsUptoCard

/-- THE SECOND FORM's CARD OF 'vinculumlaw07.TftPoints'. -/
def tftPointsUptoCard : Claim7 := { stood := { row := tftPointsUptoRow, standIns := [], harness := (true, "9ccb65cb83754a89e69f49d453f504466ae2bdae143783297f8377c2f3d5728b"), looks := false }, kinds := [], alts := [], laidByText := true, laidKinds := [.data], laidTests := true, laidLooks := .later }
def TftPointsUptoCardSaid : Prop := Claim7.holds Tryd.pinned (.plain (OpenSpec.upto tftPointsSpec)) tftPointsUptoCard

/-- THE SECOND FORM's CARD OF 'vinculumlaw07.TftValues'. -/
def tftValuesUptoCard : Claim7 := { stood := { row := tftValuesUptoRow, standIns := [], harness := (true, "9ccb65cb83754a89e69f49d453f504466ae2bdae143783297f8377c2f3d5728b"), looks := false }, kinds := [], alts := [], laidByText := true, laidKinds := [.data], laidTests := true, laidLooks := .later }
def TftValuesUptoCardSaid : Prop := Claim7.holds Tryd.pinned (.plain (OpenSpec.upto tftValuesSpec)) tftValuesUptoCard

/-- THE SECOND FORM's CARD OF 'vinculumlaw07.TftFinds'. -/
def tftFindsUptoCard : Claim7 := { stood := { row := tftFindsUptoRow, standIns := [], harness := (true, "9ccb65cb83754a89e69f49d453f504466ae2bdae143783297f8377c2f3d5728b"), looks := false }, kinds := [], alts := [], laidByText := true, laidKinds := [.data], laidTests := true, laidLooks := .later }
def TftFindsUptoCardSaid : Prop := Claim7.holds Tryd.pinned (.plain (OpenSpec.upto tftFindsSpec)) tftFindsUptoCard

/-- THE SECOND FORM's CARD OF 'vinculumlaw07.TftBack'. -/
def tftBackUptoCard : Claim7 := { stood := { row := tftBackUptoRow, standIns := [], harness := (true, "9ccb65cb83754a89e69f49d453f504466ae2bdae143783297f8377c2f3d5728b"), looks := false }, kinds := [], alts := [], laidByText := true, laidKinds := [.data], laidTests := true, laidLooks := .later }
def TftBackUptoCardSaid : Prop := Claim7.holds Tryd.pinned (.plain (OpenSpec.upto tftBackSpec)) tftBackUptoCard

/-- THE SECOND FORM's CARD OF 'vinculumlaw07.TftApart'. -/
def tftApartUptoCard : Claim7 := { stood := { row := tftApartUptoRow, standIns := [], harness := (true, "9ccb65cb83754a89e69f49d453f504466ae2bdae143783297f8377c2f3d5728b"), looks := false }, kinds := [], alts := [], laidByText := true, laidKinds := [.data], laidTests := true, laidLooks := .later }
def TftApartUptoCardSaid : Prop := Claim7.holds Tryd.pinned (.plain (OpenSpec.upto tftApartSpec)) tftApartUptoCard

/-- THE SECOND FORM's CARD OF 'vinculumlaw07.TftMuls'. -/
def tftMulsUptoCard : Claim7 := { stood := { row := tftMulsUptoRow, standIns := [], harness := (true, "9ccb65cb83754a89e69f49d453f504466ae2bdae143783297f8377c2f3d5728b"), looks := false }, kinds := [], alts := [], laidByText := true, laidKinds := [.data], laidTests := true, laidLooks := .later }
def TftMulsUptoCardSaid : Prop := Claim7.holds Tryd.pinned (.plain (OpenSpec.upto tftMulsSpec)) tftMulsUptoCard

/-- THE SECOND FORM's CARD OF 'vinculumlaw07.TftNil'. -/
def tftNilUptoCard : Claim7 := { stood := { row := tftNilUptoRow, standIns := [], harness := (true, "9ccb65cb83754a89e69f49d453f504466ae2bdae143783297f8377c2f3d5728b"), looks := false }, kinds := [], alts := [], laidByText := true, laidKinds := [.data], laidTests := true, laidLooks := .later }
def TftNilUptoCardSaid : Prop := Claim7.holds Tryd.pinned (.plain (OpenSpec.upto tftNilSpec)) tftNilUptoCard
end Rows
end Go.Proofs.YtfffblanmdfidaaDoor

/-
  DERIVED. GIVEN WITH THE SEED: THE CARDS: each row of YtnlklfhgdefbaaaDoorRows.lean that lists a variable, with what it lists TIED to the program's text (the seventh form; the later family's looks); each row that meets fmt, with fmt's text TOLD by the authors' own Lean function (tested against real Go, not proved from fmt's source: count such statements apart). THE CARD IS WHAT COUNTS. Prove the row's statement (the work); the ties are given (YtnlklfhgdefbaaaDoorTie.lean); close each card by the builder's one call (the guide's Derived/Test/ToyasCard.lean, 'card_holds'). Laid BY PROGRAM, IN A SANDBOX (cutbox-door.mjs). By AI agents, Wed Nov 11 2026. No macro, syntax, notation, axiom, sorry.
-/
import Derived.Test.YtnlklfhgdefbaaaDoorRows
import GoSem.ClaimSeven
namespace Go.Proofs.YtnlklfhgdefbaaaDoor
namespace Rows

/-- THE TIED CARD OF 'vinculumlaw04.PrimeTells'. -/
def primeTellsCard : Claim7 := { stood := { row := primeTellsRow, standIns := [], harness := (true, "7361c0a8026fe708ff9577a8f69e88854b22db3cbe6795ab764feb299985f052"), looks := false }, kinds := [], alts := [], laidByText := true, laidKinds := [.data], laidTests := true, laidLooks := .later }
def PrimeTellsCardSaid : Prop := Claim7.holds Tryd.pinned (.plain (OpenSpec.ofChange primeTellsSpec)) primeTellsCard

/-- THE TIED CARD OF 'vinculumlaw04.PrimeTimes'. -/
def primeTimesCard : Claim7 := { stood := { row := primeTimesRow, standIns := [], harness := (true, "7361c0a8026fe708ff9577a8f69e88854b22db3cbe6795ab764feb299985f052"), looks := false }, kinds := [], alts := [], laidByText := true, laidKinds := [.data], laidTests := true, laidLooks := .later }
def PrimeTimesCardSaid : Prop := Claim7.holds Tryd.pinned (.plain (OpenSpec.ofChange primeTimesSpec)) primeTimesCard

/-- THE TIED CARD OF 'vinculumlaw04.PrimeProth'. -/
def primeProthCard : Claim7 := { stood := { row := primeProthRow, standIns := [], harness := (true, "7361c0a8026fe708ff9577a8f69e88854b22db3cbe6795ab764feb299985f052"), looks := false }, kinds := [], alts := [], laidByText := true, laidKinds := [.data], laidTests := true, laidLooks := .later }
def PrimeProthCardSaid : Prop := Claim7.holds Tryd.pinned (.plain (OpenSpec.ofChange primeProthSpec)) primeProthCard

/-- THE TIED CARD OF 'vinculumlaw04.PrimeFermat'. -/
def primeFermatCard : Claim7 := { stood := { row := primeFermatRow, standIns := [], harness := (true, "7361c0a8026fe708ff9577a8f69e88854b22db3cbe6795ab764feb299985f052"), looks := false }, kinds := [], alts := [], laidByText := true, laidKinds := [.data], laidTests := true, laidLooks := .later }
def PrimeFermatCardSaid : Prop := Claim7.holds Tryd.pinned (.plain (OpenSpec.ofChange primeFermatSpec)) primeFermatCard

/-- THE TIED CARD OF 'vinculumlaw04.PrimeNext'. -/
def primeNextCard : Claim7 := { stood := { row := primeNextRow, standIns := [], harness := (true, "7361c0a8026fe708ff9577a8f69e88854b22db3cbe6795ab764feb299985f052"), looks := false }, kinds := [], alts := [], laidByText := true, laidKinds := [.data], laidTests := true, laidLooks := .later }
def PrimeNextCardSaid : Prop := Claim7.holds Tryd.pinned (.plain (OpenSpec.ofChange primeNextSpec)) primeNextCard

/-- THE TIED CARD OF 'vinculumlaw04.PrimeScans'. -/
def primeScansCard : Claim7 := { stood := { row := primeScansRow, standIns := [], harness := (true, "7361c0a8026fe708ff9577a8f69e88854b22db3cbe6795ab764feb299985f052"), looks := false }, kinds := [], alts := [], laidByText := true, laidKinds := [.data], laidTests := true, laidLooks := .later }
def PrimeScansCardSaid : Prop := Claim7.holds Tryd.pinned (.plain (OpenSpec.ofChange primeScansSpec)) primeScansCard

/-- THE TIED CARD OF 'vinculumlaw04.PrimeGreat'. -/
def primeGreatCard : Claim7 := { stood := { row := primeGreatRow, standIns := [], harness := (true, "7361c0a8026fe708ff9577a8f69e88854b22db3cbe6795ab764feb299985f052"), looks := false }, kinds := [], alts := [], laidByText := true, laidKinds := [.data], laidTests := true, laidLooks := .later }
def PrimeGreatCardSaid : Prop := Claim7.holds Tryd.pinned (.plain (OpenSpec.ofChange primeGreatSpec)) primeGreatCard

/-- THE TIED CARD OF 'vinculumlaw04.PrimeRoots'. -/
def primeRootsCard : Claim7 := { stood := { row := primeRootsRow, standIns := [], harness := (true, "7361c0a8026fe708ff9577a8f69e88854b22db3cbe6795ab764feb299985f052"), looks := false }, kinds := [], alts := [], laidByText := true, laidKinds := [.data], laidTests := true, laidLooks := .later }
def PrimeRootsCardSaid : Prop := Claim7.holds Tryd.pinned (.plain (OpenSpec.ofChange primeRootsSpec)) primeRootsCard

/-- THE TIED CARD OF 'vinculumlaw04.PrimeOrders'. -/
def primeOrdersCard : Claim7 := { stood := { row := primeOrdersRow, standIns := [], harness := (true, "7361c0a8026fe708ff9577a8f69e88854b22db3cbe6795ab764feb299985f052"), looks := false }, kinds := [], alts := [], laidByText := true, laidKinds := [.data], laidTests := true, laidLooks := .later }
def PrimeOrdersCardSaid : Prop := Claim7.holds Tryd.pinned (.plain (OpenSpec.ofChange primeOrdersSpec)) primeOrdersCard

/-- THE SECOND FORM's CARD OF 'vinculumlaw04.PrimeTells'. -/
def primeTellsUptoCard : Claim7 := { stood := { row := primeTellsUptoRow, standIns := [], harness := (true, "7361c0a8026fe708ff9577a8f69e88854b22db3cbe6795ab764feb299985f052"), looks := false }, kinds := [], alts := [], laidByText := true, laidKinds := [.data], laidTests := true, laidLooks := .later }
def PrimeTellsUptoCardSaid : Prop := Claim7.holds Tryd.pinned (.plain (OpenSpec.upto primeTellsSpec)) primeTellsUptoCard

/-- THE SECOND FORM's CARD OF 'vinculumlaw04.PrimeTimes'. -/
def primeTimesUptoCard : Claim7 := { stood := { row := primeTimesUptoRow, standIns := [], harness := (true, "7361c0a8026fe708ff9577a8f69e88854b22db3cbe6795ab764feb299985f052"), looks := false }, kinds := [], alts := [], laidByText := true, laidKinds := [.data], laidTests := true, laidLooks := .later }
def PrimeTimesUptoCardSaid : Prop := Claim7.holds Tryd.pinned (.plain (OpenSpec.upto primeTimesSpec)) primeTimesUptoCard

/-- THE SECOND FORM's CARD OF 'vinculumlaw04.PrimeProth'. -/
def primeProthUptoCard : Claim7 := { stood := { row := primeProthUptoRow, standIns := [], harness := (true, "7361c0a8026fe708ff9577a8f69e88854b22db3cbe6795ab764feb299985f052"), looks := false }, kinds := [], alts := [], laidByText := true, laidKinds := [.data], laidTests := true, laidLooks := .later }
def PrimeProthUptoCardSaid : Prop := Claim7.holds Tryd.pinned (.plain (OpenSpec.upto primeProthSpec)) primeProthUptoCard

/-- THE SECOND FORM's CARD OF 'vinculumlaw04.PrimeFermat'. -/
def primeFermatUptoCard : Claim7 := { stood := { row := primeFermatUptoRow, standIns := [], harness := (true, "7361c0a8026fe708ff9577a8f69e88854b22db3cbe6795ab764feb299985f052"), looks := false }, kinds := [], alts := [], laidByText := true, laidKinds := [.data], laidTests := true, laidLooks := .later }
def PrimeFermatUptoCardSaid : Prop := Claim7.holds Tryd.pinned (.plain (OpenSpec.upto primeFermatSpec)) primeFermatUptoCard

/-- THE SECOND FORM's CARD OF 'vinculumlaw04.PrimeNext'. -/
def primeNextUptoCard : Claim7 := { stood := { row := primeNextUptoRow, standIns := [], harness := (true, "7361c0a8026fe708ff9577a8f69e88854b22db3cbe6795ab764feb299985f052"), looks := false }, kinds := [], alts := [], laidByText := true, laidKinds := [.data], laidTests := true, laidLooks := .later }
def PrimeNextUptoCardSaid : Prop := Claim7.holds Tryd.pinned (.plain (OpenSpec.upto primeNextSpec)) primeNextUptoCard

/-- THE SECOND FORM's CARD OF 'vinculumlaw04.PrimeScans'. -/
def primeScansUptoCard : Claim7 := { stood := { row := primeScansUptoRow, standIns := [], harness := (true, "7361c0a8026fe708ff9577a8f69e88854b22db3cbe6795ab764feb299985f052"), looks := false }, kinds := [], alts := [], laidByText := true, laidKinds := [.data], laidTests := true, laidLooks := .later }
def PrimeScansUptoCardSaid : Prop := Claim7.holds Tryd.pinned (.plain (OpenSpec.upto primeScansSpec)) primeScansUptoCard

/-- THE SECOND FORM's CARD OF 'vinculumlaw04.PrimeGreat'. -/
def primeGreatUptoCard : Claim7 := { stood := { row := primeGreatUptoRow, standIns := [], harness := (true, "7361c0a8026fe708ff9577a8f69e88854b22db3cbe6795ab764feb299985f052"), looks := false }, kinds := [], alts := [], laidByText := true, laidKinds := [.data], laidTests := true, laidLooks := .later }
def PrimeGreatUptoCardSaid : Prop := Claim7.holds Tryd.pinned (.plain (OpenSpec.upto primeGreatSpec)) primeGreatUptoCard

/-- THE SECOND FORM's CARD OF 'vinculumlaw04.PrimeRoots'. -/
def primeRootsUptoCard : Claim7 := { stood := { row := primeRootsUptoRow, standIns := [], harness := (true, "7361c0a8026fe708ff9577a8f69e88854b22db3cbe6795ab764feb299985f052"), looks := false }, kinds := [], alts := [], laidByText := true, laidKinds := [.data], laidTests := true, laidLooks := .later }
def PrimeRootsUptoCardSaid : Prop := Claim7.holds Tryd.pinned (.plain (OpenSpec.upto primeRootsSpec)) primeRootsUptoCard

/-- THE SECOND FORM's CARD OF 'vinculumlaw04.PrimeOrders'. -/
def primeOrdersUptoCard : Claim7 := { stood := { row := primeOrdersUptoRow, standIns := [], harness := (true, "7361c0a8026fe708ff9577a8f69e88854b22db3cbe6795ab764feb299985f052"), looks := false }, kinds := [], alts := [], laidByText := true, laidKinds := [.data], laidTests := true, laidLooks := .later }
def PrimeOrdersUptoCardSaid : Prop := Claim7.holds Tryd.pinned (.plain (OpenSpec.upto primeOrdersSpec)) primeOrdersUptoCard
end Rows
end Go.Proofs.YtnlklfhgdefbaaaDoor

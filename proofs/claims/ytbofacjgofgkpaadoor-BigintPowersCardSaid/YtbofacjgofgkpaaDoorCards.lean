/-
  DERIVED. GIVEN WITH THE SEED: THE CARDS: each row of YtbofacjgofgkpaaDoorRows.lean that lists a variable, with what it lists TIED to the program's text (the seventh form; the later family's looks); each row that meets fmt, with fmt's text TOLD by the authors' own Lean function (tested against real Go, not proved from fmt's source: count such statements apart). THE CARD IS WHAT COUNTS. Prove the row's statement (the work); the ties are given (YtbofacjgofgkpaaDoorTie.lean); close each card by the builder's one call (the guide's Derived/Test/ToyasCard.lean, 'card_holds'). Laid BY PROGRAM, IN A SANDBOX (cutbox-door.mjs). By AI agents, Wed Nov 11 2026. No macro, syntax, notation, axiom, sorry.
-/
import Derived.Test.YtbofacjgofgkpaaDoorRows
import GoSem.ClaimSeven
namespace Go.Proofs.YtbofacjgofgkpaaDoor
namespace Rows

/-- THE TIED CARD OF 'vinculumlaw02.BigintTexts'. -/
def bigintTextsCard : Claim7 := { stood := { row := bigintTextsRow, standIns := [], harness := (true, "f2d189f4091c9568295edec2a41ef8c3f80c1b93837b1a30ac8c12ee941cd2a0"), looks := false }, kinds := [], alts := [], laidByText := true, laidKinds := [.data, .pinned], laidTests := true, laidLooks := .later }
def BigintTextsCardSaid : Prop := Claim7.holds Tryd.pinned (.plain (OpenSpec.ofChange bigintTextsSpec)) bigintTextsCard

/-- THE TIED CARD OF 'vinculumlaw02.BigintGcds'. -/
def bigintGcdsCard : Claim7 := { stood := { row := bigintGcdsRow, standIns := [], harness := (true, "f2d189f4091c9568295edec2a41ef8c3f80c1b93837b1a30ac8c12ee941cd2a0"), looks := false }, kinds := [], alts := [], laidByText := true, laidKinds := [.data, .pinned], laidTests := true, laidLooks := .later }
def BigintGcdsCardSaid : Prop := Claim7.holds Tryd.pinned (.plain (OpenSpec.ofChange bigintGcdsSpec)) bigintGcdsCard

/-- THE TIED CARD OF 'vinculumlaw02.BigintRing'. -/
def bigintRingCard : Claim7 := { stood := { row := bigintRingRow, standIns := [], harness := (true, "f2d189f4091c9568295edec2a41ef8c3f80c1b93837b1a30ac8c12ee941cd2a0"), looks := false }, kinds := [], alts := [], laidByText := true, laidKinds := [.data, .pinned], laidTests := true, laidLooks := .later }
def BigintRingCardSaid : Prop := Claim7.holds Tryd.pinned (.plain (OpenSpec.ofChange bigintRingSpec)) bigintRingCard

/-- THE TIED CARD OF 'vinculumlaw02.BigintDivides'. -/
def bigintDividesCard : Claim7 := { stood := { row := bigintDividesRow, standIns := [], harness := (true, "f2d189f4091c9568295edec2a41ef8c3f80c1b93837b1a30ac8c12ee941cd2a0"), looks := false }, kinds := [], alts := [], laidByText := true, laidKinds := [.data, .pinned], laidTests := true, laidLooks := .later }
def BigintDividesCardSaid : Prop := Claim7.holds Tryd.pinned (.plain (OpenSpec.ofChange bigintDividesSpec)) bigintDividesCard

/-- THE TIED CARD OF 'vinculumlaw02.BigintBack'. -/
def bigintBackCard : Claim7 := { stood := { row := bigintBackRow, standIns := [], harness := (true, "f2d189f4091c9568295edec2a41ef8c3f80c1b93837b1a30ac8c12ee941cd2a0"), looks := false }, kinds := [], alts := [], laidByText := true, laidKinds := [.data, .pinned], laidTests := true, laidLooks := .later }
def BigintBackCardSaid : Prop := Claim7.holds Tryd.pinned (.plain (OpenSpec.ofChange bigintBackSpec)) bigintBackCard

/-- THE TIED CARD OF 'vinculumlaw02.BigintAdds'. -/
def bigintAddsCard : Claim7 := { stood := { row := bigintAddsRow, standIns := [], harness := (true, "f2d189f4091c9568295edec2a41ef8c3f80c1b93837b1a30ac8c12ee941cd2a0"), looks := false }, kinds := [], alts := [], laidByText := true, laidKinds := [.data, .pinned], laidTests := true, laidLooks := .later }
def BigintAddsCardSaid : Prop := Claim7.holds Tryd.pinned (.plain (OpenSpec.ofChange bigintAddsSpec)) bigintAddsCard

/-- THE TIED CARD OF 'vinculumlaw02.BigintPowers'. -/
def bigintPowersCard : Claim7 := { stood := { row := bigintPowersRow, standIns := [], harness := (true, "f2d189f4091c9568295edec2a41ef8c3f80c1b93837b1a30ac8c12ee941cd2a0"), looks := false }, kinds := [], alts := [], laidByText := true, laidKinds := [.data, .pinned], laidTests := true, laidLooks := .later }
def BigintPowersCardSaid : Prop := Claim7.holds Tryd.pinned (.plain (OpenSpec.ofChange bigintPowersSpec)) bigintPowersCard

/-- THE SECOND FORM's CARD OF 'vinculumlaw02.BigintTexts'. -/
def bigintTextsUptoCard : Claim7 := { stood := { row := bigintTextsUptoRow, standIns := [], harness := (true, "f2d189f4091c9568295edec2a41ef8c3f80c1b93837b1a30ac8c12ee941cd2a0"), looks := false }, kinds := [], alts := [], laidByText := true, laidKinds := [.data, .pinned], laidTests := true, laidLooks := .later }
def BigintTextsUptoCardSaid : Prop := Claim7.holds Tryd.pinned (.plain (OpenSpec.upto bigintTextsSpec)) bigintTextsUptoCard

/-- THE SECOND FORM's CARD OF 'vinculumlaw02.BigintGcds'. -/
def bigintGcdsUptoCard : Claim7 := { stood := { row := bigintGcdsUptoRow, standIns := [], harness := (true, "f2d189f4091c9568295edec2a41ef8c3f80c1b93837b1a30ac8c12ee941cd2a0"), looks := false }, kinds := [], alts := [], laidByText := true, laidKinds := [.data, .pinned], laidTests := true, laidLooks := .later }
def BigintGcdsUptoCardSaid : Prop := Claim7.holds Tryd.pinned (.plain (OpenSpec.upto bigintGcdsSpec)) bigintGcdsUptoCard

/-- THE SECOND FORM's CARD OF 'vinculumlaw02.BigintRing'. -/
def bigintRingUptoCard : Claim7 := { stood := { row := bigintRingUptoRow, standIns := [], harness := (true, "f2d189f4091c9568295edec2a41ef8c3f80c1b93837b1a30ac8c12ee941cd2a0"), looks := false }, kinds := [], alts := [], laidByText := true, laidKinds := [.data, .pinned], laidTests := true, laidLooks := .later }
def BigintRingUptoCardSaid : Prop := Claim7.holds Tryd.pinned (.plain (OpenSpec.upto bigintRingSpec)) bigintRingUptoCard

/-- THE SECOND FORM's CARD OF 'vinculumlaw02.BigintDivides'. -/
def bigintDividesUptoCard : Claim7 := { stood := { row := bigintDividesUptoRow, standIns := [], harness := (true, "f2d189f4091c9568295edec2a41ef8c3f80c1b93837b1a30ac8c12ee941cd2a0"), looks := false }, kinds := [], alts := [], laidByText := true, laidKinds := [.data, .pinned], laidTests := true, laidLooks := .later }
def BigintDividesUptoCardSaid : Prop := Claim7.holds Tryd.pinned (.plain (OpenSpec.upto bigintDividesSpec)) bigintDividesUptoCard

/-- THE SECOND FORM's CARD OF 'vinculumlaw02.BigintBack'. -/
def bigintBackUptoCard : Claim7 := { stood := { row := bigintBackUptoRow, standIns := [], harness := (true, "f2d189f4091c9568295edec2a41ef8c3f80c1b93837b1a30ac8c12ee941cd2a0"), looks := false }, kinds := [], alts := [], laidByText := true, laidKinds := [.data, .pinned], laidTests := true, laidLooks := .later }
def BigintBackUptoCardSaid : Prop := Claim7.holds Tryd.pinned (.plain (OpenSpec.upto bigintBackSpec)) bigintBackUptoCard

/-- THE SECOND FORM's CARD OF 'vinculumlaw02.BigintAdds'. -/
def bigintAddsUptoCard : Claim7 := { stood := { row := bigintAddsUptoRow, standIns := [], harness := (true, "f2d189f4091c9568295edec2a41ef8c3f80c1b93837b1a30ac8c12ee941cd2a0"), looks := false }, kinds := [], alts := [], laidByText := true, laidKinds := [.data, .pinned], laidTests := true, laidLooks := .later }
def BigintAddsUptoCardSaid : Prop := Claim7.holds Tryd.pinned (.plain (OpenSpec.upto bigintAddsSpec)) bigintAddsUptoCard

/-- THE SECOND FORM's CARD OF 'vinculumlaw02.BigintPowers'. -/
def bigintPowersUptoCard : Claim7 := { stood := { row := bigintPowersUptoRow, standIns := [], harness := (true, "f2d189f4091c9568295edec2a41ef8c3f80c1b93837b1a30ac8c12ee941cd2a0"), looks := false }, kinds := [], alts := [], laidByText := true, laidKinds := [.data, .pinned], laidTests := true, laidLooks := .later }
def BigintPowersUptoCardSaid : Prop := Claim7.holds Tryd.pinned (.plain (OpenSpec.upto bigintPowersSpec)) bigintPowersUptoCard
end Rows
end Go.Proofs.YtbofacjgofgkpaaDoor

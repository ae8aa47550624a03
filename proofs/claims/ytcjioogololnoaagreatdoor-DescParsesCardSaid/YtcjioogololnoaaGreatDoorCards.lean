/-
  DERIVED. GIVEN WITH THE SEED: THE CARDS: each row of YtcjioogololnoaaGreatDoorRows.lean that lists a variable, with what it lists TIED to the program's text (the seventh form; the later family's looks); each row that meets fmt, with fmt's text TOLD by the authors' own Lean function (tested against real Go, not proved from fmt's source: count such statements apart). THE CARD IS WHAT COUNTS. Prove the row's statement (the work); the ties are given (YtcjioogololnoaaGreatDoorTie.lean); close each card by the builder's one call (the guide's Derived/Test/ToyasCard.lean, 'card_holds'). Laid BY PROGRAM, IN A SANDBOX (cutbox-door.mjs). By AI agents, Wed Nov 11 2026. No macro, syntax, notation, axiom, sorry.
-/
import Derived.Test.YtcjioogololnoaaGreatDoorRows
import GoSem.ClaimSeven
namespace Go.Proofs.YtcjioogololnoaaGreatDoor
namespace Rows

/-- THE TIED CARD OF 'strongboxlaw20.DescParses'. -/
def descParsesCard : Claim7 := { stood := { row := descParsesRow, standIns := [], harness := (true, "4aef7aa8fe64e9aae84ae2c2f4cc4384f1dcc42bfe99c06f642fde0edc04d6ea"), looks := true }, kinds := [], alts := [], laidByText := true, laidKinds := [.data, .data, .data, .data, .sentinel, .sentinel, .pinned], laidTests := true, laidLooks := .later }
def DescParsesCardSaid : Prop := Claim7.holds Tryz.pinned (.plain (OpenSpec.ofChange descParsesSpec)) descParsesCard

/-- THE TIED CARD OF 'strongboxlaw20.DescChanged'. -/
def descChangedCard : Claim7 := { stood := { row := descChangedRow, standIns := [], harness := (true, "4aef7aa8fe64e9aae84ae2c2f4cc4384f1dcc42bfe99c06f642fde0edc04d6ea"), looks := true }, kinds := [], alts := [], laidByText := true, laidKinds := [.data, .data, .data, .data, .sentinel, .sentinel, .pinned], laidTests := true, laidLooks := .later }
def DescChangedCardSaid : Prop := Claim7.holds Tryz.pinned (.plain (OpenSpec.ofChange descChangedSpec)) descChangedCard

/-- THE SECOND FORM's CARD OF 'strongboxlaw20.DescParses'. -/
def descParsesUptoCard : Claim7 := { stood := { row := descParsesUptoRow, standIns := [], harness := (true, "4aef7aa8fe64e9aae84ae2c2f4cc4384f1dcc42bfe99c06f642fde0edc04d6ea"), looks := true }, kinds := [], alts := [], laidByText := true, laidKinds := [.data, .data, .data, .data, .sentinel, .sentinel, .pinned], laidTests := true, laidLooks := .later }
def DescParsesUptoCardSaid : Prop := Claim7.holds Tryz.pinned (.plain (OpenSpec.upto descParsesSpec)) descParsesUptoCard

/-- THE SECOND FORM's CARD OF 'strongboxlaw20.DescChanged'. -/
def descChangedUptoCard : Claim7 := { stood := { row := descChangedUptoRow, standIns := [], harness := (true, "4aef7aa8fe64e9aae84ae2c2f4cc4384f1dcc42bfe99c06f642fde0edc04d6ea"), looks := true }, kinds := [], alts := [], laidByText := true, laidKinds := [.data, .data, .data, .data, .sentinel, .sentinel, .pinned], laidTests := true, laidLooks := .later }
def DescChangedUptoCardSaid : Prop := Claim7.holds Tryz.pinned (.plain (OpenSpec.upto descChangedSpec)) descChangedUptoCard
end Rows
end Go.Proofs.YtcjioogololnoaaGreatDoor

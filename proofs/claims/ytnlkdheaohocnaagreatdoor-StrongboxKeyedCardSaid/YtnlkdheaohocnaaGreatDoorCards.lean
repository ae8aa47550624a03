/-
  DERIVED. GIVEN WITH THE SEED: THE CARDS: each row of YtnlkdheaohocnaaGreatDoorRows.lean that lists a variable, with what it lists TIED to the program's text (the seventh form; the later family's looks); each row that meets fmt, with fmt's text TOLD by the authors' own Lean function (tested against real Go, not proved from fmt's source: count such statements apart). THE CARD IS WHAT COUNTS. Prove the row's statement (the work); the ties are given (YtnlkdheaohocnaaGreatDoorTie.lean); close each card by the builder's one call (the guide's Derived/Test/ToyasCard.lean, 'card_holds'). Laid BY PROGRAM, IN A SANDBOX (cutbox-door.mjs). By AI agents, Wed Nov 11 2026. No macro, syntax, notation, axiom, sorry.
-/
import Derived.Test.YtnlkdheaohocnaaGreatDoorRows
import GoSem.ClaimSeven
namespace Go.Proofs.YtnlkdheaohocnaaGreatDoor
namespace Rows

/-- THE TIED CARD OF 'strongboxtop.StrongboxKeyed'. -/
def strongboxKeyedCard : Claim7 := { stood := { row := strongboxKeyedRow, standIns := [], harness := (true, "e8d31f02c035d7d2b250e01a1994955e4b46f5f8e17e660b8ef2b2fadd64258a"), looks := false }, kinds := [], alts := [], laidByText := true, laidKinds := [.data, .pinned], laidTests := true, laidLooks := .later }
def StrongboxKeyedCardSaid : Prop := Claim7.holds Tryz.pinned (.plain (OpenSpec.ofChange strongboxKeyedSpec)) strongboxKeyedCard

/-- THE SECOND FORM's CARD OF 'strongboxtop.StrongboxKeyed'. -/
def strongboxKeyedUptoCard : Claim7 := { stood := { row := strongboxKeyedUptoRow, standIns := [], harness := (true, "e8d31f02c035d7d2b250e01a1994955e4b46f5f8e17e660b8ef2b2fadd64258a"), looks := false }, kinds := [], alts := [], laidByText := true, laidKinds := [.data, .pinned], laidTests := true, laidLooks := .later }
def StrongboxKeyedUptoCardSaid : Prop := Claim7.holds Tryz.pinned (.plain (OpenSpec.upto strongboxKeyedSpec)) strongboxKeyedUptoCard
end Rows
end Go.Proofs.YtnlkdheaohocnaaGreatDoor

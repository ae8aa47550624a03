/-
  DERIVED. GIVEN WITH THE SEED: THE CARDS: each row of YtkiigonikeeikaaGreatDoorRows.lean that lists a variable, with what it lists TIED to the program's text (the seventh form; the later family's looks); each row that meets fmt, with fmt's text TOLD by the authors' own Lean function (tested against real Go, not proved from fmt's source: count such statements apart). THE CARD IS WHAT COUNTS. Prove the row's statement (the work); the ties are given (YtkiigonikeeikaaGreatDoorTie.lean); close each card by the builder's one call (the guide's Derived/Test/ToyasCard.lean, 'card_holds'). Laid BY PROGRAM, IN A SANDBOX (cutbox-door.mjs). By AI agents, Wed Nov 11 2026. No macro, syntax, notation, axiom, sorry.
-/
import Derived.Test.YtkiigonikeeikaaGreatDoorRows
import GoSem.ClaimSeven
namespace Go.Proofs.YtkiigonikeeikaaGreatDoor
namespace Rows

/-- THE TIED CARD OF 'strongboxtop.StrongboxAddressed'. -/
def strongboxAddressedCard : Claim7 := { stood := { row := strongboxAddressedRow, standIns := [], harness := (true, "2f6e7d2f8b9d8c386dd0cb3c0dd2b934bf0f0c2cbee0e8e122c3b3dda89a8370"), looks := true }, kinds := [], alts := [], laidByText := true, laidKinds := [.data, .pinned, .pinned], laidTests := true, laidLooks := .later }
def StrongboxAddressedCardSaid : Prop := Claim7.holds Tryz.pinned (.plain (OpenSpec.ofChange strongboxAddressedSpec)) strongboxAddressedCard

/-- THE SECOND FORM's CARD OF 'strongboxtop.StrongboxAddressed'. -/
def strongboxAddressedUptoCard : Claim7 := { stood := { row := strongboxAddressedUptoRow, standIns := [], harness := (true, "2f6e7d2f8b9d8c386dd0cb3c0dd2b934bf0f0c2cbee0e8e122c3b3dda89a8370"), looks := true }, kinds := [], alts := [], laidByText := true, laidKinds := [.data, .pinned, .pinned], laidTests := true, laidLooks := .later }
def StrongboxAddressedUptoCardSaid : Prop := Claim7.holds Tryz.pinned (.plain (OpenSpec.upto strongboxAddressedSpec)) strongboxAddressedUptoCard
end Rows
end Go.Proofs.YtkiigonikeeikaaGreatDoor

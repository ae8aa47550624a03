/-
  DERIVED. GIVEN WITH THE SEED: THE CARDS: each row of YtjbknfjcdmafaaaDoorRows.lean that lists a variable, with what it lists TIED to the program's text (the seventh form; the later family's looks); each row that meets fmt, with fmt's text TOLD by the authors' own Lean function (tested against real Go, not proved from fmt's source: count such statements apart). THE CARD IS WHAT COUNTS. Prove the row's statement (the work); the ties are given (YtjbknfjcdmafaaaDoorTie.lean); close each card by the builder's one call (the guide's Derived/Test/ToyasCard.lean, 'card_holds'). Laid BY PROGRAM, IN A SANDBOX (cutbox-door.mjs). By AI agents, Wed Nov 11 2026. No macro, syntax, notation, axiom, sorry.
-/
import Derived.Test.YtjbknfjcdmafaaaDoorRows
import GoSem.ClaimSeven
namespace Go.Proofs.YtjbknfjcdmafaaaDoor
namespace Rows

/-- THE TIED CARD OF 'strongboxtop.StrongboxTexts'. -/
def strongboxTextsCard : Claim7 := { stood := { row := strongboxTextsRow, standIns := [], harness := (true, "b6e7d771edb39285856047af025161576d2862011fcbd8fdc0f1e8d8abab09b2"), looks := false }, kinds := [], alts := [], laidByText := true, laidKinds := [.data, .pinned, .pinned], laidTests := true, laidLooks := .later }
def StrongboxTextsCardSaid : Prop := Claim7.holds Tryd.pinned (.plain (OpenSpec.ofChange strongboxTextsSpec)) strongboxTextsCard

/-- THE SECOND FORM's CARD OF 'strongboxtop.StrongboxTexts'. -/
def strongboxTextsUptoCard : Claim7 := { stood := { row := strongboxTextsUptoRow, standIns := [], harness := (true, "b6e7d771edb39285856047af025161576d2862011fcbd8fdc0f1e8d8abab09b2"), looks := false }, kinds := [], alts := [], laidByText := true, laidKinds := [.data, .pinned, .pinned], laidTests := true, laidLooks := .later }
def StrongboxTextsUptoCardSaid : Prop := Claim7.holds Tryd.pinned (.plain (OpenSpec.upto strongboxTextsSpec)) strongboxTextsUptoCard
end Rows
end Go.Proofs.YtjbknfjcdmafaaaDoor

/-
  DERIVED. GIVEN WITH THE SEED: THE CARDS: each row of YtmfligfcejhjaaaDoorRows.lean that lists a variable, with what it lists TIED to the program's text (the seventh form; the later family's looks); each row that meets fmt, with fmt's text TOLD by the authors' own Lean function (tested against real Go, not proved from fmt's source: count such statements apart). THE CARD IS WHAT COUNTS. Prove the row's statement (the work); the ties are given (YtmfligfcejhjaaaDoorTie.lean); close each card by the builder's one call (the guide's Derived/Test/ToyasCard.lean, 'card_holds'). Laid BY PROGRAM, IN A SANDBOX (cutbox-door.mjs). By AI agents, Wed Nov 11 2026. No macro, syntax, notation, axiom, sorry.
-/
import Derived.Test.YtmfligfcejhjaaaDoorRows
import GoSem.ClaimSeven
namespace Go.Proofs.YtmfligfcejhjaaaDoor
namespace Rows

/-- THE TIED CARD OF 'strongboxlaw03.TextBase58'. -/
def textBase58Card : Claim7 := { stood := { row := textBase58Row, standIns := [], harness := (true, "43b82e0cc617793a453cf086a09b7d7b86f1ce2a2254290982b4c3cad3497c61"), looks := false }, kinds := [], alts := [], laidByText := true, laidKinds := [.data, .pinned], laidTests := true, laidLooks := .later }
def TextBase58CardSaid : Prop := Claim7.holds Tryd.pinned (.plain (OpenSpec.ofChange textBase58Spec)) textBase58Card

/-- THE SECOND FORM's CARD OF 'strongboxlaw03.TextBase58'. -/
def textBase58UptoCard : Claim7 := { stood := { row := textBase58UptoRow, standIns := [], harness := (true, "43b82e0cc617793a453cf086a09b7d7b86f1ce2a2254290982b4c3cad3497c61"), looks := false }, kinds := [], alts := [], laidByText := true, laidKinds := [.data, .pinned], laidTests := true, laidLooks := .later }
def TextBase58UptoCardSaid : Prop := Claim7.holds Tryd.pinned (.plain (OpenSpec.upto textBase58Spec)) textBase58UptoCard
end Rows
end Go.Proofs.YtmfligfcejhjaaaDoor

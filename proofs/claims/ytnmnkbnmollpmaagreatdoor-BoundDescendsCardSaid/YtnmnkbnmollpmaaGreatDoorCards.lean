/-
  DERIVED. GIVEN WITH THE SEED: THE CARDS: each row of YtnmnkbnmollpmaaGreatDoorRows.lean that lists a variable, with what it lists TIED to the program's text (the seventh form; the later family's looks); each row that meets fmt, with fmt's text TOLD by the authors' own Lean function (tested against real Go, not proved from fmt's source: count such statements apart). THE CARD IS WHAT COUNTS. Prove the row's statement (the work); the ties are given (YtnmnkbnmollpmaaGreatDoorTie.lean); close each card by the builder's one call (the guide's Derived/Test/ToyasCard.lean, 'card_holds'). Laid BY PROGRAM, IN A SANDBOX (cutbox-door.mjs). By AI agents, Wed Nov 11 2026. No macro, syntax, notation, axiom, sorry.
-/
import Derived.Test.YtnmnkbnmollpmaaGreatDoorRows
import GoSem.ClaimSeven
namespace Go.Proofs.YtnmnkbnmollpmaaGreatDoor
namespace Rows

/-- THE TIED CARD OF 'triggerstorelaw31.BoundDescends'. -/
def boundDescendsCard : Claim7 := { stood := { row := boundDescendsRow, standIns := [], harness := (true, "8d95d63a020ea288dce8eaa5431f22eda3d69671a2d409ed21f86f137264a2e2"), looks := false }, kinds := [], alts := [], laidByText := true, laidKinds := [.data], laidTests := true, laidLooks := .later }
def BoundDescendsCardSaid : Prop := Claim7.holds Tryz.pinned (.plain (OpenSpec.ofChange boundDescendsSpec)) boundDescendsCard

/-- THE SECOND FORM's CARD OF 'triggerstorelaw31.BoundDescends'. -/
def boundDescendsUptoCard : Claim7 := { stood := { row := boundDescendsUptoRow, standIns := [], harness := (true, "8d95d63a020ea288dce8eaa5431f22eda3d69671a2d409ed21f86f137264a2e2"), looks := false }, kinds := [], alts := [], laidByText := true, laidKinds := [.data], laidTests := true, laidLooks := .later }
def BoundDescendsUptoCardSaid : Prop := Claim7.holds Tryz.pinned (.plain (OpenSpec.upto boundDescendsSpec)) boundDescendsUptoCard
end Rows
end Go.Proofs.YtnmnkbnmollpmaaGreatDoor

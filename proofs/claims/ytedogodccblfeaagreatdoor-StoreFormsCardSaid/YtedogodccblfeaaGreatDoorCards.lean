/-
  DERIVED. GIVEN WITH THE SEED: THE CARDS: each row of YtedogodccblfeaaGreatDoorRows.lean that lists a variable, with what it lists TIED to the program's text (the seventh form; the later family's looks); each row that meets fmt, with fmt's text TOLD by the authors' own Lean function (tested against real Go, not proved from fmt's source: count such statements apart). THE CARD IS WHAT COUNTS. Prove the row's statement (the work); the ties are given (YtedogodccblfeaaGreatDoorTie.lean); close each card by the builder's one call (the guide's Derived/Test/ToyasCard.lean, 'card_holds'). Laid BY PROGRAM, IN A SANDBOX (cutbox-door.mjs). By AI agents, Wed Nov 11 2026. No macro, syntax, notation, axiom, sorry.
-/
import Derived.Test.YtedogodccblfeaaGreatDoorRows
import GoSem.ClaimSeven
namespace Go.Proofs.YtedogodccblfeaaGreatDoor
namespace Rows

/-- THE TIED CARD OF 'triggerstorelaw22.EventCounts'. -/
def eventCountsCard : Claim7 := { stood := { row := eventCountsRow, standIns := [], harness := (true, "fd08e61ca239557ff4dc9549a3ddbb7086844a3561bb9bbb998dc2e445231ed9"), looks := false }, kinds := [], alts := [], laidByText := true, laidKinds := [.data, .data], laidTests := true, laidLooks := .later }
def EventCountsCardSaid : Prop := Claim7.holds Tryz.pinned (.plain (OpenSpec.ofChange eventCountsSpec)) eventCountsCard

/-- THE TIED CARD OF 'triggerstorelaw22.EventNone'. -/
def eventNoneCard : Claim7 := { stood := { row := eventNoneRow, standIns := [], harness := (true, "fd08e61ca239557ff4dc9549a3ddbb7086844a3561bb9bbb998dc2e445231ed9"), looks := false }, kinds := [], alts := [], laidByText := true, laidKinds := [.data, .data], laidTests := true, laidLooks := .later }
def EventNoneCardSaid : Prop := Claim7.holds Tryz.pinned (.plain (OpenSpec.ofChange eventNoneSpec)) eventNoneCard

/-- THE TIED CARD OF 'triggerstorelaw9.StoreUndoes'. -/
def storeUndoesCard : Claim7 := { stood := { row := storeUndoesRow, standIns := [], harness := (true, "fd08e61ca239557ff4dc9549a3ddbb7086844a3561bb9bbb998dc2e445231ed9"), looks := false }, kinds := [], alts := [], laidByText := true, laidKinds := [.data], laidTests := true, laidLooks := .later }
def StoreUndoesCardSaid : Prop := Claim7.holds Tryz.pinned (.plain (OpenSpec.ofChange storeUndoesSpec)) storeUndoesCard

/-- THE TIED CARD OF 'triggerstorelaw9.StoreDiffers'. -/
def storeDiffersCard : Claim7 := { stood := { row := storeDiffersRow, standIns := [], harness := (true, "fd08e61ca239557ff4dc9549a3ddbb7086844a3561bb9bbb998dc2e445231ed9"), looks := false }, kinds := [], alts := [], laidByText := true, laidKinds := [.data], laidTests := true, laidLooks := .later }
def StoreDiffersCardSaid : Prop := Claim7.holds Tryz.pinned (.plain (OpenSpec.ofChange storeDiffersSpec)) storeDiffersCard

/-- THE TIED CARD OF 'triggerstorelaw9.StoreForms'. -/
def storeFormsCard : Claim7 := { stood := { row := storeFormsRow, standIns := [], harness := (true, "fd08e61ca239557ff4dc9549a3ddbb7086844a3561bb9bbb998dc2e445231ed9"), looks := false }, kinds := [], alts := [], laidByText := true, laidKinds := [.data, .data], laidTests := true, laidLooks := .later }
def StoreFormsCardSaid : Prop := Claim7.holds Tryz.pinned (.plain (OpenSpec.ofChange storeFormsSpec)) storeFormsCard

/-- THE SECOND FORM's CARD OF 'triggerstorelaw22.EventCounts'. -/
def eventCountsUptoCard : Claim7 := { stood := { row := eventCountsUptoRow, standIns := [], harness := (true, "fd08e61ca239557ff4dc9549a3ddbb7086844a3561bb9bbb998dc2e445231ed9"), looks := false }, kinds := [], alts := [], laidByText := true, laidKinds := [.data, .data], laidTests := true, laidLooks := .later }
def EventCountsUptoCardSaid : Prop := Claim7.holds Tryz.pinned (.plain (OpenSpec.upto eventCountsSpec)) eventCountsUptoCard

/-- THE SECOND FORM's CARD OF 'triggerstorelaw22.EventNone'. -/
def eventNoneUptoCard : Claim7 := { stood := { row := eventNoneUptoRow, standIns := [], harness := (true, "fd08e61ca239557ff4dc9549a3ddbb7086844a3561bb9bbb998dc2e445231ed9"), looks := false }, kinds := [], alts := [], laidByText := true, laidKinds := [.data, .data], laidTests := true, laidLooks := .later }
def EventNoneUptoCardSaid : Prop := Claim7.holds Tryz.pinned (.plain (OpenSpec.upto eventNoneSpec)) eventNoneUptoCard

/-- THE SECOND FORM's CARD OF 'triggerstorelaw9.StoreUndoes'. -/
def storeUndoesUptoCard : Claim7 := { stood := { row := storeUndoesUptoRow, standIns := [], harness := (true, "fd08e61ca239557ff4dc9549a3ddbb7086844a3561bb9bbb998dc2e445231ed9"), looks := false }, kinds := [], alts := [], laidByText := true, laidKinds := [.data], laidTests := true, laidLooks := .later }
def StoreUndoesUptoCardSaid : Prop := Claim7.holds Tryz.pinned (.plain (OpenSpec.upto storeUndoesSpec)) storeUndoesUptoCard

/-- THE SECOND FORM's CARD OF 'triggerstorelaw9.StoreDiffers'. -/
def storeDiffersUptoCard : Claim7 := { stood := { row := storeDiffersUptoRow, standIns := [], harness := (true, "fd08e61ca239557ff4dc9549a3ddbb7086844a3561bb9bbb998dc2e445231ed9"), looks := false }, kinds := [], alts := [], laidByText := true, laidKinds := [.data], laidTests := true, laidLooks := .later }
def StoreDiffersUptoCardSaid : Prop := Claim7.holds Tryz.pinned (.plain (OpenSpec.upto storeDiffersSpec)) storeDiffersUptoCard

/-- THE SECOND FORM's CARD OF 'triggerstorelaw9.StoreForms'. -/
def storeFormsUptoCard : Claim7 := { stood := { row := storeFormsUptoRow, standIns := [], harness := (true, "fd08e61ca239557ff4dc9549a3ddbb7086844a3561bb9bbb998dc2e445231ed9"), looks := false }, kinds := [], alts := [], laidByText := true, laidKinds := [.data, .data], laidTests := true, laidLooks := .later }
def StoreFormsUptoCardSaid : Prop := Claim7.holds Tryz.pinned (.plain (OpenSpec.upto storeFormsSpec)) storeFormsUptoCard
end Rows
end Go.Proofs.YtedogodccblfeaaGreatDoor

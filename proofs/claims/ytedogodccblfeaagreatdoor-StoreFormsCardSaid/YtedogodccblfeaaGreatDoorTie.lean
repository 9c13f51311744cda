/-
  DERIVED. GIVEN WITH THE SEED: THE PROGRAM's TIES (one call each: nine closed facts by the kernel) AND EACH ROW's TIE, after the 31st guide's Derived/Test/Toyas{Tie, Card}.lean. No idea stands in it: it is a product of the set-up. Laid BY PROGRAM, IN A SANDBOX (cutbox-door.mjs). By AI agents, Wed Nov 11 2026. No macro, syntax, notation, axiom, sorry.
-/
import Derived.Test.YtedogodccblfeaaGreatDoorRows
import Derived.LaidByTextLater
import Derived.SevenTiedAt
import Derived.LaidSub
import Derived.LaidOnce
namespace Go.Proofs.YtedogodccblfeaaGreatDoor
open Go
set_option maxRecDepth 100000
theorem seatTie1 : Tryz.prog.laidByTextLater [("triggerstore/triggerstoreworld.triggerNames", Rows.laid_triggerstore_triggerstoreworld_triggerNames), ("triggerstore/triggerstoreworld.words", Rows.laid_triggerstore_triggerstoreworld_words), ("triggerstore/triggerstoreworld.names", Rows.laid_triggerstore_triggerstoreworld_names)] [.data, .data, .data] true :=
  Program.laidByTextLater_by_one 24 8 9 (by kernel_rfl) (by kernel_rfl) (by kernel_rfl) (by kernel_rfl) (by kernel_rfl) (by kernel_rfl) (fun _ _ => by kernel_rfl)
theorem noOwnUnsafe : Tryz.pinned.checked.prog.headLifts.contains "ownunsafe" = false := by kernel_rfl
theorem tie : Tryz.prog.laidByTextLater [("triggerstore/triggerstoreworld.triggerNames", Rows.laid_triggerstore_triggerstoreworld_triggerNames), ("triggerstore/triggerstoreworld.words", Rows.laid_triggerstore_triggerstoreworld_words)] [.data, .data] true :=
  Program.laidByTextLater.sub seatTie1 ["triggerstore/triggerstoreworld.triggerNames", "triggerstore/triggerstoreworld.words"] (by kernel_rfl) (by kernel_rfl)
theorem eventCounts_row_tie : Rows.eventCountsRow.laidByTextAt .later Tryz.pinned [.data, .data] true :=
  OpenClaim.laidByTextAt_later rfl rfl tie noOwnUnsafe
theorem eventNone_row_tie : Rows.eventNoneRow.laidByTextAt .later Tryz.pinned [.data, .data] true :=
  OpenClaim.laidByTextAt_later rfl rfl tie noOwnUnsafe
theorem tie2 : Tryz.prog.laidByTextLater [("triggerstore/triggerstoreworld.words", Rows.laid_triggerstore_triggerstoreworld_words)] [.data] true :=
  Program.laidByTextLater.sub seatTie1 ["triggerstore/triggerstoreworld.words"] (by kernel_rfl) (by kernel_rfl)
theorem storeUndoes_row_tie : Rows.storeUndoesRow.laidByTextAt .later Tryz.pinned [.data] true :=
  OpenClaim.laidByTextAt_later rfl rfl tie2 noOwnUnsafe
theorem storeDiffers_row_tie : Rows.storeDiffersRow.laidByTextAt .later Tryz.pinned [.data] true :=
  OpenClaim.laidByTextAt_later rfl rfl tie2 noOwnUnsafe
theorem tie3 : Tryz.prog.laidByTextLater [("triggerstore/triggerstoreworld.words", Rows.laid_triggerstore_triggerstoreworld_words), ("triggerstore/triggerstoreworld.names", Rows.laid_triggerstore_triggerstoreworld_names)] [.data, .data] true :=
  Program.laidByTextLater.sub seatTie1 ["triggerstore/triggerstoreworld.words", "triggerstore/triggerstoreworld.names"] (by kernel_rfl) (by kernel_rfl)
theorem storeForms_row_tie : Rows.storeFormsRow.laidByTextAt .later Tryz.pinned [.data, .data] true :=
  OpenClaim.laidByTextAt_later rfl rfl tie3 noOwnUnsafe
theorem eventCountsUpto_row_tie : Rows.eventCountsUptoRow.laidByTextAt .later Tryz.pinned [.data, .data] true :=
  OpenClaim.laidByTextAt_later rfl rfl tie noOwnUnsafe
theorem eventNoneUpto_row_tie : Rows.eventNoneUptoRow.laidByTextAt .later Tryz.pinned [.data, .data] true :=
  OpenClaim.laidByTextAt_later rfl rfl tie noOwnUnsafe
theorem storeUndoesUpto_row_tie : Rows.storeUndoesUptoRow.laidByTextAt .later Tryz.pinned [.data] true :=
  OpenClaim.laidByTextAt_later rfl rfl tie2 noOwnUnsafe
theorem storeDiffersUpto_row_tie : Rows.storeDiffersUptoRow.laidByTextAt .later Tryz.pinned [.data] true :=
  OpenClaim.laidByTextAt_later rfl rfl tie2 noOwnUnsafe
theorem storeFormsUpto_row_tie : Rows.storeFormsUptoRow.laidByTextAt .later Tryz.pinned [.data, .data] true :=
  OpenClaim.laidByTextAt_later rfl rfl tie3 noOwnUnsafe
end Go.Proofs.YtedogodccblfeaaGreatDoor

/-
  DERIVED. GIVEN WITH THE SEED: THE PROGRAM's TIES (one call each: nine closed facts by the kernel) AND EACH ROW's TIE, after the 31st guide's Derived/Test/Toyas{Tie, Card}.lean. No idea stands in it: it is a product of the set-up. Laid BY PROGRAM, IN A SANDBOX (cutbox-door.mjs). By AI agents, Wed Nov 11 2026. No macro, syntax, notation, axiom, sorry.
-/
import Derived.Test.YtdgdllicmccnfaaDoorRows
import Derived.LaidByTextLater
import Derived.SevenTiedAt
import Derived.LaidSub
import Derived.LaidOnce
namespace Go.Proofs.YtdgdllicmccnfaaDoor
open Go
set_option maxRecDepth 100000
theorem seatTie1 : Tryd.prog.laidByTextLater [("triggerstore/triggerstoreworld.words", Rows.laid_triggerstore_triggerstoreworld_words), ("triggerstore/triggerstoreworld.names", Rows.laid_triggerstore_triggerstoreworld_names)] [.data, .data] true :=
  Program.laidByTextLater_by_one 19 8 9 (by kernel_rfl) (by kernel_rfl) (by kernel_rfl) (by kernel_rfl) (by kernel_rfl) (by kernel_rfl) (fun _ _ => by kernel_rfl)
theorem noOwnUnsafe : Tryd.pinned.checked.prog.headLifts.contains "ownunsafe" = false := by kernel_rfl
theorem tie : Tryd.prog.laidByTextLater [("triggerstore/triggerstoreworld.names", Rows.laid_triggerstore_triggerstoreworld_names)] [.data] true :=
  Program.laidByTextLater.sub seatTie1 ["triggerstore/triggerstoreworld.names"] (by kernel_rfl) (by kernel_rfl)
theorem schemaValidates_row_tie : Rows.schemaValidatesRow.laidByTextAt .later Tryd.pinned [.data] true :=
  OpenClaim.laidByTextAt_later rfl rfl tie noOwnUnsafe
theorem schemaNames_row_tie : Rows.schemaNamesRow.laidByTextAt .later Tryd.pinned [.data] true :=
  OpenClaim.laidByTextAt_later rfl rfl tie noOwnUnsafe
theorem tie2 : Tryd.prog.laidByTextLater [("triggerstore/triggerstoreworld.words", Rows.laid_triggerstore_triggerstoreworld_words)] [.data] true :=
  Program.laidByTextLater.sub seatTie1 ["triggerstore/triggerstoreworld.words"] (by kernel_rfl) (by kernel_rfl)
theorem schemaFits_row_tie : Rows.schemaFitsRow.laidByTextAt .later Tryd.pinned [.data] true :=
  OpenClaim.laidByTextAt_later rfl rfl tie2 noOwnUnsafe
theorem logicCompares_row_tie : Rows.logicComparesRow.laidByTextAt .later Tryd.pinned [.data] true :=
  OpenClaim.laidByTextAt_later rfl rfl tie2 noOwnUnsafe
theorem logicForms_row_tie : Rows.logicFormsRow.laidByTextAt .later Tryd.pinned [.data] true :=
  OpenClaim.laidByTextAt_later rfl rfl tie2 noOwnUnsafe
theorem schemaValidatesUpto_row_tie : Rows.schemaValidatesUptoRow.laidByTextAt .later Tryd.pinned [.data] true :=
  OpenClaim.laidByTextAt_later rfl rfl tie noOwnUnsafe
theorem schemaFitsUpto_row_tie : Rows.schemaFitsUptoRow.laidByTextAt .later Tryd.pinned [.data] true :=
  OpenClaim.laidByTextAt_later rfl rfl tie2 noOwnUnsafe
theorem logicComparesUpto_row_tie : Rows.logicComparesUptoRow.laidByTextAt .later Tryd.pinned [.data] true :=
  OpenClaim.laidByTextAt_later rfl rfl tie2 noOwnUnsafe
theorem logicFormsUpto_row_tie : Rows.logicFormsUptoRow.laidByTextAt .later Tryd.pinned [.data] true :=
  OpenClaim.laidByTextAt_later rfl rfl tie2 noOwnUnsafe
theorem schemaNamesUpto_row_tie : Rows.schemaNamesUptoRow.laidByTextAt .later Tryd.pinned [.data] true :=
  OpenClaim.laidByTextAt_later rfl rfl tie noOwnUnsafe
end Go.Proofs.YtdgdllicmccnfaaDoor

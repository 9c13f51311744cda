/-
  DERIVED. GIVEN WITH THE SEED: THE PROGRAM's TIES (one call each: nine closed facts by the kernel) AND EACH ROW's TIE, after the 31st guide's Derived/Test/Toyas{Tie, Card}.lean. No idea stands in it: it is a product of the set-up. Laid BY PROGRAM, IN A SANDBOX (cutbox-door.mjs). By AI agents, Wed Nov 11 2026. No macro, syntax, notation, axiom, sorry.
-/
import Derived.Test.YtljmclbedpceoaaDoorRows
import Derived.LaidByTextLater
import Derived.SevenTiedAt
import Derived.LaidSub
import Derived.LaidOnce
namespace Go.Proofs.YtljmclbedpceoaaDoor
open Go
set_option maxRecDepth 100000
theorem seatTie1 : Tryd.prog.laidByTextLater [("triggerstore/triggerstoreworld.words", Rows.laid_triggerstore_triggerstoreworld_words), ("triggerstore/triggerstoreworld.names", Rows.laid_triggerstore_triggerstoreworld_names)] [.data, .data] true :=
  Program.laidByTextLater_by_one 19 8 9 (by kernel_rfl) (by kernel_rfl) (by kernel_rfl) (by kernel_rfl) (by kernel_rfl) (by kernel_rfl) (fun _ _ => by kernel_rfl)
theorem noOwnUnsafe : Tryd.pinned.checked.prog.headLifts.contains "ownunsafe" = false := by kernel_rfl
theorem tie : Tryd.prog.laidByTextLater [("triggerstore/triggerstoreworld.words", Rows.laid_triggerstore_triggerstoreworld_words)] [.data] true :=
  Program.laidByTextLater.sub seatTie1 ["triggerstore/triggerstoreworld.words"] (by kernel_rfl) (by kernel_rfl)
theorem tupleSorts_row_tie : Rows.tupleSortsRow.laidByTextAt .later Tryd.pinned [.data] true :=
  OpenClaim.laidByTextAt_later rfl rfl tie noOwnUnsafe
theorem deltaNets_row_tie : Rows.deltaNetsRow.laidByTextAt .later Tryd.pinned [.data] true :=
  OpenClaim.laidByTextAt_later rfl rfl tie noOwnUnsafe
theorem keysForms_row_tie : Rows.keysFormsRow.laidByTextAt .later Tryd.pinned [.data] true :=
  OpenClaim.laidByTextAt_later rfl rfl tie noOwnUnsafe
theorem tableFinds_row_tie : Rows.tableFindsRow.laidByTextAt .later Tryd.pinned [.data] true :=
  OpenClaim.laidByTextAt_later rfl rfl tie noOwnUnsafe
theorem tie2 : Tryd.prog.laidByTextLater [("triggerstore/triggerstoreworld.words", Rows.laid_triggerstore_triggerstoreworld_words), ("triggerstore/triggerstoreworld.names", Rows.laid_triggerstore_triggerstoreworld_names)] [.data, .data] true :=
  Program.laidByTextLater.sub seatTie1 ["triggerstore/triggerstoreworld.words", "triggerstore/triggerstoreworld.names"] (by kernel_rfl) (by kernel_rfl)
theorem tableForms_row_tie : Rows.tableFormsRow.laidByTextAt .later Tryd.pinned [.data, .data] true :=
  OpenClaim.laidByTextAt_later rfl rfl tie2 noOwnUnsafe
theorem tupleSortsUpto_row_tie : Rows.tupleSortsUptoRow.laidByTextAt .later Tryd.pinned [.data] true :=
  OpenClaim.laidByTextAt_later rfl rfl tie noOwnUnsafe
theorem deltaNetsUpto_row_tie : Rows.deltaNetsUptoRow.laidByTextAt .later Tryd.pinned [.data] true :=
  OpenClaim.laidByTextAt_later rfl rfl tie noOwnUnsafe
theorem keysFormsUpto_row_tie : Rows.keysFormsUptoRow.laidByTextAt .later Tryd.pinned [.data] true :=
  OpenClaim.laidByTextAt_later rfl rfl tie noOwnUnsafe
theorem tableFindsUpto_row_tie : Rows.tableFindsUptoRow.laidByTextAt .later Tryd.pinned [.data] true :=
  OpenClaim.laidByTextAt_later rfl rfl tie noOwnUnsafe
theorem tableFormsUpto_row_tie : Rows.tableFormsUptoRow.laidByTextAt .later Tryd.pinned [.data, .data] true :=
  OpenClaim.laidByTextAt_later rfl rfl tie2 noOwnUnsafe
end Go.Proofs.YtljmclbedpceoaaDoor

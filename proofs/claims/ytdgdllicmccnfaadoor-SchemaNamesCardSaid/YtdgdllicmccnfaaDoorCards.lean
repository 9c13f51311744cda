/-
  DERIVED. GIVEN WITH THE SEED: THE CARDS: each row of YtdgdllicmccnfaaDoorRows.lean that lists a variable, with what it lists TIED to the program's text (the seventh form; the later family's looks); each row that meets fmt, with fmt's text TOLD by the authors' own Lean function (tested against real Go, not proved from fmt's source: count such statements apart). THE CARD IS WHAT COUNTS. Prove the row's statement (the work); the ties are given (YtdgdllicmccnfaaDoorTie.lean); close each card by the builder's one call (the guide's Derived/Test/ToyasCard.lean, 'card_holds'). Laid BY PROGRAM, IN A SANDBOX (cutbox-door.mjs). By AI agents, Wed Nov 11 2026. No macro, syntax, notation, axiom, sorry.
-/
import Derived.Test.YtdgdllicmccnfaaDoorRows
import GoSem.ClaimSeven
namespace Go.Proofs.YtdgdllicmccnfaaDoor
namespace Rows

/-- THE TIED CARD OF 'triggerstorelaw4.SchemaValidates'. -/
def schemaValidatesCard : Claim7 := { stood := { row := schemaValidatesRow, standIns := [], harness := (true, "06a619c990f05288288006d115dd7053e5b087538a4310ef5cade5c2fd7b0610"), looks := false }, kinds := [], alts := [], laidByText := true, laidKinds := [.data], laidTests := true, laidLooks := .later }
def SchemaValidatesCardSaid : Prop := Claim7.holds Tryd.pinned (.plain (OpenSpec.ofChange schemaValidatesSpec)) schemaValidatesCard

/-- THE TIED CARD OF 'triggerstorelaw4.SchemaFits'. -/
def schemaFitsCard : Claim7 := { stood := { row := schemaFitsRow, standIns := [], harness := (true, "06a619c990f05288288006d115dd7053e5b087538a4310ef5cade5c2fd7b0610"), looks := false }, kinds := [], alts := [], laidByText := true, laidKinds := [.data], laidTests := true, laidLooks := .later }
def SchemaFitsCardSaid : Prop := Claim7.holds Tryd.pinned (.plain (OpenSpec.ofChange schemaFitsSpec)) schemaFitsCard

/-- THE TIED CARD OF 'triggerstorelaw2.LogicCompares'. -/
def logicComparesCard : Claim7 := { stood := { row := logicComparesRow, standIns := [], harness := (true, "06a619c990f05288288006d115dd7053e5b087538a4310ef5cade5c2fd7b0610"), looks := false }, kinds := [], alts := [], laidByText := true, laidKinds := [.data], laidTests := true, laidLooks := .later }
def LogicComparesCardSaid : Prop := Claim7.holds Tryd.pinned (.plain (OpenSpec.ofChange logicComparesSpec)) logicComparesCard

/-- THE TIED CARD OF 'triggerstorelaw2.LogicForms'. -/
def logicFormsCard : Claim7 := { stood := { row := logicFormsRow, standIns := [], harness := (true, "06a619c990f05288288006d115dd7053e5b087538a4310ef5cade5c2fd7b0610"), looks := false }, kinds := [], alts := [], laidByText := true, laidKinds := [.data], laidTests := true, laidLooks := .later }
def LogicFormsCardSaid : Prop := Claim7.holds Tryd.pinned (.plain (OpenSpec.ofChange logicFormsSpec)) logicFormsCard

/-- THE TIED CARD OF 'triggerstorelaw4.SchemaNames'. -/
def schemaNamesCard : Claim7 := { stood := { row := schemaNamesRow, standIns := [], harness := (true, "06a619c990f05288288006d115dd7053e5b087538a4310ef5cade5c2fd7b0610"), looks := false }, kinds := [], alts := [], laidByText := true, laidKinds := [.data], laidTests := true, laidLooks := .later }
def SchemaNamesCardSaid : Prop := Claim7.holds Tryd.pinned (.plain (OpenSpec.ofChange schemaNamesSpec)) schemaNamesCard

/-- THE SECOND FORM's CARD OF 'triggerstorelaw4.SchemaValidates'. -/
def schemaValidatesUptoCard : Claim7 := { stood := { row := schemaValidatesUptoRow, standIns := [], harness := (true, "06a619c990f05288288006d115dd7053e5b087538a4310ef5cade5c2fd7b0610"), looks := false }, kinds := [], alts := [], laidByText := true, laidKinds := [.data], laidTests := true, laidLooks := .later }
def SchemaValidatesUptoCardSaid : Prop := Claim7.holds Tryd.pinned (.plain (OpenSpec.upto schemaValidatesSpec)) schemaValidatesUptoCard

/-- THE SECOND FORM's CARD OF 'triggerstorelaw4.SchemaFits'. -/
def schemaFitsUptoCard : Claim7 := { stood := { row := schemaFitsUptoRow, standIns := [], harness := (true, "06a619c990f05288288006d115dd7053e5b087538a4310ef5cade5c2fd7b0610"), looks := false }, kinds := [], alts := [], laidByText := true, laidKinds := [.data], laidTests := true, laidLooks := .later }
def SchemaFitsUptoCardSaid : Prop := Claim7.holds Tryd.pinned (.plain (OpenSpec.upto schemaFitsSpec)) schemaFitsUptoCard

/-- THE SECOND FORM's CARD OF 'triggerstorelaw2.LogicCompares'. -/
def logicComparesUptoCard : Claim7 := { stood := { row := logicComparesUptoRow, standIns := [], harness := (true, "06a619c990f05288288006d115dd7053e5b087538a4310ef5cade5c2fd7b0610"), looks := false }, kinds := [], alts := [], laidByText := true, laidKinds := [.data], laidTests := true, laidLooks := .later }
def LogicComparesUptoCardSaid : Prop := Claim7.holds Tryd.pinned (.plain (OpenSpec.upto logicComparesSpec)) logicComparesUptoCard

/-- THE SECOND FORM's CARD OF 'triggerstorelaw2.LogicForms'. -/
def logicFormsUptoCard : Claim7 := { stood := { row := logicFormsUptoRow, standIns := [], harness := (true, "06a619c990f05288288006d115dd7053e5b087538a4310ef5cade5c2fd7b0610"), looks := false }, kinds := [], alts := [], laidByText := true, laidKinds := [.data], laidTests := true, laidLooks := .later }
def LogicFormsUptoCardSaid : Prop := Claim7.holds Tryd.pinned (.plain (OpenSpec.upto logicFormsSpec)) logicFormsUptoCard

/-- THE SECOND FORM's CARD OF 'triggerstorelaw4.SchemaNames'. -/
def schemaNamesUptoCard : Claim7 := { stood := { row := schemaNamesUptoRow, standIns := [], harness := (true, "06a619c990f05288288006d115dd7053e5b087538a4310ef5cade5c2fd7b0610"), looks := false }, kinds := [], alts := [], laidByText := true, laidKinds := [.data], laidTests := true, laidLooks := .later }
def SchemaNamesUptoCardSaid : Prop := Claim7.holds Tryd.pinned (.plain (OpenSpec.upto schemaNamesSpec)) schemaNamesUptoCard
end Rows
end Go.Proofs.YtdgdllicmccnfaaDoor

/-
  DERIVED. GIVEN WITH THE SEED: THE CARDS: each row of YtkjnoekclfdjiaaDoorRows.lean that lists a variable, with what it lists TIED to the program's text (the seventh form; the later family's looks); each row that meets fmt, with fmt's text TOLD by the authors' own Lean function (tested against real Go, not proved from fmt's source: count such statements apart). THE CARD IS WHAT COUNTS. Prove the row's statement (the work); the ties are given (YtkjnoekclfdjiaaDoorTie.lean); close each card by the builder's one call (the guide's Derived/Test/ToyasCard.lean, 'card_holds'). Laid BY PROGRAM, IN A SANDBOX (cutbox-door.mjs). By AI agents, Wed Nov 11 2026. No macro, syntax, notation, axiom, sorry.
-/
import Derived.Test.YtkjnoekclfdjiaaDoorRows
import GoSem.ClaimSeven
namespace Go.Proofs.YtkjnoekclfdjiaaDoor
namespace Rows

/-- THE TIED CARD OF 'triggerstorelaw18.OrderStrict'. -/
def orderStrictCard : Claim7 := { stood := { row := orderStrictRow, standIns := [], harness := (true, "0b16d5d713e145fa4115b73791eb6494afb8de480ef6e4faed451dfcabb7a3dc"), looks := false }, kinds := [], alts := [], laidByText := true, laidKinds := [.data], laidTests := true, laidLooks := .later }
def OrderStrictCardSaid : Prop := Claim7.holds Tryd.pinned (.plain (OpenSpec.ofChange orderStrictSpec)) orderStrictCard

/-- THE TIED CARD OF 'triggerstorelaw18.OrderLeast'. -/
def orderLeastCard : Claim7 := { stood := { row := orderLeastRow, standIns := [], harness := (true, "0b16d5d713e145fa4115b73791eb6494afb8de480ef6e4faed451dfcabb7a3dc"), looks := false }, kinds := [], alts := [], laidByText := true, laidKinds := [.data], laidTests := true, laidLooks := .later }
def OrderLeastCardSaid : Prop := Claim7.holds Tryd.pinned (.plain (OpenSpec.ofChange orderLeastSpec)) orderLeastCard

/-- THE TIED CARD OF 'triggerstorelaw18.OrderForms'. -/
def orderFormsCard : Claim7 := { stood := { row := orderFormsRow, standIns := [], harness := (true, "0b16d5d713e145fa4115b73791eb6494afb8de480ef6e4faed451dfcabb7a3dc"), looks := false }, kinds := [], alts := [], laidByText := true, laidKinds := [.data], laidTests := true, laidLooks := .later }
def OrderFormsCardSaid : Prop := Claim7.holds Tryd.pinned (.plain (OpenSpec.ofChange orderFormsSpec)) orderFormsCard

/-- THE SECOND FORM's CARD OF 'triggerstorelaw18.OrderStrict'. -/
def orderStrictUptoCard : Claim7 := { stood := { row := orderStrictUptoRow, standIns := [], harness := (true, "0b16d5d713e145fa4115b73791eb6494afb8de480ef6e4faed451dfcabb7a3dc"), looks := false }, kinds := [], alts := [], laidByText := true, laidKinds := [.data], laidTests := true, laidLooks := .later }
def OrderStrictUptoCardSaid : Prop := Claim7.holds Tryd.pinned (.plain (OpenSpec.upto orderStrictSpec)) orderStrictUptoCard

/-- THE SECOND FORM's CARD OF 'triggerstorelaw18.OrderLeast'. -/
def orderLeastUptoCard : Claim7 := { stood := { row := orderLeastUptoRow, standIns := [], harness := (true, "0b16d5d713e145fa4115b73791eb6494afb8de480ef6e4faed451dfcabb7a3dc"), looks := false }, kinds := [], alts := [], laidByText := true, laidKinds := [.data], laidTests := true, laidLooks := .later }
def OrderLeastUptoCardSaid : Prop := Claim7.holds Tryd.pinned (.plain (OpenSpec.upto orderLeastSpec)) orderLeastUptoCard

/-- THE SECOND FORM's CARD OF 'triggerstorelaw18.OrderForms'. -/
def orderFormsUptoCard : Claim7 := { stood := { row := orderFormsUptoRow, standIns := [], harness := (true, "0b16d5d713e145fa4115b73791eb6494afb8de480ef6e4faed451dfcabb7a3dc"), looks := false }, kinds := [], alts := [], laidByText := true, laidKinds := [.data], laidTests := true, laidLooks := .later }
def OrderFormsUptoCardSaid : Prop := Claim7.holds Tryd.pinned (.plain (OpenSpec.upto orderFormsSpec)) orderFormsUptoCard
end Rows
end Go.Proofs.YtkjnoekclfdjiaaDoor

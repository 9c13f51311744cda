/-
  DERIVED. GIVEN WITH THE SEED: THE CARDS: each row of YtljmclbedpceoaaDoorRows.lean that lists a variable, with what it lists TIED to the program's text (the seventh form; the later family's looks); each row that meets fmt, with fmt's text TOLD by the authors' own Lean function (tested against real Go, not proved from fmt's source: count such statements apart). THE CARD IS WHAT COUNTS. Prove the row's statement (the work); the ties are given (YtljmclbedpceoaaDoorTie.lean); close each card by the builder's one call (the guide's Derived/Test/ToyasCard.lean, 'card_holds'). Laid BY PROGRAM, IN A SANDBOX (cutbox-door.mjs). By AI agents, Wed Nov 11 2026. No macro, syntax, notation, axiom, sorry.
-/
import Derived.Test.YtljmclbedpceoaaDoorRows
import GoSem.ClaimSeven
namespace Go.Proofs.YtljmclbedpceoaaDoor
namespace Rows

/-- THE TIED CARD OF 'triggerstorelaw5.TupleSorts'. -/
def tupleSortsCard : Claim7 := { stood := { row := tupleSortsRow, standIns := [], harness := (true, "a99265846ccc52f13c7acfd155d1b2fe2bb196880424f2b86d3be29158a493b9"), looks := false }, kinds := [], alts := [], laidByText := true, laidKinds := [.data], laidTests := true, laidLooks := .later }
def TupleSortsCardSaid : Prop := Claim7.holds Tryd.pinned (.plain (OpenSpec.ofChange tupleSortsSpec)) tupleSortsCard

/-- THE TIED CARD OF 'triggerstorelaw8.DeltaNets'. -/
def deltaNetsCard : Claim7 := { stood := { row := deltaNetsRow, standIns := [], harness := (true, "a99265846ccc52f13c7acfd155d1b2fe2bb196880424f2b86d3be29158a493b9"), looks := false }, kinds := [], alts := [], laidByText := true, laidKinds := [.data], laidTests := true, laidLooks := .later }
def DeltaNetsCardSaid : Prop := Claim7.holds Tryd.pinned (.plain (OpenSpec.ofChange deltaNetsSpec)) deltaNetsCard

/-- THE TIED CARD OF 'triggerstorelaw7.KeysForms'. -/
def keysFormsCard : Claim7 := { stood := { row := keysFormsRow, standIns := [], harness := (true, "a99265846ccc52f13c7acfd155d1b2fe2bb196880424f2b86d3be29158a493b9"), looks := false }, kinds := [], alts := [], laidByText := true, laidKinds := [.data], laidTests := true, laidLooks := .later }
def KeysFormsCardSaid : Prop := Claim7.holds Tryd.pinned (.plain (OpenSpec.ofChange keysFormsSpec)) keysFormsCard

/-- THE TIED CARD OF 'triggerstorelaw6.TableFinds'. -/
def tableFindsCard : Claim7 := { stood := { row := tableFindsRow, standIns := [], harness := (true, "a99265846ccc52f13c7acfd155d1b2fe2bb196880424f2b86d3be29158a493b9"), looks := false }, kinds := [], alts := [], laidByText := true, laidKinds := [.data], laidTests := true, laidLooks := .later }
def TableFindsCardSaid : Prop := Claim7.holds Tryd.pinned (.plain (OpenSpec.ofChange tableFindsSpec)) tableFindsCard

/-- THE TIED CARD OF 'triggerstorelaw6.TableForms'. -/
def tableFormsCard : Claim7 := { stood := { row := tableFormsRow, standIns := [], harness := (true, "a99265846ccc52f13c7acfd155d1b2fe2bb196880424f2b86d3be29158a493b9"), looks := false }, kinds := [], alts := [], laidByText := true, laidKinds := [.data, .data], laidTests := true, laidLooks := .later }
def TableFormsCardSaid : Prop := Claim7.holds Tryd.pinned (.plain (OpenSpec.ofChange tableFormsSpec)) tableFormsCard

/-- THE SECOND FORM's CARD OF 'triggerstorelaw5.TupleSorts'. -/
def tupleSortsUptoCard : Claim7 := { stood := { row := tupleSortsUptoRow, standIns := [], harness := (true, "a99265846ccc52f13c7acfd155d1b2fe2bb196880424f2b86d3be29158a493b9"), looks := false }, kinds := [], alts := [], laidByText := true, laidKinds := [.data], laidTests := true, laidLooks := .later }
def TupleSortsUptoCardSaid : Prop := Claim7.holds Tryd.pinned (.plain (OpenSpec.upto tupleSortsSpec)) tupleSortsUptoCard

/-- THE SECOND FORM's CARD OF 'triggerstorelaw8.DeltaNets'. -/
def deltaNetsUptoCard : Claim7 := { stood := { row := deltaNetsUptoRow, standIns := [], harness := (true, "a99265846ccc52f13c7acfd155d1b2fe2bb196880424f2b86d3be29158a493b9"), looks := false }, kinds := [], alts := [], laidByText := true, laidKinds := [.data], laidTests := true, laidLooks := .later }
def DeltaNetsUptoCardSaid : Prop := Claim7.holds Tryd.pinned (.plain (OpenSpec.upto deltaNetsSpec)) deltaNetsUptoCard

/-- THE SECOND FORM's CARD OF 'triggerstorelaw7.KeysForms'. -/
def keysFormsUptoCard : Claim7 := { stood := { row := keysFormsUptoRow, standIns := [], harness := (true, "a99265846ccc52f13c7acfd155d1b2fe2bb196880424f2b86d3be29158a493b9"), looks := false }, kinds := [], alts := [], laidByText := true, laidKinds := [.data], laidTests := true, laidLooks := .later }
def KeysFormsUptoCardSaid : Prop := Claim7.holds Tryd.pinned (.plain (OpenSpec.upto keysFormsSpec)) keysFormsUptoCard

/-- THE SECOND FORM's CARD OF 'triggerstorelaw6.TableFinds'. -/
def tableFindsUptoCard : Claim7 := { stood := { row := tableFindsUptoRow, standIns := [], harness := (true, "a99265846ccc52f13c7acfd155d1b2fe2bb196880424f2b86d3be29158a493b9"), looks := false }, kinds := [], alts := [], laidByText := true, laidKinds := [.data], laidTests := true, laidLooks := .later }
def TableFindsUptoCardSaid : Prop := Claim7.holds Tryd.pinned (.plain (OpenSpec.upto tableFindsSpec)) tableFindsUptoCard

/-- THE SECOND FORM's CARD OF 'triggerstorelaw6.TableForms'. -/
def tableFormsUptoCard : Claim7 := { stood := { row := tableFormsUptoRow, standIns := [], harness := (true, "a99265846ccc52f13c7acfd155d1b2fe2bb196880424f2b86d3be29158a493b9"), looks := false }, kinds := [], alts := [], laidByText := true, laidKinds := [.data, .data], laidTests := true, laidLooks := .later }
def TableFormsUptoCardSaid : Prop := Claim7.holds Tryd.pinned (.plain (OpenSpec.upto tableFormsSpec)) tableFormsUptoCard
end Rows
end Go.Proofs.YtljmclbedpceoaaDoor

/-
  DERIVED. GIVEN WITH THE SEED: THE CARDS: each row of YtmopojjhlbjhnaaDoorRows.lean that lists a variable, with what it lists TIED to the program's text (the seventh form; the later family's looks); each row that meets fmt, with fmt's text TOLD by the authors' own Lean function (tested against real Go, not proved from fmt's source: count such statements apart). THE CARD IS WHAT COUNTS. Prove the row's statement (the work); the ties are given (YtmopojjhlbjhnaaDoorTie.lean); close each card by the builder's one call (the guide's Derived/Test/ToyasCard.lean, 'card_holds'). Laid BY PROGRAM, IN A SANDBOX (cutbox-door.mjs). By AI agents, Wed Nov 11 2026. No macro, syntax, notation, axiom, sorry.
-/
import Derived.Test.YtmopojjhlbjhnaaDoorRows
import GoSem.ClaimSeven
namespace Go.Proofs.YtmopojjhlbjhnaaDoor
namespace Rows

/-- THE TIED CARD OF 'triggerstorelaw5.TupleBags'. -/
def tupleBagsCard : Claim7 := { stood := { row := tupleBagsRow, standIns := [], harness := (true, "2baf761905a9b43795b0954db7a87b84f6e027dbdce84842772a7a3b7c40adfd"), looks := false }, kinds := [], alts := [], laidByText := true, laidKinds := [.data], laidTests := true, laidLooks := .later }
def TupleBagsCardSaid : Prop := Claim7.holds Tryd.pinned (.plain (OpenSpec.ofChange tupleBagsSpec)) tupleBagsCard

/-- THE TIED CARD OF 'triggerstorelaw5.TupleSorts'. -/
def tupleSortsCard : Claim7 := { stood := { row := tupleSortsRow, standIns := [], harness := (true, "2baf761905a9b43795b0954db7a87b84f6e027dbdce84842772a7a3b7c40adfd"), looks := false }, kinds := [], alts := [], laidByText := true, laidKinds := [.data], laidTests := true, laidLooks := .later }
def TupleSortsCardSaid : Prop := Claim7.holds Tryd.pinned (.plain (OpenSpec.ofChange tupleSortsSpec)) tupleSortsCard

/-- THE TIED CARD OF 'triggerstorelaw5.TupleDiffers'. -/
def tupleDiffersCard : Claim7 := { stood := { row := tupleDiffersRow, standIns := [], harness := (true, "2baf761905a9b43795b0954db7a87b84f6e027dbdce84842772a7a3b7c40adfd"), looks := false }, kinds := [], alts := [], laidByText := true, laidKinds := [.data], laidTests := true, laidLooks := .later }
def TupleDiffersCardSaid : Prop := Claim7.holds Tryd.pinned (.plain (OpenSpec.ofChange tupleDiffersSpec)) tupleDiffersCard

/-- THE TIED CARD OF 'triggerstorelaw8.DeltaNets'. -/
def deltaNetsCard : Claim7 := { stood := { row := deltaNetsRow, standIns := [], harness := (true, "2baf761905a9b43795b0954db7a87b84f6e027dbdce84842772a7a3b7c40adfd"), looks := false }, kinds := [], alts := [], laidByText := true, laidKinds := [.data], laidTests := true, laidLooks := .later }
def DeltaNetsCardSaid : Prop := Claim7.holds Tryd.pinned (.plain (OpenSpec.ofChange deltaNetsSpec)) deltaNetsCard

/-- THE TIED CARD OF 'triggerstorelaw2.LogicForms'. -/
def logicFormsCard : Claim7 := { stood := { row := logicFormsRow, standIns := [], harness := (true, "2baf761905a9b43795b0954db7a87b84f6e027dbdce84842772a7a3b7c40adfd"), looks := false }, kinds := [], alts := [], laidByText := true, laidKinds := [.data], laidTests := true, laidLooks := .later }
def LogicFormsCardSaid : Prop := Claim7.holds Tryd.pinned (.plain (OpenSpec.ofChange logicFormsSpec)) logicFormsCard

/-- THE TIED CARD OF 'triggerstorelaw7.KeysApplies'. -/
def keysAppliesCard : Claim7 := { stood := { row := keysAppliesRow, standIns := [], harness := (true, "2baf761905a9b43795b0954db7a87b84f6e027dbdce84842772a7a3b7c40adfd"), looks := false }, kinds := [], alts := [], laidByText := true, laidKinds := [.data], laidTests := true, laidLooks := .later }
def KeysAppliesCardSaid : Prop := Claim7.holds Tryd.pinned (.plain (OpenSpec.ofChange keysAppliesSpec)) keysAppliesCard

/-- THE TIED CARD OF 'triggerstorelaw7.KeysForms'. -/
def keysFormsCard : Claim7 := { stood := { row := keysFormsRow, standIns := [], harness := (true, "2baf761905a9b43795b0954db7a87b84f6e027dbdce84842772a7a3b7c40adfd"), looks := false }, kinds := [], alts := [], laidByText := true, laidKinds := [.data], laidTests := true, laidLooks := .later }
def KeysFormsCardSaid : Prop := Claim7.holds Tryd.pinned (.plain (OpenSpec.ofChange keysFormsSpec)) keysFormsCard

/-- THE TIED CARD OF 'triggerstorelaw6.TableFinds'. -/
def tableFindsCard : Claim7 := { stood := { row := tableFindsRow, standIns := [], harness := (true, "2baf761905a9b43795b0954db7a87b84f6e027dbdce84842772a7a3b7c40adfd"), looks := false }, kinds := [], alts := [], laidByText := true, laidKinds := [.data], laidTests := true, laidLooks := .later }
def TableFindsCardSaid : Prop := Claim7.holds Tryd.pinned (.plain (OpenSpec.ofChange tableFindsSpec)) tableFindsCard

/-- THE TIED CARD OF 'triggerstorelaw6.TableForms'. -/
def tableFormsCard : Claim7 := { stood := { row := tableFormsRow, standIns := [], harness := (true, "2baf761905a9b43795b0954db7a87b84f6e027dbdce84842772a7a3b7c40adfd"), looks := false }, kinds := [], alts := [], laidByText := true, laidKinds := [.data, .data], laidTests := true, laidLooks := .later }
def TableFormsCardSaid : Prop := Claim7.holds Tryd.pinned (.plain (OpenSpec.ofChange tableFormsSpec)) tableFormsCard

/-- THE SECOND FORM's CARD OF 'triggerstorelaw5.TupleBags'. -/
def tupleBagsUptoCard : Claim7 := { stood := { row := tupleBagsUptoRow, standIns := [], harness := (true, "2baf761905a9b43795b0954db7a87b84f6e027dbdce84842772a7a3b7c40adfd"), looks := false }, kinds := [], alts := [], laidByText := true, laidKinds := [.data], laidTests := true, laidLooks := .later }
def TupleBagsUptoCardSaid : Prop := Claim7.holds Tryd.pinned (.plain (OpenSpec.upto tupleBagsSpec)) tupleBagsUptoCard

/-- THE SECOND FORM's CARD OF 'triggerstorelaw5.TupleSorts'. -/
def tupleSortsUptoCard : Claim7 := { stood := { row := tupleSortsUptoRow, standIns := [], harness := (true, "2baf761905a9b43795b0954db7a87b84f6e027dbdce84842772a7a3b7c40adfd"), looks := false }, kinds := [], alts := [], laidByText := true, laidKinds := [.data], laidTests := true, laidLooks := .later }
def TupleSortsUptoCardSaid : Prop := Claim7.holds Tryd.pinned (.plain (OpenSpec.upto tupleSortsSpec)) tupleSortsUptoCard

/-- THE SECOND FORM's CARD OF 'triggerstorelaw5.TupleDiffers'. -/
def tupleDiffersUptoCard : Claim7 := { stood := { row := tupleDiffersUptoRow, standIns := [], harness := (true, "2baf761905a9b43795b0954db7a87b84f6e027dbdce84842772a7a3b7c40adfd"), looks := false }, kinds := [], alts := [], laidByText := true, laidKinds := [.data], laidTests := true, laidLooks := .later }
def TupleDiffersUptoCardSaid : Prop := Claim7.holds Tryd.pinned (.plain (OpenSpec.upto tupleDiffersSpec)) tupleDiffersUptoCard

/-- THE SECOND FORM's CARD OF 'triggerstorelaw8.DeltaNets'. -/
def deltaNetsUptoCard : Claim7 := { stood := { row := deltaNetsUptoRow, standIns := [], harness := (true, "2baf761905a9b43795b0954db7a87b84f6e027dbdce84842772a7a3b7c40adfd"), looks := false }, kinds := [], alts := [], laidByText := true, laidKinds := [.data], laidTests := true, laidLooks := .later }
def DeltaNetsUptoCardSaid : Prop := Claim7.holds Tryd.pinned (.plain (OpenSpec.upto deltaNetsSpec)) deltaNetsUptoCard

/-- THE SECOND FORM's CARD OF 'triggerstorelaw2.LogicForms'. -/
def logicFormsUptoCard : Claim7 := { stood := { row := logicFormsUptoRow, standIns := [], harness := (true, "2baf761905a9b43795b0954db7a87b84f6e027dbdce84842772a7a3b7c40adfd"), looks := false }, kinds := [], alts := [], laidByText := true, laidKinds := [.data], laidTests := true, laidLooks := .later }
def LogicFormsUptoCardSaid : Prop := Claim7.holds Tryd.pinned (.plain (OpenSpec.upto logicFormsSpec)) logicFormsUptoCard

/-- THE SECOND FORM's CARD OF 'triggerstorelaw7.KeysApplies'. -/
def keysAppliesUptoCard : Claim7 := { stood := { row := keysAppliesUptoRow, standIns := [], harness := (true, "2baf761905a9b43795b0954db7a87b84f6e027dbdce84842772a7a3b7c40adfd"), looks := false }, kinds := [], alts := [], laidByText := true, laidKinds := [.data], laidTests := true, laidLooks := .later }
def KeysAppliesUptoCardSaid : Prop := Claim7.holds Tryd.pinned (.plain (OpenSpec.upto keysAppliesSpec)) keysAppliesUptoCard

/-- THE SECOND FORM's CARD OF 'triggerstorelaw7.KeysForms'. -/
def keysFormsUptoCard : Claim7 := { stood := { row := keysFormsUptoRow, standIns := [], harness := (true, "2baf761905a9b43795b0954db7a87b84f6e027dbdce84842772a7a3b7c40adfd"), looks := false }, kinds := [], alts := [], laidByText := true, laidKinds := [.data], laidTests := true, laidLooks := .later }
def KeysFormsUptoCardSaid : Prop := Claim7.holds Tryd.pinned (.plain (OpenSpec.upto keysFormsSpec)) keysFormsUptoCard

/-- THE SECOND FORM's CARD OF 'triggerstorelaw6.TableFinds'. -/
def tableFindsUptoCard : Claim7 := { stood := { row := tableFindsUptoRow, standIns := [], harness := (true, "2baf761905a9b43795b0954db7a87b84f6e027dbdce84842772a7a3b7c40adfd"), looks := false }, kinds := [], alts := [], laidByText := true, laidKinds := [.data], laidTests := true, laidLooks := .later }
def TableFindsUptoCardSaid : Prop := Claim7.holds Tryd.pinned (.plain (OpenSpec.upto tableFindsSpec)) tableFindsUptoCard

/-- THE SECOND FORM's CARD OF 'triggerstorelaw6.TableForms'. -/
def tableFormsUptoCard : Claim7 := { stood := { row := tableFormsUptoRow, standIns := [], harness := (true, "2baf761905a9b43795b0954db7a87b84f6e027dbdce84842772a7a3b7c40adfd"), looks := false }, kinds := [], alts := [], laidByText := true, laidKinds := [.data, .data], laidTests := true, laidLooks := .later }
def TableFormsUptoCardSaid : Prop := Claim7.holds Tryd.pinned (.plain (OpenSpec.upto tableFormsSpec)) tableFormsUptoCard
end Rows
end Go.Proofs.YtmopojjhlbjhnaaDoor

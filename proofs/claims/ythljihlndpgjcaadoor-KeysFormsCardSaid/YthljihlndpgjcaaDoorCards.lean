/-
  DERIVED. GIVEN WITH THE SEED: THE CARDS: each row of YthljihlndpgjcaaDoorRows.lean that lists a variable, with what it lists TIED to the program's text (the seventh form; the later family's looks); each row that meets fmt, with fmt's text TOLD by the authors' own Lean function (tested against real Go, not proved from fmt's source: count such statements apart). THE CARD IS WHAT COUNTS. Prove the row's statement (the work); the ties are given (YthljihlndpgjcaaDoorTie.lean); close each card by the builder's one call (the guide's Derived/Test/ToyasCard.lean, 'card_holds'). Laid BY PROGRAM, IN A SANDBOX (cutbox-door.mjs). By AI agents, Wed Nov 11 2026. No macro, syntax, notation, axiom, sorry.
-/
import Derived.Test.YthljihlndpgjcaaDoorRows
import GoSem.ClaimSeven
namespace Go.Proofs.YthljihlndpgjcaaDoor
namespace Rows

/-- THE TIED CARD OF 'triggerstorelaw6.TableBegins'. -/
def tableBeginsCard : Claim7 := { stood := { row := tableBeginsRow, standIns := [], harness := (true, "9aa2da0c4b7ec5bd763fa3d86a37795df9e1e21ac366ed254a62019c40ec215e"), looks := false }, kinds := [], alts := [], laidByText := true, laidKinds := [.data], laidTests := true, laidLooks := .later }
def TableBeginsCardSaid : Prop := Claim7.holds Tryd.pinned (.plain (OpenSpec.ofChange tableBeginsSpec)) tableBeginsCard

/-- THE TIED CARD OF 'triggerstorelaw8.DeltaBetween'. -/
def deltaBetweenCard : Claim7 := { stood := { row := deltaBetweenRow, standIns := [], harness := (true, "9aa2da0c4b7ec5bd763fa3d86a37795df9e1e21ac366ed254a62019c40ec215e"), looks := false }, kinds := [], alts := [], laidByText := true, laidKinds := [.data], laidTests := true, laidLooks := .later }
def DeltaBetweenCardSaid : Prop := Claim7.holds Tryd.pinned (.plain (OpenSpec.ofChange deltaBetweenSpec)) deltaBetweenCard

/-- THE TIED CARD OF 'triggerstorelaw7.KeysApplies'. -/
def keysAppliesCard : Claim7 := { stood := { row := keysAppliesRow, standIns := [], harness := (true, "9aa2da0c4b7ec5bd763fa3d86a37795df9e1e21ac366ed254a62019c40ec215e"), looks := false }, kinds := [], alts := [], laidByText := true, laidKinds := [.data], laidTests := true, laidLooks := .later }
def KeysAppliesCardSaid : Prop := Claim7.holds Tryd.pinned (.plain (OpenSpec.ofChange keysAppliesSpec)) keysAppliesCard

/-- THE TIED CARD OF 'triggerstorelaw7.KeysForms'. -/
def keysFormsCard : Claim7 := { stood := { row := keysFormsRow, standIns := [], harness := (true, "9aa2da0c4b7ec5bd763fa3d86a37795df9e1e21ac366ed254a62019c40ec215e"), looks := false }, kinds := [], alts := [], laidByText := true, laidKinds := [.data], laidTests := true, laidLooks := .later }
def KeysFormsCardSaid : Prop := Claim7.holds Tryd.pinned (.plain (OpenSpec.ofChange keysFormsSpec)) keysFormsCard

/-- THE TIED CARD OF 'triggerstorelaw8.DeltaApplies'. -/
def deltaAppliesCard : Claim7 := { stood := { row := deltaAppliesRow, standIns := [], harness := (true, "9aa2da0c4b7ec5bd763fa3d86a37795df9e1e21ac366ed254a62019c40ec215e"), looks := false }, kinds := [], alts := [], laidByText := true, laidKinds := [.data], laidTests := true, laidLooks := .later }
def DeltaAppliesCardSaid : Prop := Claim7.holds Tryd.pinned (.plain (OpenSpec.ofChange deltaAppliesSpec)) deltaAppliesCard

/-- THE TIED CARD OF 'triggerstorelaw8.DeltaLeads'. -/
def deltaLeadsCard : Claim7 := { stood := { row := deltaLeadsRow, standIns := [], harness := (true, "9aa2da0c4b7ec5bd763fa3d86a37795df9e1e21ac366ed254a62019c40ec215e"), looks := false }, kinds := [], alts := [], laidByText := true, laidKinds := [.data], laidTests := true, laidLooks := .later }
def DeltaLeadsCardSaid : Prop := Claim7.holds Tryd.pinned (.plain (OpenSpec.ofChange deltaLeadsSpec)) deltaLeadsCard

/-- THE SECOND FORM's CARD OF 'triggerstorelaw6.TableBegins'. -/
def tableBeginsUptoCard : Claim7 := { stood := { row := tableBeginsUptoRow, standIns := [], harness := (true, "9aa2da0c4b7ec5bd763fa3d86a37795df9e1e21ac366ed254a62019c40ec215e"), looks := false }, kinds := [], alts := [], laidByText := true, laidKinds := [.data], laidTests := true, laidLooks := .later }
def TableBeginsUptoCardSaid : Prop := Claim7.holds Tryd.pinned (.plain (OpenSpec.upto tableBeginsSpec)) tableBeginsUptoCard

/-- THE SECOND FORM's CARD OF 'triggerstorelaw8.DeltaBetween'. -/
def deltaBetweenUptoCard : Claim7 := { stood := { row := deltaBetweenUptoRow, standIns := [], harness := (true, "9aa2da0c4b7ec5bd763fa3d86a37795df9e1e21ac366ed254a62019c40ec215e"), looks := false }, kinds := [], alts := [], laidByText := true, laidKinds := [.data], laidTests := true, laidLooks := .later }
def DeltaBetweenUptoCardSaid : Prop := Claim7.holds Tryd.pinned (.plain (OpenSpec.upto deltaBetweenSpec)) deltaBetweenUptoCard

/-- THE SECOND FORM's CARD OF 'triggerstorelaw7.KeysApplies'. -/
def keysAppliesUptoCard : Claim7 := { stood := { row := keysAppliesUptoRow, standIns := [], harness := (true, "9aa2da0c4b7ec5bd763fa3d86a37795df9e1e21ac366ed254a62019c40ec215e"), looks := false }, kinds := [], alts := [], laidByText := true, laidKinds := [.data], laidTests := true, laidLooks := .later }
def KeysAppliesUptoCardSaid : Prop := Claim7.holds Tryd.pinned (.plain (OpenSpec.upto keysAppliesSpec)) keysAppliesUptoCard

/-- THE SECOND FORM's CARD OF 'triggerstorelaw7.KeysForms'. -/
def keysFormsUptoCard : Claim7 := { stood := { row := keysFormsUptoRow, standIns := [], harness := (true, "9aa2da0c4b7ec5bd763fa3d86a37795df9e1e21ac366ed254a62019c40ec215e"), looks := false }, kinds := [], alts := [], laidByText := true, laidKinds := [.data], laidTests := true, laidLooks := .later }
def KeysFormsUptoCardSaid : Prop := Claim7.holds Tryd.pinned (.plain (OpenSpec.upto keysFormsSpec)) keysFormsUptoCard

/-- THE SECOND FORM's CARD OF 'triggerstorelaw8.DeltaApplies'. -/
def deltaAppliesUptoCard : Claim7 := { stood := { row := deltaAppliesUptoRow, standIns := [], harness := (true, "9aa2da0c4b7ec5bd763fa3d86a37795df9e1e21ac366ed254a62019c40ec215e"), looks := false }, kinds := [], alts := [], laidByText := true, laidKinds := [.data], laidTests := true, laidLooks := .later }
def DeltaAppliesUptoCardSaid : Prop := Claim7.holds Tryd.pinned (.plain (OpenSpec.upto deltaAppliesSpec)) deltaAppliesUptoCard

/-- THE SECOND FORM's CARD OF 'triggerstorelaw8.DeltaLeads'. -/
def deltaLeadsUptoCard : Claim7 := { stood := { row := deltaLeadsUptoRow, standIns := [], harness := (true, "9aa2da0c4b7ec5bd763fa3d86a37795df9e1e21ac366ed254a62019c40ec215e"), looks := false }, kinds := [], alts := [], laidByText := true, laidKinds := [.data], laidTests := true, laidLooks := .later }
def DeltaLeadsUptoCardSaid : Prop := Claim7.holds Tryd.pinned (.plain (OpenSpec.upto deltaLeadsSpec)) deltaLeadsUptoCard
end Rows
end Go.Proofs.YthljihlndpgjcaaDoor

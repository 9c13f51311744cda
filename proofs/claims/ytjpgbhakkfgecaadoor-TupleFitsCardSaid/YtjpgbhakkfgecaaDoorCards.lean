/-
  DERIVED. GIVEN WITH THE SEED: THE CARDS: each row of YtjpgbhakkfgecaaDoorRows.lean that lists a variable, with what it lists TIED to the program's text (the seventh form; the later family's looks); each row that meets fmt, with fmt's text TOLD by the authors' own Lean function (tested against real Go, not proved from fmt's source: count such statements apart). THE CARD IS WHAT COUNTS. Prove the row's statement (the work); the ties are given (YtjpgbhakkfgecaaDoorTie.lean); close each card by the builder's one call (the guide's Derived/Test/ToyasCard.lean, 'card_holds'). Laid BY PROGRAM, IN A SANDBOX (cutbox-door.mjs). By AI agents, Wed Nov 11 2026. No macro, syntax, notation, axiom, sorry.
-/
import Derived.Test.YtjpgbhakkfgecaaDoorRows
import GoSem.ClaimSeven
namespace Go.Proofs.YtjpgbhakkfgecaaDoor
namespace Rows

/-- THE TIED CARD OF 'triggerstorelaw8.DeltaBetween'. -/
def deltaBetweenCard : Claim7 := { stood := { row := deltaBetweenRow, standIns := [], harness := (true, "cdfda6647320e065ed7ab5dbf22985f1b3a02f0715253ab924cbc6aba2a3ebb7"), looks := false }, kinds := [], alts := [], laidByText := true, laidKinds := [.data], laidTests := true, laidLooks := .later }
def DeltaBetweenCardSaid : Prop := Claim7.holds Tryd.pinned (.plain (OpenSpec.ofChange deltaBetweenSpec)) deltaBetweenCard

/-- THE TIED CARD OF 'triggerstorelaw8.DeltaApplies'. -/
def deltaAppliesCard : Claim7 := { stood := { row := deltaAppliesRow, standIns := [], harness := (true, "cdfda6647320e065ed7ab5dbf22985f1b3a02f0715253ab924cbc6aba2a3ebb7"), looks := false }, kinds := [], alts := [], laidByText := true, laidKinds := [.data], laidTests := true, laidLooks := .later }
def DeltaAppliesCardSaid : Prop := Claim7.holds Tryd.pinned (.plain (OpenSpec.ofChange deltaAppliesSpec)) deltaAppliesCard

/-- THE TIED CARD OF 'triggerstorelaw8.DeltaLeads'. -/
def deltaLeadsCard : Claim7 := { stood := { row := deltaLeadsRow, standIns := [], harness := (true, "cdfda6647320e065ed7ab5dbf22985f1b3a02f0715253ab924cbc6aba2a3ebb7"), looks := false }, kinds := [], alts := [], laidByText := true, laidKinds := [.data], laidTests := true, laidLooks := .later }
def DeltaLeadsCardSaid : Prop := Claim7.holds Tryd.pinned (.plain (OpenSpec.ofChange deltaLeadsSpec)) deltaLeadsCard

/-- THE TIED CARD OF 'triggerstorelaw5.TupleBags'. -/
def tupleBagsCard : Claim7 := { stood := { row := tupleBagsRow, standIns := [], harness := (true, "cdfda6647320e065ed7ab5dbf22985f1b3a02f0715253ab924cbc6aba2a3ebb7"), looks := false }, kinds := [], alts := [], laidByText := true, laidKinds := [.data], laidTests := true, laidLooks := .later }
def TupleBagsCardSaid : Prop := Claim7.holds Tryd.pinned (.plain (OpenSpec.ofChange tupleBagsSpec)) tupleBagsCard

/-- THE TIED CARD OF 'triggerstorelaw5.TupleSorts'. -/
def tupleSortsCard : Claim7 := { stood := { row := tupleSortsRow, standIns := [], harness := (true, "cdfda6647320e065ed7ab5dbf22985f1b3a02f0715253ab924cbc6aba2a3ebb7"), looks := false }, kinds := [], alts := [], laidByText := true, laidKinds := [.data], laidTests := true, laidLooks := .later }
def TupleSortsCardSaid : Prop := Claim7.holds Tryd.pinned (.plain (OpenSpec.ofChange tupleSortsSpec)) tupleSortsCard

/-- THE TIED CARD OF 'triggerstorelaw5.TupleDiffers'. -/
def tupleDiffersCard : Claim7 := { stood := { row := tupleDiffersRow, standIns := [], harness := (true, "cdfda6647320e065ed7ab5dbf22985f1b3a02f0715253ab924cbc6aba2a3ebb7"), looks := false }, kinds := [], alts := [], laidByText := true, laidKinds := [.data], laidTests := true, laidLooks := .later }
def TupleDiffersCardSaid : Prop := Claim7.holds Tryd.pinned (.plain (OpenSpec.ofChange tupleDiffersSpec)) tupleDiffersCard

/-- THE TIED CARD OF 'triggerstorelaw5.TupleFits'. -/
def tupleFitsCard : Claim7 := { stood := { row := tupleFitsRow, standIns := [], harness := (true, "cdfda6647320e065ed7ab5dbf22985f1b3a02f0715253ab924cbc6aba2a3ebb7"), looks := false }, kinds := [], alts := [], laidByText := true, laidKinds := [.data, .data], laidTests := true, laidLooks := .later }
def TupleFitsCardSaid : Prop := Claim7.holds Tryd.pinned (.plain (OpenSpec.ofChange tupleFitsSpec)) tupleFitsCard

/-- THE TIED CARD OF 'triggerstorelaw8.DeltaNets'. -/
def deltaNetsCard : Claim7 := { stood := { row := deltaNetsRow, standIns := [], harness := (true, "cdfda6647320e065ed7ab5dbf22985f1b3a02f0715253ab924cbc6aba2a3ebb7"), looks := false }, kinds := [], alts := [], laidByText := true, laidKinds := [.data], laidTests := true, laidLooks := .later }
def DeltaNetsCardSaid : Prop := Claim7.holds Tryd.pinned (.plain (OpenSpec.ofChange deltaNetsSpec)) deltaNetsCard

/-- THE SECOND FORM's CARD OF 'triggerstorelaw8.DeltaBetween'. -/
def deltaBetweenUptoCard : Claim7 := { stood := { row := deltaBetweenUptoRow, standIns := [], harness := (true, "cdfda6647320e065ed7ab5dbf22985f1b3a02f0715253ab924cbc6aba2a3ebb7"), looks := false }, kinds := [], alts := [], laidByText := true, laidKinds := [.data], laidTests := true, laidLooks := .later }
def DeltaBetweenUptoCardSaid : Prop := Claim7.holds Tryd.pinned (.plain (OpenSpec.upto deltaBetweenSpec)) deltaBetweenUptoCard

/-- THE SECOND FORM's CARD OF 'triggerstorelaw8.DeltaApplies'. -/
def deltaAppliesUptoCard : Claim7 := { stood := { row := deltaAppliesUptoRow, standIns := [], harness := (true, "cdfda6647320e065ed7ab5dbf22985f1b3a02f0715253ab924cbc6aba2a3ebb7"), looks := false }, kinds := [], alts := [], laidByText := true, laidKinds := [.data], laidTests := true, laidLooks := .later }
def DeltaAppliesUptoCardSaid : Prop := Claim7.holds Tryd.pinned (.plain (OpenSpec.upto deltaAppliesSpec)) deltaAppliesUptoCard

/-- THE SECOND FORM's CARD OF 'triggerstorelaw8.DeltaLeads'. -/
def deltaLeadsUptoCard : Claim7 := { stood := { row := deltaLeadsUptoRow, standIns := [], harness := (true, "cdfda6647320e065ed7ab5dbf22985f1b3a02f0715253ab924cbc6aba2a3ebb7"), looks := false }, kinds := [], alts := [], laidByText := true, laidKinds := [.data], laidTests := true, laidLooks := .later }
def DeltaLeadsUptoCardSaid : Prop := Claim7.holds Tryd.pinned (.plain (OpenSpec.upto deltaLeadsSpec)) deltaLeadsUptoCard

/-- THE SECOND FORM's CARD OF 'triggerstorelaw5.TupleBags'. -/
def tupleBagsUptoCard : Claim7 := { stood := { row := tupleBagsUptoRow, standIns := [], harness := (true, "cdfda6647320e065ed7ab5dbf22985f1b3a02f0715253ab924cbc6aba2a3ebb7"), looks := false }, kinds := [], alts := [], laidByText := true, laidKinds := [.data], laidTests := true, laidLooks := .later }
def TupleBagsUptoCardSaid : Prop := Claim7.holds Tryd.pinned (.plain (OpenSpec.upto tupleBagsSpec)) tupleBagsUptoCard

/-- THE SECOND FORM's CARD OF 'triggerstorelaw5.TupleSorts'. -/
def tupleSortsUptoCard : Claim7 := { stood := { row := tupleSortsUptoRow, standIns := [], harness := (true, "cdfda6647320e065ed7ab5dbf22985f1b3a02f0715253ab924cbc6aba2a3ebb7"), looks := false }, kinds := [], alts := [], laidByText := true, laidKinds := [.data], laidTests := true, laidLooks := .later }
def TupleSortsUptoCardSaid : Prop := Claim7.holds Tryd.pinned (.plain (OpenSpec.upto tupleSortsSpec)) tupleSortsUptoCard

/-- THE SECOND FORM's CARD OF 'triggerstorelaw5.TupleDiffers'. -/
def tupleDiffersUptoCard : Claim7 := { stood := { row := tupleDiffersUptoRow, standIns := [], harness := (true, "cdfda6647320e065ed7ab5dbf22985f1b3a02f0715253ab924cbc6aba2a3ebb7"), looks := false }, kinds := [], alts := [], laidByText := true, laidKinds := [.data], laidTests := true, laidLooks := .later }
def TupleDiffersUptoCardSaid : Prop := Claim7.holds Tryd.pinned (.plain (OpenSpec.upto tupleDiffersSpec)) tupleDiffersUptoCard

/-- THE SECOND FORM's CARD OF 'triggerstorelaw5.TupleFits'. -/
def tupleFitsUptoCard : Claim7 := { stood := { row := tupleFitsUptoRow, standIns := [], harness := (true, "cdfda6647320e065ed7ab5dbf22985f1b3a02f0715253ab924cbc6aba2a3ebb7"), looks := false }, kinds := [], alts := [], laidByText := true, laidKinds := [.data, .data], laidTests := true, laidLooks := .later }
def TupleFitsUptoCardSaid : Prop := Claim7.holds Tryd.pinned (.plain (OpenSpec.upto tupleFitsSpec)) tupleFitsUptoCard

/-- THE SECOND FORM's CARD OF 'triggerstorelaw8.DeltaNets'. -/
def deltaNetsUptoCard : Claim7 := { stood := { row := deltaNetsUptoRow, standIns := [], harness := (true, "cdfda6647320e065ed7ab5dbf22985f1b3a02f0715253ab924cbc6aba2a3ebb7"), looks := false }, kinds := [], alts := [], laidByText := true, laidKinds := [.data], laidTests := true, laidLooks := .later }
def DeltaNetsUptoCardSaid : Prop := Claim7.holds Tryd.pinned (.plain (OpenSpec.upto deltaNetsSpec)) deltaNetsUptoCard
end Rows
end Go.Proofs.YtjpgbhakkfgecaaDoor

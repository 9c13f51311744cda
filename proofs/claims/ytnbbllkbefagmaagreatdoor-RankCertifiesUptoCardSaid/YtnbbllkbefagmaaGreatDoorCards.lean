/-
  DERIVED. GIVEN WITH THE SEED: THE CARDS: each row of YtnbbllkbefagmaaGreatDoorRows.lean that lists a variable, with what it lists TIED to the program's text (the seventh form; the later family's looks); each row that meets fmt, with fmt's text TOLD by the authors' own Lean function (tested against real Go, not proved from fmt's source: count such statements apart). THE CARD IS WHAT COUNTS. Prove the row's statement (the work); the ties are given (YtnbbllkbefagmaaGreatDoorTie.lean); close each card by the builder's one call (the guide's Derived/Test/ToyasCard.lean, 'card_holds'). Laid BY PROGRAM, IN A SANDBOX (cutbox-door.mjs). By AI agents, Wed Nov 11 2026. No macro, syntax, notation, axiom, sorry.
-/
import Derived.Test.YtnbbllkbefagmaaGreatDoorRows
import GoSem.ClaimSeven
namespace Go.Proofs.YtnbbllkbefagmaaGreatDoor
namespace Rows

/-- THE TIED CARD OF 'triggerstorelaw22.EventCounts'. -/
def eventCountsCard : Claim7 := { stood := { row := eventCountsRow, standIns := [], harness := (true, "3eddab097a278056de7eb88e8de7f27f422ad91ffb339d7823660db7cb325ed3"), looks := false }, kinds := [], alts := [], laidByText := true, laidKinds := [.data, .data], laidTests := true, laidLooks := .later }
def EventCountsCardSaid : Prop := Claim7.holds Tryz.pinned (.plain (OpenSpec.ofChange eventCountsSpec)) eventCountsCard

/-- THE TIED CARD OF 'triggerstorelaw27.TriggeringFewer'. -/
def triggeringFewerCard : Claim7 := { stood := { row := triggeringFewerRow, standIns := [], harness := (true, "3eddab097a278056de7eb88e8de7f27f422ad91ffb339d7823660db7cb325ed3"), looks := false }, kinds := [], alts := [], laidByText := true, laidKinds := [.data, .data], laidTests := true, laidLooks := .later }
def TriggeringFewerCardSaid : Prop := Claim7.holds Tryz.pinned (.plain (OpenSpec.ofChange triggeringFewerSpec)) triggeringFewerCard

/-- THE TIED CARD OF 'triggerstorelaw27.TriggeringLeads'. -/
def triggeringLeadsCard : Claim7 := { stood := { row := triggeringLeadsRow, standIns := [], harness := (true, "3eddab097a278056de7eb88e8de7f27f422ad91ffb339d7823660db7cb325ed3"), looks := false }, kinds := [], alts := [], laidByText := true, laidKinds := [.data, .data], laidTests := true, laidLooks := .later }
def TriggeringLeadsCardSaid : Prop := Claim7.holds Tryz.pinned (.plain (OpenSpec.ofChange triggeringLeadsSpec)) triggeringLeadsCard

/-- THE TIED CARD OF 'triggerstorelaw28.RankCertifies'. -/
def rankCertifiesCard : Claim7 := { stood := { row := rankCertifiesRow, standIns := [], harness := (true, "3eddab097a278056de7eb88e8de7f27f422ad91ffb339d7823660db7cb325ed3"), looks := false }, kinds := [], alts := [], laidByText := true, laidKinds := [.data, .data], laidTests := true, laidLooks := .later }
def RankCertifiesCardSaid : Prop := Claim7.holds Tryz.pinned (.plain (OpenSpec.ofChange rankCertifiesSpec)) rankCertifiesCard

/-- THE TIED CARD OF 'triggerstorelaw28.RankFalls'. -/
def rankFallsCard : Claim7 := { stood := { row := rankFallsRow, standIns := [], harness := (true, "3eddab097a278056de7eb88e8de7f27f422ad91ffb339d7823660db7cb325ed3"), looks := false }, kinds := [], alts := [], laidByText := true, laidKinds := [.data, .data], laidTests := true, laidLooks := .later }
def RankFallsCardSaid : Prop := Claim7.holds Tryz.pinned (.plain (OpenSpec.ofChange rankFallsSpec)) rankFallsCard

/-- THE SECOND FORM's CARD OF 'triggerstorelaw22.EventCounts'. -/
def eventCountsUptoCard : Claim7 := { stood := { row := eventCountsUptoRow, standIns := [], harness := (true, "3eddab097a278056de7eb88e8de7f27f422ad91ffb339d7823660db7cb325ed3"), looks := false }, kinds := [], alts := [], laidByText := true, laidKinds := [.data, .data], laidTests := true, laidLooks := .later }
def EventCountsUptoCardSaid : Prop := Claim7.holds Tryz.pinned (.plain (OpenSpec.upto eventCountsSpec)) eventCountsUptoCard

/-- THE SECOND FORM's CARD OF 'triggerstorelaw27.TriggeringFewer'. -/
def triggeringFewerUptoCard : Claim7 := { stood := { row := triggeringFewerUptoRow, standIns := [], harness := (true, "3eddab097a278056de7eb88e8de7f27f422ad91ffb339d7823660db7cb325ed3"), looks := false }, kinds := [], alts := [], laidByText := true, laidKinds := [.data, .data], laidTests := true, laidLooks := .later }
def TriggeringFewerUptoCardSaid : Prop := Claim7.holds Tryz.pinned (.plain (OpenSpec.upto triggeringFewerSpec)) triggeringFewerUptoCard

/-- THE SECOND FORM's CARD OF 'triggerstorelaw27.TriggeringLeads'. -/
def triggeringLeadsUptoCard : Claim7 := { stood := { row := triggeringLeadsUptoRow, standIns := [], harness := (true, "3eddab097a278056de7eb88e8de7f27f422ad91ffb339d7823660db7cb325ed3"), looks := false }, kinds := [], alts := [], laidByText := true, laidKinds := [.data, .data], laidTests := true, laidLooks := .later }
def TriggeringLeadsUptoCardSaid : Prop := Claim7.holds Tryz.pinned (.plain (OpenSpec.upto triggeringLeadsSpec)) triggeringLeadsUptoCard

/-- THE SECOND FORM's CARD OF 'triggerstorelaw28.RankCertifies'. -/
def rankCertifiesUptoCard : Claim7 := { stood := { row := rankCertifiesUptoRow, standIns := [], harness := (true, "3eddab097a278056de7eb88e8de7f27f422ad91ffb339d7823660db7cb325ed3"), looks := false }, kinds := [], alts := [], laidByText := true, laidKinds := [.data, .data], laidTests := true, laidLooks := .later }
def RankCertifiesUptoCardSaid : Prop := Claim7.holds Tryz.pinned (.plain (OpenSpec.upto rankCertifiesSpec)) rankCertifiesUptoCard

/-- THE SECOND FORM's CARD OF 'triggerstorelaw28.RankFalls'. -/
def rankFallsUptoCard : Claim7 := { stood := { row := rankFallsUptoRow, standIns := [], harness := (true, "3eddab097a278056de7eb88e8de7f27f422ad91ffb339d7823660db7cb325ed3"), looks := false }, kinds := [], alts := [], laidByText := true, laidKinds := [.data, .data], laidTests := true, laidLooks := .later }
def RankFallsUptoCardSaid : Prop := Claim7.holds Tryz.pinned (.plain (OpenSpec.upto rankFallsSpec)) rankFallsUptoCard
end Rows
end Go.Proofs.YtnbbllkbefagmaaGreatDoor

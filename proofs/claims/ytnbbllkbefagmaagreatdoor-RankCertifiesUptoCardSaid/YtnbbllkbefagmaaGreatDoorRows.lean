/-
  NARROWER THAN 'FOR EVERY INPUT', by the rows' own cells (each row's printed sentence says how): EventCounts: laid · TriggeringFewer: laid · TriggeringLeads: laid · RankCertifies: loops, laid · RankFalls: laid.
  DERIVED. THE GIVEN ROWS OF THIS SEAT. 5 by the template 'for every input the law returns true; each argument reads behind the call as it read before'; 0 by the template 'total and deterministic' (their statements: YtnbbllkbefagmaaGreatDoorTotals.lean).
  GIVEN WITH THE SEED: the statements are not yours to turn. If you find one false, say at which input.
  Laid BY PROGRAM, IN A SANDBOX (cutbox-rows.mjs): the forced cells as the released guide's own fill.sh prints them over the translation 69fe4dcb14ca9078… (all of the seat's roots in one cut). By AI agents, Wed Nov 11 2026. No macro, syntax, notation, axiom, sorry.
-/
import Derived.Test.YtnbbllkbefagmaaGreatDoorChecked
import GoSem.Claim
import GoSem.ClaimJoined
import GoSem.ClaimMapViews
import Derived.JoinedTies
import Derived.KernelRfl
namespace Go.Proofs.YtnbbllkbefagmaaGreatDoor
/- THE CELL 'sum', in the pinned program and in every row, IS THE sha256 OF THE DUMP (.gsa) THAT YtnbbllkbefagmaaGreatDoorProg.lean LOADS. Nothing in Lean hashes anything: it is a label: what it is worth is what the hold of that sum in a sandbox is worth. -/
noncomputable def Tryz.pinned : Pinned := { name := "ytnbbllkbefagmaagreatdoor", sum := "69fe4dcb14ca907828e2ad42c85f0c62d8353e633f8258313cbff153998b1ff8", checked := Tryz.checked }
namespace Rows
def none {H : Type} : Left H := { results := [], args := [] }

/- WHAT THE LISTED PACKAGE-LEVEL VARIABLES READ AS WHEN THE CALL BEGINS. Each datum BY PROGRAM (the guide's laid-datum.mjs) off the statement by which the dump's own 'gosem.cut.vars' lays the variable. In a bare row this is a premise. The card (YtnbbllkbefagmaaGreatDoorCards.lean) ties it to the program's text. -/
def laid_triggerstore_triggerstoreworld_triggerNames {H : Type} : DataW H := .agg [.lit (.string [97, 97]), .lit (.string [98, 98]), .lit (.string [99, 99]), .lit (.string [100, 100]), .lit (.string [101, 101]), .lit (.string [102, 102]), .lit (.string [103, 103]), .lit (.string [104, 104])]
def laid_triggerstore_triggerstoreworld_words {H : Type} : DataW H := .agg [.lit (.string []), .lit (.string [97]), .lit (.string [98]), .lit (.string [105, 116, 39, 115]), .lit (.string [90, 32, 122]), .lit (.string [126])]

/-- 'triggerstorelaw22.EventCounts': WHATEVER THE INPUT: true; the input reads as it did. -/
def eventCountsSpec : ChangeSpec := { name := "eventCounts", fn := fun _ => fun
  | [d] => { results := [.lit (.bool true)], args := [d] }
  | _ => none }
def eventCountsRow : OpenClaim := { program := "ytnbbllkbefagmaagreatdoor", sum := "69fe4dcb14ca907828e2ad42c85f0c62d8353e633f8258313cbff153998b1ff8", func := "triggerstore/triggerstorelaw22.EventCounts", spec := "eventCounts", inPlace := ["internal/bytealg.abigen_runtime_cmpstring"], unfollowed := true, recurses := true, named := ["triggerstore/triggerstoreworld.triggerNames", "triggerstore/triggerstoreworld.words"], plainKeys := false, apart := false, laid := [("triggerstore/triggerstoreworld.triggerNames", laid_triggerstore_triggerstoreworld_triggerNames), ("triggerstore/triggerstoreworld.words", laid_triggerstore_triggerstoreworld_words)] }
def EventCountsSaid : Prop := eventCountsRow.holds Tryz.pinned (OpenSpec.ofChange eventCountsSpec)

/-- ITS FALSE NEIGHBOUR: 'it returns false'. Refute it at one input. -/
def eventCountsWrong : ChangeSpec := { name := "eventCounts", fn := fun _ => fun
  | [d] => { results := [.lit (.bool false)], args := [d] }
  | _ => none }
def EventCountsWrongFalsely : Prop := eventCountsRow.holds Tryz.pinned (OpenSpec.ofChange eventCountsWrong)

/-- 'triggerstorelaw27.TriggeringFewer': WHATEVER THE INPUT: true; the input reads as it did. -/
def triggeringFewerSpec : ChangeSpec := { name := "triggeringFewer", fn := fun _ => fun
  | [d1, d2] => { results := [.lit (.bool true)], args := [d1, d2] }
  | _ => none }
def triggeringFewerRow : OpenClaim := { program := "ytnbbllkbefagmaagreatdoor", sum := "69fe4dcb14ca907828e2ad42c85f0c62d8353e633f8258313cbff153998b1ff8", func := "triggerstore/triggerstorelaw27.TriggeringFewer", spec := "triggeringFewer", unfollowed := true, recurses := true, named := ["triggerstore/triggerstoreworld.triggerNames", "triggerstore/triggerstoreworld.words"], plainKeys := false, apart := false, laid := [("triggerstore/triggerstoreworld.triggerNames", laid_triggerstore_triggerstoreworld_triggerNames), ("triggerstore/triggerstoreworld.words", laid_triggerstore_triggerstoreworld_words)] }
def TriggeringFewerSaid : Prop := triggeringFewerRow.holds Tryz.pinned (OpenSpec.ofChange triggeringFewerSpec)

/-- ITS FALSE NEIGHBOUR: 'it returns false'. Refute it at one input. -/
def triggeringFewerWrong : ChangeSpec := { name := "triggeringFewer", fn := fun _ => fun
  | [d1, d2] => { results := [.lit (.bool false)], args := [d1, d2] }
  | _ => none }
def TriggeringFewerWrongFalsely : Prop := triggeringFewerRow.holds Tryz.pinned (OpenSpec.ofChange triggeringFewerWrong)

/-- 'triggerstorelaw27.TriggeringLeads': WHATEVER THE INPUT: true; the input reads as it did. -/
def triggeringLeadsSpec : ChangeSpec := { name := "triggeringLeads", fn := fun _ => fun
  | [d] => { results := [.lit (.bool true)], args := [d] }
  | _ => none }
def triggeringLeadsRow : OpenClaim := { program := "ytnbbllkbefagmaagreatdoor", sum := "69fe4dcb14ca907828e2ad42c85f0c62d8353e633f8258313cbff153998b1ff8", func := "triggerstore/triggerstorelaw27.TriggeringLeads", spec := "triggeringLeads", inPlace := ["internal/bytealg.abigen_runtime_cmpstring", "math/bits.Add64"], unfollowed := true, recurses := true, named := ["triggerstore/triggerstoreworld.triggerNames", "triggerstore/triggerstoreworld.words"], plainKeys := false, apart := false, laid := [("triggerstore/triggerstoreworld.triggerNames", laid_triggerstore_triggerstoreworld_triggerNames), ("triggerstore/triggerstoreworld.words", laid_triggerstore_triggerstoreworld_words)] }
def TriggeringLeadsSaid : Prop := triggeringLeadsRow.holds Tryz.pinned (OpenSpec.ofChange triggeringLeadsSpec)

/-- ITS FALSE NEIGHBOUR: 'it returns false'. Refute it at one input. -/
def triggeringLeadsWrong : ChangeSpec := { name := "triggeringLeads", fn := fun _ => fun
  | [d] => { results := [.lit (.bool false)], args := [d] }
  | _ => none }
def TriggeringLeadsWrongFalsely : Prop := triggeringLeadsRow.holds Tryz.pinned (OpenSpec.ofChange triggeringLeadsWrong)

/-- 'triggerstorelaw28.RankCertifies': WHATEVER THE INPUT: true; the input reads as it did. -/
def rankCertifiesSpec : ChangeSpec := { name := "rankCertifies", fn := fun _ => fun
  | [d1, d2, d3] => { results := [.lit (.bool true)], args := [d1, d2, d3] }
  | _ => none }
def rankCertifiesRow : OpenClaim := { program := "ytnbbllkbefagmaagreatdoor", sum := "69fe4dcb14ca907828e2ad42c85f0c62d8353e633f8258313cbff153998b1ff8", func := "triggerstore/triggerstorelaw28.RankCertifies", spec := "rankCertifies", unfollowed := true, recurses := true, named := ["triggerstore/triggerstoreworld.triggerNames", "triggerstore/triggerstoreworld.words"], loops := true, plainKeys := false, apart := false, laid := [("triggerstore/triggerstoreworld.triggerNames", laid_triggerstore_triggerstoreworld_triggerNames), ("triggerstore/triggerstoreworld.words", laid_triggerstore_triggerstoreworld_words)] }
def RankCertifiesSaid : Prop := rankCertifiesRow.holds Tryz.pinned (OpenSpec.ofChange rankCertifiesSpec)

/-- ITS FALSE NEIGHBOUR: 'it returns false'. Refute it at one input. -/
def rankCertifiesWrong : ChangeSpec := { name := "rankCertifies", fn := fun _ => fun
  | [d1, d2, d3] => { results := [.lit (.bool false)], args := [d1, d2, d3] }
  | _ => none }
def RankCertifiesWrongFalsely : Prop := rankCertifiesRow.holds Tryz.pinned (OpenSpec.ofChange rankCertifiesWrong)

/-- 'triggerstorelaw28.RankFalls': WHATEVER THE INPUT: true; the input reads as it did. -/
def rankFallsSpec : ChangeSpec := { name := "rankFalls", fn := fun _ => fun
  | [d] => { results := [.lit (.bool true)], args := [d] }
  | _ => none }
def rankFallsRow : OpenClaim := { program := "ytnbbllkbefagmaagreatdoor", sum := "69fe4dcb14ca907828e2ad42c85f0c62d8353e633f8258313cbff153998b1ff8", func := "triggerstore/triggerstorelaw28.RankFalls", spec := "rankFalls", inPlace := ["math/bits.Add64", "internal/bytealg.abigen_runtime_cmpstring"], unfollowed := true, recurses := true, named := ["triggerstore/triggerstoreworld.triggerNames", "triggerstore/triggerstoreworld.words"], plainKeys := false, apart := false, laid := [("triggerstore/triggerstoreworld.triggerNames", laid_triggerstore_triggerstoreworld_triggerNames), ("triggerstore/triggerstoreworld.words", laid_triggerstore_triggerstoreworld_words)] }
def RankFallsSaid : Prop := rankFallsRow.holds Tryz.pinned (OpenSpec.ofChange rankFallsSpec)

/-- ITS FALSE NEIGHBOUR: 'it returns false'. Refute it at one input. -/
def rankFallsWrong : ChangeSpec := { name := "rankFalls", fn := fun _ => fun
  | [d] => { results := [.lit (.bool false)], args := [d] }
  | _ => none }
def RankFallsWrongFalsely : Prop := rankFallsRow.holds Tryz.pinned (OpenSpec.ofChange rankFallsWrong)

/- THE SECOND FORM. 'bulk': how many values and letters a reading holds, each counted each time it is reached (what is shared counts as often as it is met; a slice's spare places count too). A statement '..UptoSaid' is the law's where the arguments, and the package variables that the reading takes, are together of bulk at most 1048576: NARROWER than '..Said'. Prove '..Said' where nothing that the law and all that it calls make is longer than what came in: it says more and counts as full. Else prove '..UptoSaid'. A law counts once. -/
mutual
def uptoBulk {H : Type} : DataW H → Nat
  | .lit (.string bytes) => bytes.length + 1
  | .lit _ => 1
  | .nil => 1
  | .ptr d => uptoBulk d + 1
  | .slice elems spare => uptoBulkAll elems + uptoBulkAll spare + 1
  | .agg parts => uptoBulkAll parts + 1
  | .iface _ d => uptoBulk d + 1
  | .map entries => uptoBulkEntries entries + 1
  | .held _ => 1
def uptoBulkAll {H : Type} : List (DataW H) → Nat
  | [] => 0
  | d :: r => uptoBulk d + uptoBulkAll r
def uptoBulkEntries {H : Type} : List (Lit × DataW H) → Nat
  | [] => 0
  | x :: r => uptoBulkEntry x + uptoBulkEntries r
def uptoBulkEntry {H : Type} : Lit × DataW H → Nat
  | (.string bytes, d) => bytes.length + uptoBulk d + 1
  | (_, d) => uptoBulk d + 1
 end
def uptoSmall : (H : Type) → List (DataW H) → Bool := fun _ ds => decide (uptoBulkAll ds ≤ 1048576)
def OpenSpec.upto (s : _root_.Go.ChangeSpec) : _root_.Go.OpenSpec := { _root_.Go.OpenSpec.ofChange s with cond := some uptoSmall }

/-- 'triggerstorelaw22.EventCounts', WHERE WHAT IT READS IS OF BULK AT MOST 1048576: true; the input reads as it did. -/
def eventCountsUptoRow : OpenClaim := { program := "ytnbbllkbefagmaagreatdoor", sum := "69fe4dcb14ca907828e2ad42c85f0c62d8353e633f8258313cbff153998b1ff8", func := "triggerstore/triggerstorelaw22.EventCounts", spec := "eventCounts", inPlace := ["internal/bytealg.abigen_runtime_cmpstring"], unfollowed := true, recurses := true, named := ["triggerstore/triggerstoreworld.triggerNames", "triggerstore/triggerstoreworld.words"], plainKeys := false, apart := false, laid := [("triggerstore/triggerstoreworld.triggerNames", laid_triggerstore_triggerstoreworld_triggerNames), ("triggerstore/triggerstoreworld.words", laid_triggerstore_triggerstoreworld_words)], narrowed := true }
def EventCountsUptoSaid : Prop := eventCountsUptoRow.holds Tryz.pinned (OpenSpec.upto eventCountsSpec)

/-- 'triggerstorelaw27.TriggeringFewer', WHERE WHAT IT READS IS OF BULK AT MOST 1048576: true; the input reads as it did. -/
def triggeringFewerUptoRow : OpenClaim := { program := "ytnbbllkbefagmaagreatdoor", sum := "69fe4dcb14ca907828e2ad42c85f0c62d8353e633f8258313cbff153998b1ff8", func := "triggerstore/triggerstorelaw27.TriggeringFewer", spec := "triggeringFewer", unfollowed := true, recurses := true, named := ["triggerstore/triggerstoreworld.triggerNames", "triggerstore/triggerstoreworld.words"], plainKeys := false, apart := false, laid := [("triggerstore/triggerstoreworld.triggerNames", laid_triggerstore_triggerstoreworld_triggerNames), ("triggerstore/triggerstoreworld.words", laid_triggerstore_triggerstoreworld_words)], narrowed := true }
def TriggeringFewerUptoSaid : Prop := triggeringFewerUptoRow.holds Tryz.pinned (OpenSpec.upto triggeringFewerSpec)

/-- 'triggerstorelaw27.TriggeringLeads', WHERE WHAT IT READS IS OF BULK AT MOST 1048576: true; the input reads as it did. -/
def triggeringLeadsUptoRow : OpenClaim := { program := "ytnbbllkbefagmaagreatdoor", sum := "69fe4dcb14ca907828e2ad42c85f0c62d8353e633f8258313cbff153998b1ff8", func := "triggerstore/triggerstorelaw27.TriggeringLeads", spec := "triggeringLeads", inPlace := ["internal/bytealg.abigen_runtime_cmpstring", "math/bits.Add64"], unfollowed := true, recurses := true, named := ["triggerstore/triggerstoreworld.triggerNames", "triggerstore/triggerstoreworld.words"], plainKeys := false, apart := false, laid := [("triggerstore/triggerstoreworld.triggerNames", laid_triggerstore_triggerstoreworld_triggerNames), ("triggerstore/triggerstoreworld.words", laid_triggerstore_triggerstoreworld_words)], narrowed := true }
def TriggeringLeadsUptoSaid : Prop := triggeringLeadsUptoRow.holds Tryz.pinned (OpenSpec.upto triggeringLeadsSpec)

/-- 'triggerstorelaw28.RankCertifies', WHERE WHAT IT READS IS OF BULK AT MOST 1048576: true; the input reads as it did. -/
def rankCertifiesUptoRow : OpenClaim := { program := "ytnbbllkbefagmaagreatdoor", sum := "69fe4dcb14ca907828e2ad42c85f0c62d8353e633f8258313cbff153998b1ff8", func := "triggerstore/triggerstorelaw28.RankCertifies", spec := "rankCertifies", unfollowed := true, recurses := true, named := ["triggerstore/triggerstoreworld.triggerNames", "triggerstore/triggerstoreworld.words"], loops := true, plainKeys := false, apart := false, laid := [("triggerstore/triggerstoreworld.triggerNames", laid_triggerstore_triggerstoreworld_triggerNames), ("triggerstore/triggerstoreworld.words", laid_triggerstore_triggerstoreworld_words)], narrowed := true }
def RankCertifiesUptoSaid : Prop := rankCertifiesUptoRow.holds Tryz.pinned (OpenSpec.upto rankCertifiesSpec)

/-- 'triggerstorelaw28.RankFalls', WHERE WHAT IT READS IS OF BULK AT MOST 1048576: true; the input reads as it did. -/
def rankFallsUptoRow : OpenClaim := { program := "ytnbbllkbefagmaagreatdoor", sum := "69fe4dcb14ca907828e2ad42c85f0c62d8353e633f8258313cbff153998b1ff8", func := "triggerstore/triggerstorelaw28.RankFalls", spec := "rankFalls", inPlace := ["math/bits.Add64", "internal/bytealg.abigen_runtime_cmpstring"], unfollowed := true, recurses := true, named := ["triggerstore/triggerstoreworld.triggerNames", "triggerstore/triggerstoreworld.words"], plainKeys := false, apart := false, laid := [("triggerstore/triggerstoreworld.triggerNames", laid_triggerstore_triggerstoreworld_triggerNames), ("triggerstore/triggerstoreworld.words", laid_triggerstore_triggerstoreworld_words)], narrowed := true }
def RankFallsUptoSaid : Prop := rankFallsUptoRow.holds Tryz.pinned (OpenSpec.upto rankFallsSpec)

end Rows
end Go.Proofs.YtnbbllkbefagmaaGreatDoor

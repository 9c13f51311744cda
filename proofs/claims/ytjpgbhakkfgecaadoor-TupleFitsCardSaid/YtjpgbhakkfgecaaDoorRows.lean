/-
  NARROWER THAN 'FOR EVERY INPUT', by the rows' own cells (each row's printed sentence says how): DeltaBetween: laid · DeltaApplies: laid · DeltaLeads: laid · TupleBags: laid · TupleSorts: laid · TupleDiffers: laid · TupleFits: laid · DeltaNets: laid.
  DERIVED. THE GIVEN ROWS OF THIS SEAT. 8 by the template 'for every input the law returns true; each argument reads behind the call as it read before'; 0 by the template 'total and deterministic' (their statements: YtjpgbhakkfgecaaDoorTotals.lean).
  GIVEN WITH THE SEED: the statements are not yours to turn. If you find one false, say at which input.
  Laid BY PROGRAM, IN A SANDBOX (cutbox-rows.mjs): the forced cells as the released guide's own fill.sh prints them over the translation a6824acc4632593f… (all of the seat's roots in one cut). By AI agents, Wed Nov 11 2026. No macro, syntax, notation, axiom, sorry.
-/
import Derived.Test.YtjpgbhakkfgecaaDoorChecked
import GoSem.Claim
import GoSem.ClaimJoined
import GoSem.ClaimMapViews
import Derived.JoinedTies
import Derived.KernelRfl
namespace Go.Proofs.YtjpgbhakkfgecaaDoor
/- THE CELL 'sum', in the pinned program and in every row, IS THE sha256 OF THE DUMP (.gsa) THAT YtjpgbhakkfgecaaDoorProg.lean LOADS. Nothing in Lean hashes anything: it is a label: what it is worth is what the hold of that sum in a sandbox is worth. -/
noncomputable def Tryd.pinned : Pinned := { name := "ytjpgbhakkfgecaadoor", sum := "a6824acc4632593f3424a5c8b9711645d3612136030de728a732a294e31a8a89", checked := Tryd.checked }
namespace Rows
def none {H : Type} : Left H := { results := [], args := [] }

/- WHAT THE LISTED PACKAGE-LEVEL VARIABLES READ AS WHEN THE CALL BEGINS. Each datum BY PROGRAM (the guide's laid-datum.mjs) off the statement by which the dump's own 'gosem.cut.vars' lays the variable. In a bare row this is a premise. The card (YtjpgbhakkfgecaaDoorCards.lean) ties it to the program's text. -/
def laid_triggerstore_triggerstoreworld_words {H : Type} : DataW H := .agg [.lit (.string []), .lit (.string [97]), .lit (.string [98]), .lit (.string [105, 116, 39, 115]), .lit (.string [90, 32, 122]), .lit (.string [126])]
def laid_triggerstore_triggerstoreworld_names {H : Type} : DataW H := .agg [.lit (.string [105, 100]), .lit (.string [110]), .lit (.string [109]), .lit (.string [98]), .lit (.string [115]), .lit (.string [120]), .lit (.string [97, 49, 95]), .lit (.string [97, 98, 99, 100, 101, 102, 103, 104, 105, 106, 107, 108])]

/-- 'triggerstorelaw8.DeltaBetween': WHATEVER THE INPUT: true; the input reads as it did. -/
def deltaBetweenSpec : ChangeSpec := { name := "deltaBetween", fn := fun _ => fun
  | [d1, d2, d3] => { results := [.lit (.bool true)], args := [d1, d2, d3] }
  | _ => none }
def deltaBetweenRow : OpenClaim := { program := "ytjpgbhakkfgecaadoor", sum := "a6824acc4632593f3424a5c8b9711645d3612136030de728a732a294e31a8a89", func := "triggerstore/triggerstorelaw8.DeltaBetween", spec := "deltaBetween", inPlace := ["internal/bytealg.abigen_runtime_cmpstring"], unfollowed := true, recurses := true, named := ["triggerstore/triggerstoreworld.words"], plainKeys := false, apart := false, laid := [("triggerstore/triggerstoreworld.words", laid_triggerstore_triggerstoreworld_words)] }
def DeltaBetweenSaid : Prop := deltaBetweenRow.holds Tryd.pinned (OpenSpec.ofChange deltaBetweenSpec)

/-- ITS FALSE NEIGHBOUR: 'it returns false'. Refute it at one input. -/
def deltaBetweenWrong : ChangeSpec := { name := "deltaBetween", fn := fun _ => fun
  | [d1, d2, d3] => { results := [.lit (.bool false)], args := [d1, d2, d3] }
  | _ => none }
def DeltaBetweenWrongFalsely : Prop := deltaBetweenRow.holds Tryd.pinned (OpenSpec.ofChange deltaBetweenWrong)

/-- 'triggerstorelaw8.DeltaApplies': WHATEVER THE INPUT: true; the input reads as it did. -/
def deltaAppliesSpec : ChangeSpec := { name := "deltaApplies", fn := fun _ => fun
  | [d1, d2, d3] => { results := [.lit (.bool true)], args := [d1, d2, d3] }
  | _ => none }
def deltaAppliesRow : OpenClaim := { program := "ytjpgbhakkfgecaadoor", sum := "a6824acc4632593f3424a5c8b9711645d3612136030de728a732a294e31a8a89", func := "triggerstore/triggerstorelaw8.DeltaApplies", spec := "deltaApplies", inPlace := ["internal/bytealg.abigen_runtime_cmpstring"], unfollowed := true, recurses := true, named := ["triggerstore/triggerstoreworld.words"], plainKeys := false, apart := false, laid := [("triggerstore/triggerstoreworld.words", laid_triggerstore_triggerstoreworld_words)] }
def DeltaAppliesSaid : Prop := deltaAppliesRow.holds Tryd.pinned (OpenSpec.ofChange deltaAppliesSpec)

/-- ITS FALSE NEIGHBOUR: 'it returns false'. Refute it at one input. -/
def deltaAppliesWrong : ChangeSpec := { name := "deltaApplies", fn := fun _ => fun
  | [d1, d2, d3] => { results := [.lit (.bool false)], args := [d1, d2, d3] }
  | _ => none }
def DeltaAppliesWrongFalsely : Prop := deltaAppliesRow.holds Tryd.pinned (OpenSpec.ofChange deltaAppliesWrong)

/-- 'triggerstorelaw8.DeltaLeads': WHATEVER THE INPUT: true; the input reads as it did. -/
def deltaLeadsSpec : ChangeSpec := { name := "deltaLeads", fn := fun _ => fun
  | [d] => { results := [.lit (.bool true)], args := [d] }
  | _ => none }
def deltaLeadsRow : OpenClaim := { program := "ytjpgbhakkfgecaadoor", sum := "a6824acc4632593f3424a5c8b9711645d3612136030de728a732a294e31a8a89", func := "triggerstore/triggerstorelaw8.DeltaLeads", spec := "deltaLeads", inPlace := ["internal/bytealg.abigen_runtime_cmpstring"], unfollowed := true, recurses := true, named := ["triggerstore/triggerstoreworld.words"], plainKeys := false, apart := false, laid := [("triggerstore/triggerstoreworld.words", laid_triggerstore_triggerstoreworld_words)] }
def DeltaLeadsSaid : Prop := deltaLeadsRow.holds Tryd.pinned (OpenSpec.ofChange deltaLeadsSpec)

/-- ITS FALSE NEIGHBOUR: 'it returns false'. Refute it at one input. -/
def deltaLeadsWrong : ChangeSpec := { name := "deltaLeads", fn := fun _ => fun
  | [d] => { results := [.lit (.bool false)], args := [d] }
  | _ => none }
def DeltaLeadsWrongFalsely : Prop := deltaLeadsRow.holds Tryd.pinned (OpenSpec.ofChange deltaLeadsWrong)

/-- 'triggerstorelaw5.TupleBags': WHATEVER THE INPUT: true; the input reads as it did. -/
def tupleBagsSpec : ChangeSpec := { name := "tupleBags", fn := fun _ => fun
  | [d1, d2, d3] => { results := [.lit (.bool true)], args := [d1, d2, d3] }
  | _ => none }
def tupleBagsRow : OpenClaim := { program := "ytjpgbhakkfgecaadoor", sum := "a6824acc4632593f3424a5c8b9711645d3612136030de728a732a294e31a8a89", func := "triggerstore/triggerstorelaw5.TupleBags", spec := "tupleBags", inPlace := ["internal/bytealg.abigen_runtime_cmpstring"], unfollowed := true, recurses := true, named := ["triggerstore/triggerstoreworld.words"], plainKeys := false, apart := false, laid := [("triggerstore/triggerstoreworld.words", laid_triggerstore_triggerstoreworld_words)] }
def TupleBagsSaid : Prop := tupleBagsRow.holds Tryd.pinned (OpenSpec.ofChange tupleBagsSpec)

/-- ITS FALSE NEIGHBOUR: 'it returns false'. Refute it at one input. -/
def tupleBagsWrong : ChangeSpec := { name := "tupleBags", fn := fun _ => fun
  | [d1, d2, d3] => { results := [.lit (.bool false)], args := [d1, d2, d3] }
  | _ => none }
def TupleBagsWrongFalsely : Prop := tupleBagsRow.holds Tryd.pinned (OpenSpec.ofChange tupleBagsWrong)

/-- 'triggerstorelaw5.TupleSorts': WHATEVER THE INPUT: true; the input reads as it did. -/
def tupleSortsSpec : ChangeSpec := { name := "tupleSorts", fn := fun _ => fun
  | [d] => { results := [.lit (.bool true)], args := [d] }
  | _ => none }
def tupleSortsRow : OpenClaim := { program := "ytjpgbhakkfgecaadoor", sum := "a6824acc4632593f3424a5c8b9711645d3612136030de728a732a294e31a8a89", func := "triggerstore/triggerstorelaw5.TupleSorts", spec := "tupleSorts", inPlace := ["internal/bytealg.abigen_runtime_cmpstring"], unfollowed := true, recurses := true, named := ["triggerstore/triggerstoreworld.words"], plainKeys := false, apart := false, laid := [("triggerstore/triggerstoreworld.words", laid_triggerstore_triggerstoreworld_words)] }
def TupleSortsSaid : Prop := tupleSortsRow.holds Tryd.pinned (OpenSpec.ofChange tupleSortsSpec)

/-- ITS FALSE NEIGHBOUR: 'it returns false'. Refute it at one input. -/
def tupleSortsWrong : ChangeSpec := { name := "tupleSorts", fn := fun _ => fun
  | [d] => { results := [.lit (.bool false)], args := [d] }
  | _ => none }
def TupleSortsWrongFalsely : Prop := tupleSortsRow.holds Tryd.pinned (OpenSpec.ofChange tupleSortsWrong)

/-- 'triggerstorelaw5.TupleDiffers': WHATEVER THE INPUT: true; the input reads as it did. -/
def tupleDiffersSpec : ChangeSpec := { name := "tupleDiffers", fn := fun _ => fun
  | [d] => { results := [.lit (.bool true)], args := [d] }
  | _ => none }
def tupleDiffersRow : OpenClaim := { program := "ytjpgbhakkfgecaadoor", sum := "a6824acc4632593f3424a5c8b9711645d3612136030de728a732a294e31a8a89", func := "triggerstore/triggerstorelaw5.TupleDiffers", spec := "tupleDiffers", inPlace := ["internal/bytealg.abigen_runtime_cmpstring"], unfollowed := true, recurses := true, named := ["triggerstore/triggerstoreworld.words"], plainKeys := false, apart := false, laid := [("triggerstore/triggerstoreworld.words", laid_triggerstore_triggerstoreworld_words)] }
def TupleDiffersSaid : Prop := tupleDiffersRow.holds Tryd.pinned (OpenSpec.ofChange tupleDiffersSpec)

/-- ITS FALSE NEIGHBOUR: 'it returns false'. Refute it at one input. -/
def tupleDiffersWrong : ChangeSpec := { name := "tupleDiffers", fn := fun _ => fun
  | [d] => { results := [.lit (.bool false)], args := [d] }
  | _ => none }
def TupleDiffersWrongFalsely : Prop := tupleDiffersRow.holds Tryd.pinned (OpenSpec.ofChange tupleDiffersWrong)

/-- 'triggerstorelaw5.TupleFits': WHATEVER THE INPUT: true; the input reads as it did. -/
def tupleFitsSpec : ChangeSpec := { name := "tupleFits", fn := fun _ => fun
  | [d1, d2, d3] => { results := [.lit (.bool true)], args := [d1, d2, d3] }
  | _ => none }
def tupleFitsRow : OpenClaim := { program := "ytjpgbhakkfgecaadoor", sum := "a6824acc4632593f3424a5c8b9711645d3612136030de728a732a294e31a8a89", func := "triggerstore/triggerstorelaw5.TupleFits", spec := "tupleFits", unfollowed := true, recurses := true, named := ["triggerstore/triggerstoreworld.names", "triggerstore/triggerstoreworld.words"], plainKeys := false, apart := false, laid := [("triggerstore/triggerstoreworld.words", laid_triggerstore_triggerstoreworld_words), ("triggerstore/triggerstoreworld.names", laid_triggerstore_triggerstoreworld_names)] }
def TupleFitsSaid : Prop := tupleFitsRow.holds Tryd.pinned (OpenSpec.ofChange tupleFitsSpec)

/-- ITS FALSE NEIGHBOUR: 'it returns false'. Refute it at one input. -/
def tupleFitsWrong : ChangeSpec := { name := "tupleFits", fn := fun _ => fun
  | [d1, d2, d3] => { results := [.lit (.bool false)], args := [d1, d2, d3] }
  | _ => none }
def TupleFitsWrongFalsely : Prop := tupleFitsRow.holds Tryd.pinned (OpenSpec.ofChange tupleFitsWrong)

/-- 'triggerstorelaw8.DeltaNets': WHATEVER THE INPUT: true; the input reads as it did. -/
def deltaNetsSpec : ChangeSpec := { name := "deltaNets", fn := fun _ => fun
  | [d] => { results := [.lit (.bool true)], args := [d] }
  | _ => none }
def deltaNetsRow : OpenClaim := { program := "ytjpgbhakkfgecaadoor", sum := "a6824acc4632593f3424a5c8b9711645d3612136030de728a732a294e31a8a89", func := "triggerstore/triggerstorelaw8.DeltaNets", spec := "deltaNets", inPlace := ["internal/bytealg.abigen_runtime_cmpstring"], unfollowed := true, recurses := true, named := ["triggerstore/triggerstoreworld.words"], plainKeys := false, apart := false, laid := [("triggerstore/triggerstoreworld.words", laid_triggerstore_triggerstoreworld_words)] }
def DeltaNetsSaid : Prop := deltaNetsRow.holds Tryd.pinned (OpenSpec.ofChange deltaNetsSpec)

/-- ITS FALSE NEIGHBOUR: 'it returns false'. Refute it at one input. -/
def deltaNetsWrong : ChangeSpec := { name := "deltaNets", fn := fun _ => fun
  | [d] => { results := [.lit (.bool false)], args := [d] }
  | _ => none }
def DeltaNetsWrongFalsely : Prop := deltaNetsRow.holds Tryd.pinned (OpenSpec.ofChange deltaNetsWrong)

/- THE SECOND FORM. 'bulk': how many values and letters a reading holds, each counted each time it is reached (what is shared counts as often as it is met; a slice's spare places count too). A statement '..UptoSaid' is the law's where the arguments, and the package variables that the reading takes, are together of bulk at most 1048576: NARROWER than '..Said'. Prove '..Said' where nothing that the law and all that it calls make is longer than what came in: it says more and counts as full. Else prove '..UptoSaid'. A law counts once. -/
mutual
def uptoBulk {H : Type} : DataW H → Nat
  | .lit (.string bytes) => bytes.length + 1
  | .lit _ => 1
  | .nil => 1
  | .ptr d => uptoBulk d + 1
  | .slice elems spare => uptoBulkAll elems + uptoBulkAll spare + 1
  | .agg parts => uptoBulkAll parts + 1
  | .iface _ d => uptoBulk d + 1
  | .map entries => uptoBulkEntries entries + 1
  | .held _ => 1
def uptoBulkAll {H : Type} : List (DataW H) → Nat
  | [] => 0
  | d :: r => uptoBulk d + uptoBulkAll r
def uptoBulkEntries {H : Type} : List (Lit × DataW H) → Nat
  | [] => 0
  | x :: r => uptoBulkEntry x + uptoBulkEntries r
def uptoBulkEntry {H : Type} : Lit × DataW H → Nat
  | (.string bytes, d) => bytes.length + uptoBulk d + 1
  | (_, d) => uptoBulk d + 1
 end
def uptoSmall : (H : Type) → List (DataW H) → Bool := fun _ ds => decide (uptoBulkAll ds ≤ 1048576)
def OpenSpec.upto (s : _root_.Go.ChangeSpec) : _root_.Go.OpenSpec := { _root_.Go.OpenSpec.ofChange s with cond := some uptoSmall }

/-- 'triggerstorelaw8.DeltaBetween', WHERE WHAT IT READS IS OF BULK AT MOST 1048576: true; the input reads as it did. -/
def deltaBetweenUptoRow : OpenClaim := { program := "ytjpgbhakkfgecaadoor", sum := "a6824acc4632593f3424a5c8b9711645d3612136030de728a732a294e31a8a89", func := "triggerstore/triggerstorelaw8.DeltaBetween", spec := "deltaBetween", inPlace := ["internal/bytealg.abigen_runtime_cmpstring"], unfollowed := true, recurses := true, named := ["triggerstore/triggerstoreworld.words"], plainKeys := false, apart := false, laid := [("triggerstore/triggerstoreworld.words", laid_triggerstore_triggerstoreworld_words)], narrowed := true }
def DeltaBetweenUptoSaid : Prop := deltaBetweenUptoRow.holds Tryd.pinned (OpenSpec.upto deltaBetweenSpec)

/-- 'triggerstorelaw8.DeltaApplies', WHERE WHAT IT READS IS OF BULK AT MOST 1048576: true; the input reads as it did. -/
def deltaAppliesUptoRow : OpenClaim := { program := "ytjpgbhakkfgecaadoor", sum := "a6824acc4632593f3424a5c8b9711645d3612136030de728a732a294e31a8a89", func := "triggerstore/triggerstorelaw8.DeltaApplies", spec := "deltaApplies", inPlace := ["internal/bytealg.abigen_runtime_cmpstring"], unfollowed := true, recurses := true, named := ["triggerstore/triggerstoreworld.words"], plainKeys := false, apart := false, laid := [("triggerstore/triggerstoreworld.words", laid_triggerstore_triggerstoreworld_words)], narrowed := true }
def DeltaAppliesUptoSaid : Prop := deltaAppliesUptoRow.holds Tryd.pinned (OpenSpec.upto deltaAppliesSpec)

/-- 'triggerstorelaw8.DeltaLeads', WHERE WHAT IT READS IS OF BULK AT MOST 1048576: true; the input reads as it did. -/
def deltaLeadsUptoRow : OpenClaim := { program := "ytjpgbhakkfgecaadoor", sum := "a6824acc4632593f3424a5c8b9711645d3612136030de728a732a294e31a8a89", func := "triggerstore/triggerstorelaw8.DeltaLeads", spec := "deltaLeads", inPlace := ["internal/bytealg.abigen_runtime_cmpstring"], unfollowed := true, recurses := true, named := ["triggerstore/triggerstoreworld.words"], plainKeys := false, apart := false, laid := [("triggerstore/triggerstoreworld.words", laid_triggerstore_triggerstoreworld_words)], narrowed := true }
def DeltaLeadsUptoSaid : Prop := deltaLeadsUptoRow.holds Tryd.pinned (OpenSpec.upto deltaLeadsSpec)

/-- 'triggerstorelaw5.TupleBags', WHERE WHAT IT READS IS OF BULK AT MOST 1048576: true; the input reads as it did. -/
def tupleBagsUptoRow : OpenClaim := { program := "ytjpgbhakkfgecaadoor", sum := "a6824acc4632593f3424a5c8b9711645d3612136030de728a732a294e31a8a89", func := "triggerstore/triggerstorelaw5.TupleBags", spec := "tupleBags", inPlace := ["internal/bytealg.abigen_runtime_cmpstring"], unfollowed := true, recurses := true, named := ["triggerstore/triggerstoreworld.words"], plainKeys := false, apart := false, laid := [("triggerstore/triggerstoreworld.words", laid_triggerstore_triggerstoreworld_words)], narrowed := true }
def TupleBagsUptoSaid : Prop := tupleBagsUptoRow.holds Tryd.pinned (OpenSpec.upto tupleBagsSpec)

/-- 'triggerstorelaw5.TupleSorts', WHERE WHAT IT READS IS OF BULK AT MOST 1048576: true; the input reads as it did. -/
def tupleSortsUptoRow : OpenClaim := { program := "ytjpgbhakkfgecaadoor", sum := "a6824acc4632593f3424a5c8b9711645d3612136030de728a732a294e31a8a89", func := "triggerstore/triggerstorelaw5.TupleSorts", spec := "tupleSorts", inPlace := ["internal/bytealg.abigen_runtime_cmpstring"], unfollowed := true, recurses := true, named := ["triggerstore/triggerstoreworld.words"], plainKeys := false, apart := false, laid := [("triggerstore/triggerstoreworld.words", laid_triggerstore_triggerstoreworld_words)], narrowed := true }
def TupleSortsUptoSaid : Prop := tupleSortsUptoRow.holds Tryd.pinned (OpenSpec.upto tupleSortsSpec)

/-- 'triggerstorelaw5.TupleDiffers', WHERE WHAT IT READS IS OF BULK AT MOST 1048576: true; the input reads as it did. -/
def tupleDiffersUptoRow : OpenClaim := { program := "ytjpgbhakkfgecaadoor", sum := "a6824acc4632593f3424a5c8b9711645d3612136030de728a732a294e31a8a89", func := "triggerstore/triggerstorelaw5.TupleDiffers", spec := "tupleDiffers", inPlace := ["internal/bytealg.abigen_runtime_cmpstring"], unfollowed := true, recurses := true, named := ["triggerstore/triggerstoreworld.words"], plainKeys := false, apart := false, laid := [("triggerstore/triggerstoreworld.words", laid_triggerstore_triggerstoreworld_words)], narrowed := true }
def TupleDiffersUptoSaid : Prop := tupleDiffersUptoRow.holds Tryd.pinned (OpenSpec.upto tupleDiffersSpec)

/-- 'triggerstorelaw5.TupleFits', WHERE WHAT IT READS IS OF BULK AT MOST 1048576: true; the input reads as it did. -/
def tupleFitsUptoRow : OpenClaim := { program := "ytjpgbhakkfgecaadoor", sum := "a6824acc4632593f3424a5c8b9711645d3612136030de728a732a294e31a8a89", func := "triggerstore/triggerstorelaw5.TupleFits", spec := "tupleFits", unfollowed := true, recurses := true, named := ["triggerstore/triggerstoreworld.names", "triggerstore/triggerstoreworld.words"], plainKeys := false, apart := false, laid := [("triggerstore/triggerstoreworld.words", laid_triggerstore_triggerstoreworld_words), ("triggerstore/triggerstoreworld.names", laid_triggerstore_triggerstoreworld_names)], narrowed := true }
def TupleFitsUptoSaid : Prop := tupleFitsUptoRow.holds Tryd.pinned (OpenSpec.upto tupleFitsSpec)

/-- 'triggerstorelaw8.DeltaNets', WHERE WHAT IT READS IS OF BULK AT MOST 1048576: true; the input reads as it did. -/
def deltaNetsUptoRow : OpenClaim := { program := "ytjpgbhakkfgecaadoor", sum := "a6824acc4632593f3424a5c8b9711645d3612136030de728a732a294e31a8a89", func := "triggerstore/triggerstorelaw8.DeltaNets", spec := "deltaNets", inPlace := ["internal/bytealg.abigen_runtime_cmpstring"], unfollowed := true, recurses := true, named := ["triggerstore/triggerstoreworld.words"], plainKeys := false, apart := false, laid := [("triggerstore/triggerstoreworld.words", laid_triggerstore_triggerstoreworld_words)], narrowed := true }
def DeltaNetsUptoSaid : Prop := deltaNetsUptoRow.holds Tryd.pinned (OpenSpec.upto deltaNetsSpec)

end Rows
end Go.Proofs.YtjpgbhakkfgecaaDoor

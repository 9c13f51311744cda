/-
  NARROWER THAN 'FOR EVERY INPUT', by the rows' own cells (each row's printed sentence says how): EventCounts: laid · EventNone: laid · StoreUndoes: laid · StoreDiffers: laid · StoreForms: laid.
  DERIVED. THE GIVEN ROWS OF THIS SEAT. 5 by the template 'for every input the law returns true; each argument reads behind the call as it read before'; 0 by the template 'total and deterministic' (their statements: YtedogodccblfeaaGreatDoorTotals.lean).
  GIVEN WITH THE SEED: the statements are not yours to turn. If you find one false, say at which input.
  Laid BY PROGRAM, IN A SANDBOX (cutbox-rows.mjs): the forced cells as the released guide's own fill.sh prints them over the translation ea9ea016bec31a8f… (all of the seat's roots in one cut). By AI agents, Wed Nov 11 2026. No macro, syntax, notation, axiom, sorry.
-/
import Derived.Test.YtedogodccblfeaaGreatDoorChecked
import GoSem.Claim
import GoSem.ClaimJoined
import GoSem.ClaimMapViews
import Derived.JoinedTies
import Derived.KernelRfl
namespace Go.Proofs.YtedogodccblfeaaGreatDoor
/- THE CELL 'sum', in the pinned program and in every row, IS THE sha256 OF THE DUMP (.gsa) THAT YtedogodccblfeaaGreatDoorProg.lean LOADS. Nothing in Lean hashes anything: it is a label: what it is worth is what the hold of that sum in a sandbox is worth. -/
noncomputable def Tryz.pinned : Pinned := { name := "ytedogodccblfeaagreatdoor", sum := "ea9ea016bec31a8f3764923473855daa5ef763cf23507812e588456d12308a48", checked := Tryz.checked }
namespace Rows
def none {H : Type} : Left H := { results := [], args := [] }

/- WHAT THE LISTED PACKAGE-LEVEL VARIABLES READ AS WHEN THE CALL BEGINS. Each datum BY PROGRAM (the guide's laid-datum.mjs) off the statement by which the dump's own 'gosem.cut.vars' lays the variable. In a bare row this is a premise. The card (YtedogodccblfeaaGreatDoorCards.lean) ties it to the program's text. -/
def laid_triggerstore_triggerstoreworld_triggerNames {H : Type} : DataW H := .agg [.lit (.string [97, 97]), .lit (.string [98, 98]), .lit (.string [99, 99]), .lit (.string [100, 100]), .lit (.string [101, 101]), .lit (.string [102, 102]), .lit (.string [103, 103]), .lit (.string [104, 104])]
def laid_triggerstore_triggerstoreworld_words {H : Type} : DataW H := .agg [.lit (.string []), .lit (.string [97]), .lit (.string [98]), .lit (.string [105, 116, 39, 115]), .lit (.string [90, 32, 122]), .lit (.string [126])]
def laid_triggerstore_triggerstoreworld_names {H : Type} : DataW H := .agg [.lit (.string [105, 100]), .lit (.string [110]), .lit (.string [109]), .lit (.string [98]), .lit (.string [115]), .lit (.string [120]), .lit (.string [97, 49, 95]), .lit (.string [97, 98, 99, 100, 101, 102, 103, 104, 105, 106, 107, 108])]

/-- 'triggerstorelaw22.EventCounts': WHATEVER THE INPUT: true; the input reads as it did. -/
def eventCountsSpec : ChangeSpec := { name := "eventCounts", fn := fun _ => fun
  | [d] => { results := [.lit (.bool true)], args := [d] }
  | _ => none }
def eventCountsRow : OpenClaim := { program := "ytedogodccblfeaagreatdoor", sum := "ea9ea016bec31a8f3764923473855daa5ef763cf23507812e588456d12308a48", func := "triggerstore/triggerstorelaw22.EventCounts", spec := "eventCounts", inPlace := ["internal/bytealg.abigen_runtime_cmpstring"], unfollowed := true, recurses := true, named := ["triggerstore/triggerstoreworld.triggerNames", "triggerstore/triggerstoreworld.words"], plainKeys := false, apart := false, laid := [("triggerstore/triggerstoreworld.triggerNames", laid_triggerstore_triggerstoreworld_triggerNames), ("triggerstore/triggerstoreworld.words", laid_triggerstore_triggerstoreworld_words)] }
def EventCountsSaid : Prop := eventCountsRow.holds Tryz.pinned (OpenSpec.ofChange eventCountsSpec)

/-- ITS FALSE NEIGHBOUR: 'it returns false'. Refute it at one input. -/
def eventCountsWrong : ChangeSpec := { name := "eventCounts", fn := fun _ => fun
  | [d] => { results := [.lit (.bool false)], args := [d] }
  | _ => none }
def EventCountsWrongFalsely : Prop := eventCountsRow.holds Tryz.pinned (OpenSpec.ofChange eventCountsWrong)

/-- 'triggerstorelaw22.EventNone': WHATEVER THE INPUT: true; the input reads as it did. -/
def eventNoneSpec : ChangeSpec := { name := "eventNone", fn := fun _ => fun
  | [d] => { results := [.lit (.bool true)], args := [d] }
  | _ => none }
def eventNoneRow : OpenClaim := { program := "ytedogodccblfeaagreatdoor", sum := "ea9ea016bec31a8f3764923473855daa5ef763cf23507812e588456d12308a48", func := "triggerstore/triggerstorelaw22.EventNone", spec := "eventNone", inPlace := ["internal/bytealg.abigen_runtime_cmpstring"], unfollowed := true, recurses := true, named := ["triggerstore/triggerstoreworld.triggerNames", "triggerstore/triggerstoreworld.words"], plainKeys := false, apart := false, laid := [("triggerstore/triggerstoreworld.triggerNames", laid_triggerstore_triggerstoreworld_triggerNames), ("triggerstore/triggerstoreworld.words", laid_triggerstore_triggerstoreworld_words)] }
def EventNoneSaid : Prop := eventNoneRow.holds Tryz.pinned (OpenSpec.ofChange eventNoneSpec)

/-- ITS FALSE NEIGHBOUR: 'it returns false'. Refute it at one input. -/
def eventNoneWrong : ChangeSpec := { name := "eventNone", fn := fun _ => fun
  | [d] => { results := [.lit (.bool false)], args := [d] }
  | _ => none }
def EventNoneWrongFalsely : Prop := eventNoneRow.holds Tryz.pinned (OpenSpec.ofChange eventNoneWrong)

/-- 'triggerstorelaw9.StoreUndoes': WHATEVER THE INPUT: true; the input reads as it did. -/
def storeUndoesSpec : ChangeSpec := { name := "storeUndoes", fn := fun _ => fun
  | [d1, d2] => { results := [.lit (.bool true)], args := [d1, d2] }
  | _ => none }
def storeUndoesRow : OpenClaim := { program := "ytedogodccblfeaagreatdoor", sum := "ea9ea016bec31a8f3764923473855daa5ef763cf23507812e588456d12308a48", func := "triggerstore/triggerstorelaw9.StoreUndoes", spec := "storeUndoes", inPlace := ["internal/bytealg.abigen_runtime_cmpstring"], unfollowed := true, recurses := true, named := ["triggerstore/triggerstoreworld.words"], plainKeys := false, apart := false, laid := [("triggerstore/triggerstoreworld.words", laid_triggerstore_triggerstoreworld_words)] }
def StoreUndoesSaid : Prop := storeUndoesRow.holds Tryz.pinned (OpenSpec.ofChange storeUndoesSpec)

/-- ITS FALSE NEIGHBOUR: 'it returns false'. Refute it at one input. -/
def storeUndoesWrong : ChangeSpec := { name := "storeUndoes", fn := fun _ => fun
  | [d1, d2] => { results := [.lit (.bool false)], args := [d1, d2] }
  | _ => none }
def StoreUndoesWrongFalsely : Prop := storeUndoesRow.holds Tryz.pinned (OpenSpec.ofChange storeUndoesWrong)

/-- 'triggerstorelaw9.StoreDiffers': WHATEVER THE INPUT: true; the input reads as it did. -/
def storeDiffersSpec : ChangeSpec := { name := "storeDiffers", fn := fun _ => fun
  | [d1, d2, d3] => { results := [.lit (.bool true)], args := [d1, d2, d3] }
  | _ => none }
def storeDiffersRow : OpenClaim := { program := "ytedogodccblfeaagreatdoor", sum := "ea9ea016bec31a8f3764923473855daa5ef763cf23507812e588456d12308a48", func := "triggerstore/triggerstorelaw9.StoreDiffers", spec := "storeDiffers", inPlace := ["internal/bytealg.abigen_runtime_cmpstring"], unfollowed := true, recurses := true, named := ["triggerstore/triggerstoreworld.words"], plainKeys := false, apart := false, laid := [("triggerstore/triggerstoreworld.words", laid_triggerstore_triggerstoreworld_words)] }
def StoreDiffersSaid : Prop := storeDiffersRow.holds Tryz.pinned (OpenSpec.ofChange storeDiffersSpec)

/-- ITS FALSE NEIGHBOUR: 'it returns false'. Refute it at one input. -/
def storeDiffersWrong : ChangeSpec := { name := "storeDiffers", fn := fun _ => fun
  | [d1, d2, d3] => { results := [.lit (.bool false)], args := [d1, d2, d3] }
  | _ => none }
def StoreDiffersWrongFalsely : Prop := storeDiffersRow.holds Tryz.pinned (OpenSpec.ofChange storeDiffersWrong)

/-- 'triggerstorelaw9.StoreForms': WHATEVER THE INPUT: true; the input reads as it did. -/
def storeFormsSpec : ChangeSpec := { name := "storeForms", fn := fun _ => fun
  | [d1, d2, d3, d4] => { results := [.lit (.bool true)], args := [d1, d2, d3, d4] }
  | _ => none }
def storeFormsRow : OpenClaim := { program := "ytedogodccblfeaagreatdoor", sum := "ea9ea016bec31a8f3764923473855daa5ef763cf23507812e588456d12308a48", func := "triggerstore/triggerstorelaw9.StoreForms", spec := "storeForms", inPlace := ["slices.overlaps[triggerstore/api.Table]", "internal/bytealg.abigen_runtime_cmpstring"], unfollowed := true, recurses := true, named := ["triggerstore/triggerstoreworld.words", "triggerstore/triggerstoreworld.names"], plainKeys := false, apart := false, laid := [("triggerstore/triggerstoreworld.words", laid_triggerstore_triggerstoreworld_words), ("triggerstore/triggerstoreworld.names", laid_triggerstore_triggerstoreworld_names)] }
def StoreFormsSaid : Prop := storeFormsRow.holds Tryz.pinned (OpenSpec.ofChange storeFormsSpec)

/-- ITS FALSE NEIGHBOUR: 'it returns false'. Refute it at one input. -/
def storeFormsWrong : ChangeSpec := { name := "storeForms", fn := fun _ => fun
  | [d1, d2, d3, d4] => { results := [.lit (.bool false)], args := [d1, d2, d3, d4] }
  | _ => none }
def StoreFormsWrongFalsely : Prop := storeFormsRow.holds Tryz.pinned (OpenSpec.ofChange storeFormsWrong)

/- THE SECOND FORM. 'bulk': how many values and letters a reading holds, each counted each time it is reached (what is shared counts as often as it is met; a slice's spare places count too). A statement '..UptoSaid' is the law's where the arguments, and the package variables that the reading takes, are together of bulk at most 1048576: NARROWER than '..Said'. Prove '..Said' where nothing that the law and all that it calls make is longer than what came in: it says more and counts as full. Else prove '..UptoSaid'. A law counts once. -/
mutual
def uptoBulk {H : Type} : DataW H → Nat
  | .lit (.string bytes) => bytes.length + 1
  | .lit _ => 1
  | .nil => 1
  | .ptr d => uptoBulk d + 1
  | .slice elems spare => uptoBulkAll elems + uptoBulkAll spare + 1
  | .agg parts => uptoBulkAll parts + 1
  | .iface _ d => uptoBulk d + 1
  | .map entries => uptoBulkEntries entries + 1
  | .held _ => 1
def uptoBulkAll {H : Type} : List (DataW H) → Nat
  | [] => 0
  | d :: r => uptoBulk d + uptoBulkAll r
def uptoBulkEntries {H : Type} : List (Lit × DataW H) → Nat
  | [] => 0
  | x :: r => uptoBulkEntry x + uptoBulkEntries r
def uptoBulkEntry {H : Type} : Lit × DataW H → Nat
  | (.string bytes, d) => bytes.length + uptoBulk d + 1
  | (_, d) => uptoBulk d + 1
 end
def uptoSmall : (H : Type) → List (DataW H) → Bool := fun _ ds => decide (uptoBulkAll ds ≤ 1048576)
def OpenSpec.upto (s : _root_.Go.ChangeSpec) : _root_.Go.OpenSpec := { _root_.Go.OpenSpec.ofChange s with cond := some uptoSmall }

/-- 'triggerstorelaw22.EventCounts', WHERE WHAT IT READS IS OF BULK AT MOST 1048576: true; the input reads as it did. -/
def eventCountsUptoRow : OpenClaim := { program := "ytedogodccblfeaagreatdoor", sum := "ea9ea016bec31a8f3764923473855daa5ef763cf23507812e588456d12308a48", func := "triggerstore/triggerstorelaw22.EventCounts", spec := "eventCounts", inPlace := ["internal/bytealg.abigen_runtime_cmpstring"], unfollowed := true, recurses := true, named := ["triggerstore/triggerstoreworld.triggerNames", "triggerstore/triggerstoreworld.words"], plainKeys := false, apart := false, laid := [("triggerstore/triggerstoreworld.triggerNames", laid_triggerstore_triggerstoreworld_triggerNames), ("triggerstore/triggerstoreworld.words", laid_triggerstore_triggerstoreworld_words)], narrowed := true }
def EventCountsUptoSaid : Prop := eventCountsUptoRow.holds Tryz.pinned (OpenSpec.upto eventCountsSpec)

/-- 'triggerstorelaw22.EventNone', WHERE WHAT IT READS IS OF BULK AT MOST 1048576: true; the input reads as it did. -/
def eventNoneUptoRow : OpenClaim := { program := "ytedogodccblfeaagreatdoor", sum := "ea9ea016bec31a8f3764923473855daa5ef763cf23507812e588456d12308a48", func := "triggerstore/triggerstorelaw22.EventNone", spec := "eventNone", inPlace := ["internal/bytealg.abigen_runtime_cmpstring"], unfollowed := true, recurses := true, named := ["triggerstore/triggerstoreworld.triggerNames", "triggerstore/triggerstoreworld.words"], plainKeys := false, apart := false, laid := [("triggerstore/triggerstoreworld.triggerNames", laid_triggerstore_triggerstoreworld_triggerNames), ("triggerstore/triggerstoreworld.words", laid_triggerstore_triggerstoreworld_words)], narrowed := true }
def EventNoneUptoSaid : Prop := eventNoneUptoRow.holds Tryz.pinned (OpenSpec.upto eventNoneSpec)

/-- 'triggerstorelaw9.StoreUndoes', WHERE WHAT IT READS IS OF BULK AT MOST 1048576: true; the input reads as it did. -/
def storeUndoesUptoRow : OpenClaim := { program := "ytedogodccblfeaagreatdoor", sum := "ea9ea016bec31a8f3764923473855daa5ef763cf23507812e588456d12308a48", func := "triggerstore/triggerstorelaw9.StoreUndoes", spec := "storeUndoes", inPlace := ["internal/bytealg.abigen_runtime_cmpstring"], unfollowed := true, recurses := true, named := ["triggerstore/triggerstoreworld.words"], plainKeys := false, apart := false, laid := [("triggerstore/triggerstoreworld.words", laid_triggerstore_triggerstoreworld_words)], narrowed := true }
def StoreUndoesUptoSaid : Prop := storeUndoesUptoRow.holds Tryz.pinned (OpenSpec.upto storeUndoesSpec)

/-- 'triggerstorelaw9.StoreDiffers', WHERE WHAT IT READS IS OF BULK AT MOST 1048576: true; the input reads as it did. -/
def storeDiffersUptoRow : OpenClaim := { program := "ytedogodccblfeaagreatdoor", sum := "ea9ea016bec31a8f3764923473855daa5ef763cf23507812e588456d12308a48", func := "triggerstore/triggerstorelaw9.StoreDiffers", spec := "storeDiffers", inPlace := ["internal/bytealg.abigen_runtime_cmpstring"], unfollowed := true, recurses := true, named := ["triggerstore/triggerstoreworld.words"], plainKeys := false, apart := false, laid := [("triggerstore/triggerstoreworld.words", laid_triggerstore_triggerstoreworld_words)], narrowed := true }
def StoreDiffersUptoSaid : Prop := storeDiffersUptoRow.holds Tryz.pinned (OpenSpec.upto storeDiffersSpec)

/-- 'triggerstorelaw9.StoreForms', WHERE WHAT IT READS IS OF BULK AT MOST 1048576: true; the input reads as it did. -/
def storeFormsUptoRow : OpenClaim := { program := "ytedogodccblfeaagreatdoor", sum := "ea9ea016bec31a8f3764923473855daa5ef763cf23507812e588456d12308a48", func := "triggerstore/triggerstorelaw9.StoreForms", spec := "storeForms", inPlace := ["slices.overlaps[triggerstore/api.Table]", "internal/bytealg.abigen_runtime_cmpstring"], unfollowed := true, recurses := true, named := ["triggerstore/triggerstoreworld.words", "triggerstore/triggerstoreworld.names"], plainKeys := false, apart := false, laid := [("triggerstore/triggerstoreworld.words", laid_triggerstore_triggerstoreworld_words), ("triggerstore/triggerstoreworld.names", laid_triggerstore_triggerstoreworld_names)], narrowed := true }
def StoreFormsUptoSaid : Prop := storeFormsUptoRow.holds Tryz.pinned (OpenSpec.upto storeFormsSpec)

end Rows
end Go.Proofs.YtedogodccblfeaaGreatDoor

/-
  NARROWER THAN 'FOR EVERY INPUT', by the rows' own cells (each row's printed sentence says how): TableBegins: laid · DeltaBetween: laid · KeysApplies: laid · KeysForms: laid · DeltaApplies: laid · DeltaLeads: laid.
  DERIVED. THE GIVEN ROWS OF THIS SEAT. 6 by the template 'for every input the law returns true; each argument reads behind the call as it read before'; 0 by the template 'total and deterministic' (their statements: YthljihlndpgjcaaDoorTotals.lean).
  GIVEN WITH THE SEED: the statements are not yours to turn. If you find one false, say at which input.
  Laid BY PROGRAM, IN A SANDBOX (cutbox-rows.mjs): the forced cells as the released guide's own fill.sh prints them over the translation 6aa7d865cff965b8… (all of the seat's roots in one cut). By AI agents, Wed Nov 11 2026. No macro, syntax, notation, axiom, sorry.
-/
import Derived.Test.YthljihlndpgjcaaDoorChecked
import GoSem.Claim
import GoSem.ClaimJoined
import GoSem.ClaimMapViews
import Derived.JoinedTies
import Derived.KernelRfl
namespace Go.Proofs.YthljihlndpgjcaaDoor
/- THE CELL 'sum', in the pinned program and in every row, IS THE sha256 OF THE DUMP (.gsa) THAT YthljihlndpgjcaaDoorProg.lean LOADS. Nothing in Lean hashes anything: it is a label: what it is worth is what the hold of that sum in a sandbox is worth. -/
noncomputable def Tryd.pinned : Pinned := { name := "ythljihlndpgjcaadoor", sum := "6aa7d865cff965b812a57f77c74e99519ada873ef868a3dd526eba8a7a59c6e1", checked := Tryd.checked }
namespace Rows
def none {H : Type} : Left H := { results := [], args := [] }

/- WHAT THE LISTED PACKAGE-LEVEL VARIABLES READ AS WHEN THE CALL BEGINS. Each datum BY PROGRAM (the guide's laid-datum.mjs) off the statement by which the dump's own 'gosem.cut.vars' lays the variable. In a bare row this is a premise. The card (YthljihlndpgjcaaDoorCards.lean) ties it to the program's text. -/
def laid_triggerstore_triggerstoreworld_names {H : Type} : DataW H := .agg [.lit (.string [105, 100]), .lit (.string [110]), .lit (.string [109]), .lit (.string [98]), .lit (.string [115]), .lit (.string [120]), .lit (.string [97, 49, 95]), .lit (.string [97, 98, 99, 100, 101, 102, 103, 104, 105, 106, 107, 108])]
def laid_triggerstore_triggerstoreworld_words {H : Type} : DataW H := .agg [.lit (.string []), .lit (.string [97]), .lit (.string [98]), .lit (.string [105, 116, 39, 115]), .lit (.string [90, 32, 122]), .lit (.string [126])]

/-- 'triggerstorelaw6.TableBegins': WHATEVER THE INPUT: true; the input reads as it did. -/
def tableBeginsSpec : ChangeSpec := { name := "tableBegins", fn := fun _ => fun
  | [d1, d2] => { results := [.lit (.bool true)], args := [d1, d2] }
  | _ => none }
def tableBeginsRow : OpenClaim := { program := "ythljihlndpgjcaadoor", sum := "6aa7d865cff965b812a57f77c74e99519ada873ef868a3dd526eba8a7a59c6e1", func := "triggerstore/triggerstorelaw6.TableBegins", spec := "tableBegins", unfollowed := true, recurses := true, named := ["triggerstore/triggerstoreworld.names"], plainKeys := false, apart := false, laid := [("triggerstore/triggerstoreworld.names", laid_triggerstore_triggerstoreworld_names)] }
def TableBeginsSaid : Prop := tableBeginsRow.holds Tryd.pinned (OpenSpec.ofChange tableBeginsSpec)

/-- ITS FALSE NEIGHBOUR: 'it returns false'. Refute it at one input. -/
def tableBeginsWrong : ChangeSpec := { name := "tableBegins", fn := fun _ => fun
  | [d1, d2] => { results := [.lit (.bool false)], args := [d1, d2] }
  | _ => none }
def TableBeginsWrongFalsely : Prop := tableBeginsRow.holds Tryd.pinned (OpenSpec.ofChange tableBeginsWrong)

/-- 'triggerstorelaw8.DeltaBetween': WHATEVER THE INPUT: true; the input reads as it did. -/
def deltaBetweenSpec : ChangeSpec := { name := "deltaBetween", fn := fun _ => fun
  | [d1, d2, d3] => { results := [.lit (.bool true)], args := [d1, d2, d3] }
  | _ => none }
def deltaBetweenRow : OpenClaim := { program := "ythljihlndpgjcaadoor", sum := "6aa7d865cff965b812a57f77c74e99519ada873ef868a3dd526eba8a7a59c6e1", func := "triggerstore/triggerstorelaw8.DeltaBetween", spec := "deltaBetween", inPlace := ["internal/bytealg.abigen_runtime_cmpstring"], unfollowed := true, recurses := true, named := ["triggerstore/triggerstoreworld.words"], plainKeys := false, apart := false, laid := [("triggerstore/triggerstoreworld.words", laid_triggerstore_triggerstoreworld_words)] }
def DeltaBetweenSaid : Prop := deltaBetweenRow.holds Tryd.pinned (OpenSpec.ofChange deltaBetweenSpec)

/-- ITS FALSE NEIGHBOUR: 'it returns false'. Refute it at one input. -/
def deltaBetweenWrong : ChangeSpec := { name := "deltaBetween", fn := fun _ => fun
  | [d1, d2, d3] => { results := [.lit (.bool false)], args := [d1, d2, d3] }
  | _ => none }
def DeltaBetweenWrongFalsely : Prop := deltaBetweenRow.holds Tryd.pinned (OpenSpec.ofChange deltaBetweenWrong)

/-- 'triggerstorelaw7.KeysApplies': WHATEVER THE INPUT: true; the input reads as it did. -/
def keysAppliesSpec : ChangeSpec := { name := "keysApplies", fn := fun _ => fun
  | [d] => { results := [.lit (.bool true)], args := [d] }
  | _ => none }
def keysAppliesRow : OpenClaim := { program := "ythljihlndpgjcaadoor", sum := "6aa7d865cff965b812a57f77c74e99519ada873ef868a3dd526eba8a7a59c6e1", func := "triggerstore/triggerstorelaw7.KeysApplies", spec := "keysApplies", inPlace := ["internal/bytealg.abigen_runtime_cmpstring"], unfollowed := true, recurses := true, named := ["triggerstore/triggerstoreworld.words"], plainKeys := false, apart := false, laid := [("triggerstore/triggerstoreworld.words", laid_triggerstore_triggerstoreworld_words)] }
def KeysAppliesSaid : Prop := keysAppliesRow.holds Tryd.pinned (OpenSpec.ofChange keysAppliesSpec)

/-- ITS FALSE NEIGHBOUR: 'it returns false'. Refute it at one input. -/
def keysAppliesWrong : ChangeSpec := { name := "keysApplies", fn := fun _ => fun
  | [d] => { results := [.lit (.bool false)], args := [d] }
  | _ => none }
def KeysAppliesWrongFalsely : Prop := keysAppliesRow.holds Tryd.pinned (OpenSpec.ofChange keysAppliesWrong)

/-- 'triggerstorelaw7.KeysForms': WHATEVER THE INPUT: true; the input reads as it did. -/
def keysFormsSpec : ChangeSpec := { name := "keysForms", fn := fun _ => fun
  | [d1, d2, d3] => { results := [.lit (.bool true)], args := [d1, d2, d3] }
  | _ => none }
def keysFormsRow : OpenClaim := { program := "ythljihlndpgjcaadoor", sum := "6aa7d865cff965b812a57f77c74e99519ada873ef868a3dd526eba8a7a59c6e1", func := "triggerstore/triggerstorelaw7.KeysForms", spec := "keysForms", inPlace := ["internal/bytealg.abigen_runtime_cmpstring"], unfollowed := true, recurses := true, named := ["triggerstore/triggerstoreworld.words"], plainKeys := false, apart := false, laid := [("triggerstore/triggerstoreworld.words", laid_triggerstore_triggerstoreworld_words)] }
def KeysFormsSaid : Prop := keysFormsRow.holds Tryd.pinned (OpenSpec.ofChange keysFormsSpec)

/-- ITS FALSE NEIGHBOUR: 'it returns false'. Refute it at one input. -/
def keysFormsWrong : ChangeSpec := { name := "keysForms", fn := fun _ => fun
  | [d1, d2, d3] => { results := [.lit (.bool false)], args := [d1, d2, d3] }
  | _ => none }
def KeysFormsWrongFalsely : Prop := keysFormsRow.holds Tryd.pinned (OpenSpec.ofChange keysFormsWrong)

/-- 'triggerstorelaw8.DeltaApplies': WHATEVER THE INPUT: true; the input reads as it did. -/
def deltaAppliesSpec : ChangeSpec := { name := "deltaApplies", fn := fun _ => fun
  | [d1, d2, d3] => { results := [.lit (.bool true)], args := [d1, d2, d3] }
  | _ => none }
def deltaAppliesRow : OpenClaim := { program := "ythljihlndpgjcaadoor", sum := "6aa7d865cff965b812a57f77c74e99519ada873ef868a3dd526eba8a7a59c6e1", func := "triggerstore/triggerstorelaw8.DeltaApplies", spec := "deltaApplies", inPlace := ["internal/bytealg.abigen_runtime_cmpstring"], unfollowed := true, recurses := true, named := ["triggerstore/triggerstoreworld.words"], plainKeys := false, apart := false, laid := [("triggerstore/triggerstoreworld.words", laid_triggerstore_triggerstoreworld_words)] }
def DeltaAppliesSaid : Prop := deltaAppliesRow.holds Tryd.pinned (OpenSpec.ofChange deltaAppliesSpec)

/-- ITS FALSE NEIGHBOUR: 'it returns false'. Refute it at one input. -/
def deltaAppliesWrong : ChangeSpec := { name := "deltaApplies", fn := fun _ => fun
  | [d1, d2, d3] => { results := [.lit (.bool false)], args := [d1, d2, d3] }
  | _ => none }
def DeltaAppliesWrongFalsely : Prop := deltaAppliesRow.holds Tryd.pinned (OpenSpec.ofChange deltaAppliesWrong)

/-- 'triggerstorelaw8.DeltaLeads': WHATEVER THE INPUT: true; the input reads as it did. -/
def deltaLeadsSpec : ChangeSpec := { name := "deltaLeads", fn := fun _ => fun
  | [d] => { results := [.lit (.bool true)], args := [d] }
  | _ => none }
def deltaLeadsRow : OpenClaim := { program := "ythljihlndpgjcaadoor", sum := "6aa7d865cff965b812a57f77c74e99519ada873ef868a3dd526eba8a7a59c6e1", func := "triggerstore/triggerstorelaw8.DeltaLeads", spec := "deltaLeads", inPlace := ["internal/bytealg.abigen_runtime_cmpstring"], unfollowed := true, recurses := true, named := ["triggerstore/triggerstoreworld.words"], plainKeys := false, apart := false, laid := [("triggerstore/triggerstoreworld.words", laid_triggerstore_triggerstoreworld_words)] }
def DeltaLeadsSaid : Prop := deltaLeadsRow.holds Tryd.pinned (OpenSpec.ofChange deltaLeadsSpec)

/-- ITS FALSE NEIGHBOUR: 'it returns false'. Refute it at one input. -/
def deltaLeadsWrong : ChangeSpec := { name := "deltaLeads", fn := fun _ => fun
  | [d] => { results := [.lit (.bool false)], args := [d] }
  | _ => none }
def DeltaLeadsWrongFalsely : Prop := deltaLeadsRow.holds Tryd.pinned (OpenSpec.ofChange deltaLeadsWrong)

/- THE SECOND FORM. 'bulk': how many values and letters a reading holds, each counted each time it is reached (what is shared counts as often as it is met; a slice's spare places count too). A statement '..UptoSaid' is the law's where the arguments, and the package variables that the reading takes, are together of bulk at most 1048576: NARROWER than '..Said'. Prove '..Said' where nothing that the law and all that it calls make is longer than what came in: it says more and counts as full. Else prove '..UptoSaid'. A law counts once. -/
mutual
def uptoBulk {H : Type} : DataW H → Nat
  | .lit (.string bytes) => bytes.length + 1
  | .lit _ => 1
  | .nil => 1
  | .ptr d => uptoBulk d + 1
  | .slice elems spare => uptoBulkAll elems + uptoBulkAll spare + 1
  | .agg parts => uptoBulkAll parts + 1
  | .iface _ d => uptoBulk d + 1
  | .map entries => uptoBulkEntries entries + 1
  | .held _ => 1
def uptoBulkAll {H : Type} : List (DataW H) → Nat
  | [] => 0
  | d :: r => uptoBulk d + uptoBulkAll r
def uptoBulkEntries {H : Type} : List (Lit × DataW H) → Nat
  | [] => 0
  | x :: r => uptoBulkEntry x + uptoBulkEntries r
def uptoBulkEntry {H : Type} : Lit × DataW H → Nat
  | (.string bytes, d) => bytes.length + uptoBulk d + 1
  | (_, d) => uptoBulk d + 1
 end
def uptoSmall : (H : Type) → List (DataW H) → Bool := fun _ ds => decide (uptoBulkAll ds ≤ 1048576)
def OpenSpec.upto (s : _root_.Go.ChangeSpec) : _root_.Go.OpenSpec := { _root_.Go.OpenSpec.ofChange s with cond := some uptoSmall }

/-- 'triggerstorelaw6.TableBegins', WHERE WHAT IT READS IS OF BULK AT MOST 1048576: true; the input reads as it did. -/
def tableBeginsUptoRow : OpenClaim := { program := "ythljihlndpgjcaadoor", sum := "6aa7d865cff965b812a57f77c74e99519ada873ef868a3dd526eba8a7a59c6e1", func := "triggerstore/triggerstorelaw6.TableBegins", spec := "tableBegins", unfollowed := true, recurses := true, named := ["triggerstore/triggerstoreworld.names"], plainKeys := false, apart := false, laid := [("triggerstore/triggerstoreworld.names", laid_triggerstore_triggerstoreworld_names)], narrowed := true }
def TableBeginsUptoSaid : Prop := tableBeginsUptoRow.holds Tryd.pinned (OpenSpec.upto tableBeginsSpec)

/-- 'triggerstorelaw8.DeltaBetween', WHERE WHAT IT READS IS OF BULK AT MOST 1048576: true; the input reads as it did. -/
def deltaBetweenUptoRow : OpenClaim := { program := "ythljihlndpgjcaadoor", sum := "6aa7d865cff965b812a57f77c74e99519ada873ef868a3dd526eba8a7a59c6e1", func := "triggerstore/triggerstorelaw8.DeltaBetween", spec := "deltaBetween", inPlace := ["internal/bytealg.abigen_runtime_cmpstring"], unfollowed := true, recurses := true, named := ["triggerstore/triggerstoreworld.words"], plainKeys := false, apart := false, laid := [("triggerstore/triggerstoreworld.words", laid_triggerstore_triggerstoreworld_words)], narrowed := true }
def DeltaBetweenUptoSaid : Prop := deltaBetweenUptoRow.holds Tryd.pinned (OpenSpec.upto deltaBetweenSpec)

/-- 'triggerstorelaw7.KeysApplies', WHERE WHAT IT READS IS OF BULK AT MOST 1048576: true; the input reads as it did. -/
def keysAppliesUptoRow : OpenClaim := { program := "ythljihlndpgjcaadoor", sum := "6aa7d865cff965b812a57f77c74e99519ada873ef868a3dd526eba8a7a59c6e1", func := "triggerstore/triggerstorelaw7.KeysApplies", spec := "keysApplies", inPlace := ["internal/bytealg.abigen_runtime_cmpstring"], unfollowed := true, recurses := true, named := ["triggerstore/triggerstoreworld.words"], plainKeys := false, apart := false, laid := [("triggerstore/triggerstoreworld.words", laid_triggerstore_triggerstoreworld_words)], narrowed := true }
def KeysAppliesUptoSaid : Prop := keysAppliesUptoRow.holds Tryd.pinned (OpenSpec.upto keysAppliesSpec)

/-- 'triggerstorelaw7.KeysForms', WHERE WHAT IT READS IS OF BULK AT MOST 1048576: true; the input reads as it did. -/
def keysFormsUptoRow : OpenClaim := { program := "ythljihlndpgjcaadoor", sum := "6aa7d865cff965b812a57f77c74e99519ada873ef868a3dd526eba8a7a59c6e1", func := "triggerstore/triggerstorelaw7.KeysForms", spec := "keysForms", inPlace := ["internal/bytealg.abigen_runtime_cmpstring"], unfollowed := true, recurses := true, named := ["triggerstore/triggerstoreworld.words"], plainKeys := false, apart := false, laid := [("triggerstore/triggerstoreworld.words", laid_triggerstore_triggerstoreworld_words)], narrowed := true }
def KeysFormsUptoSaid : Prop := keysFormsUptoRow.holds Tryd.pinned (OpenSpec.upto keysFormsSpec)

/-- 'triggerstorelaw8.DeltaApplies', WHERE WHAT IT READS IS OF BULK AT MOST 1048576: true; the input reads as it did. -/
def deltaAppliesUptoRow : OpenClaim := { program := "ythljihlndpgjcaadoor", sum := "6aa7d865cff965b812a57f77c74e99519ada873ef868a3dd526eba8a7a59c6e1", func := "triggerstore/triggerstorelaw8.DeltaApplies", spec := "deltaApplies", inPlace := ["internal/bytealg.abigen_runtime_cmpstring"], unfollowed := true, recurses := true, named := ["triggerstore/triggerstoreworld.words"], plainKeys := false, apart := false, laid := [("triggerstore/triggerstoreworld.words", laid_triggerstore_triggerstoreworld_words)], narrowed := true }
def DeltaAppliesUptoSaid : Prop := deltaAppliesUptoRow.holds Tryd.pinned (OpenSpec.upto deltaAppliesSpec)

/-- 'triggerstorelaw8.DeltaLeads', WHERE WHAT IT READS IS OF BULK AT MOST 1048576: true; the input reads as it did. -/
def deltaLeadsUptoRow : OpenClaim := { program := "ythljihlndpgjcaadoor", sum := "6aa7d865cff965b812a57f77c74e99519ada873ef868a3dd526eba8a7a59c6e1", func := "triggerstore/triggerstorelaw8.DeltaLeads", spec := "deltaLeads", inPlace := ["internal/bytealg.abigen_runtime_cmpstring"], unfollowed := true, recurses := true, named := ["triggerstore/triggerstoreworld.words"], plainKeys := false, apart := false, laid := [("triggerstore/triggerstoreworld.words", laid_triggerstore_triggerstoreworld_words)], narrowed := true }
def DeltaLeadsUptoSaid : Prop := deltaLeadsUptoRow.holds Tryd.pinned (OpenSpec.upto deltaLeadsSpec)

end Rows
end Go.Proofs.YthljihlndpgjcaaDoor

/-
  NARROWER THAN 'FOR EVERY INPUT', by the rows' own cells (each row's printed sentence says how): SchemaValidates: laid · SchemaFits: laid · LogicCompares: laid · LogicForms: laid · SchemaNames: laid.
  DERIVED. THE GIVEN ROWS OF THIS SEAT. 5 by the template 'for every input the law returns true; each argument reads behind the call as it read before'; 0 by the template 'total and deterministic' (their statements: YtdgdllicmccnfaaDoorTotals.lean).
  GIVEN WITH THE SEED: the statements are not yours to turn. If you find one false, say at which input.
  Laid BY PROGRAM, IN A SANDBOX (cutbox-rows.mjs): the forced cells as the released guide's own fill.sh prints them over the translation 28057914f2a89371… (all of the seat's roots in one cut). By AI agents, Wed Nov 11 2026. No macro, syntax, notation, axiom, sorry.
-/
import Derived.Test.YtdgdllicmccnfaaDoorChecked
import GoSem.Claim
import GoSem.ClaimJoined
import GoSem.ClaimMapViews
import Derived.JoinedTies
import Derived.KernelRfl
namespace Go.Proofs.YtdgdllicmccnfaaDoor
/- THE CELL 'sum', in the pinned program and in every row, IS THE sha256 OF THE DUMP (.gsa) THAT YtdgdllicmccnfaaDoorProg.lean LOADS. Nothing in Lean hashes anything: it is a label: what it is worth is what the hold of that sum in a sandbox is worth. -/
noncomputable def Tryd.pinned : Pinned := { name := "ytdgdllicmccnfaadoor", sum := "28057914f2a89371b8ed64efe7b7368b13a23ee578b47a100825ef08b8ea7470", checked := Tryd.checked }
namespace Rows
def none {H : Type} : Left H := { results := [], args := [] }

/- WHAT THE LISTED PACKAGE-LEVEL VARIABLES READ AS WHEN THE CALL BEGINS. Each datum BY PROGRAM (the guide's laid-datum.mjs) off the statement by which the dump's own 'gosem.cut.vars' lays the variable. In a bare row this is a premise. The card (YtdgdllicmccnfaaDoorCards.lean) ties it to the program's text. -/
def laid_triggerstore_triggerstoreworld_names {H : Type} : DataW H := .agg [.lit (.string [105, 100]), .lit (.string [110]), .lit (.string [109]), .lit (.string [98]), .lit (.string [115]), .lit (.string [120]), .lit (.string [97, 49, 95]), .lit (.string [97, 98, 99, 100, 101, 102, 103, 104, 105, 106, 107, 108])]
def laid_triggerstore_triggerstoreworld_words {H : Type} : DataW H := .agg [.lit (.string []), .lit (.string [97]), .lit (.string [98]), .lit (.string [105, 116, 39, 115]), .lit (.string [90, 32, 122]), .lit (.string [126])]

/-- 'triggerstorelaw4.SchemaValidates': WHATEVER THE INPUT: true; the input reads as it did. -/
def schemaValidatesSpec : ChangeSpec := { name := "schemaValidates", fn := fun _ => fun
  | [d1, d2, d3] => { results := [.lit (.bool true)], args := [d1, d2, d3] }
  | _ => none }
def schemaValidatesRow : OpenClaim := { program := "ytdgdllicmccnfaadoor", sum := "28057914f2a89371b8ed64efe7b7368b13a23ee578b47a100825ef08b8ea7470", func := "triggerstore/triggerstorelaw4.SchemaValidates", spec := "schemaValidates", unfollowed := true, recurses := true, named := ["triggerstore/triggerstoreworld.names"], apart := false, laid := [("triggerstore/triggerstoreworld.names", laid_triggerstore_triggerstoreworld_names)] }
def SchemaValidatesSaid : Prop := schemaValidatesRow.holds Tryd.pinned (OpenSpec.ofChange schemaValidatesSpec)

/-- ITS FALSE NEIGHBOUR: 'it returns false'. Refute it at one input. -/
def schemaValidatesWrong : ChangeSpec := { name := "schemaValidates", fn := fun _ => fun
  | [d1, d2, d3] => { results := [.lit (.bool false)], args := [d1, d2, d3] }
  | _ => none }
def SchemaValidatesWrongFalsely : Prop := schemaValidatesRow.holds Tryd.pinned (OpenSpec.ofChange schemaValidatesWrong)

/-- 'triggerstorelaw4.SchemaFits': WHATEVER THE INPUT: true; the input reads as it did. -/
def schemaFitsSpec : ChangeSpec := { name := "schemaFits", fn := fun _ => fun
  | [d1, d2, d3] => { results := [.lit (.bool true)], args := [d1, d2, d3] }
  | _ => none }
def schemaFitsRow : OpenClaim := { program := "ytdgdllicmccnfaadoor", sum := "28057914f2a89371b8ed64efe7b7368b13a23ee578b47a100825ef08b8ea7470", func := "triggerstore/triggerstorelaw4.SchemaFits", spec := "schemaFits", unfollowed := true, recurses := true, named := ["triggerstore/triggerstoreworld.words"], apart := false, laid := [("triggerstore/triggerstoreworld.words", laid_triggerstore_triggerstoreworld_words)] }
def SchemaFitsSaid : Prop := schemaFitsRow.holds Tryd.pinned (OpenSpec.ofChange schemaFitsSpec)

/-- ITS FALSE NEIGHBOUR: 'it returns false'. Refute it at one input. -/
def schemaFitsWrong : ChangeSpec := { name := "schemaFits", fn := fun _ => fun
  | [d1, d2, d3] => { results := [.lit (.bool false)], args := [d1, d2, d3] }
  | _ => none }
def SchemaFitsWrongFalsely : Prop := schemaFitsRow.holds Tryd.pinned (OpenSpec.ofChange schemaFitsWrong)

/-- 'triggerstorelaw2.LogicCompares': WHATEVER THE INPUT: true; the input reads as it did. -/
def logicComparesSpec : ChangeSpec := { name := "logicCompares", fn := fun _ => fun
  | [d1, d2] => { results := [.lit (.bool true)], args := [d1, d2] }
  | _ => none }
def logicComparesRow : OpenClaim := { program := "ytdgdllicmccnfaadoor", sum := "28057914f2a89371b8ed64efe7b7368b13a23ee578b47a100825ef08b8ea7470", func := "triggerstore/triggerstorelaw2.LogicCompares", spec := "logicCompares", named := ["triggerstore/triggerstoreworld.words"], apart := false, laid := [("triggerstore/triggerstoreworld.words", laid_triggerstore_triggerstoreworld_words)] }
def LogicComparesSaid : Prop := logicComparesRow.holds Tryd.pinned (OpenSpec.ofChange logicComparesSpec)

/-- ITS FALSE NEIGHBOUR: 'it returns false'. Refute it at one input. -/
def logicComparesWrong : ChangeSpec := { name := "logicCompares", fn := fun _ => fun
  | [d1, d2] => { results := [.lit (.bool false)], args := [d1, d2] }
  | _ => none }
def LogicComparesWrongFalsely : Prop := logicComparesRow.holds Tryd.pinned (OpenSpec.ofChange logicComparesWrong)

/-- 'triggerstorelaw2.LogicForms': WHATEVER THE INPUT: true; the input reads as it did. -/
def logicFormsSpec : ChangeSpec := { name := "logicForms", fn := fun _ => fun
  | [d1, d2, d3] => { results := [.lit (.bool true)], args := [d1, d2, d3] }
  | _ => none }
def logicFormsRow : OpenClaim := { program := "ytdgdllicmccnfaadoor", sum := "28057914f2a89371b8ed64efe7b7368b13a23ee578b47a100825ef08b8ea7470", func := "triggerstore/triggerstorelaw2.LogicForms", spec := "logicForms", inPlace := ["internal/bytealg.abigen_runtime_cmpstring"], named := ["triggerstore/triggerstoreworld.words"], apart := false, laid := [("triggerstore/triggerstoreworld.words", laid_triggerstore_triggerstoreworld_words)] }
def LogicFormsSaid : Prop := logicFormsRow.holds Tryd.pinned (OpenSpec.ofChange logicFormsSpec)

/-- ITS FALSE NEIGHBOUR: 'it returns false'. Refute it at one input. -/
def logicFormsWrong : ChangeSpec := { name := "logicForms", fn := fun _ => fun
  | [d1, d2, d3] => { results := [.lit (.bool false)], args := [d1, d2, d3] }
  | _ => none }
def LogicFormsWrongFalsely : Prop := logicFormsRow.holds Tryd.pinned (OpenSpec.ofChange logicFormsWrong)

/-- 'triggerstorelaw4.SchemaNames': WHATEVER THE INPUT: true; the input reads as it did. -/
def schemaNamesSpec : ChangeSpec := { name := "schemaNames", fn := fun _ => fun
  | [d1, d2, d3, d4] => { results := [.lit (.bool true)], args := [d1, d2, d3, d4] }
  | _ => none }
def schemaNamesRow : OpenClaim := { program := "ytdgdllicmccnfaadoor", sum := "28057914f2a89371b8ed64efe7b7368b13a23ee578b47a100825ef08b8ea7470", func := "triggerstore/triggerstorelaw4.SchemaNames", spec := "schemaNames", inPlace := ["internal/bytealg.IndexByteString", "internal/bytealg.IndexString"], unfollowed := true, recurses := true, named := ["triggerstore/triggerstoreworld.names", "internal/bytealg.MaxLen"], apart := false, laid := [("triggerstore/triggerstoreworld.names", laid_triggerstore_triggerstoreworld_names)] }
def SchemaNamesSaid : Prop := schemaNamesRow.holds Tryd.pinned (OpenSpec.ofChange schemaNamesSpec)

/-- ITS FALSE NEIGHBOUR: 'it returns false'. Refute it at one input. -/
def schemaNamesWrong : ChangeSpec := { name := "schemaNames", fn := fun _ => fun
  | [d1, d2, d3, d4] => { results := [.lit (.bool false)], args := [d1, d2, d3, d4] }
  | _ => none }
def SchemaNamesWrongFalsely : Prop := schemaNamesRow.holds Tryd.pinned (OpenSpec.ofChange schemaNamesWrong)

/- THE SECOND FORM. 'bulk': how many values and letters a reading holds, each counted each time it is reached (what is shared counts as often as it is met; a slice's spare places count too). A statement '..UptoSaid' is the law's where the arguments, and the package variables that the reading takes, are together of bulk at most 1048576: NARROWER than '..Said'. Prove '..Said' where nothing that the law and all that it calls make is longer than what came in: it says more and counts as full. Else prove '..UptoSaid'. A law counts once. -/
mutual
def uptoBulk {H : Type} : DataW H → Nat
  | .lit (.string bytes) => bytes.length + 1
  | .lit _ => 1
  | .nil => 1
  | .ptr d => uptoBulk d + 1
  | .slice elems spare => uptoBulkAll elems + uptoBulkAll spare + 1
  | .agg parts => uptoBulkAll parts + 1
  | .iface _ d => uptoBulk d + 1
  | .map entries => uptoBulkEntries entries + 1
  | .held _ => 1
def uptoBulkAll {H : Type} : List (DataW H) → Nat
  | [] => 0
  | d :: r => uptoBulk d + uptoBulkAll r
def uptoBulkEntries {H : Type} : List (Lit × DataW H) → Nat
  | [] => 0
  | x :: r => uptoBulkEntry x + uptoBulkEntries r
def uptoBulkEntry {H : Type} : Lit × DataW H → Nat
  | (.string bytes, d) => bytes.length + uptoBulk d + 1
  | (_, d) => uptoBulk d + 1
 end
def uptoSmall : (H : Type) → List (DataW H) → Bool := fun _ ds => decide (uptoBulkAll ds ≤ 1048576)
def OpenSpec.upto (s : _root_.Go.ChangeSpec) : _root_.Go.OpenSpec := { _root_.Go.OpenSpec.ofChange s with cond := some uptoSmall }

/-- 'triggerstorelaw4.SchemaValidates', WHERE WHAT IT READS IS OF BULK AT MOST 1048576: true; the input reads as it did. -/
def schemaValidatesUptoRow : OpenClaim := { program := "ytdgdllicmccnfaadoor", sum := "28057914f2a89371b8ed64efe7b7368b13a23ee578b47a100825ef08b8ea7470", func := "triggerstore/triggerstorelaw4.SchemaValidates", spec := "schemaValidates", unfollowed := true, recurses := true, named := ["triggerstore/triggerstoreworld.names"], apart := false, laid := [("triggerstore/triggerstoreworld.names", laid_triggerstore_triggerstoreworld_names)], narrowed := true }
def SchemaValidatesUptoSaid : Prop := schemaValidatesUptoRow.holds Tryd.pinned (OpenSpec.upto schemaValidatesSpec)

/-- 'triggerstorelaw4.SchemaFits', WHERE WHAT IT READS IS OF BULK AT MOST 1048576: true; the input reads as it did. -/
def schemaFitsUptoRow : OpenClaim := { program := "ytdgdllicmccnfaadoor", sum := "28057914f2a89371b8ed64efe7b7368b13a23ee578b47a100825ef08b8ea7470", func := "triggerstore/triggerstorelaw4.SchemaFits", spec := "schemaFits", unfollowed := true, recurses := true, named := ["triggerstore/triggerstoreworld.words"], apart := false, laid := [("triggerstore/triggerstoreworld.words", laid_triggerstore_triggerstoreworld_words)], narrowed := true }
def SchemaFitsUptoSaid : Prop := schemaFitsUptoRow.holds Tryd.pinned (OpenSpec.upto schemaFitsSpec)

/-- 'triggerstorelaw2.LogicCompares', WHERE WHAT IT READS IS OF BULK AT MOST 1048576: true; the input reads as it did. -/
def logicComparesUptoRow : OpenClaim := { program := "ytdgdllicmccnfaadoor", sum := "28057914f2a89371b8ed64efe7b7368b13a23ee578b47a100825ef08b8ea7470", func := "triggerstore/triggerstorelaw2.LogicCompares", spec := "logicCompares", named := ["triggerstore/triggerstoreworld.words"], apart := false, laid := [("triggerstore/triggerstoreworld.words", laid_triggerstore_triggerstoreworld_words)], narrowed := true }
def LogicComparesUptoSaid : Prop := logicComparesUptoRow.holds Tryd.pinned (OpenSpec.upto logicComparesSpec)

/-- 'triggerstorelaw2.LogicForms', WHERE WHAT IT READS IS OF BULK AT MOST 1048576: true; the input reads as it did. -/
def logicFormsUptoRow : OpenClaim := { program := "ytdgdllicmccnfaadoor", sum := "28057914f2a89371b8ed64efe7b7368b13a23ee578b47a100825ef08b8ea7470", func := "triggerstore/triggerstorelaw2.LogicForms", spec := "logicForms", inPlace := ["internal/bytealg.abigen_runtime_cmpstring"], named := ["triggerstore/triggerstoreworld.words"], apart := false, laid := [("triggerstore/triggerstoreworld.words", laid_triggerstore_triggerstoreworld_words)], narrowed := true }
def LogicFormsUptoSaid : Prop := logicFormsUptoRow.holds Tryd.pinned (OpenSpec.upto logicFormsSpec)

/-- 'triggerstorelaw4.SchemaNames', WHERE WHAT IT READS IS OF BULK AT MOST 1048576: true; the input reads as it did. -/
def schemaNamesUptoRow : OpenClaim := { program := "ytdgdllicmccnfaadoor", sum := "28057914f2a89371b8ed64efe7b7368b13a23ee578b47a100825ef08b8ea7470", func := "triggerstore/triggerstorelaw4.SchemaNames", spec := "schemaNames", inPlace := ["internal/bytealg.IndexByteString", "internal/bytealg.IndexString"], unfollowed := true, recurses := true, named := ["triggerstore/triggerstoreworld.names", "internal/bytealg.MaxLen"], apart := false, laid := [("triggerstore/triggerstoreworld.names", laid_triggerstore_triggerstoreworld_names)], narrowed := true }
def SchemaNamesUptoSaid : Prop := schemaNamesUptoRow.holds Tryd.pinned (OpenSpec.upto schemaNamesSpec)

end Rows
end Go.Proofs.YtdgdllicmccnfaaDoor

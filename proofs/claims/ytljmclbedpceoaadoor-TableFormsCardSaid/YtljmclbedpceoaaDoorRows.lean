/-
  NARROWER THAN 'FOR EVERY INPUT', by the rows' own cells (each row's printed sentence says how): TupleSorts: laid · DeltaNets: laid · KeysForms: laid · TableFinds: laid · TableForms: laid.
  DERIVED. THE GIVEN ROWS OF THIS SEAT. 5 by the template 'for every input the law returns true; each argument reads behind the call as it read before'; 0 by the template 'total and deterministic' (their statements: YtljmclbedpceoaaDoorTotals.lean).
  GIVEN WITH THE SEED: the statements are not yours to turn. If you find one false, say at which input.
  Laid BY PROGRAM, IN A SANDBOX (cutbox-rows.mjs): the forced cells as the released guide's own fill.sh prints them over the translation f160e5a778cb7763… (all of the seat's roots in one cut). By AI agents, Wed Nov 11 2026. No macro, syntax, notation, axiom, sorry.
-/
import Derived.Test.YtljmclbedpceoaaDoorChecked
import GoSem.Claim
import GoSem.ClaimJoined
import GoSem.ClaimMapViews
import Derived.JoinedTies
import Derived.KernelRfl
namespace Go.Proofs.YtljmclbedpceoaaDoor
/- THE CELL 'sum', in the pinned program and in every row, IS THE sha256 OF THE DUMP (.gsa) THAT YtljmclbedpceoaaDoorProg.lean LOADS. Nothing in Lean hashes anything: it is a label: what it is worth is what the hold of that sum in a sandbox is worth. -/
noncomputable def Tryd.pinned : Pinned := { name := "ytljmclbedpceoaadoor", sum := "f160e5a778cb7763c91095954791674730b77b7991ac26b9c1848a6bfd9a067d", checked := Tryd.checked }
namespace Rows
def none {H : Type} : Left H := { results := [], args := [] }

/- WHAT THE LISTED PACKAGE-LEVEL VARIABLES READ AS WHEN THE CALL BEGINS. Each datum BY PROGRAM (the guide's laid-datum.mjs) off the statement by which the dump's own 'gosem.cut.vars' lays the variable. In a bare row this is a premise. The card (YtljmclbedpceoaaDoorCards.lean) ties it to the program's text. -/
def laid_triggerstore_triggerstoreworld_words {H : Type} : DataW H := .agg [.lit (.string []), .lit (.string [97]), .lit (.string [98]), .lit (.string [105, 116, 39, 115]), .lit (.string [90, 32, 122]), .lit (.string [126])]
def laid_triggerstore_triggerstoreworld_names {H : Type} : DataW H := .agg [.lit (.string [105, 100]), .lit (.string [110]), .lit (.string [109]), .lit (.string [98]), .lit (.string [115]), .lit (.string [120]), .lit (.string [97, 49, 95]), .lit (.string [97, 98, 99, 100, 101, 102, 103, 104, 105, 106, 107, 108])]

/-- 'triggerstorelaw5.TupleSorts': WHATEVER THE INPUT: true; the input reads as it did. -/
def tupleSortsSpec : ChangeSpec := { name := "tupleSorts", fn := fun _ => fun
  | [d] => { results := [.lit (.bool true)], args := [d] }
  | _ => none }
def tupleSortsRow : OpenClaim := { program := "ytljmclbedpceoaadoor", sum := "f160e5a778cb7763c91095954791674730b77b7991ac26b9c1848a6bfd9a067d", func := "triggerstore/triggerstorelaw5.TupleSorts", spec := "tupleSorts", inPlace := ["internal/bytealg.abigen_runtime_cmpstring"], unfollowed := true, recurses := true, named := ["triggerstore/triggerstoreworld.words"], plainKeys := false, apart := false, laid := [("triggerstore/triggerstoreworld.words", laid_triggerstore_triggerstoreworld_words)] }
def TupleSortsSaid : Prop := tupleSortsRow.holds Tryd.pinned (OpenSpec.ofChange tupleSortsSpec)

/-- ITS FALSE NEIGHBOUR: 'it returns false'. Refute it at one input. -/
def tupleSortsWrong : ChangeSpec := { name := "tupleSorts", fn := fun _ => fun
  | [d] => { results := [.lit (.bool false)], args := [d] }
  | _ => none }
def TupleSortsWrongFalsely : Prop := tupleSortsRow.holds Tryd.pinned (OpenSpec.ofChange tupleSortsWrong)

/-- 'triggerstorelaw8.DeltaNets': WHATEVER THE INPUT: true; the input reads as it did. -/
def deltaNetsSpec : ChangeSpec := { name := "deltaNets", fn := fun _ => fun
  | [d] => { results := [.lit (.bool true)], args := [d] }
  | _ => none }
def deltaNetsRow : OpenClaim := { program := "ytljmclbedpceoaadoor", sum := "f160e5a778cb7763c91095954791674730b77b7991ac26b9c1848a6bfd9a067d", func := "triggerstore/triggerstorelaw8.DeltaNets", spec := "deltaNets", inPlace := ["internal/bytealg.abigen_runtime_cmpstring"], unfollowed := true, recurses := true, named := ["triggerstore/triggerstoreworld.words"], plainKeys := false, apart := false, laid := [("triggerstore/triggerstoreworld.words", laid_triggerstore_triggerstoreworld_words)] }
def DeltaNetsSaid : Prop := deltaNetsRow.holds Tryd.pinned (OpenSpec.ofChange deltaNetsSpec)

/-- ITS FALSE NEIGHBOUR: 'it returns false'. Refute it at one input. -/
def deltaNetsWrong : ChangeSpec := { name := "deltaNets", fn := fun _ => fun
  | [d] => { results := [.lit (.bool false)], args := [d] }
  | _ => none }
def DeltaNetsWrongFalsely : Prop := deltaNetsRow.holds Tryd.pinned (OpenSpec.ofChange deltaNetsWrong)

/-- 'triggerstorelaw7.KeysForms': WHATEVER THE INPUT: true; the input reads as it did. -/
def keysFormsSpec : ChangeSpec := { name := "keysForms", fn := fun _ => fun
  | [d1, d2, d3] => { results := [.lit (.bool true)], args := [d1, d2, d3] }
  | _ => none }
def keysFormsRow : OpenClaim := { program := "ytljmclbedpceoaadoor", sum := "f160e5a778cb7763c91095954791674730b77b7991ac26b9c1848a6bfd9a067d", func := "triggerstore/triggerstorelaw7.KeysForms", spec := "keysForms", inPlace := ["internal/bytealg.abigen_runtime_cmpstring"], unfollowed := true, recurses := true, named := ["triggerstore/triggerstoreworld.words"], plainKeys := false, apart := false, laid := [("triggerstore/triggerstoreworld.words", laid_triggerstore_triggerstoreworld_words)] }
def KeysFormsSaid : Prop := keysFormsRow.holds Tryd.pinned (OpenSpec.ofChange keysFormsSpec)

/-- ITS FALSE NEIGHBOUR: 'it returns false'. Refute it at one input. -/
def keysFormsWrong : ChangeSpec := { name := "keysForms", fn := fun _ => fun
  | [d1, d2, d3] => { results := [.lit (.bool false)], args := [d1, d2, d3] }
  | _ => none }
def KeysFormsWrongFalsely : Prop := keysFormsRow.holds Tryd.pinned (OpenSpec.ofChange keysFormsWrong)

/-- 'triggerstorelaw6.TableFinds': WHATEVER THE INPUT: true; the input reads as it did. -/
def tableFindsSpec : ChangeSpec := { name := "tableFinds", fn := fun _ => fun
  | [d] => { results := [.lit (.bool true)], args := [d] }
  | _ => none }
def tableFindsRow : OpenClaim := { program := "ytljmclbedpceoaadoor", sum := "f160e5a778cb7763c91095954791674730b77b7991ac26b9c1848a6bfd9a067d", func := "triggerstore/triggerstorelaw6.TableFinds", spec := "tableFinds", unfollowed := true, recurses := true, named := ["triggerstore/triggerstoreworld.words"], plainKeys := false, apart := false, laid := [("triggerstore/triggerstoreworld.words", laid_triggerstore_triggerstoreworld_words)] }
def TableFindsSaid : Prop := tableFindsRow.holds Tryd.pinned (OpenSpec.ofChange tableFindsSpec)

/-- ITS FALSE NEIGHBOUR: 'it returns false'. Refute it at one input. -/
def tableFindsWrong : ChangeSpec := { name := "tableFinds", fn := fun _ => fun
  | [d] => { results := [.lit (.bool false)], args := [d] }
  | _ => none }
def TableFindsWrongFalsely : Prop := tableFindsRow.holds Tryd.pinned (OpenSpec.ofChange tableFindsWrong)

/-- 'triggerstorelaw6.TableForms': WHATEVER THE INPUT: true; the input reads as it did. -/
def tableFormsSpec : ChangeSpec := { name := "tableForms", fn := fun _ => fun
  | [d1, d2, d3, d4] => { results := [.lit (.bool true)], args := [d1, d2, d3, d4] }
  | _ => none }
def tableFormsRow : OpenClaim := { program := "ytljmclbedpceoaadoor", sum := "f160e5a778cb7763c91095954791674730b77b7991ac26b9c1848a6bfd9a067d", func := "triggerstore/triggerstorelaw6.TableForms", spec := "tableForms", inPlace := ["internal/bytealg.abigen_runtime_cmpstring"], unfollowed := true, recurses := true, named := ["triggerstore/triggerstoreworld.words", "triggerstore/triggerstoreworld.names"], plainKeys := false, apart := false, laid := [("triggerstore/triggerstoreworld.words", laid_triggerstore_triggerstoreworld_words), ("triggerstore/triggerstoreworld.names", laid_triggerstore_triggerstoreworld_names)] }
def TableFormsSaid : Prop := tableFormsRow.holds Tryd.pinned (OpenSpec.ofChange tableFormsSpec)

/-- ITS FALSE NEIGHBOUR: 'it returns false'. Refute it at one input. -/
def tableFormsWrong : ChangeSpec := { name := "tableForms", fn := fun _ => fun
  | [d1, d2, d3, d4] => { results := [.lit (.bool false)], args := [d1, d2, d3, d4] }
  | _ => none }
def TableFormsWrongFalsely : Prop := tableFormsRow.holds Tryd.pinned (OpenSpec.ofChange tableFormsWrong)

/- THE SECOND FORM. 'bulk': how many values and letters a reading holds, each counted each time it is reached (what is shared counts as often as it is met; a slice's spare places count too). A statement '..UptoSaid' is the law's where the arguments, and the package variables that the reading takes, are together of bulk at most 1048576: NARROWER than '..Said'. Prove '..Said' where nothing that the law and all that it calls make is longer than what came in: it says more and counts as full. Else prove '..UptoSaid'. A law counts once. -/
mutual
def uptoBulk {H : Type} : DataW H → Nat
  | .lit (.string bytes) => bytes.length + 1
  | .lit _ => 1
  | .nil => 1
  | .ptr d => uptoBulk d + 1
  | .slice elems spare => uptoBulkAll elems + uptoBulkAll spare + 1
  | .agg parts => uptoBulkAll parts + 1
  | .iface _ d => uptoBulk d + 1
  | .map entries => uptoBulkEntries entries + 1
  | .held _ => 1
def uptoBulkAll {H : Type} : List (DataW H) → Nat
  | [] => 0
  | d :: r => uptoBulk d + uptoBulkAll r
def uptoBulkEntries {H : Type} : List (Lit × DataW H) → Nat
  | [] => 0
  | x :: r => uptoBulkEntry x + uptoBulkEntries r
def uptoBulkEntry {H : Type} : Lit × DataW H → Nat
  | (.string bytes, d) => bytes.length + uptoBulk d + 1
  | (_, d) => uptoBulk d + 1
 end
def uptoSmall : (H : Type) → List (DataW H) → Bool := fun _ ds => decide (uptoBulkAll ds ≤ 1048576)
def OpenSpec.upto (s : _root_.Go.ChangeSpec) : _root_.Go.OpenSpec := { _root_.Go.OpenSpec.ofChange s with cond := some uptoSmall }

/-- 'triggerstorelaw5.TupleSorts', WHERE WHAT IT READS IS OF BULK AT MOST 1048576: true; the input reads as it did. -/
def tupleSortsUptoRow : OpenClaim := { program := "ytljmclbedpceoaadoor", sum := "f160e5a778cb7763c91095954791674730b77b7991ac26b9c1848a6bfd9a067d", func := "triggerstore/triggerstorelaw5.TupleSorts", spec := "tupleSorts", inPlace := ["internal/bytealg.abigen_runtime_cmpstring"], unfollowed := true, recurses := true, named := ["triggerstore/triggerstoreworld.words"], plainKeys := false, apart := false, laid := [("triggerstore/triggerstoreworld.words", laid_triggerstore_triggerstoreworld_words)], narrowed := true }
def TupleSortsUptoSaid : Prop := tupleSortsUptoRow.holds Tryd.pinned (OpenSpec.upto tupleSortsSpec)

/-- 'triggerstorelaw8.DeltaNets', WHERE WHAT IT READS IS OF BULK AT MOST 1048576: true; the input reads as it did. -/
def deltaNetsUptoRow : OpenClaim := { program := "ytljmclbedpceoaadoor", sum := "f160e5a778cb7763c91095954791674730b77b7991ac26b9c1848a6bfd9a067d", func := "triggerstore/triggerstorelaw8.DeltaNets", spec := "deltaNets", inPlace := ["internal/bytealg.abigen_runtime_cmpstring"], unfollowed := true, recurses := true, named := ["triggerstore/triggerstoreworld.words"], plainKeys := false, apart := false, laid := [("triggerstore/triggerstoreworld.words", laid_triggerstore_triggerstoreworld_words)], narrowed := true }
def DeltaNetsUptoSaid : Prop := deltaNetsUptoRow.holds Tryd.pinned (OpenSpec.upto deltaNetsSpec)

/-- 'triggerstorelaw7.KeysForms', WHERE WHAT IT READS IS OF BULK AT MOST 1048576: true; the input reads as it did. -/
def keysFormsUptoRow : OpenClaim := { program := "ytljmclbedpceoaadoor", sum := "f160e5a778cb7763c91095954791674730b77b7991ac26b9c1848a6bfd9a067d", func := "triggerstore/triggerstorelaw7.KeysForms", spec := "keysForms", inPlace := ["internal/bytealg.abigen_runtime_cmpstring"], unfollowed := true, recurses := true, named := ["triggerstore/triggerstoreworld.words"], plainKeys := false, apart := false, laid := [("triggerstore/triggerstoreworld.words", laid_triggerstore_triggerstoreworld_words)], narrowed := true }
def KeysFormsUptoSaid : Prop := keysFormsUptoRow.holds Tryd.pinned (OpenSpec.upto keysFormsSpec)

/-- 'triggerstorelaw6.TableFinds', WHERE WHAT IT READS IS OF BULK AT MOST 1048576: true; the input reads as it did. -/
def tableFindsUptoRow : OpenClaim := { program := "ytljmclbedpceoaadoor", sum := "f160e5a778cb7763c91095954791674730b77b7991ac26b9c1848a6bfd9a067d", func := "triggerstore/triggerstorelaw6.TableFinds", spec := "tableFinds", unfollowed := true, recurses := true, named := ["triggerstore/triggerstoreworld.words"], plainKeys := false, apart := false, laid := [("triggerstore/triggerstoreworld.words", laid_triggerstore_triggerstoreworld_words)], narrowed := true }
def TableFindsUptoSaid : Prop := tableFindsUptoRow.holds Tryd.pinned (OpenSpec.upto tableFindsSpec)

/-- 'triggerstorelaw6.TableForms', WHERE WHAT IT READS IS OF BULK AT MOST 1048576: true; the input reads as it did. -/
def tableFormsUptoRow : OpenClaim := { program := "ytljmclbedpceoaadoor", sum := "f160e5a778cb7763c91095954791674730b77b7991ac26b9c1848a6bfd9a067d", func := "triggerstore/triggerstorelaw6.TableForms", spec := "tableForms", inPlace := ["internal/bytealg.abigen_runtime_cmpstring"], unfollowed := true, recurses := true, named := ["triggerstore/triggerstoreworld.words", "triggerstore/triggerstoreworld.names"], plainKeys := false, apart := false, laid := [("triggerstore/triggerstoreworld.words", laid_triggerstore_triggerstoreworld_words), ("triggerstore/triggerstoreworld.names", laid_triggerstore_triggerstoreworld_names)], narrowed := true }
def TableFormsUptoSaid : Prop := tableFormsUptoRow.holds Tryd.pinned (OpenSpec.upto tableFormsSpec)

end Rows
end Go.Proofs.YtljmclbedpceoaaDoor

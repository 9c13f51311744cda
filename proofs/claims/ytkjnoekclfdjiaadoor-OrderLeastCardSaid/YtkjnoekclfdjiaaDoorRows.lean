/-
  NARROWER THAN 'FOR EVERY INPUT', by the rows' own cells (each row's printed sentence says how): OrderStrict: laid · OrderLeast: laid · OrderForms: laid.
  DERIVED. THE GIVEN ROWS OF THIS SEAT. 3 by the template 'for every input the law returns true; each argument reads behind the call as it read before'; 0 by the template 'total and deterministic' (their statements: YtkjnoekclfdjiaaDoorTotals.lean).
  GIVEN WITH THE SEED: the statements are not yours to turn. If you find one false, say at which input.
  Laid BY PROGRAM, IN A SANDBOX (cutbox-rows.mjs): the forced cells as the released guide's own fill.sh prints them over the translation 92715bb23c5f45e3… (all of the seat's roots in one cut). By AI agents, Wed Nov 11 2026. No macro, syntax, notation, axiom, sorry.
-/
import Derived.Test.YtkjnoekclfdjiaaDoorChecked
import GoSem.Claim
import GoSem.ClaimJoined
import GoSem.ClaimMapViews
import Derived.JoinedTies
import Derived.KernelRfl
namespace Go.Proofs.YtkjnoekclfdjiaaDoor
/- THE CELL 'sum', in the pinned program and in every row, IS THE sha256 OF THE DUMP (.gsa) THAT YtkjnoekclfdjiaaDoorProg.lean LOADS. Nothing in Lean hashes anything: it is a label: what it is worth is what the hold of that sum in a sandbox is worth. -/
noncomputable def Tryd.pinned : Pinned := { name := "ytkjnoekclfdjiaadoor", sum := "92715bb23c5f45e3b8f6ab9ab6d1eb7cad9099a293bac5b9e1468ea6a15e14d8", checked := Tryd.checked }
namespace Rows
def none {H : Type} : Left H := { results := [], args := [] }

/- WHAT THE LISTED PACKAGE-LEVEL VARIABLES READ AS WHEN THE CALL BEGINS. Each datum BY PROGRAM (the guide's laid-datum.mjs) off the statement by which the dump's own 'gosem.cut.vars' lays the variable. In a bare row this is a premise. The card (YtkjnoekclfdjiaaDoorCards.lean) ties it to the program's text. -/
def laid_triggerstore_triggerstorelaw18_letters {H : Type} : DataW H := .agg [.lit (.string [97]), .lit (.string [98]), .lit (.string [99]), .lit (.string [100]), .lit (.string [101])]

/-- 'triggerstorelaw18.OrderStrict': WHATEVER THE INPUT: true; the input reads as it did. -/
def orderStrictSpec : ChangeSpec := { name := "orderStrict", fn := fun _ => fun
  | [d] => { results := [.lit (.bool true)], args := [d] }
  | _ => none }
def orderStrictRow : OpenClaim := { program := "ytkjnoekclfdjiaadoor", sum := "92715bb23c5f45e3b8f6ab9ab6d1eb7cad9099a293bac5b9e1468ea6a15e14d8", func := "triggerstore/triggerstorelaw18.OrderStrict", spec := "orderStrict", unfollowed := true, recurses := true, named := ["triggerstore/triggerstorelaw18.letters"], plainKeys := false, apart := false, laid := [("triggerstore/triggerstorelaw18.letters", laid_triggerstore_triggerstorelaw18_letters)] }
def OrderStrictSaid : Prop := orderStrictRow.holds Tryd.pinned (OpenSpec.ofChange orderStrictSpec)

/-- ITS FALSE NEIGHBOUR: 'it returns false'. Refute it at one input. -/
def orderStrictWrong : ChangeSpec := { name := "orderStrict", fn := fun _ => fun
  | [d] => { results := [.lit (.bool false)], args := [d] }
  | _ => none }
def OrderStrictWrongFalsely : Prop := orderStrictRow.holds Tryd.pinned (OpenSpec.ofChange orderStrictWrong)

/-- 'triggerstorelaw18.OrderLeast': WHATEVER THE INPUT: true; the input reads as it did. -/
def orderLeastSpec : ChangeSpec := { name := "orderLeast", fn := fun _ => fun
  | [d] => { results := [.lit (.bool true)], args := [d] }
  | _ => none }
def orderLeastRow : OpenClaim := { program := "ytkjnoekclfdjiaadoor", sum := "92715bb23c5f45e3b8f6ab9ab6d1eb7cad9099a293bac5b9e1468ea6a15e14d8", func := "triggerstore/triggerstorelaw18.OrderLeast", spec := "orderLeast", unfollowed := true, recurses := true, named := ["triggerstore/triggerstorelaw18.letters"], plainKeys := false, apart := false, laid := [("triggerstore/triggerstorelaw18.letters", laid_triggerstore_triggerstorelaw18_letters)] }
def OrderLeastSaid : Prop := orderLeastRow.holds Tryd.pinned (OpenSpec.ofChange orderLeastSpec)

/-- ITS FALSE NEIGHBOUR: 'it returns false'. Refute it at one input. -/
def orderLeastWrong : ChangeSpec := { name := "orderLeast", fn := fun _ => fun
  | [d] => { results := [.lit (.bool false)], args := [d] }
  | _ => none }
def OrderLeastWrongFalsely : Prop := orderLeastRow.holds Tryd.pinned (OpenSpec.ofChange orderLeastWrong)

/-- 'triggerstorelaw18.OrderForms': WHATEVER THE INPUT: true; the input reads as it did. -/
def orderFormsSpec : ChangeSpec := { name := "orderForms", fn := fun _ => fun
  | [d1, d2, d3, d4, d5, d6] => { results := [.lit (.bool true)], args := [d1, d2, d3, d4, d5, d6] }
  | _ => none }
def orderFormsRow : OpenClaim := { program := "ytkjnoekclfdjiaadoor", sum := "92715bb23c5f45e3b8f6ab9ab6d1eb7cad9099a293bac5b9e1468ea6a15e14d8", func := "triggerstore/triggerstorelaw18.OrderForms", spec := "orderForms", unfollowed := true, recurses := true, named := ["triggerstore/triggerstorelaw18.letters"], plainKeys := false, apart := false, laid := [("triggerstore/triggerstorelaw18.letters", laid_triggerstore_triggerstorelaw18_letters)] }
def OrderFormsSaid : Prop := orderFormsRow.holds Tryd.pinned (OpenSpec.ofChange orderFormsSpec)

/-- ITS FALSE NEIGHBOUR: 'it returns false'. Refute it at one input. -/
def orderFormsWrong : ChangeSpec := { name := "orderForms", fn := fun _ => fun
  | [d1, d2, d3, d4, d5, d6] => { results := [.lit (.bool false)], args := [d1, d2, d3, d4, d5, d6] }
  | _ => none }
def OrderFormsWrongFalsely : Prop := orderFormsRow.holds Tryd.pinned (OpenSpec.ofChange orderFormsWrong)

/- THE SECOND FORM. 'bulk': how many values and letters a reading holds, each counted each time it is reached (what is shared counts as often as it is met; a slice's spare places count too). A statement '..UptoSaid' is the law's where the arguments, and the package variables that the reading takes, are together of bulk at most 1048576: NARROWER than '..Said'. Prove '..Said' where nothing that the law and all that it calls make is longer than what came in: it says more and counts as full. Else prove '..UptoSaid'. A law counts once. -/
mutual
def uptoBulk {H : Type} : DataW H → Nat
  | .lit (.string bytes) => bytes.length + 1
  | .lit _ => 1
  | .nil => 1
  | .ptr d => uptoBulk d + 1
  | .slice elems spare => uptoBulkAll elems + uptoBulkAll spare + 1
  | .agg parts => uptoBulkAll parts + 1
  | .iface _ d => uptoBulk d + 1
  | .map entries => uptoBulkEntries entries + 1
  | .held _ => 1
def uptoBulkAll {H : Type} : List (DataW H) → Nat
  | [] => 0
  | d :: r => uptoBulk d + uptoBulkAll r
def uptoBulkEntries {H : Type} : List (Lit × DataW H) → Nat
  | [] => 0
  | x :: r => uptoBulkEntry x + uptoBulkEntries r
def uptoBulkEntry {H : Type} : Lit × DataW H → Nat
  | (.string bytes, d) => bytes.length + uptoBulk d + 1
  | (_, d) => uptoBulk d + 1
 end
def uptoSmall : (H : Type) → List (DataW H) → Bool := fun _ ds => decide (uptoBulkAll ds ≤ 1048576)
def OpenSpec.upto (s : _root_.Go.ChangeSpec) : _root_.Go.OpenSpec := { _root_.Go.OpenSpec.ofChange s with cond := some uptoSmall }

/-- 'triggerstorelaw18.OrderStrict', WHERE WHAT IT READS IS OF BULK AT MOST 1048576: true; the input reads as it did. -/
def orderStrictUptoRow : OpenClaim := { program := "ytkjnoekclfdjiaadoor", sum := "92715bb23c5f45e3b8f6ab9ab6d1eb7cad9099a293bac5b9e1468ea6a15e14d8", func := "triggerstore/triggerstorelaw18.OrderStrict", spec := "orderStrict", unfollowed := true, recurses := true, named := ["triggerstore/triggerstorelaw18.letters"], plainKeys := false, apart := false, laid := [("triggerstore/triggerstorelaw18.letters", laid_triggerstore_triggerstorelaw18_letters)], narrowed := true }
def OrderStrictUptoSaid : Prop := orderStrictUptoRow.holds Tryd.pinned (OpenSpec.upto orderStrictSpec)

/-- 'triggerstorelaw18.OrderLeast', WHERE WHAT IT READS IS OF BULK AT MOST 1048576: true; the input reads as it did. -/
def orderLeastUptoRow : OpenClaim := { program := "ytkjnoekclfdjiaadoor", sum := "92715bb23c5f45e3b8f6ab9ab6d1eb7cad9099a293bac5b9e1468ea6a15e14d8", func := "triggerstore/triggerstorelaw18.OrderLeast", spec := "orderLeast", unfollowed := true, recurses := true, named := ["triggerstore/triggerstorelaw18.letters"], plainKeys := false, apart := false, laid := [("triggerstore/triggerstorelaw18.letters", laid_triggerstore_triggerstorelaw18_letters)], narrowed := true }
def OrderLeastUptoSaid : Prop := orderLeastUptoRow.holds Tryd.pinned (OpenSpec.upto orderLeastSpec)

/-- 'triggerstorelaw18.OrderForms', WHERE WHAT IT READS IS OF BULK AT MOST 1048576: true; the input reads as it did. -/
def orderFormsUptoRow : OpenClaim := { program := "ytkjnoekclfdjiaadoor", sum := "92715bb23c5f45e3b8f6ab9ab6d1eb7cad9099a293bac5b9e1468ea6a15e14d8", func := "triggerstore/triggerstorelaw18.OrderForms", spec := "orderForms", unfollowed := true, recurses := true, named := ["triggerstore/triggerstorelaw18.letters"], plainKeys := false, apart := false, laid := [("triggerstore/triggerstorelaw18.letters", laid_triggerstore_triggerstorelaw18_letters)], narrowed := true }
def OrderFormsUptoSaid : Prop := orderFormsUptoRow.holds Tryd.pinned (OpenSpec.upto orderFormsSpec)

end Rows
end Go.Proofs.YtkjnoekclfdjiaaDoor

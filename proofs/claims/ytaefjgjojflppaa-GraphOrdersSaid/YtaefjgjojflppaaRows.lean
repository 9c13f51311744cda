/-
  No cell of these rows narrows 'for every input' (looked for: loops, veiled, ifaces, maps, wideKeys, modest, calm, conditions, laid).
  DERIVED. THE GIVEN ROWS OF THIS SEAT. 7 by the template 'for every input the law returns true; each argument reads behind the call as it read before'; 0 by the template 'total and deterministic' (their statements: YtaefjgjojflppaaTotals.lean).
  GIVEN WITH THE SEED: the statements are not yours to turn. If you find one false, say at which input.
  Laid BY PROGRAM, IN A SANDBOX (cutbox-rows.mjs): the forced cells as the released guide's own fill.sh prints them over the translation e1b313aadd7ac8bb… (all of the seat's roots in one cut). By AI agents, Wed Nov 11 2026. No macro, syntax, notation, axiom, sorry.
-/
import Derived.Test.YtaefjgjojflppaaChecked
import GoSem.Claim
import GoSem.ClaimJoined
import GoSem.ClaimMapViews
import Derived.JoinedTies
import Derived.KernelRfl
namespace Go.Proofs.Ytaefjgjojflppaa
/- THE CELL 'sum', in the pinned program and in every row, IS THE sha256 OF THE DUMP (.gsa) THAT YtaefjgjojflppaaProg.lean LOADS. Nothing in Lean hashes anything: it is a label: what it is worth is what the hold of that sum in a sandbox is worth. -/
noncomputable def Try.pinned : Pinned := { name := "ytaefjgjojflppaa", sum := "e1b313aadd7ac8bb9d7627d54d628d490fb08d0a139619f94659363ea11b1ae6", checked := Try.checked }
namespace Rows
def none {H : Type} : Left H := { results := [], args := [] }

/-- 'triggerstorelaw19.PickCounts': WHATEVER THE INPUT: true; the input reads as it did. -/
def pickCountsSpec : ChangeSpec := { name := "pickCounts", fn := fun _ => fun
  | [d] => { results := [.lit (.bool true)], args := [d] }
  | _ => none }
def pickCountsRow : OpenClaim := { program := "ytaefjgjojflppaa", sum := "e1b313aadd7ac8bb9d7627d54d628d490fb08d0a139619f94659363ea11b1ae6", func := "triggerstore/triggerstorelaw19.PickCounts", spec := "pickCounts", unfollowed := true, recurses := true, apart := false }
def PickCountsSaid : Prop := pickCountsRow.holds Try.pinned (OpenSpec.ofChange pickCountsSpec)

/-- ITS FALSE NEIGHBOUR: 'it returns false'. Refute it at one input. -/
def pickCountsWrong : ChangeSpec := { name := "pickCounts", fn := fun _ => fun
  | [d] => { results := [.lit (.bool false)], args := [d] }
  | _ => none }
def PickCountsWrongFalsely : Prop := pickCountsRow.holds Try.pinned (OpenSpec.ofChange pickCountsWrong)

/-- 'triggerstorelaw19.PickForms': WHATEVER THE INPUT: true; the input reads as it did. -/
def pickFormsSpec : ChangeSpec := { name := "pickForms", fn := fun _ => fun
  | [d1, d2, d3, d4, d5] => { results := [.lit (.bool true)], args := [d1, d2, d3, d4, d5] }
  | _ => none }
def pickFormsRow : OpenClaim := { program := "ytaefjgjojflppaa", sum := "e1b313aadd7ac8bb9d7627d54d628d490fb08d0a139619f94659363ea11b1ae6", func := "triggerstore/triggerstorelaw19.PickForms", spec := "pickForms", unfollowed := true, recurses := true, apart := false }
def PickFormsSaid : Prop := pickFormsRow.holds Try.pinned (OpenSpec.ofChange pickFormsSpec)

/-- ITS FALSE NEIGHBOUR: 'it returns false'. Refute it at one input. -/
def pickFormsWrong : ChangeSpec := { name := "pickForms", fn := fun _ => fun
  | [d1, d2, d3, d4, d5] => { results := [.lit (.bool false)], args := [d1, d2, d3, d4, d5] }
  | _ => none }
def PickFormsWrongFalsely : Prop := pickFormsRow.holds Try.pinned (OpenSpec.ofChange pickFormsWrong)

/-- 'triggerstorelaw19.PickEnds': WHATEVER THE INPUT: true; the input reads as it did. -/
def pickEndsSpec : ChangeSpec := { name := "pickEnds", fn := fun _ => fun
  | [d1, d2] => { results := [.lit (.bool true)], args := [d1, d2] }
  | _ => none }
def pickEndsRow : OpenClaim := { program := "ytaefjgjojflppaa", sum := "e1b313aadd7ac8bb9d7627d54d628d490fb08d0a139619f94659363ea11b1ae6", func := "triggerstore/triggerstorelaw19.PickEnds", spec := "pickEnds", unfollowed := true, recurses := true, apart := false }
def PickEndsSaid : Prop := pickEndsRow.holds Try.pinned (OpenSpec.ofChange pickEndsSpec)

/-- ITS FALSE NEIGHBOUR: 'it returns false'. Refute it at one input. -/
def pickEndsWrong : ChangeSpec := { name := "pickEnds", fn := fun _ => fun
  | [d1, d2] => { results := [.lit (.bool false)], args := [d1, d2] }
  | _ => none }
def PickEndsWrongFalsely : Prop := pickEndsRow.holds Try.pinned (OpenSpec.ofChange pickEndsWrong)

/-- 'triggerstorelaw19.PickOrders': WHATEVER THE INPUT: true; the input reads as it did. -/
def pickOrdersSpec : ChangeSpec := { name := "pickOrders", fn := fun _ => fun
  | [d1, d2, d3, d4] => { results := [.lit (.bool true)], args := [d1, d2, d3, d4] }
  | _ => none }
def pickOrdersRow : OpenClaim := { program := "ytaefjgjojflppaa", sum := "e1b313aadd7ac8bb9d7627d54d628d490fb08d0a139619f94659363ea11b1ae6", func := "triggerstore/triggerstorelaw19.PickOrders", spec := "pickOrders", unfollowed := true, recurses := true, apart := false }
def PickOrdersSaid : Prop := pickOrdersRow.holds Try.pinned (OpenSpec.ofChange pickOrdersSpec)

/-- ITS FALSE NEIGHBOUR: 'it returns false'. Refute it at one input. -/
def pickOrdersWrong : ChangeSpec := { name := "pickOrders", fn := fun _ => fun
  | [d1, d2, d3, d4] => { results := [.lit (.bool false)], args := [d1, d2, d3, d4] }
  | _ => none }
def PickOrdersWrongFalsely : Prop := pickOrdersRow.holds Try.pinned (OpenSpec.ofChange pickOrdersWrong)

/-- 'triggerstorelaw25.GraphForms': WHATEVER THE INPUT: true; the input reads as it did. -/
def graphFormsSpec : ChangeSpec := { name := "graphForms", fn := fun _ => fun
  | [d1, d2, d3, d4] => { results := [.lit (.bool true)], args := [d1, d2, d3, d4] }
  | _ => none }
def graphFormsRow : OpenClaim := { program := "ytaefjgjojflppaa", sum := "e1b313aadd7ac8bb9d7627d54d628d490fb08d0a139619f94659363ea11b1ae6", func := "triggerstore/triggerstorelaw25.GraphForms", spec := "graphForms", unfollowed := true, recurses := true, apart := false }
def GraphFormsSaid : Prop := graphFormsRow.holds Try.pinned (OpenSpec.ofChange graphFormsSpec)

/-- ITS FALSE NEIGHBOUR: 'it returns false'. Refute it at one input. -/
def graphFormsWrong : ChangeSpec := { name := "graphForms", fn := fun _ => fun
  | [d1, d2, d3, d4] => { results := [.lit (.bool false)], args := [d1, d2, d3, d4] }
  | _ => none }
def GraphFormsWrongFalsely : Prop := graphFormsRow.holds Try.pinned (OpenSpec.ofChange graphFormsWrong)

/-- 'triggerstorelaw25.GraphOrders': WHATEVER THE INPUT: true; the input reads as it did. -/
def graphOrdersSpec : ChangeSpec := { name := "graphOrders", fn := fun _ => fun
  | [d] => { results := [.lit (.bool true)], args := [d] }
  | _ => none }
def graphOrdersRow : OpenClaim := { program := "ytaefjgjojflppaa", sum := "e1b313aadd7ac8bb9d7627d54d628d490fb08d0a139619f94659363ea11b1ae6", func := "triggerstore/triggerstorelaw25.GraphOrders", spec := "graphOrders", unfollowed := true, recurses := true, apart := false }
def GraphOrdersSaid : Prop := graphOrdersRow.holds Try.pinned (OpenSpec.ofChange graphOrdersSpec)

/-- ITS FALSE NEIGHBOUR: 'it returns false'. Refute it at one input. -/
def graphOrdersWrong : ChangeSpec := { name := "graphOrders", fn := fun _ => fun
  | [d] => { results := [.lit (.bool false)], args := [d] }
  | _ => none }
def GraphOrdersWrongFalsely : Prop := graphOrdersRow.holds Try.pinned (OpenSpec.ofChange graphOrdersWrong)

/-- 'triggerstorelaw25.GraphRemoves': WHATEVER THE INPUT: true; the input reads as it did. -/
def graphRemovesSpec : ChangeSpec := { name := "graphRemoves", fn := fun _ => fun
  | [d] => { results := [.lit (.bool true)], args := [d] }
  | _ => none }
def graphRemovesRow : OpenClaim := { program := "ytaefjgjojflppaa", sum := "e1b313aadd7ac8bb9d7627d54d628d490fb08d0a139619f94659363ea11b1ae6", func := "triggerstore/triggerstorelaw25.GraphRemoves", spec := "graphRemoves", unfollowed := true, recurses := true, apart := false }
def GraphRemovesSaid : Prop := graphRemovesRow.holds Try.pinned (OpenSpec.ofChange graphRemovesSpec)

/-- ITS FALSE NEIGHBOUR: 'it returns false'. Refute it at one input. -/
def graphRemovesWrong : ChangeSpec := { name := "graphRemoves", fn := fun _ => fun
  | [d] => { results := [.lit (.bool false)], args := [d] }
  | _ => none }
def GraphRemovesWrongFalsely : Prop := graphRemovesRow.holds Try.pinned (OpenSpec.ofChange graphRemovesWrong)

/- THE SECOND FORM. 'bulk': how many values and letters a reading holds, each counted each time it is reached (what is shared counts as often as it is met; a slice's spare places count too). A statement '..UptoSaid' is the law's where the arguments, and the package variables that the reading takes, are together of bulk at most 1048576: NARROWER than '..Said'. Prove '..Said' where nothing that the law and all that it calls make is longer than what came in: it says more and counts as full. Else prove '..UptoSaid'. A law counts once. -/
mutual
def uptoBulk {H : Type} : DataW H → Nat
  | .lit (.string bytes) => bytes.length + 1
  | .lit _ => 1
  | .nil => 1
  | .ptr d => uptoBulk d + 1
  | .slice elems spare => uptoBulkAll elems + uptoBulkAll spare + 1
  | .agg parts => uptoBulkAll parts + 1
  | .iface _ d => uptoBulk d + 1
  | .map entries => uptoBulkEntries entries + 1
  | .held _ => 1
def uptoBulkAll {H : Type} : List (DataW H) → Nat
  | [] => 0
  | d :: r => uptoBulk d + uptoBulkAll r
def uptoBulkEntries {H : Type} : List (Lit × DataW H) → Nat
  | [] => 0
  | x :: r => uptoBulkEntry x + uptoBulkEntries r
def uptoBulkEntry {H : Type} : Lit × DataW H → Nat
  | (.string bytes, d) => bytes.length + uptoBulk d + 1
  | (_, d) => uptoBulk d + 1
 end
def uptoSmall : (H : Type) → List (DataW H) → Bool := fun _ ds => decide (uptoBulkAll ds ≤ 1048576)
def OpenSpec.upto (s : _root_.Go.ChangeSpec) : _root_.Go.OpenSpec := { _root_.Go.OpenSpec.ofChange s with cond := some uptoSmall }

/-- 'triggerstorelaw19.PickCounts', WHERE WHAT IT READS IS OF BULK AT MOST 1048576: true; the input reads as it did. -/
def pickCountsUptoRow : OpenClaim := { program := "ytaefjgjojflppaa", sum := "e1b313aadd7ac8bb9d7627d54d628d490fb08d0a139619f94659363ea11b1ae6", func := "triggerstore/triggerstorelaw19.PickCounts", spec := "pickCounts", unfollowed := true, recurses := true, apart := false, narrowed := true }
def PickCountsUptoSaid : Prop := pickCountsUptoRow.holds Try.pinned (OpenSpec.upto pickCountsSpec)

/-- 'triggerstorelaw19.PickForms', WHERE WHAT IT READS IS OF BULK AT MOST 1048576: true; the input reads as it did. -/
def pickFormsUptoRow : OpenClaim := { program := "ytaefjgjojflppaa", sum := "e1b313aadd7ac8bb9d7627d54d628d490fb08d0a139619f94659363ea11b1ae6", func := "triggerstore/triggerstorelaw19.PickForms", spec := "pickForms", unfollowed := true, recurses := true, apart := false, narrowed := true }
def PickFormsUptoSaid : Prop := pickFormsUptoRow.holds Try.pinned (OpenSpec.upto pickFormsSpec)

/-- 'triggerstorelaw19.PickEnds', WHERE WHAT IT READS IS OF BULK AT MOST 1048576: true; the input reads as it did. -/
def pickEndsUptoRow : OpenClaim := { program := "ytaefjgjojflppaa", sum := "e1b313aadd7ac8bb9d7627d54d628d490fb08d0a139619f94659363ea11b1ae6", func := "triggerstore/triggerstorelaw19.PickEnds", spec := "pickEnds", unfollowed := true, recurses := true, apart := false, narrowed := true }
def PickEndsUptoSaid : Prop := pickEndsUptoRow.holds Try.pinned (OpenSpec.upto pickEndsSpec)

/-- 'triggerstorelaw19.PickOrders', WHERE WHAT IT READS IS OF BULK AT MOST 1048576: true; the input reads as it did. -/
def pickOrdersUptoRow : OpenClaim := { program := "ytaefjgjojflppaa", sum := "e1b313aadd7ac8bb9d7627d54d628d490fb08d0a139619f94659363ea11b1ae6", func := "triggerstore/triggerstorelaw19.PickOrders", spec := "pickOrders", unfollowed := true, recurses := true, apart := false, narrowed := true }
def PickOrdersUptoSaid : Prop := pickOrdersUptoRow.holds Try.pinned (OpenSpec.upto pickOrdersSpec)

/-- 'triggerstorelaw25.GraphForms', WHERE WHAT IT READS IS OF BULK AT MOST 1048576: true; the input reads as it did. -/
def graphFormsUptoRow : OpenClaim := { program := "ytaefjgjojflppaa", sum := "e1b313aadd7ac8bb9d7627d54d628d490fb08d0a139619f94659363ea11b1ae6", func := "triggerstore/triggerstorelaw25.GraphForms", spec := "graphForms", unfollowed := true, recurses := true, apart := false, narrowed := true }
def GraphFormsUptoSaid : Prop := graphFormsUptoRow.holds Try.pinned (OpenSpec.upto graphFormsSpec)

/-- 'triggerstorelaw25.GraphOrders', WHERE WHAT IT READS IS OF BULK AT MOST 1048576: true; the input reads as it did. -/
def graphOrdersUptoRow : OpenClaim := { program := "ytaefjgjojflppaa", sum := "e1b313aadd7ac8bb9d7627d54d628d490fb08d0a139619f94659363ea11b1ae6", func := "triggerstore/triggerstorelaw25.GraphOrders", spec := "graphOrders", unfollowed := true, recurses := true, apart := false, narrowed := true }
def GraphOrdersUptoSaid : Prop := graphOrdersUptoRow.holds Try.pinned (OpenSpec.upto graphOrdersSpec)

/-- 'triggerstorelaw25.GraphRemoves', WHERE WHAT IT READS IS OF BULK AT MOST 1048576: true; the input reads as it did. -/
def graphRemovesUptoRow : OpenClaim := { program := "ytaefjgjojflppaa", sum := "e1b313aadd7ac8bb9d7627d54d628d490fb08d0a139619f94659363ea11b1ae6", func := "triggerstore/triggerstorelaw25.GraphRemoves", spec := "graphRemoves", unfollowed := true, recurses := true, apart := false, narrowed := true }
def GraphRemovesUptoSaid : Prop := graphRemovesUptoRow.holds Try.pinned (OpenSpec.upto graphRemovesSpec)

end Rows
end Go.Proofs.Ytaefjgjojflppaa

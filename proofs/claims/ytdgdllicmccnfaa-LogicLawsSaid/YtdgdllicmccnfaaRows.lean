/-
  No cell of these rows narrows 'for every input' (looked for: loops, veiled, ifaces, maps, wideKeys, modest, calm, conditions, laid).
  DERIVED. THE GIVEN ROWS OF THIS SEAT. 5 by the template 'for every input the law returns true; each argument reads behind the call as it read before'; 0 by the template 'total and deterministic' (their statements: YtdgdllicmccnfaaTotals.lean).
  GIVEN WITH THE SEED: the statements are not yours to turn. If you find one false, say at which input.
  Laid BY PROGRAM, IN A SANDBOX (cutbox-rows.mjs): the forced cells as the released guide's own fill.sh prints them over the translation 3693ac45fdf81993… (all of the seat's roots in one cut). By AI agents, Wed Nov 11 2026. No macro, syntax, notation, axiom, sorry.
-/
import Derived.Test.YtdgdllicmccnfaaChecked
import GoSem.Claim
import GoSem.ClaimJoined
import GoSem.ClaimMapViews
import Derived.JoinedTies
import Derived.KernelRfl
namespace Go.Proofs.Ytdgdllicmccnfaa
/- THE CELL 'sum', in the pinned program and in every row, IS THE sha256 OF THE DUMP (.gsa) THAT YtdgdllicmccnfaaProg.lean LOADS. Nothing in Lean hashes anything: it is a label: what it is worth is what the hold of that sum in a sandbox is worth. -/
noncomputable def Try.pinned : Pinned := { name := "ytdgdllicmccnfaa", sum := "3693ac45fdf819934aabcba377d86e137f9c6177e877a245eec01bdfb56f8f75", checked := Try.checked }
namespace Rows
def none {H : Type} : Left H := { results := [], args := [] }

/-- 'triggerstorelaw3.ArithSums': WHATEVER THE INPUT: true; the input reads as it did. -/
def arithSumsSpec : ChangeSpec := { name := "arithSums", fn := fun _ => fun
  | [d1, d2] => { results := [.lit (.bool true)], args := [d1, d2] }
  | _ => none }
def arithSumsRow : OpenClaim := { program := "ytdgdllicmccnfaa", sum := "3693ac45fdf819934aabcba377d86e137f9c6177e877a245eec01bdfb56f8f75", func := "triggerstore/triggerstorelaw3.ArithSums", spec := "arithSums", inPlace := ["math/bits.Add64"], apart := false }
def ArithSumsSaid : Prop := arithSumsRow.holds Try.pinned (OpenSpec.ofChange arithSumsSpec)

/-- ITS FALSE NEIGHBOUR: 'it returns false'. Refute it at one input. -/
def arithSumsWrong : ChangeSpec := { name := "arithSums", fn := fun _ => fun
  | [d1, d2] => { results := [.lit (.bool false)], args := [d1, d2] }
  | _ => none }
def ArithSumsWrongFalsely : Prop := arithSumsRow.holds Try.pinned (OpenSpec.ofChange arithSumsWrong)

/-- 'triggerstorelaw3.ArithInverts': WHATEVER THE INPUT: true; the input reads as it did. -/
def arithInvertsSpec : ChangeSpec := { name := "arithInverts", fn := fun _ => fun
  | [d1, d2] => { results := [.lit (.bool true)], args := [d1, d2] }
  | _ => none }
def arithInvertsRow : OpenClaim := { program := "ytdgdllicmccnfaa", sum := "3693ac45fdf819934aabcba377d86e137f9c6177e877a245eec01bdfb56f8f75", func := "triggerstore/triggerstorelaw3.ArithInverts", spec := "arithInverts", inPlace := ["math/bits.Add64"], apart := false }
def ArithInvertsSaid : Prop := arithInvertsRow.holds Try.pinned (OpenSpec.ofChange arithInvertsSpec)

/-- ITS FALSE NEIGHBOUR: 'it returns false'. Refute it at one input. -/
def arithInvertsWrong : ChangeSpec := { name := "arithInverts", fn := fun _ => fun
  | [d1, d2] => { results := [.lit (.bool false)], args := [d1, d2] }
  | _ => none }
def ArithInvertsWrongFalsely : Prop := arithInvertsRow.holds Try.pinned (OpenSpec.ofChange arithInvertsWrong)

/-- 'triggerstorelaw3.ArithOrders': WHATEVER THE INPUT: true; the input reads as it did. -/
def arithOrdersSpec : ChangeSpec := { name := "arithOrders", fn := fun _ => fun
  | [d1, d2] => { results := [.lit (.bool true)], args := [d1, d2] }
  | _ => none }
def arithOrdersRow : OpenClaim := { program := "ytdgdllicmccnfaa", sum := "3693ac45fdf819934aabcba377d86e137f9c6177e877a245eec01bdfb56f8f75", func := "triggerstore/triggerstorelaw3.ArithOrders", spec := "arithOrders", inPlace := ["math/bits.Add64"], apart := false }
def ArithOrdersSaid : Prop := arithOrdersRow.holds Try.pinned (OpenSpec.ofChange arithOrdersSpec)

/-- ITS FALSE NEIGHBOUR: 'it returns false'. Refute it at one input. -/
def arithOrdersWrong : ChangeSpec := { name := "arithOrders", fn := fun _ => fun
  | [d1, d2] => { results := [.lit (.bool false)], args := [d1, d2] }
  | _ => none }
def ArithOrdersWrongFalsely : Prop := arithOrdersRow.holds Try.pinned (OpenSpec.ofChange arithOrdersWrong)

/-- 'triggerstorelaw2.LogicLaws': WHATEVER THE INPUT: true; the input reads as it did. -/
def logicLawsSpec : ChangeSpec := { name := "logicLaws", fn := fun _ => fun
  | [d1, d2, d3] => { results := [.lit (.bool true)], args := [d1, d2, d3] }
  | _ => none }
def logicLawsRow : OpenClaim := { program := "ytdgdllicmccnfaa", sum := "3693ac45fdf819934aabcba377d86e137f9c6177e877a245eec01bdfb56f8f75", func := "triggerstore/triggerstorelaw2.LogicLaws", spec := "logicLaws", apart := false }
def LogicLawsSaid : Prop := logicLawsRow.holds Try.pinned (OpenSpec.ofChange logicLawsSpec)

/-- ITS FALSE NEIGHBOUR: 'it returns false'. Refute it at one input. -/
def logicLawsWrong : ChangeSpec := { name := "logicLaws", fn := fun _ => fun
  | [d1, d2, d3] => { results := [.lit (.bool false)], args := [d1, d2, d3] }
  | _ => none }
def LogicLawsWrongFalsely : Prop := logicLawsRow.holds Try.pinned (OpenSpec.ofChange logicLawsWrong)

/-- 'triggerstorelaw3.ArithForms': WHATEVER THE INPUT: true; the input reads as it did. -/
def arithFormsSpec : ChangeSpec := { name := "arithForms", fn := fun _ => fun
  | [d1, d2, d3] => { results := [.lit (.bool true)], args := [d1, d2, d3] }
  | _ => none }
def arithFormsRow : OpenClaim := { program := "ytdgdllicmccnfaa", sum := "3693ac45fdf819934aabcba377d86e137f9c6177e877a245eec01bdfb56f8f75", func := "triggerstore/triggerstorelaw3.ArithForms", spec := "arithForms", inPlace := ["math/bits.Add64"], apart := false }
def ArithFormsSaid : Prop := arithFormsRow.holds Try.pinned (OpenSpec.ofChange arithFormsSpec)

/-- ITS FALSE NEIGHBOUR: 'it returns false'. Refute it at one input. -/
def arithFormsWrong : ChangeSpec := { name := "arithForms", fn := fun _ => fun
  | [d1, d2, d3] => { results := [.lit (.bool false)], args := [d1, d2, d3] }
  | _ => none }
def ArithFormsWrongFalsely : Prop := arithFormsRow.holds Try.pinned (OpenSpec.ofChange arithFormsWrong)

/- THE SECOND FORM. 'bulk': how many values and letters a reading holds, each counted each time it is reached (what is shared counts as often as it is met; a slice's spare places count too). A statement '..UptoSaid' is the law's where the arguments, and the package variables that the reading takes, are together of bulk at most 1048576: NARROWER than '..Said'. Prove '..Said' where nothing that the law and all that it calls make is longer than what came in: it says more and counts as full. Else prove '..UptoSaid'. A law counts once. -/
mutual
def uptoBulk {H : Type} : DataW H → Nat
  | .lit (.string bytes) => bytes.length + 1
  | .lit _ => 1
  | .nil => 1
  | .ptr d => uptoBulk d + 1
  | .slice elems spare => uptoBulkAll elems + uptoBulkAll spare + 1
  | .agg parts => uptoBulkAll parts + 1
  | .iface _ d => uptoBulk d + 1
  | .map entries => uptoBulkEntries entries + 1
  | .held _ => 1
def uptoBulkAll {H : Type} : List (DataW H) → Nat
  | [] => 0
  | d :: r => uptoBulk d + uptoBulkAll r
def uptoBulkEntries {H : Type} : List (Lit × DataW H) → Nat
  | [] => 0
  | x :: r => uptoBulkEntry x + uptoBulkEntries r
def uptoBulkEntry {H : Type} : Lit × DataW H → Nat
  | (.string bytes, d) => bytes.length + uptoBulk d + 1
  | (_, d) => uptoBulk d + 1
 end
def uptoSmall : (H : Type) → List (DataW H) → Bool := fun _ ds => decide (uptoBulkAll ds ≤ 1048576)
def OpenSpec.upto (s : _root_.Go.ChangeSpec) : _root_.Go.OpenSpec := { _root_.Go.OpenSpec.ofChange s with cond := some uptoSmall }

/-- 'triggerstorelaw3.ArithSums', WHERE WHAT IT READS IS OF BULK AT MOST 1048576: true; the input reads as it did. -/
def arithSumsUptoRow : OpenClaim := { program := "ytdgdllicmccnfaa", sum := "3693ac45fdf819934aabcba377d86e137f9c6177e877a245eec01bdfb56f8f75", func := "triggerstore/triggerstorelaw3.ArithSums", spec := "arithSums", inPlace := ["math/bits.Add64"], apart := false, narrowed := true }
def ArithSumsUptoSaid : Prop := arithSumsUptoRow.holds Try.pinned (OpenSpec.upto arithSumsSpec)

/-- 'triggerstorelaw3.ArithInverts', WHERE WHAT IT READS IS OF BULK AT MOST 1048576: true; the input reads as it did. -/
def arithInvertsUptoRow : OpenClaim := { program := "ytdgdllicmccnfaa", sum := "3693ac45fdf819934aabcba377d86e137f9c6177e877a245eec01bdfb56f8f75", func := "triggerstore/triggerstorelaw3.ArithInverts", spec := "arithInverts", inPlace := ["math/bits.Add64"], apart := false, narrowed := true }
def ArithInvertsUptoSaid : Prop := arithInvertsUptoRow.holds Try.pinned (OpenSpec.upto arithInvertsSpec)

/-- 'triggerstorelaw3.ArithOrders', WHERE WHAT IT READS IS OF BULK AT MOST 1048576: true; the input reads as it did. -/
def arithOrdersUptoRow : OpenClaim := { program := "ytdgdllicmccnfaa", sum := "3693ac45fdf819934aabcba377d86e137f9c6177e877a245eec01bdfb56f8f75", func := "triggerstore/triggerstorelaw3.ArithOrders", spec := "arithOrders", inPlace := ["math/bits.Add64"], apart := false, narrowed := true }
def ArithOrdersUptoSaid : Prop := arithOrdersUptoRow.holds Try.pinned (OpenSpec.upto arithOrdersSpec)

/-- 'triggerstorelaw2.LogicLaws', WHERE WHAT IT READS IS OF BULK AT MOST 1048576: true; the input reads as it did. -/
def logicLawsUptoRow : OpenClaim := { program := "ytdgdllicmccnfaa", sum := "3693ac45fdf819934aabcba377d86e137f9c6177e877a245eec01bdfb56f8f75", func := "triggerstore/triggerstorelaw2.LogicLaws", spec := "logicLaws", apart := false, narrowed := true }
def LogicLawsUptoSaid : Prop := logicLawsUptoRow.holds Try.pinned (OpenSpec.upto logicLawsSpec)

/-- 'triggerstorelaw3.ArithForms', WHERE WHAT IT READS IS OF BULK AT MOST 1048576: true; the input reads as it did. -/
def arithFormsUptoRow : OpenClaim := { program := "ytdgdllicmccnfaa", sum := "3693ac45fdf819934aabcba377d86e137f9c6177e877a245eec01bdfb56f8f75", func := "triggerstore/triggerstorelaw3.ArithForms", spec := "arithForms", inPlace := ["math/bits.Add64"], apart := false, narrowed := true }
def ArithFormsUptoSaid : Prop := arithFormsUptoRow.holds Try.pinned (OpenSpec.upto arithFormsSpec)

end Rows
end Go.Proofs.Ytdgdllicmccnfaa

/-
  No cell of these rows narrows 'for every input' (looked for: loops, veiled, ifaces, maps, wideKeys, modest, calm, conditions, laid).
  DERIVED. THE GIVEN ROWS OF THIS SEAT. 3 by the template 'for every input the law returns true; each argument reads behind the call as it read before'; 0 by the template 'total and deterministic' (their statements: YtphofeeaphkciaaTotals.lean).
  GIVEN WITH THE SEED: the statements are not yours to turn. If you find one false, say at which input.
  Laid BY PROGRAM, IN A SANDBOX (cutbox-rows.mjs): the forced cells as the released guide's own fill.sh prints them over the translation 79bf6f1414c3cf70… (all of the seat's roots in one cut). By AI agents, Wed Nov 11 2026. No macro, syntax, notation, axiom, sorry.
-/
import Derived.Test.YtphofeeaphkciaaChecked
import GoSem.Claim
import GoSem.ClaimJoined
import GoSem.ClaimMapViews
import Derived.JoinedTies
import Derived.KernelRfl
namespace Go.Proofs.Ytphofeeaphkciaa
/- THE CELL 'sum', in the pinned program and in every row, IS THE sha256 OF THE DUMP (.gsa) THAT YtphofeeaphkciaaProg.lean LOADS. Nothing in Lean hashes anything: it is a label: what it is worth is what the hold of that sum in a sandbox is worth. -/
noncomputable def Try.pinned : Pinned := { name := "ytphofeeaphkciaa", sum := "79bf6f1414c3cf70fa4a87ff0c6db079711c738c34828a497730b88152fe3901", checked := Try.checked }
namespace Rows
def none {H : Type} : Left H := { results := [], args := [] }

/-- 'triggerstorelaw6.TableFull': WHATEVER THE INPUT: true; the input reads as it did. -/
def tableFullSpec : ChangeSpec := { name := "tableFull", fn := fun _ => fun
  | [d] => { results := [.lit (.bool true)], args := [d] }
  | _ => none }
def tableFullRow : OpenClaim := { program := "ytphofeeaphkciaa", sum := "79bf6f1414c3cf70fa4a87ff0c6db079711c738c34828a497730b88152fe3901", func := "triggerstore/triggerstorelaw6.TableFull", spec := "tableFull", unfollowed := true, recurses := true, plainKeys := false, apart := false }
def TableFullSaid : Prop := tableFullRow.holds Try.pinned (OpenSpec.ofChange tableFullSpec)

/-- ITS FALSE NEIGHBOUR: 'it returns false'. Refute it at one input. -/
def tableFullWrong : ChangeSpec := { name := "tableFull", fn := fun _ => fun
  | [d] => { results := [.lit (.bool false)], args := [d] }
  | _ => none }
def TableFullWrongFalsely : Prop := tableFullRow.holds Try.pinned (OpenSpec.ofChange tableFullWrong)

/-- 'triggerstorelaw7.KeysMoves': WHATEVER THE INPUT: true; the input reads as it did. -/
def keysMovesSpec : ChangeSpec := { name := "keysMoves", fn := fun _ => fun
  | [d1, d2] => { results := [.lit (.bool true)], args := [d1, d2] }
  | _ => none }
def keysMovesRow : OpenClaim := { program := "ytphofeeaphkciaa", sum := "79bf6f1414c3cf70fa4a87ff0c6db079711c738c34828a497730b88152fe3901", func := "triggerstore/triggerstorelaw7.KeysMoves", spec := "keysMoves", unfollowed := true, recurses := true, plainKeys := false, apart := false }
def KeysMovesSaid : Prop := keysMovesRow.holds Try.pinned (OpenSpec.ofChange keysMovesSpec)

/-- ITS FALSE NEIGHBOUR: 'it returns false'. Refute it at one input. -/
def keysMovesWrong : ChangeSpec := { name := "keysMoves", fn := fun _ => fun
  | [d1, d2] => { results := [.lit (.bool false)], args := [d1, d2] }
  | _ => none }
def KeysMovesWrongFalsely : Prop := keysMovesRow.holds Try.pinned (OpenSpec.ofChange keysMovesWrong)

/-- 'triggerstorelaw7.KeysLimit': WHATEVER THE INPUT: true; the input reads as it did. -/
def keysLimitSpec : ChangeSpec := { name := "keysLimit", fn := fun _ => fun
  | [d] => { results := [.lit (.bool true)], args := [d] }
  | _ => none }
def keysLimitRow : OpenClaim := { program := "ytphofeeaphkciaa", sum := "79bf6f1414c3cf70fa4a87ff0c6db079711c738c34828a497730b88152fe3901", func := "triggerstore/triggerstorelaw7.KeysLimit", spec := "keysLimit", unfollowed := true, recurses := true, plainKeys := false, apart := false }
def KeysLimitSaid : Prop := keysLimitRow.holds Try.pinned (OpenSpec.ofChange keysLimitSpec)

/-- ITS FALSE NEIGHBOUR: 'it returns false'. Refute it at one input. -/
def keysLimitWrong : ChangeSpec := { name := "keysLimit", fn := fun _ => fun
  | [d] => { results := [.lit (.bool false)], args := [d] }
  | _ => none }
def KeysLimitWrongFalsely : Prop := keysLimitRow.holds Try.pinned (OpenSpec.ofChange keysLimitWrong)

/- THE SECOND FORM. 'bulk': how many values and letters a reading holds, each counted each time it is reached (what is shared counts as often as it is met; a slice's spare places count too). A statement '..UptoSaid' is the law's where the arguments, and the package variables that the reading takes, are together of bulk at most 1048576: NARROWER than '..Said'. Prove '..Said' where nothing that the law and all that it calls make is longer than what came in: it says more and counts as full. Else prove '..UptoSaid'. A law counts once. -/
mutual
def uptoBulk {H : Type} : DataW H → Nat
  | .lit (.string bytes) => bytes.length + 1
  | .lit _ => 1
  | .nil => 1
  | .ptr d => uptoBulk d + 1
  | .slice elems spare => uptoBulkAll elems + uptoBulkAll spare + 1
  | .agg parts => uptoBulkAll parts + 1
  | .iface _ d => uptoBulk d + 1
  | .map entries => uptoBulkEntries entries + 1
  | .held _ => 1
def uptoBulkAll {H : Type} : List (DataW H) → Nat
  | [] => 0
  | d :: r => uptoBulk d + uptoBulkAll r
def uptoBulkEntries {H : Type} : List (Lit × DataW H) → Nat
  | [] => 0
  | x :: r => uptoBulkEntry x + uptoBulkEntries r
def uptoBulkEntry {H : Type} : Lit × DataW H → Nat
  | (.string bytes, d) => bytes.length + uptoBulk d + 1
  | (_, d) => uptoBulk d + 1
 end
def uptoSmall : (H : Type) → List (DataW H) → Bool := fun _ ds => decide (uptoBulkAll ds ≤ 1048576)
def OpenSpec.upto (s : _root_.Go.ChangeSpec) : _root_.Go.OpenSpec := { _root_.Go.OpenSpec.ofChange s with cond := some uptoSmall }

/-- 'triggerstorelaw6.TableFull', WHERE WHAT IT READS IS OF BULK AT MOST 1048576: true; the input reads as it did. -/
def tableFullUptoRow : OpenClaim := { program := "ytphofeeaphkciaa", sum := "79bf6f1414c3cf70fa4a87ff0c6db079711c738c34828a497730b88152fe3901", func := "triggerstore/triggerstorelaw6.TableFull", spec := "tableFull", unfollowed := true, recurses := true, plainKeys := false, apart := false, narrowed := true }
def TableFullUptoSaid : Prop := tableFullUptoRow.holds Try.pinned (OpenSpec.upto tableFullSpec)

/-- 'triggerstorelaw7.KeysMoves', WHERE WHAT IT READS IS OF BULK AT MOST 1048576: true; the input reads as it did. -/
def keysMovesUptoRow : OpenClaim := { program := "ytphofeeaphkciaa", sum := "79bf6f1414c3cf70fa4a87ff0c6db079711c738c34828a497730b88152fe3901", func := "triggerstore/triggerstorelaw7.KeysMoves", spec := "keysMoves", unfollowed := true, recurses := true, plainKeys := false, apart := false, narrowed := true }
def KeysMovesUptoSaid : Prop := keysMovesUptoRow.holds Try.pinned (OpenSpec.upto keysMovesSpec)

/-- 'triggerstorelaw7.KeysLimit', WHERE WHAT IT READS IS OF BULK AT MOST 1048576: true; the input reads as it did. -/
def keysLimitUptoRow : OpenClaim := { program := "ytphofeeaphkciaa", sum := "79bf6f1414c3cf70fa4a87ff0c6db079711c738c34828a497730b88152fe3901", func := "triggerstore/triggerstorelaw7.KeysLimit", spec := "keysLimit", unfollowed := true, recurses := true, plainKeys := false, apart := false, narrowed := true }
def KeysLimitUptoSaid : Prop := keysLimitUptoRow.holds Try.pinned (OpenSpec.upto keysLimitSpec)

end Rows
end Go.Proofs.Ytphofeeaphkciaa

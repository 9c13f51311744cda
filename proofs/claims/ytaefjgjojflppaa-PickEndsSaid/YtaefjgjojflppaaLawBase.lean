/- Closed facts on the program that every law's row asks. -/
import Derived.Test.YtaefjgjojflppaaRows
import Derived.Test.YtaefjgjojflppaaShell
import Derived.Test.YtaefjgjojflppaaArPlain
namespace Go.Proofs.Ytaefjgjojflppaa
open Go.ChangeShapes Go.WideShapes Go.ChangeAt Go.RowKit
set_option linter.unusedVariables false

theorem own : ownKnob Try.prog.godebug = none := by kernel_rfl
theorem laidOut : laidOutB Try.prog = true := by kernel_rfl
theorem i64_of_wf {x : Int} (h : (Lit.int .i64 x).wf = true) : I64 x := by
  simp [Lit.wf, IntKind.min, IntKind.max, IntKind.signed, IntKind.bits] at h
  exact ⟨by omega, by omega⟩

end Go.Proofs.Ytaefjgjojflppaa

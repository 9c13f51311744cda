/- The contract of the reference's Truth. -/
import Derived.Test.YtdgdllicmccnfaaDoorLogic2
namespace Go.Proofs.YtdgdllicmccnfaaDoor
open Go.RowKit
set_option linter.unusedVariables false

set_option maxHeartbeats 400000 in
theorem rtruth_any (b : Bool) (w : World) :
    Calls Tryd.prog 29 #[.bool b] w fun e w' => e = .returned (.agg #[.int .i64 2, .int .i64 (bif b then 1 else 0), .string ⟨#[]⟩]) ∧ Below w.heap.size w w' := by
  cases b
  all_goals
    go_enter Tryd.func29, Tryd.ntmps29
    go_wp2
    refine bodyPost_ret (v := .agg #[.int .i64 2, .int .i64 _, .string ⟨#[]⟩]) (by simp [results, Tryd.results29, go_sem]) rfl ⟨rfl, ?_⟩
    exact (Below.refl _ _).alloc (Nat.le_refl _) _

end Go.Proofs.YtdgdllicmccnfaaDoor

/- The sanity check of arith's laws answers true. -/
import Derived.Test.YtdgdllicmccnfaaArSum
namespace Go.Proofs.Ytdgdllicmccnfaa
open Go.RowKit
set_option linter.unusedVariables false

theorem sum_known (w : World) (A : Option Addr) (n c B : Nat) (hr : Rd w B 1 A n [.int .i64 9223372036854775807, .int .i64 5, .int .i64 (-5)]) :
    Calls Try.prog 11 #[.slice A n c] w fun e w' => e = .returned (.tuple #[.int .i64 9223372036854775807, .bool true]) ∧ w = w' := by
  have hn : n = 3 := by have := hr.1; simpa using this.symm
  have := sum_any A n c [9223372036854775807, 5, -5] w B hr (by intro x hx; simp at hx; unfold I64; omega) (by omega)
  rw [show isum [9223372036854775807, 5, -5] = 9223372036854775807 from by decide, show nv 9223372036854775807 = 9223372036854775807 from by decide, show fit 9223372036854775807 = true from by decide] at this
  exact this

set_option maxHeartbeats 400000 in
theorem known3 (w : World) : Calls Try.prog 13 #[] w fun e w' => e = .returned (.bool true) ∧ Below w.heap.size w w' := by
  go_enter Try.func13, Try.ntmps13
  go_wp2_with (first | (go_at_call 11; refine (sum_known _ _ _ _ _ (Rd.lit _ _ _ rfl rfl)).mono ?_; rintro e w' ⟨rfl, rfl⟩) | go_in)
  go_ret
  exact ⟨rfl, (Below.refl _ _).alloc (Nat.le_refl _) _⟩
end Go.Proofs.Ytdgdllicmccnfaa

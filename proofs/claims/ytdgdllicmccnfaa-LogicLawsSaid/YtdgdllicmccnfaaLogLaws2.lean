/- LogicLaws: the three values that a number stands for. -/
import Derived.Test.YtdgdllicmccnfaaLogLaws
namespace Go.Proofs.Ytdgdllicmccnfaa
open Go.ChangeShapes Go.WideShapes Go.ChangeAt Go.RowKit
set_option linter.unusedVariables false

set_option maxHeartbeats 400000 in
theorem rtruth_any (b : Bool) (w : World) :
    Calls Try.prog 31 #[.bool b] w fun e w' => e = .returned (.agg #[.int .i64 2, .int .i64 (bif b then 1 else 0), .string ⟨#[]⟩]) ∧ Below w.heap.size w w' := by
  cases b
  all_goals
    go_enter Try.func31, Try.ntmps31
    go_wp2
    refine bodyPost_ret (v := .agg #[.int .i64 2, .int .i64 _, .string ⟨#[]⟩]) (by simp [results, Try.results31, go_sem]) rfl ⟨rfl, ?_⟩
    exact (Below.refl _ _).alloc (Nat.le_refl _) _

def t3of (r : Int) : Option Bool := if r = 0 then none else if r = 1 then some false else some true

set_option maxHeartbeats 1000000 in
theorem truths_any (n : Int) (hn : I64 n) : Gives 20 #[.int .i64 n] (tv (t3of (n % 3))) := by
  intro w
  have hr := Int.emod_nonneg n (show (3 : Int) ≠ 0 by decide)
  have hr2 := Int.emod_lt_of_pos n (show (0 : Int) < 3 by decide)
  obtain ⟨r, hR⟩ : ∃ r, n % 3 = r := ⟨_, rfl⟩
  have hm := fun w => wmod_any n 3 w hn (by omega) (by omega)
  rw [hR] at hr hr2 ⊢
  have HM : Hid (∀ w : World, Calls Try.prog 26 #[.int .i64 n, .int .i64 3] w fun e w' => e = .returned (.int .i64 r) ∧ w = w') := fun w => by rw [← hR]; exact hm w
  clear hm hR
  obtain rfl | rfl | rfl : r = 0 ∨ r = 1 ∨ r = 2 := by omega
  all_goals
    simp only [t3of, tv, Int.reduceEq, if_true, if_false]
    go_enter Try.func20, Try.ntmps20
    go_wp2_with fail
    refine (rtruth_any _ _).mono ?_
    rintro e w1 ⟨rfl, b1⟩
    have z1 := below_size b1 (n := w.heap.size) (by simp)
    obtain ⟨hc1, hf1⟩ := below_cells b1
    go_wp2_with fail
    refine (rtruth_any _ _).mono ?_
    rintro e w2 ⟨rfl, b2⟩
    have z2 := below_size b2 (n := w.heap.size) (by omega)
    obtain ⟨hc2, hf2⟩ := below_cells b2
    go_wp2_with fail
    refine (HM.out _).mono ?_
    rintro e w3 ⟨rfl, rfl⟩
    go_wp2_with fail
    refine bodyPost_ret (v := .agg #[.int .i64 _, .int .i64 _, .string ⟨#[]⟩]) (by simp [results, Try.results20, go_sem, hc2, hc1, z1, z2]) rfl ⟨rfl, ?_⟩
    have a2 : Below w.heap.size w w2 := bnext (((Below.refl _ _).alloc (Nat.le_refl _) _).trans (b1.mono (by simp))) b2 (Nat.le_refl _)
    exact (set3 a2 (Nat.le_refl _) _ _ _).alloc (by simp only [size_set]; omega) _
end Go.Proofs.Ytdgdllicmccnfaa

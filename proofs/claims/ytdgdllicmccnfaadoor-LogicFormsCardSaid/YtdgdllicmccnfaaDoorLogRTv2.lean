/- The reference's Or at the three values. -/
import Derived.Test.YtdgdllicmccnfaaDoorLogRTv
namespace Go.Proofs.YtdgdllicmccnfaaDoor
open Go.RowKit
set_option linter.unusedVariables false
set_option linter.unusedSimpArgs false

def isT : Option Bool → Bool
  | some true => true
  | _ => false
theorem ri_tv (x : Option Bool) : Gives 58 #[tv x] (.bool (isT x)) := by
  rcases x with _ | _ | _
  · have h := ristrue_any 0 0 ⟨#[]⟩
    rwa [show isTrueB 0 0 ⟨#[]⟩ = isT none from by kernel_rfl] at h
  · have h := ristrue_any 2 0 ⟨#[]⟩
    rwa [show isTrueB 2 0 ⟨#[]⟩ = isT (some false) from by kernel_rfl] at h
  · have h := ristrue_any 2 1 ⟨#[]⟩
    rwa [show isTrueB 2 1 ⟨#[]⟩ = isT (some true) from by kernel_rfl] at h

set_option maxHeartbeats 4000000 in
theorem ror_tv (x y : Option Bool) : Gives 53 #[tv x, tv y] (.tuple #[tv (or3 x y), .bool true]) := by
  intro w
  have v1 := rlv_tv x
  have v2 := rlv_tv y
  have r1 := ri_tv x
  have r2 := ri_tv y
  rcases x with _ | _ | _ <;> rcases y with _ | _ | _
  all_goals
    simp only [tv, or3, and3, not3, isT, Bool.not_true, Bool.not_false] at v1 v2 r1 r2 ⊢
    have V1 := hid v1; have V2 := hid v2; have R1 := hid r1; have R2 := hid r2; clear v1 v2 r1 r2
    go_enter Tryd.func53, Tryd.ntmps53
    go_wp2_with fail
    refine (V1.out _).mono ?_
    rintro e w1 ⟨rfl, b1⟩
    obtain ⟨hc1, hf1⟩ := below_cells b1
    have z12 := below_size b1 (n := w.heap.size + 1 + 1) (by simp only [World.size_alloc]; omega)
    have z11 : w.heap.size + 1 < w1.heap.size := by omega
    have z10 : w.heap.size < w1.heap.size := by omega
    go_wp2_with fail
    refine (V2.out _).mono ?_
    rintro e w2 ⟨rfl, b2⟩
    obtain ⟨hc2, hf2⟩ := below_cells b2
    have z22 := below_size b2 z12
    have z21 : w.heap.size + 1 < w2.heap.size := by omega
    have z20 : w.heap.size < w2.heap.size := by omega
    go_wp2_with fail
    refine (R1.out _).mono ?_
    rintro e w3 ⟨rfl, b3⟩
    obtain ⟨hc3, hf3⟩ := below_cells b3
    have z32 := below_size b3 z22
    have z31 : w.heap.size + 1 < w3.heap.size := by omega
    have z30 : w.heap.size < w3.heap.size := by omega
    have a3 : Below w.heap.size w w3 := bnext (bnext ((ext3 _ _ _ _).trans (b1.mono (by simp only [World.size_alloc]; omega))) b2 (Nat.le_refl _)) b3 (Nat.le_refl _)
    first
      | (go_wp2_with fail
         refine (R2.out _).mono ?_
         rintro e w4 ⟨rfl, b4⟩
         obtain ⟨hc4, hf4⟩ := below_cells b4
         have z42 := below_size b4 z32
         have z41 : w.heap.size + 1 < w4.heap.size := by omega
         have z40 : w.heap.size < w4.heap.size := by omega
         have a4 := bnext a3 b4 (Nat.le_refl _)
         first
           | (go_wp2_with fail
              refine (rtruth_any _ _).mono ?_
              rintro e w5 ⟨rfl, b5⟩
              obtain ⟨hc5, hf5⟩ := below_cells b5
              have z52 := below_size b5 z42
              go_wp2_with fail
              refine bodyPost_ret (v := .tuple #[.agg #[.int .i64 2, .int .i64 _, .string ⟨#[]⟩], .bool true]) (by simp [results, Tryd.results53, go_sem, hc5, hc4, hc3, hc2, hc1, z12, z22, z32, z42]) rfl ⟨rfl, ?_⟩
              exact set3 (bnext a4 b5 (Nat.le_refl _)) (by omega) _ _ _)
           | (go_wp2_with fail
              refine bodyPost_ret (v := .tuple #[.agg #[.int .i64 0, .int .i64 0, .string ⟨#[]⟩], .bool true]) (by simp [results, Tryd.results53, go_sem, hc4, hc3, hc2, hc1, z12, z22, z32]) rfl ⟨rfl, ?_⟩
              exact set3 a4 (by omega) _ _ _))
      | (go_wp2_with fail
         refine (rtruth_any _ _).mono ?_
         rintro e w5 ⟨rfl, b5⟩
         obtain ⟨hc5, hf5⟩ := below_cells b5
         have z52 := below_size b5 z32
         go_wp2_with fail
         refine bodyPost_ret (v := .tuple #[.agg #[.int .i64 2, .int .i64 _, .string ⟨#[]⟩], .bool true]) (by simp [results, Tryd.results53, go_sem, hc5, hc3, hc2, hc1, z12, z22, z32]) rfl ⟨rfl, ?_⟩
         exact set3 (bnext a3 b5 (Nat.le_refl _)) (by omega) _ _ _)
end Go.Proofs.YtdgdllicmccnfaaDoor

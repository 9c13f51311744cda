/- The reference's Not, IsTrue and Or at the three values. -/
import Derived.Test.YtdgdllicmccnfaaDoorLogInv
namespace Go.Proofs.YtdgdllicmccnfaaDoor
open Go.RowKit
set_option linter.unusedVariables false
set_option linter.unusedSimpArgs false

theorem rlv_tv (x : Option Bool) (w : World) : Calls Tryd.prog 57 #[tv x] w fun e w' => e = .returned (.bool true) ∧ Below w.heap.size w w' := by
  rcases x with _ | _ | _
  · have h := rlvalid_any 0 0 ⟨#[]⟩ (by decide) w
    rwa [show lvB 0 0 ⟨#[]⟩ = true from by kernel_rfl] at h
  · have h := rlvalid_any 2 0 ⟨#[]⟩ (by decide) w
    rwa [show lvB 2 0 ⟨#[]⟩ = true from by kernel_rfl] at h
  · have h := rlvalid_any 2 1 ⟨#[]⟩ (by decide) w
    rwa [show lvB 2 1 ⟨#[]⟩ = true from by kernel_rfl] at h

set_option maxHeartbeats 1000000 in
theorem rnot_tv (x : Option Bool) : Gives 50 #[tv x] (.tuple #[tv (not3 x), .bool true]) := by
  intro w
  have v1 := rlv_tv x
  rcases x with _ | _ | _
  · simp only [tv, not3] at v1 ⊢
    have V1 := hid v1; clear v1
    go_enter Tryd.func50, Tryd.ntmps50
    go_wp2_with fail
    refine (V1.out _).mono ?_
    rintro e w1 ⟨rfl, b1⟩
    obtain ⟨hc1, hf1⟩ := below_cells b1
    have z12 := below_size b1 (n := w.heap.size + 1) (by simp only [World.size_alloc]; omega)
    have z11 : w.heap.size < w1.heap.size := by omega
    go_wp2_with fail
    refine bodyPost_ret (v := .tuple #[.agg #[.int .i64 0, .int .i64 0, .string ⟨#[]⟩], .bool true]) (by simp [results, Tryd.results50, go_sem, hc1, z12, z11]) rfl ⟨rfl, ?_⟩
    exact set3 ((ext2 _ _ _).trans (b1.mono (by simp only [World.size_alloc]; omega))) (by omega) _ _ _
  all_goals
    simp only [tv, not3, Bool.not_true, Bool.not_false] at v1 ⊢
    have V1 := hid v1; clear v1
    go_enter Tryd.func50, Tryd.ntmps50
    go_wp2_with fail
    refine (V1.out _).mono ?_
    rintro e w1 ⟨rfl, b1⟩
    obtain ⟨hc1, hf1⟩ := below_cells b1
    have z12 := below_size b1 (n := w.heap.size + 1) (by simp only [World.size_alloc]; omega)
    have z11 : w.heap.size < w1.heap.size := by omega
    go_wp2_with fail
    refine (rtruth_any _ _).mono ?_
    rintro e w2 ⟨rfl, b2⟩
    obtain ⟨hc2, hf2⟩ := below_cells b2
    have z22 := below_size b2 z12
    go_wp2_with fail
    refine bodyPost_ret (v := .tuple #[.agg #[.int .i64 2, .int .i64 _, .string ⟨#[]⟩], .bool true]) (by simp [results, Tryd.results50, go_sem, hc2, hc1, z12, z22]) rfl ⟨rfl, ?_⟩
    exact set3 (bnext ((ext2 _ _ _).trans (b1.mono (by simp only [World.size_alloc]; omega))) b2 (Nat.le_refl _)) (by omega) _ _ _

set_option maxHeartbeats 1000000 in
theorem ristrue_any (k i : Int) (s : ByteArray) : Gives 58 #[.agg #[.int .i64 k, .int .i64 i, .string s]] (.bool (isTrueB k i s)) := by
  intro w
  cases h2 : (k == 2) <;> cases h1 : (i == 1) <;> cases he : s.toList.isEmpty
  all_goals
    have B0 := Blk.new w 39 #[.int .i64 k, .int .i64 i, .string s]
    go_enter Tryd.func58, Tryd.ntmps58
    go_wp2_with fail
    go_region_held3 (fun w' => w'.cell? ⟨w.heap.size, 0, none⟩ = some (.int .i64 k) ∧ w'.cell? ⟨w.heap.size, 1, none⟩ = some (.int .i64 i) ∧ w'.cell? ⟨w.heap.size, 2, none⟩ = some (.string s))
      (first | exact cells3 B0 | exact cells3 B1)
      (first | (go_at_call 29; refine (rtruth_any _ _).mono ?_; rintro e w4 ⟨rfl, b1⟩; have B1 : Blk w4 w.heap.size 39 #[.int .i64 k, .int .i64 i, .string s] := (b1.block _ B0.lt).trans B0))
    go_wp2_with fail
    go_ret
    exact ⟨by simp [isTrueB, h2, h1, he], ((Below.refl _ _).alloc (Nat.le_refl _) _).drew.trans (b1.mono (by simp))⟩
end Go.Proofs.YtdgdllicmccnfaaDoor

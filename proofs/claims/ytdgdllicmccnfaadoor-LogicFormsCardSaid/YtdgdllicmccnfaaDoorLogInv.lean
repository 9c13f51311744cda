/- And, Or, Not of arguments that are not truth values or null: the null value and false; both in the program and in the reference. -/
import Derived.Test.YtdgdllicmccnfaaDoorLogRef3
namespace Go.Proofs.YtdgdllicmccnfaaDoor
open Go.RowKit
set_option linter.unusedVariables false
set_option linter.unusedSimpArgs false

set_option maxHeartbeats 1000000 in
theorem logic_not_inv (k1 i1 : Int) (s1 : ByteArray) (h1 : s1.size ≤ maxLen) (e1 : lvB k1 i1 s1 = false) : Gives 49 #[.agg #[.int .i64 k1, .int .i64 i1, .string s1]] (.tuple #[.agg #[.int .i64 0, .int .i64 0, .string ⟨#[]⟩], .bool false]) := by
  intro w
  have v1 := lvalid_any k1 i1 s1 h1
  rw [e1] at v1
  have V1 := hid v1; clear v1 e1
  go_enter Tryd.func49, Tryd.ntmps49
  go_wp2_with fail
  refine (V1.out _).mono ?_
  rintro e w1 ⟨rfl, b1⟩
  obtain ⟨hc1, hf1⟩ := below_cells b1
  have z12 := below_size b1 (n := w.heap.size + 1) (by simp only [World.size_alloc]; omega)
  go_wp2_with fail
  refine bodyPost_ret (v := .tuple #[.agg #[.int .i64 0, .int .i64 0, .string ⟨#[]⟩], .bool false]) (by simp [results, Tryd.results49, go_sem, hc1, z12]) rfl ⟨rfl, ?_⟩
  exact set3 ((ext2 _ _ _).trans (b1.mono (by simp only [World.size_alloc]; omega))) (by omega) _ _ _

set_option maxHeartbeats 1000000 in
theorem logic_And_inv (k1 i1 : Int) (s1 : ByteArray) (k2 i2 : Int) (s2 : ByteArray) (h1 : s1.size ≤ maxLen) (h2 : s2.size ≤ maxLen) (hh : lvB k1 i1 s1 = false ∨ lvB k2 i2 s2 = false) : Gives 47 #[.agg #[.int .i64 k1, .int .i64 i1, .string s1], .agg #[.int .i64 k2, .int .i64 i2, .string s2]] (.tuple #[.agg #[.int .i64 0, .int .i64 0, .string ⟨#[]⟩], .bool false]) := by
  intro w
  have v1 := lvalid_any k1 i1 s1 h1
  have v2 := lvalid_any k2 i2 s2 h2
  cases e1 : lvB k1 i1 s1
  · rw [e1] at v1
    have V1 := hid v1; clear v1 v2 e1 hh
    go_enter Tryd.func47, Tryd.ntmps47
    go_wp2_with fail
    refine (V1.out _).mono ?_
    rintro e w1 ⟨rfl, b1⟩
    obtain ⟨hc1, hf1⟩ := below_cells b1
    have z12 := below_size b1 (n := w.heap.size + 1 + 1) (by simp only [World.size_alloc]; omega)
    go_wp2_with fail
    refine bodyPost_ret (v := .tuple #[.agg #[.int .i64 0, .int .i64 0, .string ⟨#[]⟩], .bool false]) (by simp [results, Tryd.results47, go_sem, hc1, z12]) rfl ⟨rfl, ?_⟩
    exact set3 ((ext3 _ _ _ _).trans (b1.mono (by simp only [World.size_alloc]; omega))) (by omega) _ _ _
  · have e2 : lvB k2 i2 s2 = false := by
      rcases hh with hh | hh
      · rw [e1] at hh; cases hh
      · exact hh
    rw [e1] at v1
    rw [e2] at v2
    have V1 := hid v1; have V2 := hid v2; clear v1 v2 e1 e2 hh
    go_enter Tryd.func47, Tryd.ntmps47
    go_wp2_with fail
    refine (V1.out _).mono ?_
    rintro e w1 ⟨rfl, b1⟩
    obtain ⟨hc1, hf1⟩ := below_cells b1
    have z12 := below_size b1 (n := w.heap.size + 1 + 1) (by simp only [World.size_alloc]; omega)
    have z11 : w.heap.size + 1 < w1.heap.size := by omega
    have z10 : w.heap.size < w1.heap.size := by omega
    go_wp2_with fail
    refine (V2.out _).mono ?_
    rintro e w2 ⟨rfl, b2⟩
    obtain ⟨hc2, hf2⟩ := below_cells b2
    have z22 := below_size b2 z12
    go_wp2_with fail
    refine bodyPost_ret (v := .tuple #[.agg #[.int .i64 0, .int .i64 0, .string ⟨#[]⟩], .bool false]) (by simp [results, Tryd.results47, go_sem, hc2, hc1, z12, z22]) rfl ⟨rfl, ?_⟩
    exact set3 (bnext ((ext3 _ _ _ _).trans (b1.mono (by simp only [World.size_alloc]; omega))) b2 (Nat.le_refl _)) (by omega) _ _ _

set_option maxHeartbeats 1000000 in
theorem logic_Or_inv (k1 i1 : Int) (s1 : ByteArray) (k2 i2 : Int) (s2 : ByteArray) (h1 : s1.size ≤ maxLen) (h2 : s2.size ≤ maxLen) (hh : lvB k1 i1 s1 = false ∨ lvB k2 i2 s2 = false) : Gives 52 #[.agg #[.int .i64 k1, .int .i64 i1, .string s1], .agg #[.int .i64 k2, .int .i64 i2, .string s2]] (.tuple #[.agg #[.int .i64 0, .int .i64 0, .string ⟨#[]⟩], .bool false]) := by
  intro w
  have v1 := lvalid_any k1 i1 s1 h1
  have v2 := lvalid_any k2 i2 s2 h2
  cases e1 : lvB k1 i1 s1
  · rw [e1] at v1
    have V1 := hid v1; clear v1 v2 e1 hh
    go_enter Tryd.func52, Tryd.ntmps52
    go_wp2_with fail
    refine (V1.out _).mono ?_
    rintro e w1 ⟨rfl, b1⟩
    obtain ⟨hc1, hf1⟩ := below_cells b1
    have z12 := below_size b1 (n := w.heap.size + 1 + 1) (by simp only [World.size_alloc]; omega)
    go_wp2_with fail
    refine bodyPost_ret (v := .tuple #[.agg #[.int .i64 0, .int .i64 0, .string ⟨#[]⟩], .bool false]) (by simp [results, Tryd.results52, go_sem, hc1, z12]) rfl ⟨rfl, ?_⟩
    exact set3 ((ext3 _ _ _ _).trans (b1.mono (by simp only [World.size_alloc]; omega))) (by omega) _ _ _
  · have e2 : lvB k2 i2 s2 = false := by
      rcases hh with hh | hh
      · rw [e1] at hh; cases hh
      · exact hh
    rw [e1] at v1
    rw [e2] at v2
    have V1 := hid v1; have V2 := hid v2; clear v1 v2 e1 e2 hh
    go_enter Tryd.func52, Tryd.ntmps52
    go_wp2_with fail
    refine (V1.out _).mono ?_
    rintro e w1 ⟨rfl, b1⟩
    obtain ⟨hc1, hf1⟩ := below_cells b1
    have z12 := below_size b1 (n := w.heap.size + 1 + 1) (by simp only [World.size_alloc]; omega)
    have z11 : w.heap.size + 1 < w1.heap.size := by omega
    have z10 : w.heap.size < w1.heap.size := by omega
    go_wp2_with fail
    refine (V2.out _).mono ?_
    rintro e w2 ⟨rfl, b2⟩
    obtain ⟨hc2, hf2⟩ := below_cells b2
    have z22 := below_size b2 z12
    go_wp2_with fail
    refine bodyPost_ret (v := .tuple #[.agg #[.int .i64 0, .int .i64 0, .string ⟨#[]⟩], .bool false]) (by simp [results, Tryd.results52, go_sem, hc2, hc1, z12, z22]) rfl ⟨rfl, ?_⟩
    exact set3 (bnext ((ext3 _ _ _ _).trans (b1.mono (by simp only [World.size_alloc]; omega))) b2 (Nat.le_refl _)) (by omega) _ _ _

set_option maxHeartbeats 1000000 in
theorem ref2_not_inv (k1 i1 : Int) (s1 : ByteArray) (h1 : s1.size ≤ maxLen) (e1 : lvB k1 i1 s1 = false) : Gives 50 #[.agg #[.int .i64 k1, .int .i64 i1, .string s1]] (.tuple #[.agg #[.int .i64 0, .int .i64 0, .string ⟨#[]⟩], .bool false]) := by
  intro w
  have v1 := rlvalid_any k1 i1 s1 h1
  rw [e1] at v1
  have V1 := hid v1; clear v1 e1
  go_enter Tryd.func50, Tryd.ntmps50
  go_wp2_with fail
  refine (V1.out _).mono ?_
  rintro e w1 ⟨rfl, b1⟩
  obtain ⟨hc1, hf1⟩ := below_cells b1
  have z12 := below_size b1 (n := w.heap.size + 1) (by simp only [World.size_alloc]; omega)
  go_wp2_with fail
  refine bodyPost_ret (v := .tuple #[.agg #[.int .i64 0, .int .i64 0, .string ⟨#[]⟩], .bool false]) (by simp [results, Tryd.results50, go_sem, hc1, z12]) rfl ⟨rfl, ?_⟩
  exact set3 ((ext2 _ _ _).trans (b1.mono (by simp only [World.size_alloc]; omega))) (by omega) _ _ _

set_option maxHeartbeats 1000000 in
theorem ref2_And_inv (k1 i1 : Int) (s1 : ByteArray) (k2 i2 : Int) (s2 : ByteArray) (h1 : s1.size ≤ maxLen) (h2 : s2.size ≤ maxLen) (hh : lvB k1 i1 s1 = false ∨ lvB k2 i2 s2 = false) : Gives 51 #[.agg #[.int .i64 k1, .int .i64 i1, .string s1], .agg #[.int .i64 k2, .int .i64 i2, .string s2]] (.tuple #[.agg #[.int .i64 0, .int .i64 0, .string ⟨#[]⟩], .bool false]) := by
  intro w
  have v1 := rlvalid_any k1 i1 s1 h1
  have v2 := rlvalid_any k2 i2 s2 h2
  cases e1 : lvB k1 i1 s1
  · rw [e1] at v1
    have V1 := hid v1; clear v1 v2 e1 hh
    go_enter Tryd.func51, Tryd.ntmps51
    go_wp2_with fail
    refine (V1.out _).mono ?_
    rintro e w1 ⟨rfl, b1⟩
    obtain ⟨hc1, hf1⟩ := below_cells b1
    have z12 := below_size b1 (n := w.heap.size + 1 + 1) (by simp only [World.size_alloc]; omega)
    go_wp2_with fail
    refine bodyPost_ret (v := .tuple #[.agg #[.int .i64 0, .int .i64 0, .string ⟨#[]⟩], .bool false]) (by simp [results, Tryd.results51, go_sem, hc1, z12]) rfl ⟨rfl, ?_⟩
    exact set3 ((ext3 _ _ _ _).trans (b1.mono (by simp only [World.size_alloc]; omega))) (by omega) _ _ _
  · have e2 : lvB k2 i2 s2 = false := by
      rcases hh with hh | hh
      · rw [e1] at hh; cases hh
      · exact hh
    rw [e1] at v1
    rw [e2] at v2
    have V1 := hid v1; have V2 := hid v2; clear v1 v2 e1 e2 hh
    go_enter Tryd.func51, Tryd.ntmps51
    go_wp2_with fail
    refine (V1.out _).mono ?_
    rintro e w1 ⟨rfl, b1⟩
    obtain ⟨hc1, hf1⟩ := below_cells b1
    have z12 := below_size b1 (n := w.heap.size + 1 + 1) (by simp only [World.size_alloc]; omega)
    have z11 : w.heap.size + 1 < w1.heap.size := by omega
    have z10 : w.heap.size < w1.heap.size := by omega
    go_wp2_with fail
    refine (V2.out _).mono ?_
    rintro e w2 ⟨rfl, b2⟩
    obtain ⟨hc2, hf2⟩ := below_cells b2
    have z22 := below_size b2 z12
    go_wp2_with fail
    refine bodyPost_ret (v := .tuple #[.agg #[.int .i64 0, .int .i64 0, .string ⟨#[]⟩], .bool false]) (by simp [results, Tryd.results51, go_sem, hc2, hc1, z12, z22]) rfl ⟨rfl, ?_⟩
    exact set3 (bnext ((ext3 _ _ _ _).trans (b1.mono (by simp only [World.size_alloc]; omega))) b2 (Nat.le_refl _)) (by omega) _ _ _

set_option maxHeartbeats 1000000 in
theorem ref2_Or_inv (k1 i1 : Int) (s1 : ByteArray) (k2 i2 : Int) (s2 : ByteArray) (h1 : s1.size ≤ maxLen) (h2 : s2.size ≤ maxLen) (hh : lvB k1 i1 s1 = false ∨ lvB k2 i2 s2 = false) : Gives 53 #[.agg #[.int .i64 k1, .int .i64 i1, .string s1], .agg #[.int .i64 k2, .int .i64 i2, .string s2]] (.tuple #[.agg #[.int .i64 0, .int .i64 0, .string ⟨#[]⟩], .bool false]) := by
  intro w
  have v1 := rlvalid_any k1 i1 s1 h1
  have v2 := rlvalid_any k2 i2 s2 h2
  cases e1 : lvB k1 i1 s1
  · rw [e1] at v1
    have V1 := hid v1; clear v1 v2 e1 hh
    go_enter Tryd.func53, Tryd.ntmps53
    go_wp2_with fail
    refine (V1.out _).mono ?_
    rintro e w1 ⟨rfl, b1⟩
    obtain ⟨hc1, hf1⟩ := below_cells b1
    have z12 := below_size b1 (n := w.heap.size + 1 + 1) (by simp only [World.size_alloc]; omega)
    go_wp2_with fail
    refine bodyPost_ret (v := .tuple #[.agg #[.int .i64 0, .int .i64 0, .string ⟨#[]⟩], .bool false]) (by simp [results, Tryd.results53, go_sem, hc1, z12]) rfl ⟨rfl, ?_⟩
    exact set3 ((ext3 _ _ _ _).trans (b1.mono (by simp only [World.size_alloc]; omega))) (by omega) _ _ _
  · have e2 : lvB k2 i2 s2 = false := by
      rcases hh with hh | hh
      · rw [e1] at hh; cases hh
      · exact hh
    rw [e1] at v1
    rw [e2] at v2
    have V1 := hid v1; have V2 := hid v2; clear v1 v2 e1 e2 hh
    go_enter Tryd.func53, Tryd.ntmps53
    go_wp2_with fail
    refine (V1.out _).mono ?_
    rintro e w1 ⟨rfl, b1⟩
    obtain ⟨hc1, hf1⟩ := below_cells b1
    have z12 := below_size b1 (n := w.heap.size + 1 + 1) (by simp only [World.size_alloc]; omega)
    have z11 : w.heap.size + 1 < w1.heap.size := by omega
    have z10 : w.heap.size < w1.heap.size := by omega
    go_wp2_with fail
    refine (V2.out _).mono ?_
    rintro e w2 ⟨rfl, b2⟩
    obtain ⟨hc2, hf2⟩ := below_cells b2
    have z22 := below_size b2 z12
    go_wp2_with fail
    refine bodyPost_ret (v := .tuple #[.agg #[.int .i64 0, .int .i64 0, .string ⟨#[]⟩], .bool false]) (by simp [results, Tryd.results53, go_sem, hc2, hc1, z12, z22]) rfl ⟨rfl, ?_⟩
    exact set3 (bnext ((ext3 _ _ _ _).trans (b1.mono (by simp only [World.size_alloc]; omega))) b2 (Nat.le_refl _)) (by omega) _ _ _
end Go.Proofs.YtdgdllicmccnfaaDoor

/- The contracts of the reference's Equal and Less. -/
import Derived.Test.YtdgdllicmccnfaaDoorLogRef2
namespace Go.Proofs.YtdgdllicmccnfaaDoor
open Go.RowKit
set_option linter.unusedVariables false
set_option linter.unusedSimpArgs false

section
variable {k1 i1 : Int} {s1 : ByteArray} {k2 i2 : Int} {s2 : ByteArray}
theorem cmp3_no (h : comparableB k1 i1 s1 k2 i2 s2 = false) : (cmp3 k1 i1 s1 k2 i2 s2).2.2 = false := by
  revert h
  unfold comparableB cmp3
  generalize validB k1 i1 s1 = a; generalize validB k2 i2 s2 = b; generalize (k1 == k2) = e; generalize (k1 == 0) = p; generalize (k2 == 0) = q
  cases a <;> cases b <;> cases e <;> cases p <;> cases q <;> simp
theorem cmp3_null (h : comparableB k1 i1 s1 k2 i2 s2 = true) (z : (k1 == 0) = true ∨ (k2 == 0) = true) : cmp3 k1 i1 s1 k2 i2 s2 = (0, true, true) := by
  revert h z
  unfold comparableB cmp3
  generalize validB k1 i1 s1 = a; generalize validB k2 i2 s2 = b; generalize (k1 == k2) = e; generalize (k1 == 0) = p; generalize (k2 == 0) = q
  cases a <;> cases b <;> cases e <;> cases p <;> cases q <;> simp
theorem cmp3_yes (h : comparableB k1 i1 s1 k2 i2 s2 = true) (z1 : (k1 == 0) = false) (z2 : (k2 == 0) = false) : cmp3 k1 i1 s1 k2 i2 s2 = (cmpV k1 i1 s1 k2 i2 s2, false, true) := by
  revert h z1 z2
  unfold comparableB cmp3
  generalize validB k1 i1 s1 = a; generalize validB k2 i2 s2 = b; generalize (k1 == k2) = e; generalize (k1 == 0) = p; generalize (k2 == 0) = q
  cases a <;> cases b <;> cases e <;> cases p <;> cases q <;> simp
end
theorem ansV_no {t : Int → Bool} {r : Int × Bool × Bool} (h : r.2.2 = false) : ansV t r = .agg #[.int .i64 0, .int .i64 0, .string ⟨#[]⟩] := by simp [ansV, h]

set_option maxHeartbeats 1000000 in
theorem requal_any (k1 i1 : Int) (s1 : ByteArray) (k2 i2 : Int) (s2 : ByteArray) (h1 : s1.size ≤ maxLen) (h2 : s2.size ≤ maxLen) :
    Gives 54 #[.agg #[.int .i64 k1, .int .i64 i1, .string s1], .agg #[.int .i64 k2, .int .i64 i2, .string s2]] (.tuple #[ansV (fun c => c == 0) (cmp3 k1 i1 s1 k2 i2 s2), .bool (cmp3 k1 i1 s1 k2 i2 s2).2.2]) := by
  intro w
  have hc := comparable_any k1 i1 s1 k2 i2 s2 h1 h2
  have hv := rcompare_any k1 i1 s1 k2 i2 s2
  have HT := hid (fun b w => rtruth_any b w)
  cases cb : comparableB k1 i1 s1 k2 i2 s2
  · rw [cb] at hc
    have n1 := cmp3_no cb
    rw [ansV_no n1, n1]
    have HC := hid hc; clear hc hv n1 cb
    go_enter Tryd.func54, Tryd.ntmps54
    go_wp2_with fail
    refine (HC.out _).mono ?_
    rintro e w1 ⟨rfl, b1⟩
    obtain ⟨hc1, hf1⟩ := below_cells b1
    have z12 := below_size b1 (n := w.heap.size + 1 + 1) (by simp only [World.size_alloc]; omega)
    go_wp2_with fail
    refine bodyPost_ret (v := .tuple #[.agg #[.int .i64 0, .int .i64 0, .string ⟨#[]⟩], .bool false]) (by simp [results, Tryd.results54, go_sem, hc1, z12]) rfl ⟨rfl, ?_⟩
    exact set3 ((ext3 _ _ _ _).trans (b1.mono (by simp only [World.size_alloc]; omega))) (by omega) _ _ _
  rw [cb] at hc
  cases z1 : (k1 == 0)
  · cases z2 : (k2 == 0)
    · rw [cmp3_yes cb z1 z2]
      simp only [ansV, Bool.not_false, Bool.and_true, if_true]
      obtain ⟨c, hcc⟩ : ∃ c, c = cmpV k1 i1 s1 k2 i2 s2 := ⟨_, rfl⟩
      rw [← hcc] at hv ⊢
      have HC := hid hc; have HV := hid hv; clear hc hv cb hcc
      go_enter Tryd.func54, Tryd.ntmps54
      go_wp2_with fail
      refine (HC.out _).mono ?_
      rintro e w1 ⟨rfl, b1⟩
      obtain ⟨hc1, hf1⟩ := below_cells b1
      have z12 := below_size b1 (n := w.heap.size + 1 + 1) (by simp only [World.size_alloc]; omega)
      have z11 : w.heap.size + 1 < w1.heap.size := by omega
      have z10 : w.heap.size < w1.heap.size := by omega
      go_wp2_with fail
      refine (HV.out _).mono ?_
      rintro e w2 ⟨rfl, b2⟩
      go_wp2_with fail
      refine (HT.out _ _).mono ?_
      rintro e w3 ⟨rfl, b3⟩
      obtain ⟨hc2, hf2⟩ := below_cells b2
      obtain ⟨hc3, hf3⟩ := below_cells b3
      have z22 := below_size b2 z12
      have z32 := below_size b3 z22
      go_wp2_with fail
      refine bodyPost_ret (v := .tuple #[.agg #[.int .i64 2, .int .i64 _, .string ⟨#[]⟩], .bool true]) (by simp [results, Tryd.results54, go_sem, hc3, hc2, hc1, z12, z22]) rfl ⟨rfl, ?_⟩
      have a1 : Below w.heap.size w w1 := (ext3 _ _ _ _).trans (b1.mono (by simp only [World.size_alloc]; omega))
      exact set3 (bnext (bnext a1 b2 (Nat.le_refl _)) b3 (Nat.le_refl _)) (by omega) _ _ _
    · rw [cmp3_null cb (.inr z2)]
      simp only [ansV, Bool.not_true, Bool.and_false, Bool.false_eq_true, if_false]
      have HC := hid hc; clear hc hv cb
      go_enter Tryd.func54, Tryd.ntmps54
      go_wp2_with fail
      refine (HC.out _).mono ?_
      rintro e w1 ⟨rfl, b1⟩
      obtain ⟨hc1, hf1⟩ := below_cells b1
      have z12 := below_size b1 (n := w.heap.size + 1 + 1) (by simp only [World.size_alloc]; omega)
      have z11 : w.heap.size + 1 < w1.heap.size := by omega
      have z10 : w.heap.size < w1.heap.size := by omega
      go_wp2_with fail
      refine bodyPost_ret (v := .tuple #[.agg #[.int .i64 0, .int .i64 0, .string ⟨#[]⟩], .bool true]) (by simp [results, Tryd.results54, go_sem, hc1, z12]) rfl ⟨rfl, ?_⟩
      exact set3 ((ext3 _ _ _ _).trans (b1.mono (by simp only [World.size_alloc]; omega))) (by omega) _ _ _
  · rw [cmp3_null cb (.inl z1)]
    simp only [ansV, Bool.not_true, Bool.and_false, Bool.false_eq_true, if_false]
    have HC := hid hc; clear hc hv cb
    go_enter Tryd.func54, Tryd.ntmps54
    go_wp2_with fail
    refine (HC.out _).mono ?_
    rintro e w1 ⟨rfl, b1⟩
    obtain ⟨hc1, hf1⟩ := below_cells b1
    have z12 := below_size b1 (n := w.heap.size + 1 + 1) (by simp only [World.size_alloc]; omega)
    have z11 : w.heap.size + 1 < w1.heap.size := by omega
    have z10 : w.heap.size < w1.heap.size := by omega
    go_wp2_with fail
    refine bodyPost_ret (v := .tuple #[.agg #[.int .i64 0, .int .i64 0, .string ⟨#[]⟩], .bool true]) (by simp [results, Tryd.results54, go_sem, hc1, z12]) rfl ⟨rfl, ?_⟩
    exact set3 ((ext3 _ _ _ _).trans (b1.mono (by simp only [World.size_alloc]; omega))) (by omega) _ _ _

set_option maxHeartbeats 1000000 in
theorem rless_any (k1 i1 : Int) (s1 : ByteArray) (k2 i2 : Int) (s2 : ByteArray) (h1 : s1.size ≤ maxLen) (h2 : s2.size ≤ maxLen) :
    Gives 55 #[.agg #[.int .i64 k1, .int .i64 i1, .string s1], .agg #[.int .i64 k2, .int .i64 i2, .string s2]] (.tuple #[ansV (fun c => decide (c < 0)) (cmp3 k1 i1 s1 k2 i2 s2), .bool (cmp3 k1 i1 s1 k2 i2 s2).2.2]) := by
  intro w
  have hc := comparable_any k1 i1 s1 k2 i2 s2 h1 h2
  have hv := rcompare_any k1 i1 s1 k2 i2 s2
  have HT := hid (fun b w => rtruth_any b w)
  cases cb : comparableB k1 i1 s1 k2 i2 s2
  · rw [cb] at hc
    have n1 := cmp3_no cb
    rw [ansV_no n1, n1]
    have HC := hid hc; clear hc hv n1 cb
    go_enter Tryd.func55, Tryd.ntmps55
    go_wp2_with fail
    refine (HC.out _).mono ?_
    rintro e w1 ⟨rfl, b1⟩
    obtain ⟨hc1, hf1⟩ := below_cells b1
    have z12 := below_size b1 (n := w.heap.size + 1 + 1) (by simp only [World.size_alloc]; omega)
    go_wp2_with fail
    refine bodyPost_ret (v := .tuple #[.agg #[.int .i64 0, .int .i64 0, .string ⟨#[]⟩], .bool false]) (by simp [results, Tryd.results55, go_sem, hc1, z12]) rfl ⟨rfl, ?_⟩
    exact set3 ((ext3 _ _ _ _).trans (b1.mono (by simp only [World.size_alloc]; omega))) (by omega) _ _ _
  rw [cb] at hc
  cases z1 : (k1 == 0)
  · cases z2 : (k2 == 0)
    · rw [cmp3_yes cb z1 z2]
      simp only [ansV, Bool.not_false, Bool.and_true, if_true]
      obtain ⟨c, hcc⟩ : ∃ c, c = cmpV k1 i1 s1 k2 i2 s2 := ⟨_, rfl⟩
      rw [← hcc] at hv ⊢
      have HC := hid hc; have HV := hid hv; clear hc hv cb hcc
      go_enter Tryd.func55, Tryd.ntmps55
      go_wp2_with fail
      refine (HC.out _).mono ?_
      rintro e w1 ⟨rfl, b1⟩
      obtain ⟨hc1, hf1⟩ := below_cells b1
      have z12 := below_size b1 (n := w.heap.size + 1 + 1) (by simp only [World.size_alloc]; omega)
      have z11 : w.heap.size + 1 < w1.heap.size := by omega
      have z10 : w.heap.size < w1.heap.size := by omega
      go_wp2_with fail
      refine (HV.out _).mono ?_
      rintro e w2 ⟨rfl, b2⟩
      go_wp2_with fail
      refine (HT.out _ _).mono ?_
      rintro e w3 ⟨rfl, b3⟩
      obtain ⟨hc2, hf2⟩ := below_cells b2
      obtain ⟨hc3, hf3⟩ := below_cells b3
      have z22 := below_size b2 z12
      have z32 := below_size b3 z22
      go_wp2_with fail
      refine bodyPost_ret (v := .tuple #[.agg #[.int .i64 2, .int .i64 _, .string ⟨#[]⟩], .bool true]) (by simp [results, Tryd.results55, go_sem, hc3, hc2, hc1, z12, z22]) rfl ⟨rfl, ?_⟩
      have a1 : Below w.heap.size w w1 := (ext3 _ _ _ _).trans (b1.mono (by simp only [World.size_alloc]; omega))
      exact set3 (bnext (bnext a1 b2 (Nat.le_refl _)) b3 (Nat.le_refl _)) (by omega) _ _ _
    · rw [cmp3_null cb (.inr z2)]
      simp only [ansV, Bool.not_true, Bool.and_false, Bool.false_eq_true, if_false]
      have HC := hid hc; clear hc hv cb
      go_enter Tryd.func55, Tryd.ntmps55
      go_wp2_with fail
      refine (HC.out _).mono ?_
      rintro e w1 ⟨rfl, b1⟩
      obtain ⟨hc1, hf1⟩ := below_cells b1
      have z12 := below_size b1 (n := w.heap.size + 1 + 1) (by simp only [World.size_alloc]; omega)
      have z11 : w.heap.size + 1 < w1.heap.size := by omega
      have z10 : w.heap.size < w1.heap.size := by omega
      go_wp2_with fail
      refine bodyPost_ret (v := .tuple #[.agg #[.int .i64 0, .int .i64 0, .string ⟨#[]⟩], .bool true]) (by simp [results, Tryd.results55, go_sem, hc1, z12]) rfl ⟨rfl, ?_⟩
      exact set3 ((ext3 _ _ _ _).trans (b1.mono (by simp only [World.size_alloc]; omega))) (by omega) _ _ _
  · rw [cmp3_null cb (.inl z1)]
    simp only [ansV, Bool.not_true, Bool.and_false, Bool.false_eq_true, if_false]
    have HC := hid hc; clear hc hv cb
    go_enter Tryd.func55, Tryd.ntmps55
    go_wp2_with fail
    refine (HC.out _).mono ?_
    rintro e w1 ⟨rfl, b1⟩
    obtain ⟨hc1, hf1⟩ := below_cells b1
    have z12 := below_size b1 (n := w.heap.size + 1 + 1) (by simp only [World.size_alloc]; omega)
    have z11 : w.heap.size + 1 < w1.heap.size := by omega
    have z10 : w.heap.size < w1.heap.size := by omega
    go_wp2_with fail
    refine bodyPost_ret (v := .tuple #[.agg #[.int .i64 0, .int .i64 0, .string ⟨#[]⟩], .bool true]) (by simp [results, Tryd.results55, go_sem, hc1, z12]) rfl ⟨rfl, ?_⟩
    exact set3 ((ext3 _ _ _ _).trans (b1.mono (by simp only [World.size_alloc]; omega))) (by omega) _ _ _
end Go.Proofs.YtdgdllicmccnfaaDoor

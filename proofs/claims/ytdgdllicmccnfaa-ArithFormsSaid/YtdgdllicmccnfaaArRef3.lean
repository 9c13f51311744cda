/- The contracts of the reference's quotient and remainder. -/
import Derived.Test.YtdgdllicmccnfaaArRef2
namespace Go.Proofs.Ytdgdllicmccnfaa
open Go.RowKit
set_option linter.unusedVariables false

theorem small_words {p : Int} (h : 0 ≤ p ∧ p < 18446744073709551616) : hi p = 0 ∧ lo p = p := by unfold hi lo; omega
theorem narrow0 (p : Int) (w : World) (h : 0 ≤ p ∧ p < 18446744073709551616) :
    Calls Try.prog 30 #[.agg #[.int .i64 0, .int .u64 p]] w fun e w' => e = .returned (.tuple #[.int .i64 (nv p), .bool (fit p)]) ∧ Below w.heap.size w w' := by
  have := narrow_any p w (w128_small (by omega))
  rwa [(small_words h).1, (small_words h).2] at this
theorem minus0 (p : Int) (w : World) (h : 0 ≤ p ∧ p < 18446744073709551616) :
    Calls Try.prog 43 #[.agg #[.int .i64 0, .int .u64 p]] w fun e w' => e = .returned (.agg #[.int .i64 (hi (-p)), .int .u64 (lo (-p))]) ∧ Below w.heap.size w w' := by
  have := minus_any p w (w128_small (by omega)) (w128_small (by omega))
  rwa [(small_words h).1, (small_words h).2] at this

theorem tdiv_same {a b : Int} (h : a < 0 ↔ b < 0) : (a.natAbs : Int) / (b.natAbs : Int) = a.tdiv b := by
  by_cases h1 : a < 0
  · have h2 := h.1 h1
    rw [← Int.neg_tdiv_neg, Int.tdiv_eq_ediv_of_nonneg (by omega)]
    congr 1 <;> omega
  · have h2 : ¬ b < 0 := fun k => h1 (h.2 k)
    rw [Int.tdiv_eq_ediv_of_nonneg (by omega)]
    congr 1 <;> omega
theorem tdiv_other {a b : Int} (h : a < 0 ↔ ¬ b < 0) : -((a.natAbs : Int) / (b.natAbs : Int)) = a.tdiv b := by
  by_cases h1 : a < 0
  · have h2 := h.1 h1
    have e : a.tdiv b = -((-a).tdiv b) := by rw [Int.neg_tdiv]; omega
    rw [e, Int.tdiv_eq_ediv_of_nonneg (by omega)]
    congr 2 <;> omega
  · have h2 : b < 0 := Classical.byContradiction fun k => h1 (h.2 k)
    have e : a.tdiv b = -(a.tdiv (-b)) := by rw [Int.tdiv_neg]; omega
    rw [e, Int.tdiv_eq_ediv_of_nonneg (by omega)]
    congr 2 <;> omega
theorem quo_bd {a b : Int} (ha : I64 a) : 0 ≤ (a.natAbs : Int) / (b.natAbs : Int) ∧ (a.natAbs : Int) / (b.natAbs : Int) < 18446744073709551616 := by
  have h0 : 0 ≤ (a.natAbs : Int) / (b.natAbs : Int) := Int.ediv_nonneg (by omega) (by omega)
  have h1 : a.natAbs / b.natAbs ≤ a.natAbs := Nat.div_le_self _ _
  have h3 : ((a.natAbs / b.natAbs : Nat) : Int) = (a.natAbs : Int) / (b.natAbs : Int) := Int.natCast_ediv _ _
  rw [← h3]; unfold I64 at ha; omega
theorem tmod_pos {a b : Int} (h : ¬ a < 0) : (a.natAbs : Int) % (b.natAbs : Int) = a.tmod b := by
  have h1 := Int.tmod_nonneg b (show 0 ≤ a by omega)
  have h2 := Int.natAbs_tmod a b
  have h3 : ((a.natAbs % b.natAbs : Nat) : Int) = (a.natAbs : Int) % (b.natAbs : Int) := Int.natCast_emod _ _
  omega
theorem tmod_neg' {a b : Int} (h : a < 0) : -((a.natAbs : Int) % (b.natAbs : Int)) = a.tmod b := by
  have h1 := Int.tmod_nonneg b (show 0 ≤ -a by omega)
  rw [Int.neg_tmod] at h1
  have h2 := Int.natAbs_tmod a b
  have h3 : ((a.natAbs % b.natAbs : Nat) : Int) = (a.natAbs : Int) % (b.natAbs : Int) := Int.natCast_emod _ _
  omega
theorem rem_bd {a b : Int} (ha : I64 a) : 0 ≤ (a.natAbs : Int) % (b.natAbs : Int) ∧ (a.natAbs : Int) % (b.natAbs : Int) < 18446744073709551616 := by
  have h1 : a.natAbs % b.natAbs ≤ a.natAbs := Nat.mod_le _ _
  have h3 : ((a.natAbs % b.natAbs : Nat) : Int) = (a.natAbs : Int) % (b.natAbs : Int) := Int.natCast_emod _ _
  rw [← h3]; unfold I64 at ha; omega

set_option maxHeartbeats 400000 in
theorem rdiv_same (a b p : Int) (hp : (a.natAbs : Int) / (b.natAbs : Int) = p) (hb0 : 0 ≤ p ∧ p < 18446744073709551616) (hs : (decide (a < 0) == decide (b < 0)) = true) (h0 : ¬ b = 0) (k0 : (b == 0) = false) (w : World) (ha : I64 a) (hb : I64 b) :
    Calls Try.prog 39 #[.int .i64 a, .int .i64 b] w fun e w' => e = .returned (.tuple #[.int .i64 (nv p), .bool (fit p)]) ∧ Below w.heap.size w w' := by
  have h1 : 1 ≤ (b.natAbs : Int) := by omega
  have h2 : (b.natAbs : Int) < 18446744073709551616 := by unfold I64 at hb; omega
  have h3 : (a.natAbs : Int) < 18446744073709551616 := by unfold I64 at ha; omega
  go_enter Try.func39, Try.ntmps39
  go_wp2_with fail
  refine (size_any a _ ha).mono ?_
  rintro e w1 ⟨rfl, rfl⟩
  go_wp2_with fail
  refine (size_any b _ hb).mono ?_
  rintro e w1 ⟨rfl, rfl⟩
  go_wp2_with fail
  refine (narrow0 p _ hb0).mono ?_
  rintro e w1 ⟨rfl, b1⟩
  go_wp2
  go_ret2
  exact ⟨rfl, ((Below.refl _ _).alloc (Nat.le_refl _) _).trans (b1.mono (by simp))⟩

set_option maxHeartbeats 400000 in
theorem rdiv_other (a b p : Int) (hp : (a.natAbs : Int) / (b.natAbs : Int) = p) (hb0 : 0 ≤ p ∧ p < 18446744073709551616) (hs : (decide (a < 0) == decide (b < 0)) = false) (h0 : ¬ b = 0) (k0 : (b == 0) = false) (w : World) (ha : I64 a) (hb : I64 b) :
    Calls Try.prog 39 #[.int .i64 a, .int .i64 b] w fun e w' => e = .returned (.tuple #[.int .i64 (nv (-p)), .bool (fit (-p))]) ∧ Below w.heap.size w w' := by
  have h1 : 1 ≤ (b.natAbs : Int) := by omega
  have h2 : (b.natAbs : Int) < 18446744073709551616 := by unfold I64 at hb; omega
  have h3 : (a.natAbs : Int) < 18446744073709551616 := by unfold I64 at ha; omega
  go_enter Try.func39, Try.ntmps39
  go_wp2_with fail
  refine (size_any a _ ha).mono ?_
  rintro e w1 ⟨rfl, rfl⟩
  go_wp2_with fail
  refine (size_any b _ hb).mono ?_
  rintro e w1 ⟨rfl, rfl⟩
  go_wp2_with fail
  refine (minus0 p _ hb0).mono ?_
  rintro e w1 ⟨rfl, b1⟩
  obtain ⟨hc, hf, hz⟩ := box_wide _ _ b1
  go_wp2_with fail
  refine (narrow_any (-p) _ (w128_small (by omega))).mono ?_
  rintro e w2 ⟨rfl, b2⟩
  go_wp2
  go_ret2
  refine ⟨rfl, ?_⟩
  exact (((((Below.refl _ _).alloc (Nat.le_refl _) _).trans (b1.mono (by simp))).setCell (p := ⟨w.heap.size, 0, none⟩) (Nat.le_refl _) _).setCell (p := ⟨w.heap.size, 1, none⟩) (Nat.le_refl _) _).trans (b2.mono (by simp; omega))

theorem rdiv_any (a b : Int) (w : World) (ha : I64 a) (hb : I64 b) (h0 : b ≠ 0) :
    Calls Try.prog 39 #[.int .i64 a, .int .i64 b] w fun e w' => e = .returned (.tuple #[.int .i64 (nv (a.tdiv b)), .bool (fit (a.tdiv b))]) ∧ Below w.heap.size w w' := by
  by_cases h : (a < 0 ↔ b < 0)
  · rw [← tdiv_same h]
    exact rdiv_same a b _ rfl (quo_bd ha) (by simpa using h) h0 (by simpa using h0) w ha hb
  · have h' : a < 0 ↔ ¬ b < 0 := by
      by_cases h1 : a < 0 <;> by_cases h2 : b < 0 <;> simp_all
    rw [← tdiv_other h']
    exact rdiv_other a b _ rfl (quo_bd ha) (by simpa using h) h0 (by simpa using h0) w ha hb

theorem rdiv_zero (a : Int) (w : World) :
    Calls Try.prog 39 #[.int .i64 a, .int .i64 0] w fun e w' => e = .returned (.tuple #[.int .i64 0, .bool false]) ∧ w = w' := by
  go_enter Try.func39, Try.ntmps39
  go_wp2
  go_ret2
  exact ⟨rfl, rfl⟩
theorem rmod_zero (a : Int) (w : World) :
    Calls Try.prog 40 #[.int .i64 a, .int .i64 0] w fun e w' => e = .returned (.tuple #[.int .i64 0, .bool false]) ∧ w = w' := by
  go_enter Try.func40, Try.ntmps40
  go_wp2
  go_ret2
  exact ⟨rfl, rfl⟩

set_option maxHeartbeats 400000 in
theorem size_as (a A : Int) (hA : Hid (A = (a.natAbs : Int))) (w : World) (ha : I64 a) :
    Calls Try.prog 45 #[.int .i64 a] w fun e w' => e = .returned (.int .u64 A) ∧ w = w' := by
  rw [hA.out]; exact size_any a w ha

set_option maxHeartbeats 400000 in
theorem rmod_pos (a b A B p : Int) (hA : Hid (A = (a.natAbs : Int))) (hB : Hid (B = (b.natAbs : Int))) (hp : A % B = p) (hb0 : 0 ≤ p ∧ p < 18446744073709551616) (hs : ¬ a < 0) (h0 : ¬ b = 0) (k0 : (b == 0) = false) (w : World) (ha : I64 a) (hb : I64 b) :
    Calls Try.prog 40 #[.int .i64 a, .int .i64 b] w fun e w' => e = .returned (.tuple #[.int .i64 (nv p), .bool (fit p)]) ∧ Below w.heap.size w w' := by
  have h1 : 1 ≤ B := by rw [hB.out]; omega
  have h2 : B < 18446744073709551616 := by rw [hB.out]; unfold I64 at hb; omega
  have h3 : A < 18446744073709551616 := by rw [hA.out]; unfold I64 at ha; omega
  have h4 : 0 ≤ A := by rw [hA.out]; omega
  go_enter Try.func40, Try.ntmps40
  go_wp2_with fail
  refine (size_as a A hA _ ha).mono ?_
  rintro e w1 ⟨rfl, rfl⟩
  go_wp2_with fail
  refine (size_as b B hB _ hb).mono ?_
  rintro e w1 ⟨rfl, rfl⟩
  go_wp2_with fail
  refine (narrow0 p _ hb0).mono ?_
  rintro e w1 ⟨rfl, b1⟩
  go_wp2
  go_ret2
  exact ⟨rfl, ((Below.refl _ _).alloc (Nat.le_refl _) _).trans (b1.mono (by simp))⟩

set_option maxHeartbeats 400000 in
theorem rmod_neg (a b A B p : Int) (hA : Hid (A = (a.natAbs : Int))) (hB : Hid (B = (b.natAbs : Int))) (hp : A % B = p) (hb0 : 0 ≤ p ∧ p < 18446744073709551616) (hs : a < 0) (h0 : ¬ b = 0) (k0 : (b == 0) = false) (w : World) (ha : I64 a) (hb : I64 b) :
    Calls Try.prog 40 #[.int .i64 a, .int .i64 b] w fun e w' => e = .returned (.tuple #[.int .i64 (nv (-p)), .bool (fit (-p))]) ∧ Below w.heap.size w w' := by
  have h1 : 1 ≤ B := by rw [hB.out]; omega
  have h2 : B < 18446744073709551616 := by rw [hB.out]; unfold I64 at hb; omega
  have h3 : A < 18446744073709551616 := by rw [hA.out]; unfold I64 at ha; omega
  have h4 : 0 ≤ A := by rw [hA.out]; omega
  go_enter Try.func40, Try.ntmps40
  go_wp2_with fail
  refine (size_as a A hA _ ha).mono ?_
  rintro e w1 ⟨rfl, rfl⟩
  go_wp2_with fail
  refine (size_as b B hB _ hb).mono ?_
  rintro e w1 ⟨rfl, rfl⟩
  go_wp2_with fail
  refine (minus0 p _ hb0).mono ?_
  rintro e w1 ⟨rfl, b1⟩
  obtain ⟨hc, hf, hz⟩ := box_wide _ _ b1
  go_wp2_with fail
  refine (narrow_any (-p) _ (w128_small (by omega))).mono ?_
  rintro e w2 ⟨rfl, b2⟩
  go_wp2
  go_ret2
  refine ⟨rfl, ?_⟩
  exact (((((Below.refl _ _).alloc (Nat.le_refl _) _).trans (b1.mono (by simp))).setCell (p := ⟨w.heap.size, 0, none⟩) (Nat.le_refl _) _).setCell (p := ⟨w.heap.size, 1, none⟩) (Nat.le_refl _) _).trans (b2.mono (by simp; omega))

theorem rmod_any (a b : Int) (w : World) (ha : I64 a) (hb : I64 b) (h0 : b ≠ 0) :
    Calls Try.prog 40 #[.int .i64 a, .int .i64 b] w fun e w' => e = .returned (.tuple #[.int .i64 (a.tmod b), .bool true]) ∧ Below w.heap.size w w' := by
  have hm := mod_bd (a := a) hb h0
  rw [← nv_yes hm, ← fit_yes hm]
  by_cases h : a < 0
  · rw [← tmod_neg' h]
    exact rmod_neg a b _ _ _ (hid rfl) (hid rfl) rfl (rem_bd ha) h h0 (by simpa using h0) w ha hb
  · rw [← tmod_pos h]
    exact rmod_pos a b _ _ _ (hid rfl) (hid rfl) rfl (rem_bd ha) h h0 (by simpa using h0) w ha hb
end Go.Proofs.Ytdgdllicmccnfaa

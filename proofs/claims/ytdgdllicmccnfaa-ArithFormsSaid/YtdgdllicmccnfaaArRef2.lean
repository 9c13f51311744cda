/- The contracts of math/bits.Mul64 and of the reference's product, quotient and remainder. -/
import Derived.Test.YtdgdllicmccnfaaArRef
import Derived.Lib.Mul64
import Derived.Laws.Bits64b
namespace Go.Proofs.Ytdgdllicmccnfaa
open Go.RowKit Go.Lib
set_option linter.unusedVariables false

theorem maskN (a : Nat) (ha : a < 18446744073709551616) : bits .and .u64 (a : Int) 4294967295 = ((a % 4294967296 : Nat) : Int) := by
  have h := bits_and_u64_nat a 4294967295 ha (by omega)
  have e : a &&& 4294967295 = a % 4294967296 := Nat.and_two_pow_sub_one_eq_mod a 32
  rw [e] at h
  exact h
theorem divN (a : Nat) : (a : Int) / 4294967296 = ((a / 4294967296 : Nat) : Int) := by omega
theorem mulN (a b : Nat) : (a : Int) * (b : Int) = ((a * b : Nat) : Int) := (Int.natCast_mul a b).symm
theorem addN (a b : Nat) : (a : Int) + (b : Int) = ((a + b : Nat) : Int) := (Int.natCast_add a b).symm
theorem wrapN (a : Nat) (ha : a < 18446744073709551616) : IntKind.u64.wrap (a : Int) = (a : Int) := by rw [IntKind.wrap_u64]; omega
theorem wrapM (a : Nat) : IntKind.u64.wrap (a : Int) = ((a % 18446744073709551616 : Nat) : Int) := by rw [IntKind.wrap_u64]; omega

set_option maxHeartbeats 1000000 in
theorem mul64 (x y : Nat) (hx : x < 18446744073709551616) (hy : y < 18446744073709551616) (w : World) :
    Calls Try.prog 44 #[.int .u64 x, .int .u64 y] w fun e w' => e = .returned (.tuple #[.int .u64 ((x * y / 18446744073709551616 : Nat) : Int), .int .u64 ((x * y % 18446744073709551616 : Nat) : Int)]) ∧ w = w' := by
  obtain ⟨bd, bt, bw, hhi⟩ := Lib.mul64_hi x y hx hy
  have ba := Lib.half_mul_le (a := x / 4294967296) (b := y / 4294967296) (by omega) (by omega)
  have bb := Lib.half_mul_le (a := x / 4294967296) (b := y % 4294967296) (by omega) (by omega)
  have bc := Lib.half_mul_le (a := x % 4294967296) (b := y / 4294967296) (by omega) (by omega)
  have ba' : x / 4294967296 * (y / 4294967296) < 18446744073709551616 := by omega
  have bb' : x / 4294967296 * (y % 4294967296) < 18446744073709551616 := by omega
  have bc' : x % 4294967296 * (y / 4294967296) < 18446744073709551616 := by omega
  have bh1 : x / 4294967296 * (y / 4294967296) + (x / 4294967296 * (y % 4294967296) + x % 4294967296 * (y % 4294967296) / 4294967296) / 4294967296 < 18446744073709551616 := by omega
  have bh : x / 4294967296 * (y / 4294967296) + (x / 4294967296 * (y % 4294967296) + x % 4294967296 * (y % 4294967296) / 4294967296) / 4294967296 + ((x / 4294967296 * (y % 4294967296) + x % 4294967296 * (y % 4294967296) / 4294967296) % 4294967296 + x % 4294967296 * (y / 4294967296)) / 4294967296 < 18446744073709551616 := by omega
  go_enter Try.func44, Try.ntmps44
  go_wp2
  simp only [maskN x hx, maskN y hy, divN, mulN, addN, wrapN _ bd, wrapN _ bb', wrapN _ bt, maskN _ bt, wrapN _ bc', wrapN _ bw, wrapN _ ba', wrapN _ bh1, wrapN _ bh, wrapM (x * y)]
  rw [hhi]
  go_ret2
  exact ⟨rfl, rfl⟩

theorem mul64_wide (x y : Nat) (p : Int) (hp : Hid (p = ((x * y : Nat) : Int))) (hx : x < 18446744073709551616) (hy : y < 18446744073709551616) (w : World) :
    Calls Try.prog 44 #[.int .u64 x, .int .u64 y] w fun e w' => e = .returned (.tuple #[.int .u64 (hi p), .int .u64 (lo p)]) ∧ w = w' := by
  refine (mul64 x y hx hy w).mono ?_
  rintro e w' ⟨rfl, rfl⟩
  refine ⟨?_, rfl⟩
  rw [hp.out]
  unfold hi lo
  congr 5 <;> omega

theorem box_wide (w w1 : World) {c : Array Value} {t : TypeId} (hb : Below (w.alloc (.cells c t)).heap.size (w.alloc (.cells c t)) w1) :
    (∀ o, w1.cell? ⟨w.heap.size, o, none⟩ = (w.alloc (.cells c t)).cell? ⟨w.heap.size, o, none⟩) ∧ (∀ o, w1.frozen? ⟨w.heap.size, o, none⟩ = (w.alloc (.cells c t)).frozen? ⟨w.heap.size, o, none⟩) ∧ w.heap.size < w1.heap.size := by
  obtain ⟨h1, h2⟩ := below_cells hb
  have h3 := hb.size
  simp only [World.size_alloc] at h1 h2 h3
  exact ⟨fun o => h1 _ o (by omega), fun o => h2 _ o (by omega), by omega⟩

/-- What becomes of the product, the quotient or the remainder of the sizes: its sign is turned or not, then it is narrowed. -/
theorem natAbs_mul_same {a b : Int} (h : a < 0 ↔ b < 0) : ((a.natAbs * b.natAbs : Nat) : Int) = a * b := by
  rw [← Int.natAbs_mul]
  by_cases h1 : a < 0
  · exact Int.natAbs_of_nonneg (Int.mul_nonneg_of_nonpos_of_nonpos (by omega) (by have := h.1 h1; omega))
  · exact Int.natAbs_of_nonneg (Int.mul_nonneg (by omega) (by have := fun k => h1 (h.2 k); omega))
theorem natAbs_mul_other {a b : Int} (h : a < 0 ↔ ¬ b < 0) : -((a.natAbs * b.natAbs : Nat) : Int) = a * b := by
  rw [← Int.natAbs_mul]
  have : a * b ≤ 0 := by
    by_cases h1 : a < 0
    · exact Int.mul_nonpos_of_nonpos_of_nonneg (by omega) (by have := h.1 h1; omega)
    · exact Int.mul_nonpos_of_nonneg_of_nonpos (by omega) (by have := fun k => h1 (h.2 k); omega)
  omega
theorem natAbs_mul_bd {a b : Int} (ha : I64 a) (hb : I64 b) : ((a.natAbs * b.natAbs : Nat) : Int) ≤ 85070591730234615865843651857942052864 := by
  have h1 : a.natAbs ≤ 9223372036854775808 := by unfold I64 at ha; omega
  have h2 : b.natAbs ≤ 9223372036854775808 := by unfold I64 at hb; omega
  have := Nat.mul_le_mul h1 h2
  omega

set_option maxHeartbeats 400000 in
theorem rmul_same (a b p : Int) (hp : Hid (p = ((a.natAbs * b.natAbs : Nat) : Int))) (hq : Hid (p = a * b)) (hs : (decide (a < 0) == decide (b < 0)) = true) (w : World) (ha : I64 a) (hb : I64 b) :
    Calls Try.prog 38 #[.int .i64 a, .int .i64 b] w fun e w' => e = .returned (.tuple #[.int .i64 (nv p), .bool (fit p)]) ∧ Below w.heap.size w w' := by
  have hA : a.natAbs < 18446744073709551616 := by unfold I64 at ha; omega
  have hB : b.natAbs < 18446744073709551616 := by unfold I64 at hb; omega
  have hbd := natAbs_mul_bd ha hb
  have wp : W128 p := by
    rw [hp.out]; exact w128_small (by omega)
  have h0 : 0 ≤ hi p ∧ hi p ≤ 9223372036854775807 := by rw [hp.out]; unfold hi; omega
  clear hbd
  go_enter Try.func38, Try.ntmps38
  go_wp2_with fail
  refine (size_any a _ ha).mono ?_
  rintro e w1 ⟨rfl, rfl⟩
  go_wp2_with fail
  refine (size_any b _ hb).mono ?_
  rintro e w1 ⟨rfl, rfl⟩
  go_wp2_with fail
  refine (mul64_wide _ _ p hp hA hB _).mono ?_
  rintro e w1 ⟨rfl, rfl⟩
  go_wp2_with fail
  refine (narrow_any p _ wp).mono ?_
  rintro e w1 ⟨rfl, b1⟩
  go_wp2
  go_ret2
  exact ⟨rfl, ((Below.refl _ _).alloc (Nat.le_refl _) _).trans (b1.mono (by simp))⟩

set_option maxHeartbeats 400000 in
theorem rmul_other (a b p : Int) (hp : Hid (p = ((a.natAbs * b.natAbs : Nat) : Int))) (hs : (decide (a < 0) == decide (b < 0)) = false) (w : World) (ha : I64 a) (hb : I64 b) :
    Calls Try.prog 38 #[.int .i64 a, .int .i64 b] w fun e w' => e = .returned (.tuple #[.int .i64 (nv (-p)), .bool (fit (-p))]) ∧ Below w.heap.size w w' := by
  have hA : a.natAbs < 18446744073709551616 := by unfold I64 at ha; omega
  have hB : b.natAbs < 18446744073709551616 := by unfold I64 at hb; omega
  have hbd := natAbs_mul_bd ha hb
  have wp : W128 p := by
    rw [hp.out]; exact w128_small (by omega)
  have wn : W128 (-p) := by
    rw [hp.out]; exact w128_small (by omega)
  have h0 : 0 ≤ hi p ∧ hi p ≤ 9223372036854775807 := by rw [hp.out]; unfold hi; omega
  clear hbd
  go_enter Try.func38, Try.ntmps38
  go_wp2_with fail
  refine (size_any a _ ha).mono ?_
  rintro e w1 ⟨rfl, rfl⟩
  go_wp2_with fail
  refine (size_any b _ hb).mono ?_
  rintro e w1 ⟨rfl, rfl⟩
  go_wp2_with fail
  refine (mul64_wide _ _ p hp hA hB _).mono ?_
  rintro e w1 ⟨rfl, rfl⟩
  go_wp2_with fail
  refine (minus_any p _ wp wn).mono ?_
  rintro e w1 ⟨rfl, b1⟩
  obtain ⟨hc, hf, hz⟩ := box_wide _ _ b1
  go_wp2_with fail
  refine (narrow_any (-p) _ wn).mono ?_
  rintro e w2 ⟨rfl, b2⟩
  go_wp2
  go_ret2
  refine ⟨rfl, ?_⟩
  exact (((((Below.refl _ _).alloc (Nat.le_refl _) _).trans (b1.mono (by simp))).setCell (p := ⟨w.heap.size, 0, none⟩) (Nat.le_refl _) _).setCell (p := ⟨w.heap.size, 1, none⟩) (Nat.le_refl _) _).trans (b2.mono (by simp; omega))

theorem rmul_any (a b : Int) (w : World) (ha : I64 a) (hb : I64 b) :
    Calls Try.prog 38 #[.int .i64 a, .int .i64 b] w fun e w' => e = .returned (.tuple #[.int .i64 (nv (a * b)), .bool (fit (a * b))]) ∧ Below w.heap.size w w' := by
  by_cases h : (a < 0 ↔ b < 0)
  · rw [← natAbs_mul_same h]
    exact rmul_same a b _ (hid rfl) (hid (natAbs_mul_same h)) (by simpa using h) w ha hb
  · have h' : a < 0 ↔ ¬ b < 0 := by
      by_cases h1 : a < 0 <;> by_cases h2 : b < 0 <;> simp_all
    rw [← natAbs_mul_other h']
    exact rmul_other a b _ (hid rfl) (by simpa using h) w ha hb
end Go.Proofs.Ytdgdllicmccnfaa

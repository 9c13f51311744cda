/- The contracts of the reference's wide numbers: a number z of 128 bits lies as its two words hi z, lo z. -/
import Derived.Test.YtdgdllicmccnfaaArPlain
import Derived.Test.YtdgdllicmccnfaaArWalks
import Derived.Test.YtdgdllicmccnfaaProg
import Derived.WalkKit
import Derived.WalkSpells
import Derived.Laws.Externs
namespace Go.Proofs.Ytdgdllicmccnfaa
open Go.RowKit
set_option linter.unusedVariables false

def hi (z : Int) : Int := z / 18446744073709551616
def lo (z : Int) : Int := z % 18446744073709551616
theorem lo_bd (z : Int) : 0 ≤ lo z ∧ lo z < 18446744073709551616 := by unfold lo; omega
def W128 (z : Int) : Prop := I64 (hi z)

theorem add64 (x y c : Int) (hx : 0 ≤ x ∧ x < 18446744073709551616) (hy : 0 ≤ y ∧ y < 18446744073709551616) (hc : 0 ≤ c ∧ c ≤ 1) (w : World) :
    (callFunc 27 #[.int .u64 x, .int .u64 y, .int .u64 c]).run Try.prog w =
      .ok (.value (.tuple #[.int .u64 ((x + y + c) % 18446744073709551616), .int .u64 ((x + y + c) / 18446744073709551616)])) w := by
  obtain ⟨x, rfl⟩ := Int.eq_ofNat_of_zero_le hx.1
  obtain ⟨y, rfl⟩ := Int.eq_ofNat_of_zero_le hy.1
  obtain ⟨c, rfl⟩ := Int.eq_ofNat_of_zero_le hc.1
  rw [run_callFunc_extern Try.func27 (by kernel_rfl) (by kernel_rfl) (by kernel_rfl) (e := add64Entry) (by kernel_rfl), run_add64 x y c (by omega) (by omega) (by omega) (by omega)]
  simp only [Result.andThen]

theorem add64_0 (x y : Int) (hx : 0 ≤ x ∧ x < 18446744073709551616) (hy : 0 ≤ y ∧ y < 18446744073709551616) (w : World) :
    (callFunc 27 #[.int .u64 x, .int .u64 y, .int .u64 0]).run Try.prog w =
      .ok (.value (.tuple #[.int .u64 ((x + y) % 18446744073709551616), .int .u64 ((x + y) / 18446744073709551616)])) w := by
  simpa using add64 x y 0 hx hy (by omega) w

theorem xor_i64 (h : Int) (hh : I64 h) : bits .xor .i64 (-1) h = -1 - h := by
  show IntKind.i64.wrap ((BitVec.ofInt 64 (-1) ^^^ BitVec.ofInt 64 h).toNat : Int) = _
  have e : BitVec.ofInt 64 (-1) = BitVec.allOnes 64 := by decide
  unfold I64 at hh
  rw [e, BitVec.allOnes_xor, BitVec.toNat_not, BitVec.toNat_ofInt, IntKind.wrap_i64]
  omega
theorem xor_u64 (l : Int) (h0 : 0 ≤ l ∧ l < 18446744073709551616) : bits .xor .u64 IntKind.u64.max l = 18446744073709551615 - l := by
  show IntKind.u64.wrap ((BitVec.ofInt 64 IntKind.u64.max ^^^ BitVec.ofInt 64 l).toNat : Int) = _
  have e : BitVec.ofInt 64 IntKind.u64.max = BitVec.allOnes 64 := by decide
  rw [e, BitVec.allOnes_xor, BitVec.toNat_not, BitVec.toNat_ofInt, IntKind.wrap_u64]
  omega

set_option maxHeartbeats 400000 in
theorem of_any (a : Int) (w : World) (ha : I64 a) :
    Calls Try.prog 29 #[.int .i64 a] w fun e w' => e = .returned (.agg #[.int .i64 (hi a), .int .u64 (lo a)]) ∧ Below w.heap.size w w' := by
  have e1 : a / 9223372036854775808 = hi a := by unfold I64 at ha; unfold hi; omega
  have e2 : IntKind.u64.wrap a = lo a := by rw [IntKind.wrap_u64]; rfl
  obtain ⟨ha0, ha1⟩ := ha
  go_enter Try.func29, Try.ntmps29
  go_wp2
  refine bodyPost_ret (v := .agg #[.int .i64 (hi a), .int .u64 (lo a)]) (by simp [results, Try.results29, go_sem]) rfl ⟨rfl, (Below.refl _ _).alloc (Nat.le_refl _) _⟩

set_option maxHeartbeats 400000 in
theorem narrow_any (z : Int) (w : World) (hz : W128 z) :
    Calls Try.prog 30 #[.agg #[.int .i64 (hi z), .int .u64 (lo z)]] w fun e w' => e = .returned (.tuple #[.int .i64 (nv z), .bool (fit z)]) ∧ Below w.heap.size w w' := by
  have hl := lo_bd z
  by_cases f : fit z = true
  · have f' := fit_iff.1 f
    have e1 : (wrap64 (lo z) / 9223372036854775808 != hi z) = false := by
      rw [bne_eq_false_iff_eq]; unfold wrap64 lo hi; omega
    have e2 : Hid (wrap64 (lo z) = nv z) := by
      unfold Hid; rw [nv_of_fit f]; unfold wrap64 lo; omega
    clear f'
    have F := hid f; clear f
    go_enter Try.func30, Try.ntmps30
    go_wp2
    go_ret2
    exact ⟨ret_two e2.out F.out.symm, (Below.refl _ _).alloc (Nat.le_refl _) _⟩
  · have g : fit z = false := by simpa using f
    have e1 : (wrap64 (lo z) / 9223372036854775808 != hi z) = true := by
      rw [bne_iff_ne]; intro e; apply f; rw [fit_iff]; revert e; unfold wrap64 lo hi; omega
    have F := hid g; clear g f
    go_enter Try.func30, Try.ntmps30
    go_wp2
    go_ret2
    exact ⟨ret_two (nv_of_not F.out).symm F.out.symm, (Below.refl _ _).alloc (Nat.le_refl _) _⟩

theorem size_any (a : Int) (w : World) (ha : I64 a) :
    Calls Try.prog 45 #[.int .i64 a] w fun e w' => e = .returned (.int .u64 (a.natAbs : Int)) ∧ w = w' := by
  obtain ⟨ha0, ha1⟩ := ha
  by_cases h : a < 0
  · have e : Hid (IntKind.u64.wrap (-IntKind.u64.wrap a) = (a.natAbs : Int)) := by
      unfold Hid; rw [IntKind.wrap_u64, IntKind.wrap_u64]; omega
    go_enter Try.func45, Try.ntmps45
    go_wp2
    go_ret
    exact ⟨by rw [e.out]; rfl, rfl⟩
  · go_enter Try.func45, Try.ntmps45
    go_wp2
    go_ret
    exact ⟨by rw [show (a.natAbs : Int) = a from by omega]; rfl, rfl⟩

theorem plus_any (x y : Int) (w : World) (hx : W128 x) (hy : W128 y) (hs : W128 (x + y)) :
    Calls Try.prog 28 #[.agg #[.int .i64 (hi x), .int .u64 (lo x)], .agg #[.int .i64 (hi y), .int .u64 (lo y)]] w fun e w' => e = .returned (.agg #[.int .i64 (hi (x + y)), .int .u64 (lo (x + y))]) ∧ Below w.heap.size w w' := by
  have lx := lo_bd x
  have ly := lo_bd y
  have eh : Hid (wrap64 (wrap64 (hi x + hi y) + (lo x + lo y) / 18446744073709551616) = hi (x + y)) := by
    unfold Hid wrap64; unfold W128 I64 at hx hy hs; unfold hi lo at *; omega
  have el : Hid ((lo x + lo y) % 18446744073709551616 = lo (x + y)) := by
    unfold Hid lo; omega
  go_enter Try.func28, Try.ntmps28
  go_wp2_with (simp only [add64_0 _ _ lx ly])
  refine bodyPost_ret (v := .agg #[.int .i64 (wrap64 (wrap64 (hi x + hi y) + (lo x + lo y) / 18446744073709551616)), .int .u64 ((lo x + lo y) % 18446744073709551616)]) (by simp [results, Try.results28, go_sem]) rfl ⟨by rw [eh.out, el.out], ?_⟩
  exact (((Below.refl _ _).alloc (Nat.le_refl _) _).alloc (by simp) _).alloc (by simp; omega) _

theorem plus_one (x : Int) (w : World) (hx : W128 (-x - 1)) (hs : W128 (-x)) :
    Calls Try.prog 28 #[.agg #[.int .i64 (hi (-x - 1)), .int .u64 (lo (-x - 1))], .agg #[.int .i64 0, .int .u64 1]] w fun e w' => e = .returned (.agg #[.int .i64 (hi (-x)), .int .u64 (lo (-x))]) ∧ Below w.heap.size w w' := by
  have h := plus_any (-x - 1) 1 w hx (by unfold W128 I64 hi; omega) (by rw [show -x - 1 + 1 = -x from by omega]; exact hs)
  rw [show -x - 1 + 1 = -x from by omega, show hi 1 = 0 from by decide, show lo 1 = 1 from by decide] at h
  exact h

set_option maxHeartbeats 400000 in
theorem minus_any (x : Int) (w : World) (hx : W128 x) (hs : W128 (-x)) :
    Calls Try.prog 43 #[.agg #[.int .i64 (hi x), .int .u64 (lo x)]] w fun e w' => e = .returned (.agg #[.int .i64 (hi (-x)), .int .u64 (lo (-x))]) ∧ Below w.heap.size w w' := by
  have lx := lo_bd x
  have e1 : bits .xor .i64 (-1) (hi x) = hi (-x - 1) := by
    rw [xor_i64 _ hx]; unfold hi; omega
  have e2 : bits .xor .u64 IntKind.u64.max (lo x) = lo (-x - 1) := by
    rw [xor_u64 _ lx]; unfold lo; omega
  have h3 : W128 (-x - 1) := by unfold W128 I64 at *; unfold hi at *; omega
  have H3 := hid h3
  have Hs := hid hs
  clear h3 hs
  go_enter Try.func43, Try.ntmps43
  go_wp2_with fail
  refine (plus_one x _ H3.out Hs.out).mono ?_
  rintro e w1 ⟨rfl, hb⟩
  obtain ⟨hc, hf⟩ := below_cells hb
  have hz : w.heap.size + 1 < w1.heap.size := by have := hb.size; simp at this; omega
  go_wp2
  refine bodyPost_ret (v := .agg #[.int .i64 (hi (-x)), .int .u64 (lo (-x))]) (by simp [results, Try.results43, go_sem, hc]) rfl ⟨rfl, ?_⟩
  exact (((((Below.refl _ _).alloc (Nat.le_refl _) _).alloc (by simp) _).trans (hb.mono (by simp; omega))).setCell (by simp) _).setCell (by simp) _

theorem w128_small {z : Int} (h : -170141183460469231731687303715884105728 ≤ z ∧ z < 170141183460469231731687303715884105728) : W128 z := by
  unfold W128 I64 hi; omega

set_option maxHeartbeats 400000 in
theorem radd_any (a b : Int) (w : World) (ha : I64 a) (hb : I64 b) :
    Calls Try.prog 36 #[.int .i64 a, .int .i64 b] w fun e w' => e = .returned (.tuple #[.int .i64 (nv (a + b)), .bool (fit (a + b))]) ∧ Below w.heap.size w w' := by
  have wa : W128 a := w128_small (by unfold I64 at ha; omega)
  have wb : W128 b := w128_small (by unfold I64 at hb; omega)
  have ws : W128 (a + b) := w128_small (by unfold I64 at ha hb; omega)
  go_enter Try.func36, Try.ntmps36
  go_wp2_with fail
  refine (of_any a _ ha).mono ?_
  rintro e w1 ⟨rfl, b1⟩
  go_wp2_with fail
  refine (of_any b _ hb).mono ?_
  rintro e w2 ⟨rfl, b2⟩
  go_wp2_with fail
  refine (plus_any a b _ wa wb ws).mono ?_
  rintro e w3 ⟨rfl, b3⟩
  go_wp2_with fail
  refine (narrow_any (a + b) _ ws).mono ?_
  rintro e w4 ⟨rfl, b4⟩
  go_wp2
  go_ret2
  exact ⟨rfl, bnext (bnext (bnext b1 b2 (Nat.le_refl _)) b3 (Nat.le_refl _)) b4 (Nat.le_refl _)⟩

set_option maxHeartbeats 400000 in
theorem rsub_any (a b : Int) (w : World) (ha : I64 a) (hb : I64 b) :
    Calls Try.prog 37 #[.int .i64 a, .int .i64 b] w fun e w' => e = .returned (.tuple #[.int .i64 (nv (a - b)), .bool (fit (a - b))]) ∧ Below w.heap.size w w' := by
  have wa : W128 a := w128_small (by unfold I64 at ha; omega)
  have wb : W128 b := w128_small (by unfold I64 at hb; omega)
  have wn : W128 (-b) := w128_small (by unfold I64 at hb; omega)
  have ws : W128 (a + -b) := w128_small (by unfold I64 at ha hb; omega)
  go_enter Try.func37, Try.ntmps37
  go_wp2_with fail
  refine (of_any a _ ha).mono ?_
  rintro e w1 ⟨rfl, b1⟩
  go_wp2_with fail
  refine (of_any b _ hb).mono ?_
  rintro e w2 ⟨rfl, b2⟩
  go_wp2_with fail
  refine (minus_any b _ wb wn).mono ?_
  rintro e w3 ⟨rfl, b3⟩
  go_wp2_with fail
  refine (plus_any a (-b) _ wa wn ws).mono ?_
  rintro e w4 ⟨rfl, b4⟩
  go_wp2_with fail
  refine (narrow_any (a + -b) _ ws).mono ?_
  rintro e w5 ⟨rfl, b5⟩
  go_wp2
  go_ret2
  exact ⟨by rw [Int.sub_eq_add_neg]; rfl, bnext (bnext (bnext (bnext b1 b2 (Nat.le_refl _)) b3 (Nat.le_refl _)) b4 (Nat.le_refl _)) b5 (Nat.le_refl _)⟩

set_option maxHeartbeats 400000 in
theorem rneg_any (a : Int) (w : World) (ha : I64 a) :
    Calls Try.prog 41 #[.int .i64 a] w fun e w' => e = .returned (.tuple #[.int .i64 (nv (-a)), .bool (fit (-a))]) ∧ Below w.heap.size w w' := by
  have wa : W128 a := w128_small (by unfold I64 at ha; omega)
  have wn : W128 (-a) := w128_small (by unfold I64 at ha; omega)
  go_enter Try.func41, Try.ntmps41
  go_wp2_with fail
  refine (of_any a _ ha).mono ?_
  rintro e w1 ⟨rfl, b1⟩
  go_wp2_with fail
  refine (minus_any a _ wa wn).mono ?_
  rintro e w2 ⟨rfl, b2⟩
  go_wp2_with fail
  refine (narrow_any (-a) _ wn).mono ?_
  rintro e w3 ⟨rfl, b3⟩
  go_wp2
  go_ret2
  exact ⟨rfl, bnext (bnext b1 b2 (Nat.le_refl _)) b3 (Nat.le_refl _)⟩
end Go.Proofs.Ytdgdllicmccnfaa

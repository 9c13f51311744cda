/- The contracts of arith's functions of one and two numbers: each returns the number if it fits and whether it does; the world is left as it was. -/
import Derived.Test.YtdgdllicmccnfaaArPlain
import Derived.Test.YtdgdllicmccnfaaProg
import Derived.WalkKit
import Derived.WalkSpells
namespace Go.Proofs.Ytdgdllicmccnfaa
open Go.RowKit
set_option linter.unusedVariables false

theorem ret_two {a b : Int} {c d : Bool} (h : a = b) (k : c = d) : Ending.returned (.tuple #[.int .i64 a, .bool c]) = .returned (.tuple #[.int .i64 b, .bool d]) := by rw [h, k]

set_option maxHeartbeats 400000 in
theorem add_any (a b : Int) (w : World) (ha : I64 a) (hb : I64 b) :
    Calls Try.prog 14 #[.int .i64 a, .int .i64 b] w fun e w' => e = .returned (.tuple #[.int .i64 (nv (a + b)), .bool (fit (a + b))]) ∧ w = w' := by
  obtain ⟨ha0, ha1⟩ := ha
  obtain ⟨hb0, hb1⟩ := hb
  by_cases h1 : 0 < b
  · by_cases h2 : 9223372036854775807 - b < a
    · go_enter Try.func14, Try.ntmps14
      go_wp2
      go_ret2
      exact ⟨ret_two (nv_no (by omega)).symm (fit_no (by omega)).symm, rfl⟩
    · go_enter Try.func14, Try.ntmps14
      go_wp2
      go_ret2
      exact ⟨ret_two (nv_yes (by omega)).symm (fit_yes (by omega)).symm, rfl⟩
  · by_cases h2 : b < 0
    · by_cases h3 : a < -9223372036854775808 - b
      · go_enter Try.func14, Try.ntmps14
        go_wp2
        go_ret2
        exact ⟨ret_two (nv_no (by omega)).symm (fit_no (by omega)).symm, rfl⟩
      · go_enter Try.func14, Try.ntmps14
        go_wp2
        go_ret2
        exact ⟨ret_two (nv_yes (by omega)).symm (fit_yes (by omega)).symm, rfl⟩
    · go_enter Try.func14, Try.ntmps14
      go_wp2
      go_ret2
      exact ⟨ret_two (nv_yes (by omega)).symm (fit_yes (by omega)).symm, rfl⟩

set_option maxHeartbeats 400000 in
theorem sub_any (a b : Int) (w : World) (ha : I64 a) (hb : I64 b) :
    Calls Try.prog 15 #[.int .i64 a, .int .i64 b] w fun e w' => e = .returned (.tuple #[.int .i64 (nv (a - b)), .bool (fit (a - b))]) ∧ w = w' := by
  obtain ⟨ha0, ha1⟩ := ha
  obtain ⟨hb0, hb1⟩ := hb
  by_cases h1 : b < 0
  · by_cases h2 : 9223372036854775807 + b < a
    · go_enter Try.func15, Try.ntmps15
      go_wp2
      go_ret2
      exact ⟨ret_two (nv_no (by omega)).symm (fit_no (by omega)).symm, rfl⟩
    · go_enter Try.func15, Try.ntmps15
      go_wp2
      go_ret2
      exact ⟨ret_two (nv_yes (by omega)).symm (fit_yes (by omega)).symm, rfl⟩
  · by_cases h2 : 0 < b
    · by_cases h3 : a < -9223372036854775808 + b
      · go_enter Try.func15, Try.ntmps15
        go_wp2
        go_ret2
        exact ⟨ret_two (nv_no (by omega)).symm (fit_no (by omega)).symm, rfl⟩
      · go_enter Try.func15, Try.ntmps15
        go_wp2
        go_ret2
        exact ⟨ret_two (nv_yes (by omega)).symm (fit_yes (by omega)).symm, rfl⟩
    · go_enter Try.func15, Try.ntmps15
      go_wp2
      go_ret2
      exact ⟨ret_two (nv_yes (by omega)).symm (fit_yes (by omega)).symm, rfl⟩

set_option maxHeartbeats 400000 in
theorem neg_any (a : Int) (w : World) (ha : I64 a) :
    Calls Try.prog 19 #[.int .i64 a] w fun e w' => e = .returned (.tuple #[.int .i64 (nv (-a)), .bool (fit (-a))]) ∧ w = w' := by
  go_enter Try.func19, Try.ntmps19
  go_wp2_with (go_at_call 15; refine (sub_any 0 a _ (by unfold I64; omega) ha).mono ?_; rintro e w' ⟨rfl, rfl⟩)
  go_ret2
  exact ⟨rfl, rfl⟩

theorem mod_bd {a b : Int} (hb : I64 b) (h0 : b ≠ 0) : I64 (a.tmod b) := by
  obtain ⟨h1, h2⟩ := hb
  have : (a.tmod b).natAbs < b.natAbs := by
    rw [Int.natAbs_tmod]; exact Nat.mod_lt _ (by omega)
  unfold I64; omega
theorem div_bd {a b : Int} (ha : I64 a) : (a.tdiv b).natAbs ≤ a.natAbs := by
  rw [Int.natAbs_tdiv]; exact Nat.div_le_self _ _
theorem div_fit {a b : Int} (ha : I64 a) (hb : I64 b) (h : ¬ (a = -9223372036854775808 ∧ b = -1)) : I64 (a.tdiv b) := by
  have h0 := div_bd (b := b) ha
  obtain ⟨h1, h2⟩ := ha
  by_cases e : a = -9223372036854775808
  · have hb1 : b ≠ -1 := fun e' => h ⟨e, e'⟩
    by_cases hb0 : b = 0
    · subst hb0; simp [I64]
    · by_cases hp : 0 < b
      · have : a.tdiv b ≤ 0 := by
          have e1 : a = -(-a) := by omega
          have e2 := Int.tdiv_nonneg (a := -a) (b := b) (by omega) (by omega)
          rw [e1, Int.neg_tdiv]; omega
        unfold I64; omega
      · have hn : (a.tdiv b).natAbs = a.natAbs / b.natAbs := Int.natAbs_tdiv _ _
        have : a.natAbs / b.natAbs ≤ a.natAbs / 2 := Nat.div_le_div_left (by omega) (by omega)
        unfold I64; omega
  · unfold I64; omega


set_option maxHeartbeats 1000000 in
theorem div_any (a b : Int) (w : World) (ha : I64 a) (hb : I64 b) (h0 : b ≠ 0) :
    Calls Try.prog 16 #[.int .i64 a, .int .i64 b] w fun e w' => e = .returned (.tuple #[.int .i64 (nv (a.tdiv b)), .bool (fit (a.tdiv b))]) ∧ w = w' := by
  have hd := fun h => div_fit (a := a) (b := b) ha hb h
  obtain ⟨ha0, ha1⟩ := ha
  obtain ⟨hb0, hb1⟩ := hb
  have k0 : (b == 0) = false := by simpa using h0
  by_cases h1 : a = -9223372036854775808
  · subst h1
    by_cases h2 : b = -1
    · subst h2
      go_enter Try.func16, Try.ntmps16
      go_wp2
      go_ret2
      exact ⟨ret_two (nv_no (by decide)).symm (fit_no (by decide)).symm, rfl⟩
    · have k1 : (b == -1) = false := by simpa using h2
      have hD := hd (fun h => h2 h.2)
      have hw : Hid (wrap64 (-Int.tdiv 9223372036854775808 b) = (-9223372036854775808 : Int).tdiv b) := by
        unfold Hid; rw [← Int.neg_tdiv]; exact IntWalk.wrap64_in _ hD
      have H1 := hid hD; clear hD hd
      go_enter Try.func16, Try.ntmps16
      go_wp2
      go_ret2
      exact ⟨ret_two (by rw [nv_yes H1.out]; exact hw.out) (fit_yes H1.out).symm, rfl⟩
  · have k1 : (a == -9223372036854775808) = false := by simpa using h1
    have hD := hd (fun h => h1 h.1)
    have hw : IntKind.i64.wrap (a.tdiv b) = a.tdiv b := IntWalk.i64_in _ hD
    have H1 := hid hD; clear hD hd
    go_enter Try.func16, Try.ntmps16
    go_wp2
    go_ret2
    exact ⟨ret_two (by rw [nv_yes H1.out]) (fit_yes H1.out).symm, rfl⟩

theorem div_zero (a : Int) (w : World) :
    Calls Try.prog 16 #[.int .i64 a, .int .i64 0] w fun e w' => e = .returned (.tuple #[.int .i64 0, .bool false]) ∧ w = w' := by
  go_enter Try.func16, Try.ntmps16
  go_wp2
  go_ret2
  exact ⟨rfl, rfl⟩

theorem mod_zero (a : Int) (w : World) :
    Calls Try.prog 17 #[.int .i64 a, .int .i64 0] w fun e w' => e = .returned (.tuple #[.int .i64 0, .bool false]) ∧ w = w' := by
  go_enter Try.func17, Try.ntmps17
  go_wp2
  go_ret2
  exact ⟨rfl, rfl⟩

set_option maxHeartbeats 1000000 in
theorem mod_any (a b : Int) (w : World) (hb : I64 b) (h0 : b ≠ 0) :
    Calls Try.prog 17 #[.int .i64 a, .int .i64 b] w fun e w' => e = .returned (.tuple #[.int .i64 (a.tmod b), .bool true]) ∧ w = w' := by
  have k0 : (b == 0) = false := by simpa using h0
  have k00 : ((0 : Int) == b) = false := by simpa using Ne.symm h0
  have hD := mod_bd (a := a) hb h0
  have hw : IntKind.i64.wrap (a.tmod b) = a.tmod b := IntWalk.i64_in _ hD
  have H1 := hid hD; clear hD
  by_cases h2 : b = -1
  · subst h2
    go_enter Try.func17, Try.ntmps17
    go_wp2
    go_ret2
    exact ⟨ret_two (by simp [Int.tmod_neg, Int.tmod_one]) rfl, rfl⟩
  · have k1 : (b == -1) = false := by simpa using h2
    have k11 : ((-1 : Int) == b) = false := by simpa using Ne.symm h2
    go_enter Try.func17, Try.ntmps17
    go_wp2
    go_ret2
    exact ⟨rfl, rfl⟩

set_option maxHeartbeats 2000000 in
theorem mul_core (a b : Int) (w : World) (x1 x2 x3 x4 y : Bool) (h1 : (a == -9223372036854775808) = x1) (h2 : (b == -1) = x2) (h3 : (b == -9223372036854775808) = x3) (h4 : (a == -1) = x4)
    (ka0 : (a == 0) = false) (kb0 : (b == 0) = false) (b0 : ¬ b = 0) (c1 : (x1 && x2) = false) (c2 : (x3 && x4) = false) (ht : (wrap64 ((wrap64 (a * b)).tdiv b) != a) = y) :
    Calls Try.prog 18 #[.int .i64 a, .int .i64 b] w fun e w' => e = .returned (.tuple #[.int .i64 (if y then 0 else wrap64 (a * b)), .bool (!y)]) ∧ w = w' := by
  cases x1 <;> cases x2 <;> (try cases c1) <;> cases x3 <;> cases x4 <;> (try cases c2) <;> cases y
  all_goals
    go_enter Try.func18, Try.ntmps18
    go_wp2
    go_ret2
    exact ⟨rfl, rfl⟩

theorem mul_any (a b : Int) (w : World) (ha : I64 a) (hb : I64 b) :
    Calls Try.prog 18 #[.int .i64 a, .int .i64 b] w fun e w' => e = .returned (.tuple #[.int .i64 (nv (a * b)), .bool (fit (a * b))]) ∧ w = w' := by
  by_cases a0 : a = 0
  · subst a0
    go_enter Try.func18, Try.ntmps18
    go_wp2
    go_ret2
    exact ⟨ret_two (by rw [Int.zero_mul]; rfl) (by rw [Int.zero_mul]; rfl), rfl⟩
  have ka0 : (a == 0) = false := by simpa using a0
  by_cases b0 : b = 0
  · subst b0
    go_enter Try.func18, Try.ntmps18
    go_wp2
    go_ret2
    exact ⟨ret_two (by rw [Int.mul_zero]; rfl) (by rw [Int.mul_zero]; rfl), rfl⟩
  have kb0 : (b == 0) = false := by simpa using b0
  by_cases e1 : a = -9223372036854775808 ∧ b = -1
  · obtain ⟨rfl, rfl⟩ := e1
    go_enter Try.func18, Try.ntmps18
    go_wp2
    go_ret2
    exact ⟨rfl, rfl⟩
  by_cases e2 : b = -9223372036854775808 ∧ a = -1
  · obtain ⟨rfl, rfl⟩ := e2
    go_enter Try.func18, Try.ntmps18
    go_wp2
    go_ret2
    exact ⟨rfl, rfl⟩
  have hm := mul_test2 ha hb b0 e1
  refine (mul_core a b w _ _ _ _ _ rfl rfl rfl rfl ka0 kb0 b0 ?_ ?_ rfl).mono ?_
  · simpa using fun h => (not_and.1 e1) h
  · simpa using fun h => (not_and.1 e2) h
  · rintro e w' ⟨rfl, rfl⟩
    refine ⟨?_, rfl⟩
    by_cases f : fit (a * b) = true
    · rw [(bne_eq_false_iff_eq).2 (hm.2 f), nv_of_fit f, f, IntWalk.wrap64_in _ (fit_iff.1 f)]; rfl
    · have f' : fit (a * b) = false := by simpa using f
      rw [(bne_iff_ne).2 (fun h => f (hm.1 h)), nv_of_not f', f']; rfl
end Go.Proofs.Ytdgdllicmccnfaa

/- LogicCompares: the walk of the statement's own function. -/
import Derived.Test.YtdgdllicmccnfaaDoorLogCmp
import Derived.Test.YtdgdllicmccnfaaDoorTape2
import Derived.Test.YtdgdllicmccnfaaDoorLogKnown
import Derived.Test.YtdgdllicmccnfaaDoorCmpPlain
namespace Go.Proofs.YtdgdllicmccnfaaDoor
open Go.RowKit
set_option linter.unusedVariables false
set_option linter.unusedSimpArgs false

/-- What the comparisons of two valid values of one kind that is not null give: three numbers of which one is 1 and the others 0. -/
theorem three_of (K k1 i1 k2 i2 : Int) (s1 s2 : ByteArray) (hK : K = 1 ∨ K = 2 ∨ K = 3) (h1 : OfKind K k1 i1 s1) (h2 : OfKind K k2 i2 s2) (z1 : s1.size ≤ maxLen) (z2 : s2.size ≤ maxLen) :
    ∃ e l g : Int, (e = 1 ∧ l = 0 ∧ g = 0 ∨ e = 0 ∧ l = 1 ∧ g = 0 ∨ e = 0 ∧ l = 0 ∧ g = 1) ∧
      Gives 26 #[.agg #[.int .i64 k1, .int .i64 i1, .string s1], .agg #[.int .i64 k2, .int .i64 i2, .string s2]] (.tuple #[.agg #[.int .i64 2, .int .i64 e, .string ⟨#[]⟩], .bool true]) ∧
      Gives 27 #[.agg #[.int .i64 k1, .int .i64 i1, .string s1], .agg #[.int .i64 k2, .int .i64 i2, .string s2]] (.tuple #[.agg #[.int .i64 2, .int .i64 l, .string ⟨#[]⟩], .bool true]) ∧
      Gives 27 #[.agg #[.int .i64 k2, .int .i64 i2, .string s2], .agg #[.int .i64 k1, .int .i64 i1, .string s1]] (.tuple #[.agg #[.int .i64 2, .int .i64 g, .string ⟨#[]⟩], .bool true]) ∧
      Gives 26 #[.agg #[.int .i64 k1, .int .i64 i1, .string s1], .agg #[.int .i64 0, .int .i64 0, .string ⟨#[]⟩]] (.tuple #[.agg #[.int .i64 0, .int .i64 0, .string ⟨#[]⟩], .bool true]) ∧
      Gives 27 #[.agg #[.int .i64 0, .int .i64 0, .string ⟨#[]⟩], .agg #[.int .i64 k2, .int .i64 i2, .string s2]] (.tuple #[.agg #[.int .i64 0, .int .i64 0, .string ⟨#[]⟩], .bool true]) := by
  obtain ⟨v1, e1, _⟩ := h1
  obtain ⟨v2, e2, _⟩ := h2
  obtain rfl := e1 hK
  obtain rfl := e2 hK
  have hz : (k2 == 0) = false := by simp; omega
  have vz : validB 0 0 ⟨#[]⟩ = true := by kernel_rfl
  have m0 : (⟨#[]⟩ : ByteArray).size ≤ maxLen := by simp [maxLen]; decide
  obtain ⟨c, hc⟩ : ∃ c, c = cmpV k2 i1 s1 k2 i2 s2 := ⟨_, rfl⟩
  have r1 : cmp3 k2 i1 s1 k2 i2 s2 = (c, false, true) := by simp [cmp3, v1, v2, hz, hc]
  have r2 : cmp3 k2 i2 s2 k2 i1 s1 = (-c, false, true) := by simp [cmp3, v1, v2, hz, hc, cmpV_swap k2 i1 s1]
  have r3 : cmp3 k2 i1 s1 0 0 ⟨#[]⟩ = (0, true, true) := by simp [cmp3, v1, vz, hz]
  have r4 : cmp3 0 0 ⟨#[]⟩ k2 i2 s2 = (0, true, true) := by simp [cmp3, v2, vz, hz]
  have g1 := equal_any k2 i1 s1 k2 i2 s2 z1 z2
  have g2 := less_any k2 i1 s1 k2 i2 s2 z1 z2
  have g3 := less_any k2 i2 s2 k2 i1 s1 z2 z1
  have g4 := equal_any k2 i1 s1 0 0 ⟨#[]⟩ z1 m0
  have g5 := less_any 0 0 ⟨#[]⟩ k2 i2 s2 m0 z2
  rw [r1] at g1 g2
  rw [r2] at g3
  rw [r3] at g4
  rw [r4] at g5
  simp only [ansV, Bool.not_false, Bool.not_true, Bool.and_true, Bool.and_false, if_true, Bool.false_eq_true, if_false] at g1 g2 g3 g4 g5
  refine ⟨_, _, _, ?_, g1, g2, g3, g4, g5⟩
  have key : ((c == 0) = true ∧ decide (c < 0) = false ∧ decide (-c < 0) = false) ∨ ((c == 0) = false ∧ decide (c < 0) = true ∧ decide (-c < 0) = false) ∨ ((c == 0) = false ∧ decide (c < 0) = false ∧ decide (-c < 0) = true) := by
    simp only [beq_iff_eq, beq_eq_false_iff_ne, decide_eq_true_eq, decide_eq_false_iff_not]
    omega
  rcases key with ⟨a1, a2, a3⟩ | ⟨a1, a2, a3⟩ | ⟨a1, a2, a3⟩
  · left; rw [a1, a2, a3]; exact ⟨rfl, rfl, rfl⟩
  · right; left; rw [a1, a2, a3]; exact ⟨rfl, rfl, rfl⟩
  · right; right; rw [a1, a2, a3]; exact ⟨rfl, rfl, rfl⟩

set_option maxHeartbeats 4000000 in
theorem compares_walk (A : Option Addr) (n c : Nat) (zs : List Int) (kind : Int) (w : World) (hr : Rd w w.heap.size 1 A n (zs.map (Value.int .i64))) (hz : Ints zs) (hn : n ≤ c) (hc : c ≤ 9223372036854775807) (hk : I64 kind) (hw : Wds w) :
    Calls Tryd.prog 5 #[.slice A n c, .int .i64 kind] w fun e w' => e = .returned (.bool true) ∧ Below w.heap.size w w' := by
  have hr0 := Int.emod_nonneg kind (show (3 : Int) ≠ 0 by decide)
  have hr2 := Int.emod_lt_of_pos kind (show (0 : Int) < 3 by decide)
  have hm := fun w => wmod_any kind 3 w hk (by omega) (by omega)
  obtain ⟨r, hR⟩ : ∃ r, kind % 3 = r := ⟨_, rfl⟩
  rw [hR] at hr0 hr2 hm
  have HM := hid hm; clear hm hR
  have hwl := hw.lt
  go_enter Tryd.func5, Tryd.ntmps5
  go_wp2_with fail
  refine (new_any A n c zs w hr hz hn hc).mono ?_
  rintro e w1 ⟨T, rfl, hT, t1, b1⟩
  have wd1 := hw.below b1 hwl
  go_wp2_with fail
  refine (HM.out _).mono ?_
  rintro e w2 ⟨rfl, rfl⟩
  have hT1 : 1 < T := by omega
  go_wp2_with fail
  refine (typed_any T (1 + r) _ t1 wd1 hT1).mono ?_
  rintro e w3 ⟨k1, i1, s1, rfl, o1, z1, y1, t2, wd2, g2⟩
  go_wp2_with fail
  refine (typed_any T (1 + r) _ t2 wd2 hT1).mono ?_
  rintro e w4 ⟨k2, i2, s2, rfl, o2, z2, y2, t3, wd3, g3⟩
  have a4 : Below w.heap.size w w4 := by
    have g := only_trans g2 g3
    refine b1.trans ⟨g.os, g.tape, g.output, g.size, fun i hi => g.block i (Nat.lt_of_lt_of_le hi b1.size) ?_⟩
    intro e; injection e with e; omega
  obtain ⟨e, l, g, hcase, q1, q2, q3, q4, q5⟩ := three_of (1 + r) k1 i1 k2 i2 s1 s2 (by omega) o1 o2 (by unfold maxLen; omega) (by unfold maxLen; omega)
  have Q1 := hid q1; have Q2 := hid q2; have Q3 := hid q3; have Q4 := hid q4; have Q5 := hid q5
  have sz4 := a4.size
  clear q1 q2 q3 q4 q5 HM o1 o2 g2 g3 t1 t2 t3 wd1 wd2 wd3 b1
  have Ba4 : Blk ((w4.alloc (.cells #[.int .i64 k1, .int .i64 i1, .string s1] 39)).alloc (.cells #[.int .i64 k2, .int .i64 i2, .string s2] 39)) w4.heap.size 39 #[.int .i64 k1, .int .i64 i1, .string s1] := (Blk.new _ _ _).alloc _
  have Bb4 : Blk ((w4.alloc (.cells #[.int .i64 k1, .int .i64 i1, .string s1] 39)).alloc (.cells #[.int .i64 k2, .int .i64 i2, .string s2] 39)) (w4.heap.size + 1) 39 #[.int .i64 k2, .int .i64 i2, .string s2] := by
    have := Blk.new (w4.alloc (.cells #[.int .i64 k1, .int .i64 i1, .string s1] 39)) 39 #[.int .i64 k2, .int .i64 i2, .string s2]
    simpa using this
  rcases hcase with ⟨rfl, rfl, rfl⟩ | ⟨rfl, rfl, rfl⟩ | ⟨rfl, rfl, rfl⟩
  all_goals
    go_wp2_with fail
    refine (Q1.out _).mono ?_
    rintro e w5 ⟨rfl, b5⟩
    have Ba5 := Ba4.over b5
    have Bb5 := Bb4.over b5
    obtain ⟨a0, a1, a2, a3⟩ := Ba5.c3
    obtain ⟨b0, b1, b2, b3⟩ := Bb5.c3
    have a5 : Below w.heap.size w w5 := a4.trans (((ext2 _ _ _).trans (b5.mono (by simp; omega))).mono sz4)
    go_wp2_with fail
    refine (Q2.out _).mono ?_
    rintro e w6 ⟨rfl, b6⟩
    clear a0 a1 a2 a3 b0 b1 b2 b3
    have Ba6 := Ba5.over1 b6
    have Bb6 := Bb5.over1 b6
    have Be6 := Blk.new1 b6
    obtain ⟨a0, a1, a2, a3⟩ := Ba6.c3
    obtain ⟨b0, b1, b2, b3⟩ := Bb6.c3
    obtain ⟨e0, e1, e2, e3⟩ := Be6.c3
    have a6 : Below w.heap.size w w6 := a5.trans (((ext1 _ _).trans (b6.mono (by simp))).mono a5.size)
    go_wp2_with fail
    refine (Q3.out _).mono ?_
    rintro e w7 ⟨rfl, b7⟩
    clear a0 a1 a2 a3 b0 b1 b2 b3 e0 e1 e2 e3
    have Ba7 := Ba6.over1 b7
    have Bb7 := Bb6.over1 b7
    have Be7 := Be6.over1 b7
    have Bl7 := Blk.new1 b7
    obtain ⟨a0, a1, a2, a3⟩ := Ba7.c3
    obtain ⟨b0, b1, b2, b3⟩ := Bb7.c3
    obtain ⟨e0, e1, e2, e3⟩ := Be7.c3
    obtain ⟨l0, l1, l2, l3⟩ := Bl7.c3
    have a7 : Below w.heap.size w w7 := a6.trans (((ext1 _ _).trans (b7.mono (by simp))).mono a6.size)
    go_wp2_with fail
    refine (Q4.out _).mono ?_
    rintro e w8 ⟨rfl, b8⟩
    clear a0 a1 a2 a3 b0 b1 b2 b3 e0 e1 e2 e3 l0 l1 l2 l3
    have Ba8 := Ba7.over1 b8
    have Bb8 := Bb7.over1 b8
    have Be8 := Be7.over1 b8
    have Bl8 := Bl7.over1 b8
    have Bg8 := Blk.new1 b8
    obtain ⟨a0, a1, a2, a3⟩ := Ba8.c3
    obtain ⟨b0, b1, b2, b3⟩ := Bb8.c3
    obtain ⟨e0, e1, e2, e3⟩ := Be8.c3
    obtain ⟨l0, l1, l2, l3⟩ := Bl8.c3
    obtain ⟨g0, g1, g2, g3⟩ := Bg8.c3
    have a8 : Below w.heap.size w w8 := a7.trans (((ext1 _ _).trans (b8.mono (by simp))).mono a7.size)
    go_wp2_with fail
    refine (Q5.out _).mono ?_
    rintro e w9 ⟨rfl, b9⟩
    clear a0 a1 a2 a3 b0 b1 b2 b3 e0 e1 e2 e3 l0 l1 l2 l3 g0 g1 g2 g3
    have Ba9 := Ba8.over1 b9
    have Bb9 := Bb8.over1 b9
    have Be9 := Be8.over1 b9
    have Bl9 := Bl8.over1 b9
    have Bg9 := Bg8.over1 b9
    have Bn9 := Blk.new1 b9
    obtain ⟨a0, a1, a2, a3⟩ := Ba9.c3
    obtain ⟨b0, b1, b2, b3⟩ := Bb9.c3
    obtain ⟨e0, e1, e2, e3⟩ := Be9.c3
    obtain ⟨l0, l1, l2, l3⟩ := Bl9.c3
    obtain ⟨g0, g1, g2, g3⟩ := Bg9.c3
    obtain ⟨n0, n1, n2, n3⟩ := Bn9.c3
    have a9 : Below w.heap.size w w9 := a8.trans (((ext1 _ _).trans (b9.mono (by simp))).mono a8.size)
    go_wp2_with fail
    refine (known2 _).mono ?_
    rintro e w10 ⟨rfl, b10⟩
    go_wp2
    go_ret
    exact ⟨rfl, a9.trans (((ext1 _ _).trans (b10.mono (by simp))).mono a9.size)⟩
end Go.Proofs.YtdgdllicmccnfaaDoor

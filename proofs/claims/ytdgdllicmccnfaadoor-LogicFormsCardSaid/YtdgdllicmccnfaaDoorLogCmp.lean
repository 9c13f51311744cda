/- The contracts of logic.compare, Equal and Less, at all values. -/
import Derived.Test.YtdgdllicmccnfaaDoorCmp
import Derived.Test.YtdgdllicmccnfaaDoorLogic2
namespace Go.Proofs.YtdgdllicmccnfaaDoor
open Go.RowKit
set_option linter.unusedVariables false
set_option linter.unusedSimpArgs false

def cmp3 (k1 i1 : Int) (s1 : ByteArray) (k2 i2 : Int) (s2 : ByteArray) : Int × Bool × Bool :=
  if validB k1 i1 s1 && validB k2 i2 s2 then (if k1 == 0 || k2 == 0 then (0, true, true) else if k1 == k2 then (cmpV k1 i1 s1 k2 i2 s2, false, true) else (0, false, false)) else (0, false, false)

set_option maxHeartbeats 1000000 in
theorem lcompare_any (k1 i1 : Int) (s1 : ByteArray) (k2 i2 : Int) (s2 : ByteArray) (h1 : s1.size ≤ maxLen) (h2 : s2.size ≤ maxLen) (w : World) :
    Calls Tryd.prog 45 #[.agg #[.int .i64 k1, .int .i64 i1, .string s1], .agg #[.int .i64 k2, .int .i64 i2, .string s2]] w fun e w' =>
      e = .returned (.tuple #[.int .i64 (cmp3 k1 i1 s1 k2 i2 s2).1, .bool (cmp3 k1 i1 s1 k2 i2 s2).2.1, .bool (cmp3 k1 i1 s1 k2 i2 s2).2.2]) ∧ Below w.heap.size w w' := by
  have v1 := fun w => valid_any k1 i1 s1 w h1
  have v2 := fun w => valid_any k2 i2 s2 w h2
  cases e1 : validB k1 i1 s1
  · rw [e1] at v1
    have V1 := hid v1; clear v1 v2
    go_enter Tryd.func45, Tryd.ntmps45
    go_wp2_with fail
    refine (V1.out _).mono ?_
    rintro e w1 ⟨rfl, rfl⟩
    go_wp2_with fail
    go_ret3
    exact ⟨by simp [cmp3, e1], ext3 _ _ _ _⟩
  rw [e1] at v1
  have V1 := hid v1; clear v1
  cases e2 : validB k2 i2 s2
  · rw [e2] at v2
    have V2 := hid v2; clear v2
    go_enter Tryd.func45, Tryd.ntmps45
    go_wp2_with fail
    refine (V1.out _).mono ?_
    rintro e w1 ⟨rfl, rfl⟩
    go_wp2_with fail
    refine (V2.out _).mono ?_
    rintro e w1 ⟨rfl, rfl⟩
    go_wp2_with fail
    go_ret3
    exact ⟨by simp [cmp3, e1, e2], ext4 _ _ _ _ _⟩
  rw [e2] at v2
  have V2 := hid v2; clear v2
  have HC := hid (fun w => vcompare_any k1 i1 s1 k2 i2 s2 w)
  obtain ⟨c, hc⟩ : ∃ c, c = cmpV k1 i1 s1 k2 i2 s2 := ⟨_, rfl⟩
  cases z1 : (k1 == 0) <;> cases z2 : (k2 == 0)
  · cases ek : (k1 == k2)
    · have ek' : (k1 != k2) = true := by simp only [bne, ek, Bool.not_false]
      go_enter Tryd.func45, Tryd.ntmps45
      go_wp2_with fail
      refine (V1.out _).mono ?_
      rintro e w1 ⟨rfl, rfl⟩
      go_wp2_with fail
      refine (V2.out _).mono ?_
      rintro e w1 ⟨rfl, rfl⟩
      go_wp2_with fail
      go_ret3
      exact ⟨by simp [cmp3, e1, e2, z1, z2, ek], ext4 _ _ _ _ _⟩
    · have ek' : (k1 != k2) = false := by simp only [bne, ek, Bool.not_true]
      go_enter Tryd.func45, Tryd.ntmps45
      go_wp2_with fail
      refine (V1.out _).mono ?_
      rintro e w1 ⟨rfl, rfl⟩
      go_wp2_with fail
      refine (V2.out _).mono ?_
      rintro e w1 ⟨rfl, rfl⟩
      go_wp2_with fail
      refine (HC.out _).mono ?_
      rintro e w1 ⟨rfl, b1⟩
      go_wp2_with fail
      go_ret3
      exact ⟨by simp [cmp3, e1, e2, z1, z2, ek], bnext (ext4 _ _ _ _ _) b1 (Nat.le_refl _)⟩
  all_goals
    go_enter Tryd.func45, Tryd.ntmps45
    go_wp2_with fail
    refine (V1.out _).mono ?_
    rintro e w1 ⟨rfl, rfl⟩
    go_wp2_with fail
    refine (V2.out _).mono ?_
    rintro e w1 ⟨rfl, rfl⟩
    go_wp2_with fail
    go_ret3
    exact ⟨by simp [cmp3, e1, e2, z1, z2], ext4 _ _ _ _ _⟩

/-- The answer of Equal and Less: null where one is null, else the truth of the test. -/
def ansV (t : Int → Bool) (r : Int × Bool × Bool) : Value :=
  if r.2.2 && !r.2.1 then .agg #[.int .i64 2, .int .i64 (bif t r.1 then 1 else 0), .string ⟨#[]⟩] else .agg #[.int .i64 0, .int .i64 0, .string ⟨#[]⟩]

set_option maxHeartbeats 1000000 in
theorem equal_any (k1 i1 : Int) (s1 : ByteArray) (k2 i2 : Int) (s2 : ByteArray) (h1 : s1.size ≤ maxLen) (h2 : s2.size ≤ maxLen) :
    Gives 26 #[.agg #[.int .i64 k1, .int .i64 i1, .string s1], .agg #[.int .i64 k2, .int .i64 i2, .string s2]] (.tuple #[ansV (fun c => c == 0) (cmp3 k1 i1 s1 k2 i2 s2), .bool (cmp3 k1 i1 s1 k2 i2 s2).2.2]) := by
  intro w
  have hc := lcompare_any k1 i1 s1 k2 i2 s2 h1 h2
  obtain ⟨⟨c, n, ok⟩, hr⟩ : ∃ r, r = cmp3 k1 i1 s1 k2 i2 s2 := ⟨_, rfl⟩
  rw [← hr] at hc ⊢
  simp only at hc
  have HC := hid hc; clear hc hr
  have HT := hid (fun b w => truth_any b w)
  cases ok <;> cases n
  case' true.false =>
    simp only [ansV, Bool.not_false, Bool.and_true, if_true]
    go_enter Tryd.func26, Tryd.ntmps26
    go_wp2_with fail
    refine (HC.out _).mono ?_
    rintro e w1 ⟨rfl, b1⟩
    obtain ⟨hc1, hf1⟩ := below_cells b1
    have z12 := below_size b1 (n := w.heap.size + 1 + 1) (by simp only [World.size_alloc]; omega)
    go_wp2_with fail
    refine (HT.out _ _).mono ?_
    rintro e w2 ⟨rfl, b2⟩
    obtain ⟨hc2, hf2⟩ := below_cells b2
    have z22 := below_size b2 (n := w.heap.size + 1 + 1) (by omega)
    go_wp2_with fail
    refine bodyPost_ret (v := .tuple #[.agg #[.int .i64 2, .int .i64 _, .string ⟨#[]⟩], .bool true]) (by simp [results, Tryd.results26, go_sem, hc2, hc1, z12, z22]) rfl ⟨rfl, ?_⟩
    have a1 : Below w.heap.size w w1 := (ext3 _ _ _ _).trans (b1.mono (by simp only [World.size_alloc]; omega))
    exact set3 (bnext a1 b2 (Nat.le_refl _)) (by omega) _ _ _
  all_goals
    simp only [ansV, Bool.not_false, Bool.not_true, Bool.and_true, Bool.and_false, Bool.false_and, if_false, Bool.false_eq_true]
    go_enter Tryd.func26, Tryd.ntmps26
    go_wp2_with fail
    refine (HC.out _).mono ?_
    rintro e w1 ⟨rfl, b1⟩
    obtain ⟨hc1, hf1⟩ := below_cells b1
    have z12 := below_size b1 (n := w.heap.size + 1 + 1) (by simp only [World.size_alloc]; omega)
    go_wp2_with fail
    refine bodyPost_ret (v := .tuple #[.agg #[.int .i64 0, .int .i64 0, .string ⟨#[]⟩], .bool _]) (by simp [results, Tryd.results26, go_sem, hc1, z12]) rfl ⟨rfl, ?_⟩
    exact set3 ((ext3 _ _ _ _).trans (b1.mono (by simp only [World.size_alloc]; omega))) (by omega) _ _ _

set_option maxHeartbeats 1000000 in
theorem less_any (k1 i1 : Int) (s1 : ByteArray) (k2 i2 : Int) (s2 : ByteArray) (h1 : s1.size ≤ maxLen) (h2 : s2.size ≤ maxLen) :
    Gives 27 #[.agg #[.int .i64 k1, .int .i64 i1, .string s1], .agg #[.int .i64 k2, .int .i64 i2, .string s2]] (.tuple #[ansV (fun c => decide (c < 0)) (cmp3 k1 i1 s1 k2 i2 s2), .bool (cmp3 k1 i1 s1 k2 i2 s2).2.2]) := by
  intro w
  have hc := lcompare_any k1 i1 s1 k2 i2 s2 h1 h2
  obtain ⟨⟨c, n, ok⟩, hr⟩ : ∃ r, r = cmp3 k1 i1 s1 k2 i2 s2 := ⟨_, rfl⟩
  rw [← hr] at hc ⊢
  simp only at hc
  have HC := hid hc; clear hc hr
  have HT := hid (fun b w => truth_any b w)
  cases ok <;> cases n
  case' true.false =>
    simp only [ansV, Bool.not_false, Bool.and_true, if_true]
    go_enter Tryd.func27, Tryd.ntmps27
    go_wp2_with fail
    refine (HC.out _).mono ?_
    rintro e w1 ⟨rfl, b1⟩
    obtain ⟨hc1, hf1⟩ := below_cells b1
    have z12 := below_size b1 (n := w.heap.size + 1 + 1) (by simp only [World.size_alloc]; omega)
    go_wp2_with fail
    refine (HT.out _ _).mono ?_
    rintro e w2 ⟨rfl, b2⟩
    obtain ⟨hc2, hf2⟩ := below_cells b2
    have z22 := below_size b2 (n := w.heap.size + 1 + 1) (by omega)
    go_wp2_with fail
    refine bodyPost_ret (v := .tuple #[.agg #[.int .i64 2, .int .i64 _, .string ⟨#[]⟩], .bool true]) (by simp [results, Tryd.results27, go_sem, hc2, hc1, z12, z22]) rfl ⟨rfl, ?_⟩
    have a1 : Below w.heap.size w w1 := (ext3 _ _ _ _).trans (b1.mono (by simp only [World.size_alloc]; omega))
    exact set3 (bnext a1 b2 (Nat.le_refl _)) (by omega) _ _ _
  all_goals
    simp only [ansV, Bool.not_false, Bool.not_true, Bool.and_true, Bool.and_false, Bool.false_and, if_false, Bool.false_eq_true]
    go_enter Tryd.func27, Tryd.ntmps27
    go_wp2_with fail
    refine (HC.out _).mono ?_
    rintro e w1 ⟨rfl, b1⟩
    obtain ⟨hc1, hf1⟩ := below_cells b1
    have z12 := below_size b1 (n := w.heap.size + 1 + 1) (by simp only [World.size_alloc]; omega)
    go_wp2_with fail
    refine bodyPost_ret (v := .tuple #[.agg #[.int .i64 0, .int .i64 0, .string ⟨#[]⟩], .bool _]) (by simp [results, Tryd.results27, go_sem, hc1, z12]) rfl ⟨rfl, ?_⟩
    exact set3 ((ext3 _ _ _ _).trans (b1.mono (by simp only [World.size_alloc]; omega))) (by omega) _ _ _
end Go.Proofs.YtdgdllicmccnfaaDoor

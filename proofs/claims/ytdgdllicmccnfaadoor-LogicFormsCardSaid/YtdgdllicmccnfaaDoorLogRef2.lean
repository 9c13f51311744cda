/- The contracts of the reference's comparisons. -/
import Derived.Test.YtdgdllicmccnfaaDoorLogRef
namespace Go.Proofs.YtdgdllicmccnfaaDoor
open Go.RowKit
set_option linter.unusedVariables false
set_option linter.unusedSimpArgs false

theorem cmpI_lt {a b : Int} (h : a < b) : cmpI a b = -1 := by unfold cmpI; rw [if_pos h]
theorem cmpI_gt {a b : Int} (h : b < a) : cmpI a b = 1 := by unfold cmpI; rw [if_neg (by omega), if_pos h]
theorem cmpI_self (a : Int) : cmpI a a = 0 := by unfold cmpI; rw [if_neg (by omega), if_neg (by omega)]
theorem firstNZ_one (x : Int) : firstNZ [x] = x := by unfold firstNZ; split <;> simp_all [firstNZ]

set_option maxHeartbeats 1000000 in
theorem rcompare_any (k1 i1 : Int) (s1 : ByteArray) (k2 i2 : Int) (s2 : ByteArray) :
    Gives 68 #[.agg #[.int .i64 k1, .int .i64 i1, .string s1], .agg #[.int .i64 k2, .int .i64 i2, .string s2]] (.int .i64 (cmpV k1 i1 s1 k2 i2 s2)) := by
  intro w
  by_cases h1 : k1 = k2
  · subst h1
    by_cases h2 : i1 = i2
    · subst h2
      have HF : Hid (cmpV k1 i1 s1 k1 i1 s2 = cmpS s1 s2) := by
        unfold Hid cmpV
        rw [cmpI_self, cmpI_self]
        simp only [firstNZ, if_true]
        split <;> simp_all
      have HS := hid (fun w => scompare_any s1 s2 w)
      go_enter Tryd.func68, Tryd.ntmps68
      go_wp2_with fail
      refine (HS.out _).mono ?_
      rintro e w1 ⟨rfl, rfl⟩
      go_wp2_with fail
      go_ret
      exact ⟨by rw [HF.out]; rfl, ext2 _ _ _⟩
    · have n2 : (i1 != i2) = true := by simpa using h2
      by_cases l : i1 < i2
      · have HF : Hid (cmpV k1 i1 s1 k1 i2 s2 = -1) := by
          unfold Hid cmpV
          rw [cmpI_self, cmpI_lt l]; rfl
        clear h2
        go_enter Tryd.func68, Tryd.ntmps68
        go_wp2_with fail
        go_ret
        exact ⟨by rw [HF.out]; rfl, ext2 _ _ _⟩
      · have l' : i2 < i1 := by omega
        have HF : Hid (cmpV k1 i1 s1 k1 i2 s2 = 1) := by
          unfold Hid cmpV
          rw [cmpI_self, cmpI_gt l']; rfl
        clear h2
        go_enter Tryd.func68, Tryd.ntmps68
        go_wp2_with fail
        go_ret
        exact ⟨by rw [HF.out]; rfl, ext2 _ _ _⟩
  · have n1 : (k1 != k2) = true := by simpa using h1
    by_cases l : k1 < k2
    · have HF : Hid (cmpV k1 i1 s1 k2 i2 s2 = -1) := by
        unfold Hid cmpV
        rw [cmpI_lt l]; rfl
      clear h1
      go_enter Tryd.func68, Tryd.ntmps68
      go_wp2_with fail
      go_ret
      exact ⟨by rw [HF.out]; rfl, ext2 _ _ _⟩
    · have l' : k2 < k1 := by omega
      have HF : Hid (cmpV k1 i1 s1 k2 i2 s2 = 1) := by
        unfold Hid cmpV
        rw [cmpI_gt l']; rfl
      clear h1
      go_enter Tryd.func68, Tryd.ntmps68
      go_wp2_with fail
      go_ret
      exact ⟨by rw [HF.out]; rfl, ext2 _ _ _⟩

def comparableB (k1 i1 : Int) (s1 : ByteArray) (k2 i2 : Int) (s2 : ByteArray) : Bool := validB k1 i1 s1 && validB k2 i2 s2 && (k1 == k2 || k1 == 0 || k2 == 0)
set_option maxHeartbeats 1000000 in
theorem comparable_any (k1 i1 : Int) (s1 : ByteArray) (k2 i2 : Int) (s2 : ByteArray) (h1 : s1.size ≤ maxLen) (h2 : s2.size ≤ maxLen) :
    Gives 67 #[.agg #[.int .i64 k1, .int .i64 i1, .string s1], .agg #[.int .i64 k2, .int .i64 i2, .string s2]] (.bool (comparableB k1 i1 s1 k2 i2 s2)) := by
  intro w
  have v1 := fun w => rvalid_any k1 i1 s1 w h1
  have v2 := fun w => rvalid_any k2 i2 s2 w h2
  cases e1 : validB k1 i1 s1
  · rw [e1] at v1
    have V1 := hid v1; clear v1 v2
    go_enter Tryd.func67, Tryd.ntmps67
    go_wp2_with fail
    refine (V1.out _).mono ?_
    rintro e w1 ⟨rfl, rfl⟩
    go_wp2_with fail
    go_ret
    exact ⟨by simp [comparableB, e1], ext3 _ _ _ _⟩
  cases e2 : validB k2 i2 s2 <;> cases ek : (k1 == k2) <;> cases z1 : (k1 == 0) <;> cases z2 : (k2 == 0)
  all_goals
    rw [e1] at v1
    rw [e2] at v2
    have V1 := hid v1
    have V2 := hid v2
    clear v1 v2
    go_enter Tryd.func67, Tryd.ntmps67
    go_wp2_with fail
    refine (V1.out _).mono ?_
    rintro e w1 ⟨rfl, rfl⟩
    go_wp2_with fail
    refine (V2.out _).mono ?_
    rintro e w1 ⟨rfl, rfl⟩
    go_wp2_with fail
    go_ret
    exact ⟨by simp [comparableB, e1, e2, ek, z1, z2], ext4 _ _ _ _ _⟩
end Go.Proofs.YtdgdllicmccnfaaDoor

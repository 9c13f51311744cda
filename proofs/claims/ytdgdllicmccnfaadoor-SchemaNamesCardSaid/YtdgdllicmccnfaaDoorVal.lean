/- The contracts of package value: which values are valid, and the values of truth. -/
import Derived.Test.YtdgdllicmccnfaaDoorMem
import Derived.Test.YtdgdllicmccnfaaDoorProg
import Derived.WalkSpells
import Derived.WalkLawsBesides
import Derived.Deep.QuietTactic
import Derived.BigQuiet
namespace Go.Proofs.YtdgdllicmccnfaaDoor
open Go.RowKit
set_option linter.unusedVariables false

/-- A value of the store: its kind, its number, its text. -/
structure Vl where
  k : Int
  i : Int
  s : ByteArray

def okByte (c : UInt8) : Bool := decide (32 ≤ c.toNat ∧ c.toNat ≤ 126)
def plainB (s : ByteArray) : Bool := s.data.toList.all okByte && decide (s.size ≤ 64)

set_option maxHeartbeats 1000000 in
theorem plain_any (s : ByteArray) (w : World) (hs : s.size ≤ maxLen) :
    Calls Tryd.prog 64 #[.string s] w fun e w' => e = .returned (.bool (plainB s)) ∧ w = w' := by
  unfold maxLen at hs
  go_enter Tryd.func64, Tryd.ntmps64
  go_wp2_with fail
  go_loop [6] (fun i => ∃ k : Nat, k ≤ s.size ∧ i = .int .i64 k ∧ (s.data.toList.take k).all okByte = true) (fun i => s.size - (intOf i).toNat)
  case atStart => exact ⟨0, by omega, rfl, rfl⟩
  case round =>
    obtain ⟨k, hk, rfl, hall⟩ := hrel
    have HA := hid hall; clear hall
    by_cases hlt : k < s.size
    · have hts : Hid (s.data.toList.take (k + 1) = s.data.toList.take k ++ [s[k]]) := by
        unfold Hid; rw [List.take_succ_eq_append_getElem (by simpa using hlt)]; rfl
      by_cases hb : 32 ≤ s[k].toNat ∧ s[k].toNat ≤ 126
      · have b1 : (32 : Int) ≤ (s[k].toNat : Int) := by omega
        have b2 : (s[k].toNat : Int) ≤ 126 := by omega
        have HB := hid hb; clear hb
        go_wp2_with fail
        go_round
        case rel => exact ⟨k + 1, by omega, by go_num, by rw [hts.out, List.all_append, HA.out]; simp [okByte, HB.out]⟩
        case measure => simp [intOf]; omega
      · have hno : Hid (plainB s = false) := by
          unfold Hid plainB
          have : s.data.toList.all okByte = false := by
            rw [List.all_eq_false]
            exact ⟨s[k], List.mem_of_getElem (i := k) (h := by simpa using hlt) rfl, by simp [okByte]; omega⟩
          rw [this]; rfl
        by_cases h32 : (s[k].toNat : Int) < 32
        · clear hb
          go_wp2
          go_ret
          exact ⟨by rw [hno.out]; rfl, rfl⟩
        · have h126 : (126 : Int) < (s[k].toNat : Int) := by omega
          clear hb
          go_wp2
          go_ret
          exact ⟨by rw [hno.out]; rfl, rfl⟩
    · obtain rfl : k = s.size := by omega
      have hyes : Hid (plainB s = decide (s.size ≤ 64)) := by
        unfold Hid plainB
        have h := HA.out
        rw [List.take_of_length_le (by simp)] at h
        rw [h]; rfl
      go_wp2
      go_ret
      exact ⟨by rw [hyes.out]; congr 2; simp; omega, rfl⟩

/-- Which values are valid. -/
def validB (k i : Int) (s : ByteArray) : Bool :=
  if k = 0 then i == 0 && s.toList.isEmpty else if k = 1 then s.toList.isEmpty else if k = 2 then (i == 0 || i == 1) && s.toList.isEmpty else if k = 3 then i == 0 && plainB s else false

set_option maxHeartbeats 1000000 in
theorem valid_any (k i : Int) (s : ByteArray) (w : World) (hs : s.size ≤ maxLen) :
    Calls Tryd.prog 43 #[.agg #[.int .i64 k, .int .i64 i, .string s]] w fun e w' => e = .returned (.bool (validB k i s)) ∧ w.alloc (.cells #[.int .i64 k, .int .i64 i, .string s] 39) = w' := by
  by_cases h0 : k = 0
  · subst h0
    cases hi : (i == 0) <;> cases he : s.toList.isEmpty
    all_goals
      go_enter Tryd.func43, Tryd.ntmps43
      go_wp2_with fail
      go_ret
      refine ⟨?_, rfl⟩
      simp [validB, hi, he]
  by_cases h1 : k = 1
  · subst h1
    go_enter Tryd.func43, Tryd.ntmps43
    go_wp2_with fail
    go_ret
    refine ⟨?_, rfl⟩
    simp [validB]
  by_cases h2 : k = 2
  · subst h2
    cases hi : (i == 0) <;> cases hj : (i == 1)
    all_goals
      go_enter Tryd.func43, Tryd.ntmps43
      go_wp2_with fail
      go_ret
      refine ⟨?_, rfl⟩
      simp [validB, hi, hj]
  by_cases h3 : k = 3
  · subst h3
    cases hi : (i == 0)
    · go_enter Tryd.func43, Tryd.ntmps43
      go_wp2_with fail
      go_ret
      refine ⟨?_, rfl⟩
      simp [validB, hi]
    · go_enter Tryd.func43, Tryd.ntmps43
      go_wp2_with fail
      refine (plain_any s _ hs).mono ?_
      rintro e w1 ⟨rfl, rfl⟩
      go_wp2_with fail
      go_ret
      refine ⟨?_, rfl⟩
      simp [validB, hi]
  · have k0 : (k == 0) = false := by simpa using h0
    have k1 : (k == 1) = false := by simpa using h1
    have k2 : (k == 2) = false := by simpa using h2
    have k3 : (k == 3) = false := by simpa using h3
    go_enter Tryd.func43, Tryd.ntmps43
    go_wp2_with fail
    go_ret
    refine ⟨?_, rfl⟩
    simp [validB, h0, h1, h2, h3]
end Go.Proofs.YtdgdllicmccnfaaDoor

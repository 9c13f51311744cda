/- The contract of the reference's Valid (values). -/
import Derived.Test.YtdgdllicmccnfaaDoorVal
import Derived.Test.YtdgdllicmccnfaaDoorMem
import Derived.Test.YtdgdllicmccnfaaDoorBoxes
namespace Go.Proofs.YtdgdllicmccnfaaDoor
open Go.RowKit
set_option linter.unusedVariables false
set_option linter.unusedSimpArgs false

set_option maxHeartbeats 1000000 in
theorem rvalid_any (k i : Int) (s : ByteArray) (w : World) (hs : s.size ≤ maxLen) :
    Calls Tryd.prog 44 #[.agg #[.int .i64 k, .int .i64 i, .string s]] w fun e w' => e = .returned (.bool (validB k i s)) ∧ w.alloc (.cells #[.int .i64 k, .int .i64 i, .string s] 39) = w' := by
  unfold maxLen at hs
  by_cases h0 : k = 0
  · subst h0
    cases hi : (i == 0) <;> cases he : s.toList.isEmpty
    all_goals
      go_enter Tryd.func44, Tryd.ntmps44
      go_wp2_with fail
      go_ret
      refine ⟨?_, rfl⟩
      simp [validB, hi, he]
  by_cases h1 : k = 1
  · subst h1
    go_enter Tryd.func44, Tryd.ntmps44
    go_wp2_with fail
    go_ret
    refine ⟨?_, rfl⟩
    simp [validB]
  by_cases h2 : k = 2
  · subst h2
    cases hi : (i == 0) <;> cases hj : (i == 1)
    all_goals
      go_enter Tryd.func44, Tryd.ntmps44
      go_wp2_with fail
      go_ret
      refine ⟨?_, rfl⟩
      simp [validB, hi, hj]
  by_cases h3 : k = 3
  · subst h3
    cases hi : (i == 0)
    · have hi' : (i != 0) = true := by simp only [bne, hi, Bool.not_false]
      go_enter Tryd.func44, Tryd.ntmps44
      go_wp2_with fail
      go_ret
      refine ⟨?_, rfl⟩
      simp [validB, hi]
    · have hi' : (i != 0) = false := by simp only [bne, hi, Bool.not_true]
      by_cases hl : s.size ≤ 64
      · have l0 : ((s.size : Int)) ≤ 64 := by omega
        have HV : Hid (validB 3 i s = plainB s) := by unfold Hid; simp [validB, hi]
        have B0 := Blk.new w 39 #[.int .i64 3, .int .i64 i, .string s]
        obtain ⟨c0, c1, c2, cl⟩ := B0.c3
        go_enter Tryd.func44, Tryd.ntmps44
        go_wp2_with fail
        go_loop [3] (fun j => ∃ k : Nat, k ≤ s.size ∧ j = .int .i64 k ∧ (s.data.toList.take k).all okByte = true) (fun j => s.size - (intOf j).toNat)
        case atStart => exact ⟨0, by omega, rfl, rfl⟩
        case round =>
          obtain ⟨k, hk, rfl, hall⟩ := hrel
          have HA := hid hall; clear hall
          by_cases hlt : k < s.size
          · have hts : Hid (s.data.toList.take (k + 1) = s.data.toList.take k ++ [s[k]]) := by
              unfold Hid; rw [List.take_succ_eq_append_getElem (by simpa using hlt)]; rfl
            by_cases hb : 32 ≤ s[k].toNat ∧ s[k].toNat ≤ 126
            · have b1 : (32 : Int) ≤ (s[k].toNat : Int) := by omega
              have b2 : (s[k].toNat : Int) ≤ 126 := by omega
              have HB := hid hb; clear hb
              go_wp2_with fail
              go_round
              case rel => exact ⟨k + 1, by omega, by go_num, by rw [hts.out, List.all_append, HA.out]; simp [okByte, HB.out]⟩
              case measure => simp [intOf]; omega
            · have hno : Hid (plainB s = false) := by
                unfold Hid plainB
                have : s.data.toList.all okByte = false := by
                  rw [List.all_eq_false]
                  exact ⟨s[k], List.mem_of_getElem (i := k) (h := by simpa using hlt) rfl, by simp [okByte]; omega⟩
                rw [this]; rfl
              by_cases h32 : (s[k].toNat : Int) < 32
              · clear hb
                go_wp2
                go_ret
                exact ⟨by rw [HV.out, hno.out]; rfl, rfl⟩
              · have h126 : (126 : Int) < (s[k].toNat : Int) := by omega
                clear hb
                go_wp2
                go_ret
                exact ⟨by rw [HV.out, hno.out]; rfl, rfl⟩
          · obtain rfl : k = s.size := by omega
            have hyes : Hid (plainB s = true) := by
              unfold Hid plainB
              have h := HA.out
              rw [List.take_of_length_le (by simp)] at h
              rw [h]; simpa using hl
            go_wp2
            go_ret
            exact ⟨by rw [HV.out, hyes.out]; rfl, rfl⟩
      · have l0 : (64 : Int) < (s.size : Int) := by omega
        have HV : Hid (validB 3 i s = false) := by unfold Hid; simp [validB, hi, plainB]; omega
        go_enter Tryd.func44, Tryd.ntmps44
        go_wp2_with fail
        go_ret
        exact ⟨by rw [HV.out]; rfl, rfl⟩
  · have k0 : (k == 0) = false := by simpa using h0
    have k1 : (k == 1) = false := by simpa using h1
    have k2 : (k == 2) = false := by simpa using h2
    have k3 : (k == 3) = false := by simpa using h3
    go_enter Tryd.func44, Tryd.ntmps44
    go_wp2_with fail
    go_ret
    refine ⟨?_, rfl⟩
    simp [validB, h0, h1, h2, h3]

end Go.Proofs.YtdgdllicmccnfaaDoor

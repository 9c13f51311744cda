/- The contracts of ValidName, of package schema and of its reference. -/
import Derived.Test.YtdgdllicmccnfaaDoorHold
import Derived.Lib.ConvBytes
import Derived.WalkSpells
import Derived.Deep.QuietTactic
import Derived.BigQuiet
namespace Go.Proofs.YtdgdllicmccnfaaDoor
open Go.RowKit
set_option linter.unusedVariables false
set_option linter.unusedSimpArgs false

def letterN (x : Nat) : Bool := decide (97 ≤ x) && decide (x ≤ 122)
def digitN (x : Nat) : Bool := decide (48 ≤ x) && decide (x ≤ 57)
def nameN (x : Nat) : Bool := letterN x || digitN x || x == 95
def nameB (s : ByteArray) : Bool := decide (1 ≤ s.size) && decide (s.size ≤ 12) && letterN (s.data.toList.getD 0 0).toNat && s.data.toList.all (fun c => nameN c.toNat)

theorem nameB_len0 {s : ByteArray} (h : s.size < 1) : nameB s = false := by simp [nameB]; omega
theorem nameB_long {s : ByteArray} (h : 12 < s.size) : nameB s = false := by simp [nameB]; omega
theorem nameB_first {s : ByteArray} {c : UInt8} (hc : s.data.toList.getD 0 0 = c) (h : letterN c.toNat = false) : nameB s = false := by
  unfold nameB; rw [hc, h]; simp
theorem nameB_bad {s : ByteArray} {k : Nat} {c : UInt8} (hk : s.data.toList[k]? = some c) (h : nameN c.toNat = false) : nameB s = false := by
  have : s.data.toList.all (fun c => nameN c.toNat) = false := by
    rw [List.all_eq_false]
    exact ⟨c, List.mem_of_getElem? hk, by simp [h]⟩
  unfold nameB; rw [this, Bool.and_false]
theorem nameB_ok {s : ByteArray} {c : UInt8} (h1 : 1 ≤ s.size) (h2 : s.size ≤ 12) (hc : s.data.toList.getD 0 0 = c) (hl : letterN c.toNat = true) (ha : s.data.toList.all (fun c => nameN c.toNat) = true) : nameB s = true := by
  unfold nameB; rw [hc, hl, ha]; simp [h1, h2]
theorem all_snoc {s : ByteArray} {k : Nat} {c : UInt8} {p : UInt8 → Bool} (hk : s.data.toList[k]? = some c) (ha : (s.data.toList.take k).all p = true) (hp : p c = true) : (s.data.toList.take (k + 1)).all p = true := by
  obtain ⟨h, rfl⟩ := List.getElem?_eq_some_iff.1 hk
  rw [List.take_succ_eq_append_getElem h, List.all_append, ha]
  simpa using hp
theorem all_end {s : ByteArray} {p : UInt8 → Bool} (ha : (s.data.toList.take s.size).all p = true) : s.data.toList.all p = true := by
  rwa [List.take_of_length_le (by simp)] at ha
theorem byte_at (s : ByteArray) {k : Nat} (h : k < s.size) : s.data.toList[k]? = some s[k] := by
  rw [List.getElem?_eq_getElem (by simpa using h)]; rfl
theorem first_at (s : ByteArray) (h : 0 < s.size) : s.data.toList.getD 0 0 = s[0] := by
  simp only [List.getD, byte_at s h, Option.getD_some]
theorem nameN_false {x : Nat} (h1 : ¬ (97 ≤ x ∧ x ≤ 122)) (h2 : ¬ (48 ≤ x ∧ x ≤ 57)) (h3 : x ≠ 95) : nameN x = false := by
  simp [nameN, letterN, digitN]; omega
theorem nameN_letter {x : Nat} (h1 : 97 ≤ x) (h2 : x ≤ 122) : nameN x = true := by simp [nameN, letterN, h1, h2]
theorem nameN_digit {x : Nat} (h1 : 48 ≤ x) (h2 : x ≤ 57) : nameN x = true := by simp [nameN, digitN, h1, h2]

theorem bytes_below (w : World) (e : TypeId) (s : ByteArray) : Below w.heap.size w (Lib.bytesWorld w e s) := by
  refine ⟨?_, ?_, ?_, by rw [Lib.bytesWorld_size]; omega, fun k hk => Lib.bytesWorld_at_old w e s k hk⟩
  all_goals first | rfl | (simp [Lib.bytesWorld, World.freeze]; rfl)

set_option maxHeartbeats 4000000 in
theorem validname_any (s : ByteArray) (w : World) (hs : s.size ≤ maxLen) :
    Calls Tryd.prog 34 #[.string s] w fun e w' => e = .returned (.bool (nameB s)) ∧ Below w.heap.size w w' := by
  unfold maxLen at hs
  by_cases h1 : s.size < 1
  · have HN := hid (nameB_len0 h1)
    go_enter Tryd.func34, Tryd.ntmps34
    go_wp2_with fail
    go_ret
    exact ⟨by rw [HN.out] <;> rfl, Below.refl _ _⟩
  by_cases h2 : 12 < s.size
  · have HN := hid (nameB_long h2)
    go_enter Tryd.func34, Tryd.ntmps34
    go_wp2_with fail
    go_ret
    exact ⟨by rw [HN.out] <;> rfl, Below.refl _ _⟩
  have p0 : 0 < s.size := by omega
  have p1 : 1 ≤ s.size := by omega
  have p2 : s.size ≤ 12 := by omega
  have hf := hid (first_at s p0)
  have hlt : s[0].toNat < 256 := s[0].toNat_lt
  by_cases h3 : s[0].toNat < 97
  · have HN := hid (nameB_first hf.out (by simp [letterN]; omega))
    go_enter Tryd.func34, Tryd.ntmps34
    go_wp2_with fail
    go_ret
    exact ⟨by rw [HN.out] <;> rfl, Below.refl _ _⟩
  have hcv := Lib.run_convert_string_bytes (P := Tryd.prog) w 9 57 5 s Tryd.underlying9 Tryd.underlying57 Tryd.underlying5
  have hcell := hid (fun j hj => Lib.bytesWorld_cell w 5 s j hj)
  have hb := hid (bytes_below w 5 s)
  obtain ⟨w1, hw1⟩ : ∃ w1, w1 = Lib.bytesWorld w 5 s := ⟨_, rfl⟩
  rw [← hw1] at hcv hcell hb
  clear hw1
  go_enter Tryd.func34, Tryd.ntmps34
  go_wp2_with fail
  go_loop [21] (fun i => ∃ k : Nat, k ≤ s.size ∧ i = .int .i64 k ∧ (s.data.toList.take k).all (fun c => nameN c.toNat) = true) (fun i => s.size - (intOf i).toNat)
  case atStart => exact ⟨0, by omega, rfl, rfl⟩
  case round =>
    obtain ⟨k, hk, rfl, hall⟩ := hrel
    have HA := hid hall; clear hall
    by_cases hlt : k < s.size
    · have HK := hid (byte_at s hlt)
      have hc := hcell.out k hlt
      rw [show s.data.toList.getD k 0 = s[k] by simp only [List.getD, HK.out, Option.getD_some]] at hc
      have hx : s[k].toNat < 256 := s[k].toNat_lt
      obtain ⟨x, hxx⟩ : ∃ x, x = s[k].toNat := ⟨_, rfl⟩
      rw [← hxx] at hc hx
      have HX := hid hxx; clear hxx
      by_cases hcls : (97 ≤ x ∧ x ≤ 122) ∨ (48 ≤ x ∧ x ≤ 57) ∨ x = 95
      · have HN : Hid (nameN s[k].toNat = true) := by
          unfold Hid; rw [← HX.out]
          rcases hcls with ⟨a, b⟩ | ⟨a, b⟩ | rfl
          · exact nameN_letter a b
          · exact nameN_digit a b
          · rfl
        rcases hcls with ⟨a, b⟩ | ⟨a, b⟩ | rfl
        all_goals
          go_wp2_with fail
          go_round
          case rel => exact ⟨k + 1, by omega, by go_num, all_snoc HK.out HA.out HN.out⟩
          case measure => simp [intOf]; omega
      · have HN : Hid (nameB s = false) := nameB_bad HK.out (by rw [← HX.out]; exact nameN_false (by omega) (by omega) (by omega))
        have hx : x < 48 ∨ (57 < x ∧ x < 95) ∨ (95 < x ∧ x < 97) ∨ 122 < x := by omega
        clear hcls
        rcases hx with h | ⟨h, h'⟩ | ⟨h, h'⟩ | h
        all_goals
          go_wp2_with fail
          go_ret
          exact ⟨by rw [HN.out] <;> rfl, hb.out⟩
    · obtain rfl : k = s.size := by omega
      have h97 : 97 ≤ s[0].toNat := by omega
      by_cases h122 : s[0].toNat ≤ 122
      · have HN := hid (nameB_ok p1 p2 hf.out (by simp [letterN]; omega) (all_end HA.out))
        have hne : ((s[0].toNat : Int) != 95) = true := by rw [bne_iff_ne]; omega
        go_wp2_with fail
        go_ret
        exact ⟨by rw [HN.out] <;> rfl, hb.out⟩
      · exfalso
        have h1 := all_end HA.out
        rw [List.all_eq_true] at h1
        have h2 := h1 s[0] (List.mem_of_getElem? (byte_at s p0))
        rw [nameN_false (by omega) (by omega) (by omega)] at h2
        cases h2
end Go.Proofs.YtdgdllicmccnfaaDoor

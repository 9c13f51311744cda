/- The contracts of the reference's ValidName and of Keyword. -/
import Derived.Test.YtdgdllicmccnfaaDoorNames
import Derived.Test.YtdgdllicmccnfaaDoorBinSearch
import Derived.Test.YtdgdllicmccnfaaDoorLogic2
namespace Go.Proofs.YtdgdllicmccnfaaDoor
open Go.RowKit
set_option linter.unusedVariables false
set_option linter.unusedSimpArgs false

/-- The keywords, in order. -/
def kws : List ByteArray := [⟨#[65, 66, 79, 82, 84]⟩, ⟨#[65, 70, 84, 69, 82]⟩, ⟨#[65, 78, 68]⟩, ⟨#[66, 69, 70, 79, 82, 69]⟩, ⟨#[66, 69, 71, 73, 78]⟩, ⟨#[66, 69, 84, 87, 69, 69, 78]⟩, ⟨#[66, 79, 79, 76]⟩, ⟨#[67, 79, 85, 78, 84]⟩, ⟨#[67, 82, 69, 65, 84, 69]⟩, ⟨#[68, 69, 76, 69, 84, 69]⟩, ⟨#[68, 69, 76, 69, 84, 69, 68]⟩, ⟨#[68, 82, 79, 80]⟩, ⟨#[69, 65, 67, 72]⟩, ⟨#[69, 78, 68]⟩, ⟨#[69, 88, 73, 83, 84, 83]⟩, ⟨#[70, 65, 76, 83, 69]⟩, ⟨#[70, 79, 76, 76, 79, 87, 83]⟩, ⟨#[70, 79, 82]⟩, ⟨#[70, 82, 79, 77]⟩, ⟨#[73, 78, 83, 69, 82, 84]⟩, ⟨#[73, 78, 83, 69, 82, 84, 69, 68]⟩, ⟨#[73, 78, 84]⟩, ⟨#[73, 78, 84, 79]⟩, ⟨#[73, 83]⟩, ⟨#[75, 69, 89]⟩, ⟨#[77, 65, 88]⟩, ⟨#[77, 73, 78]⟩, ⟨#[78, 69, 87]⟩, ⟨#[78, 79, 84]⟩, ⟨#[78, 85, 76, 76]⟩, ⟨#[79, 70]⟩, ⟨#[79, 76, 68]⟩, ⟨#[79, 78]⟩, ⟨#[79, 82]⟩, ⟨#[80, 82, 69, 67, 69, 68, 69, 83]⟩, ⟨#[80, 82, 73, 77, 65, 82, 89]⟩, ⟨#[82, 65, 78, 75]⟩, ⟨#[82, 79, 87]⟩, ⟨#[83, 69, 76, 69, 67, 84]⟩, ⟨#[83, 69, 84]⟩, ⟨#[83, 84, 65, 84, 69, 77, 69, 78, 84]⟩, ⟨#[83, 85, 77]⟩, ⟨#[84, 65, 66, 76, 69]⟩, ⟨#[84, 69, 88, 84]⟩, ⟨#[84, 79]⟩, ⟨#[84, 82, 73, 71, 71, 69, 82]⟩, ⟨#[84, 82, 85, 69]⟩, ⟨#[85, 80, 68, 65, 84, 69]⟩, ⟨#[86, 65, 76, 85, 69, 83]⟩, ⟨#[87, 72, 69, 78]⟩, ⟨#[87, 72, 69, 82, 69]⟩]
theorem kws_sorted : kws.Pairwise (fun a b => ltS a b = true) := by decide +kernel
def kwB (s : ByteArray) : Bool := kws.any (fun x => x.toList == s.toList)

set_option maxHeartbeats 2000000 in
theorem keyword_any (s : ByteArray) : Gives 36 #[.string s] (.bool (kwB s)) := by
  intro w
  have HR := hid ((Rd.lit w (strCells kws).toArray 9 (size := 1) (n := 51) (xs := strCells kws) (by simp) (by kernel_rfl)).more (B' := (w.alloc (.cells (strCells kws).toArray 9)).heap.size) (by simp))
  go_enter Tryd.func36, Tryd.ntmps36
  go_wp2_with fail
  refine (bsearch_any _ 51 _ kws s _ HR.out (by omega) kws_sorted).mono ?_
  rintro e w1 ⟨⟨i, rfl⟩, rfl⟩
  go_wp2
  go_ret
  exact ⟨rfl, ext1 _ _⟩

set_option maxHeartbeats 4000000 in
theorem rvalidname_any (s : ByteArray) (w : World) (hs : s.size ≤ maxLen) :
    Calls Tryd.prog 35 #[.string s] w fun e w' => e = .returned (.bool (nameB s)) ∧ w = w' := by
  unfold maxLen at hs
  by_cases h1 : s.size < 1
  · have HN := hid (nameB_len0 h1)
    go_enter Tryd.func35, Tryd.ntmps35
    go_wp2
    go_ret
    exact ⟨by rw [HN.out] <;> rfl, rfl⟩
  by_cases h2 : 12 < s.size
  · have HN := hid (nameB_long h2)
    go_enter Tryd.func35, Tryd.ntmps35
    go_wp2
    go_ret
    exact ⟨by rw [HN.out] <;> rfl, rfl⟩
  have p0 : 0 < s.size := by omega
  have p1 : 1 ≤ s.size := by omega
  have p2 : s.size ≤ 12 := by omega
  have hf := hid (first_at s p0)
  have hlt : s[0].toNat < 256 := s[0].toNat_lt
  by_cases h3 : s[0].toNat < 97 ∨ 122 < s[0].toNat
  · have HN := hid (nameB_first hf.out (by simp [letterN]; omega))
    rcases h3 with h3 | h3
    · go_enter Tryd.func35, Tryd.ntmps35
      go_wp2
      go_ret
      exact ⟨by rw [HN.out] <;> rfl, rfl⟩
    · have h97 : 97 ≤ s[0].toNat := by omega
      have d1 : decide ((s[0].toNat : Int) ≤ 122) = false := by simp; omega
      have d0 : decide ((97 : Int) ≤ (s[0].toNat : Int)) = true := by simp; omega
      go_enter Tryd.func35, Tryd.ntmps35
      go_wp2
      go_ret
      exact ⟨by rw [HN.out] <;> rfl, rfl⟩
  have h97 : 97 ≤ s[0].toNat := by omega
  have h122 : s[0].toNat ≤ 122 := by omega
  have hl := hid (show letterN s[0].toNat = true by simp [letterN]; omega)
  clear h3
  have d1 : decide ((s[0].toNat : Int) ≤ 122) = true := by simp; omega
  have d0 : decide ((97 : Int) ≤ (s[0].toNat : Int)) = true := by simp; omega
  go_enter Tryd.func35, Tryd.ntmps35
  go_wp2
  go_loop [3] (fun i => ∃ k : Nat, k ≤ s.size ∧ i = .int .i64 k ∧ (s.data.toList.take k).all (fun c => nameN c.toNat) = true) (fun i => s.size - (intOf i).toNat)
  case atStart => exact ⟨0, by omega, rfl, rfl⟩
  case round =>
    obtain ⟨k, hk, rfl, hall⟩ := hrel
    have HA := hid hall; clear hall
    by_cases hlt : k < s.size
    · have HK := hid (byte_at s hlt)
      have hx : s[k].toNat < 256 := s[k].toNat_lt
      by_cases hcls : (97 ≤ s[k].toNat ∧ s[k].toNat ≤ 122) ∨ (48 ≤ s[k].toNat ∧ s[k].toNat ≤ 57) ∨ s[k].toNat = 95
      · have HN : Hid (nameN s[k].toNat = true) := by
          unfold Hid
          rcases hcls with ⟨a, b⟩ | ⟨a, b⟩ | a
          · exact nameN_letter a b
          · exact nameN_digit a b
          · rw [a]; rfl
        rcases hcls with ⟨a, b⟩ | ⟨a, b⟩ | a
        · have e0 : decide ((97 : Int) ≤ (s[k].toNat : Int)) = true := by simp; omega
          have e1 : decide ((s[k].toNat : Int) ≤ 122) = true := by simp; omega
          go_wp2
          go_round
          case rel => exact ⟨k + 1, by omega, by go_num, all_snoc HK.out HA.out HN.out⟩
          case measure => simp [intOf]; omega
        · have c1 : s[k].toNat < 97 := by omega
          have e0 : decide ((97 : Int) ≤ (s[k].toNat : Int)) = false := by simp; omega
          have e2 : decide ((48 : Int) ≤ (s[k].toNat : Int)) = true := by simp; omega
          have e3 : decide ((s[k].toNat : Int) ≤ 57) = true := by simp; omega
          go_wp2
          go_round
          case rel => exact ⟨k + 1, by omega, by go_num, all_snoc HK.out HA.out HN.out⟩
          case measure => simp [intOf]; omega
        · have c1 : s[k].toNat < 97 := by omega
          have c2 : 57 < s[k].toNat := by omega
          have c3 : ((s[k].toNat : Int) != 95) = false := by rw [bne_eq_false_iff_eq]; omega
          have e0 : decide ((97 : Int) ≤ (s[k].toNat : Int)) = false := by simp; omega
          have e2 : decide ((48 : Int) ≤ (s[k].toNat : Int)) = true := by simp; omega
          have e3 : decide ((s[k].toNat : Int) ≤ 57) = false := by simp; omega
          clear a
          go_wp2
          go_round
          case rel => exact ⟨k + 1, by omega, by go_num, all_snoc HK.out HA.out HN.out⟩
          case measure => simp [intOf]; omega
      · have HN : Hid (nameB s = false) := nameB_bad HK.out (nameN_false (by omega) (by omega) (by omega))
        have c3 : ((s[k].toNat : Int) != 95) = true := by rw [bne_iff_ne]; omega
        have hx : s[k].toNat < 48 ∨ (57 < s[k].toNat ∧ s[k].toNat < 97) ∨ 122 < s[k].toNat := by omega
        clear hcls
        rcases hx with h | ⟨h, h'⟩ | h
        · have e0 : decide ((97 : Int) ≤ (s[k].toNat : Int)) = false := by simp; omega
          have e2 : decide ((48 : Int) ≤ (s[k].toNat : Int)) = false := by simp; omega
          go_wp2
          go_ret
          exact ⟨by rw [HN.out] <;> rfl, rfl⟩
        · have e0 : decide ((97 : Int) ≤ (s[k].toNat : Int)) = false := by simp; omega
          have e2 : decide ((48 : Int) ≤ (s[k].toNat : Int)) = true := by simp; omega
          have e3 : decide ((s[k].toNat : Int) ≤ 57) = false := by simp; omega
          go_wp2
          go_ret
          exact ⟨by rw [HN.out] <;> rfl, rfl⟩
        · have e0 : decide ((97 : Int) ≤ (s[k].toNat : Int)) = true := by simp; omega
          have e1 : decide ((s[k].toNat : Int) ≤ 122) = false := by simp; omega
          have e2 : decide ((48 : Int) ≤ (s[k].toNat : Int)) = true := by simp; omega
          have e3 : decide ((s[k].toNat : Int) ≤ 57) = false := by simp; omega
          go_wp2
          go_ret
          exact ⟨by rw [HN.out] <;> rfl, rfl⟩
    · obtain rfl : k = s.size := by omega
      have HN := hid (nameB_ok p1 p2 hf.out hl.out (all_end HA.out))
      go_wp2
      go_ret
      exact ⟨by rw [HN.out] <;> rfl, rfl⟩
end Go.Proofs.YtdgdllicmccnfaaDoor

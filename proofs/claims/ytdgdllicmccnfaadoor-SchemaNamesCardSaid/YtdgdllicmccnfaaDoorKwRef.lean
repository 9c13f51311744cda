/- The contract of the reference's Keyword. -/
import Derived.Test.YtdgdllicmccnfaaDoorKwPlain
import Derived.Test.YtdgdllicmccnfaaDoorShelf
import Derived.Lib.IndexAny
namespace Go.Proofs.YtdgdllicmccnfaaDoor
open Go.RowKit
set_option linter.unusedVariables false
set_option linter.unusedSimpArgs false

theorem pad_data (s : ByteArray) : ((⟨#[32]⟩ : ByteArray) ++ s ++ ⟨#[32]⟩).data.toList = 32 :: (s.data.toList ++ [32]) := by
  simp [ByteArray.data_append]
theorem wordsText_len : wordsText.length < 4294967281 := by decide +kernel
theorem contains_call (s : ByteArray) (m : Int) (h32 : (32 : UInt8) ∉ s.data.toList) (WT : ByteArray) (hW : WT.data.toList = wordsText) (w : World) (hm : w.cell? ⟨2, 0, none⟩ = some (.int .i64 m)) :
    Calls Tryd.prog 62 #[.string WT, .string ((⟨#[32]⟩ : ByteArray) ++ s ++ ⟨#[32]⟩)] w fun e w' => e = .returned (.bool (kwB s)) ∧ w' = w := by
  have hs : WT.size < 4294967281 := by
    have : WT.size = WT.data.toList.length := by simp
    rw [this, hW]
    exact wordsText_len
  have c := Tryd.strings_Contains WT ((⟨#[32]⟩ : ByteArray) ++ s ++ ⟨#[32]⟩) m w hs hm
  rw [hW, pad_data, kwB_words h32] at c
  exact c

set_option maxRecDepth 100000 in
set_option maxHeartbeats 4000000 in
theorem rkeyword_any (s : ByteArray) (m : Int) (w : World) (hm : w.cell? ⟨2, 0, none⟩ = some (.int .i64 m)) (hs : s.size ≤ 140737488351232) :
    Calls Tryd.prog 37 #[.string s] w fun e w' => e = .returned (.bool (kwB s)) ∧ w = w' := by
  have HM := hid hm; clear hm
  cases he : s.toList.isEmpty
  · have he2 : (!s.toList.isEmpty) = true := by rw [he]; rfl
    by_cases h32 : (32 : UInt8) ∈ s.data.toList
    · have HN := hid (kwB_space h32)
      have HC := hid (show decide (0 ≤ Lib.indexByte s.data.toList 32) = true by rw [← Lib.contains_iff_indexByte]; simpa using h32)
      go_enter Tryd.func37, Tryd.ntmps37
      go_wp2_with fail
      refine (Tryd.strings_Contains_one s 32 _).mono ?_
      rintro e w' ⟨rfl, rfl⟩
      rw [HC.out]
      go_wp2_with fail
      go_ret
      exact ⟨by rw [HN.out] <;> rfl, rfl⟩
    · have HK := hid (contains_call s m h32)
      have HC := hid (show decide (0 ≤ Lib.indexByte s.data.toList 32) = false by rw [← Lib.contains_iff_indexByte]; simpa using h32)
      go_enter Tryd.func37, Tryd.ntmps37
      go_wp2_with fail
      refine (Tryd.strings_Contains_one s 32 _).mono ?_
      rintro e w' ⟨rfl, rfl⟩
      rw [HC.out]
      go_wp2_with fail
      refine (HK.out _ (by decide +kernel) _ HM.out).mono ?_
      rintro e w' ⟨rfl, rfl⟩
      go_wp2_with fail
      go_ret
      exact ⟨rfl, rfl⟩
  · have HN := hid (kwB_empty (s := s) (by rw [← toList_data_]; simpa using he))
    have he0 : s.toList = [] := by simpa using he
    go_enter Tryd.func37, Tryd.ntmps37
    go_wp2_with fail
    go_ret
    exact ⟨by rw [HN.out] <;> rfl, rfl⟩
end Go.Proofs.YtdgdllicmccnfaaDoor

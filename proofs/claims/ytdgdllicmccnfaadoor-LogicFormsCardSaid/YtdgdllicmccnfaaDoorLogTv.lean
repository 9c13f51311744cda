/- The valid values of the logic are the three values. -/
import Derived.Test.YtdgdllicmccnfaaDoorLogRTv3
namespace Go.Proofs.YtdgdllicmccnfaaDoor
open Go.RowKit
set_option linter.unusedVariables false
set_option linter.unusedSimpArgs false

theorem empty_of {s : ByteArray} (h : s.toList.isEmpty = true) : s = ⟨#[]⟩ := by
  rw [ByteArray.toList_eq] at h
  obtain ⟨⟨l⟩⟩ := s
  cases l with
  | nil => rfl
  | cons a r => simp at h
theorem lv_tv {k i : Int} {s : ByteArray} (h : lvB k i s = true) : ∃ x, (.agg #[.int .i64 k, .int .i64 i, .string s] : Value) = tv x := by
  simp only [lvB, Bool.and_eq_true, Bool.or_eq_true, beq_iff_eq] at h
  obtain ⟨hv, hk | hk⟩ := h
  · subst hk
    simp only [validB, show ((2 : Int) = 0) = False by simp, show ((2 : Int) = 1) = False by simp, if_true, if_false, Bool.and_eq_true, Bool.or_eq_true, beq_iff_eq] at hv
    obtain ⟨hi | hi, hs⟩ := hv
    · subst hi; rw [empty_of hs]; exact ⟨some false, rfl⟩
    · subst hi; rw [empty_of hs]; exact ⟨some true, rfl⟩
  · subst hk
    simp only [validB, if_true, Bool.and_eq_true, beq_iff_eq] at hv
    obtain ⟨hi, hs⟩ := hv
    subst hi; rw [empty_of hs]; exact ⟨none, rfl⟩
end Go.Proofs.YtdgdllicmccnfaaDoor

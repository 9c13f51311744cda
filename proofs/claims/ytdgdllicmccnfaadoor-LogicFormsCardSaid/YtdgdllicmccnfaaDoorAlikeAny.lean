/- law2.alike answers true at all values. -/
import Derived.Test.YtdgdllicmccnfaaDoorLogAlike
namespace Go.Proofs.YtdgdllicmccnfaaDoor
open Go.RowKit
set_option linter.unusedVariables false
set_option linter.unusedSimpArgs false

theorem tv_agg (x : Option Bool) : ∃ (k i : Int) (s : ByteArray), tv x = .agg #[.int .i64 k, .int .i64 i, .string s] := by
  rcases x with _ | _ | _
  · exact ⟨0, 0, ⟨#[]⟩, rfl⟩
  · exact ⟨2, 0, ⟨#[]⟩, rfl⟩
  · exact ⟨2, 1, ⟨#[]⟩, rfl⟩
theorem ansV_agg (t : Int → Bool) (r : Int × Bool × Bool) : ∃ (k i : Int) (s : ByteArray), ansV t r = .agg #[.int .i64 k, .int .i64 i, .string s] := by
  unfold ansV
  split
  · exact ⟨_, _, _, rfl⟩
  · exact ⟨_, _, _, rfl⟩
theorem size0 : (⟨#[]⟩ : ByteArray).size ≤ maxLen := by simp [maxLen]; decide

section
variable (k1 i1 k2 i2 : Int) (s1 s2 : ByteArray) (h1 : s1.size ≤ maxLen) (h2 : s2.size ≤ maxLen)
include h1
theorem two_not : ∃ (k i : Int) (s : ByteArray) (j : Bool), Gives 49 #[.agg #[.int .i64 k1, .int .i64 i1, .string s1]] (.tuple #[.agg #[.int .i64 k, .int .i64 i, .string s], .bool j]) ∧ Gives 50 #[.agg #[.int .i64 k1, .int .i64 i1, .string s1]] (.tuple #[.agg #[.int .i64 k, .int .i64 i, .string s], .bool j]) := by
  cases e1 : lvB k1 i1 s1
  · exact ⟨_, _, _, _, logic_not_inv k1 i1 s1 h1 e1, ref2_not_inv k1 i1 s1 h1 e1⟩
  · obtain ⟨x, hx⟩ := lv_tv e1
    rw [hx]
    obtain ⟨k, i, s, hy⟩ := tv_agg (not3 x)
    exact ⟨k, i, s, true, by rw [← hy]; exact fun w => not_tv x w, by rw [← hy]; exact rnot_tv x⟩
include h2
theorem two_and : ∃ (k i : Int) (s : ByteArray) (j : Bool), Gives 47 #[.agg #[.int .i64 k1, .int .i64 i1, .string s1], .agg #[.int .i64 k2, .int .i64 i2, .string s2]] (.tuple #[.agg #[.int .i64 k, .int .i64 i, .string s], .bool j]) ∧
    Gives 51 #[.agg #[.int .i64 k1, .int .i64 i1, .string s1], .agg #[.int .i64 k2, .int .i64 i2, .string s2]] (.tuple #[.agg #[.int .i64 k, .int .i64 i, .string s], .bool j]) := by
  by_cases hh : lvB k1 i1 s1 = false ∨ lvB k2 i2 s2 = false
  · exact ⟨_, _, _, _, logic_And_inv k1 i1 s1 k2 i2 s2 h1 h2 hh, ref2_And_inv k1 i1 s1 k2 i2 s2 h1 h2 hh⟩
  · obtain ⟨x, hx⟩ := lv_tv (k := k1) (i := i1) (s := s1) (by simpa using fun h => hh (.inl h))
    obtain ⟨y, hy⟩ := lv_tv (k := k2) (i := i2) (s := s2) (by simpa using fun h => hh (.inr h))
    rw [hx, hy]
    obtain ⟨k, i, s, hz⟩ := tv_agg (and3 x y)
    exact ⟨k, i, s, true, by rw [← hz]; exact fun w => and_tv x y w, by rw [← hz]; exact rand_tv x y⟩
theorem two_or : ∃ (k i : Int) (s : ByteArray) (j : Bool), Gives 52 #[.agg #[.int .i64 k1, .int .i64 i1, .string s1], .agg #[.int .i64 k2, .int .i64 i2, .string s2]] (.tuple #[.agg #[.int .i64 k, .int .i64 i, .string s], .bool j]) ∧
    Gives 53 #[.agg #[.int .i64 k1, .int .i64 i1, .string s1], .agg #[.int .i64 k2, .int .i64 i2, .string s2]] (.tuple #[.agg #[.int .i64 k, .int .i64 i, .string s], .bool j]) := by
  by_cases hh : lvB k1 i1 s1 = false ∨ lvB k2 i2 s2 = false
  · exact ⟨_, _, _, _, logic_Or_inv k1 i1 s1 k2 i2 s2 h1 h2 hh, ref2_Or_inv k1 i1 s1 k2 i2 s2 h1 h2 hh⟩
  · obtain ⟨x, hx⟩ := lv_tv (k := k1) (i := i1) (s := s1) (by simpa using fun h => hh (.inl h))
    obtain ⟨y, hy⟩ := lv_tv (k := k2) (i := i2) (s := s2) (by simpa using fun h => hh (.inr h))
    rw [hx, hy]
    obtain ⟨k, i, s, hz⟩ := tv_agg (or3 x y)
    exact ⟨k, i, s, true, by rw [← hz]; exact or_tv x y, by rw [← hz]; exact ror_tv x y⟩

theorem alike_any : Gives 32 #[.agg #[.int .i64 k1, .int .i64 i1, .string s1], .agg #[.int .i64 k2, .int .i64 i2, .string s2]] (.bool true) := by
  obtain ⟨kn, inn, sn, jn, n1, n2⟩ := two_not k1 i1 s1 h1
  obtain ⟨kc, ic, sc, jc, c1, c2⟩ := two_and k1 i1 k2 i2 s1 s2 h1 h2
  obtain ⟨ke, ie, se, je, e1, e2⟩ := two_or k1 i1 k2 i2 s1 s2 h1 h2
  have q1 := equal_any k1 i1 s1 k2 i2 s2 h1 h2
  have q2 := requal_any k1 i1 s1 k2 i2 s2 h1 h2
  have l1 := less_any k1 i1 s1 k2 i2 s2 h1 h2
  have l2 := rless_any k1 i1 s1 k2 i2 s2 h1 h2
  obtain ⟨kq, iq, sq, hq⟩ := ansV_agg (fun c => c == 0) (cmp3 k1 i1 s1 k2 i2 s2)
  obtain ⟨kl, il, sl, hl⟩ := ansV_agg (fun c => decide (c < 0)) (cmp3 k1 i1 s1 k2 i2 s2)
  rw [hq] at q1 q2
  rw [hl] at l1 l2
  exact alike_core k1 i1 k2 i2 kn inn kc ic ke ie kq iq kl il s1 s2 sn sc se sq sl jn jc je _ _ _ _ n1 n2 c1 c2 e1 e2 q1 q2 l1 l2 (lvalid_any k1 i1 s1 h1) (rlvalid_any k1 i1 s1 h1) (istrue_any k1 i1 s1) (ristrue_any k1 i1 s1)
end
end Go.Proofs.YtdgdllicmccnfaaDoor

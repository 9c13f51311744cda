/- OrdPlain: a stuck set of marks lets no sequence through. No program in sight. -/
import Derived.Test.YtaefjgjojflppaaSPoss
namespace Go.Proofs.Ytaefjgjojflppaa
open Go.RowKit
set_option linter.unusedVariables false
set_option linter.unusedSimpArgs false

theorem blkU_less {f : Nat → Nat → Bool} {us us' : List Bool} {i : Nat} (h : ∀ k, us'.getD k false = true → us.getD k false = true) : ∀ m, blkU f us' i m = false → blkU f us i m = false
  | 0, _ => rfl
  | m + 1, hb => by
    rw [blkU_succ] at hb ⊢
    simp only [Bool.or_eq_false_iff] at hb ⊢
    refine ⟨blkU_less h m hb.1, ?_⟩
    have h2 := hb.2
    cases hm : (m != i)
    · simp
    · rw [hm] at h2
      simp only [Bool.true_and] at h2 ⊢
      cases hu : us.getD m false
      · cases hu' : us'.getD m false
        · rw [hu'] at h2; exact h2
        · rw [h m hu'] at hu; cases hu
      · simp
theorem getD_set_same {us : List Bool} {i : Nat} (hi : i < us.length) : (us.set i true).getD i false = true := by simp [List.getD, hi]
theorem getD_set_other {us : List Bool} {i k : Nat} (h : i ≠ k) : (us.set i true).getD k false = us.getD k false := by simp [List.getD, List.getElem?_set_ne h]
theorem all_used {us : List Bool} (h : us.countP id = us.length) : ∀ i, i < us.length → us.getD i false = true := fun i hi => by
  have := List.countP_eq_length.1 h us[i] (List.getElem_mem hi)
  simpa [List.getD, hi] using this
theorem stuck_none {f : Nat → Nat → Bool} {n : Nat} {us : List Bool} (hs : Stuck f n us) : ∀ (fuel : Nat) (us' : List Bool) (nw : List Int), us'.length = n → us'.countP id = nw.length → (∀ k, us'.getD k false = true → us.getD k false = true) → extS f n fuel us' nw = []
  | 0, _, _, _, _, _ => rfl
  | fuel + 1, us', nw, hl, hc, hsub => by
    obtain ⟨hul, ⟨i0, hi0, hu0⟩, hfr⟩ := hs
    by_cases hn : nw.length = n
    · have := all_used (us := us') (by omega) i0 (by omega)
      rw [hsub i0 this] at hu0; cases hu0
    · rw [extS_part hn]
      unfold extP
      rw [List.flatMap_eq_nil_iff]
      intro i hi
      have hin : i < n := List.mem_range.1 hi
      unfold extB
      split
      · rename_i hf
        unfold freeU at hf
        simp only [Bool.and_eq_true, Bool.not_eq_true'] at hf
        have hui : us.getD i false = true := by
          have := hfr i hin
          unfold freeU at this
          cases hu : us.getD i false
          · rw [hu, blkU_less hsub n hf.2] at this; simp at this
          · rfl
        refine stuck_none ⟨hul, ⟨i0, hi0, hu0⟩, hfr⟩ fuel _ _ (by simpa using hl) (by rw [count_set (by omega) hf.1, hc]; simp) fun k hk => ?_
        by_cases hik : i = k
        · subst hik; exact hui
        · rw [getD_set_other hik] at hk; exact hsub k hk
      · rfl
/-- the answer of Orders -/
def ordL (f : Nat → Nat → Bool) (n : Nat) (most : Int) : List (List Int) := if most < 1 then [] else (extS f n (n + 1) (List.replicate n false) []).take most.toNat
theorem ordL_low {f : Nat → Nat → Bool} {n : Nat} {most : Int} (h : most < 1) : ordL f n most = [] := by simp [ordL, h]
theorem ordL_stuck {f : Nat → Nat → Bool} {n : Nat} {most : Int} (h : ∃ us, Stuck f n us) : ordL f n most = [] := by
  obtain ⟨us, hs⟩ := h
  unfold ordL
  rw [stuck_none hs _ _ _ (by simp) (by rw [List.countP_eq_zero.2]; · rfl
                                        · intro x hx; rw [List.eq_of_mem_replicate hx]; simp) fun k hk => by
    have : (List.replicate n false).getD k false = false := by
      simp only [List.getD, List.getElem?_replicate]; split <;> rfl
    rw [this] at hk; cases hk]
  simp
theorem ordL_out {f : Nat → Nat → Bool} {n mo : Nat} (h : 0 < mo) : outP mo [] (extS f n (n + 1) (List.replicate n false) []) = ordL f n mo := by
  unfold ordL outP
  rw [if_neg (by omega)]
  simp
end Go.Proofs.Ytaefjgjojflppaa

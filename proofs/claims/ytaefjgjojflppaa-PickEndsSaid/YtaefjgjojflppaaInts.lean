/- Lists of numbers: the contracts of slices.Clone and slices.Equal in the words of memory. -/
import Derived.Test.YtaefjgjojflppaaChoose
import Derived.Test.YtaefjgjojflppaaShelf
import Derived.Test.YtaefjgjojflppaaAppH
namespace Go.Proofs.Ytaefjgjojflppaa
open Go.RowKit
set_option linter.unusedVariables false
set_option linter.unusedSimpArgs false

theorem IsIn.cells {w : World} {A : Option Addr} {n : Nat} {l : List Int} (h : IsIn A n l w) (h0 : 0 < n) : ∃ b o, A = some ⟨b, o, none⟩ ∧ b < w.heap.size ∧ ∀ j, j < l.length → w.cell? ⟨b, o + j, none⟩ = some (.int .i64 (l.getD j 0)) := by
  obtain ⟨b, o, rfl, hb, hc⟩ := (show Rd w w.heap.size 1 A n (iCells l) from h).2 h0
  refine ⟨b, o, rfl, hb, fun j hj => hc j _ ?_⟩
  simp [iCells, List.getD, hj]
/-- A list of numbers handed back, in a row of the call's own. -/
def OwnInts (w : World) (xs : List Int) (e : Ending) (w' : World) : Prop :=
  ∃ (A : Option Addr) (n c : Nat), e = .returned (.slice A n c) ∧ n = xs.length ∧ w'.ownsRow w.heap.size 3 1 (.slice A n c) n (iCells xs) ∧ Below w.heap.size w w'
theorem cloneInts_any (w : World) (A : Option Addr) (n c : Nat) (xs : List Int) (hD : IsIn A n xs w) (hn : n ≤ 17592186044416) :
    Calls Try.prog 20 #[.slice A n c] w fun e w' => OwnInts w xs e w' := by
  have hl := hD.len
  rcases A with _ | a
  · have h0 : n = 0 := by
      rcases Nat.eq_zero_or_pos n with h | h
      · exact h
      · obtain ⟨b, o, hA, _⟩ := hD.cells h; cases hA
    subst h0
    obtain rfl : xs = [] := List.length_eq_zero_iff.1 hl
    refine (Try.slices_Clone_int_nil 0 c w).mono ?_
    rintro e w' ⟨rfl, rfl⟩
    exact ⟨none, 0, 0, rfl, rfl, World.ownsRow_nil _ _ _ _, Below.refl _ _⟩
  · rcases Nat.eq_zero_or_pos n with h | h
    · subst h
      obtain rfl : xs = [] := List.length_eq_zero_iff.1 hl
      refine (Try.slices_Clone_int_zero a c w).mono ?_
      rintro e w' ⟨v, rfl, ho, _, hb⟩
      obtain ⟨A', c', rfl⟩ := own_form ho
      exact ⟨A', 0, c', rfl, rfl, ho, hb⟩
    · obtain ⟨b, o, hA, _, hc⟩ := hD.cells h
      obtain rfl : a = ⟨b, o, none⟩ := by injection hA
      refine (Try.slices_Clone_int b o n c xs w (by omega) (by omega) hc).mono ?_
      rintro e w' ⟨v, rfl, ho, _, hb⟩
      rw [List.take_of_length_le (by omega)] at ho
      obtain ⟨A', c', rfl⟩ := own_form ho
      exact ⟨A', n, c', rfl, hl.symm, ho, hb⟩
/-- Equal: whether the two lists are one. -/
theorem eqInts_any (w : World) (A : Option Addr) (n c : Nat) (xs : List Int) (B : Option Addr) (m d : Nat) (ys : List Int) (hD : IsIn A n xs w) (hE : IsIn B m ys w) (hn : n ≤ 17592186044416) (hm : m ≤ 17592186044416) :
    Calls Try.prog 18 #[.slice A n c, .slice B m d] w fun e w' => e = .returned (.bool (xs == ys)) ∧ ∃ q, w' = w.drewN q := by
  have hl := hD.len
  have hk := hE.len
  by_cases hnm : n = m
  · subst hnm
    rcases Nat.eq_zero_or_pos n with h | h
    · subst h
      obtain rfl : xs = [] := List.length_eq_zero_iff.1 hl
      obtain rfl : ys = [] := List.length_eq_zero_iff.1 hk
      refine (Try.slices_Equal_int_empty A B c 0 d w (by omega)).mono ?_
      rintro e w' ⟨rfl, rfl⟩
      exact ⟨rfl, 0, rfl⟩
    · obtain ⟨b, o, rfl, _, hc⟩ := hD.cells h
      obtain ⟨b', o', rfl, _, hc'⟩ := hE.cells h
      refine (Try.slices_Equal_int b o n c b' o' n d xs ys w (by omega) (by omega) (by omega) (by omega) hc hc').mono ?_
      rintro e w' ⟨rfl, hq⟩
      rw [List.take_of_length_le (by omega), List.take_of_length_le (by omega)]
      exact ⟨rfl, hq⟩
  · refine (Try.slices_Equal_int_lens A B n c m d w hnm).mono ?_
    rintro e w' ⟨rfl, rfl⟩
    refine ⟨?_, 0, rfl⟩
    have : (xs == ys) = false := by rw [beq_eq_false_iff_ne]; rintro rfl; omega
    rw [this]
theorem contInts_any (w : World) (A : Option Addr) (n c : Nat) (xs : List Int) (x : Int) (hD : IsIn A n xs w) (hn : n ≤ 17592186044416) :
    Calls Try.prog 34 #[.slice A n c, .int .i64 x] w fun e w' => e = .returned (.bool (xs.contains x)) ∧ w = w' := by
  have hl := hD.len
  rcases Nat.eq_zero_or_pos n with h | h
  · subst h
    obtain rfl : xs = [] := List.length_eq_zero_iff.1 hl
    refine (Try.slices_Contains_int_empty A c x w).mono ?_
    rintro e w' ⟨rfl, rfl⟩
    exact ⟨rfl, rfl⟩
  · obtain ⟨b, o, rfl, _, hc⟩ := hD.cells h
    refine (Try.slices_Contains_int b o n c xs x w (by omega) (by omega) hc).mono ?_
    rintro e w' ⟨rfl, rfl⟩
    rw [List.take_of_length_le (by omega)]
    exact ⟨rfl, rfl⟩
end Go.Proofs.Ytaefjgjojflppaa

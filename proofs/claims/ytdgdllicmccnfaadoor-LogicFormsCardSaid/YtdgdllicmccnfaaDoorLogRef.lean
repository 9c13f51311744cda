/- The contracts of the references of values and of the logic. -/
import Derived.Test.YtdgdllicmccnfaaDoorLogCmp
import Derived.Test.YtdgdllicmccnfaaDoorLogKnown
import Derived.Test.YtdgdllicmccnfaaDoorRVal
import Derived.Test.YtdgdllicmccnfaaDoorCmpPlain
import Derived.Shelf.Small.Strs
import Derived.Ground.NamesProg
import Derived.Shelf.Lay
namespace Go.Proofs.YtdgdllicmccnfaaDoor
open Go.RowKit
set_option linter.unusedVariables false
set_option linter.unusedSimpArgs false

/-- Valid values of the logic. -/
def lvB (k i : Int) (s : ByteArray) : Bool := validB k i s && (k == 2 || k == 0)
set_option maxHeartbeats 1000000 in
theorem lvalid_any (k i : Int) (s : ByteArray) (hs : s.size ≤ maxLen) : Gives 56 #[.agg #[.int .i64 k, .int .i64 i, .string s]] (.bool (lvB k i s)) := by
  intro w
  have v1 := fun w => valid_any k i s w hs
  cases e1 : validB k i s <;> cases e2 : (k == 2) <;> cases e0 : (k == 0)
  all_goals
    rw [e1] at v1
    have V1 := hid v1; clear v1
    go_enter Tryd.func56, Tryd.ntmps56
    go_wp2_with fail
    refine (V1.out _).mono ?_
    rintro e w1 ⟨rfl, rfl⟩
    go_wp2_with fail
    go_ret
    exact ⟨by simp [lvB, e1, e2, e0], ext2 _ _ _⟩
set_option maxHeartbeats 1000000 in
theorem rlvalid_any (k i : Int) (s : ByteArray) (hs : s.size ≤ maxLen) : Gives 57 #[.agg #[.int .i64 k, .int .i64 i, .string s]] (.bool (lvB k i s)) := by
  intro w
  have v1 := fun w => rvalid_any k i s w hs
  cases e1 : validB k i s <;> cases e2 : (k == 2) <;> cases e0 : (k == 0)
  all_goals
    rw [e1] at v1
    have V1 := hid v1; clear v1
    go_enter Tryd.func57, Tryd.ntmps57
    go_wp2_with fail
    refine (V1.out _).mono ?_
    rintro e w1 ⟨rfl, rfl⟩
    go_wp2_with fail
    go_ret
    exact ⟨by simp [lvB, e1, e2, e0], ext2 _ _ _⟩

shelf_lay Lays.n106 Nm 106 at Tryd as Tryd.lays106
theorem cb_eq : ∀ x y : List UInt8, Lib.compareBytes x y = if Op.bytesLess x y then -1 else if x == y then 0 else 1
  | [], [] => by simp [Lib.compareBytes, Op.bytesLess]
  | [], b :: y => by simp [Lib.compareBytes, Op.bytesLess]
  | a :: x, [] => by simp [Lib.compareBytes, Op.bytesLess]
  | a :: x, b :: y => by
    simp only [Lib.compareBytes, Op.bytesLess]
    by_cases h1 : a < b
    · simp [h1]
    · by_cases h2 : b < a
      · have hne : a ≠ b := by
          rintro rfl
          exact h1 h2
        simp [h1, h2, hne]
      · have he : a = b := by
          have h1' : ¬ a.toNat < b.toNat := h1
          have h2' : ¬ b.toNat < a.toNat := h2
          exact UInt8.toNat_inj.1 (by omega)
        subst he
        have := cb_eq x y
        simp [h1, this]
theorem toList_data (s : ByteArray) : s.toList = s.data.toList := by
  rw [ByteArray.toList_eq]
theorem scompare_any (a b : ByteArray) (w : World) : Calls Tryd.prog 76 #[.string a, .string b] w fun e w' => e = .returned (.int .i64 (cmpS a b)) ∧ w = w' := by
  have h := Any.strings_Compare Tryd.lays106 a b w
  change Calls Tryd.prog 76 _ _ _ at h
  refine h.mono ?_
  rintro e w' ⟨rfl, rfl⟩
  exact ⟨by rw [cb_eq]; unfold cmpS; rw [toList_data, toList_data], rfl⟩
end Go.Proofs.YtdgdllicmccnfaaDoor

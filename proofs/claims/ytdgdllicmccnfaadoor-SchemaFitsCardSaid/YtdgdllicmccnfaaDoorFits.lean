/- The contracts of schema.Fits and of its reference. -/
import Derived.Test.YtdgdllicmccnfaaDoorRVal
import Derived.Test.YtdgdllicmccnfaaDoorLogic2
import Derived.Test.YtdgdllicmccnfaaDoorBoxes
namespace Go.Proofs.YtdgdllicmccnfaaDoor
open Go.RowKit
set_option linter.unusedVariables false
set_option linter.unusedSimpArgs false

def fitsE (nm : ByteArray) (ty : Int) (nn key : Bool) (k i : Int) (s : ByteArray) : Int :=
  if validB k i s then (if k == 0 then (if nn then 8 else 0) else if k == ty then 0 else 5) else 17

set_option maxHeartbeats 1000000 in
theorem fits_any (nm : ByteArray) (ty : Int) (nn key : Bool) (k i : Int) (s : ByteArray) (hs : s.size ≤ maxLen) :
    Gives 23 #[.agg #[.string nm, .int .i64 ty, .bool nn, .bool key], .agg #[.int .i64 k, .int .i64 i, .string s]] (.int .i64 (fitsE nm ty nn key k i s)) := by
  intro w
  have v1 := fun w => valid_any k i s w hs
  cases e1 : validB k i s <;> cases z : (k == 0) <;> cases nn <;> cases tt : (k == ty)
  all_goals
    rw [e1] at v1
    have V1 := hid v1; clear v1
    have z' : (k != 0) = !(k == 0) := rfl
    have tt' : (k != ty) = !(k == ty) := rfl
    rw [z] at z'
    rw [tt] at tt'
    simp only [Bool.not_true, Bool.not_false] at z' tt'
    go_enter Tryd.func23, Tryd.ntmps23
    go_wp2_with fail
    refine (V1.out _).mono ?_
    rintro e w1 ⟨rfl, rfl⟩
    go_wp2_with fail
    go_ret
    exact ⟨by simp [fitsE, e1, z, tt], ext3 _ _ _ _⟩

set_option maxHeartbeats 1000000 in
theorem rfits_any (nm : ByteArray) (ty : Int) (nn key : Bool) (k i : Int) (s : ByteArray) (hs : s.size ≤ maxLen) :
    Gives 24 #[.agg #[.string nm, .int .i64 ty, .bool nn, .bool key], .agg #[.int .i64 k, .int .i64 i, .string s]] (.int .i64 (fitsE nm ty nn key k i s)) := by
  intro w
  have v1 := fun w => rvalid_any k i s w hs
  cases e1 : validB k i s <;> cases z : (k == 0) <;> cases nn <;> cases tt : (k == ty)
  all_goals
    rw [e1] at v1
    have V1 := hid v1; clear v1
    have z' : (k != 0) = !(k == 0) := rfl
    have tt' : (k != ty) = !(k == ty) := rfl
    rw [z] at z'
    rw [tt] at tt'
    simp only [Bool.not_true, Bool.not_false] at z' tt'
    go_enter Tryd.func24, Tryd.ntmps24
    go_wp2_with fail
    refine (V1.out _).mono ?_
    rintro e w1 ⟨rfl, rfl⟩
    go_wp2_with fail
    go_ret
    exact ⟨by simp [fitsE, e1, z, tt], ext3 _ _ _ _⟩
end Go.Proofs.YtdgdllicmccnfaaDoor

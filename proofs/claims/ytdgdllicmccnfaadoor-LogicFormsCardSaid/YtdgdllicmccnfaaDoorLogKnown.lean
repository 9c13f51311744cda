/- The sanity check of logic's laws answers true. -/
import Derived.Test.YtdgdllicmccnfaaDoorLogic2
import Derived.Test.YtdgdllicmccnfaaDoorBoxes
import Derived.Test.YtdgdllicmccnfaaDoorLogTrue
import Derived.Deep.RegionHeld3
namespace Go.Proofs.YtdgdllicmccnfaaDoor
open Go.RowKit
set_option linter.unusedVariables false

theorem cells3 {w : World} {g : Nat} {t : TypeId} {x y z : Value} (h : Blk w g t #[x, y, z]) : w.cell? ⟨g, 0, none⟩ = some x ∧ w.cell? ⟨g, 1, none⟩ = some y ∧ w.cell? ⟨g, 2, none⟩ = some z := ⟨h.cell 0, h.cell 1, h.cell 2⟩

/-- IsTrue: is it the value of true? -/
def isTrueB (k i : Int) (s : ByteArray) : Bool := k == 2 && (i == 1 && s.toList.isEmpty)

set_option maxHeartbeats 1000000 in
theorem istrue_any (k i : Int) (s : ByteArray) : Gives 48 #[.agg #[.int .i64 k, .int .i64 i, .string s]] (.bool (isTrueB k i s)) := by
  intro w
  cases h2 : (k == 2) <;> cases h1 : (i == 1) <;> cases he : s.toList.isEmpty
  all_goals
    have B0 := Blk.new w 39 #[.int .i64 k, .int .i64 i, .string s]
    go_enter Tryd.func48, Tryd.ntmps48
    go_wp2_with fail
    go_region_held3 (fun w' => w'.cell? ⟨w.heap.size, 0, none⟩ = some (.int .i64 k) ∧ w'.cell? ⟨w.heap.size, 1, none⟩ = some (.int .i64 i) ∧ w'.cell? ⟨w.heap.size, 2, none⟩ = some (.string s))
      (first | exact cells3 B0 | exact cells3 B1)
      (first | (go_at_call 46; refine (truth_any _ _).mono ?_; rintro e w4 ⟨rfl, b1⟩; have B1 : Blk w4 w.heap.size 39 #[.int .i64 k, .int .i64 i, .string s] := (b1.block _ B0.lt).trans B0))
    go_wp2_with fail
    go_ret
    exact ⟨by simp [isTrueB, h2, h1, he], ((Below.refl _ _).alloc (Nat.le_refl _) _).drew.trans (b1.mono (by simp))⟩

theorem ist_t : Gives 48 #[.agg #[.int .i64 2, .int .i64 1, .string ⟨#[]⟩]] (.bool true) := by
  have h := istrue_any 2 1 ⟨#[]⟩
  rwa [show isTrueB 2 1 ⟨#[]⟩ = true from by kernel_rfl] at h
theorem ist_0 : Gives 48 #[.agg #[.int .i64 0, .int .i64 0, .string ⟨#[]⟩]] (.bool false) := by
  have h := istrue_any 0 0 ⟨#[]⟩
  rwa [show isTrueB 0 0 ⟨#[]⟩ = false from by kernel_rfl] at h
theorem rtr_t (w : World) : Calls Tryd.prog 29 #[.bool true] w fun e w' => e = .returned (.agg #[.int .i64 2, .int .i64 1, .string ⟨#[]⟩]) ∧ Below w.heap.size w w' := rtruth_any true w
theorem rtr_f (w : World) : Calls Tryd.prog 29 #[.bool false] w fun e w' => e = .returned (.agg #[.int .i64 2, .int .i64 0, .string ⟨#[]⟩]) ∧ Below w.heap.size w w' := rtruth_any false w
theorem ist_tw (w : World) : Calls Tryd.prog 48 #[.agg #[.int .i64 2, .int .i64 1, .string ⟨#[]⟩]] w fun e w' => e = .returned (.bool true) ∧ Below w.heap.size w w' := ist_t w
theorem ist_0w (w : World) : Calls Tryd.prog 48 #[.agg #[.int .i64 0, .int .i64 0, .string ⟨#[]⟩]] w fun e w' => e = .returned (.bool false) ∧ Below w.heap.size w w' := ist_0 w
theorem and_nf : Gives 47 #[.agg #[.int .i64 0, .int .i64 0, .string ⟨#[]⟩], .agg #[.int .i64 2, .int .i64 0, .string ⟨#[]⟩]] (.tuple #[.agg #[.int .i64 2, .int .i64 0, .string ⟨#[]⟩], .bool true]) := fun w => and_tv none (some false) w

set_option maxHeartbeats 2000000 in
theorem known2 : Gives 28 #[] (.bool true) := by
  intro w
  go_enter Tryd.func28, Tryd.ntmps28
  go_wp2_with fail
  refine (rtr_f _).mono ?_
  rintro e w1 ⟨rfl, b1⟩
  go_wp2_with fail
  refine (and_nf _).mono ?_
  rintro e w2 ⟨rfl, b2⟩
  have a2 : Below w.heap.size w w2 := bnext b1 b2 (Nat.le_refl _)
  clear b1 b2
  go_wp2_with fail
  have B0 := Blk.new w2 39 #[.int .i64 2, .int .i64 0, .string ⟨#[]⟩]
  have l0 := ext1 w2 (.cells #[.int .i64 2, .int .i64 0, .string ⟨#[]⟩] 39)
  go_region_held3 (fun w' => w'.cell? ⟨w2.heap.size, 0, none⟩ = some (.int .i64 2) ∧ w'.cell? ⟨w2.heap.size, 1, none⟩ = some (.int .i64 0) ∧ w'.cell? ⟨w2.heap.size, 2, none⟩ = some (.string ⟨#[]⟩))
    (first | exact cells3 B0 | exact cells3 B1 | exact cells3 B2 | exact cells3 B3 | exact cells3 B4)
    (first
      | (go_at_call 29; ((with_reducible refine (rtr_f _).mono ?_); rintro e w3 ⟨rfl, b3⟩; have B1 : Blk w3 w2.heap.size 39 #[.int .i64 2, .int .i64 0, .string ⟨#[]⟩] := (b3.block _ B0.lt).trans B0))
      | (go_at_call 29; ((with_reducible refine (rtr_t _).mono ?_); rintro e w4 ⟨rfl, b4⟩; have B2 : Blk w4 w2.heap.size 39 #[.int .i64 2, .int .i64 0, .string ⟨#[]⟩] := (b4.block _ B1.lt).trans B1))
      | (go_at_call 48; ((with_reducible refine (ist_tw _).mono ?_); rintro e w5 ⟨rfl, b5⟩; have B3 : Blk w5 w2.heap.size 39 #[.int .i64 2, .int .i64 0, .string ⟨#[]⟩] := (b5.block _ B2.lt).trans B2))
      | (go_at_call 48; ((with_reducible refine (ist_0w _).mono ?_); rintro e w6 ⟨rfl, b6⟩; have B4 : Blk w6 w2.heap.size 39 #[.int .i64 2, .int .i64 0, .string ⟨#[]⟩] := (b6.block _ B3.lt).trans B3)))
  go_wp2_with fail
  go_ret
  have l := Nat.le_refl w.heap.size
  have a3 : Below w.heap.size w w3 := ((a2.trans (l0.mono a2.size)).drew).trans (b3.mono (by have := a2.size; simp; omega))
  exact ⟨rfl, bnext (bnext (bnext a3 b4 l) b5 l) b6 l⟩
end Go.Proofs.YtdgdllicmccnfaaDoor

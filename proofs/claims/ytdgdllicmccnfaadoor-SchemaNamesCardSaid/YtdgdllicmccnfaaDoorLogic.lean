/- The contracts of package logic: the three-valued logic. -/
import Derived.Test.YtdgdllicmccnfaaDoorVal
namespace Go.Proofs.YtdgdllicmccnfaaDoor
open Go.RowKit
set_option linter.unusedVariables false

/-- Null, false, true as values of the store. -/
def tv : Option Bool → Value
  | none => .agg #[.int .i64 0, .int .i64 0, .string ⟨#[]⟩]
  | some false => .agg #[.int .i64 2, .int .i64 0, .string ⟨#[]⟩]
  | some true => .agg #[.int .i64 2, .int .i64 1, .string ⟨#[]⟩]
def not3 : Option Bool → Option Bool
  | none => none
  | some b => some (!b)
def and3 : Option Bool → Option Bool → Option Bool
  | some false, _ => some false
  | _, some false => some false
  | some true, some true => some true
  | _, _ => none
def or3 (x y : Option Bool) : Option Bool := not3 (and3 (not3 x) (not3 y))

set_option maxHeartbeats 400000 in
theorem truth_any (b : Bool) (w : World) :
    Calls Tryd.prog 46 #[.bool b] w fun e w' => e = .returned (.agg #[.int .i64 2, .int .i64 (bif b then 1 else 0), .string ⟨#[]⟩]) ∧ Below w.heap.size w w' := by
  cases b
  all_goals
    go_enter Tryd.func46, Tryd.ntmps46
    go_wp2
    refine bodyPost_ret (v := .agg #[.int .i64 2, .int .i64 _, .string ⟨#[]⟩]) (by simp [results, Tryd.results46, go_sem]) rfl ⟨rfl, ?_⟩
    exact ((Below.refl _ _).alloc (Nat.le_refl _) _).alloc (by simp) _

theorem set3 {B g : Nat} {a w : World} (h : Below B a w) (hg : B ≤ g) (x y z : Value) : Below B a (((w.setCell ⟨g, 0, none⟩ x).setCell ⟨g, 1, none⟩ y).setCell ⟨g, 2, none⟩ z) :=
  Below.setCell (p := ⟨g, 2, none⟩) (Below.setCell (p := ⟨g, 1, none⟩) (Below.setCell (p := ⟨g, 0, none⟩) h hg _) hg _) hg _
theorem size_set (w : World) (p : Addr) (u : Value) : (w.setCell p u).heap.size = w.heap.size := by simp [World.setCell]
theorem below_size {W w1 : World} {B : Nat} (hb : Below B W w1) {n : Nat} (h : n < W.heap.size) : n < w1.heap.size := Nat.lt_of_lt_of_le h hb.size

set_option maxHeartbeats 1000000 in
theorem not_tv (x : Option Bool) (w : World) :
    Calls Tryd.prog 49 #[tv x] w fun e w' => e = .returned (.tuple #[tv (not3 x), .bool true]) ∧ Below w.heap.size w w' := by
  rcases x with _ | _ | _
  · simp only [tv, not3]
    go_enter Tryd.func49, Tryd.ntmps49
    go_wp2
    refine bodyPost_ret (v := .tuple #[tv none, .bool true]) (by simp [results, Tryd.results49, go_sem, tv]) rfl ⟨rfl, ?_⟩
    repeat (first | exact Below.refl _ _ | refine Below.alloc ?_ (by first | exact Nat.le_refl _ | (simp only [World.size_alloc]; omega)) _)
  all_goals
    simp only [tv, not3, Bool.not_true, Bool.not_false]
    go_enter Tryd.func49, Tryd.ntmps49
    go_wp2_with (first | (go_at_call 46; refine (truth_any _ _).mono ?_; rintro e w1 ⟨rfl, b1⟩; obtain ⟨hc, hf⟩ := below_cells b1; have hz := below_size b1 (n := w.heap.size + 1) (by simp only [World.size_alloc]; omega)) | go_in)
    refine bodyPost_ret (v := .tuple #[.agg #[.int .i64 2, .int .i64 _, .string ⟨#[]⟩], .bool true]) (by simp [results, Tryd.results49, go_sem, hc]) rfl ⟨rfl, ?_⟩
    refine Below.setCell (p := ⟨w.heap.size + 1, 2, none⟩) (Below.setCell (p := ⟨w.heap.size + 1, 1, none⟩) (Below.setCell (p := ⟨w.heap.size + 1, 0, none⟩) ?_ (by simp) _) (by simp) _) (by simp) _
    refine Below.trans ?_ (b1.mono (by simp only [World.size_alloc]; omega))
    repeat (first | exact Below.refl _ _ | refine Below.alloc ?_ (by first | exact Nat.le_refl _ | (simp only [World.size_alloc]; omega)) _)

set_option maxHeartbeats 2000000 in
theorem and1_tv (x y : Option Bool) (w : World) :
    Calls Tryd.prog 66 #[tv x, tv y] w fun e w' => e = .returned (tv (and3 x y)) ∧ Below w.heap.size w w' := by
  rcases x with _ | _ | _ <;> rcases y with _ | _ | _
  all_goals
    simp only [tv, and3]
    go_enter Tryd.func66, Tryd.ntmps66
    go_wp2_with fail
    refine (truth_any _ _).mono ?_; rintro e w1 ⟨rfl, b1⟩; obtain ⟨hc, hf⟩ := below_cells b1; have hz := below_size b1 (n := w.heap.size + 1 + 1) (by simp only [World.size_alloc]; omega); have hz1 : w.heap.size + 1 < w1.heap.size := by omega
    have hz0 : w.heap.size < w1.heap.size := by omega
    go_wp2_with (go_at_call 46; refine (truth_any _ _).mono ?_; rintro e w2 ⟨rfl, b2⟩; obtain ⟨hc2, hf2⟩ := below_cells b2; have hzz := below_size b2 (n := w.heap.size + 1 + 1) (by simp only [World.size_alloc]; omega))
    first
      | (refine bodyPost_ret (v := .agg #[.int .i64 _, .int .i64 _, .string ⟨#[]⟩]) (by simp [results, Tryd.results66, go_sem, hc2, hc, hz, hz1]) rfl ⟨rfl, ?_⟩
         refine set3 ?_ (by omega) _ _ _
         refine Below.trans (Below.alloc (Below.trans ?_ (b1.mono (by simp only [World.size_alloc]; omega))) (by omega) _) (b2.mono (by simp only [World.size_alloc]; omega))
         repeat (first | exact Below.refl _ _ | refine Below.alloc ?_ (by first | exact Nat.le_refl _ | (simp only [World.size_alloc]; omega)) _))
      | (refine bodyPost_ret (v := .agg #[.int .i64 _, .int .i64 _, .string ⟨#[]⟩]) (by simp [results, Tryd.results66, go_sem, hc, hz]) rfl ⟨rfl, ?_⟩
         refine Below.alloc (set3 (Below.trans ?_ (b1.mono (by simp only [World.size_alloc]; omega))) (by omega) _ _ _) (by simp only [size_set]; omega) _
         repeat (first | exact Below.refl _ _ | refine Below.alloc ?_ (by first | exact Nat.le_refl _ | (simp only [World.size_alloc]; omega)) _))
end Go.Proofs.YtdgdllicmccnfaaDoor

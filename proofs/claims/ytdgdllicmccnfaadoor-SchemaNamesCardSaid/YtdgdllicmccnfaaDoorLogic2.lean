/- The contracts of And and Or at the three values. -/
import Derived.Test.YtdgdllicmccnfaaDoorLogic
namespace Go.Proofs.YtdgdllicmccnfaaDoor
open Go.RowKit
set_option linter.unusedVariables false

set_option maxHeartbeats 2000000 in
theorem and_tv (x y : Option Bool) (w : World) :
    Calls Tryd.prog 47 #[tv x, tv y] w fun e w' => e = .returned (.tuple #[tv (and3 x y), .bool true]) ∧ Below w.heap.size w w' := by
  have hA := and1_tv x y
  obtain ⟨r, hr⟩ : ∃ r, r = and3 x y := ⟨_, rfl⟩
  rcases x with _ | _ | _ <;> rcases y with _ | _ | _
  all_goals
    simp only [and3] at hr
    subst hr
    simp only [tv, and3] at hA ⊢
    have HA := hid hA; clear hA
    go_enter Tryd.func47, Tryd.ntmps47
    go_wp2_with (first | (go_at_call 66; refine (HA.out _).mono ?_; rintro e w1 ⟨rfl, b1⟩; obtain ⟨hc, hf⟩ := below_cells b1; have hz := below_size b1 (n := w.heap.size + 1 + 1) (by simp only [World.size_alloc]; omega)) | go_in)
    refine bodyPost_ret (v := .tuple #[.agg #[.int .i64 _, .int .i64 _, .string ⟨#[]⟩], .bool true]) (by simp [results, Tryd.results47, go_sem, hc]) rfl ⟨rfl, ?_⟩
    refine set3 (Below.trans ?_ (b1.mono (by simp only [World.size_alloc]; omega))) (by omega) _ _ _
    repeat (first | exact Below.refl _ _ | refine Below.alloc ?_ (by first | exact Nat.le_refl _ | (simp only [World.size_alloc]; omega)) _)

/-- A call that gives a value, and turns nothing that was there. -/
def Gives (f : FuncId) (args : Array Value) (v : Value) : Prop :=
  ∀ w : World, Calls Tryd.prog f args w fun e w' => e = .returned v ∧ Below w.heap.size w w'

theorem lvalid_tv (x : Option Bool) : Gives 56 #[tv x] (.bool true) := by
  intro w
  rcases x with _ | _ | _
  all_goals
    simp only [tv]
    go_enter Tryd.func56, Tryd.ntmps56
    go_wp2
    go_ret
    exact ⟨rfl, ((Below.refl _ _).alloc (Nat.le_refl _) _).alloc (by simp) _⟩

set_option maxHeartbeats 2000000 in
theorem or_core (k1 i1 k2 i2 kp ip kq iq kr ir kt it : Int) (s1 s2 sp sq sr st : ByteArray) (t1 t2 t3 : Bool)
    (v1 : Gives 56 #[.agg #[.int .i64 k1, .int .i64 i1, .string s1]] (.bool true)) (v2 : Gives 56 #[.agg #[.int .i64 k2, .int .i64 i2, .string s2]] (.bool true))
    (n1 : Gives 49 #[.agg #[.int .i64 k1, .int .i64 i1, .string s1]] (.tuple #[.agg #[.int .i64 kp, .int .i64 ip, .string sp], .bool t1]))
    (n2 : Gives 49 #[.agg #[.int .i64 k2, .int .i64 i2, .string s2]] (.tuple #[.agg #[.int .i64 kq, .int .i64 iq, .string sq], .bool t2]))
    (c : Gives 66 #[.agg #[.int .i64 kp, .int .i64 ip, .string sp], .agg #[.int .i64 kq, .int .i64 iq, .string sq]] (.agg #[.int .i64 kr, .int .i64 ir, .string sr]))
    (n3 : Gives 49 #[.agg #[.int .i64 kr, .int .i64 ir, .string sr]] (.tuple #[.agg #[.int .i64 kt, .int .i64 it, .string st], .bool t3])) :
    Gives 52 #[.agg #[.int .i64 k1, .int .i64 i1, .string s1], .agg #[.int .i64 k2, .int .i64 i2, .string s2]] (.tuple #[.agg #[.int .i64 kt, .int .i64 it, .string st], .bool t3]) := by
  intro w
  go_enter Tryd.func52, Tryd.ntmps52
  go_wp2_with fail
  refine (v1 _).mono ?_
  rintro e w1 ⟨rfl, b1⟩
  obtain ⟨hc1, hf1⟩ := below_cells b1
  have z12 := below_size b1 (n := w.heap.size + 1 + 1) (by simp only [World.size_alloc]; omega)
  have z11 : w.heap.size + 1 < w1.heap.size := by omega
  have z10 : w.heap.size < w1.heap.size := by omega
  go_wp2_with fail
  refine (v2 _).mono ?_
  rintro e w2 ⟨rfl, b2⟩
  obtain ⟨hc2, hf2⟩ := below_cells b2
  have z22 := below_size b2 (n := w.heap.size + 1 + 1) (by omega)
  have z21 : w.heap.size + 1 < w2.heap.size := by omega
  have z20 : w.heap.size < w2.heap.size := by omega
  go_wp2_with fail
  refine (n1 _).mono ?_
  rintro e w3 ⟨rfl, b3⟩
  obtain ⟨hc3, hf3⟩ := below_cells b3
  have z32 := below_size b3 (n := w.heap.size + 1 + 1) (by omega)
  have z31 : w.heap.size + 1 < w3.heap.size := by omega
  have z30 : w.heap.size < w3.heap.size := by omega
  go_wp2_with fail
  refine (n2 _).mono ?_
  rintro e w4 ⟨rfl, b4⟩
  obtain ⟨hc4, hf4⟩ := below_cells b4
  have z43 := below_size b4 (n := w3.heap.size) (by simp only [World.size_alloc]; omega)
  have z42 : w.heap.size + 1 + 1 < w4.heap.size := by omega
  have z41 : w.heap.size + 1 < w4.heap.size := by omega
  have z40 : w.heap.size < w4.heap.size := by omega
  go_wp2_with fail
  refine (c _).mono ?_
  rintro e w5 ⟨rfl, b5⟩
  obtain ⟨hc5, hf5⟩ := below_cells b5
  have z52 := below_size b5 (n := w.heap.size + 1 + 1) (by simp only [World.size_alloc]; omega)
  go_wp2_with fail
  refine (n3 _).mono ?_
  rintro e w6 ⟨rfl, b6⟩
  obtain ⟨hc6, hf6⟩ := below_cells b6
  have z62 := below_size b6 (n := w.heap.size + 1 + 1) (by omega)
  have y31 : w.heap.size + 1 + 1 < w3.heap.size + 1 := by omega
  have y41 : w.heap.size + 1 + 1 < w4.heap.size + 1 := by omega
  go_wp2_with fail
  refine bodyPost_ret (v := .tuple #[.agg #[.int .i64 _, .int .i64 _, .string _], .bool _]) (by simp [results, Tryd.results52, go_sem, hc6, hc5, hc4, hc3, hc2, hc1, z52, z42, z32, z22, z12, y31, y41]) rfl ⟨rfl, ?_⟩
  refine set3 ?_ (by omega) _ _ _
  have l := Nat.le_refl w.heap.size
  have a1 : Below w.heap.size w w1 := Below.trans (by repeat (first | exact Below.refl _ _ | refine Below.alloc ?_ (by first | exact Nat.le_refl _ | (simp only [World.size_alloc]; omega)) _)) (b1.mono (by simp only [World.size_alloc]; omega))
  have a2 := bnext a1 b2 l
  have a3 := bnext a2 b3 l
  have a4 : Below w.heap.size w w4 := bnext (a3.alloc (by omega) _) b4 l
  exact bnext (bnext (a4.alloc (by omega) _) b5 l) b6 l

theorem or_tv (x y : Option Bool) : Gives 52 #[tv x, tv y] (.tuple #[tv (or3 x y), .bool true]) := by
  have v1 := lvalid_tv x
  have v2 := lvalid_tv y
  have hN1 := not_tv x
  have hN2 := not_tv y
  have hA := and1_tv (not3 x) (not3 y)
  have hN3 := not_tv (and3 (not3 x) (not3 y))
  rcases x with _ | _ | _ <;> rcases y with _ | _ | _ <;> exact or_core _ _ _ _ _ _ _ _ _ _ _ _ _ _ _ _ _ _ _ _ _ v1 v2 hN1 hN2 hA hN3
end Go.Proofs.YtdgdllicmccnfaaDoor

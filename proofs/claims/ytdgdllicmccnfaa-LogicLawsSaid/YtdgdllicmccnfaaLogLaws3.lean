/- LogicLaws answers true for every three numbers: order and grouping do not matter, And and Or are dual, and And distributes over Or. No condition. -/
import Derived.Test.YtdgdllicmccnfaaLawBase
import Derived.Test.YtdgdllicmccnfaaLogKnown
import Derived.Test.YtdgdllicmccnfaaOpens
namespace Go.Proofs.Ytdgdllicmccnfaa
open Go.ChangeShapes Go.WideShapes Go.ChangeAt Go.RowKit
set_option linter.unusedVariables false

theorem gives_tv (x y z : Option Bool) (ni nj nk : Int) (h0 : Gives 20 #[.int .i64 ni] (tv x)) (h1 : Gives 20 #[.int .i64 nj] (tv y)) (h2 : Gives 20 #[.int .i64 nk] (tv z)) (w : World) :
    Calls Try.prog 6 #[.int .i64 ni, .int .i64 nj, .int .i64 nk] w fun e w' => e = .returned (.bool true) ∧ Below w.heap.size w w' := by
  have A : ∀ x y, Gives 21 #[tv x, tv y] (.tuple #[tv (and3 x y), .bool true]) := fun x y w => and_tv x y w
  have N : ∀ x, Gives 22 #[tv x] (.tuple #[tv (not3 x), .bool true]) := fun x w => not_tv x w
  have O : ∀ x y, Gives 23 #[tv x, tv y] (.tuple #[tv (or3 x y), .bool true]) := or_tv
  have c1 := A x y
  have c2 := A y x
  have c3 := A y z
  have c4 := A (and3 x y) z
  have c5 := A x (and3 y z)
  have c6 := N x
  have c7 := N y
  have c8 := O (not3 x) (not3 y)
  have c9 := N (or3 (not3 x) (not3 y))
  have d1 := O y z
  have d2 := A x (or3 y z)
  have d3 := A x z
  have d4 := O (and3 x y) (and3 x z)
  have d5 := N (not3 x)
  clear A N O
  rcases x with _ | _ | _ <;> rcases y with _ | _ | _ <;> rcases z with _ | _ | _ <;>
    exact laws_core ni nj nk _ _ _ _ _ _ _ _ _ _ _ _ _ _ _ _ _ _ _ _ _ _ _ _ _ _ _ _ _ _ _ _ _ _ _ _ h0 h1 h2 c1 c2 c3 c4 c5 c6 c7 c8 c9 d1 d2 d3 d4 d5 known2 w

theorem loglaws_walk (i j k : Int) (w : World) (hi : I64 i) (hj : I64 j) (hk : I64 k) :
    Calls Try.prog 6 #[.int .i64 i, .int .i64 j, .int .i64 k] w fun e w' => e = .returned (.bool true) ∧ Below w.heap.size w w' :=
  gives_tv _ _ _ i j k (truths_any i hi) (truths_any j hj) (truths_any k hk) w

set_option maxRecDepth 100000 in
theorem loglaws_lifted (os : Os) (started : os.Started) (H : Type) (enc : TypeId × Value → H) :
    ReturnsInHanded {} Try.checked os 6 .any (Rows.logicLawsSpec.pre6 enc Try.prog Try.f6 Rows.logicLawsRow.domain false) (Rows.logicLawsSpec.post enc Try.prog Try.f6 false true false false) := by
  refine returnsInHanded_of_change_sized (C := Try.checked) own started (by kernel_rfl) Try.func6
    (ChangeSpec.witness6 (enc := enc) (C := Try.checked) false ⟨#[], #[.int .i64 0, .int .i64 0, .int .i64 0], []⟩ 8 (by kernel_rfl) (by kernel_rfl) (by kernel_rfl) (by kernel_rfl)) ?_
  intro W base args ds gs before hval0 hW _ hsz0 _
  have hsz : (DataW.weightsEach Try.prog (Try.f6.params.toList ++ Rows.logicLawsSpec.plain.varTypes Try.prog) (ds ++ gs)).all (· ≤ reachBytes) = true := hsz0
  have hval : ∀ (j : Nat) t v, Try.f6.params[j]? = some t → args[j]? = some v → Value.okWide Try.prog W .any base t v := hval0
  have hW' := hW
  obtain ⟨p, q, hA0, hV, rfl, hfz, hnd⟩ := hW
  have hA : DataW.TrodAll enc Try.prog W 0 (fun _ => true) true Try.f6.params.toList args.toList ds p := hA0
  rw [Try.params6] at hA hval hsz
  obtain ⟨v0, vs0, d0, ds0, p0, q0, hargs, rfl, rfl, h0, r0⟩ := trodAll_cons hA
  obtain ⟨v1, vs1, d1, ds1, p1, q1, rfl, rfl, rfl, h1, r1⟩ := trodAll_cons r0
  obtain ⟨v2, vs2, d2, ds2, p2, q2, rfl, rfl, rfl, h2, r2⟩ := trodAll_cons r1
  obtain ⟨rfl, rfl, rfl⟩ := trodAll_nil r2
  obtain rfl : args = #[v0, v1, v2] := by cases args; simp_all
  obtain ⟨rfl, rfl⟩ := trodVars_none hV
  obtain ⟨a0, rfl, rfl, rfl, w0⟩ := open_int Try.underlying3 (hval 0 3 v0 rfl rfl) h0
  obtain ⟨a1, rfl, rfl, rfl, w1⟩ := open_int Try.underlying3 (hval 1 3 v1 rfl rfl) h1
  obtain ⟨a2, rfl, rfl, rfl, w2⟩ := open_int Try.underlying3 (hval 2 3 v2 rfl rfl) h2
  refine (loglaws_walk a0 a1 a2 W (i64_of_wf w0) (i64_of_wf w1) (i64_of_wf w2)).mono fun e W' ⟨he, hb⟩ => ?_
  exact ⟨_, he, law_post rfl laidOut (by kernel_rfl) (by kernel_rfl) Try.underlying4 rfl hW' hb⟩

theorem loglaws_holds : Rows.LogicLawsSaid :=
  OpenClaim.holds_of_wide 6 Try.f6 rfl rfl rfl rfl rfl rfl rfl ⟨rfl, rfl, rfl, rfl, rfl⟩ rfl rfl rfl rfl rfl (by kernel_rfl) Try.func6 (by kernel_rfl)
    (of_decide_eq_true (by kernel_rfl)) (by unfold Func.isWrapper; first | (rw [if_pos (by decide +kernel)]; kernel_rfl) | (rw [if_neg (by decide +kernel)]; exact ⟨rfl, rfl⟩))
    (fun os started H enc _ => loglaws_lifted os started H enc)
#print axioms loglaws_holds
end Go.Proofs.Ytdgdllicmccnfaa

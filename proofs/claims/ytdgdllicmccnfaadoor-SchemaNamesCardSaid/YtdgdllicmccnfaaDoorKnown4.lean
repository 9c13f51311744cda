/- The sanity check of schema's laws answers true. -/
import Derived.Test.YtdgdllicmccnfaaDoorSchema
import Derived.Test.YtdgdllicmccnfaaDoorSchValid
namespace Go.Proofs.YtdgdllicmccnfaaDoor
open Go.RowKit
set_option linter.unusedVariables false
set_option linter.unusedSimpArgs false

theorem schemaOf_t : schemaOf ⟨#[116]⟩ = (nmT, tCols) := by kernel_rfl
theorem schema_t (w : World) : Calls Tryd.prog 41 #[.string ⟨#[116]⟩] w fun e w' => SchemaIs w None_ nmT tCols e w' := by
  have h := schema_any None_ w (fun b hb => hb.elim) ⟨#[116]⟩
  rwa [schemaOf_t] at h
theorem tv1 : schemaB nmT tCols = true := by decide +kernel
theorem tv2 : findB Col.key tCols = 0 := by decide +kernel
theorem tv3 : findB (named ⟨#[98]⟩) tCols = 2 := by decide +kernel
theorem tv4 : nameB ⟨#[97, 49, 95]⟩ = true := by decide +kernel
theorem tv5 : nameB ⟨#[49, 97]⟩ = false := by decide +kernel
theorem tv6 : kwB ⟨#[65, 66, 79, 82, 84]⟩ = true := by decide +kernel
theorem small_names : nmT.size ≤ maxLen ∧ (∀ x ∈ tCols, x.name.size ≤ maxLen) ∧ (⟨#[97, 49, 95]⟩ : ByteArray).size ≤ maxLen ∧ (⟨#[49, 97]⟩ : ByteArray).size ≤ maxLen := by
  unfold maxLen
  refine ⟨by decide +kernel, fun x hx => ?_, by decide +kernel, by decide +kernel⟩
  simp only [tCols, List.mem_cons, List.not_mem_nil, or_false] at hx
  rcases hx with rfl | rfl | rfl | rfl <;> decide +kernel

set_option maxHeartbeats 4000000 in
theorem known4 : Gives 17 #[] (.bool true) := by
  intro w
  have K0 := Hold.begin_ w
  have HS := hid small_names
  go_enter Tryd.func17, Tryd.ntmps17
  go_wp2_with fail
  refine (schema_t _).mono ?_
  rintro e w1 ⟨A, n, c, rfl, h1, h2, r1, b1⟩
  have K1 := ((K0.call b1).add (r1.less (by simp [Mut, None_]))).alloc_cst #[.string nmT, .slice A n c] 24
  clear K0 r1 b1
  go_wp2_with fail
  refine (svalid_any (Mut None_ _) _ K1.mutLt nmT A n c tCols (K1.ro 1 rfl) (by omega) HS.out.1 HS.out.2.1).mono ?_
  rintro e w2 ⟨rfl, b2⟩
  rw [tv1]
  have K2 := K1.call b2
  clear b2
  have F2 := K2.facts
  simp only [World.size_alloc, World.size_drew, factsL, cellsF, Nat.reduceAdd, List.toList_toArray, List.set_cons_zero, List.set_cons_succ, List.setIfInBounds_toArray, and_true, true_and] at F2
  go_wp2_with fail
  refine (keycol_any (Mut None_ _) _ K2.mutLt nmT A n c tCols (K2.ro 1 rfl) (by omega)).mono ?_
  rintro e w3 ⟨rfl, b3⟩
  rw [tv2]
  have K3 := K2.call b3
  clear b3 F2
  have F3 := K3.facts
  simp only [World.size_alloc, World.size_drew, factsL, cellsF, Nat.reduceAdd, List.toList_toArray, List.set_cons_zero, List.set_cons_succ, List.setIfInBounds_toArray, and_true, true_and] at F3
  go_wp2_with fail
  refine (find_any (Mut None_ _) _ K3.mutLt nmT A n c tCols ⟨#[98]⟩ (K3.ro 1 rfl) (by omega)).mono ?_
  rintro e w4 ⟨rfl, b4⟩
  rw [tv3]
  have K4 := K3.call b4
  clear b4 F3
  go_wp2_with fail
  refine (validname_any _ _ HS.out.2.2.1).mono ?_
  rintro e w5 ⟨rfl, b5⟩
  rw [tv4]
  have K5 := K4.call b5
  clear b5
  go_wp2_with fail
  refine (validname_any _ _ HS.out.2.2.2).mono ?_
  rintro e w6 ⟨rfl, b6⟩
  rw [tv5]
  have K6 := K5.call b6
  clear b6
  go_wp2_with fail
  refine (keyword_any _ _).mono ?_
  rintro e w7 ⟨rfl, b7⟩
  rw [tv6]
  have K7 := K6.call b7
  clear b7
  go_wp2
  go_ret
  exact ⟨rfl, K7.below⟩
end Go.Proofs.YtdgdllicmccnfaaDoor

/- SchemaFits answers true for all columns, all values and every tape: Fits of the program and of the reference are the same. Condition: the row's own, the laid table of words; the tied card. -/
import Derived.Test.YtdgdllicmccnfaaDoorCards
import Derived.Test.YtdgdllicmccnfaaDoorTie
import Derived.Test.YtdgdllicmccnfaaDoorLawBase
import Derived.Test.YtdgdllicmccnfaaDoorOpens
import Derived.Test.YtdgdllicmccnfaaDoorWordsTab
import Derived.Test.YtdgdllicmccnfaaDoorOpens2
import Derived.Test.YtdgdllicmccnfaaDoorSchFitLaw
namespace Go.Proofs.YtdgdllicmccnfaaDoor
open Go.ChangeShapes Go.WideShapes Go.ChangeAt Go.RowKit
set_option linter.unusedVariables false
set_option linter.unusedSimpArgs false

namespace LawSchemaFits
set_option maxRecDepth 100000 in
theorem contract (H : Type) (enc : TypeId × Value → H) (W : World) (base : Nat) (args : Array Value) (ds gs : List (DataW H)) (before : List MemPlace)
    (hval0 : ∀ (j : Nat) t v, Tryd.f4.params[j]? = some t → args[j]? = some v → Value.okWide Tryd.prog W .any base t v)
    (hsz0 : (DataW.weightsEach Tryd.prog (Tryd.f4.params.toList ++ Rows.schemaFitsSpec.plain.varTypes Tryd.prog) (ds ++ gs)).all (· ≤ reachBytes) = true)
    (hW : DataW.Whole enc Tryd.prog Tryd.f4.params.toList Rows.schemaFitsSpec.vars false W args.toList ds gs before) (hL : laidMetH Tryd.prog Rows.schemaFitsRow.laid W) :
    Calls Tryd.prog 4 args W fun e W' => ∃ v, e = .returned v ∧ Rows.schemaFitsSpec.post enc Tryd.prog Tryd.f4 false true false false W args v W' := by
  have hsz : (DataW.weightsEach Tryd.prog (Tryd.f4.params.toList ++ Rows.schemaFitsSpec.plain.varTypes Tryd.prog) (ds ++ gs)).all (· ≤ reachBytes) = true := hsz0
  have hval : ∀ (j : Nat) t v, Tryd.f4.params[j]? = some t → args[j]? = some v → Value.okWide Tryd.prog W .any base t v := hval0
  have hW' := hW
  obtain ⟨p, q, hA0, hV, rfl, hfz, hnd⟩ := hW
  have hA : DataW.TrodAll enc Tryd.prog W 0 (fun _ => true) true Tryd.f4.params.toList args.toList ds p := hA0
  rw [Tryd.params4] at hA hval hsz
  obtain ⟨v0, vs0, d0, ds0, p0, q0, hargs, rfl, rfl, h0, r0⟩ := trodAll_cons hA
  obtain ⟨v1, vs1, d1, ds1, p1, q1, rfl, rfl, rfl, h1, r1⟩ := trodAll_cons r0
  obtain ⟨v2, vs2, d2, ds2, p2, q2, rfl, rfl, rfl, h2, r2⟩ := trodAll_cons r1
  obtain ⟨rfl, rfl, rfl⟩ := trodAll_nil r2
  obtain rfl : args = #[v0, v1, v2] := by cases args; simp_all
  obtain ⟨rfl, rfl⟩ := trodVars_none hV
  obtain ⟨⟨nm0, ty0, nn0, key0⟩, rfl, wt0, wn0⟩ := open_col Tryd.underlying35 (by kernel_rfl) (by kernel_rfl) Tryd.underlying9 Tryd.underlying3 Tryd.underlying4 Tryd.underlying4 (hval 0 35 v0 rfl rfl) h0
  obtain ⟨ka1, ia1, sa1, rfl, wk1, wi1, ws1⟩ := open_vl Tryd.underlying39 (by kernel_rfl) (by kernel_rfl) Tryd.underlying3 Tryd.underlying2 Tryd.underlying9 (hval 1 39 v1 rfl rfl) h1
  obtain ⟨A2, n2, c2, zs2, rfl, k2, z2, l2, m2, e2⟩ := open_i64s Tryd.underlying25 Tryd.underlying3 (by kernel_rfl) (hval 2 25 v2 rfl rfl) h2
  refine (schfits_walk nm0 ty0 nn0 key0 ka1 ia1 sa1 ws1 A2 n2 c2 zs2 W k2 z2 l2 (by unfold maxLen at m2; omega) (wds_of_laid (rest := []) hL)).mono fun e W' ⟨he, hb⟩ => ?_
  exact ⟨_, he, law_post rfl laidOut (by kernel_rfl) (by kernel_rfl) Tryd.underlying4 rfl hW' hb⟩

theorem laid_met (os : Os) : laidMet Tryd.prog Rows.schemaFitsRow.laid ((wordsWorld os).forCall (fun _ _ => 0) ⟨#[], #[.agg #[.string ⟨#[]⟩, .int .i64 0, .bool false, .bool false], .agg #[.int .i64 0, .int .i64 0, .string ⟨#[]⟩], .slice none 0 0], []⟩).memory :=
  laidMet_of_run' 16 (by kernel_rfl) (by kernel_rfl)
theorem reads (os : Os) {H : Type} (enc : TypeId × Value → H) : ∃ places, DataW.whole enc Tryd.prog ((wordsWorld os).forCall (fun _ _ => 0) ⟨#[], #[.agg #[.string ⟨#[]⟩, .int .i64 0, .bool false, .bool false], .agg #[.int .i64 0, .int .i64 0, .string ⟨#[]⟩], .slice none 0 0], []⟩).memory Tryd.f4.params.toList Rows.schemaFitsSpec.vars false #[.agg #[.string ⟨#[]⟩, .int .i64 0, .bool false, .bool false], .agg #[.int .i64 0, .int .i64 0, .string ⟨#[]⟩], .slice none 0 0].toList 8 = some ([.agg [.lit (.string []), .lit (.int .i64 0), .lit (.bool false), .lit (.bool false)], .agg [.lit (.int .i64 0), .lit (.int .i64 0), .lit (.string [])], .nil], [], places) :=
  ⟨[], by kernel_rfl⟩

set_option maxRecDepth 100000 in
theorem lifted (os : Os) (started : os.Started) (H : Type) (enc : TypeId × Value → H) (F : Stop.Interp) :
    ReturnsInHanded {} Tryd.checked os 4 .any ((OpenSpec.ofChange Rows.schemaFitsSpec).preRow enc Tryd.prog Tryd.f4 Rows.schemaFitsRow.domain false Rows.schemaFitsRow.laid) (((OpenSpec.ofChange Rows.schemaFitsSpec).at F).post enc Tryd.prog Tryd.f4 false true false false) := by
  obtain ⟨places, hx⟩ := reads os enc
  refine returnsInHanded_of_row (C := Tryd.checked) (s := OpenSpec.ofChange Rows.schemaFitsSpec) own started (by kernel_rfl) Tryd.func4
    (witness_row_at (enc := enc) (C := Tryd.checked) false (wordsWorld os) #[.agg #[.string ⟨#[]⟩, .int .i64 0, .bool false, .bool false], .agg #[.int .i64 0, .int .i64 0, .string ⟨#[]⟩], .slice none 0 0] rfl (by kernel_rfl) (by kernel_rfl) (by kernel_rfl)
      (OpenSpec.preRow_of_cond 8 hx (by kernel_rfl) (fun k hk => by cases hk) (by kernel_rfl) (laid_met os))) ?_
  intro W base args ds gs before hval hW _ _ hsz0 hL _ _
  exact contract H enc W base args ds gs before hval hsz0 hW hL

theorem said : Rows.SchemaFitsSaid :=
  OpenClaim.holds_of_cond 4 Tryd.f4 rfl rfl rfl rfl rfl rfl rfl ⟨rfl, rfl, rfl, rfl, rfl⟩ rfl rfl rfl rfl rfl (by kernel_rfl) Tryd.func4 (by kernel_rfl)
    (of_decide_eq_true (by kernel_rfl)) (by unfold Func.isWrapper; first | (rw [if_pos (by decide +kernel)]; kernel_rfl) | (rw [if_neg (by decide +kernel)]; exact ⟨rfl, rfl⟩))
    (fun os started H enc _ F => by rw [OpenClaim.pre_eq_preRow]; exact lifted os started H enc F)

theorem plain (f : FuncId) (fn : Func) (hf : Tryd.pinned.checked.prog.funcNamed "triggerstore/triggerstorelaw4.SchemaFits" = some f) (hfn : Tryd.pinned.checked.prog.funcs[f]? = some fn) :
    false = Tryd.pinned.checked.prog.looks [] ∧ ∀ (j : Nat) t, fn.params[j]? = some t → Tryd.pinned.checked.prog.wantsStandIn t = false := by
  obtain rfl : f = 4 := Option.some.inj ((show Tryd.prog.funcNamed "triggerstore/triggerstorelaw4.SchemaFits" = some 4 by kernel_rfl).symm.trans hf) |>.symm
  obtain rfl : fn = Tryd.f4 := (Option.some.inj (Tryd.func4.symm.trans hfn)).symm
  refine ⟨by kernel_rfl, fun j t ht => ?_⟩
  rw [Tryd.params4] at ht
  have hm := Array.mem_of_getElem? ht
  simp only [List.mem_toArray, List.mem_cons, List.not_mem_nil, or_false] at hm
  rcases hm with rfl | rfl | rfl
  · exact (show Tryd.prog.wantsStandIn 35 = false by kernel_rfl)
  · exact (show Tryd.prog.wantsStandIn 39 = false by kernel_rfl)
  · exact (show Tryd.prog.wantsStandIn 25 = false by kernel_rfl)
end LawSchemaFits

theorem schemaFits_holds : Rows.SchemaFitsCardSaid :=
  Claim7.holds_tied_plain_at .later [] _ _ _ _ LawSchemaFits.said (fun _ h => by cases h) (by kernel_rfl) (fun _ h => by cases h) schemaFits_row_tie rfl ⟨rfl, rfl⟩ (by kernel_rfl) rfl LawSchemaFits.plain (by kernel_rfl)
#print axioms schemaFits_holds
end Go.Proofs.YtdgdllicmccnfaaDoor

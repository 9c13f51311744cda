/- KeysForms answers true for every table, every change and every tape: Valid and Apply of the program and of the reference are the same. Condition: the row's own, the laid table of words; the tied card. -/
import Derived.Test.YthljihlndpgjcaaDoorCards
import Derived.Test.YthljihlndpgjcaaDoorTie
import Derived.Test.YthljihlndpgjcaaDoorKFormSaidMA
import Derived.Test.YthljihlndpgjcaaDoorKFormSaidMF
import Derived.Test.YthljihlndpgjcaaDoorKFormSaidMH
namespace Go.Proofs.YthljihlndpgjcaaDoor
open Go.ChangeShapes Go.WideShapes Go.ChangeAt Go.RowKit
set_option linter.unusedVariables false
set_option linter.unusedSimpArgs false

namespace LawKeysForms
set_option maxRecDepth 100000 in
theorem contract (H : Type) (enc : TypeId × Value → H) (W : World) (base : Nat) (args : Array Value) (ds gs : List (DataW H)) (before : List MemPlace)
    (hval0 : ∀ (j : Nat) t v, Tryd.f6.params[j]? = some t → args[j]? = some v → Value.okWide Tryd.prog W .any base t v)
    (hsz0 : (DataW.weightsEach Tryd.prog (Tryd.f6.params.toList ++ Rows.keysFormsSpec.plain.varTypes Tryd.prog) (ds ++ gs)).all (· ≤ reachBytes) = true)
    (hW : DataW.Whole enc Tryd.prog Tryd.f6.params.toList Rows.keysFormsSpec.vars false W args.toList ds gs before) (hL : laidMetH Tryd.prog Rows.keysFormsRow.laid W) (hsh : W.ShapedOpen Tryd.prog) :
    Calls Tryd.prog 6 args W fun e W' => ∃ v, e = .returned v ∧ Rows.keysFormsSpec.post enc Tryd.prog Tryd.f6 false true false false W args v W' := by
  have hsz : (DataW.weightsEach Tryd.prog (Tryd.f6.params.toList ++ Rows.keysFormsSpec.plain.varTypes Tryd.prog) (ds ++ gs)).all (· ≤ reachBytes) = true := hsz0
  have hval : ∀ (j : Nat) t v, Tryd.f6.params[j]? = some t → args[j]? = some v → Value.okWide Tryd.prog W .any base t v := hval0
  have hW' := hW
  obtain ⟨p, q, hA0, hV, rfl, hfz, hnd⟩ := hW
  have hA : DataW.TrodAll enc Tryd.prog W 0 (fun _ => true) true Tryd.f6.params.toList args.toList ds p := hA0
  rw [Tryd.params6] at hA hval hsz
  obtain ⟨v0, vs0, d0, ds0, p0, q0, hargs, rfl, rfl, h0, r0⟩ := trodAll_cons hA
  obtain ⟨v1, vs1, d1, ds1, p1, q1, rfl, rfl, rfl, h1, r1⟩ := trodAll_cons r0
  obtain ⟨v2, vs2, d2, ds2, p2, q2, rfl, rfl, rfl, h2, r2⟩ := trodAll_cons r1
  obtain ⟨rfl, rfl, rfl⟩ := trodAll_nil r2
  obtain rfl : args = #[v0, v1, v2] := by cases args; simp_all
  obtain ⟨rfl, rfl⟩ := trodVars_none hV
  obtain ⟨tb0, ok0, rfl⟩ := opens_tb.agg Tryd.underlying32 (hval 0 32 v0 rfl rfl) h0 (sz_arg hsz (j := 0) rfl rfl)
  obtain ⟨tb1, ok1, rfl⟩ := opens_ch.agg Tryd.underlying49 (hval 1 49 v1 rfl rfl) h1 (sz_arg hsz (j := 1) rfl rfl)
  obtain ⟨A2, n2, c2, zs2, rfl, k2, z2, l2, m2, e2⟩ := open_i64s Tryd.underlying25 Tryd.underlying3 (by kernel_rfl) (hval 2 25 v2 rfl rfl) h2
  refine (kforms_walk _ _ _ _ _ _ A2 n2 c2 zs2 W (tbAt_arg ok0 fun _ _ h => h) (chg_arg ok1 fun _ _ h => h) ok0.nm (tbArg_cs ok0) (tbArg_rows ok0) (chgArg_dels ok1) (chgArg_us ok1) k2 z2 l2 (by unfold maxLen at m2; omega) (wds_of_laid (rest := []) hL)).mono fun e W' ⟨he, hb⟩ => ?_
  exact ⟨_, he, law_post rfl laidOut (by kernel_rfl) (by kernel_rfl) Tryd.underlying4 rfl hW' hb⟩

theorem laid_met (os : Os) : laidMet Tryd.prog Rows.keysFormsRow.laid ((wordsWorld os).forCall (fun _ _ => 0) ⟨#[], #[.agg #[.string ⟨#[]⟩, .slice none 0 0, .int .i64 0, .slice none 0 0], .agg #[.slice none 0 0, .slice none 0 0, .slice none 0 0], .slice none 0 0], []⟩).memory :=
  laidMet_of_run' 16 (by kernel_rfl) (by kernel_rfl)
theorem reads (os : Os) {H : Type} (enc : TypeId × Value → H) : ∃ places, DataW.whole enc Tryd.prog ((wordsWorld os).forCall (fun _ _ => 0) ⟨#[], #[.agg #[.string ⟨#[]⟩, .slice none 0 0, .int .i64 0, .slice none 0 0], .agg #[.slice none 0 0, .slice none 0 0, .slice none 0 0], .slice none 0 0], []⟩).memory Tryd.f6.params.toList Rows.keysFormsSpec.vars false #[.agg #[.string ⟨#[]⟩, .slice none 0 0, .int .i64 0, .slice none 0 0], .agg #[.slice none 0 0, .slice none 0 0, .slice none 0 0], .slice none 0 0].toList 8 = some ([.agg [.agg [.lit (.string []), .nil], .lit (.int .i64 0), .nil], .agg [.nil, .nil, .nil], .nil], [], places) :=
  ⟨[], by kernel_rfl⟩

set_option maxRecDepth 100000 in
theorem lifted (os : Os) (started : os.Started) (H : Type) (enc : TypeId × Value → H) (F : Stop.Interp) :
    ReturnsInHanded {} Tryd.checked os 6 .any ((OpenSpec.ofChange Rows.keysFormsSpec).preRow enc Tryd.prog Tryd.f6 Rows.keysFormsRow.domain false Rows.keysFormsRow.laid) (((OpenSpec.ofChange Rows.keysFormsSpec).at F).post enc Tryd.prog Tryd.f6 false true false false) := by
  obtain ⟨places, hx⟩ := reads os enc
  refine returnsInHanded_of_row (C := Tryd.checked) (s := OpenSpec.ofChange Rows.keysFormsSpec) own started (by kernel_rfl) Tryd.func6
    (witness_row_at (enc := enc) (C := Tryd.checked) false (wordsWorld os) #[.agg #[.string ⟨#[]⟩, .slice none 0 0, .int .i64 0, .slice none 0 0], .agg #[.slice none 0 0, .slice none 0 0, .slice none 0 0], .slice none 0 0] rfl (by kernel_rfl) (by kernel_rfl) (by kernel_rfl)
      (OpenSpec.preRow_of_cond 8 hx (by kernel_rfl) (fun k hk => by cases hk) (by kernel_rfl) (laid_met os))) ?_
  intro W base args ds gs before hval hW _ _ hsz0 hL hsh _
  exact contract H enc W base args ds gs before hval hsz0 hW hL hsh

theorem said : Rows.KeysFormsSaid :=
  OpenClaim.holds_of_cond 6 Tryd.f6 rfl rfl rfl rfl rfl rfl rfl ⟨rfl, rfl, rfl, rfl, rfl⟩ rfl rfl rfl rfl rfl (by kernel_rfl) Tryd.func6 (by kernel_rfl)
    (of_decide_eq_true (by kernel_rfl)) (by unfold Func.isWrapper; first | (rw [if_pos (by decide +kernel)]; kernel_rfl) | (rw [if_neg (by decide +kernel)]; exact ⟨rfl, rfl⟩))
    (fun os started H enc _ F => by rw [OpenClaim.pre_eq_preRow]; exact lifted os started H enc F)

theorem plain (f : FuncId) (fn : Func) (hf : Tryd.pinned.checked.prog.funcNamed "triggerstore/triggerstorelaw7.KeysForms" = some f) (hfn : Tryd.pinned.checked.prog.funcs[f]? = some fn) :
    false = Tryd.pinned.checked.prog.looks [] ∧ ∀ (j : Nat) t, fn.params[j]? = some t → Tryd.pinned.checked.prog.wantsStandIn t = false := by
  obtain rfl : f = 6 := Option.some.inj ((show Tryd.prog.funcNamed "triggerstore/triggerstorelaw7.KeysForms" = some 6 by kernel_rfl).symm.trans hf) |>.symm
  obtain rfl : fn = Tryd.f6 := (Option.some.inj (Tryd.func6.symm.trans hfn)).symm
  refine ⟨by kernel_rfl, fun j t ht => ?_⟩
  rw [Tryd.params6] at ht
  have hm := Array.mem_of_getElem? ht
  simp only [List.mem_toArray, List.mem_cons, List.not_mem_nil, or_false] at hm
  rcases hm with rfl | rfl | rfl
  · exact (show Tryd.prog.wantsStandIn 32 = false by kernel_rfl)
  · exact (show Tryd.prog.wantsStandIn 49 = false by kernel_rfl)
  · exact (show Tryd.prog.wantsStandIn 25 = false by kernel_rfl)
end LawKeysForms

theorem keysForms_holds : Rows.KeysFormsCardSaid :=
  Claim7.holds_tied_plain_at .later [] _ _ _ _ LawKeysForms.said (fun _ h => by cases h) (by kernel_rfl) (fun _ h => by cases h) keysForms_row_tie rfl ⟨rfl, rfl⟩ (by kernel_rfl) rfl LawKeysForms.plain (by kernel_rfl)
#print axioms keysForms_holds
end Go.Proofs.YthljihlndpgjcaaDoor

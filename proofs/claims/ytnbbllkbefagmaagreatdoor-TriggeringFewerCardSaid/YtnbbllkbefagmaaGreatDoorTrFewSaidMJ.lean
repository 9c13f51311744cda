/- TrFewSaid: removing a trigger for each statement, or an AFTER trigger, keeps the edges between the others, and removing any trigger makes no new edge. No further conditions. -/
import Derived.Test.YtnbbllkbefagmaaGreatDoorCards
import Derived.Test.YtnbbllkbefagmaaGreatDoorTie
import Derived.Test.YtnbbllkbefagmaaGreatDoorTrFewSaidMA
import Derived.Test.YtnbbllkbefagmaaGreatDoorTrFewSaidMG
import Derived.Test.YtnbbllkbefagmaaGreatDoorTrFewSaidMI
namespace Go.Proofs.YtnbbllkbefagmaaGreatDoor
open Go.ChangeShapes Go.WideShapes Go.ChangeAt Go.RowKit
set_option linter.unusedVariables false
set_option linter.unusedSimpArgs false

namespace LawTriggeringFewer
set_option maxRecDepth 100000 in
theorem contract (H : Type) (enc : TypeId × Value → H) (W : World) (base : Nat) (args : Array Value) (ds gs : List (DataW H)) (before : List MemPlace)
  (hval0 : ∀ (j : Nat) t v, Tryz.f4.params[j]? = some t → args[j]? = some v → Value.okWide Tryz.prog W .any base t v)
  (hsz0 : (DataW.weightsEach Tryz.prog (Tryz.f4.params.toList ++ Rows.triggeringFewerSpec.plain.varTypes Tryz.prog) (ds ++ gs)).all (· ≤ reachBytes) = true)
  (hW : DataW.Whole enc Tryz.prog Tryz.f4.params.toList Rows.triggeringFewerSpec.vars false W args.toList ds gs before) (hL : laidMetH Tryz.prog Rows.triggeringFewerRow.laid W) (hsh : W.ShapedOpen Tryz.prog) :
  Calls Tryz.prog 4 args W fun e W' => ∃ v, e = .returned v ∧ Rows.triggeringFewerSpec.post enc Tryz.prog Tryz.f4 false true false false W args v W' := by
 have hsz : (DataW.weightsEach Tryz.prog (Tryz.f4.params.toList ++ Rows.triggeringFewerSpec.plain.varTypes Tryz.prog) (ds ++ gs)).all (· ≤ reachBytes) = true := hsz0
 have hval : ∀ (j : Nat) t v, Tryz.f4.params[j]? = some t → args[j]? = some v → Value.okWide Tryz.prog W .any base t v := hval0
 have hW' := hW
 obtain ⟨p, q, hA0, hV, rfl, hfz, hnd⟩ := hW
 have hA : DataW.TrodAll enc Tryz.prog W 0 (fun _ => true) true Tryz.f4.params.toList args.toList ds p := hA0
 rw [Tryz.params4] at hA hval hsz
 obtain ⟨v0, vs0, d0, ds0, p0, q0, hargs, rfl, rfl, h0, r0⟩ := trodAll_cons hA
 obtain ⟨v1, vs1, d1, ds1, p1, q1, rfl, rfl, rfl, h1, r1⟩ := trodAll_cons r0
 obtain ⟨rfl, rfl, rfl⟩ := trodAll_nil r1
 obtain rfl : args = #[v0, v1] := by cases args; simp_all
 obtain ⟨rfl, rfl⟩ := trodVars_none hV
 obtain ⟨A0, n0, c0, zs0, rfl, k0, z0, l0, m0, e0⟩ := open_i64s Tryz.underlying22 Tryz.underlying3 (by kernel_rfl) (hval 0 22 v0 rfl rfl) h0
 obtain ⟨a1, rfl, rfl, rfl, w1⟩ := open_int Tryz.underlying3 (hval 1 3 v1 rfl rfl) h1
 refine (trigFewer_walk A0 n0 c0 zs0 a1 W k0 z0 l0 (by unfold maxLen at m0; omega) (i64_wf w1) (tn_of_laid hL).1 (tn_of_laid hL).2).mono fun e W' ⟨he, hb⟩ => ?_
 exact ⟨_, he, law_post rfl laidOut (by kernel_rfl) (by kernel_rfl) Tryz.underlying4 rfl hW' hb⟩

theorem laid_met (os : Os) : laidMet Tryz.prog Rows.triggeringFewerRow.laid ((tnWorld os).forCall (fun _ _ => 0) ⟨#[], #[.slice none 0 0, .int .i64 0], []⟩).memory :=
 laidMet_of_run' 16 (by kernel_rfl) (by kernel_rfl)
theorem reads (os : Os) {H : Type} (enc : TypeId × Value → H) : ∃ places, DataW.whole enc Tryz.prog ((tnWorld os).forCall (fun _ _ => 0) ⟨#[], #[.slice none 0 0, .int .i64 0], []⟩).memory Tryz.f4.params.toList Rows.triggeringFewerSpec.vars false #[.slice none 0 0, .int .i64 0].toList 8 = some ([.nil, .lit (.int .i64 0)], [], places) :=
 ⟨[], by kernel_rfl⟩

set_option maxRecDepth 100000 in
theorem lifted (os : Os) (started : os.Started) (H : Type) (enc : TypeId × Value → H) (F : Stop.Interp) :
  ReturnsInHanded {} Tryz.checked os 4 .any ((OpenSpec.ofChange Rows.triggeringFewerSpec).preRow enc Tryz.prog Tryz.f4 Rows.triggeringFewerRow.domain false Rows.triggeringFewerRow.laid) (((OpenSpec.ofChange Rows.triggeringFewerSpec).at F).post enc Tryz.prog Tryz.f4 false true false false) := by
 obtain ⟨places, hx⟩ := reads os enc
 refine returnsInHanded_of_row (C := Tryz.checked) (s := OpenSpec.ofChange Rows.triggeringFewerSpec) own started (by kernel_rfl) Tryz.func4
  (witness_row_at (enc := enc) (C := Tryz.checked) false (tnWorld os) #[.slice none 0 0, .int .i64 0] rfl (by kernel_rfl) (by kernel_rfl) (by kernel_rfl)
   (OpenSpec.preRow_of_cond 8 hx (by kernel_rfl) (fun k hk => by cases hk) (by kernel_rfl) (laid_met os))) ?_
 intro W base args ds gs before hval hW _ _ hsz0 hL hsh _
 exact contract H enc W base args ds gs before hval hsz0 hW hL hsh

theorem said : Rows.TriggeringFewerSaid :=
 OpenClaim.holds_of_cond 4 Tryz.f4 rfl rfl rfl rfl rfl rfl rfl ⟨rfl, rfl, rfl, rfl, rfl⟩ rfl rfl rfl rfl rfl (by kernel_rfl) Tryz.func4 (by kernel_rfl)
  (of_decide_eq_true (by kernel_rfl)) (by unfold Func.isWrapper; first | (rw [if_pos (by decide +kernel)]; kernel_rfl) | (rw [if_neg (by decide +kernel)]; exact ⟨rfl, rfl⟩))
  (fun os started H enc _ F => by rw [OpenClaim.pre_eq_preRow]; exact lifted os started H enc F)

theorem plain (f : FuncId) (fn : Func) (hf : Tryz.pinned.checked.prog.funcNamed "triggerstore/triggerstorelaw27.TriggeringFewer" = some f) (hfn : Tryz.pinned.checked.prog.funcs[f]? = some fn) :
  false = Tryz.pinned.checked.prog.looks [] ∧ ∀ (j : Nat) t, fn.params[j]? = some t → Tryz.pinned.checked.prog.wantsStandIn t = false := by
 obtain rfl : f = 4 := Option.some.inj ((show Tryz.prog.funcNamed "triggerstore/triggerstorelaw27.TriggeringFewer" = some 4 by kernel_rfl).symm.trans hf) |>.symm
 obtain rfl : fn = Tryz.f4 := (Option.some.inj (Tryz.func4.symm.trans hfn)).symm
 refine ⟨by kernel_rfl, fun j t ht => ?_⟩
 rw [Tryz.params4] at ht
 have hm := Array.mem_of_getElem? ht
 simp only [List.mem_toArray, List.mem_cons, List.not_mem_nil, or_false] at hm
 rcases hm with rfl | rfl
 ·exact (show Tryz.prog.wantsStandIn 22 = false by kernel_rfl)
 ·exact (show Tryz.prog.wantsStandIn 3 = false by kernel_rfl)
end LawTriggeringFewer

theorem triggeringFewer_holds : Rows.TriggeringFewerCardSaid :=
 Claim7.holds_tied_plain_at .later [] _ _ _ _ LawTriggeringFewer.said (fun _ h => by cases h) (by kernel_rfl) (fun _ h => by cases h) triggeringFewer_row_tie rfl ⟨rfl, rfl⟩ (by kernel_rfl) rfl LawTriggeringFewer.plain (by kernel_rfl)
#print axioms triggeringFewer_holds
end Go.Proofs.YtnbbllkbefagmaaGreatDoor

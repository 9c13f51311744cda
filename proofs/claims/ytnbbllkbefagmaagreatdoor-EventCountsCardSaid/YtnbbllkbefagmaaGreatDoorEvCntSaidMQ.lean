import Derived.Test.YtnbbllkbefagmaaGreatDoorEvCntSaidMB
import Derived.Test.YtnbbllkbefagmaaGreatDoorEvCntSaidMP
namespace Go.Proofs.YtnbbllkbefagmaaGreatDoor
open Go.Proofs.YtnbbllkbefagmaaGreatDoor.Rows Go.Proofs.Tryz Go.ChangeShapes Go.WideShapes Go.ChangeAt Go.RowKit
namespace E
set_option maxRecDepth 100000 in
theorem contract (H:Type) (enc:TypeId × Value→H) (W:World) (base:Nat) (args:Array Value) (ds gs:List (DataW H)) (before:List MemPlace)
  (hval:∀ (j:Nat) t v,f3.params[j]? =some t→args[j]? =some v→Value.okWide prog W .any base t v)
  (hsz:(DataW.weightsEach prog (f3.params.toList++eventCountsSpec.plain.varTypes prog) (ds++gs)).all (·≤reachBytes)=true)
  (hW:DataW.Whole enc prog f3.params.toList eventCountsSpec.vars false W args.toList ds gs before) (hL:laidMetH prog eventCountsRow.laid W) (_:W.ShapedOpen prog):
  Calls prog 3 args W fun e W' =>∃ v,e=.returned v∧eventCountsSpec.post enc prog f3 false true false false W args v W' :=by
 have hW' :=hW
 obtain ⟨p,q,hA0,hV,rfl,hfz,hnd⟩:=hW
 have hA:DataW.TrodAll enc prog W 0 (fun _=>true) true f3.params.toList args.toList ds p:=hA0
 rw [params3] at hA hval hsz
 obtain ⟨v0,vs0,d0,ds0,p0,q0,hargs,rfl,rfl,h0,r0⟩:=trodAll_cons hA
 obtain ⟨rfl,rfl,rfl⟩:=trodAll_nil r0
 obtain rfl:args=#[v0]:=by cases args;simp_all
 obtain ⟨rfl,rfl⟩:=trodVars_none hV
 obtain ⟨A0,n0,c0,zs0,rfl,k0,z0,l0,m0,e0⟩:=ZgI underlying22 underlying3 (by kernel_rfl) (hval 0 22 v0 rfl rfl) h0
 refine (Zep A0 n0 c0 zs0 W k0 z0 l0 (by unfold maxLen at m0;omega) (Zby hL).1 (Zby hL).2).mono fun e W' ⟨he,hb⟩=>?_
 exact ⟨_,he,ZdK rfl laidOut (by kernel_rfl) (by kernel_rfl) underlying4 rfl hW' hb⟩
theorem Zgu (os:Os):laidMet prog eventCountsRow.laid ((J9 os).forCall (fun _ _=>0) ⟨#[],#[.slice none 0 0],[]⟩).memory:=
 laidMet_of_run' 16 (by kernel_rfl) (by kernel_rfl)
theorem reads (os:Os) {H:Type} (enc:TypeId × Value→H):∃ places,DataW.whole enc prog ((J9 os).forCall (fun _ _=>0) ⟨#[],#[.slice none 0 0],[]⟩).memory f3.params.toList eventCountsSpec.vars false #[.slice none 0 0].toList 8=some ([.nil],[],places):=
 ⟨[],by kernel_rfl⟩
set_option maxRecDepth 100000 in
theorem lifted (os:Os) (started:os.Started) (H:Type) (enc:TypeId × Value→H) (F:Stop.Interp):
  ReturnsInHanded {} checked os 3 .any ((OpenSpec.ofChange eventCountsSpec).preRow enc prog f3 eventCountsRow.domain false eventCountsRow.laid) (((OpenSpec.ofChange eventCountsSpec).at F).post enc prog f3 false true false false):=by
 obtain ⟨places,hx⟩:=reads os enc
 refine returnsInHanded_of_row (C:=checked) (s:=OpenSpec.ofChange eventCountsSpec) own started (by kernel_rfl) func3
  (witness_row_at (enc:=enc) (C:=checked) false (J9 os) #[.slice none 0 0] rfl (by kernel_rfl) (by kernel_rfl) (by kernel_rfl)
   (OpenSpec.preRow_of_cond 8 hx (by kernel_rfl) (fun k hk=>by cases hk) (by kernel_rfl) (Zgu os))) ?_
 intro W base args ds gs before hval hW _ _ hsz hL hsh _
 exact contract H enc W base args ds gs before hval hsz hW hL hsh
theorem said:Rows.EventCountsSaid:=
 OpenClaim.holds_of_cond 3 f3 rfl rfl rfl rfl rfl rfl rfl ⟨rfl,rfl,rfl,rfl,rfl⟩ rfl rfl rfl rfl rfl (by kernel_rfl) func3 ZfH
  (of_decide_eq_true (by kernel_rfl)) (by unfold Func.isWrapper;first|(rw [if_pos (by decide+kernel)];kernel_rfl)|(rw [if_neg (by decide+kernel)];exact ⟨rfl,rfl⟩))
  (fun os started H enc _ F=>by rw [OpenClaim.pre_eq_preRow];exact lifted os started H enc F)
theorem plain (f:FuncId) (fn:Func) (hf:Tryz.pinned.checked.prog.funcNamed "triggerstore/triggerstorelaw22.EventCounts" = some f) (hfn : Tryz.pinned.checked.prog.funcs[f]? = some fn) :
  false=Tryz.pinned.checked.prog.looks []∧∀ (j:Nat) t,fn.params[j]? =some t→Tryz.pinned.checked.prog.wantsStandIn t=false:=by
 obtain rfl : f = 3 := Option.some.inj ((show prog.funcNamed "triggerstore/triggerstorelaw22.EventCounts" = some 3 by kernel_rfl).symm.trans hf) |>.symm
 obtain rfl:fn=f3:=(Option.some.inj (func3.symm.trans hfn)).symm
 refine ⟨by kernel_rfl,fun j t ht=>?_⟩
 rw [params3] at ht
 have hm:=Array.mem_of_getElem? ht
 simp only [List.mem_toArray,List.mem_cons,List.not_mem_nil,or_false] at hm
 subst hm
 ·exact (show prog.wantsStandIn 22=false by kernel_rfl)
end E
theorem eventCounts_holds:Rows.EventCountsCardSaid:=
 Claim7.holds_tied_plain_at .later [] _ _ _ _ E.said (fun _ h=>by cases h) (by kernel_rfl) (fun _ h=>by cases h) eventCounts_row_tie rfl ⟨rfl,rfl⟩ (by kernel_rfl) rfl E.plain (by kernel_rfl)
#print axioms eventCounts_holds
end Go.Proofs.YtnbbllkbefagmaaGreatDoor

/- RkCtsSaid: Certified and Total return what the chapter says, for all lists of triggers, where what is read is of bulk at most 1048576. -/
import Derived.Test.YtnbbllkbefagmaaGreatDoorCards
import Derived.Test.YtnbbllkbefagmaaGreatDoorTie
import Derived.Test.YtnbbllkbefagmaaGreatDoorRkCtsSaidMB
import Derived.Test.YtnbbllkbefagmaaGreatDoorRkCtsSaidMA
import Derived.Test.YtnbbllkbefagmaaGreatDoorRkCtsSaidMC
import Derived.Test.YtnbbllkbefagmaaGreatDoorRkCtsSaidMX
import Derived.Test.YtnbbllkbefagmaaGreatDoorRkCtsSaidMAG
namespace Go.Proofs.YtnbbllkbefagmaaGreatDoor
open Go.ChangeShapes Go.WideShapes Go.ChangeAt Go.RowKit
set_option linter.unusedVariables false
set_option linter.unusedSimpArgs false
namespace LawRankCertifies
set_option maxRecDepth 100000 in
theorem contract (H:Type) (enc:TypeId × Value→H) (W:World) (base:Nat) (args:Array Value) (ds gs:List (DataW H)) (before:List MemPlace)
  (hval0:∀ (j:Nat) t v,Tryz.f6.params[j]? =some t→args[j]? =some v→Value.okWide Tryz.prog W .any base t v)
  (hsz0:(DataW.weightsEach Tryz.prog (Tryz.f6.params.toList++Rows.rankCertifiesSpec.plain.varTypes Tryz.prog) (ds++gs)).all (·≤reachBytes)=true)
  (hW:DataW.Whole enc Tryz.prog Tryz.f6.params.toList Rows.rankCertifiesSpec.vars false W args.toList ds gs before) (hbulk:Rows.uptoBulkAll (ds++gs)≤1048576) (hL:laidMetH Tryz.prog Rows.rankCertifiesUptoRow.laid W) (hsh:W.ShapedOpen Tryz.prog):
  Calls Tryz.prog 6 args W fun e W' =>∃ v,e=.returned v∧Rows.rankCertifiesSpec.post enc Tryz.prog Tryz.f6 false true false false W args v W' :=by
 have hsz:(DataW.weightsEach Tryz.prog (Tryz.f6.params.toList++Rows.rankCertifiesSpec.plain.varTypes Tryz.prog) (ds++gs)).all (·≤reachBytes)=true:=hsz0
 have hval:∀ (j:Nat) t v,Tryz.f6.params[j]? =some t→args[j]? =some v→Value.okWide Tryz.prog W .any base t v:=hval0
 have hW' :=hW
 obtain ⟨p,q,hA0,hV,rfl,hfz,hnd⟩:=hW
 have hA:DataW.TrodAll enc Tryz.prog W 0 (fun _=>true) true Tryz.f6.params.toList args.toList ds p:=hA0
 rw [Tryz.params6] at hA hval hsz
 obtain ⟨v0,vs0,d0,ds0,p0,q0,hargs,rfl,rfl,h0,r0⟩:=trodAll_cons hA
 obtain ⟨v1,vs1,d1,ds1,p1,q1,rfl,rfl,rfl,h1,r1⟩:=trodAll_cons r0
 obtain ⟨v2,vs2,d2,ds2,p2,q2,rfl,rfl,rfl,h2,r2⟩:=trodAll_cons r1
 obtain ⟨rfl,rfl,rfl⟩:=trodAll_nil r2
 obtain rfl:args=#[v0,v1,v2]:=by cases args;simp_all
 obtain ⟨rfl,rfl⟩:=trodVars_none hV
 have hb0:Rows.uptoBulk d0≤1048576:=Nat.le_trans (UH (by simp)) hbulk
 obtain ⟨m0,hm0⟩:∃ m:Nat,m=1048576:=⟨_,rfl⟩
 obtain ⟨e0,he0⟩:∃ e:Nat,m0=e+1:=⟨m0 - 1,by omega⟩
 obtain ⟨sl0,ok0,rfl⟩:=ZgS (hval 0 25 v0 rfl rfl) h0 (m:=e0+1) (by omega) (by omega)
 obtain ⟨a1,rfl,rfl,rfl,w1⟩:=open_int Tryz.underlying3 (hval 1 3 v1 rfl rfl) h1
 obtain ⟨A2,n2,c2,zs2,rfl,k2,z2,l2,m2,e2⟩:=Zg6 Tryz.underlying22 Tryz.underlying3 (by kernel_rfl) (hval 2 22 v2 rfl rfl) h2
 refine (Zb8 e0 sl0 a1 A2 n2 c2 zs2 W ok0 k2 z2 l2 (by unfold maxLen at m2;omega) (ZaR hL).1 (ZaR hL).2).mono fun e W' ⟨he,hb⟩=>?_
 exact ⟨_,he,ZdU rfl laidOut (by kernel_rfl) (by kernel_rfl) Tryz.underlying4 rfl hW' hb⟩
theorem Ze7 (os:Os):laidMet Tryz.prog Rows.rankCertifiesUptoRow.laid ((Qg os).forCall (fun _ _=>0) ⟨#[],#[.slice none 0 0,.int .i64 0,.slice none 0 0],[]⟩).memory:=
 laidMet_of_run' 16 (by kernel_rfl) (by kernel_rfl)
theorem reads (os:Os) {H:Type} (enc:TypeId × Value→H):∃ places,DataW.whole enc Tryz.prog ((Qg os).forCall (fun _ _=>0) ⟨#[],#[.slice none 0 0,.int .i64 0,.slice none 0 0],[]⟩).memory Tryz.f6.params.toList Rows.rankCertifiesSpec.vars false #[.slice none 0 0,.int .i64 0,.slice none 0 0].toList 8=some ([.nil,.lit (.int .i64 0),.nil],[],places):=
 ⟨[],by kernel_rfl⟩
set_option maxRecDepth 100000 in
theorem lifted (os:Os) (started:os.Started) (H:Type) (enc:TypeId × Value→H) (F:Stop.Interp):
  ReturnsInHanded {} Tryz.checked os 6 .any ((Rows.OpenSpec.upto Rows.rankCertifiesSpec).preRow enc Tryz.prog Tryz.f6 Rows.rankCertifiesUptoRow.domain false Rows.rankCertifiesUptoRow.laid) (((Rows.OpenSpec.upto Rows.rankCertifiesSpec).at F).post enc Tryz.prog Tryz.f6 false true false false):=by
 obtain ⟨places,hx⟩:=reads os enc
 refine returnsInHanded_of_row (C:=Tryz.checked) (s:=Rows.OpenSpec.upto Rows.rankCertifiesSpec) own started (by kernel_rfl) Tryz.func6
  (witness_row_at (enc:=enc) (C:=Tryz.checked) false (Qg os) #[.slice none 0 0,.int .i64 0,.slice none 0 0] rfl (by kernel_rfl) (by kernel_rfl) (by kernel_rfl)
   (OpenSpec.preRow_of_cond 8 hx (by kernel_rfl) (fun k hk=>by cases hk;kernel_rfl) (by kernel_rfl) (Ze7 os))) ?_
 intro W base args ds gs before hval hW _ hcond hsz0 hL hsh _
 exact contract H enc W base args ds gs before hval hsz0 hW (of_decide_eq_true (hcond _ rfl)) hL hsh
theorem said:Rows.RankCertifiesUptoSaid:=
 OpenClaim.holds_of_cond 6 Tryz.f6 rfl rfl rfl rfl rfl rfl rfl ⟨rfl,rfl,rfl,rfl,rfl⟩ rfl rfl rfl rfl rfl (by kernel_rfl) Tryz.func6 Zgl
  (of_decide_eq_true (by kernel_rfl)) (by unfold Func.isWrapper;first|(rw [if_pos (by decide+kernel)];kernel_rfl)|(rw [if_neg (by decide+kernel)];exact ⟨rfl,rfl⟩))
  (fun os started H enc _ F=>by rw [OpenClaim.pre_eq_preRow];exact lifted os started H enc F)
theorem plain (f : FuncId) (fn : Func) (hf : Tryz.pinned.checked.prog.funcNamed "triggerstore/triggerstorelaw28.RankCertifies" = some f) (hfn : Tryz.pinned.checked.prog.funcs[f]? = some fn) :
  false=Tryz.pinned.checked.prog.looks []∧∀ (j:Nat) t,fn.params[j]? =some t→Tryz.pinned.checked.prog.wantsStandIn t=false:=by
 obtain rfl : f = 6 := Option.some.inj ((show Tryz.prog.funcNamed "triggerstore/triggerstorelaw28.RankCertifies" = some 6 by kernel_rfl).symm.trans hf) |>.symm
 obtain rfl:fn=Tryz.f6:=(Option.some.inj (Tryz.func6.symm.trans hfn)).symm
 refine ⟨by kernel_rfl,fun j t ht=>?_⟩
 rw [Tryz.params6] at ht
 have hm:=Array.mem_of_getElem? ht
 simp only [List.mem_toArray,List.mem_cons,List.not_mem_nil,or_false] at hm
 rcases hm with rfl|rfl|rfl
 ·exact (show Tryz.prog.wantsStandIn 25=false by kernel_rfl)
 ·exact (show Tryz.prog.wantsStandIn 3=false by kernel_rfl)
 ·exact (show Tryz.prog.wantsStandIn 22=false by kernel_rfl)
end LawRankCertifies
theorem rankCertifiesUpto_holds:Rows.RankCertifiesUptoCardSaid:=
 Claim7.holds_tied_plain_at .later [] _ _ _ _ LawRankCertifies.said (fun _ h=>by cases h) (by kernel_rfl) (fun _ h=>by cases h) rankCertifiesUpto_row_tie rfl ⟨rfl,rfl⟩ (by kernel_rfl) rfl LawRankCertifies.plain (by kernel_rfl)
#print axioms rankCertifiesUpto_holds
end Go.Proofs.YtnbbllkbefagmaaGreatDoor

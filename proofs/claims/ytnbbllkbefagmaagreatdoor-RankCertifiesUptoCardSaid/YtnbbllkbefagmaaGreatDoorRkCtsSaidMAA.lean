import Derived.Test.YtnbbllkbefagmaaGreatDoorRkCtsSaidMZ
import Derived.Shelf.SlGeneric
import Derived.Shelf.SlSortCmp.NoneTotal
import Derived.Shelf.SlSortCmp.WholeK
import Derived.Shelf.SortM.Plain
import Derived.Shelf.SortM.SortNone
import Derived.Shelf.SlicesG.CompactS
import Derived.Ground.SlsfProg
import Derived.Ground.SlgmProg
import Derived.Ground.SlgnProg
import Derived.Test.YtnbbllkbefagmaaGreatDoorProg
import Derived.Test.YtnbbllkbefagmaaGreatDoorRkCtsSaidMA
import Derived.Test.YtnbbllkbefagmaaGreatDoorRkCtsSaidMC
import Derived.Shelf.SlSortCmp.QuietGrown
import Derived.Test.YtnbbllkbefagmaaGreatDoorRkCtsSaidMD
import Derived.Shelf.SlSortCmp.InsertionK
import Derived.Test.YtnbbllkbefagmaaGreatDoorRkCtsSaidMX
namespace Go.Proofs.YtnbbllkbefagmaaGreatDoor
open Go.RowKit
set_option linter.unusedVariables false
set_option linter.unusedSimpArgs false
def rrW (d:Nat) (l:List (SlP Ex)):Nat:=(l.map fun r=>1+ZA d r.l).sum
def YT (d:Nat) (l:List Se):Nat:=(l.map fun s=>1+exW d s.e).sum
def acW (d:Nat) (a:Ac):Nat:=1+rrW d a.rows.l+YT d a.sets.l+Yt d a.qs.l+ZA d a.wh.l
def Xl (d:Nat) (l:List Ac):Nat:=(l.map (acW d)).sum
def RrsIn (d:Nat) (A:Option Addr) (n:Nat) (l:List (SlP Ex)) (w:World):Prop:=SlR 1 A n (l.flatMap fun r=>[r.v]) w∧∀ r∈l,ExsIn d r.A r.n r.l w
theorem RrsIn.len {d:Nat} {A:Option Addr} {n:Nat} {l:List (SlP Ex)} {w:World} (h:RrsIn d A n l w):l.length=n:=SlP.In.len (s:=⟨A,n,0,l⟩) (k:=1) (cel:=fun r=>[r.v]) (P:=fun r w=>ExsIn d r.A r.n r.l w) h (by omega) (fun _=>rfl)
theorem RrsIn.at_ {d:Nat} {w:World} {A:Option Addr} {n:Nat} {l:List (SlP Ex)} (h:RrsIn d A n l w) {k:Nat} {x:SlP Ex} (hx:l[k]? =some x):
  ∃ b o,A=some ⟨b,o,none⟩∧b<w.heap.size∧w.cell? ⟨b,o+k,none⟩=some (.slice x.A x.n x.c)∧ExsIn d x.A x.n x.l w:=by
 obtain ⟨b,o,e,hb,hc,hx⟩:=SlP.In.at_ (s:=⟨A,n,0,l⟩) (k:=1) (cel:=fun r=>[r.v]) (P:=fun r w=>ExsIn d r.A r.n r.l w) h (by omega) (fun _=>rfl) hx
 have h0:=hc 0 _ (by omega) rfl
 simp only [Nat.mul_one,Nat.add_zero] at h0
 exact ⟨b,o,e,hb,h0,hx⟩
theorem AcIn.parts {d:Nat} {a:Ac} {w:World} (h:AcIn d a w):RrsIn d a.rows.A a.rows.n a.rows.l w∧QusIn d a.qs.A a.qs.n a.qs.l w∧SesIn d a.sets.A a.sets.n a.sets.l w∧ExsIn d a.wh.A a.wh.n a.wh.l w:=h
theorem Zgd (d:Nat) (l:List (SlP Ex)):l.length≤rrW d l:=XV (fun q=>by omega) l
theorem Zdi (d:Nat) (l:List Se):l.length≤YT d l:=XV (fun q=>by omega) l
theorem NmSt.Zho {M:Nat→Prop} {row:Option Nat} {w0 w:World} {g k:Nat} {L:List Hp} (h:NmSt M row w0 w g k L) {S' :World→Prop} (hs:∀ (B:Option Addr) (m c:Nat) (xs:List ByteArray),Hold M row w0 w (.blk g 35 #[.slice B m c]::.own 9 1 (.slice B m c) m (Zv xs)::L)→Ro w (Mut M (.blk g 35 #[.slice B m c]::.own 9 1 (.slice B m c) m (Zv xs)::L)) S'):NmSt M row w0 w g k (.ro S' ::L):=by
 obtain ⟨B,m,c,xs,hm,K⟩:=h
 exact ⟨B,m,c,xs,hm,(K.add (hs B m c xs K)).JN 2⟩
set_option maxRecDepth 100000 in
set_option maxHeartbeats 4000000 in
theorem Zft (M:Nat→Prop) (row:Option Nat) (w0 w:World) (g k:Nat) (L:List Hp) (d:Nat) (a:Ac) (h:NmSt M row w0 w g k (.ro (AcIn d a)::L)) (hk:k+acW d a≤4398046511104):
  Calls Tryz.prog 228 #[Ul g,a.val] w fun r w' =>r=.returned (.bool true)∧NmSt M row w0 w' g (k+acW d a) (.ro (AcIn d a)::L):=by
 obtain ⟨hR,hQ,hS,hW⟩:=(h.ro 0 rfl).parts
 obtain ⟨ak,atab,⟨arA,arn,arc,arl⟩,⟨aqA,aqn,aqc,aql⟩,⟨asA,asn,asc,asl⟩,⟨awA,awn,awc,awl⟩,atext⟩:=a
 simp only [Ac.val,acW] at hR hQ hS hW hk ⊢
 have HLR:=hid hR.len
 have HLS:=hid hS.len
 have hrn:arn≤4398046511104:=by have:=Zgd d arl;have:=hR.len;omega
 have hsn:asn≤4398046511104:=by have:=Zdi d asl;have:=hS.len;omega
 clear hR hQ hS hW
 have HK:=hid hk
 clear hk
 have H1:=(h.Xm 0 (S' :=RrsIn d arA arn arl) rfl (fun w2 h2=>h2.parts.1)).cst #[.int .i64 ak,.string atab,.slice arA arn arc,.slice aqA aqn aqc,.slice asA asn asc,.slice awA awn awc,.string atext] 97
 have F1:=(H1.drop (L' :=[_]) (List.Sublist.cons_cons _ (List.nil_sublist _))).factsL
 simp only [zg] at F1
 clear h
 go_enter Tryz.func228,Tryz.ntmps228
 go_wp2_with fail
 clear F1
 go_loopw [12,6] (fun iv _ wr=>∃ (j:Nat),j≤arn∧iv=.int .i64 j∧NmSt M row w0 wr g (k+rrW d (arl.take j)) (.cst w.heap.size 97 #[.int .i64 ak,.string atab,.slice arA arn arc,.slice aqA aqn aqc,.slice asA asn asc,.slice awA awn awc,.string atext]::.ro (RrsIn d arA arn arl)::.ro (AcIn d ⟨ak,atab,⟨arA,arn,arc,arl⟩,⟨aqA,aqn,aqc,aql⟩,⟨asA,asn,asc,asl⟩,⟨awA,awn,awc,awl⟩,atext⟩)::L)) (fun iv _ _=>arn - (intOf iv).toNat)
 case atStart=>exact ⟨0,by omega,rfl,H1⟩
 case round=>
  clear H1
  obtain ⟨j,hj,rfl,H⟩:=hrel
  by_cases hlt:j<arn
  ·obtain ⟨⟨xA,xn,xc,xl⟩,hc⟩:=Y2 HLR.out hlt
   obtain ⟨b,o,rfl,hb,c0,-⟩:=(H.ro 1 rfl).at_ hc
   have HS:=hid (show rrW d (arl.take (j+1))=rrW d (arl.take j)+(1+ZA d xl) from VR hc)
   have HT:=hid (show rrW d (arl.take (j+1))≤rrW d arl from VZ arl (j+1))
   have HM:=hid (List.mem_of_getElem? hc)
   clear hc
   have H3:=H.Xm 1 (S' :=ExsIn d xA xn xl) rfl (fun w2 h2=>h2.2 _ HM.out)
   clear H
   go_wp2_with fail
   refine ((Vo d).1 _ _ _ _ _ _ _ _ _ _ _ H3 (by have:=HK.out;have:=HS.out;have:=HT.out;omega)).mono ?_
   rintro e w1 ⟨rfl,H4⟩
   clear H3
   go_wp2_with fail
   go_roundw
   case rel=>exact ⟨j+1,by omega,by go_num,(H4.drop (List.sublist_cons_self _ _)).le (by have:=HS.out;omega)⟩
   case measure=>simp [intOf];omega
  ·obtain rfl:arn=j:=by omega
   rw [List.take_of_length_le (by rw [HLR.out];exact Nat.le_refl _)] at H
   have H2:=((H.Xm 2 (S' :=SesIn d asA asn asl) rfl (fun w2 h2=>h2.parts.2.2.1)).drop (L' :=.ro (SesIn d asA asn asl)::.cst w.heap.size 97 #[.int .i64 ak,.string atab,.slice arA arn arc,.slice aqA aqn aqc,.slice asA asn asc,.slice awA awn awc,.string atext]::.ro (AcIn d ⟨ak,atab,⟨arA,arn,arc,arl⟩,⟨aqA,aqn,aqc,aql⟩,⟨asA,asn,asc,asl⟩,⟨awA,awn,awc,awl⟩,atext⟩)::L) (List.Sublist.cons_cons _ (List.Sublist.cons_cons _ (List.sublist_cons_self _ _))))
   have F2:=(H2.drop (L' :=[_,_]) (List.Sublist.cons_cons _ (List.Sublist.cons_cons _ (List.nil_sublist _)))).factsL
   simp only [zg] at F2
   clear H
   go_wp2_with fail
   clear F2
   go_loopw [24,8] (fun iv _ wr=>∃ (j:Nat),j≤asn∧iv=.int .i64 j∧NmSt M row w0 wr g (k+rrW d arl+YT d (asl.take j)) (.ro (SesIn d asA asn asl)::.cst w.heap.size 97 #[.int .i64 ak,.string atab,.slice arA arn arc,.slice aqA aqn aqc,.slice asA asn asc,.slice awA awn awc,.string atext]::.ro (AcIn d ⟨ak,atab,⟨arA,arn,arc,arl⟩,⟨aqA,aqn,aqc,aql⟩,⟨asA,asn,asc,asl⟩,⟨awA,awn,awc,awl⟩,atext⟩)::L)) (fun iv _ _=>asn - (intOf iv).toNat)
   case atStart=>exact ⟨0,by omega,rfl,H2⟩
   case round=>
    clear H2
    obtain ⟨j2,hj2,rfl,H⟩:=hrel
    by_cases hlt2:j2<asn
    ·obtain ⟨⟨xcol,⟨xk,xop,xnt,⟨xvk,xvi,xvs⟩,xtab,xnm,xA,xn,xc,xargs,xB,xm,xd,xsub⟩⟩,hc⟩:=Y2 HLS.out hlt2
     obtain ⟨b,o,rfl,hb,hcl,-⟩:=(H.ro 0 rfl).at_ hc
     have c0:=hcl 0 _ (by omega) rfl
     have c1:=hcl 1 _ (by omega) rfl
     have c2:=hcl 2 _ (by omega) rfl
     have c3:=hcl 3 _ (by omega) rfl
     have c4:=hcl 4 _ (by omega) rfl
     have c5:=hcl 5 _ (by omega) rfl
     have c6:=hcl 6 _ (by omega) rfl
     have c7:=hcl 7 _ (by omega) rfl
     have c8:=hcl 8 _ (by omega) rfl
     have c9:=hcl 9 _ (by omega) rfl
     have c10:=hcl 10 _ (by omega) rfl
     simp only [Nat.add_zero] at c0
     clear hcl
     have HS:=hid (show YT d (asl.take (j2+1))=YT d (asl.take j2)+(1+exW d ⟨xk,xop,xnt,⟨xvk,xvi,xvs⟩,xtab,xnm,xA,xn,xc,xargs,xB,xm,xd,xsub⟩) from VR hc)
     have HT:=hid (show YT d (asl.take (j2+1))≤YT d asl from VZ asl (j2+1))
     have HM:=hid (List.mem_of_getElem? hc)
     clear hc
     have HA:=(H.cst #[.string xcol,.int .i64 xk,.int .i64 xop,.bool xnt,.int .i64 xvk,.int .i64 xvi,.string xvs,.string xtab,.string xnm,.slice xA xn xc,.slice xB xm xd] 128).cst #[.int .i64 xk,.int .i64 xop,.bool xnt,.int .i64 xvk,.int .i64 xvi,.string xvs,.string xtab,.string xnm,.slice xA xn xc,.slice xB xm xd] 126
     rw [World.size_alloc] at HA
     have H3:=HA.Zho (S' :=ExsIn d (some ⟨wr.heap.size+1,0,none⟩) 1 [⟨xk,xop,xnt,⟨xvk,xvi,xvs⟩,xtab,xnm,xA,xn,xc,xargs,xB,xm,xd,xsub⟩]) (fun B m c xs K=>XC (l:=[⟨xk,xop,xnt,⟨xvk,xvi,xvs⟩,xtab,xnm,xA,xn,xc,xargs,xB,xm,xd,xsub⟩]) (K.get 2 rfl) rfl (fun x hx=>by
      simp only [List.mem_cons,List.not_mem_nil,or_false] at hx
      subst hx
      exact (K.ro 4 rfl).imp fun w2 h2=>h2.2 _ HM.out))
     have H1:=H.cst #[.string xcol,.int .i64 xk,.int .i64 xop,.bool xnt,.int .i64 xvk,.int .i64 xvi,.string xvs,.string xtab,.string xnm,.slice xA xn xc,.slice xB xm xd] 128
     have F1:=(H1.drop (L' :=[_]) (List.Sublist.cons_cons _ (List.nil_sublist _))).factsL
     simp only [zg] at F1
     clear H H1 HA
     go_wp2_with fail
     refine ((Vo d).1 _ _ _ _ _ _ _ _ _ _ _ H3 (by have:=HK.out;have:=HS.out;have:=HT.out;simp only [ZA,List.map_cons,List.map_nil,List.sum_cons,List.sum_nil];omega)).mono ?_
     rintro e w1 ⟨rfl,H4⟩
     clear H3 F1
     go_wp2_with fail
     go_roundw
     case rel=>exact ⟨j2+1,by omega,by go_num,(H4.drop (List.Sublist.cons _ (List.Sublist.cons _ (List.sublist_cons_self _ _)))).le (by have:=HS.out;simp only [ZA,List.map_cons,List.map_nil,List.sum_cons,List.sum_nil];omega)⟩
     case measure=>simp [intOf];omega
    ·obtain rfl:asn=j2:=by omega
     rw [List.take_of_length_le (by rw [HLS.out];exact Nat.le_refl _)] at H
     have H3:=H.Xm 2 (S' :=QusIn d aqA aqn aql) rfl (fun w2 h2=>h2.parts.2.1)
     have F3:=(H3.drop (L' :=[_,_,_]) (List.Sublist.cons_cons _ (List.Sublist.cons_cons _ (List.Sublist.cons_cons _ (List.nil_sublist _))))).factsL
     simp only [zg] at F3
     clear H
     go_wp2_with fail
     refine ((Vo d).2 _ _ _ _ _ _ _ _ _ _ _ H3 (by have:=HK.out;omega)).mono ?_
     rintro e w1 ⟨rfl,H4⟩
     have H5:=H4.Xm 3 (S' :=ExsIn d awA awn awl) rfl (fun w2 h2=>h2.parts.2.2.2)
     have F5:=(H5.drop (L' :=[_,_,_,_]) (List.Sublist.cons_cons _ (List.Sublist.cons_cons _ (List.Sublist.cons_cons _ (List.Sublist.cons_cons _ (List.nil_sublist _)))))).factsL
     simp only [zg] at F5
     clear H3 H4 F3
     go_wp2_with fail
     refine ((Vo d).1 _ _ _ _ _ _ _ _ _ _ _ H5 (by have:=HK.out;omega)).mono ?_
     rintro e w2 ⟨rfl,H6⟩
     clear H5 F5
     go_wp2_with fail
     go_ret
     exact ⟨by first|rfl|simp,(H6.drop (List.Sublist.cons _ (List.Sublist.cons _ (List.Sublist.cons _ (List.sublist_cons_self _ _))))).le (by omega)⟩
end Go.Proofs.YtnbbllkbefagmaaGreatDoor
namespace Go.Proofs
open Go.Shelf
def Tryz.Zhx:Go.Shelf.Ren:=⟨fun|6=>177|8=>216|9=>215|19=>250|20=>251|21=>241|22=>242|23=>243|24=>244|25=>245|26=>246|27=>247|28=>248|29=>249|36=>269|31=>270|32=>271|37=>272|38=>273|39=>274|41=>282|n=>n,fun|27=>35|29=>9|3=>3|32=>287|26=>35|0=>0|44=>319|46=>159|4=>4|36=>312|35=>311|41=>261|5=>5|9=>9|53=>334|57=>338|63=>349|64=>350|n=>n,fun|n=>n⟩
theorem Tryz.sortStr:Go.Proofs.SlLaysM.n6 Tryz.prog Tryz.Zhx:={
 mixed:=by kernel_rfl
 f6:=⟨Tryz.f177.name,by decide,Tryz.func177.trans (congrArg some (by kernel_rfl))⟩
 f8:=Tryz.func216.trans (congrArg some (by kernel_rfl))
 f9:=⟨Tryz.f215.name,by decide,Tryz.func215.trans (congrArg some (by kernel_rfl))⟩
 f19:=Tryz.func250.trans (congrArg some (by kernel_rfl))
 f20:=Tryz.func251.trans (congrArg some (by kernel_rfl))
 f21:=⟨Tryz.f241.name,by decide,Tryz.func241.trans (congrArg some (by kernel_rfl))⟩
 f22:=⟨Tryz.f242.name,by decide,Tryz.func242.trans (congrArg some (by kernel_rfl))⟩
 f23:=⟨Tryz.f243.name,by decide,Tryz.func243.trans (congrArg some (by kernel_rfl))⟩
 f24:=⟨Tryz.f244.name,by decide,Tryz.func244.trans (congrArg some (by kernel_rfl))⟩
 f25:=⟨Tryz.f245.name,by decide,Tryz.func245.trans (congrArg some (by kernel_rfl))⟩
 f26:=⟨Tryz.f246.name,by decide,Tryz.func246.trans (congrArg some (by kernel_rfl))⟩
 f27:=⟨Tryz.f247.name,by decide,Tryz.func247.trans (congrArg some (by kernel_rfl))⟩
 f28:=⟨Tryz.f248.name,by decide,Tryz.func248.trans (congrArg some (by kernel_rfl))⟩
 f29:=⟨Tryz.f249.name,by decide,Tryz.func249.trans (congrArg some (by kernel_rfl))⟩
 f31:=Tryz.func270.trans (congrArg some (by kernel_rfl))
 f32:=Tryz.func271.trans (congrArg some (by kernel_rfl))
 f36:=⟨Tryz.f269.name,by decide,Tryz.func269.trans (congrArg some (by kernel_rfl))⟩
 f37:=⟨Tryz.f272.name,by decide,Tryz.func272.trans (congrArg some (by kernel_rfl))⟩
 f38:=⟨Tryz.f273.name,by decide,Tryz.func273.trans (congrArg some (by kernel_rfl))⟩
 f39:=⟨Tryz.f274.name,by decide,Tryz.func274.trans (congrArg some (by kernel_rfl))⟩
 f41:=⟨Tryz.f282.name,by decide,Tryz.func282.trans (congrArg some (by kernel_rfl))⟩
 t0:=Tryz.underlying0
 a0:=Tryz.isAgg0
 z0:=Tryz.sizeOf0
 v0:=Tryz.zeroValue0
 t3:=Tryz.underlying3
 a3:=Tryz.isAgg3
 z3:=Tryz.sizeOf3
 v3:=Tryz.zeroValue3
 t4:=Tryz.underlying4
 a4:=Tryz.isAgg4
 z4:=Tryz.sizeOf4
 v4:=Tryz.zeroValue4
 t5:=Tryz.underlying5
 a5:=Tryz.isAgg5
 z5:=Tryz.sizeOf5
 v5:=Tryz.zeroValue5
 t9:=Tryz.underlying9
 a9:=Tryz.isAgg9
 z9:=Tryz.sizeOf9
 v9:=Tryz.zeroValue9
 t26:=Tryz.underlying35
 a26:=Tryz.isAgg35
 z26:=Tryz.sizeOf35
 v26:=Tryz.zeroValue35
 t27:=Tryz.underlying35
 a27:=Tryz.isAgg35
 z27:=Tryz.sizeOf35
 v27:=Tryz.zeroValue35
 t29:=Tryz.underlying9
 a29:=Tryz.isAgg9
 z29:=Tryz.sizeOf9
 v29:=Tryz.zeroValue9
 t32:=Tryz.underlying287
 a32:=Tryz.isAgg287
 z32:=Tryz.sizeOf287
 v32:=Tryz.zeroValue287
 t35:=Tryz.underlying311
 a35:=Tryz.isAgg311
 z35:=Tryz.sizeOf311
 v35:=Tryz.zeroValue311
 t36:=Tryz.underlying312
 a36:=Tryz.isAgg312
 z36:=Tryz.sizeOf312
 v36:=Tryz.zeroValue312
 t41:=Tryz.underlying261
 a41:=Tryz.isAgg261
 z41:=Tryz.sizeOf261
 v41:=Tryz.zeroValue261
 t44:=Tryz.underlying319
 a44:=Tryz.isAgg319
 z44:=Tryz.sizeOf319
 v44:=Tryz.zeroValue319
 t46:=Tryz.underlying159
 a46:=Tryz.isAgg159
 z46:=Tryz.sizeOf159
 v46:=Tryz.zeroValue159
 t53:=Tryz.underlying334
 a53:=Tryz.isAgg334
 z53:=Tryz.sizeOf334
 v53:=Tryz.zeroValue334
 t57:=Tryz.underlying338
 a57:=Tryz.isAgg338
 z57:=Tryz.sizeOf338
 v57:=Tryz.zeroValue338
 t63:=Tryz.underlying349
 a63:=Tryz.isAgg349
 z63:=Tryz.sizeOf349
 v63:=Tryz.zeroValue349
 t64:=Tryz.underlying350
 a64:=Tryz.isAgg350
 z64:=Tryz.sizeOf350
 v64:=Tryz.zeroValue350 }
def Tryz.Zhq:Go.Shelf.Ren:=⟨fun|44=>178|n=>n,fun|25=>35|26=>9|3=>3|4=>4|0=>0|n=>n,fun|n=>n⟩
theorem Tryz.Zhj:Go.Proofs.SlLaysN.n44 Tryz.prog Tryz.Zhq:={
 mixed:=by kernel_rfl
 f44:=⟨Tryz.f178.name,by decide,Tryz.func178.trans (congrArg some (by kernel_rfl))⟩
 t0:=Tryz.underlying0
 a0:=Tryz.isAgg0
 z0:=Tryz.sizeOf0
 v0:=Tryz.zeroValue0
 t3:=Tryz.underlying3
 a3:=Tryz.isAgg3
 z3:=Tryz.sizeOf3
 v3:=Tryz.zeroValue3
 t4:=Tryz.underlying4
 a4:=Tryz.isAgg4
 z4:=Tryz.sizeOf4
 v4:=Tryz.zeroValue4
 t25:=Tryz.underlying35
 a25:=Tryz.isAgg35
 z25:=Tryz.sizeOf35
 v25:=Tryz.zeroValue35
 t26:=Tryz.underlying9
 a26:=Tryz.isAgg9
 z26:=Tryz.sizeOf9
 v26:=Tryz.zeroValue9
 i26:=by kernel_rfl }
end Go.Proofs
namespace Go.Proofs.YtnbbllkbefagmaaGreatDoor
open Go.RowKit Go.Sort
set_option linter.unusedVariables false
def Gr (w w' :World):Prop:=∃ (q:Nat) (os:Array Obj),w' =grow (w.drewN q) os
end Go.Proofs.YtnbbllkbefagmaaGreatDoor
namespace Go.Proofs.YtnbbllkbefagmaaGreatDoor
open Go.RowKit Go.Sort
set_option linter.unusedVariables false
set_option linter.unusedSimpArgs false
theorem ZfH {α:Type} [Inhabited α] (enc:α→Value) (w:World) (g m:Nat) (d:Array α) (os:Array Obj) {b:Nat} (hb:b<w.heap.size) (hne:b≠g):(sortWorld enc w g 0 m d os).heap[b]? =w.heap[b]? :=by
 show ((w.heap.modify g _)++os)[b]? =_
 rw [Array.getElem?_append,if_pos (by simpa using hb),Array.getElem?_modify,if_neg (fun e=>hne e.symm)]
theorem zy {α:Type} [Inhabited α] (enc:α→Value) (w:World) (g m:Nat) (d:Array α) (os:Array Obj):w.heap.size≤(sortWorld enc w g 0 m d os).heap.size:=by
 show _≤((w.heap.modify g _)++os).size
 simp
theorem Zd7 {α:Type} [Inhabited α] (enc:α→Value) (w:World) (g m:Nat) (d:Array α) (os:Array Obj) {cs:Array Value} {t:TypeId} (h:w.heap[g]? =some (.cells cs t (0,0))):(sortWorld enc w g 0 m d os).heap[g]? =some (.cells (Go.Sort.putCells enc 0 d cs) t (0,0)):=by
 have hb:g<w.heap.size:=(Array.getElem?_eq_some_iff.1 h).1
 show ((w.heap.modify g _)++os)[g]? =_
 rw [Array.getElem?_append,if_pos (by simpa using hb),Array.getElem?_modify,if_pos rfl,h]
 rfl
section
variable {α:Type} [Inhabited α] (enc:α→List Value) (k:Nat) (hk:∀ x,(enc x).length=k)
include hk
end
end Go.Proofs.YtnbbllkbefagmaaGreatDoor
namespace Go.Proofs.YtnbbllkbefagmaaGreatDoor
open Go.RowKit Go.Sort
set_option linter.unusedVariables false
set_option linter.unusedSimpArgs false
theorem Zdd {α:Type} [Inhabited α] (enc:α→Value) {w:World} {base:Nat} {e:TypeId} {g q cap:Nat} {xs:List Value} (ho:w.ownsRow base e 1 (.slice (some ⟨g,0,none⟩) q cap) q xs) {d' :Array α} (hs:d'.size=q) (m:Nat) (os:Array Obj):(sortWorld enc w g 0 m d' os).ownsRow base e 1 (.slice (some ⟨g,0,none⟩) q cap) q (d'.toList.map enc):=by
 have hl:(d'.toList.map enc).length=q * 1:=by simp [hs]
 obtain ⟨hlen2,⟨hv0,_⟩|⟨g',cap',cur,hveq,hbase,hcell,hqc,hcm,hcs,htk⟩⟩:=ho
 ·cases hv0
 ·injection hveq with e1 e2 e3
  iterate 2
   injection e1 with e1
  subst e1;subst e3
  refine ⟨hl,.inr ⟨g,cap,_,rfl,hbase,Zd7 enc w g m d' os hcell,hqc,hcm,?_,?_⟩⟩
  ·rw [←hcs]
   show (cur.mapIdx _).size=_
   simp
  ·refine List.ext_getElem? fun j=>?_
   by_cases hj:j<q
   ·have hj2:j<d'.size:=by omega
    have hr:(d'.toList.map enc)[j]? =some (enc d'[j]!):=by
     rw [List.getElem?_map,Array.getElem?_toList,Array.getElem?_eq_getElem hj2,getElem!_pos d' j hj2];rfl
    rw [List.getElem?_take,if_pos (by omega),hr]
    have hjc:j<cur.size:=by rw [hcs];omega
    show ((cur.mapIdx fun i x=>if 0≤i∧i<0+d'.size then enc d'[i - 0]! else x).toList)[j]? =_
    rw [Array.getElem?_toList,Array.getElem?_mapIdx,Array.getElem?_eq_getElem hjc]
    simp only [Option.map_some,Nat.zero_add,Nat.sub_zero,Nat.zero_le,true_and]
    rw [if_pos hj2]
   ·rw [List.getElem?_eq_none (by rw [List.length_take];omega),List.getElem?_eq_none (by rw [hl];omega)]
theorem Hold.Zbz {α:Type} [Inhabited α] (enc:α→Value) {M:Nat→Prop} {row:Option Nat} {w0 w:World} {L:List Hp} (K:Hold M row w0 w L) (i:Nat) {e:TypeId} {g q cap:Nat} {xs:List Value} (hi:L[i]? =some (.own e 1 (.slice (some ⟨g,0,none⟩) q cap) q xs)) {d' :Array α} (hs:d'.size=q) (m:Nat) (os:Array Obj):Hold M row w0 (sortWorld enc w g 0 m d' os) (L.set i (.own e 1 (.slice (some ⟨g,0,none⟩) q cap) q (d'.toList.map enc))):=by
 have hg:g<w.heap.size:=(K.fresh _ (List.mem_of_getElem? hi) g rfl).2
 exact K.append (w' :=sortWorld enc w g 0 m d' os) i hi (Zdd enc (K.get i hi) hs m os) ⟨rfl,rfl,rfl,zy enc w g m d' os,fun b hb hne=>ZfH enc w g m d' os hb fun e=>hne (by rw [e];rfl)⟩ (.inl rfl) (Nat.lt_of_lt_of_le hg (zy enc w g m d' os))
def bytesOf (s:ByteArray):List UInt8:=s.data.toList
def strOf (z:List UInt8):ByteArray:=⟨z.toArray⟩
theorem U2 (s:ByteArray):strOf (bytesOf s)=s:=by simp [strOf,bytesOf]
theorem ZcC (ss:List ByteArray):(ss.map bytesOf).map encStr=Zv ss:=by
 unfold Zv
 rw [List.map_map]
 refine List.map_congr_left fun s _=>?_
 show Value.string (strOf (bytesOf s))=_
 rw [U2]
theorem Zac (zs:List (List UInt8)):zs.map encStr=Zv (zs.map strOf):=by
 unfold Zv
 rw [List.map_map];rfl
theorem Zed (ss:List ByteArray):(ss.map bytesOf).map strOf=ss:=by
 rw [List.map_map]
 conv=>rhs;rw [←List.map_id ss]
 exact List.map_congr_left fun s _=>U2 s
theorem Gb {w:World} {base:Nat} {e:TypeId} {g q cap:Nat} {ss:List ByteArray} (ho:w.ownsRow base e 1 (.slice (some ⟨g,0,none⟩) q cap) q (Zv ss)):Holds encStr w g 0 (ss.map bytesOf).toArray:=fun j hj=>by
 have hl:ss.length=q:=by have:=ho.1;simpa [Zv] using this
 have hj2:j<q:=by simpa [hl] using hj
 rw [Nat.zero_add]
 refine ⟨(ho.cellAt j (by omega)).trans ?_,ho.frozenAt j⟩
 have hx:(ss.map bytesOf).toArray[j]! =(ss.map bytesOf)[j]'(by simpa using hj):=by rw [getElem!_pos (ss.map bytesOf).toArray j hj];simp
 rw [←ZcC,List.getElem?_map,hx,List.getElem?_eq_getElem (by simpa using hj)]
 rfl
theorem Zb7 {M:Nat→Prop} {row:Option Nat} {w0 w:World} {L:List Hp} (K:Hold M row w0 w L) (i:Nat) {e:TypeId} {g q cap:Nat} {ss:List ByteArray} (hi:L[i]? =some (.own e 1 (.slice (some ⟨g,0,none⟩) q cap) q (Zv ss))) (hq:q<4611686018427387904):
  Calls Tryz.prog 177 #[.slice (some ⟨g,0,none⟩) q cap] w fun e' w' =>e' =.returned (.tuple #[])∧∃ ss' :List ByteArray,ss'.Perm ss∧Hold M row w0 w' (L.set i (.own e 1 (.slice (some ⟨g,0,none⟩) q cap) q (Zv ss'))):=by
 have ho:=K.get i hi
 have hg:g<w.heap.size:=(K.fresh _ (List.mem_of_getElem? hi) g rfl).2
 have hl:ss.length=q:=by have:=ho.1;simpa [Zv] using this
 have hc:=AnyM.slices_Sort_string Tryz.sortStr g 0 cap (ss.map bytesOf) w (Gb ho) hg (by rw [List.length_map,hl];exact hq)
 rw [List.length_map,hl] at hc
 refine Calls.mono (show Calls Tryz.prog 177 _ w _ from hc) ?_
 rintro e' w' ⟨rfl,n,os,rfl⟩
 refine ⟨rfl,((ss.map bytesOf).mergeSort fun x y=>decide (x≤y)).map strOf,?_,?_⟩
 ·have:=(List.mergeSort_perm (ss.map bytesOf) fun x y=>decide (x≤y)).map strOf
  rwa [Zed] at this
 ·rw [←Zac]
  exact K.Zbz encStr i hi (d' :=((ss.map bytesOf).mergeSort fun x y=>decide (x≤y)).toArray) (by simp [hl]) n os
theorem zi {α:Type} [Inhabited α] [DecidableEq α] (d:Array α) (m:Nat):∀ j,j<m→d[j]! ∈Lib.compactUpTo d m
 | 0,h=>List.mem_map.2 ⟨0,List.mem_filter.2 ⟨List.mem_range.2 h,by simp [Lib.keeps]⟩,rfl⟩
 | j+1,h=>by
  by_cases hk:Lib.keeps d (j+1)=true
  ·exact List.mem_map.2 ⟨j+1,List.mem_filter.2 ⟨List.mem_range.2 h,hk⟩,rfl⟩
  ·have he:d[j+1]! =d[j]! :=by simpa [Lib.keeps] using hk
   rw [he]
   exact zi d m j (by omega)
theorem ZaU {α:Type} [Inhabited α] [DecidableEq α] (zs:List α) (z:α):z∈Lib.compact zs↔z∈zs:=by
 constructor
 ·intro h
  obtain ⟨j,hj,rfl⟩:=List.mem_map.1 h
  have hj2:=List.mem_range.1 (List.mem_filter.1 hj).1
  rw [getElem!_pos _ _ (by simpa using hj2)]
  simp
 ·intro h
  obtain ⟨j,hj,rfl⟩:=List.getElem_of_mem h
  have:=zi zs.toArray zs.length j hj
  rwa [getElem!_pos _ _ (by simpa using hj)] at this
theorem Zep {M:Nat→Prop} {row:Option Nat} {w0 w:World} {L:List Hp} (K:Hold M row w0 w L) (i:Nat) {e:TypeId} {g q cap:Nat} {ss:List ByteArray} (hi:L[i]? =some (.own e 1 (.slice (some ⟨g,0,none⟩) q cap) q (Zv ss))) (hq:q≤9223372036854775807):
  Calls Tryz.prog 178 #[.slice (some ⟨g,0,none⟩) q cap] w fun e' w' =>∃ (q' :Nat) (ss' :List ByteArray),e' =.returned (.slice (some ⟨g,0,none⟩) q' cap)∧q' ≤q∧(∀ s,s∈ss' ↔s∈ss)∧Hold M row w0 w' (L.set i (.own e 1 (.slice (some ⟨g,0,none⟩) q' cap) q' (Zv ss'))):=by
 have ho:=K.get i hi
 have hl:ss.length=q:=by have:=ho.1;simpa [Zv] using this
 have hcap:=Yx ho
 have hc:=AnyG.slices_Compact_string Tryz.Zhj g 0 cap (ss.map bytesOf) w (Gb ho) (by rw [List.length_map,hl];exact hq) (by rw [List.length_map,hl];exact hcap.1)
 rw [List.length_map,hl] at hc
 refine Calls.mono (show Calls Tryz.prog 178 _ w _ from hc) ?_
 rintro e' w' ⟨rfl,n,rfl⟩
 have hle:(Lib.compact (ss.map bytesOf)).length≤q:=by
  have h1:(Lib.compact (ss.map bytesOf)).length≤(ss.map bytesOf).length:=by
   unfold Lib.compact Lib.compactUpTo
   rw [List.length_map]
   exact Nat.le_trans (List.length_filter_le _ _) (by simp)
  rwa [List.length_map,hl] at h1
 refine ⟨_,(Lib.compact (ss.map bytesOf)).map strOf,rfl,hle,fun s=>?_,?_⟩
 ·rw [List.mem_map]
  constructor
  ·rintro ⟨z,hz,rfl⟩
   obtain ⟨x,hx,rfl⟩:=List.mem_map.1 ((ZaU _ _).1 hz)
   rwa [U2]
  ·intro hs
   exact ⟨bytesOf s,(ZaU _ _).2 (List.mem_map_of_mem hs),U2 s⟩
 ·have K1:=K.Zbz encStr i hi (d' :=(Lib.compact (ss.map bytesOf)++List.replicate (q - (Lib.compact (ss.map bytesOf)).length) []).toArray) (by simp;omega) n #[]
  have hi2:(L.set i (.own e 1 (.slice (some ⟨g,0,none⟩) q cap) q ((Lib.compact (ss.map bytesOf)++List.replicate (q - (Lib.compact (ss.map bytesOf)).length) []).toArray.toList.map encStr)))[i]? =some (.own e 1 (.slice (some ⟨g,0,none⟩) q cap) q ((Lib.compact (ss.map bytesOf)++List.replicate (q - (Lib.compact (ss.map bytesOf)).length) []).toArray.toList.map encStr)):=List.getElem?_set_self (List.getElem?_eq_some_iff.1 hi).1
  have K2:=K1.Zhs i (n:=(Lib.compact (ss.map bytesOf)).length) hi2 hle
  rw [List.set_set,List.map_append,Nat.mul_one,List.take_left' (by simp),Zac] at K2
  have e:sortWorld encStr w g 0 n (Lib.compact (ss.map bytesOf)++List.replicate (q - (Lib.compact (ss.map bytesOf)).length) []).toArray #[]=putRow encStr (Sort.ahead w n) g 0 (Lib.compact (ss.map bytesOf)++List.replicate (q - (Lib.compact (ss.map bytesOf)).length) []).toArray:=grow_empty _
  rw [e] at K2
  exact K2
end Go.Proofs.YtnbbllkbefagmaaGreatDoor
namespace Go.Proofs.YtnbbllkbefagmaaGreatDoor
open Go.RowKit
set_option linter.unusedVariables false
set_option linter.unusedSimpArgs false
set_option maxHeartbeats 2000000 in
theorem ZgL (w:World):Calls Tryz.prog 241 #[.slice none 0 0,.int .i64 0,.int .i64 0] w fun e w' =>e=.returned (.tuple #[])∧Below w.heap.size w w' :=by
 go_enter Tryz.func241,Tryz.ntmps241
 go_wp2_with fail
 go_loopw [6] (fun i wr=>i=.int .i64 1∧wr=w) (fun _ _=>0)
 case atStart=>exact ⟨rfl,rfl⟩
 case round=>
  obtain ⟨rfl,rfl⟩:=hrel
  go_wp2_with fail
  exact bodyPost_end (v:=.tuple #[]) (by simp [results,Tryz.results241,go_sem]) rfl ⟨rfl,Below.refl _ _⟩
set_option maxHeartbeats 2000000 in
theorem Zca (w:World):Calls Tryz.prog 251 #[.int .u64 0] w fun e w' =>e=.returned (.int .i64 0)∧Below w.heap.size w w' :=by
 go_enter Tryz.func251,Tryz.ntmps251
 go_wp2_with fail
 go_ret
 exact ⟨by first|rfl|(simp;rw [show Lib.len8 0=0 from by kernel_rfl];kernel_rfl),Below.refl _ _⟩
set_option maxHeartbeats 2000000 in
theorem ZcV (w:World):Calls Tryz.prog 216 #[.int .u64 0] w fun e w' =>e=.returned (.int .i64 0)∧Below w.heap.size w w' :=by
 go_enter Tryz.func216,Tryz.ntmps216
 go_wp2_with fail
 refine (Zca w).mono ?_
 rintro e w1 ⟨rfl,b1⟩
 go_wp2_with fail
 go_ret
 exact ⟨rfl,b1⟩
set_option maxHeartbeats 2000000 in
theorem Zer (w:World):Calls Tryz.prog 215 #[.slice none 0 0,.int .i64 0,.int .i64 0,.int .i64 0] w fun e w' =>e=.returned (.tuple #[])∧Below w.heap.size w w' :=by
 go_enter Tryz.func215,Tryz.ntmps215
 go_wp2_with fail
 go_loopw [1,2,3] (fun x y z wr=>x=.int .i64 0∧y=.int .i64 0∧z=.int .i64 0∧wr=w) (fun _ _ _ _=>0)
 case atStart=>exact ⟨rfl,rfl,rfl,rfl⟩
 case round=>
  obtain ⟨rfl,rfl,rfl,rfl⟩:=hrel
  go_wp2_with fail
  refine (ZgL wr).mono ?_
  rintro e w1 ⟨rfl,b1⟩
  go_wp2_with fail
  exact bodyPost_ret (v:=.tuple #[]) (by simp [results,Tryz.results215,go_sem]) rfl ⟨rfl,b1⟩
set_option maxHeartbeats 2000000 in
theorem Zf2 (w:World):Calls Tryz.prog 177 #[.slice none 0 0] w fun e w' =>e=.returned (.tuple #[])∧Below w.heap.size w w' :=by
 go_enter Tryz.func177,Tryz.ntmps177
 go_wp2_with fail
 refine (ZcV w).mono ?_
 rintro e w1 ⟨rfl,b1⟩
 go_wp2_with fail
 refine (Zer w1).mono ?_
 rintro e w2 ⟨rfl,b2⟩
 go_wp2_with fail
 exact bodyPost_end (v:=.tuple #[]) (by simp [results,Tryz.results177,go_sem]) rfl ⟨rfl,b1.trans (b2.mono b1.size)⟩
set_option maxHeartbeats 2000000 in
theorem Zc6 (w:World):Calls Tryz.prog 178 #[.slice none 0 0] w fun e w' =>e=.returned (.slice none 0 0)∧Below w.heap.size w w' :=by
 go_enter Tryz.func178,Tryz.ntmps178
 go_wp2_with fail
 go_ret
 exact ⟨rfl,Below.refl _ _⟩
def YX (t:Tg):List ByteArray:=t.acts.l.flatMap fun a=>if a.kind=5 then a.sets.l.map Se.col else []
def ZW (r:Rk) (t:Tg):Bool:=
 if t.before=true then !(decide (t.tab=r.tab)&&decide (t.event=2)&&t.each&&(YX t).any fun c=>decide (c=r.col)) else t.acts.l.all (Ya r)
def YG (ts:List Tg) (r:Rk):Bool:=ts.all (ZW r)
def Xn (cs:List Col) (c:ByteArray):Bool:=match cs.find? (fun x=>decide (x.name=c)) with|some x=>decide (x.ty=1)&&!x.key|none=>false
def Ws (d:Nat) (ts:List Tg) (tabs:List (ByteArray × List Col)) (t:Tg) (r:Rk):Bool:=
 (match tabs.find? (fun x=>decide (x.1=r.tab)) with|some x=>Xn x.2 r.col|none=>false)&&(decide (r.lo≤r.hi)&&decide (r.hi - r.lo≤1048576))&&YO d t r&&YG ts r
def Yn (d:Nat) (ts:List Tg) (tabs:List (ByteArray × List Col)) (i:Int):Bool:=
 if 0≤i then (match ts[i.toNat]? with
  | some t=>if t.before=true then false else (match t.rank.l with|r::_=>Ws d ts tabs t r|[]=>false)
  | none=>false) else false
theorem G6 {x:Ex} {n:Int} (h:Xv x n) (hn:I64 n):ZL x=(n,true):=by
 rcases h with ⟨h0,rfl⟩|⟨h0,g,rfl⟩
 ·simp [ZL,Zz]
 ·simp only [ZL,opE,Zz]
  have:IntKind.i64.wrap n=n:=IntWalk.i64_in _ hn
  simp [this]
theorem ZfO {x:Ex} {n:Int} (h:Xv x n) (h0:0≤n):x=Zz ⟨1,n,⟨#[]⟩⟩:=by
 rcases h with ⟨_,rfl⟩|⟨h1,_⟩
 ·rfl
 ·omega
def Y9 (u c:ByteArray) (k lo hi:Int) (a:Ac):Prop:=
 a.kind=2∧a.tab=u∧∃ (g1 g2:Nat) (kE x y:Ex),a.sets.l=[⟨c,opE 5 10 false g1 2 [Zk ⟨#[]⟩ c,kE]⟩]∧a.wh.l=[opE 7 0 false g2 3 [Zk ⟨#[]⟩ c,x,y]]∧Xv kE k∧Xv x lo∧Xv y hi
theorem Zax {u c:ByteArray} {k lo hi:Int} {a:Ac} (h:Y9 u c k lo hi a) (hk:0≤k):YN a c=some k:=by
 obtain ⟨h1,h2,g1,g2,kE,x,y,hs,hw,hkE,hx,hy⟩:=h
 rw [ZfO hkE hk] at hs
 simp [YN,h1,hs,Yq,XJ,opE,Zk,Zz]
theorem ZdR {u c:ByteArray} {k lo hi:Int} {a:Ac} (d:Nat) (h:Y9 u c k lo hi a) (h3:I64 lo) (h4:I64 hi):XI (d+1) a c=some (lo,hi):=by
 obtain ⟨h1,h2,g1,g2,kE,x,y,hs,hw,hkE,hx,hy⟩:=h
 simp [XI,h1,hw,Z9,opE,Yz,Zk,G6 hx h3,G6 hy h4]
theorem ZfV {u c:ByteArray} {k lo hi L H:Int} {a:Ac} (d:Nat) (h:Y9 u c k lo hi a) (hk:0≤k) (h3:I64 lo) (h4:I64 hi):YH (d+1) ⟨u,c,L,H⟩ a=(decide (1≤k)&&decide (L≤lo)&&decide (hi≤H)):=by
 have e1:a.kind=2:=h.1
 have e2:a.tab=u:=h.2.1
 simp [YH,Zax h hk,ZdR d h h3 h4,e1,e2]
theorem Zfq {u c:ByteArray} {k lo hi L H:Int} {a:Ac} (h:Y9 u c k lo hi a) (hk:0≤k):Ya ⟨u,c,L,H⟩ a=true:=by
 have e1:a.kind=2:=h.1
 have e2:a.tab=u:=h.2.1
 simp [Ya,Zax h hk,e1,e2]
def Zu (l:List Ac):List Se:=l.flatMap fun a=>if a.kind=5 then a.sets.l else []
theorem JK (t:Tg):(Zu t.acts.l).map Se.col=YX t:=by
 unfold Zu YX
 generalize t.acts.l=l
 induction l with
 | nil=>rfl
 | cons a l ih=>
  rw [List.flatMap_cons,List.flatMap_cons,List.map_append,ih]
  split<;>rfl
theorem Jf {l:List Ac} {k:Nat} {x:Ac} (hx:l[k]? =some x):Zu (l.take (k+1))=Zu (l.take k)++(if x.kind=5 then x.sets.l else []):=by
 unfold Zu
 rw [List.take_add_one,hx]
 simp
theorem Zay {l:List Ac} (k:Nat):(Zu (l.take k)).length≤(Zu l).length:=by
 have h:Zu (l.take k++l.drop k)=Zu (l.take k)++Zu (l.drop k):=by unfold Zu;exact List.flatMap_append ..
 rw [List.take_append_drop] at h
 rw [h,List.length_append]
 omega
theorem Zgr {l:List Ac} {d:Nat} {w:World} (h:∀ a∈l,AcIn d a w):∀ s∈Zu l,ZY d s w:=fun s hs=>by
 unfold Zu at hs
 rw [List.mem_flatMap] at hs
 obtain ⟨a,ha,hs⟩:=hs
 split at hs
 ·exact (h a ha).parts.2.2.1.2 s hs
 ·exact nomatch hs
theorem ZdV (l:List Se):∀ u∈l.flatMap Se.cells,u.oneCell' =true:=fun u hu=>by
 rw [List.mem_flatMap] at hu
 obtain ⟨x,_,hx⟩:=hu
 unfold Se.cells at hx
 rcases List.mem_cons.1 hx with rfl|hx
 ·rfl
 ·exact Zcz x.e u hx
theorem Tryz.Zhg:ElemT Tryz.prog 95 128 11 152 (.agg #[.string ⟨#[]⟩,.int .i64 0,.int .i64 0,.bool false,.int .i64 0,.int .i64 0,.string ⟨#[]⟩,.string ⟨#[]⟩,.string ⟨#[]⟩,.slice none 0 0,.slice none 0 0]):=⟨Tryz.underlying95,by kernel_rfl,rfl,by omega⟩
set_option maxRecDepth 100000 in
set_option maxHeartbeats 4000000 in
theorem ZdE (M:Nat→Prop) (w:World) (hM:∀ b,M b→b<w.heap.size) (t:Tg) (d:Nat) (ha:Ro w M (AcsIn d t.acts.A t.acts.n t.acts.l)) (hn:t.acts.n≤9223372036854775807) (hs:(Zu t.acts.l).length≤549755813888):
  Calls Tryz.prog 196 #[t.val] w fun e w' =>∃ (A:Option Addr) (n c:Nat),e=.returned (.slice A n c)∧n≤549755813888∧Ro w' M (SesIn d A n (Zu t.acts.l))∧Below w.heap.size w w' :=by
 obtain ⟨tname,ttab,tbef,tev,⟨cA,cn,cc,cl⟩,teach,⟨pA,pn,pc,pl⟩,⟨fA,fn,fc,fl⟩,⟨kA,kn,kc,kl⟩,⟨oA,on,oc,ol⟩,⟨uA,un,uc,ul⟩⟩:=t
 simp only [Tg.val] at ha hn hs ⊢
 have HL:=hid ha.now.len
 have HS:=hid hs
 have K0:=((Hold.start M w hM).add (ha.less (by simp [Mut]))).Za #[.string tname,.string ttab,.bool tbef,.int .i64 tev,.slice cA cn cc,.bool teach,.slice pA pn pc,.slice fA fn fc,.slice kA kn kc,.slice oA on oc,.slice uA un uc] 40
 have KN:=K0.nil 128 11
 have F0:=K0.facts
 simp only [zg] at F0
 clear ha hs
 go_enter Tryz.func196,Tryz.ntmps196
 go_wp2_with fail
 clear F0 K0
 go_loopw [3,9] (fun ov iv wr=>∃ (k q cap:Nat) (O:Option Addr),k≤un∧iv=.int .i64 k∧ov=.slice O q cap∧Hid (q=(Zu (ul.take k)).length)∧Hold M none w wr [.own 128 11 (.slice O q cap) q ((Zu (ul.take k)).flatMap Se.cells),.cst w.heap.size 40 #[.string tname,.string ttab,.bool tbef,.int .i64 tev,.slice cA cn cc,.bool teach,.slice pA pn pc,.slice fA fn fc,.slice kA kn kc,.slice oA on oc,.slice uA un uc],.ro (AcsIn d uA un ul)]) (fun _ i _=>un - (intOf i).toNat)
 case atStart=>exact ⟨0,0,0,none,by omega,rfl,rfl,hid rfl,KN⟩
 case round=>
  clear KN
  obtain ⟨k,q,cap,O,hk,rfl,rfl,HQ,H⟩:=hrel
  by_cases hlt:k<un
  ·obtain ⟨⟨ak,atab,⟨arA,arn,arc,arl⟩,⟨aqA,aqn,aqc,aql⟩,⟨asA,asn,asc,asl⟩,⟨awA,awn,awc,awl⟩,atext⟩,hc⟩:=Y2 HL.out hlt
   obtain ⟨b,o,rfl,hb,hcl,-⟩:=(H.ro 2 rfl).now.at_ hc
   have c0:=hcl 0 _ (by omega) rfl
   have c1:=hcl 1 _ (by omega) rfl
   have c2:=hcl 2 _ (by omega) rfl
   have c3:=hcl 3 _ (by omega) rfl
   have c4:=hcl 4 _ (by omega) rfl
   have c5:=hcl 5 _ (by omega) rfl
   have c6:=hcl 6 _ (by omega) rfl
   simp only [Nat.add_zero] at c0
   clear hcl
   simp only [SlP.v] at c2 c3 c4 c5
   have HT:=hid (Jf hc)
   have HTL:=hid (Zay (l:=ul) (k+1))
   have HM:=hid (List.mem_of_getElem? hc)
   clear hc
   have K1:=H.Za #[.int .i64 ak,.string atab,.slice arA arn arc,.slice aqA aqn aqc,.slice asA asn asc,.slice awA awn awc,.string atext] 97
   have F1:=K1.facts
   simp only [zg] at F1
   clear H
   by_cases h5:ak=5
   ·subst h5
    have hS:=((K1.ro 3 rfl).now.2 _ HM.out).parts.2.2.1
    simp only at hS
    have hlen:=hS.len
    have e1:(Zu (ul.take (k+1))).length=q+asn:=by
     rw [HT.out,List.length_append,HQ.out];simp [hlen]
    have e2:(Zu (ul.take k)).flatMap Se.cells++asl.flatMap Se.cells=(Zu (ul.take (k+1))).flatMap Se.cells:=by
     rw [HT.out,List.flatMap_append];simp
    have hqs:q+asn≤549755813888:=by have:=HTL.out;have:=HS.out;omega
    have HE1:=hid e1
    have HE2:=hid e2
    have HSR:=hid hS.1
    clear e1 e2 hlen hS
    go_wp2_with (at_builtin;go_must (refine Yy K1 1 rfl Tryz.Zhg HSR.out rfl (.tmp 16) (.tmp 18) rfl rfl rfl (ZdV _) (by omega) (by omega) ?_);intro C9 cap9 w9 hc9 hm9 KB;rw [HE2.out] at KB;simp only [zl] at KB)
    go_roundw
    case rel=>exact ⟨k+1,q+asn,cap9,_,by omega,by go_num,by first|rfl|trivial,hid HE1.out.symm,KB.drop (List.sublist_cons_self _ _)⟩
    case measure=>simp [intOf];omega
   ·have e1:Zu (ul.take (k+1))=Zu (ul.take k):=by rw [HT.out];simp [h5]
    go_wp2_with fail
    all_goals first
     | (exfalso;omega)
     | skip
    go_roundw
    case rel=>exact ⟨k+1,q,cap,O,by omega,by go_num,by first|rfl|trivial,hid (by rw [e1];exact HQ.out),by rw [e1];exact K1.drop (List.sublist_cons_self _ _)⟩
    case measure=>simp [intOf];omega
  ·obtain rfl:un=k:=by omega
   rw [List.take_of_length_le (by rw [HL.out];exact Nat.le_refl _)] at H HQ
   have K1:=H.ZC 0 rfl
   simp only [List.set_cons_zero] at K1
   have F:=H.facts
   simp only [zg] at F
   have hq:q≤549755813888:=by have:=HQ.out;have:=HS.out;omega
   go_wp2_with fail
   go_ret
   refine ⟨O,q,cap,by first|rfl|simp,hq,?_,H.below⟩
   have R1:=K1.ro 0 rfl
   have R2:=K1.ro 2 rfl
   exact ((R1.and R2).imp fun w2 h2=>⟨h2.1,Zgr h2.2.2⟩).less fun b hb=>.inl hb
set_option maxRecDepth 100000 in
set_option maxHeartbeats 2000000 in
theorem ZeH (M:Nat→Prop) (row:Option Nat) (w0 w:World) (g k:Nat) (L:List Hp) (d:Nat) (a:Ac) (h:NmSt M row w0 w g k (.ro (AcIn d a)::L)) (hk:k+acW d a≤4398046511104):
  Calls Tryz.prog 195 #[a.val,Ul g] w fun r w' =>(∃ b,r=.returned (.bool b))∧NmSt M row w0 w' g (k+acW d a) (.ro (AcIn d a)::L):=by
 have hce:=fun (w:World) (L:List Hp) (h:NmSt M row w0 w g k (.ro (AcIn d a)::L))=>Zft M row w0 w g k L d a h hk
 have H1:=h.cst #[.int .i64 a.kind,.string a.tab,.slice a.rows.A a.rows.n a.rows.c,.slice a.qs.A a.qs.n a.qs.c,.slice a.sets.A a.sets.n a.sets.c,.slice a.wh.A a.wh.n a.wh.c,.string a.text] 97
 have F1:=(H1.drop (L' :=[_]) (List.Sublist.cons_cons _ (List.nil_sublist _))).factsL
 simp only [zg] at F1
 obtain ⟨P,m,c,xs,hm,K⟩:=H1
 have H2:NmSt M row w0 _ g k (.ro (AcIn d a)::.cst w.heap.size 97 #[.int .i64 a.kind,.string a.tab,.slice a.rows.A a.rows.n a.rows.c,.slice a.qs.A a.qs.n a.qs.c,.slice a.sets.A a.sets.n a.sets.c,.slice a.wh.A a.wh.n a.wh.c,.string a.text]::L):=⟨P,m,c,xs,hm,K.perm (((List.Perm.swap _ _ _).cons _).cons _)⟩
 simp only [Ac.val] at hce ⊢
 have HCE:=hid hce
 clear hce K
 go_enter Tryz.func195,Tryz.ntmps195
 go_wp2_with fail
 refine (HCE.out _ _ H2).mono ?_
 rintro e w1 ⟨rfl,H3⟩
 go_wp2_with fail
 go_ret
 exact ⟨⟨true,by first|rfl|simp⟩,H3.drop (List.Sublist.cons_cons _ (List.sublist_cons_self _ _))⟩
set_option maxRecDepth 100000 in
set_option maxHeartbeats 2000000 in
theorem Zdf (M:Nat→Prop) (row:Option Nat) (w0 w:World) (g k:Nat) (L:List Hp) (d:Nat) (A:Option Addr) (n c:Nat) (l:List Ex) (h:NmSt M row w0 w g k (.ro (ExsIn d A n l)::L)) (hk:k+ZA d l≤4398046511104):
  Calls Tryz.prog 194 #[.slice A n c,Ul g] w fun r w' =>(∃ b,r=.returned (.bool b))∧NmSt M row w0 w' g (k+ZA d l) (.ro (ExsIn d A n l)::L):=by
 go_enter Tryz.func194,Tryz.ntmps194
 go_wp2_with fail
 refine ((Vo d).1 _ _ _ _ _ _ _ _ _ _ _ h hk).mono ?_
 rintro e w1 ⟨rfl,H3⟩
 go_wp2_with fail
 go_ret
 exact ⟨⟨true,by first|rfl|simp⟩,H3⟩
theorem Zaf {α:Type} {L:List α} {i:Nat} {x:α} (h:L[i]? =some x):L.set i x=L:=by
 apply List.ext_getElem?
 intro j
 rw [List.getElem?_set]
 split
 ·subst i;split
  ·exact h.symm
  ·rw [List.getElem?_eq_none (by omega)]
 ·rfl
theorem ZaB {M:Nat→Prop} {row:Option Nat} {w0 w:World} {L:List Hp} (K:Hold M row w0 w L) (i:Nat) {e:TypeId} {A:Option Addr} {q cap:Nat} {ss:List ByteArray} (hi:L[i]? =some (.own e 1 (.slice A q cap) q (Zv ss))) (hq:q<4611686018427387904):
  Calls Tryz.prog 177 #[.slice A q cap] w fun e' w' =>e' =.returned (.tuple #[])∧∃ ss' :List ByteArray,ss'.Perm ss∧Hold M row w0 w' (L.set i (.own e 1 (.slice A q cap) q (Zv ss'))):=by
 rcases JG (show w.ownsRow w0.heap.size e 1 (.slice A q cap) q (Zv ss) from K.get i hi) with ⟨rfl,rfl,rfl⟩|⟨g,rfl,_⟩
 ·refine (Zf2 w).mono ?_
  rintro e' w' ⟨rfl,b⟩
  exact ⟨rfl,ss,List.Perm.refl _,by rw [Zaf hi];exact K.call b⟩
 ·exact Zb7 K i hi hq
theorem Zam {M:Nat→Prop} {row:Option Nat} {w0 w:World} {L:List Hp} (K:Hold M row w0 w L) (i:Nat) {e:TypeId} {A:Option Addr} {q cap:Nat} {ss:List ByteArray} (hi:L[i]? =some (.own e 1 (.slice A q cap) q (Zv ss))) (hq:q≤9223372036854775807):
  Calls Tryz.prog 178 #[.slice A q cap] w fun e' w' =>∃ (q' :Nat) (ss' :List ByteArray),e' =.returned (.slice A q' cap)∧q' ≤q∧(∀ s,s∈ss' ↔s∈ss)∧Hold M row w0 w' (L.set i (.own e 1 (.slice A q' cap) q' (Zv ss'))):=by
 rcases JG (show w.ownsRow w0.heap.size e 1 (.slice A q cap) q (Zv ss) from K.get i hi) with ⟨rfl,rfl,rfl⟩|⟨g,rfl,_⟩
 ·refine (Zc6 w).mono ?_
  rintro e' w' ⟨rfl,b⟩
  exact ⟨0,ss,rfl,Nat.le_refl _,fun s=>Iff.rfl,by rw [Zaf hi];exact K.call b⟩
 ·exact Zep K i hi hq
def tgW (d:Nat) (t:Tg):Nat:=ZA d t.cond.l+Xl d t.acts.l
theorem TgIn.parts {d:Nat} {t:Tg} {w:World} (h:TgIn d t w):ExsIn d t.cond.A t.cond.n t.cond.l w∧AcsIn d t.acts.A t.acts.n t.acts.l w:=⟨h.2.2.2.2.1,h.2.2.2.2.2⟩
set_option maxRecDepth 100000 in
set_option maxHeartbeats 4000000 in
theorem Zgv (w:World) (t:Tg) (h:¬(t.before=true∧t.each=true)):
  Calls Tryz.prog 143 #[t.val] w fun e w' =>e=.returned (.tuple #[.slice none 0 0,.slice none 0 0])∧Below w.heap.size w w' :=by
 obtain ⟨tname,ttab,tbef,tev,⟨cA,cn,cc,cl⟩,teach,⟨pA,pn,pc,pl⟩,⟨fA,fn,fc,fl⟩,⟨kA,kn,kc,kl⟩,⟨oA,on,oc,ol⟩,⟨uA,un,uc,ul⟩⟩:=t
 simp only [Tg.val] at h ⊢
 have K0:=(Hold.YD w).Za #[.string tname,.string ttab,.bool tbef,.int .i64 tev,.slice cA cn cc,.bool teach,.slice pA pn pc,.slice fA fn fc,.slice kA kn kc,.slice oA on oc,.slice uA un uc] 40
 have F0:=K0.facts
 simp only [zg] at F0
 have HB:=hid K0.below
 clear K0
 go_enter Tryz.func143,Tryz.ntmps143
 cases tbef<;>cases teach
 all_goals first
  | (exfalso;exact h ⟨rfl,rfl⟩)
  | (clear h;go_wp2_with fail;refine bodyPost_ret (results_tmp2 rfl _ _ _) rfl ?_;exact ⟨rfl,HB.out⟩)
set_option maxRecDepth 100000 in
set_option maxHeartbeats 8000000 in
theorem Zfm (M:Nat→Prop) (w:World) (hM:∀ b,M b→b<w.heap.size) (t:Tg) (d:Nat) (ha:Ro w M (TgIn d t)) (hn:t.acts.n≤9223372036854775807) (hs:(Zu t.acts.l).length≤549755813888) (hw:tgW d t≤4398046511104) (hb:t.before=true) (he:t.each=true):
  Calls Tryz.prog 143 #[t.val] w fun e w' =>∃ (B C:Option Addr) (m c k c2:Nat) (xs:List ByteArray),e=.returned (.tuple #[.slice B m c,.slice C k c2])∧k≤549755813888∧Ro w' M (StrsIn C k xs)∧(∀ s,s∈xs↔s∈YX t)∧Below w.heap.size w w' :=by
 obtain ⟨hC,hA⟩:=ha.now.parts
 have HSC:=hid (JK t)
 generalize YX t=SC at *
 obtain ⟨tname,ttab,tbef,tev,⟨cA,cn,cc,cl⟩,teach,⟨pA,pn,pc,pl⟩,⟨fA,fn,fc,fl⟩,⟨kA,kn,kc,kl⟩,⟨oA,on,oc,ol⟩,⟨uA,un,uc,ul⟩⟩:=t
 simp only [Tg.val,tgW] at hb he hn hs hw hC hA HSC ⊢
 subst hb
 subst he
 have HL:=hid hA.len
 have HW:=hid hw
 have HS:=hid hs
 clear hC hA hw hs
 have K0:=((Hold.start M w hM).add (ha.less (by simp [Mut]))).Za #[.string tname,.string ttab,.bool true,.int .i64 tev,.slice cA cn cc,.bool true,.slice pA pn pc,.slice fA fn fc,.slice kA kn kc,.slice oA on oc,.slice uA un uc] 40
 have K1:=(K0.alloc #[.slice none 0 0] 35).nil 9 1
 simp only [World.size_alloc] at K1
 have H0:NmSt M none w _ (w.heap.size+1) 0 [.cst w.heap.size 40 #[.string tname,.string ttab,.bool true,.int .i64 tev,.slice cA cn cc,.bool true,.slice pA pn pc,.slice fA fn fc,.slice kA kn kc,.slice oA on oc,.slice uA un uc],.ro (TgIn d ⟨tname,ttab,true,tev,⟨cA,cn,cc,cl⟩,true,⟨pA,pn,pc,pl⟩,⟨fA,fn,fc,fl⟩,⟨kA,kn,kc,kl⟩,⟨oA,on,oc,ol⟩,⟨uA,un,uc,ul⟩⟩)]:=⟨none,0,0,[],Nat.le_refl _,K1.perm (List.Perm.swap _ _ _)⟩
 have H1:=H0.Xm 1 (S' :=ExsIn d oA on ol) rfl (fun w2 h2=>h2.parts.1)
 have F1:=K1.facts
 simp only [zg] at F1
 clear ha K0 K1 H0
 obtain ⟨g,hg⟩:∃ g,g=w.heap.size+1:=⟨_,rfl⟩
 go_enter Tryz.func143,Tryz.ntmps143
 go_wp2_with fail
 rw [←hg] at H1 ⊢
 have HG:=hid hg
 clear hg
 refine (Zdf _ _ _ _ _ _ _ _ _ _ _ _ H1 (by have:=HW.out;omega)).mono ?_
 rintro e w1 ⟨⟨vb,rfl⟩,H2⟩
 have H3:=H2.Xm 2 (S' :=AcsIn d uA un ul) rfl (fun w2 h2=>h2.parts.2)
 have H4:=H3.drop (L' :=[.ro (AcsIn d uA un ul),.cst w.heap.size 40 #[.string tname,.string ttab,.bool true,.int .i64 tev,.slice cA cn cc,.bool true,.slice pA pn pc,.slice fA fn fc,.slice kA kn kc,.slice oA on oc,.slice uA un uc],.ro (TgIn d ⟨tname,ttab,true,tev,⟨cA,cn,cc,cl⟩,true,⟨pA,pn,pc,pl⟩,⟨fA,fn,fc,fl⟩,⟨kA,kn,kc,kl⟩,⟨oA,on,oc,ol⟩,⟨uA,un,uc,ul⟩⟩)]) (List.Sublist.cons_cons _ (List.Sublist.cons _ (List.Sublist.refl _)))
 clear H1 H2 H3 F1
 have F4:=(H4.drop (L' :=[_,_,_]) (List.Sublist.cons_cons _ (List.Sublist.cons_cons _ (List.Sublist.cons_cons _ (List.nil_sublist _))))).factsL
 simp only [zg] at F4
 go_wp2_with fail
 clear F4
 go_loopw [27] (fun iv wr=>∃ (j:Nat),j≤un∧iv=.int .i64 j∧NmSt M none w wr g (0+ZA d ol+Xl d (ul.take j)) [.ro (AcsIn d uA un ul),.cst w.heap.size 40 #[.string tname,.string ttab,.bool true,.int .i64 tev,.slice cA cn cc,.bool true,.slice pA pn pc,.slice fA fn fc,.slice kA kn kc,.slice oA on oc,.slice uA un uc],.ro (TgIn d ⟨tname,ttab,true,tev,⟨cA,cn,cc,cl⟩,true,⟨pA,pn,pc,pl⟩,⟨fA,fn,fc,fl⟩,⟨kA,kn,kc,kl⟩,⟨oA,on,oc,ol⟩,⟨uA,un,uc,ul⟩⟩)]) (fun iv _=>un - (intOf iv).toNat)
 case atStart=>exact ⟨0,by omega,rfl,H4⟩
 case round=>
  clear H4
  obtain ⟨j,hj,rfl,H⟩:=hrel
  by_cases hlt:j<un
  ·obtain ⟨⟨ak,atab,⟨arA,arn,arc,arl⟩,⟨aqA,aqn,aqc,aql⟩,⟨asA,asn,asc,asl⟩,⟨awA,awn,awc,awl⟩,atext⟩,hc⟩:=Y2 HL.out hlt
   obtain ⟨b,o,rfl,hb,hcl,-⟩:=(H.ro 0 rfl).at_ hc
   have c0:=hcl 0 _ (by omega) rfl
   have c1:=hcl 1 _ (by omega) rfl
   have c2:=hcl 2 _ (by omega) rfl
   have c3:=hcl 3 _ (by omega) rfl
   have c4:=hcl 4 _ (by omega) rfl
   have c5:=hcl 5 _ (by omega) rfl
   have c6:=hcl 6 _ (by omega) rfl
   simp only [Nat.add_zero] at c0
   clear hcl
   simp only [SlP.v] at c2 c3 c4 c5
   have HSS:=hid (show Xl d (ul.take (j+1))=Xl d (ul.take j)+acW d ⟨ak,atab,⟨arA,arn,arc,arl⟩,⟨aqA,aqn,aqc,aql⟩,⟨asA,asn,asc,asl⟩,⟨awA,awn,awc,awl⟩,atext⟩ from VR hc)
   have HT:=hid (show Xl d (ul.take (j+1))≤Xl d ul from VZ ul (j+1))
   have HM:=hid (List.mem_of_getElem? hc)
   clear hc
   have H1:=H.cst #[.int .i64 ak,.string atab,.slice arA arn arc,.slice aqA aqn aqc,.slice asA asn asc,.slice awA awn awc,.string atext] 97
   have H5:=H1.Xm 1 (S' :=AcIn d ⟨ak,atab,⟨arA,arn,arc,arl⟩,⟨aqA,aqn,aqc,aql⟩,⟨asA,asn,asc,asl⟩,⟨awA,awn,awc,awl⟩,atext⟩) rfl (fun w2 h2=>h2.2 _ HM.out)
   have F5:=(H5.drop (L' :=[_,_]) (List.Sublist.cons_cons _ (List.Sublist.cons_cons _ (List.nil_sublist _)))).factsL
   simp only [zg] at F5
   clear H H1
   have hce:=ZeH _ _ _ _ _ _ _ _ ⟨ak,atab,⟨arA,arn,arc,arl⟩,⟨aqA,aqn,aqc,aql⟩,⟨asA,asn,asc,asl⟩,⟨awA,awn,awc,awl⟩,atext⟩ H5 (by have:=HW.out;have:=HSS.out;have:=HT.out;omega)
   simp only [Ac.val] at hce
   go_wp2_with fail
   refine hce.mono ?_
   rintro e w2 ⟨⟨vb2,rfl⟩,H6⟩
   clear H5 F5 hce
   go_wp2_with fail
   go_roundw
   case rel=>exact ⟨j+1,by omega,by go_num,(H6.drop (List.Sublist.cons _ (List.Sublist.cons _ (List.Sublist.refl _)))).le (by have:=HSS.out;omega)⟩
   case measure=>simp [intOf];omega
  ·obtain rfl:un=j:=by omega
   rw [List.take_of_length_le (by rw [HL.out];exact Nat.le_refl _)] at H
   obtain ⟨B,m,c,xs,hm,K2⟩:=H
   have HMM:=hid hm
   clear hm
   have F2:=K2.facts
   simp only [zg] at F2
   have hce:=ZdE _ _ K2.Zc ⟨tname,ttab,true,tev,⟨cA,cn,cc,cl⟩,true,⟨pA,pn,pc,pl⟩,⟨fA,fn,fc,fl⟩,⟨kA,kn,kc,kl⟩,⟨oA,on,oc,ol⟩,⟨uA,un,uc,ul⟩⟩ d (K2.ro 2 rfl) hn HS.out
   simp only [Tg.val] at hce
   go_wp2_with fail
   refine hce.mono ?_
   rintro e w3 ⟨A3,n3,c3,rfl,hn3,r3,b3⟩
   have K3:=((K2.call b3).add r3).nil 9 1
   clear K2 F2 hce b3 r3
   have HSO:=hid (show (Zu ul).map Se.col=SC from HSC.out)
   try simp only at K3
   generalize Zu ul=SS at *
   have HL3:=hid (K3.ro 1 rfl).now.len
   have HML:m≤4398046511104:=by have:=HMM.out;have:=HW.out;omega
   go_wp2_with fail
   go_loopw [5,38] (fun ov iv wr=>∃ (k cap:Nat) (O:Option Addr),k≤n3∧iv=.int .i64 k∧ov=.slice O k cap∧Hold M none w wr [.own 9 1 (.slice O k cap) k (Zv ((SS.take k).map Se.col)),.ro (SesIn d A3 n3 SS),.blk g 35 #[.slice B m c],.own 9 1 (.slice B m c) m (Zv xs),.ro (AcsIn d uA un ul),.cst w.heap.size 40 #[.string tname,.string ttab,.bool true,.int .i64 tev,.slice cA cn cc,.bool true,.slice pA pn pc,.slice fA fn fc,.slice kA kn kc,.slice oA on oc,.slice uA un uc],.ro (TgIn d ⟨tname,ttab,true,tev,⟨cA,cn,cc,cl⟩,true,⟨pA,pn,pc,pl⟩,⟨fA,fn,fc,fl⟩,⟨kA,kn,kc,kl⟩,⟨oA,on,oc,ol⟩,⟨uA,un,uc,ul⟩⟩)]) (fun _ i _=>n3 - (intOf i).toNat)
   case atStart=>exact ⟨0,0,none,by omega,rfl,rfl,K3⟩
   case round=>
    clear K3
    obtain ⟨k,cap,O,hk,rfl,rfl,H⟩:=hrel
    by_cases hlt3:k<n3
    ·obtain ⟨⟨xcol,⟨xk,xop,xnt,⟨xvk,xvi,xvs⟩,xtab,xnm,xA,xn,xc,xargs,xB,xm,xd,xsub⟩⟩,hc⟩:=Y2 HL3.out hlt3
     obtain ⟨b,o,rfl,hb,hcl,-⟩:=(H.ro 1 rfl).now.at_ hc
     have c0:=hcl 0 _ (by omega) rfl
     have c1:=hcl 1 _ (by omega) rfl
     have c2:=hcl 2 _ (by omega) rfl
     have c3:=hcl 3 _ (by omega) rfl
     have c4:=hcl 4 _ (by omega) rfl
     have c5:=hcl 5 _ (by omega) rfl
     have c6:=hcl 6 _ (by omega) rfl
     have c7:=hcl 7 _ (by omega) rfl
     have c8:=hcl 8 _ (by omega) rfl
     have c9:=hcl 9 _ (by omega) rfl
     have c10:=hcl 10 _ (by omega) rfl
     simp only [Nat.add_zero] at c0
     clear hcl
     have HCE:=hid (show Zv ((SS.take k).map Se.col)++(#[Value.string xcol]).toList=Zv ((SS.take (k+1)).map Se.col) by rw [List.take_add_one,hc];simp [Zv])
     clear hc
     have K1:=H.Za #[.string xcol,.int .i64 xk,.int .i64 xop,.bool xnt,.int .i64 xvk,.int .i64 xvi,.string xvs,.string xtab,.string xnm,.slice xA xn xc,.slice xB xm xd] 128
     have F1:=K1.facts
     simp only [zg] at F1
     clear H
     go_wp2_with (at_builtin;go_must (refine Zx K1 1 rfl Tryz.Qe #[.string xcol] rfl (.tmp 42) (.tmp 45) rfl rfl _ (by first|rfl|simp) rfl rfl (by intro u hu;simp at hu;rcases hu with rfl;rfl) (by omega) (by omega) ?_);intro g9 cap9 w9 hc9 hm9 KB;rw [HCE.out] at KB;simp only [zl] at KB)
     go_roundw
     case rel=>exact ⟨k+1,cap9,_,by omega,by go_num,by first|rfl|trivial,KB.drop (List.sublist_cons_self _ _)⟩
     case measure=>simp [intOf];omega
    ·obtain rfl:n3=k:=by omega
     rw [List.take_of_length_le (by rw [HL3.out];exact Nat.le_refl _),HSO.out] at H
     have F:=H.facts
     simp only [zg] at F
     go_wp2_with fail
     refine (ZaB H 3 rfl (by omega)).mono ?_
     rintro e w4 ⟨rfl,ys,hys,K4⟩
     simp only [zl] at K4
     clear H F
     have F4:=K4.facts
     simp only [zg] at F4
     go_wp2_with fail
     refine (ZaB K4 0 rfl (by omega)).mono ?_
     rintro e w5 ⟨rfl,zs,hzs,K5⟩
     simp only [zl] at K5
     clear K4 F4
     have F5:=K5.facts
     simp only [zg] at F5
     have HZ:=hid (fun s:ByteArray=>hzs.mem_iff (a:=s))
     clear hzs hys
     go_wp2_with fail
     refine (Zam K5 3 rfl (by omega)).mono ?_
     rintro e w6 ⟨q6,ys6,rfl,hq6,-,K6⟩
     simp only [zl] at K6
     clear K5 F5
     go_wp2_with fail
     refine (Zam K6 0 rfl (by omega)).mono ?_
     rintro e w7 ⟨q7,zs7,rfl,hq7,hz7,K7⟩
     simp only [zl] at K7
     have HZ7:=hid hz7
     clear K6 hz7
     go_wp2_with fail
     refine bodyPost_ret (results_tmp2 rfl _ _ _) rfl ?_
     have K8:=K7.ZC 0 rfl
     simp only [List.set_cons_zero] at K8
     exact ⟨_,_,_,_,_,_,zs7,rfl,by omega,(K8.ro 0 rfl).less (fun b hb=>.inl hb),fun s=>(HZ7.out s).trans (HZ.out s),K7.below⟩
structure TgFit (d:Nat) (t:Tg):Prop where
 n:t.acts.n≤4611686018427387904
 s:(Zu t.acts.l).length≤549755813888
 w:tgW d t≤4398046511104
 a:∀ a∈t.acts.l,a.sets.n≤1000000∧a.wh.n≤9223372036854775807
 r:t.rank.n≤9223372036854775807
def Zfu (w:World) (M:Nat→Prop) (t:Tg) (e:Ending) (w' :World):Prop:=∃ (B C:Option Addr) (m c k c2:Nat) (xs:List ByteArray),e=.returned (.tuple #[.slice B m c,.slice C k c2])∧k≤549755813888∧Ro w' M (StrsIn C k xs)∧(∀ s,s∈xs↔(t.before=true∧t.each=true∧s∈YX t))∧Below w.heap.size w w'
theorem Zde (M:Nat→Prop) (w:World) (hM:∀ b,M b→b<w.heap.size) (t:Tg) (d:Nat) (ha:Ro w M (TgIn d t)) (h:TgFit d t):Calls Tryz.prog 143 #[t.val] w fun e w' =>Zfu w M t e w' :=by
 by_cases hb:t.before=true∧t.each=true
 ·refine (Zfm M w hM t d ha (by have:=h.n;omega) h.s h.w hb.1 hb.2).mono ?_
  rintro e w' ⟨B,C,m,c,k,c2,xs,h1,h2,h3,h4,h5⟩
  exact ⟨B,C,m,c,k,c2,xs,h1,h2,h3,fun s=>by rw [h4];simp [hb.1,hb.2],h5⟩
 ·refine (Zgv w t hb).mono ?_
  rintro e w' ⟨h1,h2⟩
  exact ⟨none,none,0,0,0,0,[],h1,by omega,fun _ _ _=>ZR 1 _,fun s=>⟨fun hh=>(nomatch hh),fun hh=>absurd ⟨hh.1,hh.2.1⟩ hb⟩,h2⟩
end Go.Proofs.YtnbbllkbefagmaaGreatDoor

import Derived.Test.YtnbbllkbefagmaaGreatDoorEvCntSaidMN
import Derived.Test.YtnbbllkbefagmaaGreatDoorEvCntSaidMM
import Derived.Test.YtnbbllkbefagmaaGreatDoorEvCntSaidMD
import Derived.Test.YtnbbllkbefagmaaGreatDoorEvCntSaidMC
import Derived.Test.YtnbbllkbefagmaaGreatDoorEvCntSaidMO
import Derived.Test.YtnbbllkbefagmaaGreatDoorEvCntSaidME
import Derived.Deep.CutRange
namespace Go.Proofs.YtnbbllkbefagmaaGreatDoor
open Go.RowKit
set_option linter.unusedVariables false
set_option linter.unusedSimpArgs false
set_option maxHeartbeats 4000000 in
set_option maxRecDepth 100000 in
theorem ZbY (M:Nat→Prop) (w:World) (hM:∀ b,M b→b<w.heap.size) (A:Option Addr) (n c K:Nat) (l:List Rw) (hE:Ro w M (RwsIn A n l)) (hn:n≤1000000) (hK:K≤4398046511104) (hrn:∀ r∈l,r.ok∧r.n≤K):
  Calls Tryz.prog 52 #[.slice A n c] w fun e w' =>Zdz w M K (l.map Rw.row) e w' :=by
 have HRL:=hid hE.now.len
 have HRN:=hid hrn
 have HKK:=hid hK
 clear hrn hK
 have KD:=(((Hold.start M w hM).add (hE.less (by simp [Mut]))).add (V3 _ _)).nil 124 2
 clear hE
 go_enter Tryz.func52,Tryz.ntmps52
 go_wp2_with fail
 go_loopw [3,8] (fun ov iv wr=>∃ (j cap:Nat) (O:Option Addr) (outs:List Rw),j≤n∧iv=.int .i64 j∧ov=.slice O j cap∧Hid (outs.map Rw.row=(l.take j).map Rw.row∧∀ r∈outs,r.ok∧r.n≤K)∧Hold M none w wr [.own 124 2 (.slice O j cap) j (ZJ outs),.ro (YT outs),.ro (RwsIn A n l)]) (fun _ iv _=>n - (intOf iv).toNat)
 case atStart=>exact ⟨0,0,none,[],by omega,rfl,rfl,hid ⟨rfl,fun r hr=>nomatch hr⟩,KD⟩
 case round=>
  clear KD
  obtain ⟨j,cap,O,outs,hj,rfl,rfl,HW,H⟩:=hrel
  by_cases hlt:j<n
  ·have hd:decide ((j:Int)<(n:Int))=true:=by simp;omega
   have j0:(0:Int)≤(j:Int):=by omega
   have j1:(j:Int)<(n:Int):=by omega
   obtain ⟨x,hx⟩:=Zq HRL.out hlt
   obtain ⟨b,o,rfl,hb,c0,c1,hxv⟩:=(H.ro 2 rfl).now.at_ hx
   have HXO:=hid (HRN.out x (List.mem_of_getElem? hx))
   have hxn:x.n≤4398046511104:=Nat.le_trans HXO.out.2 HKK.out
   have HXL:=hid (show x.vs.length=x.n from hxv.len)
   have HXG:=hid hx
   have hxr:Ro wr _ (VlsIn x.A x.n x.vs):=(H.ro 2 rfl).imp fun w2 h2=>h2.2 x (List.mem_of_getElem? hx)
   clear hx hxv
   have K1:=(H.add hxr).Za #[.int .i64 x.id,.slice x.A x.n x.c] 124
   clear H hxr
   obtain ⟨gr,hgr⟩:∃ gr,gr=wr.heap.size:=⟨_,rfl⟩
   rw [←hgr] at K1
   have F1:=K1.facts
   simp only [zg] at F1
   go_wp2_with fail
   rw [←hgr]
   have HGR:=hid hgr
   clear hgr c0 c1 F1
   obtain ⟨KL,hKL,KN⟩:=K1.name
   have HF:Hid (∀ wv,Hold M none w wv KL→wv.cell? ⟨gr,0,none⟩=some (.int .i64 x.id)∧wv.cell? ⟨gr,1,none⟩=some (.slice x.A x.n x.c)∧gr<wv.heap.size):=hid fun wv HC=>by
    rw [hKL] at HC
    have y0:=HC.ZB 0 rfl
    exact ⟨cell_of_row _ _ 0 _ _ _ y0,cell_of_row _ _ 1 _ _ _ y0,Blk.lt y0⟩
   have HRX:Hid (∀ wv,Hold M none w wv KL→Ro wv (Mut M KL) (VlsIn x.A x.n x.vs)):=hid fun wv HC=>by
    rw [hKL] at HC ⊢
    exact HC.ro 1 rfl
   have HKL:=hid hKL
   clear hKL K1
   go_wp2_with fail
   refine wp_region_any (by kernel_rfl) ?_
   refine Zp 8 23 (KL) (spL [(17,Z0 (Mut M KL) x.vs),(18,Yx (Mut M KL) x.id x.vs),(19,Yw (Mut M KL) x.id x.vs)]) (by kernel_rfl) (by kernel_rfl) (by kernel_rfl) rfl ?_ (KN.drew) ?_
   ·exact Ze X6 (Ze Vz (Ze Vf (Zo _)))
   simp only [zd,Act.put,List.getElem_toArray,List.getElem_cons_zero,List.getElem_cons_succ,zl]
   iterate 2
    refine' dv rfl rfl rfl (fun wv HC=>?_) ?_;rotate_left
    · go_simp<;>rfl
    simp only [Act.put,zl]
   refine' dv rfl rfl rfl (fun wv HC=>?_) ?_;rotate_left
   ·obtain ⟨f0,f1,f2⟩:=HF.out _ HC;go_simp<;>rfl
   simp only [Act.put,zl]
   refine' dv rfl rfl rfl (fun wv HC=>?_) ?_;rotate_left
   · go_simp<;>rfl
   simp only [Act.put,zl]
   refine' dv rfl rfl rfl (fun wv HC=>?_) ?_;rotate_left
   ·obtain ⟨f0,f1,f2⟩:=HF.out _ HC;go_simp<;>rfl
   simp only [Act.put,zl]
   refine Zm 17 (Z0 (Mut M KL) x.vs) (f:=55) (args:=#[.slice x.A x.n x.c]) rfl rfl rfl rfl (fun wv=>?_) (fun wv HC hrm hD=>?_) ?_
   ·go_simp<;>rfl
   ·refine (Xf _ wv HC.Zb x.A x.n x.c x.vs (HRX.out _ HC) hxn).mono ?_
    rintro e w5 ⟨A5,n5,c5,rfl,h50,h51,h52,h53,b5⟩
    exact ⟨_,rfl,⟨A5,n5,c5,rfl,h50,h51,h52,h53⟩,HC.call b5,RM.below b5⟩
   rintro x_ wx HCx ⟨A5,n5,c5,rfl,h50,h51,h52,h53⟩
   simp only [Act.put,zl]
   have H50:=hid h50
   clear HCx h53 h50
   refine WA 18 (Yx (Mut M KL) x.id x.vs) rfl rfl rfl rfl (.agg #[.int .i64 x.id,.slice A5 n5 c5]) (fun wv HC=>?_) (fun wv HC hD=>?_) ?_
   ·go_simp<;>rfl
   ·have hsl:Z0 (Mut M KL) x.vs (.slice A5 n5 c5) wv:=ZM hD 5 rfl (by kernel_rfl) rfl rfl
    obtain ⟨A6,n6,c6,e6,h1,h2,h3,h4⟩:=hsl
    exact ⟨A6,n6,c6,by rw [e6],h1,h2,h3,h4⟩
   simp only [Act.put,zl]
   refine Ye #[.int .i64 x.id,.slice A5 n5 c5] 124 19 (Yw (Mut M KL) x.id x.vs) (fun g=>.slice (some ⟨g,0,none⟩) 1 1) rfl rfl rfl rfl (fun wv=>?_) (fun wv HC _hrm hD hro=>?_) ?_
   ·go_simp<;>rfl
   ·have hsl:Yx (Mut M KL) x.id x.vs (.agg #[.int .i64 x.id,.slice A5 n5 c5]) wv:=ZM hD 6 rfl (by kernel_rfl) rfl rfl
    obtain ⟨A6,n6,c6,e6,h1,h2,h3,h4⟩:=hsl
    obtain ⟨rfl,rfl,rfl⟩:A5=A6∧n5=n6∧c5=c6:=by
     injection e6 with e6
     simp at e6
     exact e6
    exact ⟨_,A5,n5,c5,rfl,h1,h2,h3,h4.step (by simp) (fun b hb _=>Below.heap_alloc wv _ b hb) (fun _ _ h=>h),ZL (hro _ HC.Zb) rfl⟩
   rintro g2 wg HCg hsl
   simp only [Act.put,zl]
   clear hsl HCg
   refine Zj ?_
   rintro wx2 HX
   rintro _hrm HGW
   have hb2:Yw (Mut M KL) x.id x.vs (.slice (some ⟨g2,0,none⟩) 1 1) wx2:=(Zl (d:=19) rfl).1 (HGW 7 _ rfl (by omega))
   clear HGW _hrm
   obtain ⟨g3,A6,n6,c6,e6,k0_,k1_,k2_,k3_,k4_⟩:=hb2
   obtain rfl:g2=g3:=by injection e6 with e6;injection e6 with e6;injection e6
   clear e6
   rw [HKL.out] at HX k3_
   have k5:=hid k4_.now
   have HK0:=hid k0_
   clear k4_ k0_ HF HRX KN
   have HRS:=hid (show ZJ outs++[.int .i64 x.id,.slice A6 n6 c6]=ZJ (outs++[⟨x.id,A6,n6,c6,x.vs⟩]) from WH _ _ _ _ _ _)
   have KA:=HX.add k3_
   clear HX k3_
   have FKA:=KA.facts
   simp only [zg] at FKA
   go_wp2_with (at_builtin;go_must (refine ZW KA 3 rfl Tryz.WE k5.out rfl (.tmp 12) (.tmp 19) rfl rfl rfl (by intro z hz;simp at hz;rcases hz with rfl|rfl<;>rfl) (by omega) (by omega) ?_);intro C' cap' w6 hc6 hm6 KB;rw [HRS.out] at KB;simp only [zl] at KB;(have F3:=KB.facts);simp only [zg] at F3)
   have KE:=(KB.Yy 4 rfl (Wl (r:=⟨x.id,A6,n6,c6,x.vs⟩) (KB.ro 4 rfl) (KB.ro 0 rfl))).drop (List.Sublist.cons _ (List.Sublist.cons _ (List.sublist_cons_self _ _)))
   have HW2:=hid (ZfM (A:=A6) HW.out HXG.out HXO.out k1_ k2_ (by rw [HK0.out,HXL.out];exact HXO.out.2))
   go_roundw
   case rel=>exact ⟨j+1,cap',C',_,by omega,by go_num,by first|rfl|trivial,HW2,KE⟩
   case measure=>simp [intOf];omega
  ·obtain rfl:n=j:=by omega
   have hd:decide ((n:Int)<(n:Int))=false:=by simp
   have hcap:=ZR (H.get 0 rfl)
   have KS:=H.Zu 0 rfl
   simp only [List.set_cons_zero] at KS
   have r1:=(KS.ZP 0 rfl).and (KS.ZP 1 rfl)
   have HW2:=hid (show outs.map Rw.row=l.map Rw.row by have h:=HW.out.1;rwa [List.take_of_length_le (by rw [HRL.out];exact Nat.le_refl _)] at h)
   go_wp2_with fail
   go_ret
   exact ⟨O,n,cap,outs,rfl,hcap.1,hcap.2.1,HW2.out,HW.out.2,r1,KS.below⟩
set_option maxHeartbeats 16000000 in
set_option maxRecDepth 100000 in
theorem Zeq (M:Nat→Prop) (w:World) (hM:∀ b,M b→b<w.heap.size) (t:Tg) (snm:ByteArray) (cA:Option Addr) (cn cc:Nat) (cl:List Col) (dn:ByteArray) (I:Option Addr) (ni ci:Nat) (li:List Rw) (D:Option Addr) (nd cd:Nat) (ld:List Rw) (U:Option Addr) (nu cu:Nat) (lu:List Pr) (hO:Ro w M (SlR 1 t.cols.A t.cols.n (Yn t.cols.l))) (hC:Ro w M (SlR 4 cA cn (Zd cl))) (hI:Ro w M (RwsIn I ni li)) (hD:Ro w M (RwsIn D nd ld)) (hU:Ro w M (PrsIn U nu lu)) (h0:t.cols.n≤1000) (h0c:cn≤1000) (h1:ni≤1000000) (h2:nd≤1000000) (h3:nu≤1000000) (hb:(∀ x∈li,x.ok∧x.n≤6)∧∀ x∈ld,x.ok∧x.n≤6) (hbp:∀ x∈lu,x.ok∧x.on≤6∧x.nn≤6):Calls Tryz.prog 13 #[t.val,.agg #[.string snm,.slice cA cn cc],.agg #[.string dn,.slice I ni ci,.slice D nd cd,.slice U nu cu]] w fun e w' =>ZaG w M dn (ZX t.event t.cols.l cl (li.map Rw.row) (ld.map Rw.row) (lu.map Pr.upd)) e w' :=by
 obtain ⟨tn,tt,tb,te,⟨oA,on,oc,ol⟩,tch,⟨pA,pn,pc,pl⟩,⟨qA,qn,qc,ql⟩,⟨rA,rn,rc,rl⟩,⟨kA,kn,kc,kl⟩,⟨aA,an,ac,al⟩⟩:=t
 have hon:on≤1000:=h0
 have HB:=hid hb
 have HBP:=hid hbp
 have HLO:=hid (show ol.length=on from StrsTx.len hO.now)
 have HL2:=hid (show lu.length=nu from hU.now.len)
 have KS:=(Hold.start M w hM)|>.add (hU.less (by simp [Mut]))|>.add (hD.less (by simp [Mut,Hp.foot]))|>.add (hI.less (by simp [Mut,Hp.foot]))|>.add (hC.less (by simp [Mut,Hp.foot]))|>.add (hO.less (by simp [Mut,Hp.foot]))|>.Za #[.string tn,.string tt,.bool tb,.int .i64 te,.slice oA on oc,.bool tch,.slice pA pn pc,.slice qA qn qc,.slice rA rn rc,.slice kA kn kc,.slice aA an ac] 40|>.Za #[.string snm,.slice cA cn cc] 49|>.Za #[.string dn,.slice I ni ci,.slice D nd cd,.slice U nu cu] 44|>.alloc #[.string ⟨#[]⟩,.slice none 0 0,.slice none 0 0,.slice none 0 0] 44|>.alloc #[.string dn,.slice none 0 0,.slice none 0 0,.slice none 0 0] 44
 simp only [World.size_alloc] at KS
 obtain ⟨gt,hgt⟩:∃ g,g=w.heap.size:=⟨_,rfl⟩
 rw [←hgt] at KS
 obtain ⟨gs,hgs⟩:∃ g,g=gt+1:=⟨_,rfl⟩
 obtain ⟨gd,hgd⟩:∃ g,g=gs+1:=⟨_,rfl⟩
 obtain ⟨gr,hgr⟩:∃ g,g=gd+1:=⟨_,rfl⟩
 obtain ⟨g7,hg7⟩:∃ g,g=gr+1:=⟨_,rfl⟩
 rw [←hgs,←hgd,←hgr,←hg7] at KS
 have K1:Hold M none w _ [.blk g7 44 #[.string dn,.slice none 0 0,.slice none 0 0,.slice none 0 0],.cst gt 40 #[.string tn,.string tt,.bool tb,.int .i64 te,.slice oA on oc,.bool tch,.slice pA pn pc,.slice qA qn qc,.slice rA rn rc,.slice kA kn kc,.slice aA an ac],.cst gs 49 #[.string snm,.slice cA cn cc],.cst gd 44 #[.string dn,.slice I ni ci,.slice D nd cd,.slice U nu cu],.blk gr 44 #[.string ⟨#[]⟩,.slice none 0 0,.slice none 0 0,.slice none 0 0],.ro (SlR 1 oA on (Yn ol)),.ro (SlR 4 cA cn (Zd cl)),.ro (RwsIn I ni li),.ro (RwsIn D nd ld),.ro (PrsIn U nu lu)]:=KS.pick [0,4,3,2,1,5,6,7,8,9] (by decide) rfl
 clear hO hC hI hD hU KS hb hbp h0
 simp only [Tg.val]
 have F1:=K1.facts
 simp only [zg] at F1
 rw [hg7,hgr,hgd,hgs,hgt] at F1
 go_enter Tryz.func13,Tryz.ntmps13
 go_upto_region 2 with fail
 rw [←hgt,←hgs,←hgd,←hgr,←hg7] at F1 ⊢
 have HG:=hid (And.intro hgt (And.intro hgs (And.intro hgd (And.intro hgr hg7))))
 clear hgt hgs hgd hgr hg7
 generalize World.alloc _ _=w1 at K1 F1 ⊢
 by_cases e1:te=1
 ·subst e1
  go_wp2_with fail
  refine (ZbY (Mut M _) _ K1.Zb I ni ci 6 li (K1.ro 7 rfl) (by omega) (by omega) HB.out.1).mono ?_
  rintro e w2 ⟨C,q,cap,k,rfl,hc0,hc1,hk,-,rC,b2⟩
  have HK:=hid (And.intro hk trivial)
  have HCP:=hid (And.intro hc0 hc1)
  have K2:=(K1.call b2).add rC
  clear K1 F1 b2 rC hk hc0 hc1
  have K3:=K2.store 1 rfl 1 (.slice C q cap)
  simp only [zl] at K3
  have K4:=(((K3.store 5 rfl 0 (.string dn)).store 5 rfl 1 (.slice C q cap)).store 5 rfl 2 (.slice none 0 0)).store 5 rfl 3 (.slice none 0 0)
  simp only [zl] at K4
  have F2:=K2.facts
  simp only [zg] at F2
  have F3:=K3.facts
  simp only [zg] at F3
  have F4:=K4.facts
  simp only [zg] at F4
  have HR:=hid ((K4.ro 0 rfl).less zm)
  have HBL:=hid K4.below
  clear K2 K3 K4
  go_wp2_with fail
  refine bodyPost_ret (v:=.agg #[.string dn,.slice C q cap,.slice none 0 0,.slice none 0 0]) ?_ rfl ?_
  ·clear HR HBL
   simp [results,Tryz.results13,go_sem,F4]
  ·exact ⟨C,q,cap,k,none,0,0,[],none,0,0,[],rfl,by simp [ZX,HK.out.1],HCP.out,⟨Nat.le_refl _,by simp⟩,⟨Nat.le_refl _,by simp⟩,HR.out,(fun w2 _ _=>⟨ZE 2 w2,fun _ hx=>(nomatch hx)⟩),(fun w2 _ _=>⟨ZE 3 w2,fun _ hx=>(nomatch hx)⟩),HBL.out⟩
 ·have b1:(te==1)=false:=by simpa using e1
  by_cases e3:te=3
  ·subst e3
   go_wp2_with fail
   refine (ZbY (Mut M _) _ K1.Zb D nd cd 6 ld (K1.ro 8 rfl) (by omega) (by omega) HB.out.2).mono ?_
   rintro e w2 ⟨C,q,cap,k,rfl,hc0,hc1,hk,-,rC,b2⟩
   have HK:=hid (And.intro hk trivial)
   have HCP:=hid (And.intro hc0 hc1)
   have K2:=(K1.call b2).add rC
   clear K1 F1 b2 rC hk hc0 hc1
   have K3:=K2.store 1 rfl 2 (.slice C q cap)
   simp only [zl] at K3
   have K4:=(((K3.store 5 rfl 0 (.string dn)).store 5 rfl 1 (.slice none 0 0)).store 5 rfl 2 (.slice C q cap)).store 5 rfl 3 (.slice none 0 0)
   simp only [zl] at K4
   have F2:=K2.facts
   simp only [zg] at F2
   have F3:=K3.facts
   simp only [zg] at F3
   have F4:=K4.facts
   simp only [zg] at F4
   have HR:=hid ((K4.ro 0 rfl).less zm)
   have HBL:=hid K4.below
   clear K2 K3 K4
   go_wp2_with fail
   refine bodyPost_ret (v:=.agg #[.string dn,.slice none 0 0,.slice C q cap,.slice none 0 0]) ?_ rfl ?_
   ·clear HR HBL
    simp [results,Tryz.results13,go_sem,F4]
   ·exact ⟨none,0,0,[],C,q,cap,k,none,0,0,[],rfl,by simp [ZX,HK.out.1],⟨Nat.le_refl _,by simp⟩,HCP.out,⟨Nat.le_refl _,by simp⟩,(fun w2 _ _=>⟨ZE 2 w2,fun _ hx=>(nomatch hx)⟩),HR.out,(fun w2 _ _=>⟨ZE 3 w2,fun _ hx=>(nomatch hx)⟩),HBL.out⟩
  ·have b3:(te==3)=false:=by simpa using e3
   by_cases e2:te=2
   ·subst e2
    clear e1 e3 b1 b3
    have K2:Hold M none w _ [.blk g7 44 #[.string dn,.slice none 0 0,.slice none 0 0,.slice none 0 0],.cst gt 40 #[.string tn,.string tt,.bool tb,.int .i64 2,.slice oA on oc,.bool tch,.slice pA pn pc,.slice qA qn qc,.slice rA rn rc,.slice kA kn kc,.slice aA an ac],.cst gs 49 #[.string snm,.slice cA cn cc],.cst gd 44 #[.string dn,.slice I ni ci,.slice D nd cd,.slice U nu cu],.blk gr 44 #[.string ⟨#[]⟩,.slice none 0 0,.slice none 0 0,.slice none 0 0],.ro (SlR 1 oA on (Yn ol)),.ro (SlR 4 cA cn (Zd cl)),.ro (RwsIn I ni li),.ro (RwsIn D nd ld),.ro (PrsIn U nu lu),.own 115 3 (.slice none 0 0) 0 (ZZ []),.ro (YI [])]:=((K1.add (S:=YI []) (fun w2 _ _ x hx=>(nomatch hx))).nil 115 3).pick [2,3,4,5,6,7,8,9,10,11,0,1] (by decide) rfl
    clear K1 F1
    have F2:=K2.facts
    simp only [zg] at F2
    go_wp2_with fail
    clear F2
    go_loopw [36] (fun iv wr=>∃ (j k cap:Nat) (O:Option Addr) (outs:List Pr),j≤nu∧k≤j∧iv=.int .i64 j∧Hid (outs.map Pr.upd=((lu.take j).map Pr.upd).filter (XL ol cl))∧Hold M none w wr [.blk g7 44 #[.string dn,.slice none 0 0,.slice none 0 0,.slice O k cap],.cst gt 40 #[.string tn,.string tt,.bool tb,.int .i64 2,.slice oA on oc,.bool tch,.slice pA pn pc,.slice qA qn qc,.slice rA rn rc,.slice kA kn kc,.slice aA an ac],.cst gs 49 #[.string snm,.slice cA cn cc],.cst gd 44 #[.string dn,.slice I ni ci,.slice D nd cd,.slice U nu cu],.blk gr 44 #[.string ⟨#[]⟩,.slice none 0 0,.slice none 0 0,.slice none 0 0],.ro (SlR 1 oA on (Yn ol)),.ro (SlR 4 cA cn (Zd cl)),.ro (RwsIn I ni li),.ro (RwsIn D nd ld),.ro (PrsIn U nu lu),.own 115 3 (.slice O k cap) k (ZZ outs),.ro (YI outs)]) (fun iv _=>nu - (intOf iv).toNat)
    case atStart=>exact ⟨0,0,0,none,[],by omega,by omega,rfl,hid rfl,K2⟩
    case round=>
     clear K2
     obtain ⟨j,k,cap,O,outs,hj,hkj,rfl,HO,H⟩:=hrel
     by_cases hlt:j<nu
     ·obtain ⟨x,hx⟩:=Zq HL2.out hlt
      obtain ⟨bU,oU,rfl,hb,c0,c1,c2,hv,hv2⟩:=(H.ro 9 rfl).now.at_ hx
      have hmx:=List.mem_of_getElem? hx
      have HX:=hid hx
      have hxb:=HBP.out x hmx
      clear hx hv hv2
      have K3:=((H.add (S:=VlsIn x.nA x.nn x.new) ((H.ro 9 rfl).imp fun w2 h2=>(h2.2 x hmx).2)).add (S:=VlsIn x.oA x.on x.old) (((H.ro 9 rfl).imp fun w2 h2=>(h2.2 x hmx).1).less (by simp [ZI,Mut,Hp.foot]))).Za #[.int .i64 x.id,.slice x.oA x.on x.oc,.slice x.nA x.nn x.nc] 115
      obtain ⟨g9,hg9⟩:∃ g,g=wr.heap.size:=⟨_,rfl⟩
      rw [←hg9] at K3
      clear H
      go_upto_region 11 with fail
      rw [←hg9]
      have HG9:=hid hg9
      clear hg9 c0 c1 c2
      generalize World.alloc _ _=w4 at K3 ⊢
      have F3:=K3.facts
      simp only [zg] at F3
      obtain ⟨y0,hy0⟩:∃ z:Bool,((on:Int)==0)=z:=⟨_,rfl⟩
      have HY0:=hid (show y0=ol.isEmpty from by
       rw [←hy0,←HLO.out]
       cases ol with
       | nil=>rfl
       | cons _ _=>simp;omega)
      have hy1:decide ((on:Int)=0)=y0:=by rw [←hy0];rfl
      go_wp2_with fail
      clear F3 hy0 hy1
      go_loopw [10,47] (fun yv iv wx=>∃ q:Nat,q≤on∧iv=.int .i64 q∧yv=.bool (ol.isEmpty||(ol.take q).any fun s=>Yf cl s x.upd)∧Hold M none w wx [.cst g9 115 #[.int .i64 x.id,.slice x.oA x.on x.oc,.slice x.nA x.nn x.nc],.ro (VlsIn x.oA x.on x.old),.ro (VlsIn x.nA x.nn x.new),.blk g7 44 #[.string dn,.slice none 0 0,.slice none 0 0,.slice O k cap],.cst gt 40 #[.string tn,.string tt,.bool tb,.int .i64 2,.slice oA on oc,.bool tch,.slice pA pn pc,.slice qA qn qc,.slice rA rn rc,.slice kA kn kc,.slice aA an ac],.cst gs 49 #[.string snm,.slice cA cn cc],.cst gd 44 #[.string dn,.slice I ni ci,.slice D nd cd,.slice (some ⟨bU,oU,none⟩) nu cu],.blk gr 44 #[.string ⟨#[]⟩,.slice none 0 0,.slice none 0 0,.slice none 0 0],.ro (SlR 1 oA on (Yn ol)),.ro (SlR 4 cA cn (Zd cl)),.ro (RwsIn I ni li),.ro (RwsIn D nd ld),.ro (PrsIn (some ⟨bU,oU,none⟩) nu lu),.own 115 3 (.slice O k cap) k (ZZ outs),.ro (YI outs)]) (fun _ iv _=>on - (intOf iv).toNat)
      case atStart=>exact ⟨0,by omega,rfl,by rw [HY0.out];simp,K3⟩
      case round=>
       clear K3
       obtain ⟨q,hq,rfl,rfl,K3⟩:=hrel
       obtain ⟨y,hy⟩:∃ z:Bool,(ol.isEmpty||(ol.take q).any fun s=>Yf cl s x.upd)=z:=⟨_,rfl⟩
       rw [hy]
       have HY:=hid hy
       clear hy
       by_cases hlq:q<on
       ·have q0:(0:Int)≤(q:Int):=by omega
        have q1:(q:Int)<(on:Int):=by omega
        obtain ⟨s,hs⟩:=Zq HLO.out hlq
        obtain ⟨b2,o2,rfl,hb2,c0⟩:=StrsTx.at_ (K3.ro 8 rfl).now hs
        have HS:=hid hs
        clear hs
        have F3:=K3.facts
        simp only [zg] at F3
        go_wp2_with fail
        clear F3 c0
        refine (XD (Mut M _) _ K3.Zb snm cA cn cc cl s (K3.ro 9 rfl) (by omega)).mono ?_
        rintro e w5 ⟨rfl,b5⟩
        have K4:=K3.call b5
        clear K3 b5
        obtain ⟨f,hf⟩:∃ f,Zi (named s) cl=f:=⟨_,rfl⟩
        rw [hf]
        have HF:=hid hf
        clear hf
        have HN:Hid (∀ d:Bool,Yf cl s x.upd=d→(ol.isEmpty||(ol.take (q+1)).any fun s=>Yf cl s x.upd)=(y||d)):=hid fun d hd=>by
         rw [List.take_add_one,HS.out,List.any_append,←Bool.or_assoc,HY.out]
         simp [hd]
        cases y with
        | true=>
         go_wp2_with fail
         go_roundw
         case rel=>exact ⟨q+1,by omega,by go_num,by rw [HN.out _ rfl];simp,K4⟩
         case measure=>simp [intOf];omega
        | false=>
         by_cases h0:0≤f
         ·obtain ⟨n,rfl⟩:=Int.eq_ofNat_of_zero_le h0
          have HD:=hid (show Yf cl s x.upd=YZ n x.upd from by unfold Yf;rw [HF.out,if_pos h0];rfl)
          clear h0
          have F4:=K4.facts
          simp only [zg] at F4
          go_wp2_with (go_at_call 54;go_must (refine (Zd4 (Mut M _) _ K4.Zb x n (K4.ro 1 rfl) (K4.ro 2 rfl)).mono ?_);rintro e w6 ⟨rfl,b6⟩;replace K4:=K4.call b6;clear b6 F4)
          go_roundw
          case rel=>exact ⟨q+1,by omega,by go_num,by rw [HN.out _ HD.out];simp,K4⟩
          case measure=>simp [intOf];omega
         ·have HD:=hid (show Yf cl s x.upd=false from by unfold Yf;rw [HF.out,if_neg h0])
          have h0b:decide ((0:Int)≤f)=false:=by simpa using h0
          go_wp2_with fail
          go_roundw
          case rel=>exact ⟨q+1,by omega,by go_num,by rw [HN.out _ HD.out];simp,K4⟩
          case measure=>simp [intOf];omega
       ·obtain rfl:q=on:=by omega
        have HH:=hid (show XL ol cl x.upd=y from by
         rw [←HY.out,List.take_of_length_le (by rw [HLO.out];exact Nat.le_refl _)];rfl)
        have K4:=K3
        clear K3
        rw [←HH.out]
        obtain ⟨z,hz⟩:∃ z:Bool,XL ol cl x.upd=z:=⟨_,rfl⟩
        rw [hz]
        have HZ:=hid hz
        clear hz
        cases z
        ·go_wp2_with fail
         go_roundw
         case rel=>exact ⟨j+1,k,cap,O,outs,by omega,by omega,by go_num,hid (by rw [HO.out,WK HX.out,List.map_append,List.filter_append];simp [HZ.out]),K4.drop (((List.sublist_cons_self _ _).cons _).cons _)⟩
         case measure=>simp [intOf];omega
        ·obtain ⟨KM,hKM,K6⟩:=K4.name
         have H1:∀ wv:World,Hold M none w wv KM→Blk wv g9 115 #[.int .i64 x.id,.slice x.oA x.on x.oc,.slice x.nA x.nn x.nc]:=fun wv h=>by rw [hKM] at h;exact h.ZB 0 rfl
         have H2:∀ wv:World,Hold M none w wv KM→Ro wv (Mut M KM) (VlsIn x.oA x.on x.old):=fun wv h=>by rw [hKM] at h ⊢;exact h.ro 1 rfl
         have H3:∀ wv:World,Hold M none w wv KM→Ro wv (Mut M KM) (VlsIn x.nA x.nn x.new):=fun wv h=>by rw [hKM] at h ⊢;exact h.ro 2 rfl
         have H4:∀ wv:World,Hold M none w wv KM→Blk wv g7 44 #[.string dn,.slice none 0 0,.slice none 0 0,.slice O k cap]:=fun wv h=>by rw [hKM] at h;exact h.ZF 3 rfl
         have HH1:=hid H1
         have HH2:=hid H2
         have HH3:=hid H3
         have HH4:=hid H4
         have HKM:=hid hKM
         clear hKM H1 H2 H3 H4 K4
         go_upto_region 19 with fail
         refine wp_region_any (by kernel_rfl) ?_
         refine Zp 12 82 (KM) (spL [(72,Z0 (Mut M KM) x.old),(75,Z0 (Mut M KM) x.new),(76,Y7 (Mut M KM) x.upd),(77,Xb (Mut M KM) [x.upd])]) (by kernel_rfl) (by kernel_rfl) (by kernel_rfl) rfl ?_ (K6.drew) ?_
         ·exact Ze X6 (Ze X6 (Ze V9 (Ze QJ (Zo _))))
         simp only [zd,Act.put,List.getElem_toArray,List.getElem_cons_zero,List.getElem_cons_succ,zl]
         refine' dv rfl rfl rfl (fun wv HC=>?_) ?_;rotate_left
         · go_simp<;>rfl
         simp only [Act.put,zl]
         refine' dv rfl rfl rfl (fun wv HC=>?_) ?_;rotate_left
         ·have q0:=(HH4.out _ HC).cell 3;go_simp<;>rfl
         simp only [Act.put,zl]
         refine' dv rfl rfl rfl (fun wv HC=>?_) ?_;rotate_left
         · go_simp<;>rfl
         simp only [Act.put,zl]
         refine' dv rfl rfl rfl (fun wv HC=>?_) ?_;rotate_left
         ·obtain q0:=(HH1.out _ HC).cell 0;go_simp<;>rfl
         simp only [Act.put,zl]
         refine' dv rfl rfl rfl (fun wv HC=>?_) ?_;rotate_left
         · go_simp<;>rfl
         simp only [Act.put,zl]
         refine' dv rfl rfl rfl (fun wv HC=>?_) ?_;rotate_left
         ·obtain q1:=(HH1.out _ HC).cell 1;go_simp<;>rfl
         simp only [Act.put,zl]
         refine Zm 72 (Z0 (Mut M KM) x.old) (f:=55) (args:=#[.slice x.oA x.on x.oc]) rfl rfl rfl rfl (fun wv=>?_) (fun wv HC hrm hD=>?_) ?_
         ·go_simp<;>rfl
         ·refine (Xf (Mut M KM) wv HC.Zb x.oA x.on x.oc x.old (HH2.out _ HC) (by have:=hxb.2.1;omega)).mono ?_
          rintro e w5 ⟨A5,n5,c5,rfl,h50,h51,h52,h53,b5⟩
          exact ⟨_,rfl,⟨A5,n5,c5,rfl,h50,h51,h52,h53⟩,HC.call b5,RM.below b5⟩
         rintro u wx HCx ⟨A5,n5,c5,rfl,-,-,-,-⟩
         clear HCx
         simp only [Act.put,zl]
         refine' dv rfl rfl rfl (fun wv HC=>?_) ?_;rotate_left
         · go_simp<;>rfl
         simp only [Act.put,zl]
         refine' dv rfl rfl rfl (fun wv HC=>?_) ?_;rotate_left
         ·obtain q2:=(HH1.out _ HC).cell 2;go_simp<;>rfl
         simp only [Act.put,zl]
         refine Zm 75 (Z0 (Mut M KM) x.new) (f:=55) (args:=#[.slice x.nA x.nn x.nc]) rfl rfl rfl rfl (fun wv=>?_) (fun wv HC hrm hD=>?_) ?_
         ·go_simp<;>rfl
         ·refine (Xf (Mut M KM) wv HC.Zb x.nA x.nn x.nc x.new (HH3.out _ HC) (by have:=hxb.2.2;omega)).mono ?_
          rintro e w5 ⟨A6,n6,c6,rfl,h50,h51,h52,h53,b5⟩
          exact ⟨_,rfl,⟨A6,n6,c6,rfl,h50,h51,h52,h53⟩,HC.call b5,RM.below b5⟩
         rintro u wx HCx ⟨A6,n6,c6,rfl,-,-,-,-⟩
         clear HCx
         simp only [Act.put,zl]
         refine WA 76 (Y7 (Mut M KM) x.upd) rfl rfl rfl rfl (.agg #[.int .i64 x.id,.slice A5 n5 c5,.slice A6 n6 c6]) (fun wv HC=>?_) (fun wv HC hD=>?_) ?_
         ·go_simp<;>rfl
         ·have h1:Z0 (Mut M KM) x.old (.slice A5 n5 c5) wv:=ZM hD 6 rfl (by kernel_rfl) rfl rfl
          have h2:Z0 (Mut M KM) x.new (.slice A6 n6 c6) wv:=ZM hD 9 rfl (by kernel_rfl) rfl rfl
          exact JW hxb.1.id hxb.1.old hxb.1.new h1 h2
         simp only [Act.put,zl]
         refine Ye #[.int .i64 x.id,.slice A5 n5 c5,.slice A6 n6 c6] 115 77 (Xb (Mut M KM) [x.upd]) (fun g=>.slice (some ⟨g,0,none⟩) 1 1) rfl rfl rfl rfl (fun wv=>?_) (fun wv HC _hrm hD hro=>?_) ?_
         ·go_simp<;>rfl
         ·have hrr:=RM.alloc (Mut M KM) wv (.cells #[.int .i64 x.id,.slice A5 n5 c5,.slice A6 n6 c6] 115)
          have h0:Y7 (Mut M KM) x.upd (.agg #[.int .i64 x.id,.slice A5 n5 c5,.slice A6 n6 c6]) wv:=ZM hD 10 rfl (by kernel_rfl) rfl rfl
          replace h0:=V9 _ _ _ hrr h0
          exact JD (hro _ HC.Zb) (fun i j k e1=>Value.agg.inj e1) h0
         rintro g51 wg HCg hsl
         simp only [Act.put,zl]
         clear hsl HCg
         refine Zj ?_
         rintro wx3 HX3
         rintro _hrm HGW
         have hb2:Xb (Mut M KM) [x.upd] (.slice (some ⟨g51,0,none⟩) 1 1) wx3:=(Zl (d:=77) rfl).1 (HGW 11 _ rfl (by omega))
         clear HGW _hrm
         obtain ⟨Aq,nq,cq,pq,heq,-,-,hpm,hpok,hpr⟩:=hb2
         obtain ⟨rfl,rfl,rfl⟩:some ⟨g51,0,none⟩=Aq∧1=nq∧1=cq:=by injection heq with h1 h2 h3;exact ⟨h1,h2,h3⟩
         clear heq
         obtain ⟨pr,rfl,hpu⟩:∃ pr,pq=[pr]∧pr.upd=x.upd:=by
          obtain ⟨pr,h1,h2⟩:=List.map_eq_singleton_iff.1 hpm
          exact ⟨pr,h1,h2⟩
         rw [HKM.out] at HX3 hpr
         have HPE:=hid (show ZZ outs++ZZ [pr]=ZZ (outs++[pr]) by simp [ZZ])
         have K7:=HX3.add (hpr.imp fun w h=>(h.2:YI [pr] w))
         have HG:=hid ((hpr.imp fun w h=>h.1).now)
         have HPU:=hid hpu
         clear HX3 hpr hpm hpok hpu HH1 HH2 HH3 HH4 HKM K6
         have F7:=K7.facts
         simp only [zg] at F7
         go_wp2_with (at_builtin;go_must (refine ZW K7 14 rfl Tryz.Q5 HG.out rfl (.tmp 67) (.tmp 77) rfl rfl rfl (Ga _) (by omega) (by omega) ?_);intro G1 gc1 wB hcB hmB KE;rw [HPE.out] at KE;simp only [zl] at KE;(have FE:=KE.facts);simp only [zg] at FE)
         have KD:=KE.store 4 rfl 3 (.slice G1 (k+1) gc1)
         have KF:=(KD.Yy 15 rfl (Ju (KD.ro 15 rfl) (KD.ro 0 rfl))).drop ((((List.sublist_cons_self _ _).cons _).cons _).cons _)
         simp only [zl] at KF
         go_roundw
         case rel=>exact ⟨j+1,k+1,gc1,G1,outs++[pr],by omega,by omega,by go_num,hid (by rw [List.map_append,HO.out,WK HX.out,List.map_append,List.filter_append];simp [HZ.out,HPU.out]),KF⟩
         case measure=>simp [intOf];omega
     ·obtain rfl:nu=j:=by omega
      have hcap:=ZR (H.get 10 rfl)
      have K4:=(((H.store 4 rfl 0 (.string dn)).store 4 rfl 1 (.slice none 0 0)).store 4 rfl 2 (.slice none 0 0)).store 4 rfl 3 (.slice O k cap)
      simp only [zl] at K4
      have F2:=H.facts
      simp only [zg] at F2
      have F4:=K4.facts
      simp only [zg] at F4
      have KZ:=K4.Zu 10 rfl
      simp only [zl] at KZ
      have hR:Ro _ _ (PrsIn O k outs):=((KZ.ro 10 rfl).and (KZ.ro 11 rfl)).imp fun w2 h2=>⟨h2.1,h2.2⟩
      have HR:=hid (hR.less zm)
      have HBL:=hid KZ.below
      clear KZ K4 H hR
      go_wp2_with fail
      refine bodyPost_ret (v:=.agg #[.string dn,.slice none 0 0,.slice none 0 0,.slice O k cap]) ?_ rfl ?_
      ·clear HR HBL
       simp [results,Tryz.results13,go_sem,F4]
      ·exact ⟨none,0,0,[],none,0,0,[],O,k,cap,outs,rfl,by
        have h:=HO.out
        rw [List.take_of_length_le (by rw [HL2.out];exact Nat.le_refl _)] at h
        simp [ZX,h],⟨Nat.le_refl _,by simp⟩,⟨Nat.le_refl _,by simp⟩,⟨hcap.1,hcap.2.1⟩,(fun w2 _ _=>⟨ZE 2 w2,fun _ hx=>(nomatch hx)⟩),(fun w2 _ _=>⟨ZE 2 w2,fun _ hx=>(nomatch hx)⟩),HR.out,HBL.out⟩
   ·have b2:(te==2)=false:=by simpa using e2
    have HM:=hid (show ZX te ol cl (li.map Rw.row) (ld.map Rw.row) (lu.map Pr.upd)=([],[],[]) from by unfold ZX;rw [if_neg e1,if_neg e3,if_neg e2])
    have K4:=(((K1.store 4 rfl 0 (.string dn)).store 4 rfl 1 (.slice none 0 0)).store 4 rfl 2 (.slice none 0 0)).store 4 rfl 3 (.slice none 0 0)
    simp only [zl] at K4
    have F4:=K4.facts
    simp only [zg] at F4
    have HBL:=hid K4.below
    clear K4 K1 e1 e2 e3
    go_wp2_with fail
    refine bodyPost_ret (v:=.agg #[.string dn,.slice none 0 0,.slice none 0 0,.slice none 0 0]) ?_ rfl ?_
    ·clear HBL
     simp [results,Tryz.results13,go_sem,F4]
    ·exact ⟨none,0,0,[],none,0,0,[],none,0,0,[],rfl,by rw [HM.out];rfl,⟨Nat.le_refl _,by simp⟩,⟨Nat.le_refl _,by simp⟩,⟨Nat.le_refl _,by simp⟩,(fun w2 _ _=>⟨ZE 2 w2,fun _ hx=>(nomatch hx)⟩),(fun w2 _ _=>⟨ZE 2 w2,fun _ hx=>(nomatch hx)⟩),(fun w2 _ _=>⟨ZE 3 w2,fun _ hx=>(nomatch hx)⟩),HBL.out⟩
set_option maxHeartbeats 1000000 in
theorem Ze7 (w:World) (s:ByteArray) (I:Option Addr) (ni ci:Nat) (D:Option Addr) (nd cd:Nat) (U:Option Addr) (nu cu:Nat) (e:Int):Calls Tryz.prog 12 #[.agg #[.string s,.slice I ni ci,.slice D nd cd,.slice U nu cu],.int .i64 e] w fun e' w' =>e' =.returned (.int .i64 (YD ni nd nu e))∧Below w.heap.size w w' :=by
 have K0:=(Hold.XP w).Za #[.string s,.slice I ni ci,.slice D nd cd,.slice U nu cu] 44
 have F0:=K0.facts
 simp only [zg] at F0
 by_cases h1:e=1
 ·subst h1
  have HN:=hid (show YD ni nd nu 1=ni from rfl)
  go_enter Tryz.func12,Tryz.ntmps12
  go_wp2_with fail
  go_ret
  exact ⟨by rw [HN.out]<;>rfl,K0.below⟩
 ·have e1:(e==1)=false:=by simpa using h1
  by_cases h2:e=2
  ·subst h2
   have HN:=hid (show YD ni nd nu 2=nu from rfl)
   clear h1
   go_enter Tryz.func12,Tryz.ntmps12
   go_wp2_with fail
   go_ret
   exact ⟨by rw [HN.out]<;>rfl,K0.below⟩
  ·have e2:(e==2)=false:=by simpa using h2
   by_cases h3:e=3
   ·subst h3
    have HN:=hid (show YD ni nd nu 3=nd from rfl)
    clear h1 h2
    go_enter Tryz.func12,Tryz.ntmps12
    go_wp2_with fail
    go_ret
    exact ⟨by rw [HN.out]<;>rfl,K0.below⟩
   ·have e3:(e==3)=false:=by simpa using h3
    have HN:=hid (show YD ni nd nu e=0 by unfold YD;rw [if_neg h1,if_neg h2,if_neg h3])
    clear h1 h2 h3
    go_enter Tryz.func12,Tryz.ntmps12
    go_wp2_with fail
    go_ret
    exact ⟨by rw [HN.out]<;>rfl,K0.below⟩
theorem zi {A:Option Addr} {n:Nat} {l:List Tg} {w:World} (h:Wx 5 A n l w):QT A n l w:=⟨h.1,fun t ht=>by
 have h2:=(h.2 t ht).1.1
 rw [GR] at h2
 exact h2⟩
theorem ZeI:∀ i j,i<8→j<8→Ym i=Ym j→i=j:=by
 intro i j hi hj h
 have h1:(UInt8.ofNat (97+i)).toNat=(UInt8.ofNat (97+j)).toNat:=by
  unfold Ym at h
  iterate 2
   injection h with h
  injection h with h _
  rw [h]
 have h2:∀ k,k<8→(UInt8.ofNat (97+k)).toNat=97+k:=by decide+kernel
 rw [h2 i hi,h2 j hj] at h1
 omega
theorem TgsOk.uniq {l:List Tg} (h:TgsOk l) (hl:l.length≤8):l.Pairwise (fun a b=>a.name≠b.name):=by
 rw [List.pairwise_iff_getElem]
 intro i j hi hj hij e
 rw [h.1 i _ (List.getElem?_eq_getElem hi),h.1 j _ (List.getElem?_eq_getElem hj)] at e
 have:=ZeI i j (by omega) (by omega) e
 omega
structure CntOk (x:Tg) (dl:List De) (rl:List Itm) (L:Nat):Prop where
 n:Vq x (XE x (ZA x.tab).2 dl)=L
 c:((rl.map Itm.sh).filter (Wh x.name)).length=L
 s:∀ i∈rl,i.tr=x.name→UY x i.sh
 e:1≤x.event∧x.event≤3
theorem Zfr {gl:List Tg} {tl:List Te} {dl:List De} {rl:List Itm} (hg:TgsOk gl) (hl:gl.length≤8) (ht:StOk (tl.map Te.tb)) (hd:DifOk dl) (hr:rl.map Itm.sh=gl.flatMap (Yh tl dl)) {x:Tg} (hx:x∈gl):CntOk x dl rl (Yh tl dl x).length:=by
 obtain ⟨g1,g2⟩:=hg.2 x hx
 have hf:(rl.map Itm.sh).filter (Wh x.name)=Yh tl dl x:=by
  rw [hr]
  exact zY (fun t ht s hs=>(ZaP hd (hg.2 t ht).1.e s hs).1) (hg.uniq hl) x hx
 refine ⟨(ZdN ht g2 g1.e hd).symm,by rw [hf],fun i hi e=>?_,g1.e⟩
 have h1:i.sh∈(rl.map Itm.sh).filter (Wh x.name):=List.mem_filter.2 ⟨List.mem_map_of_mem hi,by
  show (i.tr.toList==x.name.toList)=true
  rw [e];simp⟩
 rw [hf] at h1
 exact (ZaP hd g1.e _ h1).2
def UJ (M:Nat→Prop) (nm:ByteArray) (cs:List Col) (u:Value) (w:World):Prop:=∃ (A:Option Addr) (n c:Nat),u=.agg #[.string nm,.slice A n c]∧n≤c∧c≤4∧Ro w M (SlR 4 A n (Zd cs))
theorem Zgc {M:Nat→Prop} {nm:ByteArray} {cs:List Col} (u:Value) (w w' :World) (hr:RM M w w') (h:UJ M nm cs u w):UJ M nm cs u w' :=by
 obtain ⟨A,n,c,h1,h2,h3,h4⟩:=h
 exact ⟨A,n,c,h1,h2,h3,hr.ro h4⟩
def QN (r:List Row × List Row × List Upd) (u:Value) (w:World):Prop:=∃ (dn:ByteArray) (I:Option Addr) (ci:Nat) (D:Option Addr) (cd:Nat) (U:Option Addr) (cu:Nat),u=.agg #[.string dn,.slice I r.1.length ci,.slice D r.2.1.length cd,.slice U r.2.2.length cu]
theorem Zez {M:Nat→Prop} {r:List Row × List Row × List Upd} (u:Value) (w w' :World) (hr:RM M w w') (h:QN r u w):QN r u w' :=h
def QF (n:Int) (u:Value) (w:World):Prop:=u=.int .i64 n
theorem Zhn {M:Nat→Prop} {n:Int} (u:Value) (w w' :World) (hr:RM M w w') (h:QF n u w):QF n u w' :=h
theorem ZgP {A:Option Addr} {n:Nat} {l:List Itm} {w:World} (h:SlR 4 A n (ZV l) w) {k:Nat} {x:Itm} (hk:k<n) (hx:l[k]? =some x):
  ∃ b o,A=some ⟨b,o,none⟩∧b<w.heap.size∧w.cell? ⟨b,o+k * 4,none⟩=some (.string x.tr)∧w.cell? ⟨b,o+k * 4+1,none⟩=some (.int .i64 x.row)∧w.cell? ⟨b,o+k * 4+2,none⟩=some (.slice x.oA x.on x.oc)∧w.cell? ⟨b,o+k * 4+3,none⟩=some (.slice x.nA x.nn x.nc):=by
 obtain ⟨b,o,e,hb,hc⟩:=(show Rd w w.heap.size 4 A n (ZV l) from h).2 (by omega)
 exact ⟨b,o,e,hb,hc _ _ (flat_get Itm.cells 4 (fun _=>rfl) l k 0 x (by omega) hx),hc _ _ (flat_get Itm.cells 4 (fun _=>rfl) l k 1 x (by omega) hx),hc _ _ (flat_get Itm.cells 4 (fun _=>rfl) l k 2 x (by omega) hx),hc _ _ (flat_get Itm.cells 4 (fun _=>rfl) l k 3 x (by omega) hx)⟩
set_option maxHeartbeats 16000000 in
set_option maxRecDepth 100000 in
theorem Zep (A:Option Addr) (n c:Nat) (zs:List Int) (w:World) (hr:Rd w w.heap.size 1 A n (zs.map (Value.int .i64))) (hz:Ints zs) (hn:n≤c) (hc:c≤9223372036854775807) (hw:Wds w) (hTN:TNm w):
  Calls Tryz.prog 3 #[.slice A n c] w fun e w' =>e=.returned (.bool true)∧Below w.heap.size w w' :=by
 have hwl:=hw.lt
 have htl:=hTN.lt
 have K0:=Hold.XP w
 go_enter Tryz.func3,Tryz.ntmps3
 go_wp2_with fail
 refine (Zdm A n c zs _ hr hz hn hc).mono ?_
 rintro e w1 ⟨T,rfl,hT,t1,b1⟩
 have K1:=Hold.Zin K0 b1 t1 hT (by simp [Mut,Zc,Hp.foot])
 have wd0:Wds w1:=hw.below b1 hwl
 have tn0:TNm w1:=hTN.keep (b1.block _ htl)
 have hT1:1<T:=by omega
 have K2:=(K1.add (wd0.ro2 (show ¬Mut Zc [.tp T] 1 by simp [Mut,Zc,Hp.foot];omega))).add (tn0.ro2 (show ¬Mut Zc [.ro Wds,.tp T] 0 by simp [Mut,Zc,Hp.foot];omega))
 clear K1 K0 wd0 tn0 t1 b1 hw hTN hr hwl htl hT
 go_wp2_with fail
 refine (Ze2 (Mut Zc _) T _ K2.Zb (K2.tp_ 2 rfl) (K2.get 2 rfl).2 6 (by omega) ((K2.ro 1 rfl).less (YS (i:=2) rfl)) hT1 ((K2.ro 0 rfl).less (YS (i:=2) rfl))).mono ?_
 rintro e w2 ⟨gA,gn,gc,gl,O1,on1,oc1,ol1,rfl,hgl,hgn,-,-,hgo,-,rG,-,t2,g2⟩
 have K3:=(Hold.Zf K2 2 rfl g2 t2).add rG
 have HGO:=hid hgo
 have HGL:=hid hgl
 clear K2 t2 g2 rG hgo hgl
 go_wp2_with fail
 refine (Zct (Mut Zc _) T _ K3.Zb (K3.tp_ 3 rfl) (K3.get 3 rfl).2 ((K3.ro 2 rfl).less (YS (i:=3) rfl)) hT1).mono ?_
 rintro e w3 ⟨tA,tc,tl,D,dn_,dc,dl,rfl,-,-,hok,hst,hdf,rT,rD,t3,g3⟩
 have HOK:=hid hok
 have HST:=hid hst
 have HDF:=hid hdf
 have K4:Hold Zc none w w3 [.ro (DesIn D dn_ dl),.ro (TesIn tA 3 tl),.ro (Wx 5 gA gn gl)]:=(((Hold.Zf K3 3 rfl g3 t3).add rT).add (rD.less (by simp [ZI,Hp.foot]))).pick [0,1,2] (by decide) rfl
 clear K3 t3 g3 rT rD hok hst hdf
 have HDN:=hid (show dn_≤3 from by have h:=(K4.ro 0 rfl).now.len;have:=HDF.out.len;omega)
 have HDL:=hid (show dl.length=dn_ from (K4.ro 0 rfl).now.len)
 have HTB:=hid (show ∀ x∈tl,x.n≤1000 from fun x hx=>by
  have h1:x.cs.length=x.n:=(RdC.Zy (show SlR 4 x.A x.n (Zd x.cs) _ from ((K4.ro 1 rfl).now.2 x hx).1)).len
  obtain ⟨i,hi⟩:=List.getElem?_of_mem hx
  have h2:=(HST.out.at_ i x.tb (Xg hi)).2.2.sch.len.2
  have h3:x.cs.length≤4:=h2
  omega)
 have HGB:=hid (show ∀ t∈gl,t.cols.n≤1000 from fun t ht=>by
  have h1:=SlP.In.len (s:=t.cols) (k:=1) (cel:=ZG) (P:=fun _ _=>True) ((K4.ro 2 rfl).now.2 t ht).1 (by omega) (fun _=>rfl)
  have h2:t.cols.l.length≤8:=(HGO.out.2 t ht).1.o.2.1
  omega)
 go_wp2_with fail
 refine (ZbC (Mut Zc _) _ K4.Zb gA gn gc gl tA 3 tc tl D dn_ dc dl ((K4.ro 2 rfl).imp fun w2 h2=>zi h2) (K4.ro 1 rfl) (K4.ro 0 rfl) (by omega) HGB.out (by omega) HTB.out (by have:=HDN.out;omega) HDF.out.b).mono ?_
 rintro e w4 ⟨RA,rn,rc,rl,rfl,hrl,hrc,rR,b4⟩
 have HRL:=hid hrl
 have HRC:=hid hrc
 have K5:Hold Zc none w w4 [.ro (SlR 4 RA rn (ZV rl)),.ro (DesIn D dn_ dl),.ro (Wx 5 gA gn gl)]:=((K4.call b4).add rR).pick [0,1,3] (by decide) rfl
 clear K4 b4 rR hrl hrc
 have HRN:=hid (show rl.length=rn from by
  have h:=(show Rd _ _ 4 RA rn (ZV rl) from (K5.ro 0 rfl).now).1
  rw [JB] at h
  omega)
 have HCO:=hid (fun (x:Tg) (hx:x∈gl)=>Zfr HGO.out (by rw [HGL.out];omega) HST.out HDF.out HRL.out hx)
 clear HRL HTB HOK
 go_wp2_with fail
 go_loopw [35] (fun iv wr=>∃ j:Nat,j≤gn∧iv=.int .i64 j∧Hold Zc none w wr [.ro (SlR 4 RA rn (ZV rl)),.ro (DesIn D dn_ dl),.ro (Wx 5 gA gn gl)]) (fun iv _=>gn - (intOf iv).toNat)
 case atStart=>exact ⟨0,by omega,rfl,K5⟩
 case round=>
  clear K5
  obtain ⟨j,hj,rfl,H⟩:=hrel
  by_cases hlt:j<gn
  ·obtain ⟨x,hx⟩:∃ x,gl[j]? =some x:=Zq HGL.out hlt
   have hmx:=List.mem_of_getElem? hx
   obtain ⟨b,o,rfl,hb,hcl⟩:=(show ∃ b o,gA=some ⟨b,o,none⟩∧b<wr.heap.size∧∀ q u,q<11→x.cells[q]? =some u→World.cell? wr ⟨b,o+j * 11+q,none⟩=some u from by
    obtain ⟨b,o,e,hb,hcl⟩:=(show Rd _ _ 11 gA gn (gl.flatMap Tg.cells) from (H.ro 2 rfl).now.1).2 (by omega)
    refine ⟨b,o,e,hb,fun q u hq hu=>?_⟩
    rw [Nat.add_assoc]
    exact hcl _ _ ((flat_get Tg.cells 11 (fun _=>rfl) gl j q _ hq hx).trans hu))
   have rO:Ro wr _ (SlR 1 x.cols.A x.cols.n (Yn x.cols.l)):=(H.ro 2 rfl).imp fun w2 h2=>(zi h2).2 x hmx
   have hcn:=HGB.out x hmx
   have hco:=HCO.out x hmx
   obtain ⟨L,hL⟩:∃ L,L=(Yh tl dl x).length:=⟨_,rfl⟩
   rw [←hL] at hco
   have HCX:=hid hco
   have HCN:=hid hcn
   clear hL hco hcn hx hmx
   obtain ⟨tn,htn⟩:∃ z,x.name=z:=⟨_,rfl⟩
   obtain ⟨tt,htt⟩:∃ z,x.tab=z:=⟨_,rfl⟩
   obtain ⟨tb,htb⟩:∃ z,x.before=z:=⟨_,rfl⟩
   obtain ⟨te,hte⟩:∃ z,x.event=z:=⟨_,rfl⟩
   obtain ⟨ch,hch⟩:∃ z,x.each=z:=⟨_,rfl⟩
   have x0:=hcl 0 _ (by omega) rfl
   have x1:=hcl 1 _ (by omega) rfl
   have x2:=hcl 2 _ (by omega) rfl
   have x3:=hcl 3 _ (by omega) rfl
   have x4:=hcl 4 _ (by omega) rfl
   have x5:=hcl 5 _ (by omega) rfl
   have x6:=hcl 6 _ (by omega) rfl
   have x7:=hcl 7 _ (by omega) rfl
   have x8:=hcl 8 _ (by omega) rfl
   have x9:=hcl 9 _ (by omega) rfl
   have x10:=hcl 10 _ (by omega) rfl
   simp only [Nat.add_zero,SlP.v,htn,htt,htb,hte,hch] at x0 x1 x2 x3 x4 x5 x6 x7 x8 x9 x10
   have HV:=hid (show x.val=.agg #[.string tn,.string tt,.bool tb,.int .i64 te,.slice x.cols.A x.cols.n x.cols.c,.bool ch,.slice x.prec.A x.prec.n x.prec.c,.slice x.foll.A x.foll.n x.foll.c,.slice x.rank.A x.rank.n x.rank.c,.slice x.cond.A x.cond.n x.cond.c,.slice x.acts.A x.acts.n x.acts.c] from by rw [←htn,←htt,←htb,←hte,←hch];rfl)
   have HT:=hid (And.intro htn (And.intro htt (And.intro htb (And.intro hte hch))))
   have K1:=(H.add rO).Za #[.string tn,.string tt,.bool tb,.int .i64 te,.slice x.cols.A x.cols.n x.cols.c,.bool ch,.slice x.prec.A x.prec.n x.prec.c,.slice x.foll.A x.foll.n x.foll.c,.slice x.rank.A x.rank.n x.rank.c,.slice x.cond.A x.cond.n x.cond.c,.slice x.acts.A x.acts.n x.acts.c] 40
   clear H rO hcl htn htt htb hte hch
   obtain ⟨g9,hg9⟩:∃ g,g=wr.heap.size:=⟨_,rfl⟩
   rw [←hg9] at K1
   go_upto_region 8 with fail
   rw [←hg9]
   have HG9:=hid hg9
   clear hg9 x0 x1 x2 x3 x4 x5 x6 x7 x8 x9 x10
   generalize World.alloc _ _=w5 at K1 ⊢
   go_wp2_with fail
   go_loopw [11,41] (fun nv iv wx=>∃ q:Nat,q≤dn_∧iv=.int .i64 q∧nv=.int .i64 (XE x (ZA tt).2 (dl.take q))∧Hold Zc none w wx [.cst g9 40 #[.string tn,.string tt,.bool tb,.int .i64 te,.slice x.cols.A x.cols.n x.cols.c,.bool ch,.slice x.prec.A x.prec.n x.prec.c,.slice x.foll.A x.foll.n x.foll.c,.slice x.rank.A x.rank.n x.rank.c,.slice x.cond.A x.cond.n x.cond.c,.slice x.acts.A x.acts.n x.acts.c],.ro (SlR 1 x.cols.A x.cols.n (Yn x.cols.l)),.ro (SlR 4 RA rn (ZV rl)),.ro (DesIn D dn_ dl),.ro (Wx 5 (some ⟨b,o,none⟩) gn gl)]) (fun _ iv _=>dn_ - (intOf iv).toNat)
   case atStart=>exact ⟨0,by omega,rfl,rfl,K1⟩
   case round=>
    clear K1
    obtain ⟨q,hq,rfl,rfl,K1⟩:=hrel
    obtain ⟨n0,hn0⟩:∃ z,XE x (ZA tt).2 (dl.take q)=z:=⟨_,rfl⟩
    rw [hn0]
    have HN0:=hid hn0
    clear hn0
    have hdn:=HDN.out
    by_cases hlq:q<dn_
    ·have q0:(0:Int)≤(q:Int):=by omega
     have q1:(q:Int)<(dn_:Int):=by omega
     obtain ⟨y,hy⟩:=Zq HDL.out hlq
     obtain ⟨b2,o2,rfl,hb2,y0,y1,y2,y3⟩:=(K1.ro 3 rfl).now.at_ hy
     have HY:=hid hy
     have hmy:=List.mem_of_getElem? hy
     have rY:Ro _ _ (Qr y):=(K1.ro 3 rfl).imp fun w2 h2=>h2.2 y hmy
     clear hy
     have K2:=(K1.add rY).Za #[.string y.nm,.slice y.I y.ni y.ci,.slice y.D y.nd y.cd,.slice y.U y.nu y.cu] 44
     obtain ⟨g8,hg8⟩:∃ g,g=wr.heap.size:=⟨_,rfl⟩
     rw [←hg8] at K2
     clear K1 rY
     go_upto_region 12 with fail
     rw [←hg8]
     clear hg8 y0 y1 y2 y3
     generalize World.alloc _ _=w6 at K2 ⊢
     have F2:=K2.facts
     simp only [zg] at F2
     obtain ⟨z,hz⟩:∃ z:Bool,(y.nm.toList==tt.toList)=z:=⟨_,rfl⟩
     have HZ:=hid (show Yp tt y=z from hz)
     cases z with
     | false=>
      go_wp2_with fail
      go_roundw
      case rel=>exact ⟨q+1,by omega,by go_num,by rw [Jp HY.out,HT.out.2.1,HZ.out,←HT.out.2.1,HT.out.2.1,HN0.out];rfl,K2.pick [2,3,4,5,6] (by decide) rfl⟩
      case measure=>simp [intOf];omega
     | true=>
      cases tb with
      | true=>
       go_wp2_with fail
       go_roundw
       case rel=>exact ⟨q+1,by omega,by go_num,by rw [Jp HY.out,HT.out.2.1,HZ.out,HT.out.2.2.1,HN0.out];rfl,K2.pick [2,3,4,5,6] (by decide) rfl⟩
       case measure=>simp [intOf];omega
      | false=>
       go_upto_region 13 with fail
       obtain ⟨R,hR⟩:∃ R,R=ZX te x.cols.l (ZA tt).2 (y.li.map Rw.row) (y.ld.map Rw.row) (y.lu.map Pr.upd):=⟨_,rfl⟩
       have HR:=hid hR
       clear hR
       obtain ⟨KL,hKL,KN⟩:=K2.name
       have HF1:Hid (∀ wv,Hold Zc none w wv KL→Blk wv g8 44 #[.string y.nm,.slice y.I y.ni y.ci,.slice y.D y.nd y.cd,.slice y.U y.nu y.cu]):=hid fun wv HC=>by rw [hKL] at HC;exact HC.ZB 0 rfl
       have HF2:Hid (∀ wv,Hold Zc none w wv KL→Blk wv g9 40 #[.string tn,.string tt,.bool false,.int .i64 te,.slice x.cols.A x.cols.n x.cols.c,.bool ch,.slice x.prec.A x.prec.n x.prec.c,.slice x.foll.A x.foll.n x.foll.c,.slice x.rank.A x.rank.n x.rank.c,.slice x.cond.A x.cond.n x.cond.c,.slice x.acts.A x.acts.n x.acts.c]):=hid fun wv HC=>by rw [hKL] at HC;exact HC.ZB 2 rfl
       have HX:Hid (∀ wv,Hold Zc none w wv KL→Ro wv (Mut Zc KL) (Qr y)∧Ro wv (Mut Zc KL) (SlR 1 x.cols.A x.cols.n (Yn x.cols.l))):=hid fun wv HC=>by
        rw [hKL] at HC ⊢
        exact ⟨HC.ro 1 rfl,HC.ro 3 rfl⟩
       have HKL:=hid hKL
       have HYG:=HDF.out.g y hmy
       have HYB:=HDF.out.b y hmy
       clear hKL K2 F2
       refine wp_region_any (by kernel_rfl) ?_
       refine Zp 9 133 (KL) (spL [(58,UJ (Mut Zc KL) (ZA tt).1 (ZA tt).2),(60,QN R),(63,QF (YD R.1.length R.2.1.length R.2.2.length te))]) (by kernel_rfl) (by kernel_rfl) (by kernel_rfl) rfl ?_ (KN.drew) ?_
       ·exact Ze Zgc (Ze Zez (Ze Zhn (Zo _)))
       simp only [zd,Act.put,List.getElem_toArray,List.getElem_cons_zero,List.getElem_cons_succ,zl]
       refine' dv rfl rfl rfl (fun wv HC=>?_) ?_;rotate_left
       ·have q0:=(HF2.out _ HC).cell 0;have q1:=(HF2.out _ HC).cell 1;have q2:=(HF2.out _ HC).cell 2;have q3:=(HF2.out _ HC).cell 3;have q4:=(HF2.out _ HC).cell 4;have q5:=(HF2.out _ HC).cell 5;have q6:=(HF2.out _ HC).cell 6;have q7:=(HF2.out _ HC).cell 7;have q8:=(HF2.out _ HC).cell 8;have q9:=(HF2.out _ HC).cell 9;have q10:=(HF2.out _ HC).cell 10;go_simp<;>rfl
       simp only [Act.put,zl]
       refine' dv rfl rfl rfl (fun wv HC=>?_) ?_;rotate_left
       · go_simp<;>rfl
       simp only [Act.put,zl]
       refine' dv rfl rfl rfl (fun wv HC=>?_) ?_;rotate_left
       ·have q1:=(HF2.out _ HC).cell 1;go_simp<;>rfl
       simp only [Act.put,zl]
       refine Zm 58 (UJ (Mut Zc KL) (ZA tt).1 (ZA tt).2) (f:=14) (args:=#[.string tt]) rfl rfl rfl rfl (fun wv=>?_) (fun wv HC hrm hD=>?_) ?_
       ·go_simp<;>rfl
       ·refine (VT (Mut Zc KL) wv HC.Zb tt).mono ?_
        rintro e w7 ⟨A7,n7,c7,rfl,h1,h2,h3,b7⟩
        exact ⟨_,rfl,⟨A7,n7,c7,rfl,h1,h2,h3⟩,HC.call b7,RM.below b7⟩
       rintro u wx HCx ⟨A7,n7,c7,rfl,h71,h72,h73⟩
       clear HCx h73
       simp only [Act.put,zl]
       refine' dv rfl rfl rfl (fun wv HC=>?_) ?_;rotate_left
       ·have q0:=(HF1.out _ HC).cell 0;have q1:=(HF1.out _ HC).cell 1;have q2:=(HF1.out _ HC).cell 2;have q3:=(HF1.out _ HC).cell 3;go_simp<;>rfl
       simp only [Act.put,zl]
       refine Zm 60 (QN R) (f:=13) (args:=#[.agg #[.string tn,.string tt,.bool false,.int .i64 te,.slice x.cols.A x.cols.n x.cols.c,.bool ch,.slice x.prec.A x.prec.n x.prec.c,.slice x.foll.A x.foll.n x.foll.c,.slice x.rank.A x.rank.n x.rank.c,.slice x.cond.A x.cond.n x.cond.c,.slice x.acts.A x.acts.n x.acts.c],.agg #[.string (ZA tt).1,.slice A7 n7 c7],.agg #[.string y.nm,.slice y.I y.ni y.ci,.slice y.D y.nd y.cd,.slice y.U y.nu y.cu]]) rfl rfl rfl rfl (fun wv=>?_) (fun wv HC hrm hD=>?_) ?_
       ·go_simp<;>rfl
       ·have hs:UJ (Mut Zc KL) (ZA tt).1 (ZA tt).2 (.agg #[.string (ZA tt).1,.slice A7 n7 c7]) wv:=ZM hD 3 rfl (by kernel_rfl) rfl rfl
        obtain ⟨A8,n8,c8,e8,-,-,h8⟩:=hs
        obtain ⟨rfl,rfl,rfl⟩:A7=A8∧n7=n8∧c7=c8:=by
         injection e8 with e8
         simp at e8
         exact e8
        have hm:=Zeq (Mut Zc KL) wv HC.Zb x (ZA tt).1 A7 n7 c7 (ZA tt).2 y.nm y.I y.ni y.ci y.li y.D y.nd y.cd y.ld y.U y.nu y.cu y.lu (HX.out _ HC).2 h8 ((HX.out _ HC).1.imp fun w2 h2=>h2.1) ((HX.out _ HC).1.imp fun w2 h2=>h2.2.1) ((HX.out _ HC).1.imp fun w2 h2=>h2.2.2) HCN.out (by omega) (by have:=HYB.1;omega) (by have:=HYB.2.1;omega) (by have:=HYB.2.2.1;omega) ⟨HYG.1,HYG.2.1⟩ HYG.2.2
        rw [HV.out,HT.out.2.2.2.1,←HR.out] at hm
        refine hm.mono ?_
        rintro e w9 ⟨I,ni,ci,li,D2,nd,cd,ld,U,nu,cu,lu,rfl,er,-,-,-,r1,r2,r3,b9⟩
        have l1:=r1.now.len
        have l2:=r2.now.len
        have l3:=r3.now.len
        refine ⟨_,rfl,⟨y.nm,I,ci,D2,cd,U,cu,?_⟩,HC.call b9,RM.below b9⟩
        rw [←er]
        simp only [List.length_map,l1,l2,l3]
       rintro u wx HCx ⟨dn2,I,ci,D2,cd,U,cu,rfl⟩
       clear HCx
       simp only [Act.put,zl]
       refine' dv rfl rfl rfl (fun wv HC=>?_) ?_;rotate_left
       · go_simp<;>rfl
       simp only [Act.put,zl]
       refine' dv rfl rfl rfl (fun wv HC=>?_) ?_;rotate_left
       ·have q3:=(HF2.out _ HC).cell 3;go_simp<;>rfl
       simp only [Act.put,zl]
       refine Zm 63 (QF (YD R.1.length R.2.1.length R.2.2.length te)) (f:=12) (args:=#[.agg #[.string dn2,.slice I R.1.length ci,.slice D2 R.2.1.length cd,.slice U R.2.2.length cu],.int .i64 te]) rfl rfl rfl rfl (fun wv=>?_) (fun wv HC hrm hD=>?_) ?_
       ·go_simp<;>rfl
       ·refine (Ze7 wv dn2 I _ ci D2 _ cd U _ cu te).mono ?_
        rintro e w9 ⟨rfl,b9⟩
        exact ⟨_,rfl,rfl,HC.call b9,RM.below b9⟩
       rintro u wx HCx hu
       have hu:u=.int .i64 (YD R.1.length R.2.1.length R.2.2.length te):=hu
       subst hu
       clear HCx
       simp only [Act.put,zl]
       refine Zj ?_
       rintro wx3 HX3
       rintro _hrm HGW
       clear HGW _hrm HX HF1 HF2 KN
       rw [HKL.out] at HX3
       clear HKL
       have HN1:=hid (show XE x (ZA tt).2 (dl.take (q+1))=YD R.1.length R.2.1.length R.2.2.length te from by
        rw [Jp HY.out,HT.out.2.1,HZ.out,HT.out.2.2.1,HR.out,←HT.out.2.2.2.1]
        rfl)
       clear HYG HYB
       go_wp2_with fail
       go_roundw
       case rel=>exact ⟨q+1,by omega,by go_num,by rw [HN1.out],HX3.pick [2,3,4,5,6] (by decide) rfl⟩
       case measure=>simp [intOf];omega
    ·obtain rfl:q=dn_:=by omega
     have HNL:=hid (show n0=XE x (ZA tt).2 dl from by rw [←HN0.out,List.take_of_length_le (by rw [HDL.out];exact Nat.le_refl _)])
     have HW:=hid (show (if ch=true then n0 else min n0 1)=(L:Int) from by
      have h:=HCX.out.n
      unfold Vq at h
      rw [HT.out.2.2.2.2,HT.out.2.1,←HNL.out] at h
      exact h)
     clear HNL HN0 hlq hq
     have F1:=K1.facts
     simp only [zg] at F1
     go_upto_if 67 with fail
     go_cut [11] from 65 to 69 (fun v wx=>v=.int .i64 (L:Int)∧Hold Zc none w wx [.cst g9 40 #[.string tn,.string tt,.bool tb,.int .i64 te,.slice x.cols.A x.cols.n x.cols.c,.bool ch,.slice x.prec.A x.prec.n x.prec.c,.slice x.foll.A x.foll.n x.foll.c,.slice x.rank.A x.rank.n x.rank.c,.slice x.cond.A x.cond.n x.cond.c,.slice x.acts.A x.acts.n x.acts.c],.ro (SlR 1 x.cols.A x.cols.n (Yn x.cols.l)),.ro (SlR 4 RA rn (ZV rl)),.ro (DesIn D q dl),.ro (Wx 5 (some ⟨b,o,none⟩) gn gl)])
     case first=>
      cases ch with
      | true=>
       have h:=HW.out
       simp only [if_true] at h
       go_wp2_with fail
       go_meet
       exact ⟨by first|rfl|rw [h],K1⟩
      | false=>
       have h:=HW.out
       simp only [Bool.false_eq_true,if_false] at h
       go_wp2_with fail
       go_meet
       exact ⟨by first|rfl|(rw [←h]<;>rfl),K1⟩
     case rest=>
      obtain ⟨rfl,K2⟩:=hcut
      clear K1 F1 HW
      go_wp2_with fail
      go_loopw [14,72] (fun cv iv wx=>∃ p m:Nat,p≤rn∧m≤p∧iv=.int .i64 p∧cv=.int .i64 (m:Int)∧Hid ((((rl.take p).map Itm.sh).filter (Wh x.name)).length=m)∧Hold Zc none w wx [.cst g9 40 #[.string tn,.string tt,.bool tb,.int .i64 te,.slice x.cols.A x.cols.n x.cols.c,.bool ch,.slice x.prec.A x.prec.n x.prec.c,.slice x.foll.A x.foll.n x.foll.c,.slice x.rank.A x.rank.n x.rank.c,.slice x.cond.A x.cond.n x.cond.c,.slice x.acts.A x.acts.n x.acts.c],.ro (SlR 1 x.cols.A x.cols.n (Yn x.cols.l)),.ro (SlR 4 RA rn (ZV rl)),.ro (DesIn D q dl),.ro (Wx 5 (some ⟨b,o,none⟩) gn gl)]) (fun _ iv _=>rn - (intOf iv).toNat)
      case atStart=>exact ⟨0,0,by omega,by omega,rfl,rfl,hid rfl,K2⟩
      case round=>
       clear K2
       obtain ⟨p,m,hp,hmp,rfl,rfl,HM,K2⟩:=hrel
       have hrnb:rn≤9223372036854775807:=by have:=HRC.out;omega
       by_cases hlp:p<rn
       ·have p0:(0:Int)≤(p:Int):=by omega
        have p1:(p:Int)<(rn:Int):=by omega
        obtain ⟨⟨itr,irow,ioA,ion,ioc,inA,inn,inc⟩,hi⟩:=Zq HRN.out hlp
        have HI:=hid hi
        have HIM:=hid (List.mem_of_getElem? hi)
        obtain ⟨b3,o3,rfl,hb3,i0,i1,i2,i3⟩:=ZgP (K2.ro 2 rfl).now hlp hi
        clear hi
        have K3:=K2.Za #[.string itr,.int .i64 irow,.slice ioA ion ioc,.slice inA inn inc] 53
        obtain ⟨g7,hg7⟩:∃ g,g=wr.heap.size:=⟨_,rfl⟩
        rw [←hg7] at K3
        clear K2
        go_upto_region 21 with fail
        rw [←hg7]
        clear hg7 i0 i1 i2 i3
        generalize World.alloc _ _=w8 at K3 ⊢
        have F3:=K3.facts
        simp only [zg] at F3
        have HS:=hid (HCX.out.s _ HIM.out)
        obtain ⟨z,hz⟩:∃ z:Bool,(itr.toList==tn.toList)=z:=⟨_,rfl⟩
        have hz2:(itr.toList !=tn.toList)=!z:=by rw [←hz];rfl
        have HZ:=hid (show Wh x.name (itr,irow,ion,inn)=z from by rw [HT.out.1];exact hz)
        have HM2:=hid (show (((rl.take (p+1)).map Itm.sh).filter (Wh x.name)).length=m+(if z then 1 else 0) from by
         rw [WK HI.out,List.map_append,List.filter_append,List.length_append,HM.out]
         simp only [List.map_cons,List.map_nil,List.filter_cons,List.filter_nil,Itm.sh,HZ.out]
         cases z<;>rfl)
        have HMX:=hid (show (m:Int)+1≤9223372036854775807 from by have:=HRC.out;omega)
        cases z with
        | false=>
         go_wp2_with fail
         go_roundw
         case rel=>exact ⟨p+1,m,by omega,by omega,by go_num,rfl,hid (by have h:=HM2.out;simpa using h),K3.pick [1,2,3,4,5] (by decide) rfl⟩
         case measure=>simp [intOf];omega
        | true=>
         have hs:=HS.out (by rw [HT.out.1];exact Xt (beq_iff_eq.1 hz))
         have he:=HCX.out.e
         unfold UY at hs
         rw [HT.out.2.2.2.2] at hs
         rw [HT.out.2.2.2.1] at hs he
         have hm1:m<9223372036854775807:=by have:=HMX.out;omega
         have HR:=hid (show ∃ p2 m2:Nat,p2=p+1∧m2=m+1∧(((rl.take p2).map Itm.sh).filter (Wh x.name)).length=m2 from ⟨p+1,m+1,rfl,rfl,by have h:=HM2.out;simpa using h⟩)
         have hz3:(itr.toList !=tn.toList)=false:=hz2
         clear HS hz2 HMX HM2
         cases ch with
         | true=>
          simp only [if_true] at hs
          have hs1:0<ion↔te≠1:=hs.1
          have hs2:0<inn↔te≠3:=hs.2
          clear hs
          rcases (show te=1∨te=2∨te=3 by omega) with rfl|rfl|rfl
          ·have a0:ion=0:=(Nat.eq_zero_or_pos ion).elim id fun h=>absurd rfl (hs1.1 h)
           have b0:0<inn:=hs2.2 (by decide)
           subst a0
           have b1:decide ((0:Int)<(inn:Int))=true:=by simp;omega
           have b2:decide (0<inn)=true:=by simp;omega
           clear hs1 hs2 he
           go_wp2_with fail
           go_roundw
           case rel=>
            obtain ⟨p2,m2,e1,e2,h3⟩:=HR.out
            subst e1 e2
            exact ⟨p+1,m+1,by omega,by omega,by go_num,by first|rfl|go_num,hid h3,K3.pick [1,2,3,4,5] (by decide) rfl⟩
           case measure=>simp [intOf];omega
          ·have a0:0<ion:=hs1.2 (by decide)
           have b0:0<inn:=hs2.2 (by decide)
           have a1:decide ((0:Int)<(ion:Int))=true:=by simp;omega
           have a2:decide (0<ion)=true:=by simp;omega
           have b1:decide ((0:Int)<(inn:Int))=true:=by simp;omega
           have b2:decide (0<inn)=true:=by simp;omega
           clear hs1 hs2 he
           go_wp2_with fail
           go_roundw
           case rel=>
            obtain ⟨p2,m2,e1,e2,h3⟩:=HR.out
            subst e1 e2
            exact ⟨p+1,m+1,by omega,by omega,by go_num,by first|rfl|go_num,hid h3,K3.pick [1,2,3,4,5] (by decide) rfl⟩
           case measure=>simp [intOf];omega
          ·have a0:0<ion:=hs1.2 (by decide)
           have b0:inn=0:=(Nat.eq_zero_or_pos inn).elim id fun h=>absurd rfl (hs2.1 h)
           subst b0
           have a1:decide ((0:Int)<(ion:Int))=true:=by simp;omega
           have a2:decide (0<ion)=true:=by simp;omega
           clear hs1 hs2 he
           go_wp2_with fail
           go_roundw
           case rel=>
            obtain ⟨p2,m2,e1,e2,h3⟩:=HR.out
            subst e1 e2
            exact ⟨p+1,m+1,by omega,by omega,by go_num,by first|rfl|go_num,hid h3,K3.pick [1,2,3,4,5] (by decide) rfl⟩
           case measure=>simp [intOf];omega
         | false=>
          simp only [Bool.false_eq_true,if_false] at hs
          obtain ⟨rfl,rfl,rfl⟩:irow=0∧ion=0∧inn=0:=by
           have hs:(irow,ion,inn)=((0:Int),0,0):=hs
           simpa using hs
          clear he
          go_wp2_with fail
          go_roundw
          case rel=>
           obtain ⟨p2,m2,e1,e2,h3⟩:=HR.out
           subst e1 e2
           exact ⟨p+1,m+1,by omega,by omega,by go_num,by first|rfl|go_num,hid h3,K3.pick [1,2,3,4,5] (by decide) rfl⟩
          case measure=>simp [intOf];omega
       ·obtain rfl:p=rn:=by omega
        have hmL:m=L:=by
         have h:=HM.out
         rw [List.take_of_length_le (by rw [HRN.out];exact Nat.le_refl _),HCX.out.c] at h
         exact h.symm
        subst hmL
        go_wp2_with fail
        go_roundw
        case rel=>exact ⟨j+1,by omega,by go_num,K2.pick [2,3,4] (by decide) rfl⟩
        case measure=>simp [intOf];omega
  ·obtain rfl:j=gn:=by omega
   go_wp2_with fail
   refine (ZcI _).mono ?_
   rintro e w6 ⟨rfl,b6⟩
   have HB:=hid (H.call b6).below
   clear H b6
   go_wp2_with fail
   go_ret
   exact ⟨rfl,HB.out⟩
end Go.Proofs.YtnbbllkbefagmaaGreatDoor

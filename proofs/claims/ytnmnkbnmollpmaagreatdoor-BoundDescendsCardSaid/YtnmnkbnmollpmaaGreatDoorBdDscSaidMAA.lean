import Derived.Test.YtnmnkbnmollpmaaGreatDoorBdDscSaidMW
import Derived.Test.YtnmnkbnmollpmaaGreatDoorBdDscSaidMY
set_option linter.unusedVariables false
set_option linter.unusedSimpArgs false
set_option maxHeartbeats 64000000
set_option maxRecDepth 100000
namespace Go.Proofs.YtnmnkbnmollpmaaGreatDoor
section
open Go.RowKit
theorem Zcx (M:Nat→Prop) (w:World) (hM:∀ b,M b→b<w.heap.size) (A:Option Addr) (n c K:Nat) (l:List Rw) (hE:Ro w M (RwsIn A n l)) (hn:n≤1000000) (hK:K≤4398046511104) (hrn:∀ r∈l,r.ok∧r.n≤K):
  Calls Tryz.prog 100 #[.slice A n c] w fun e w' =>Zam w M K (l.map Rw.row) e w' :=by
 have HRL:=hid hE.now.len
 have HRN:=hid hrn
 have HKK:=hid hK
 clear hrn hK
 have KD:=(((Hold.start M w hM).add (hE.less (by simp [Mut]))).add (Vu _ _)).nil 72 2
 clear hE
 go_enter Tryz.func100,Tryz.ntmps100
 go_wp2_with fail
 go_loopw [3,8] (fun ov iv wr=>∃ (j cap:Nat) (O:Option Addr) (outs:List Rw),j≤n∧iv=.int .i64 j∧ov=.slice O j cap∧Hid (outs.map Rw.row=(l.take j).map Rw.row∧∀ r∈outs,r.ok∧r.n≤K)∧Hold M none w wr [.own 72 2 (.slice O j cap) j (Zp outs),.ro (Yl outs),.ro (RwsIn A n l)]) (fun _ iv _=>n - (intOf iv).toNat)
 case atStart=>exact ⟨0,0,none,[],by omega,rfl,rfl,hid ⟨rfl,fun r hr=>nomatch hr⟩,KD⟩
 case round=>
  clear KD
  obtain ⟨j,cap,O,outs,hj,rfl,rfl,HW,H⟩:=hrel
  by_cases hlt:j<n
  ·have hd:decide ((j:Int)<(n:Int))=true:=by simp;omega
   have j0:(0:Int)≤(j:Int):=by omega
   have j1:(j:Int)<(n:Int):=by omega
   obtain ⟨x,hx⟩:=Zl HRL.out hlt
   obtain ⟨b,o,rfl,hb,c0,c1,hxv⟩:=(H.ro 2 rfl).now.at_ hx
   have HXO:=hid (HRN.out x (Ka hx))
   have hxn:x.n≤4398046511104:=KI HXO.out.2 HKK.out
   have HXL:=hid (show x.vs.length=x.n from hxv.len)
   have HXG:=hid hx
   have hxr:Ro wr _ (VlsIn x.A x.n x.vs):=(H.ro 2 rfl).imp fun w2 h2=>h2.2 x (Ka hx)
   clear hx hxv
   have K1:=(H.add hxr).Za #[.int .i64 x.id,.slice x.A x.n x.c] 72
   clear H hxr
   obtain ⟨gr,hgr⟩:∃ gr,gr=wr.heap.size:=⟨_,rfl⟩
   rw [←hgr] at K1
   have F1:=K1.facts
   simp only [zg] at F1
   go_wp2_with fail
   rw [←hgr]
   have HGR:=hid hgr
   clear hgr c0 c1 F1
   obtain ⟨KL,hKL,KN⟩:=K1.name
   have HF:Hid (∀ wv,Hold M none w wv KL→wv.cell? ⟨gr,0,none⟩=some (.int .i64 x.id)∧wv.cell? ⟨gr,1,none⟩=some (.slice x.A x.n x.c)∧gr<wv.heap.size):=hid fun wv HC=>by
    rw [hKL] at HC
    have y0:=HC.Zg 0 rfl
    exact ⟨Li _ _ 0 _ _ _ y0,Li _ _ 1 _ _ _ y0,Blk.lt y0⟩
   have HRX:Hid (∀ wv,Hold M none w wv KL→Ro wv (Mut M KL) (VlsIn x.A x.n x.vs)):=hid fun wv HC=>by
    rw [hKL] at HC ⊢
    exact HC.ro 1 rfl
   have HKL:=hid hKL
   clear hKL K1
   go_wp2_with fail
   refine Lj (by kernel_rfl) ?_
   refine Zn 8 23 (KL) (spL [(17,Zx (Mut M KL) x.vs),(18,Z0 (Mut M KL) x.id x.vs),(19,ZZ (Mut M KL) x.id x.vs)]) (by kernel_rfl) (by kernel_rfl) (by kernel_rfl) rfl ?_ (KN.drew) ?_
   ·exact Zd XG (Zd WX (Zd WV (Zm _)))
   simp only [zd,zp,List.getElem_toArray,List.getElem_cons_zero,List.getElem_cons_succ]
   iterate 2
    refine' dv rfl rfl rfl (fun wv HC=>?_) ?_;rotate_left
    · go_simp<;>rfl
    simp only [zp]
   refine' dv rfl rfl rfl (fun wv HC=>?_) ?_;rotate_left
   ·obtain ⟨f0,f1,f2⟩:=HF.out _ HC;go_simp<;>rfl
   simp only [zp]
   refine' dv rfl rfl rfl (fun wv HC=>?_) ?_;rotate_left
   · go_simp<;>rfl
   simp only [zp]
   refine' dv rfl rfl rfl (fun wv HC=>?_) ?_;rotate_left
   ·obtain ⟨f0,f1,f2⟩:=HF.out _ HC;go_simp<;>rfl
   simp only [zp]
   refine Zi 17 (Zx (Mut M KL) x.vs) (f:=51) (args:=#[.slice x.A x.n x.c]) rfl rfl rfl rfl (fun wv=>?_) (fun wv HC hrm hD=>?_) ?_
   ·go_simp<;>rfl
   ·refine (Xe _ wv HC.Zb x.A x.n x.c x.vs (HRX.out _ HC) hxn).mono ?_
    rintro e w5 ⟨A5,n5,c5,rfl,h50,h51,h52,h53,b5⟩
    exact ⟨_,rfl,⟨A5,n5,c5,rfl,h50,h51,h52,h53⟩,HC.call b5,RM.below b5⟩
   rintro x_ wx HCx ⟨A5,n5,c5,rfl,h50,h51,h52,h53⟩
   simp only [zp]
   have H50:=hid h50
   clear HCx h53 h50
   refine YI 18 (Z0 (Mut M KL) x.id x.vs) rfl rfl rfl rfl (.agg #[.int .i64 x.id,.slice A5 n5 c5]) (fun wv HC=>?_) (fun wv HC hD=>?_) ?_
   ·go_simp<;>rfl
   ·have hsl:Zx (Mut M KL) x.vs (.slice A5 n5 c5) wv:=ZI hD 5 rfl (by kernel_rfl) rfl rfl
    obtain ⟨A6,n6,c6,e6,h1,h2,h3,h4⟩:=hsl
    exact ⟨A6,n6,c6,by rw [e6],h1,h2,h3,h4⟩
   simp only [zp]
   refine Z8 #[.int .i64 x.id,.slice A5 n5 c5] 72 19 (ZZ (Mut M KL) x.id x.vs) (fun g=>.slice (some ⟨g,0,none⟩) 1 1) rfl rfl rfl rfl (fun wv=>?_) (fun wv HC _hrm hD hro=>?_) ?_
   ·go_simp<;>rfl
   ·have hsl:Z0 (Mut M KL) x.id x.vs (.agg #[.int .i64 x.id,.slice A5 n5 c5]) wv:=ZI hD 6 rfl (by kernel_rfl) rfl rfl
    obtain ⟨A6,n6,c6,e6,h1,h2,h3,h4⟩:=hsl
    obtain ⟨rfl,rfl,rfl⟩:A5=A6∧n5=n6∧c5=c6:=by
     injection e6 with e6
     simp at e6
     exact e6
    exact ⟨_,A5,n5,c5,rfl,h1,h2,h3,h4.step (by simp) (fun b hb _=>Below.heap_alloc wv _ b hb) (fun _ _ h=>h),ZO (hro _ HC.Zb) rfl⟩
   rintro g2 wg HCg hsl
   simp only [zp]
   clear hsl HCg
   refine Zk ?_
   rintro wx2 HX
   rintro _hrm HGW
   have hb2:ZZ (Mut M KL) x.id x.vs (.slice (some ⟨g2,0,none⟩) 1 1) wx2:=(Zo (d:=19) rfl).1 (HGW 7 _ rfl (by omega))
   clear HGW _hrm
   obtain ⟨g3,A6,n6,c6,e6,k0_,k1_,k2_,k3_,k4_⟩:=hb2
   obtain rfl:g2=g3:=by injection e6 with e6;injection e6 with e6;injection e6
   clear e6
   rw [HKL.out] at HX k3_
   have k5:=hid k4_.now
   have HK0:=hid k0_
   clear k4_ k0_ HF HRX KN
   have HRS:=hid (show Zp outs++[.int .i64 x.id,.slice A6 n6 c6]=Zp (outs++[⟨x.id,A6,n6,c6,x.vs⟩]) from Wy _ _ _ _ _ _)
   have KA:=HX.add k3_
   clear HX k3_
   have FKA:=KA.facts
   simp only [zg] at FKA
   go_wp2_with (at_builtin;go_must (refine ZX KA 3 rfl Tryz.Xy k5.out rfl (.tmp 12) (.tmp 19) rfl rfl rfl (by intro z hz;simp at hz;rcases hz with rfl|rfl<;>rfl) (by omega) (by omega) ?_);intro C' cap' w6 hc6 hm6 KB;rw [HRS.out] at KB;simp only [zl] at KB;(have F3:=KB.facts);simp only [zg] at F3)
   have KE:=(KB.ZT 4 rfl (XF (r:=⟨x.id,A6,n6,c6,x.vs⟩) (KB.ro 4 rfl) (KB.ro 0 rfl))).drop (Ke _ (Ke _ (Kb _ _)))
   have HW2:=hid (ZcL (A:=A6) HW.out HXG.out HXO.out k1_ k2_ (by rw [HK0.out,HXL.out];exact HXO.out.2))
   go_roundw
   case rel=>exact ⟨j+1,cap',C',_,by omega,by go_num,by first|rfl|trivial,HW2,KE⟩
   case measure=>simp [intOf];omega
  ·obtain rfl:n=j:=by omega
   have hd:decide ((n:Int)<(n:Int))=false:=by simp
   have hcap:=ZM (H.get 0 rfl)
   have KS:=H.Zq 0 rfl
   simp only [List.set_cons_zero] at KS
   have r1:=(KS.ZN 0 rfl).and (KS.ZN 1 rfl)
   have HW2:=hid (show outs.map Rw.row=l.map Rw.row by have h:=HW.out.1;rwa [Kh (by rw [HRL.out];exact Kg _)] at h)
   go_wp2_with fail
   go_ret
   exact ⟨O,n,cap,outs,rfl,hcap.1,hcap.2.1,HW2.out,HW.out.2,r1,KS.below⟩
theorem ZcI (M:Nat→Prop) (w:World) (hM:∀ b,M b→b<w.heap.size) (t:Tg) (snm:ByteArray) (cA:Option Addr) (cn cc:Nat) (cl:List Col) (dn:ByteArray) (I:Option Addr) (ni ci:Nat) (li:List Rw) (D:Option Addr) (nd cd:Nat) (ld:List Rw) (U:Option Addr) (nu cu:Nat) (lu:List Pr) (hO:Ro w M (SlR 1 t.cols.A t.cols.n (Yz t.cols.l))) (hC:Ro w M (SlR 4 cA cn (Zf cl))) (hI:Ro w M (RwsIn I ni li)) (hD:Ro w M (RwsIn D nd ld)) (hU:Ro w M (PrsIn U nu lu)) (h0:t.cols.n≤1000) (h0c:cn≤1000) (h1:ni≤1000000) (h2:nd≤1000000) (h3:nu≤1000000) (hb:(∀ x∈li,x.ok∧x.n≤6)∧∀ x∈ld,x.ok∧x.n≤6) (hbp:∀ x∈lu,x.ok∧x.on≤6∧x.nn≤6):Calls Tryz.prog 66 #[t.val,.agg #[.string snm,.slice cA cn cc],.agg #[.string dn,.slice I ni ci,.slice D nd cd,.slice U nu cu]] w fun e w' =>Zak w M dn (Yn t.event t.cols.l cl (li.map Rw.row) (ld.map Rw.row) (lu.map Pr.upd)) e w' :=by
 obtain ⟨tn,tt,tb,te,⟨oA,on,oc,ol⟩,tch,⟨pA,pn,pc,pl⟩,⟨qA,qn,qc,ql⟩,⟨rA,rn,rc,rl⟩,⟨kA,kn,kc,kl⟩,⟨aA,an,ac,al⟩⟩:=t
 have hon:on≤1000:=h0
 have HB:=hid hb
 have HBP:=hid hbp
 have HLO:=hid (show ol.length=on from StrsTx.len hO.now)
 have HL2:=hid (show lu.length=nu from hU.now.len)
 have KS:=(Hold.start M w hM)|>.add (hU.less (by simp [Mut]))|>.add (hD.less (by simp [Mut,Hp.foot]))|>.add (hI.less (by simp [Mut,Hp.foot]))|>.add (hC.less (by simp [Mut,Hp.foot]))|>.add (hO.less (by simp [Mut,Hp.foot]))|>.Za #[.string tn,.string tt,.bool tb,.int .i64 te,.slice oA on oc,.bool tch,.slice pA pn pc,.slice qA qn qc,.slice rA rn rc,.slice kA kn kc,.slice aA an ac] 48|>.Za #[.string snm,.slice cA cn cc] 66|>.Za #[.string dn,.slice I ni ci,.slice D nd cd,.slice U nu cu] 103|>.alloc #[.string ⟨#[]⟩,.slice none 0 0,.slice none 0 0,.slice none 0 0] 103|>.alloc #[.string dn,.slice none 0 0,.slice none 0 0,.slice none 0 0] 103
 simp only [World.size_alloc] at KS
 obtain ⟨gt,hgt⟩:∃ g,g=w.heap.size:=⟨_,rfl⟩
 rw [←hgt] at KS
 obtain ⟨gs,hgs⟩:∃ g,g=gt+1:=⟨_,rfl⟩
 obtain ⟨gd,hgd⟩:∃ g,g=gs+1:=⟨_,rfl⟩
 obtain ⟨gr,hgr⟩:∃ g,g=gd+1:=⟨_,rfl⟩
 obtain ⟨g7,hg7⟩:∃ g,g=gr+1:=⟨_,rfl⟩
 rw [←hgs,←hgd,←hgr,←hg7] at KS
 have K1:Hold M none w _ [.blk g7 103 #[.string dn,.slice none 0 0,.slice none 0 0,.slice none 0 0],.cst gt 48 #[.string tn,.string tt,.bool tb,.int .i64 te,.slice oA on oc,.bool tch,.slice pA pn pc,.slice qA qn qc,.slice rA rn rc,.slice kA kn kc,.slice aA an ac],.cst gs 66 #[.string snm,.slice cA cn cc],.cst gd 103 #[.string dn,.slice I ni ci,.slice D nd cd,.slice U nu cu],.blk gr 103 #[.string ⟨#[]⟩,.slice none 0 0,.slice none 0 0,.slice none 0 0],.ro (SlR 1 oA on (Yz ol)),.ro (SlR 4 cA cn (Zf cl)),.ro (RwsIn I ni li),.ro (RwsIn D nd ld),.ro (PrsIn U nu lu)]:=KS.pick [0,4,3,2,1,5,6,7,8,9] (by decide) rfl
 clear hO hC hI hD hU KS hb hbp h0
 simp only [Tg.val]
 have F1:=K1.facts
 simp only [zg] at F1
 rw [hg7,hgr,hgd,hgs,hgt] at F1
 go_enter Tryz.func66,Tryz.ntmps66
 go_upto_region 2 with fail
 rw [←hgt,←hgs,←hgd,←hgr,←hg7] at F1 ⊢
 have HG:=hid (KJ hgt (KJ hgs (KJ hgd (KJ hgr hg7))))
 clear hgt hgs hgd hgr hg7
 generalize World.alloc _ _=w1 at K1 F1 ⊢
 by_cases e1:te=1
 ·subst e1
  go_wp2_with fail
  refine (Zcx (Mut M _) _ K1.Zb I ni ci 6 li (K1.ro 7 rfl) (by omega) (by omega) HB.out.1).mono ?_
  rintro e w2 ⟨C,q,cap,k,rfl,hc0,hc1,hk,-,rC,b2⟩
  have HK:=hid (KJ hk trivial)
  have HCP:=hid (KJ hc0 hc1)
  have K2:=(K1.call b2).add rC
  clear K1 F1 b2 rC hk hc0 hc1
  have K3:=K2.store 1 rfl 1 (.slice C q cap)
  simp only [zl] at K3
  have K4:=(((K3.store 5 rfl 0 (.string dn)).store 5 rfl 1 (.slice C q cap)).store 5 rfl 2 (.slice none 0 0)).store 5 rfl 3 (.slice none 0 0)
  simp only [zl] at K4
  have F2:=K2.facts
  simp only [zg] at F2
  have F3:=K3.facts
  simp only [zg] at F3
  have F4:=K4.facts
  simp only [zg] at F4
  have HR:=hid ((K4.ro 0 rfl).less zm)
  have HBL:=hid K4.below
  clear K2 K3 K4
  go_wp2_with fail
  refine Lh (v:=.agg #[.string dn,.slice C q cap,.slice none 0 0,.slice none 0 0]) ?_ rfl ?_
  ·clear HR HBL
   simp [results,Tryz.results66,go_sem,F4]
  ·exact ⟨C,q,cap,k,none,0,0,[],none,0,0,[],rfl,by simp [Yn,HK.out.1],HCP.out,⟨Nat.le_refl _,by simp⟩,⟨Nat.le_refl _,by simp⟩,HR.out,(fun w2 _ _=>⟨ZG 2 w2,fun _ hx=>(nomatch hx)⟩),(fun w2 _ _=>⟨ZG 3 w2,fun _ hx=>(nomatch hx)⟩),HBL.out⟩
 ·have b1:(te==1)=false:=by simpa using e1
  by_cases e3:te=3
  ·subst e3
   go_wp2_with fail
   refine (Zcx (Mut M _) _ K1.Zb D nd cd 6 ld (K1.ro 8 rfl) (by omega) (by omega) HB.out.2).mono ?_
   rintro e w2 ⟨C,q,cap,k,rfl,hc0,hc1,hk,-,rC,b2⟩
   have HK:=hid (KJ hk trivial)
   have HCP:=hid (KJ hc0 hc1)
   have K2:=(K1.call b2).add rC
   clear K1 F1 b2 rC hk hc0 hc1
   have K3:=K2.store 1 rfl 2 (.slice C q cap)
   simp only [zl] at K3
   have K4:=(((K3.store 5 rfl 0 (.string dn)).store 5 rfl 1 (.slice none 0 0)).store 5 rfl 2 (.slice C q cap)).store 5 rfl 3 (.slice none 0 0)
   simp only [zl] at K4
   have F2:=K2.facts
   simp only [zg] at F2
   have F3:=K3.facts
   simp only [zg] at F3
   have F4:=K4.facts
   simp only [zg] at F4
   have HR:=hid ((K4.ro 0 rfl).less zm)
   have HBL:=hid K4.below
   clear K2 K3 K4
   go_wp2_with fail
   refine Lh (v:=.agg #[.string dn,.slice none 0 0,.slice C q cap,.slice none 0 0]) ?_ rfl ?_
   ·clear HR HBL
    simp [results,Tryz.results66,go_sem,F4]
   ·exact ⟨none,0,0,[],C,q,cap,k,none,0,0,[],rfl,by simp [Yn,HK.out.1],⟨Nat.le_refl _,by simp⟩,HCP.out,⟨Nat.le_refl _,by simp⟩,(fun w2 _ _=>⟨ZG 2 w2,fun _ hx=>(nomatch hx)⟩),HR.out,(fun w2 _ _=>⟨ZG 3 w2,fun _ hx=>(nomatch hx)⟩),HBL.out⟩
  ·have b3:(te==3)=false:=by simpa using e3
   by_cases e2:te=2
   ·subst e2
    clear e1 e3 b1 b3
    have K2:Hold M none w _ [.blk g7 103 #[.string dn,.slice none 0 0,.slice none 0 0,.slice none 0 0],.cst gt 48 #[.string tn,.string tt,.bool tb,.int .i64 2,.slice oA on oc,.bool tch,.slice pA pn pc,.slice qA qn qc,.slice rA rn rc,.slice kA kn kc,.slice aA an ac],.cst gs 66 #[.string snm,.slice cA cn cc],.cst gd 103 #[.string dn,.slice I ni ci,.slice D nd cd,.slice U nu cu],.blk gr 103 #[.string ⟨#[]⟩,.slice none 0 0,.slice none 0 0,.slice none 0 0],.ro (SlR 1 oA on (Yz ol)),.ro (SlR 4 cA cn (Zf cl)),.ro (RwsIn I ni li),.ro (RwsIn D nd ld),.ro (PrsIn U nu lu),.own 136 3 (.slice none 0 0) 0 (ZB []),.ro (Yh [])]:=((K1.add (S:=Yh []) (fun w2 _ _ x hx=>(nomatch hx))).nil 136 3).pick [2,3,4,5,6,7,8,9,10,11,0,1] (by decide) rfl
    clear K1 F1
    have F2:=K2.facts
    simp only [zg] at F2
    go_wp2_with fail
    clear F2
    go_loopw [36] (fun iv wr=>∃ (j k cap:Nat) (O:Option Addr) (outs:List Pr),j≤nu∧k≤j∧iv=.int .i64 j∧Hid (outs.map Pr.upd=((lu.take j).map Pr.upd).filter (Xp ol cl))∧Hold M none w wr [.blk g7 103 #[.string dn,.slice none 0 0,.slice none 0 0,.slice O k cap],.cst gt 48 #[.string tn,.string tt,.bool tb,.int .i64 2,.slice oA on oc,.bool tch,.slice pA pn pc,.slice qA qn qc,.slice rA rn rc,.slice kA kn kc,.slice aA an ac],.cst gs 66 #[.string snm,.slice cA cn cc],.cst gd 103 #[.string dn,.slice I ni ci,.slice D nd cd,.slice U nu cu],.blk gr 103 #[.string ⟨#[]⟩,.slice none 0 0,.slice none 0 0,.slice none 0 0],.ro (SlR 1 oA on (Yz ol)),.ro (SlR 4 cA cn (Zf cl)),.ro (RwsIn I ni li),.ro (RwsIn D nd ld),.ro (PrsIn U nu lu),.own 136 3 (.slice O k cap) k (ZB outs),.ro (Yh outs)]) (fun iv _=>nu - (intOf iv).toNat)
    case atStart=>exact ⟨0,0,0,none,[],by omega,by omega,rfl,hid rfl,K2⟩
    case round=>
     clear K2
     obtain ⟨j,k,cap,O,outs,hj,hkj,rfl,HO,H⟩:=hrel
     by_cases hlt:j<nu
     ·obtain ⟨x,hx⟩:=Zl HL2.out hlt
      obtain ⟨bU,oU,rfl,hb,c0,c1,c2,hv,hv2⟩:=(H.ro 9 rfl).now.at_ hx
      have hmx:=Ka hx
      have HX:=hid hx
      have hxb:=HBP.out x hmx
      clear hx hv hv2
      have K3:=((H.add (S:=VlsIn x.nA x.nn x.new) ((H.ro 9 rfl).imp fun w2 h2=>(h2.2 x hmx).2)).add (S:=VlsIn x.oA x.on x.old) (((H.ro 9 rfl).imp fun w2 h2=>(h2.2 x hmx).1).less (by simp [ZL,Mut,Hp.foot]))).Za #[.int .i64 x.id,.slice x.oA x.on x.oc,.slice x.nA x.nn x.nc] 136
      obtain ⟨g9,hg9⟩:∃ g,g=wr.heap.size:=⟨_,rfl⟩
      rw [←hg9] at K3
      clear H
      go_upto_region 11 with fail
      rw [←hg9]
      have HG9:=hid hg9
      clear hg9 c0 c1 c2
      generalize World.alloc _ _=w4 at K3 ⊢
      have F3:=K3.facts
      simp only [zg] at F3
      obtain ⟨y0,hy0⟩:∃ z:Bool,((on:Int)==0)=z:=⟨_,rfl⟩
      have HY0:=hid (show y0=ol.isEmpty from by
       rw [←hy0,←HLO.out]
       cases ol with
       | nil=>rfl
       | cons _ _=>simp;omega)
      have hy1:decide ((on:Int)=0)=y0:=by rw [←hy0];rfl
      go_wp2_with fail
      clear F3 hy0 hy1
      go_loopw [10,47] (fun yv iv wx=>∃ q:Nat,q≤on∧iv=.int .i64 q∧yv=.bool (ol.isEmpty||(ol.take q).any fun s=>Z6 cl s x.upd)∧Hold M none w wx [.cst g9 136 #[.int .i64 x.id,.slice x.oA x.on x.oc,.slice x.nA x.nn x.nc],.ro (VlsIn x.oA x.on x.old),.ro (VlsIn x.nA x.nn x.new),.blk g7 103 #[.string dn,.slice none 0 0,.slice none 0 0,.slice O k cap],.cst gt 48 #[.string tn,.string tt,.bool tb,.int .i64 2,.slice oA on oc,.bool tch,.slice pA pn pc,.slice qA qn qc,.slice rA rn rc,.slice kA kn kc,.slice aA an ac],.cst gs 66 #[.string snm,.slice cA cn cc],.cst gd 103 #[.string dn,.slice I ni ci,.slice D nd cd,.slice (some ⟨bU,oU,none⟩) nu cu],.blk gr 103 #[.string ⟨#[]⟩,.slice none 0 0,.slice none 0 0,.slice none 0 0],.ro (SlR 1 oA on (Yz ol)),.ro (SlR 4 cA cn (Zf cl)),.ro (RwsIn I ni li),.ro (RwsIn D nd ld),.ro (PrsIn (some ⟨bU,oU,none⟩) nu lu),.own 136 3 (.slice O k cap) k (ZB outs),.ro (Yh outs)]) (fun _ iv _=>on - (intOf iv).toNat)
      case atStart=>exact ⟨0,by omega,rfl,by rw [HY0.out];simp,K3⟩
      case round=>
       clear K3
       obtain ⟨q,hq,rfl,rfl,K3⟩:=hrel
       obtain ⟨y,hy⟩:∃ z:Bool,(ol.isEmpty||(ol.take q).any fun s=>Z6 cl s x.upd)=z:=⟨_,rfl⟩
       rw [hy]
       have HY:=hid hy
       clear hy
       by_cases hlq:q<on
       ·have q0:(0:Int)≤(q:Int):=by omega
        have q1:(q:Int)<(on:Int):=by omega
        obtain ⟨s,hs⟩:=Zl HLO.out hlq
        obtain ⟨b2,o2,rfl,hb2,c0⟩:=StrsTx.at_ (K3.ro 8 rfl).now hs
        have HS:=hid hs
        clear hs
        have F3:=K3.facts
        simp only [zg] at F3
        go_wp2_with fail
        clear F3 c0
        refine (Vt (Mut M _) _ K3.Zb snm cA cn cc cl s (K3.ro 9 rfl) (by omega)).mono ?_
        rintro e w5 ⟨rfl,b5⟩
        have K4:=K3.call b5
        clear K3 b5
        obtain ⟨f,hf⟩:∃ f,Ze (named s) cl=f:=⟨_,rfl⟩
        rw [hf]
        have HF:=hid hf
        clear hf
        have HN:Hid (∀ d:Bool,Z6 cl s x.upd=d→(ol.isEmpty||(ol.take (q+1)).any fun s=>Z6 cl s x.upd)=(y||d)):=hid fun d hd=>by
         rw [Kq,HS.out,List.any_append,←Bool.or_assoc,HY.out]
         simp [hd]
        cases y with
        | true=>
         go_wp2_with fail
         go_roundw
         case rel=>exact ⟨q+1,by omega,by go_num,by rw [HN.out _ rfl];simp,K4⟩
         case measure=>simp [intOf];omega
        | false=>
         by_cases h0:0≤f
         ·obtain ⟨n,rfl⟩:=Int.eq_ofNat_of_zero_le h0
          have HD:=hid (show Z6 cl s x.upd=Y0 n x.upd from by unfold Z6;rw [HF.out,Lg h0];rfl)
          clear h0
          have F4:=K4.facts
          simp only [zg] at F4
          go_wp2_with (go_at_call 101;go_must (refine (ZjU (Mut M _) _ K4.Zb x n (K4.ro 1 rfl) (K4.ro 2 rfl)).mono ?_);rintro e w6 ⟨rfl,b6⟩;replace K4:=K4.call b6;clear b6 F4)
          go_roundw
          case rel=>exact ⟨q+1,by omega,by go_num,by rw [HN.out _ HD.out];simp,K4⟩
          case measure=>simp [intOf];omega
         ·have HD:=hid (show Z6 cl s x.upd=false from by unfold Z6;rw [HF.out,Lf h0])
          have h0b:decide ((0:Int)≤f)=false:=by simpa using h0
          go_wp2_with fail
          go_roundw
          case rel=>exact ⟨q+1,by omega,by go_num,by rw [HN.out _ HD.out];simp,K4⟩
          case measure=>simp [intOf];omega
       ·obtain rfl:q=on:=by omega
        have HH:=hid (show Xp ol cl x.upd=y from by
         rw [←HY.out,Kh (by rw [HLO.out];exact Kg _)];rfl)
        have K4:=K3
        clear K3
        rw [←HH.out]
        obtain ⟨z,hz⟩:∃ z:Bool,Xp ol cl x.upd=z:=⟨_,rfl⟩
        rw [hz]
        have HZ:=hid hz
        clear hz
        cases z
        ·go_wp2_with fail
         go_roundw
         case rel=>exact ⟨j+1,k,cap,O,outs,by omega,by omega,by go_num,hid (by rw [HO.out,UA HX.out,Km,KY];simp [HZ.out]),K4.drop (((List.sublist_cons_self _ _).cons _).cons _)⟩
         case measure=>simp [intOf];omega
        ·obtain ⟨KM,hKM,K6⟩:=K4.name
         have H1:∀ wv:World,Hold M none w wv KM→Blk wv g9 136 #[.int .i64 x.id,.slice x.oA x.on x.oc,.slice x.nA x.nn x.nc]:=fun wv h=>by rw [hKM] at h;exact h.Zg 0 rfl
         have H2:∀ wv:World,Hold M none w wv KM→Ro wv (Mut M KM) (VlsIn x.oA x.on x.old):=fun wv h=>by rw [hKM] at h ⊢;exact h.ro 1 rfl
         have H3:∀ wv:World,Hold M none w wv KM→Ro wv (Mut M KM) (VlsIn x.nA x.nn x.new):=fun wv h=>by rw [hKM] at h ⊢;exact h.ro 2 rfl
         have H4:∀ wv:World,Hold M none w wv KM→Blk wv g7 103 #[.string dn,.slice none 0 0,.slice none 0 0,.slice O k cap]:=fun wv h=>by rw [hKM] at h;exact h.Ym 3 rfl
         have HH1:=hid H1
         have HH2:=hid H2
         have HH3:=hid H3
         have HH4:=hid H4
         have HKM:=hid hKM
         clear hKM H1 H2 H3 H4 K4
         go_upto_region 19 with fail
         refine Lj (by kernel_rfl) ?_
         refine Zn 12 82 (KM) (spL [(72,Zx (Mut M KM) x.old),(75,Zx (Mut M KM) x.new),(76,YP (Mut M KM) x.upd),(77,YX (Mut M KM) [x.upd])]) (by kernel_rfl) (by kernel_rfl) (by kernel_rfl) rfl ?_ (K6.drew) ?_
         ·exact Zd XG (Zd XG (Zd Vq (Zd Jr (Zm _))))
         simp only [zd,zp,List.getElem_toArray,List.getElem_cons_zero,List.getElem_cons_succ]
         refine' dv rfl rfl rfl (fun wv HC=>?_) ?_;rotate_left
         · go_simp<;>rfl
         simp only [zp]
         refine' dv rfl rfl rfl (fun wv HC=>?_) ?_;rotate_left
         ·have q0:=(HH4.out _ HC).cell 3;go_simp<;>rfl
         simp only [zp]
         refine' dv rfl rfl rfl (fun wv HC=>?_) ?_;rotate_left
         · go_simp<;>rfl
         simp only [zp]
         refine' dv rfl rfl rfl (fun wv HC=>?_) ?_;rotate_left
         ·obtain q0:=(HH1.out _ HC).cell 0;go_simp<;>rfl
         simp only [zp]
         refine' dv rfl rfl rfl (fun wv HC=>?_) ?_;rotate_left
         · go_simp<;>rfl
         simp only [zp]
         refine' dv rfl rfl rfl (fun wv HC=>?_) ?_;rotate_left
         ·obtain q1:=(HH1.out _ HC).cell 1;go_simp<;>rfl
         simp only [zp]
         refine Zi 72 (Zx (Mut M KM) x.old) (f:=51) (args:=#[.slice x.oA x.on x.oc]) rfl rfl rfl rfl (fun wv=>?_) (fun wv HC hrm hD=>?_) ?_
         ·go_simp<;>rfl
         ·refine (Xe (Mut M KM) wv HC.Zb x.oA x.on x.oc x.old (HH2.out _ HC) (by have:=hxb.2.1;omega)).mono ?_
          rintro e w5 ⟨A5,n5,c5,rfl,h50,h51,h52,h53,b5⟩
          exact ⟨_,rfl,⟨A5,n5,c5,rfl,h50,h51,h52,h53⟩,HC.call b5,RM.below b5⟩
         rintro u wx HCx ⟨A5,n5,c5,rfl,-,-,-,-⟩
         clear HCx
         simp only [zp]
         refine' dv rfl rfl rfl (fun wv HC=>?_) ?_;rotate_left
         · go_simp<;>rfl
         simp only [zp]
         refine' dv rfl rfl rfl (fun wv HC=>?_) ?_;rotate_left
         ·obtain q2:=(HH1.out _ HC).cell 2;go_simp<;>rfl
         simp only [zp]
         refine Zi 75 (Zx (Mut M KM) x.new) (f:=51) (args:=#[.slice x.nA x.nn x.nc]) rfl rfl rfl rfl (fun wv=>?_) (fun wv HC hrm hD=>?_) ?_
         ·go_simp<;>rfl
         ·refine (Xe (Mut M KM) wv HC.Zb x.nA x.nn x.nc x.new (HH3.out _ HC) (by have:=hxb.2.2;omega)).mono ?_
          rintro e w5 ⟨A6,n6,c6,rfl,h50,h51,h52,h53,b5⟩
          exact ⟨_,rfl,⟨A6,n6,c6,rfl,h50,h51,h52,h53⟩,HC.call b5,RM.below b5⟩
         rintro u wx HCx ⟨A6,n6,c6,rfl,-,-,-,-⟩
         clear HCx
         simp only [zp]
         refine YI 76 (YP (Mut M KM) x.upd) rfl rfl rfl rfl (.agg #[.int .i64 x.id,.slice A5 n5 c5,.slice A6 n6 c6]) (fun wv HC=>?_) (fun wv HC hD=>?_) ?_
         ·go_simp<;>rfl
         ·have h1:Zx (Mut M KM) x.old (.slice A5 n5 c5) wv:=ZI hD 6 rfl (by kernel_rfl) rfl rfl
          have h2:Zx (Mut M KM) x.new (.slice A6 n6 c6) wv:=ZI hD 9 rfl (by kernel_rfl) rfl rfl
          exact Jo hxb.1.id hxb.1.old hxb.1.new h1 h2
         simp only [zp]
         refine Z8 #[.int .i64 x.id,.slice A5 n5 c5,.slice A6 n6 c6] 136 77 (YX (Mut M KM) [x.upd]) (fun g=>.slice (some ⟨g,0,none⟩) 1 1) rfl rfl rfl rfl (fun wv=>?_) (fun wv HC _hrm hD hro=>?_) ?_
         ·go_simp<;>rfl
         ·have hrr:=RM.alloc (Mut M KM) wv (.cells #[.int .i64 x.id,.slice A5 n5 c5,.slice A6 n6 c6] 136)
          have h0:YP (Mut M KM) x.upd (.agg #[.int .i64 x.id,.slice A5 n5 c5,.slice A6 n6 c6]) wv:=ZI hD 10 rfl (by kernel_rfl) rfl rfl
          replace h0:=Vq _ _ _ hrr h0
          exact Js (hro _ HC.Zb) (fun i j k e1=>Value.agg.inj e1) h0
         rintro g51 wg HCg hsl
         simp only [zp]
         clear hsl HCg
         refine Zk ?_
         rintro wx3 HX3
         rintro _hrm HGW
         have hb2:YX (Mut M KM) [x.upd] (.slice (some ⟨g51,0,none⟩) 1 1) wx3:=(Zo (d:=77) rfl).1 (HGW 11 _ rfl (by omega))
         clear HGW _hrm
         obtain ⟨Aq,nq,cq,pq,heq,-,-,hpm,hpok,hpr⟩:=hb2
         obtain ⟨rfl,rfl,rfl⟩:some ⟨g51,0,none⟩=Aq∧1=nq∧1=cq:=by injection heq with h1 h2 h3;exact ⟨h1,h2,h3⟩
         clear heq
         obtain ⟨pr,rfl,hpu⟩:∃ pr,pq=[pr]∧pr.upd=x.upd:=by
          obtain ⟨pr,h1,h2⟩:=List.map_eq_singleton_iff.1 hpm
          exact ⟨pr,h1,h2⟩
         rw [HKM.out] at HX3 hpr
         have HPE:=hid (show ZB outs++ZB [pr]=ZB (outs++[pr]) by simp [ZB])
         have K7:=HX3.add (hpr.imp fun w h=>(h.2:Yh [pr] w))
         have HG:=hid ((hpr.imp fun w h=>h.1).now)
         have HPU:=hid hpu
         clear HX3 hpr hpm hpok hpu HH1 HH2 HH3 HH4 HKM K6
         have F7:=K7.facts
         simp only [zg] at F7
         go_wp2_with (at_builtin;go_must (refine ZX K7 14 rfl Tryz.U7 HG.out rfl (.tmp 67) (.tmp 77) rfl rfl rfl (Jn _) (by omega) (by omega) ?_);intro G1 gc1 wB hcB hmB KE;rw [HPE.out] at KE;simp only [zl] at KE;(have FE:=KE.facts);simp only [zg] at FE)
         have KD:=KE.store 4 rfl 3 (.slice G1 (k+1) gc1)
         have KF:=(KD.ZT 15 rfl (Jp (KD.ro 15 rfl) (KD.ro 0 rfl))).drop ((((Kb _ _).cons _).cons _).cons _)
         simp only [zl] at KF
         go_roundw
         case rel=>exact ⟨j+1,k+1,gc1,G1,outs++[pr],by omega,by omega,by go_num,hid (by rw [Km,HO.out,UA HX.out,Km,KY];simp [HZ.out,HPU.out]),KF⟩
         case measure=>simp [intOf];omega
     ·obtain rfl:nu=j:=by omega
      have hcap:=ZM (H.get 10 rfl)
      have K4:=(((H.store 4 rfl 0 (.string dn)).store 4 rfl 1 (.slice none 0 0)).store 4 rfl 2 (.slice none 0 0)).store 4 rfl 3 (.slice O k cap)
      simp only [zl] at K4
      have F2:=H.facts
      simp only [zg] at F2
      have F4:=K4.facts
      simp only [zg] at F4
      have KZ:=K4.Zq 10 rfl
      simp only [zl] at KZ
      have hR:Ro _ _ (PrsIn O k outs):=((KZ.ro 10 rfl).and (KZ.ro 11 rfl)).imp fun w2 h2=>⟨h2.1,h2.2⟩
      have HR:=hid (hR.less zm)
      have HBL:=hid KZ.below
      clear KZ K4 H hR
      go_wp2_with fail
      refine Lh (v:=.agg #[.string dn,.slice none 0 0,.slice none 0 0,.slice O k cap]) ?_ rfl ?_
      ·clear HR HBL
       simp [results,Tryz.results66,go_sem,F4]
      ·exact ⟨none,0,0,[],none,0,0,[],O,k,cap,outs,rfl,by
        have h:=HO.out
        rw [Kh (by rw [HL2.out];exact Kg _)] at h
        simp [Yn,h],⟨Nat.le_refl _,by simp⟩,⟨Nat.le_refl _,by simp⟩,⟨hcap.1,hcap.2.1⟩,(fun w2 _ _=>⟨ZG 2 w2,fun _ hx=>(nomatch hx)⟩),(fun w2 _ _=>⟨ZG 2 w2,fun _ hx=>(nomatch hx)⟩),HR.out,HBL.out⟩
   ·have b2:(te==2)=false:=by simpa using e2
    have HM:=hid (show Yn te ol cl (li.map Rw.row) (ld.map Rw.row) (lu.map Pr.upd)=([],[],[]) from by unfold Yn;rw [Lf e1,Lf e3,Lf e2])
    have K4:=(((K1.store 4 rfl 0 (.string dn)).store 4 rfl 1 (.slice none 0 0)).store 4 rfl 2 (.slice none 0 0)).store 4 rfl 3 (.slice none 0 0)
    simp only [zl] at K4
    have F4:=K4.facts
    simp only [zg] at F4
    have HBL:=hid K4.below
    clear K4 K1 e1 e2 e3
    go_wp2_with fail
    refine Lh (v:=.agg #[.string dn,.slice none 0 0,.slice none 0 0,.slice none 0 0]) ?_ rfl ?_
    ·clear HBL
     simp [results,Tryz.results66,go_sem,F4]
    ·exact ⟨none,0,0,[],none,0,0,[],none,0,0,[],rfl,by rw [HM.out];rfl,⟨Nat.le_refl _,by simp⟩,⟨Nat.le_refl _,by simp⟩,⟨Nat.le_refl _,by simp⟩,(fun w2 _ _=>⟨ZG 2 w2,fun _ hx=>(nomatch hx)⟩),(fun w2 _ _=>⟨ZG 2 w2,fun _ hx=>(nomatch hx)⟩),(fun w2 _ _=>⟨ZG 3 w2,fun _ hx=>(nomatch hx)⟩),HBL.out⟩
theorem Zj9 (w:World) (t:Tg) (snm:ByteArray) (cA:Option Addr) (cn cc:Nat) (xA:Option Addr) (xn xc:Nat) (yA:Option Addr) (yn yc:Nat) (h:t.each=false):Calls Tryz.prog 105 #[t.val,.agg #[.string snm,.slice cA cn cc],.slice xA xn xc,.slice yA yn yc] w fun e w' =>e=.returned (.slice none 0 0)∧Below w.heap.size w w' :=by
 obtain ⟨tn,tt,tb,te,⟨oA,on,oc,ol⟩,tch,⟨pA,pn,pc,pl⟩,⟨qA,qn,qc,ql⟩,⟨rA,rn,rc,rl⟩,⟨kA,kn,kc,kl⟩,⟨aA,an,ac,al⟩⟩:=t
 obtain rfl:tch=false:=h
 have K0:=((Hold.start Zc w zn).Za #[.string tn,.string tt,.bool tb,.int .i64 te,.slice oA on oc,.bool false,.slice pA pn pc,.slice qA qn qc,.slice rA rn rc,.slice kA kn kc,.slice aA an ac] 48).Za #[.string snm,.slice cA cn cc] 66
 have F0:=K0.facts
 simp only [zg] at F0
 rw [KP] at K0
 simp only [Tg.val]
 go_enter Tryz.func105,Tryz.ntmps105
 have HB:=hid K0.below
 clear K0
 go_wp2_with fail
 go_ret
 exact ⟨rfl,HB.out⟩
theorem Zkp {l outs:List Rw} {j K:Nat} {x:Rw} {A:Option Addr} {n c:Nat} (h:outs.map Rw.row=(l.take j).map Rw.row∧∀ r∈outs,r.ok∧r.n≤K) (hx:l[j]? =some x) (hk:(I64 x.id∧∀ v∈x.vs,v.ok)∧x.n≤K) (h1:n≤c) (h2:c≤9223372036854775807) (h3:n≤K):
  (outs++[(⟨x.id,A,n,c,x.vs⟩:Rw)]).map Rw.row=(l.take (j+1)).map Rw.row∧∀ r∈outs++[(⟨x.id,A,n,c,x.vs⟩:Rw)],r.ok∧r.n≤K:=by
 constructor
 ·rw [Km,h.1,Kq,hx,Km];rfl
 ·intro r hr
  rcases Kk.1 hr with hr|hr
  ·exact h.2 r hr
  ·simp at hr;subst hr;exact ⟨⟨hk.1.1,h1,h2,hk.1.2⟩,h3⟩
theorem ZjT (M:Nat→Prop) (w:World) (hM:∀ b,M b→b<w.heap.size) (A:Option Addr) (n c K:Nat) (l:List Rw) (hE:Ro w M (RwsIn A n l)) (hn:n≤1000000) (hK:K≤4398046511104) (hrn:∀ r∈l,(I64 r.id∧∀ v∈r.vs,v.ok)∧r.n≤K):
  Calls Tryz.prog 100 #[.slice A n c] w fun e w' =>Zam w M K (l.map Rw.row) e w' :=by
 have HRL:=hid hE.now.len
 have HRN:=hid hrn
 have HKK:=hid hK
 clear hrn hK
 have KD:=(((Hold.start M w hM).add (hE.less (by simp [Mut]))).add (Vu _ _)).nil 72 2
 clear hE
 go_enter Tryz.func100,Tryz.ntmps100
 go_wp2_with fail
 go_loopw [3,8] (fun ov iv wr=>∃ (j cap:Nat) (O:Option Addr) (outs:List Rw),j≤n∧iv=.int .i64 j∧ov=.slice O j cap∧Hid (outs.map Rw.row=(l.take j).map Rw.row∧∀ r∈outs,r.ok∧r.n≤K)∧Hold M none w wr [.own 72 2 (.slice O j cap) j (Zp outs),.ro (Yl outs),.ro (RwsIn A n l)]) (fun _ iv _=>n - (intOf iv).toNat)
 case atStart=>exact ⟨0,0,none,[],by omega,rfl,rfl,hid ⟨rfl,fun r hr=>nomatch hr⟩,KD⟩
 case round=>
  clear KD
  obtain ⟨j,cap,O,outs,hj,rfl,rfl,HW,H⟩:=hrel
  by_cases hlt:j<n
  ·have hd:decide ((j:Int)<(n:Int))=true:=by simp;omega
   have j0:(0:Int)≤(j:Int):=by omega
   have j1:(j:Int)<(n:Int):=by omega
   obtain ⟨x,hx⟩:=Zl HRL.out hlt
   obtain ⟨b,o,rfl,hb,c0,c1,hxv⟩:=(H.ro 2 rfl).now.at_ hx
   have HXO:=hid (HRN.out x (Ka hx))
   have hxn:x.n≤4398046511104:=KI HXO.out.2 HKK.out
   have HXL:=hid (show x.vs.length=x.n from hxv.len)
   have HXG:=hid hx
   have hxr:Ro wr _ (VlsIn x.A x.n x.vs):=(H.ro 2 rfl).imp fun w2 h2=>h2.2 x (Ka hx)
   clear hx hxv
   have K1:=(H.add hxr).Za #[.int .i64 x.id,.slice x.A x.n x.c] 72
   clear H hxr
   obtain ⟨gr,hgr⟩:∃ gr,gr=wr.heap.size:=⟨_,rfl⟩
   rw [←hgr] at K1
   have F1:=K1.facts
   simp only [zg] at F1
   go_wp2_with fail
   rw [←hgr]
   have HGR:=hid hgr
   clear hgr c0 c1 F1
   obtain ⟨KL,hKL,KN⟩:=K1.name
   have HF:Hid (∀ wv,Hold M none w wv KL→wv.cell? ⟨gr,0,none⟩=some (.int .i64 x.id)∧wv.cell? ⟨gr,1,none⟩=some (.slice x.A x.n x.c)∧gr<wv.heap.size):=hid fun wv HC=>by
    rw [hKL] at HC
    have y0:=HC.Zg 0 rfl
    exact ⟨Li _ _ 0 _ _ _ y0,Li _ _ 1 _ _ _ y0,Blk.lt y0⟩
   have HRX:Hid (∀ wv,Hold M none w wv KL→Ro wv (Mut M KL) (VlsIn x.A x.n x.vs)):=hid fun wv HC=>by
    rw [hKL] at HC ⊢
    exact HC.ro 1 rfl
   have HKL:=hid hKL
   clear hKL K1
   go_wp2_with fail
   refine Lj (by kernel_rfl) ?_
   refine Zn 8 23 (KL) (spL [(17,Zx (Mut M KL) x.vs),(18,Z0 (Mut M KL) x.id x.vs),(19,ZZ (Mut M KL) x.id x.vs)]) (by kernel_rfl) (by kernel_rfl) (by kernel_rfl) rfl ?_ (KN.drew) ?_
   ·exact Zd XG (Zd WX (Zd WV (Zm _)))
   simp only [zd,zp,List.getElem_toArray,List.getElem_cons_zero,List.getElem_cons_succ]
   iterate 2
    refine' dv rfl rfl rfl (fun wv HC=>?_) ?_;rotate_left
    · go_simp<;>rfl
    simp only [zp]
   refine' dv rfl rfl rfl (fun wv HC=>?_) ?_;rotate_left
   ·obtain ⟨f0,f1,f2⟩:=HF.out _ HC;go_simp<;>rfl
   simp only [zp]
   refine' dv rfl rfl rfl (fun wv HC=>?_) ?_;rotate_left
   · go_simp<;>rfl
   simp only [zp]
   refine' dv rfl rfl rfl (fun wv HC=>?_) ?_;rotate_left
   ·obtain ⟨f0,f1,f2⟩:=HF.out _ HC;go_simp<;>rfl
   simp only [zp]
   refine Zi 17 (Zx (Mut M KL) x.vs) (f:=51) (args:=#[.slice x.A x.n x.c]) rfl rfl rfl rfl (fun wv=>?_) (fun wv HC hrm hD=>?_) ?_
   ·go_simp<;>rfl
   ·refine (Xe _ wv HC.Zb x.A x.n x.c x.vs (HRX.out _ HC) hxn).mono ?_
    rintro e w5 ⟨A5,n5,c5,rfl,h50,h51,h52,h53,b5⟩
    exact ⟨_,rfl,⟨A5,n5,c5,rfl,h50,h51,h52,h53⟩,HC.call b5,RM.below b5⟩
   rintro x_ wx HCx ⟨A5,n5,c5,rfl,h50,h51,h52,h53⟩
   simp only [zp]
   have H50:=hid h50
   clear HCx h53 h50
   refine YI 18 (Z0 (Mut M KL) x.id x.vs) rfl rfl rfl rfl (.agg #[.int .i64 x.id,.slice A5 n5 c5]) (fun wv HC=>?_) (fun wv HC hD=>?_) ?_
   ·go_simp<;>rfl
   ·have hsl:Zx (Mut M KL) x.vs (.slice A5 n5 c5) wv:=ZI hD 5 rfl (by kernel_rfl) rfl rfl
    obtain ⟨A6,n6,c6,e6,h1,h2,h3,h4⟩:=hsl
    exact ⟨A6,n6,c6,by rw [e6],h1,h2,h3,h4⟩
   simp only [zp]
   refine Z8 #[.int .i64 x.id,.slice A5 n5 c5] 72 19 (ZZ (Mut M KL) x.id x.vs) (fun g=>.slice (some ⟨g,0,none⟩) 1 1) rfl rfl rfl rfl (fun wv=>?_) (fun wv HC _hrm hD hro=>?_) ?_
   ·go_simp<;>rfl
   ·have hsl:Z0 (Mut M KL) x.id x.vs (.agg #[.int .i64 x.id,.slice A5 n5 c5]) wv:=ZI hD 6 rfl (by kernel_rfl) rfl rfl
    obtain ⟨A6,n6,c6,e6,h1,h2,h3,h4⟩:=hsl
    obtain ⟨rfl,rfl,rfl⟩:A5=A6∧n5=n6∧c5=c6:=by
     injection e6 with e6
     simp at e6
     exact e6
    exact ⟨_,A5,n5,c5,rfl,h1,h2,h3,h4.step (by simp) (fun b hb _=>Below.heap_alloc wv _ b hb) (fun _ _ h=>h),ZO (hro _ HC.Zb) rfl⟩
   rintro g2 wg HCg hsl
   simp only [zp]
   clear hsl HCg
   refine Zk ?_
   rintro wx2 HX
   rintro _hrm HGW
   have hb2:ZZ (Mut M KL) x.id x.vs (.slice (some ⟨g2,0,none⟩) 1 1) wx2:=(Zo (d:=19) rfl).1 (HGW 7 _ rfl (by omega))
   clear HGW _hrm
   obtain ⟨g3,A6,n6,c6,e6,k0_,k1_,k2_,k3_,k4_⟩:=hb2
   obtain rfl:g2=g3:=by injection e6 with e6;injection e6 with e6;injection e6
   clear e6
   rw [HKL.out] at HX k3_
   have k5:=hid k4_.now
   have HK0:=hid k0_
   clear k4_ k0_ HF HRX KN
   have HRS:=hid (show Zp outs++[.int .i64 x.id,.slice A6 n6 c6]=Zp (outs++[⟨x.id,A6,n6,c6,x.vs⟩]) from Wy _ _ _ _ _ _)
   have KA:=HX.add k3_
   clear HX k3_
   have FKA:=KA.facts
   simp only [zg] at FKA
   go_wp2_with (at_builtin;go_must (refine ZX KA 3 rfl Tryz.Xy k5.out rfl (.tmp 12) (.tmp 19) rfl rfl rfl (by intro z hz;simp at hz;rcases hz with rfl|rfl<;>rfl) (by omega) (by omega) ?_);intro C' cap' w6 hc6 hm6 KB;rw [HRS.out] at KB;simp only [zl] at KB;(have F3:=KB.facts);simp only [zg] at F3)
   have KE:=(KB.ZT 4 rfl (XF (r:=⟨x.id,A6,n6,c6,x.vs⟩) (KB.ro 4 rfl) (KB.ro 0 rfl))).drop (Ke _ (Ke _ (Kb _ _)))
   have HW2:=hid (Zkp (A:=A6) HW.out HXG.out HXO.out k1_ k2_ (by rw [HK0.out,HXL.out];exact HXO.out.2))
   go_roundw
   case rel=>exact ⟨j+1,cap',C',_,by omega,by go_num,by first|rfl|trivial,HW2,KE⟩
   case measure=>simp [intOf];omega
  ·obtain rfl:n=j:=by omega
   have hd:decide ((n:Int)<(n:Int))=false:=by simp
   have hcap:=ZM (H.get 0 rfl)
   have KS:=H.Zq 0 rfl
   simp only [List.set_cons_zero] at KS
   have r1:=(KS.ZN 0 rfl).and (KS.ZN 1 rfl)
   have HW2:=hid (show outs.map Rw.row=l.map Rw.row by have h:=HW.out.1;rwa [Kh (by rw [HRL.out];exact Kg _)] at h)
   go_wp2_with fail
   go_ret
   exact ⟨O,n,cap,outs,rfl,hcap.1,hcap.2.1,HW2.out,HW.out.2,r1,KS.below⟩
def TnR (w:World) (M:Nat→Prop) (e:Ending) (w' :World):Prop:=∃ x:Te,e=.returned x.val∧Ro w' M (YA x)∧Below w.heap.size w w'
theorem ZcT (M:Nat→Prop) (w:World) (hM:∀ b,M b→b<w.heap.size) (name snm:ByteArray) (cA:Option Addr) (cn cc:Nat) (cl:List Col) (B:Option Addr) (m d:Nat) (rs:List Rw) (hs:Ro w M (ColsIn cA cn cl)) (hr:Ro w M (RwsIn B m rs)) (hn:cn≤1000) (hm:m≤1000) (hok:∀ r∈rs,(I64 r.id∧∀ v∈r.vs,v.ok)∧r.n≤1000):Calls Tryz.prog 143 #[.string name,.agg #[.string snm,.slice cA cn cc],.slice B m d] w fun e w' =>TnR w M e w' :=by
 have HLN:=hid (show cl.length=cn from (RdC.ZW (show SlR 4 cA cn (Zf cl) w from hs.now)).len)
 have HRL:=hid (show rs.length=m from hr.now.len)
 have HOK:=hid hok
 have K0:=((((Hold.start M w hM).add (hr.less (by simp [Mut]))).add (hs.less (by simp [ZL,Mut,Hp.foot]))).Za #[.string snm,.slice cA cn cc] 66).alloc #[.string ⟨#[]⟩,.slice none 0 0,.int .i64 0,.slice none 0 0] 69
 obtain ⟨gs,hgs⟩:∃ g,g=w.heap.size:=⟨_,rfl⟩
 rw [KP,←hgs] at K0
 obtain ⟨gr,hgr⟩:∃ g,g=gs+1:=⟨_,rfl⟩
 rw [←hgr] at K0
 clear hs hr hok
 go_enter Tryz.func143,Tryz.ntmps143
 go_wp2_with fail
 rw [←hgs]
 try rw [←hgr]
 have HG:=hid (KJ hgs hgr)
 clear hgs hgr
 refine (ZjT (Mut M _) _ K0.Zb B m d 1000 rs (K0.ro 3 rfl) (by omega) (by omega) HOK.out).mono ?_
 rintro e w1 ⟨C,q,cap0,k,rfl,hc0,hc1,hk,hko,rC,b1⟩
 have hq:q=m:=by
  have h1:=rC.now.len
  have h2:=congrArg List.length hk
  simp only [List.length_map] at h2
  have h3:=HRL.out
  omega
 subst hq
 have HKL:=hid (show k.length=q from rC.now.len)
 have K2:=(((K0.call b1).add rC).alloc #[.string name,.slice none 0 0,.int .i64 1,.slice C q cap0] 69).nil 124 4
 obtain ⟨gt,hgt⟩:∃ g,g=w1.heap.size:=⟨_,rfl⟩
 rw [←hgt] at K2
 have K3:Hold M none w _ [.own 124 4 (.slice none 0 0) 0 [],.blk gt 69 #[.string name,.slice none 0 0,.int .i64 1,.slice C q cap0],.ro (ColsIn cA cn cl),.cst gs 66 #[.string snm,.slice cA cn cc],.blk gr 69 #[.string ⟨#[]⟩,.slice none 0 0,.int .i64 0,.slice none 0 0],.ro (RwsIn C q k),.ro (RwsIn B q rs)]:=K2.pick [0,1,5,4,3,2,6] (by decide) rfl
 have F2:=K3.facts
 simp only [zg] at F2
 rw [hgt] at F2
 clear K0 K2 b1 rC hc0 hc1 hk hko
 go_wp2_with fail
 try rw [←hgt]
 have HGT:=hid hgt
 clear hgt F2
 go_loopw [18] (fun iv wr=>∃ (j cap:Nat) (O:Option Addr) (outs:List Col),j≤cn∧iv=.int .i64 j∧Hold M none w wr [.own 124 4 (.slice O j cap) j (Zf outs),.blk gt 69 #[.string name,.slice O j cap,.int .i64 1,.slice C q cap0],.ro (ColsIn cA cn cl),.cst gs 66 #[.string snm,.slice cA cn cc],.blk gr 69 #[.string ⟨#[]⟩,.slice none 0 0,.int .i64 0,.slice none 0 0],.ro (RwsIn C q k),.ro (RwsIn B q rs)]) (fun iv _=>cn - (intOf iv).toNat)
 case atStart=>exact ⟨0,0,none,[],by omega,rfl,K3⟩
 case round=>
  clear K3
  obtain ⟨j,cap,O,outs,hj,rfl,H⟩:=hrel
  by_cases hlt:j<cn
  ·obtain ⟨⟨xnm,xty,xnn,xkey⟩,hc⟩:=X4 HLN.out hlt
   obtain ⟨b2',o2',rfl,hb2,x0,x1,x2,x3⟩:=(RdC.ZW (show SlR 4 cA cn (Zf cl) _ from (H.ro 2 rfl).now)).at_ hc
   simp only at x0 x1 x2 x3
   clear hc
   have K2:=H.Za #[.string xnm,.int .i64 xty,.bool xnn,.bool xkey] 124
   have F2:=K2.facts
   simp only [zg] at F2
   clear H
   go_wp2_with (at_builtin;go_must (refine ZJ K2 1 rfl Tryz.U6 #[.string xnm,.int .i64 xty,.bool false,.bool false] rfl (.tmp 24) (.tmp 30) rfl rfl _ (by first|rfl|simp) rfl rfl (by intro u hu;simp at hu;rcases hu with rfl|rfl|rfl|rfl<;>rfl) (by omega) (by omega) ?_);intro gA capA wA hcA hmA KA;rw [ZfD outs xnm xty] at KA;simp only [zl] at KA;have FA:=KA.facts;simp only [zg] at FA)
   have KB:=KA.store 2 rfl 1 (.slice (some ⟨gA,0,none⟩) (j+1) capA)
   simp only [zl] at KB
   go_roundw
   case rel=>exact ⟨j+1,capA,_,outs++[⟨xnm,xty,false,false⟩],by omega,by go_num,KB.pick [1,2,3,4,5,6,7] (by decide) rfl⟩
   case measure=>simp [intOf];omega
  ·obtain rfl:cn=j:=by omega
   have hcap:=ZM (H.get 0 rfl)
   have HCAP:=hid (KJ hcap.1 hcap.2.1)
   clear hcap
   by_cases h0:q=0
   ·subst h0
    have F:=H.facts
    simp only [zg] at F
    have K6:=(((H.store 4 rfl 0 (.string name)).store 4 rfl 1 (.slice O cn cap)).store 4 rfl 2 (.int .i64 1)).store 4 rfl 3 (.slice C 0 cap0)
    simp only [zl] at K6
    have F6:=K6.facts
    simp only [zg] at F6
    have KZ:=K6.Zq 0 rfl
    simp only [List.set_cons_zero] at KZ
    have hR:Ro _ _ (YA ⟨name,O,cn,cap,outs,1,C,0,cap0,k⟩):=((KZ.ro 0 rfl).and (KZ.ro 5 rfl)).imp fun w2 h2=>⟨h2.1,h2.2⟩
    have HR:=hid (hR.less zm)
    have HB:=hid KZ.below
    clear KZ hR K6 H
    go_wp2_with fail
    refine Lh (v:=.agg #[.string name,.slice O cn cap,.int .i64 1,.slice C 0 cap0]) ?_ rfl ?_
    ·clear HR HB
     simp [results,Tryz.results143,go_sem,F6]
    ·exact ⟨⟨name,O,cn,cap,outs,1,C,0,cap0,k⟩,rfl,HR.out,HB.out⟩
   ·have hq1:decide ((q:Int) > 0)=true:=by simp;omega
    have hq2:decide (0<q)=true:=by simp;omega
    have hw1:IntKind.i64.wrap ((q:Int) - 1)=((q - 1:Nat):Int):=by rw [show (q:Int) - 1=((q - 1:Nat):Int) by omega];exact IntWalk.i64_in _ (by omega)
    obtain ⟨r,hr⟩:=Zl HRL.out (show q - 1<q by omega)
    obtain ⟨rb,ro,rfl,hrb,c0,c1,-⟩:=(H.ro 6 rfl).now.at_ hr
    have i0:(0:Int)≤((q - 1:Nat):Int):=by omega
    have i1:((q - 1:Nat):Int)<(q:Int):=by omega
    clear hr
    obtain ⟨q1,hq3⟩:∃ q1,q1=q - 1:=⟨_,rfl⟩
    rw [←hq3] at hw1 i0 i1 c0 c1
    clear hq3
    obtain ⟨nx,hnx⟩:∃ z:Int,IntKind.i64.wrap (r.id+1)=z:=⟨_,rfl⟩
    have F:=H.facts
    simp only [zg] at F
    have K5:=H.store 1 rfl 2 (.int .i64 nx)
    simp only [zl] at K5
    have F5:=K5.facts
    simp only [zg] at F5
    have K6:=(((K5.store 4 rfl 0 (.string name)).store 4 rfl 1 (.slice O cn cap)).store 4 rfl 2 (.int .i64 nx)).store 4 rfl 3 (.slice C q cap0)
    simp only [zl] at K6
    have F6:=K6.facts
    simp only [zg] at F6
    have KZ:=K6.Zq 0 rfl
    simp only [List.set_cons_zero] at KZ
    have hR:Ro _ _ (YA ⟨name,O,cn,cap,outs,nx,C,q,cap0,k⟩):=((KZ.ro 0 rfl).and (KZ.ro 5 rfl)).imp fun w2 h2=>⟨h2.1,h2.2⟩
    have HR:=hid (hR.less zm)
    have HB:=hid KZ.below
    clear KZ hR K6 K5 H
    go_wp2_with fail
    refine Lh (v:=.agg #[.string name,.slice O cn cap,.int .i64 nx,.slice C q cap0]) ?_ rfl ?_
    ·clear HR HB
     simp [results,Tryz.results143,go_sem,F6]
    ·exact ⟨⟨name,O,cn,cap,outs,nx,C,q,cap0,k⟩,rfl,HR.out,HB.out⟩
def Zex (w:World) (M:Nat→Prop) (e:Ending) (w' :World):Prop:=∃ (A:Option Addr) (c:Nat) (l:List Te),e=.returned (.slice A 2 c)∧Ro w' M (TesIn A 2 l)∧Below w.heap.size w w'
def Vd (M:Nat→Prop) (u:Value) (w:World):Prop:=∃ x:Te,u=x.val∧Ro w M (YA x)
theorem Zdu {M:Nat→Prop} (u:Value) (w w' :World) (hr:RM M w w') (h:Vd M u w):Vd M u w' :=by
 obtain ⟨y,h1,h3⟩:=h
 exact ⟨y,h1,hr.ro h3⟩
theorem ZkM (M:Nat→Prop) (w:World) (hM:∀ b,M b→b<w.heap.size) (t:Tg) (snm:ByteArray) (cA:Option Addr) (cn cc:Nat) (cl:List Col) (dn:ByteArray) (I:Option Addr) (ni ci:Nat) (D:Option Addr) (nd cd:Nat) (U:Option Addr) (nu cu:Nat) (ps:List Pr) (hs:Ro w M (ColsIn cA cn cl)) (hp:Ro w M (PrsIn U nu ps)) (hn:cn≤1000) (hnu:nu≤1000) (hok:∀ p∈ps,I64 p.id∧(∀ v∈p.old,v.ok)∧(∀ v∈p.new,v.ok)∧p.on≤1000∧p.nn≤1000) (ht:t.before=false∧t.each=false∧t.event=2):Calls Tryz.prog 106 #[t.val,.agg #[.string snm,.slice cA cn cc],.agg #[.string dn,.slice I ni ci,.slice D nd cd,.slice U nu cu]] w fun e w' =>Zex w M e w' :=by
 obtain ⟨tn,tt,tb,te,⟨oA,on,oc,ol⟩,tch,⟨pA,pn,pc,pl⟩,⟨qA,qn,qc,ql⟩,⟨rA,rn,rc,rl⟩,⟨kA,kn,kc,kl⟩,⟨aA,an,ac,al⟩⟩:=t
 obtain ⟨rfl,rfl,rfl⟩:tb=false∧tch=false∧te=2:=ht
 have HPL:=hid (show ps.length=nu from hp.now.len)
 have HOK:=hid hok
 have K0:=(((((Hold.start M w hM).add (hs.less (by simp [Mut]))).add (hp.less (by simp [Mut,Hp.foot]))).Za #[.string tn,.string tt,.bool false,.int .i64 2,.slice oA on oc,.bool false,.slice pA pn pc,.slice qA qn qc,.slice rA rn rc,.slice kA kn kc,.slice aA an ac] 48).Za #[.string snm,.slice cA cn cc] 66).Za #[.string dn,.slice I ni ci,.slice D nd cd,.slice U nu cu] 103
 simp only [World.size_alloc] at K0
 obtain ⟨gt,hgt⟩:∃ g,g=w.heap.size:=⟨_,rfl⟩
 obtain ⟨gs,hgs⟩:∃ g,g=gt+1:=⟨_,rfl⟩
 obtain ⟨gd,hgd⟩:∃ g,g=gs+1:=⟨_,rfl⟩
 rw [←hgt,←hgs,←hgd] at K0
 clear hs hp hok
 simp only [Tg.val]
 go_enter Tryz.func106,Tryz.ntmps106
 go_upto_region 1 with fail
 rw [←hgt,←hgs,←hgd]
 clear hgt hgs hgd
 generalize World.alloc _ _=w1 at K0 ⊢
 have K1:=(((K0.add (show Ro _ _ (Yl []) from fun _ _ _ r hr=>nomatch hr)).add (show Ro _ _ (Yl []) from fun _ _ _ r hr=>nomatch hr)).nil 72 2).nil 72 2
 have F1:=K1.facts
 simp only [zg] at F1
 clear K0
 go_wp2_with fail
 clear F1
 go_loopw [7,8,20] (fun ov nv iv wr=>∃ (j c1 c2:Nat) (O N:Option Addr) (lo ln:List Rw),j≤nu∧iv=.int .i64 j∧ov=.slice O j c1∧nv=.slice N j c2∧Hid ((∀ r∈lo,(I64 r.id∧∀ v∈r.vs,v.ok)∧r.n≤1000)∧∀ r∈ln,(I64 r.id∧∀ v∈r.vs,v.ok)∧r.n≤1000)∧Hold M none w wr [.own 72 2 (.slice O j c1) j (Zp lo),.own 72 2 (.slice N j c2) j (Zp ln),.ro (Yl lo),.ro (Yl ln),.cst gd 103 #[.string dn,.slice I ni ci,.slice D nd cd,.slice U nu cu],.cst gs 66 #[.string snm,.slice cA cn cc],.cst gt 48 #[.string tn,.string tt,.bool false,.int .i64 2,.slice oA on oc,.bool false,.slice pA pn pc,.slice qA qn qc,.slice rA rn rc,.slice kA kn kc,.slice aA an ac],.ro (PrsIn U nu ps),.ro (ColsIn cA cn cl)]) (fun _ _ iv _=>nu - (intOf iv).toNat)
 case atStart=>exact ⟨0,0,0,none,none,[],[],by omega,rfl,rfl,rfl,hid ⟨fun r hr=>(nomatch hr),fun r hr=>(nomatch hr)⟩,K1⟩
 case round=>
  clear K1
  obtain ⟨j,c1,c2,O,N,lo,ln,hj,rfl,rfl,rfl,HO,H⟩:=hrel
  by_cases hlt:j<nu
  ·obtain ⟨⟨pid,xA,xn,xc,xvs,yA,yn,yc,yvs⟩,hx⟩:=Zl HPL.out hlt
   obtain ⟨ub,uo,rfl,hub,d0,d1,d2,hvs⟩:=(H.ro 7 rfl).now.at_ hx
   have hm_:=Ka hx
   have HPK:=hid (HOK.out _ hm_)
   simp only at d0 d1 d2
   have H2:=H.Za #[.int .i64 pid,.slice xA xn xc,.slice yA yn yc] 136
   have H3:=H2.add (S:=VlsIn xA xn xvs) ((H2.ro 8 rfl).imp fun w2 h2=>(h2.2 _ hm_).1)
   have K2:=H3.add (S:=VlsIn yA yn yvs) ((H3.ro 9 rfl).imp fun w2 h2=>(h2.2 _ hm_).2)
   have F2:=K2.facts
   simp only [zg] at F2
   clear H H2 H3 hx hvs hm_
   go_wp2_with (at_builtin;first
    | (go_must (refine ZJ K2 3 rfl Tryz.Xy #[.int .i64 pid,.slice xA xn xc] rfl (.tmp 24) (.tmp 30) rfl rfl _ (by first|rfl|simp) rfl rfl (by intro u hu;simp at hu;rcases hu with rfl|rfl<;>rfl) (by omega) (by omega) ?_);intro g1 cp1 wA hcA hmA KA;rw [show Zp lo++(#[.int .i64 pid,.slice xA xn xc]:Array Value).toList=Zp (lo++[⟨pid,xA,xn,xc,xvs⟩]) by simp [Zp,Rw.cells]] at KA;simp only [zl] at KA;(have FA:=KA.facts);simp only [zg] at FA;go_wp2_with (at_builtin;go_must (refine ZJ KA 4 rfl Tryz.Xy #[.int .i64 pid,.slice yA yn yc] rfl (.tmp 32) (.tmp 38) rfl rfl _ (by first|rfl|simp) rfl rfl (by intro u hu;simp at hu;rcases hu with rfl|rfl<;>rfl) (by omega) (by omega) ?_);intro g2 cp2 wB hcB hmB KB;rw [show Zp ln++(#[.int .i64 pid,.slice yA yn yc]:Array Value).toList=Zp (ln++[⟨pid,yA,yn,yc,yvs⟩]) by simp [Zp,Rw.cells]] at KB;simp only [zl] at KB)))
   have KX:=KB.ZT 5 rfl (XF (r:=⟨pid,xA,xn,xc,xvs⟩) (KB.ro 5 rfl) (KB.ro 1 rfl))
   have KC:=(KX.ZT 6 rfl (XF (r:=⟨pid,yA,yn,yc,yvs⟩) (KX.ro 6 rfl) (KX.ro 0 rfl))).drop (((Kb _ _).cons _).cons _)
   go_roundw
   case rel=>exact ⟨j+1,cp1,cp2,_,_,_,_,by omega,by go_num,by first|rfl|trivial,by first|rfl|trivial,hid ⟨fun r hr=>by
    rcases Kk.1 hr with hr|hr
    ·exact HO.out.1 r hr
    ·simp only [List.mem_cons,List.not_mem_nil,or_false] at hr
     subst hr
     exact ⟨⟨HPK.out.1,HPK.out.2.1⟩,HPK.out.2.2.2.1⟩,fun r hr=>by
    rcases Kk.1 hr with hr|hr
    ·exact HO.out.2 r hr
    ·simp only [List.mem_cons,List.not_mem_nil,or_false] at hr
     subst hr
     exact ⟨⟨HPK.out.1,HPK.out.2.2.1⟩,HPK.out.2.2.2.2⟩⟩,KC⟩
   case measure=>simp [intOf];omega
  ·obtain rfl:nu=j:=by omega
   have KS:=(H.Zq 0 rfl).Zq 1 rfl
   try simp only [zl] at KS
   have KT:=(KS.add (S:=RwsIn O nu lo) (((KS.ro 0 rfl).and (KS.ro 2 rfl)).imp fun w2 h2=>⟨h2.1,h2.2⟩))
   have KU:Hold M none w _ [.ro (RwsIn N nu ln),.ro (RwsIn O nu lo),.cst gd 103 #[.string dn,.slice I ni ci,.slice D nd cd,.slice U nu cu],.cst gs 66 #[.string snm,.slice cA cn cc],.cst gt 48 #[.string tn,.string tt,.bool false,.int .i64 2,.slice oA on oc,.bool false,.slice pA pn pc,.slice qA qn qc,.slice rA rn rc,.slice kA kn kc,.slice aA an ac],.ro (PrsIn U nu ps),.ro (ColsIn cA cn cl)]:=(KT.add (S:=RwsIn N nu ln) (((KT.ro 2 rfl).and (KT.ro 4 rfl)).imp fun w2 h2=>⟨h2.1,h2.2⟩)).pick [0,1,6,7,8,9,10] (by decide) rfl
   clear H KS KT
   have F2:=KU.facts
   simp only [zg] at F2
   go_wp2_with fail
   obtain ⟨KL,hKL,KN⟩:=KU.name
   have HF:Hid (∀ wv,Hold M none w wv KL→Blk wv gs 66 #[.string snm,.slice cA cn cc]∧Ro wv (Mut M KL) (RwsIn O nu lo)∧Ro wv (Mut M KL) (RwsIn N nu ln)∧Ro wv (Mut M KL) (ColsIn cA cn cl)):=hid fun wv HC=>by
    rw [hKL] at HC ⊢
    exact ⟨HC.Zg 3 rfl,HC.ro 1 rfl,HC.ro 0 rfl,HC.ro 6 rfl⟩
   have HKL:=hid hKL
   clear hKL KU F2
   refine Lj (by kernel_rfl) ?_
   refine Zn 6 66 (KL) (spL [(61,Vd (Mut M KL)),(64,Vd (Mut M KL))]) (by kernel_rfl) (by kernel_rfl) (by kernel_rfl) rfl ?_ (KN.drew) ?_
   ·exact Zd Zdu (Zd Zdu (Zm _))
   simp only [zd,zp,List.getElem_toArray,List.getElem_cons_zero,List.getElem_cons_succ]
   repeat (refine' dv rfl rfl rfl (fun wv HC=>?_) ?_;rotate_left;(focus (have q0:=(HF.out _ HC).1.cell 0;have q1:=(HF.out _ HC).1.cell 1;go_simp<;>rfl;done));simp only [zp])
   refine Zi 61 (Vd (Mut M KL)) (f:=143) (args:=#[.string ⟨#[68,69,76,69,84,69,68]⟩,.agg #[.string snm,.slice cA cn cc],.slice O nu c1]) rfl rfl rfl rfl (fun wv=>?_) (fun wv HC hrm hD=>?_) ?_
   ·go_simp<;>rfl
   ·refine (ZcT (Mut M KL) wv HC.Zb ⟨#[68,69,76,69,84,69,68]⟩ snm cA cn cc cl O nu c1 lo (HF.out _ HC).2.2.2 (HF.out _ HC).2.1 hn hnu HO.out.1).mono ?_
    rintro e w5 ⟨x,rfl,rx,b5⟩
    exact ⟨_,rfl,⟨x,rfl,rx⟩,HC.call b5,RM.below b5⟩
   rintro u wx HCx ⟨x,rfl,rx⟩
   clear HCx rx
   simp only [zp]
   repeat (refine' dv rfl rfl rfl (fun wv HC=>?_) ?_;rotate_left;(focus (have q0:=(HF.out _ HC).1.cell 0;have q1:=(HF.out _ HC).1.cell 1;go_simp<;>rfl;done));simp only [zp])
   refine Zi 64 (Vd (Mut M KL)) (f:=143) (args:=#[.string ⟨#[73,78,83,69,82,84,69,68]⟩,.agg #[.string snm,.slice cA cn cc],.slice N nu c2]) rfl rfl rfl rfl (fun wv=>?_) (fun wv HC hrm hD=>?_) ?_
   ·go_simp<;>rfl
   ·refine (ZcT (Mut M KL) wv HC.Zb ⟨#[73,78,83,69,82,84,69,68]⟩ snm cA cn cc cl N nu c2 ln (HF.out _ HC).2.2.2 (HF.out _ HC).2.2.1 hn hnu HO.out.2).mono ?_
    rintro e w5 ⟨x,rfl,rx,b5⟩
    exact ⟨_,rfl,⟨x,rfl,rx⟩,HC.call b5,RM.below b5⟩
   rintro u wx HCx ⟨y,rfl,rx⟩
   clear HCx rx
   simp only [zp]
   refine Zk ?_
   rintro wx2 HX
   rintro _hrm HG
   have hu:Vd (Mut M KL) x.val wx2:=(Zo (d:=61) rfl).1 (HG 2 _ rfl (by omega))
   have hu2:Vd (Mut M KL) y.val wx2:=(Zo (d:=64) rfl).1 (HG 5 _ rfl (by omega))
   clear HG _hrm
   obtain ⟨x1,hy1,hro1⟩:=hu
   obtain ⟨x2,hy2,hro2⟩:=hu2
   rw [HKL.out] at HX hro1 hro2
   rw [hy1,hy2]
   clear hy1 hy2 x y HF HKL KN
   have K5:=(((HX.add hro1).add (hro2.less (by intro b hb;simpa [ZL,Hp.foot] using hb)))).Za #[.string x1.nm,.slice x1.A x1.n x1.c,.int .i64 x1.nx,.slice x1.B x1.m x1.d,.string x2.nm,.slice x2.A x2.n x2.c,.int .i64 x2.nx,.slice x2.B x2.m x2.d] 69
   rw [show x1.val=.agg #[.string x1.nm,.slice x1.A x1.n x1.c,.int .i64 x1.nx,.slice x1.B x1.m x1.d] from rfl,show x2.val=.agg #[.string x2.nm,.slice x2.A x2.n x2.c,.int .i64 x2.nx,.slice x2.B x2.m x2.d] from rfl]
   have hR:Ro _ _ (TesIn (some ⟨wx2.heap.size,0,none⟩) 2 [x1,x2]):=ZlQ (l:=[x1,x2]) (K5.get 0 rfl) (by simp [ZC,Te.cells]) (fun z hz=>by
    simp only [List.mem_cons,List.not_mem_nil,or_false] at hz
    rcases hz with rfl|rfl
    ·exact K5.ro 2 rfl
    ·exact K5.ro 1 rfl)
   have HR:=hid (hR.less zm)
   have HB:=hid K5.below
   clear HX hro1 hro2 K5 hR
   go_wp2_with fail
   go_ret
   exact ⟨_,2,[x1,x2],rfl,HR.out,HB.out⟩
end
end Go.Proofs.YtnmnkbnmollpmaaGreatDoor

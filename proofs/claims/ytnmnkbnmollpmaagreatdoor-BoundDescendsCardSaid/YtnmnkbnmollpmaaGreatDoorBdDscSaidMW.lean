import Derived.Test.YtnmnkbnmollpmaaGreatDoorBdDscSaidMR
set_option linter.unusedVariables false
set_option linter.unusedSimpArgs false
set_option maxHeartbeats 64000000
set_option maxRecDepth 100000
namespace Go.Proofs.YtnmnkbnmollpmaaGreatDoor
section
open Go.RowKit
def Xp (ol:List ByteArray) (cl:List Col) (u:Upd):Bool:=ol.isEmpty||ol.any fun s=>Z6 cl s u
def Yn (ev:Int) (ol:List ByteArray) (cl:List Col) (ins del:List Row) (upd:List Upd):List Row × List Row × List Upd:=
 if ev=1 then (ins,[],[]) else if ev=3 then ([],del,[]) else if ev=2 then ([],[],upd.filter (Xp ol cl)) else ([],[],[])
theorem UA {α:Type} {l:List α} {j:Nat} {x:α} (hx:l[j]? =some x):l.take (j+1)=l.take j++[x]:=by
 obtain ⟨hl,e⟩:=Kc.1 hx
 rw [List.take_succ_eq_append_getElem hl,e]
def UM (M:Nat→Prop) (x:Pr) (u:Value) (w:World):Prop:=∃ (C:Option Addr) (c:Nat) (E:Option Addr) (d:Nat),u=.agg #[.int .i64 x.id,.slice C x.old.length c,.slice E x.new.length d]∧(x.old.length≤c∧c≤9223372036854775807)∧(x.new.length≤d∧d≤9223372036854775807)∧Ro w M (VlsIn C x.old.length x.old)∧Ro w M (VlsIn E x.new.length x.new)
theorem Zjh {M:Nat→Prop} {x:Pr} (u:Value) (w w' :World) (hr:RM M w w') (h:UM M x u w):UM M x u w' :=by
 obtain ⟨C,c,E,d,h1,h2,h3,h4,h5⟩:=h
 exact ⟨C,c,E,d,h1,h2,h3,hr.ro h4,hr.ro h5⟩
def UL (M:Nat→Prop) (x:Pr) (u:Value) (w:World):Prop:=∃ (g:Nat) (C:Option Addr) (c:Nat) (E:Option Addr) (d:Nat),u=.slice (some ⟨g,0,none⟩) 1 1∧(x.old.length≤c∧c≤9223372036854775807)∧(x.new.length≤d∧d≤9223372036854775807)∧Ro w M (SlR 3 (some ⟨g,0,none⟩) 1 [.int .i64 x.id,.slice C x.old.length c,.slice E x.new.length d])∧Ro w M (VlsIn C x.old.length x.old)∧Ro w M (VlsIn E x.new.length x.new)
theorem Zjg {M:Nat→Prop} {x:Pr} (u:Value) (w w' :World) (hr:RM M w w') (h:UL M x u w):UL M x u w' :=by
 obtain ⟨g,C,c,E,d,h1,h2,h3,h4,h5,h6⟩:=h
 exact ⟨g,C,c,E,d,h1,h2,h3,hr.ro h4,hr.ro h5,hr.ro h6⟩
def Zak (w:World) (M:Nat→Prop) (dn:ByteArray) (r:List Row × List Row × List Upd) (e:Ending) (w' :World):Prop:=∃ (I:Option Addr) (ni ci:Nat) (li:List Rw) (D:Option Addr) (nd cd:Nat) (ld:List Rw) (U:Option Addr) (nu cu:Nat) (lu:List Pr),e=.returned (.agg #[.string dn,.slice I ni ci,.slice D nd cd,.slice U nu cu])∧(li.map Rw.row,ld.map Rw.row,lu.map Pr.upd)=r∧(ni≤ci∧ci≤9223372036854775807)∧(nd≤cd∧cd≤9223372036854775807)∧(nu≤cu∧cu≤9223372036854775807)∧Ro w' M (RwsIn I ni li)∧Ro w' M (RwsIn D nd ld)∧Ro w' M (PrsIn U nu lu)∧Below w.heap.size w w'
theorem Zio (M:Nat→Prop) (w:World) (hM:∀ b,M b→b<w.heap.size) (t:Tg) (snm:ByteArray) (cA:Option Addr) (cn cc:Nat) (cl:List Col) (dn:ByteArray) (I:Option Addr) (ni ci:Nat) (li:List Rw) (D:Option Addr) (nd cd:Nat) (ld:List Rw) (U:Option Addr) (nu cu:Nat) (lu:List Pr) (hO:Ro w M (SlR 1 t.cols.A t.cols.n (Yz t.cols.l))) (hC:Ro w M (SlR 4 cA cn (Zf cl))) (hI:Ro w M (RwsIn I ni li)) (hD:Ro w M (RwsIn D nd ld)) (hU:Ro w M (PrsIn U nu lu)) (h0:t.cols.n≤1000) (h0c:cn≤1000) (h1:ni≤1000000) (h2:nd≤1000000) (h3:nu≤1000000) (hb:(∀ x∈li,x.n≤4398046511104)∧∀ x∈ld,x.n≤4398046511104) (hbp:∀ x∈lu,x.on≤4398046511104∧x.nn≤4398046511104):Calls Tryz.prog 79 #[t.val,.agg #[.string snm,.slice cA cn cc],.agg #[.string dn,.slice I ni ci,.slice D nd cd,.slice U nu cu]] w fun e w' =>Zak w M dn (Yn t.event t.cols.l cl (li.map Rw.row) (ld.map Rw.row) (lu.map Pr.upd)) e w' :=by
 obtain ⟨tn,tt,tb,te,⟨oA,on,oc,ol⟩,tch,⟨pA,pn,pc,pl⟩,⟨qA,qn,qc,ql⟩,⟨rA,rn,rc,rl⟩,⟨kA,kn,kc,kl⟩,⟨aA,an,ac,al⟩⟩:=t
 have hon:on≤1000:=h0
 have HB:=hid hb
 have HBP:=hid hbp
 have HLO:=hid (show ol.length=on from StrsTx.len hO.now)
 have HL2:=hid (show lu.length=nu from hU.now.len)
 have KS:=(Hold.start M w hM)|>.add (hU.less (by simp [Mut]))|>.add (hD.less (by simp [Mut,Hp.foot]))|>.add (hI.less (by simp [Mut,Hp.foot]))|>.add (hC.less (by simp [Mut,Hp.foot]))|>.add (hO.less (by simp [Mut,Hp.foot]))|>.Za #[.string tn,.string tt,.bool tb,.int .i64 te,.slice oA on oc,.bool tch,.slice pA pn pc,.slice qA qn qc,.slice rA rn rc,.slice kA kn kc,.slice aA an ac] 48|>.Za #[.string snm,.slice cA cn cc] 66|>.Za #[.string dn,.slice I ni ci,.slice D nd cd,.slice U nu cu] 103|>.alloc #[.string ⟨#[]⟩,.slice none 0 0,.slice none 0 0,.slice none 0 0] 103|>.alloc #[.string dn,.slice none 0 0,.slice none 0 0,.slice none 0 0] 103
 simp only [World.size_alloc] at KS
 obtain ⟨gt,hgt⟩:∃ g,g=w.heap.size:=⟨_,rfl⟩
 rw [←hgt] at KS
 obtain ⟨gs,hgs⟩:∃ g,g=gt+1:=⟨_,rfl⟩
 obtain ⟨gd,hgd⟩:∃ g,g=gs+1:=⟨_,rfl⟩
 obtain ⟨gr,hgr⟩:∃ g,g=gd+1:=⟨_,rfl⟩
 obtain ⟨g7,hg7⟩:∃ g,g=gr+1:=⟨_,rfl⟩
 rw [←hgs,←hgd,←hgr,←hg7] at KS
 have K1:Hold M none w _ [.blk g7 103 #[.string dn,.slice none 0 0,.slice none 0 0,.slice none 0 0],.cst gt 48 #[.string tn,.string tt,.bool tb,.int .i64 te,.slice oA on oc,.bool tch,.slice pA pn pc,.slice qA qn qc,.slice rA rn rc,.slice kA kn kc,.slice aA an ac],.cst gs 66 #[.string snm,.slice cA cn cc],.cst gd 103 #[.string dn,.slice I ni ci,.slice D nd cd,.slice U nu cu],.blk gr 103 #[.string ⟨#[]⟩,.slice none 0 0,.slice none 0 0,.slice none 0 0],.ro (SlR 1 oA on (Yz ol)),.ro (SlR 4 cA cn (Zf cl)),.ro (RwsIn I ni li),.ro (RwsIn D nd ld),.ro (PrsIn U nu lu)]:=KS.pick [0,4,3,2,1,5,6,7,8,9] (by decide) rfl
 clear hO hC hI hD hU KS hb hbp h0
 simp only [Tg.val]
 have F1:=K1.facts
 simp only [zg] at F1
 rw [hg7,hgr,hgd,hgs,hgt] at F1
 go_enter Tryz.func79,Tryz.ntmps79
 go_upto_region 2 with fail
 rw [←hgt,←hgs,←hgd,←hgr,←hg7] at F1 ⊢
 have HG:=hid (KJ hgt (KJ hgs (KJ hgd (KJ hgr hg7))))
 clear hgt hgs hgd hgr hg7
 generalize World.alloc _ _=w1 at K1 F1 ⊢
 by_cases e1:te=1
 ·subst e1
  go_wp2_with fail
  refine (ZaT (Mut M _) _ K1.Zb I ni ci li (K1.ro 7 rfl) (by omega) (HB.out.1)).mono ?_
  rintro e w2 ⟨C,q,cap,k,rfl,hk,hc,hlen,rC,b2⟩
  have HK:=hid (KJ hk hlen)
  have HCP:=hid hc
  have K2:=(K1.call b2).add rC
  clear K1 F1 b2 rC hk hc hlen
  have K3:=K2.store 1 rfl 1 (.slice C q cap)
  simp only [zl] at K3
  have K4:=(((K3.store 5 rfl 0 (.string dn)).store 5 rfl 1 (.slice C q cap)).store 5 rfl 2 (.slice none 0 0)).store 5 rfl 3 (.slice none 0 0)
  simp only [zl] at K4
  have F2:=K2.facts
  simp only [zg] at F2
  have F3:=K3.facts
  simp only [zg] at F3
  have F4:=K4.facts
  simp only [zg] at F4
  have HR:=hid ((K4.ro 0 rfl).less zm)
  have HBL:=hid K4.below
  clear K2 K3 K4
  go_wp2_with fail
  refine Lh (v:=.agg #[.string dn,.slice C q cap,.slice none 0 0,.slice none 0 0]) ?_ rfl ?_
  ·clear HR HBL
   simp [results,Tryz.results79,go_sem,F4]
  ·exact ⟨C,q,cap,k,none,0,0,[],none,0,0,[],rfl,by simp [Yn,HK.out.1],HCP.out,⟨Nat.le_refl _,by simp⟩,⟨Nat.le_refl _,by simp⟩,HR.out,(fun w2 _ _=>⟨ZG 2 w2,fun _ hx=>(nomatch hx)⟩),(fun w2 _ _=>⟨ZG 3 w2,fun _ hx=>(nomatch hx)⟩),HBL.out⟩
 ·have b1:(te==1)=false:=by simpa using e1
  by_cases e3:te=3
  ·subst e3
   go_wp2_with fail
   refine (ZaT (Mut M _) _ K1.Zb D nd cd ld (K1.ro 8 rfl) (by omega) (HB.out.2)).mono ?_
   rintro e w2 ⟨C,q,cap,k,rfl,hk,hc,hlen,rC,b2⟩
   have HK:=hid (KJ hk hlen)
   have HCP:=hid hc
   have K2:=(K1.call b2).add rC
   clear K1 F1 b2 rC hk hc hlen
   have K3:=K2.store 1 rfl 2 (.slice C q cap)
   simp only [zl] at K3
   have K4:=(((K3.store 5 rfl 0 (.string dn)).store 5 rfl 1 (.slice none 0 0)).store 5 rfl 2 (.slice C q cap)).store 5 rfl 3 (.slice none 0 0)
   simp only [zl] at K4
   have F2:=K2.facts
   simp only [zg] at F2
   have F3:=K3.facts
   simp only [zg] at F3
   have F4:=K4.facts
   simp only [zg] at F4
   have HR:=hid ((K4.ro 0 rfl).less zm)
   have HBL:=hid K4.below
   clear K2 K3 K4
   go_wp2_with fail
   refine Lh (v:=.agg #[.string dn,.slice none 0 0,.slice C q cap,.slice none 0 0]) ?_ rfl ?_
   ·clear HR HBL
    simp [results,Tryz.results79,go_sem,F4]
   ·exact ⟨none,0,0,[],C,q,cap,k,none,0,0,[],rfl,by simp [Yn,HK.out.1],⟨Nat.le_refl _,by simp⟩,HCP.out,⟨Nat.le_refl _,by simp⟩,(fun w2 _ _=>⟨ZG 2 w2,fun _ hx=>(nomatch hx)⟩),HR.out,(fun w2 _ _=>⟨ZG 3 w2,fun _ hx=>(nomatch hx)⟩),HBL.out⟩
  ·have b3:(te==3)=false:=by simpa using e3
   by_cases e2:te=2
   ·subst e2
    clear e1 e3 b1 b3
    have K2:Hold M none w _ [.blk g7 103 #[.string dn,.slice none 0 0,.slice none 0 0,.slice none 0 0],.cst gt 48 #[.string tn,.string tt,.bool tb,.int .i64 2,.slice oA on oc,.bool tch,.slice pA pn pc,.slice qA qn qc,.slice rA rn rc,.slice kA kn kc,.slice aA an ac],.cst gs 66 #[.string snm,.slice cA cn cc],.cst gd 103 #[.string dn,.slice I ni ci,.slice D nd cd,.slice U nu cu],.blk gr 103 #[.string ⟨#[]⟩,.slice none 0 0,.slice none 0 0,.slice none 0 0],.ro (SlR 1 oA on (Yz ol)),.ro (SlR 4 cA cn (Zf cl)),.ro (RwsIn I ni li),.ro (RwsIn D nd ld),.ro (PrsIn U nu lu),.own 136 3 (.slice none 0 0) 0 (ZB []),.ro (Yh [])]:=((K1.add (S:=Yh []) (fun w2 _ _ x hx=>(nomatch hx))).nil 136 3).pick [2,3,4,5,6,7,8,9,10,11,0,1] (by decide) rfl
    clear K1 F1
    have F2:=K2.facts
    simp only [zg] at F2
    go_wp2_with fail
    clear F2
    go_loopw [32] (fun iv wr=>∃ (j k cap:Nat) (O:Option Addr) (outs:List Pr),j≤nu∧k≤j∧iv=.int .i64 j∧Hid (outs.map Pr.upd=((lu.take j).map Pr.upd).filter (Xp ol cl))∧Hold M none w wr [.blk g7 103 #[.string dn,.slice none 0 0,.slice none 0 0,.slice O k cap],.cst gt 48 #[.string tn,.string tt,.bool tb,.int .i64 2,.slice oA on oc,.bool tch,.slice pA pn pc,.slice qA qn qc,.slice rA rn rc,.slice kA kn kc,.slice aA an ac],.cst gs 66 #[.string snm,.slice cA cn cc],.cst gd 103 #[.string dn,.slice I ni ci,.slice D nd cd,.slice U nu cu],.blk gr 103 #[.string ⟨#[]⟩,.slice none 0 0,.slice none 0 0,.slice none 0 0],.ro (SlR 1 oA on (Yz ol)),.ro (SlR 4 cA cn (Zf cl)),.ro (RwsIn I ni li),.ro (RwsIn D nd ld),.ro (PrsIn U nu lu),.own 136 3 (.slice O k cap) k (ZB outs),.ro (Yh outs)]) (fun iv _=>nu - (intOf iv).toNat)
    case atStart=>exact ⟨0,0,0,none,[],by omega,by omega,rfl,hid rfl,K2⟩
    case round=>
     clear K2
     obtain ⟨j,k,cap,O,outs,hj,hkj,rfl,HO,H⟩:=hrel
     by_cases hlt:j<nu
     ·obtain ⟨x,hx⟩:=Zl HL2.out hlt
      obtain ⟨bU,oU,rfl,hb,c0,c1,c2,hv,hv2⟩:=(H.ro 9 rfl).now.at_ hx
      have hmx:=Ka hx
      have HX:=hid hx
      have hxb:=HBP.out x hmx
      clear hx hv hv2
      have K3:=((H.add (S:=VlsIn x.nA x.nn x.new) ((H.ro 9 rfl).imp fun w2 h2=>(h2.2 x hmx).2)).add (S:=VlsIn x.oA x.on x.old) (((H.ro 9 rfl).imp fun w2 h2=>(h2.2 x hmx).1).less (by simp [ZL,Mut,Hp.foot]))).Za #[.int .i64 x.id,.slice x.oA x.on x.oc,.slice x.nA x.nn x.nc] 136
      obtain ⟨g9,hg9⟩:∃ g,g=wr.heap.size:=⟨_,rfl⟩
      rw [←hg9] at K3
      clear H
      go_upto_region 11 with fail
      rw [←hg9]
      have HG9:=hid hg9
      clear hg9 c0 c1 c2
      generalize World.alloc _ _=w4 at K3 ⊢
      have F3:=K3.facts
      simp only [zg] at F3
      go_cut [46] from 36 to 46 (fun v wx=>v=.bool (Xp ol cl x.upd)∧Hold M none w wx (.cst g9 136 #[.int .i64 x.id,.slice x.oA x.on x.oc,.slice x.nA x.nn x.nc]::.ro (VlsIn x.oA x.on x.old)::.ro (VlsIn x.nA x.nn x.new)::[.blk g7 103 #[.string dn,.slice none 0 0,.slice none 0 0,.slice O k cap],.cst gt 48 #[.string tn,.string tt,.bool tb,.int .i64 2,.slice oA on oc,.bool tch,.slice pA pn pc,.slice qA qn qc,.slice rA rn rc,.slice kA kn kc,.slice aA an ac],.cst gs 66 #[.string snm,.slice cA cn cc],.cst gd 103 #[.string dn,.slice I ni ci,.slice D nd cd,.slice (some ⟨bU,oU,none⟩) nu cu],.blk gr 103 #[.string ⟨#[]⟩,.slice none 0 0,.slice none 0 0,.slice none 0 0],.ro (SlR 1 oA on (Yz ol)),.ro (SlR 4 cA cn (Zf cl)),.ro (RwsIn I ni li),.ro (RwsIn D nd ld),.ro (PrsIn (some ⟨bU,oU,none⟩) nu lu),.own 136 3 (.slice O k cap) k (ZB outs),.ro (Yh outs)]))
      case first=>
       by_cases h0:on=0
       ·have h0b:((on:Int)==0)=true:=by simp [h0]
        have HH:=hid (show Xp ol cl x.upd=true from by
         have:ol=[]:=List.eq_nil_of_length_eq_zero (by rw [HLO.out,h0])
         rw [this];rfl)
        clear h0
        go_wp2_with fail
        go_meet
        exact ⟨by rw [HH.out],K3⟩
       ·have h0b:((on:Int)==0)=false:=by simp;omega
        have HH:=hid (show Xp ol cl x.upd=(ol.any fun s=>Z6 cl s x.upd) from by
         have:ol≠[]:=fun h=>h0 (by rw [←HLO.out,h];rfl)
         unfold Xp
         rw [show ol.isEmpty=false from by cases ol with|nil=>exact absurd rfl this|cons _ _=>rfl]
         simp)
        clear h0
        go_wp2_with (go_at_call 125;go_must (refine (Zgc _ snm cA cn cc cl x oA on oc ol ((K3.ro 9 rfl).less zn) ((K3.ro 1 rfl).less zn) ((K3.ro 2 rfl).less zn) ((K3.ro 8 rfl).less zn) (by omega) (by omega)).mono ?_);rintro e w5 ⟨rfl,b5⟩;replace K3:=K3.call b5;clear b5)
        go_meet
        exact ⟨by rw [HH.out],K3⟩
      case rest=>
       obtain ⟨rfl,K4⟩:=hcut
       clear K3 F3
       obtain ⟨z,hz⟩:∃ z:Bool,Xp ol cl x.upd=z:=⟨_,rfl⟩
       rw [hz]
       have HZ:=hid hz
       clear hz
       cases z
       ·go_wp2_with fail
        go_roundw
        case rel=>exact ⟨j+1,k,cap,O,outs,by omega,by omega,by go_num,hid (by rw [HO.out,UA HX.out,Km,KY];simp [HZ.out]),K4.drop (((List.sublist_cons_self _ _).cons _).cons _)⟩
        case measure=>simp [intOf];omega
       ·obtain ⟨KM,hKM,K6⟩:=K4.name
        have H1:∀ wv:World,Hold M none w wv KM→Blk wv g9 136 #[.int .i64 x.id,.slice x.oA x.on x.oc,.slice x.nA x.nn x.nc]:=fun wv h=>by rw [hKM] at h;exact h.Zg 0 rfl
        have H2:∀ wv:World,Hold M none w wv KM→Ro wv (Mut M KM) (VlsIn x.oA x.on x.old):=fun wv h=>by rw [hKM] at h ⊢;exact h.ro 1 rfl
        have H3:∀ wv:World,Hold M none w wv KM→Ro wv (Mut M KM) (VlsIn x.nA x.nn x.new):=fun wv h=>by rw [hKM] at h ⊢;exact h.ro 2 rfl
        have H4:∀ wv:World,Hold M none w wv KM→Blk wv g7 103 #[.string dn,.slice none 0 0,.slice none 0 0,.slice O k cap]:=fun wv h=>by rw [hKM] at h;exact h.Ym 3 rfl
        have HH1:=hid H1
        have HH2:=hid H2
        have HH3:=hid H3
        have HH4:=hid H4
        have HKM:=hid hKM
        clear hKM H1 H2 H3 H4 K4
        go_upto_region 12 with fail
        refine Lj (by kernel_rfl) ?_
        refine Zn 5 56 (KM) (spL [(50,UM (Mut M KM) x),(51,UL (Mut M KM) x)]) (by kernel_rfl) (by kernel_rfl) (by kernel_rfl) rfl ?_ (K6.drew) ?_
        ·exact Zd Zjh (Zd Zjg (Zm _))
        simp only [zd,zp,List.getElem_toArray,List.getElem_cons_zero,List.getElem_cons_succ]
        refine' dv rfl rfl rfl (fun wv HC=>?_) ?_;rotate_left
        · go_simp<;>rfl
        simp only [zp]
        refine' dv rfl rfl rfl (fun wv HC=>?_) ?_;rotate_left
        ·have q0:=(HH4.out _ HC).cell 3;go_simp<;>rfl
        simp only [zp]
        refine' dv rfl rfl rfl (fun wv HC=>?_) ?_;rotate_left
        ·obtain q0:=(HH1.out _ HC).cell 0;obtain q1:=(HH1.out _ HC).cell 1;obtain q2:=(HH1.out _ HC).cell 2;go_simp<;>rfl
        simp only [zp]
        refine Zi 50 (UM (Mut M KM) x) (f:=126) (args:=#[.agg #[.int .i64 x.id,.slice x.oA x.on x.oc,.slice x.nA x.nn x.nc]]) rfl rfl rfl rfl (fun wv=>?_) (fun wv HC hrm hD=>?_) ?_
        ·go_simp<;>rfl
        ·refine (ZfX (Mut M KM) wv HC.Zb x (HH2.out _ HC) (HH3.out _ HC) hxb.1 hxb.2).mono ?_
         rintro e w5 ⟨C,c,E,d,rfl,hc,hd,rC,rE,b5⟩
         exact ⟨_,rfl,⟨C,c,E,d,rfl,hc,hd,rC,rE⟩,HC.call b5,RM.below b5⟩
        rintro u wx HCx ⟨C,c,E,d,rfl,hc,hd,rC,rE⟩
        clear HCx rC rE
        simp only [zp]
        refine Z8 #[.int .i64 x.id,.slice C x.old.length c,.slice E x.new.length d] 136 51 (UL (Mut M KM) x) (fun g=>.slice (some ⟨g,0,none⟩) 1 1) rfl rfl rfl rfl (fun wv=>?_) (fun wv HC hrm hD hro=>?_) ?_
        ·go_simp<;>rfl
        ·have h1:UM (Mut M KM) x (.agg #[.int .i64 x.id,.slice C x.old.length c,.slice E x.new.length d]) wv:=ZI hD 3 rfl (by kernel_rfl) rfl rfl
         obtain ⟨C',c',E',d',e',hc,hd,rC,rE⟩:=h1
         obtain ⟨rfl,rfl,rfl,rfl⟩:C=C' ∧c=c' ∧E=E' ∧d=d' :=by
          injection e' with e'
          have h1:=congrArg (fun a:Array Value=>a[1]?) e'
          have h2:=congrArg (fun a:Array Value=>a[2]?) e'
          simp only [List.getElem?_toArray,List.getElem?_cons_zero,List.getElem?_cons_succ,Option.some.injEq,Value.slice.injEq] at h1 h2
          exact ⟨h1.1,h1.2.2,h2.1,h2.2.2⟩
         exact ⟨_,C,c,E,d,rfl,hc,hd,ZO (hro _ HC.Zb) rfl,(RM.alloc (Mut M KM) wv _).ro rC,(RM.alloc (Mut M KM) wv _).ro rE⟩
        rintro g51 wg HCg h51
        simp only [zp]
        clear HCg h51
        refine Zk ?_
        rintro wx3 HX3
        rintro _hrm HGW
        have h1:UL (Mut M KM) x (.slice (some ⟨g51,0,none⟩) 1 1) wx3:=(Zo (d:=51) rfl).1 (HGW 4 _ rfl (by omega))
        clear HGW _hrm hc hd
        obtain ⟨g',C',c',E',d',e',hc,hd,rG,rC,rE⟩:=h1
        obtain rfl:g51=g' :=by injection e' with e';injection e' with e';injection e'
        have K7:=(HX3.add rC).add (rE.less (by simp [ZL,Hp.foot]))
        have HG:=hid rG.now
        rw [HKM.out] at K7
        clear HX3 rG rC rE HH1 HH2 HH3 HH4 HKM K6 e'
        have F7:=K7.facts
        simp only [zg] at F7
        go_wp2_with (at_builtin;go_must (refine ZX K7 15 rfl Tryz.U7 HG.out rfl (.tmp 48) (.tmp 51) rfl rfl rfl (by intro u hu;simp at hu;rcases hu with rfl|rfl|rfl<;>rfl) (by omega) (by omega) ?_);intro G1 gc1 wB hcB hmB KE;simp only [zl] at KE;(have FE:=KE.facts);simp only [zg] at FE)
        rw [show ZB outs++[.int .i64 x.id,.slice C' x.old.length c',.slice E' x.new.length d']=ZB (outs++[⟨x.id,C',x.old.length,c',x.old,E',x.new.length,d',x.new⟩]) by simp [ZB,Pr.cells]] at KE
        have hR:Ro _ _ (Yh (outs++[⟨x.id,C',x.old.length,c',x.old,E',x.new.length,d',x.new⟩])):=((KE.ro 16 rfl).and ((KE.ro 1 rfl).and (KE.ro 0 rfl))).imp fun w2 h2 y hy=>by
         rcases Kk.1 hy with hy|hy
         ·exact h2.1 y hy
         ·simp only [List.mem_cons,List.not_mem_nil,or_false] at hy
          subst hy
          exact ⟨h2.2.1,h2.2.2⟩
        have KF:=((KE.ZT 16 rfl hR).store 5 rfl 3 (.slice G1 (k+1) gc1)).drop (((((Kb _ _).cons _).cons _).cons _).cons _)
        simp only [zl] at KF
        go_roundw
        case rel=>exact ⟨j+1,k+1,gc1,G1,outs++[⟨x.id,C',x.old.length,c',x.old,E',x.new.length,d',x.new⟩],by omega,by omega,by go_num,hid (by rw [Km,HO.out,UA HX.out,Km,KY];simp [show Xp ol cl (x.id,x.old,x.new)=true from HZ.out,Pr.upd]),KF⟩
        case measure=>simp [intOf];omega
     ·obtain rfl:nu=j:=by omega
      have hcap:=ZM (H.get 10 rfl)
      have K4:=(((H.store 4 rfl 0 (.string dn)).store 4 rfl 1 (.slice none 0 0)).store 4 rfl 2 (.slice none 0 0)).store 4 rfl 3 (.slice O k cap)
      simp only [zl] at K4
      have F2:=H.facts
      simp only [zg] at F2
      have F4:=K4.facts
      simp only [zg] at F4
      have KZ:=K4.Zq 10 rfl
      simp only [zl] at KZ
      have hR:Ro _ _ (PrsIn O k outs):=((KZ.ro 10 rfl).and (KZ.ro 11 rfl)).imp fun w2 h2=>⟨h2.1,h2.2⟩
      have HR:=hid (hR.less zm)
      have HBL:=hid KZ.below
      clear KZ K4 H hR
      go_wp2_with fail
      refine Lh (v:=.agg #[.string dn,.slice none 0 0,.slice none 0 0,.slice O k cap]) ?_ rfl ?_
      ·clear HR HBL
       simp [results,Tryz.results79,go_sem,F4]
      ·exact ⟨none,0,0,[],none,0,0,[],O,k,cap,outs,rfl,by
        have h:=HO.out
        rw [Kh (by rw [HL2.out];exact Kg _)] at h
        simp [Yn,h],⟨Nat.le_refl _,by simp⟩,⟨Nat.le_refl _,by simp⟩,⟨hcap.1,hcap.2.1⟩,(fun w2 _ _=>⟨ZG 2 w2,fun _ hx=>(nomatch hx)⟩),(fun w2 _ _=>⟨ZG 2 w2,fun _ hx=>(nomatch hx)⟩),HR.out,HBL.out⟩
   ·have b2:(te==2)=false:=by simpa using e2
    have HM:=hid (show Yn te ol cl (li.map Rw.row) (ld.map Rw.row) (lu.map Pr.upd)=([],[],[]) from by unfold Yn;rw [Lf e1,Lf e3,Lf e2])
    have K4:=(((K1.store 4 rfl 0 (.string dn)).store 4 rfl 1 (.slice none 0 0)).store 4 rfl 2 (.slice none 0 0)).store 4 rfl 3 (.slice none 0 0)
    simp only [zl] at K4
    have F4:=K4.facts
    simp only [zg] at F4
    have HBL:=hid K4.below
    clear K4 K1 e1 e2 e3
    go_wp2_with fail
    refine Lh (v:=.agg #[.string dn,.slice none 0 0,.slice none 0 0,.slice none 0 0]) ?_ rfl ?_
    ·clear HBL
     simp [results,Tryz.results79,go_sem,F4]
    ·exact ⟨none,0,0,[],none,0,0,[],none,0,0,[],rfl,by rw [HM.out];rfl,⟨Nat.le_refl _,by simp⟩,⟨Nat.le_refl _,by simp⟩,⟨Nat.le_refl _,by simp⟩,(fun w2 _ _=>⟨ZG 2 w2,fun _ hx=>(nomatch hx)⟩),(fun w2 _ _=>⟨ZG 2 w2,fun _ hx=>(nomatch hx)⟩),(fun w2 _ _=>⟨ZG 3 w2,fun _ hx=>(nomatch hx)⟩),HBL.out⟩
def XK (l:List El):List Value:=l.flatMap El.cells
theorem Zgv (l:List El):(XK l).length=l.length * 4:=YL _ 4 (fun _=>rfl) l
def ElsIn (A:Option Addr) (n:Nat) (l:List El) (w:World):Prop:=SlR 4 A n (XK l) w∧∀ x∈l,Wm x w
theorem ElsIn.len {w:World} {A:Option Addr} {n:Nat} {l:List El} (h:ElsIn A n l w):l.length=n:=by
 have:=(show Rd w w.heap.size 4 A n (XK l) from h.1).1
 rw [Zgv] at this
 omega
theorem ElsIn.at_ {w:World} {A:Option Addr} {n:Nat} {l:List El} (h:ElsIn A n l w) {k:Nat} {x:El} (hx:l[k]? =some x):
  ∃ b o,A=some ⟨b,o,none⟩∧b<w.heap.size∧w.cell? ⟨b,o+k * 4,none⟩=some (.string x.nm)∧w.cell? ⟨b,o+k * 4+1,none⟩=some (.slice x.I x.ni x.ci)∧w.cell? ⟨b,o+k * 4+2,none⟩=some (.slice x.D x.nd x.cd)∧w.cell? ⟨b,o+k * 4+3,none⟩=some (.slice x.U x.nu x.cu)∧Wm x w:=by
 have hk:k<n:=by rw [←h.len];exact (Kc.1 hx).1
 obtain ⟨b,o,e,hb,hc⟩:=(show Rd w w.heap.size 4 A n (XK l) from h.1).2 (by omega)
 exact ⟨b,o,e,hb,hc _ _ (flat_get El.cells 4 (fun _=>rfl) l k 0 x (by omega) hx),hc _ _ (flat_get El.cells 4 (fun _=>rfl) l k 1 x (by omega) hx),hc _ _ (flat_get El.cells 4 (fun _=>rfl) l k 2 x (by omega) hx),hc _ _ (flat_get El.cells 4 (fun _=>rfl) l k 3 x (by omega) hx),h.2 x (Ka hx)⟩
structure De where
 nm:ByteArray
 I:Option Addr
 ni:Nat
 ci:Nat
 li:List Rw
 D:Option Addr
 nd:Nat
 cd:Nat
 ld:List Rw
 U:Option Addr
 nu:Nat
 cu:Nat
 lu:List Pr
def De.cells (x:De):List Value:=[.string x.nm,.slice x.I x.ni x.ci,.slice x.D x.nd x.cd,.slice x.U x.nu x.cu]
def De.val (x:De):Value:=.agg #[.string x.nm,.slice x.I x.ni x.ci,.slice x.D x.nd x.cd,.slice x.U x.nu x.cu]
def Um (l:List De):List Value:=l.flatMap De.cells
theorem ZfV (l:List De):(Um l).length=l.length * 4:=YL _ 4 (fun _=>rfl) l
def Zaf (x:De) (w:World):Prop:=RwsIn x.I x.ni x.li w∧RwsIn x.D x.nd x.ld w∧PrsIn x.U x.nu x.lu w
def DesIn (A:Option Addr) (n:Nat) (l:List De) (w:World):Prop:=SlR 4 A n (Um l) w∧∀ x∈l,Zaf x w
theorem DesIn.len {w:World} {A:Option Addr} {n:Nat} {l:List De} (h:DesIn A n l w):l.length=n:=by
 have:=(show Rd w w.heap.size 4 A n (Um l) from h.1).1
 rw [ZfV] at this
 omega
theorem DesIn.at_ {w:World} {A:Option Addr} {n:Nat} {l:List De} (h:DesIn A n l w) {k:Nat} {x:De} (hx:l[k]? =some x):
  ∃ b o,A=some ⟨b,o,none⟩∧b<w.heap.size∧w.cell? ⟨b,o+k * 4,none⟩=some (.string x.nm)∧w.cell? ⟨b,o+k * 4+1,none⟩=some (.slice x.I x.ni x.ci)∧w.cell? ⟨b,o+k * 4+2,none⟩=some (.slice x.D x.nd x.cd)∧w.cell? ⟨b,o+k * 4+3,none⟩=some (.slice x.U x.nu x.cu):=by
 have hk:k<n:=by rw [←h.len];exact (Kc.1 hx).1
 obtain ⟨b,o,e,hb,hc⟩:=(show Rd w w.heap.size 4 A n (Um l) from h.1).2 (by omega)
 exact ⟨b,o,e,hb,hc _ _ (flat_get De.cells 4 (fun _=>rfl) l k 0 x (by omega) hx),hc _ _ (flat_get De.cells 4 (fun _=>rfl) l k 1 x (by omega) hx),hc _ _ (flat_get De.cells 4 (fun _=>rfl) l k 2 x (by omega) hx),hc _ _ (flat_get De.cells 4 (fun _=>rfl) l k 3 x (by omega) hx)⟩
def YS (s:ByteArray) (x:De):Bool:=x.nm.toList==s.toList
theorem ZgU (w:World) (x:De) (b:Nat) (s:ByteArray) (t:TypeId) (hb:w.heap[b]? =some (.cells #[.string s] t (0,0))):
  Calls Tryz.prog 123 #[x.val,.pointer (some ⟨b,0,none⟩)] w fun e w' =>e=.returned (.bool (YS s x))∧Below w.heap.size w w' :=by
 have hbl:b<w.heap.size:=Blk.lt (t:=t) (cs:=#[.string s]) hb
 have K0:=((Hold.Yi w).Wp (g:=b) (t:=t) (cs:=#[.string s]) (fun w2 h1 h2=>(h2 b hbl (by simp [Mut,Zc])).trans hb)).Za #[.string x.nm,.slice x.I x.ni x.ci,.slice x.D x.nd x.cd,.slice x.U x.nu x.cu] 103
 have F0:=K0.facts
 simp only [zg] at F0
 simp only [De.val]
 go_enter Tryz.func123,Tryz.ntmps123
 go_wp2_with fail
 go_ret
 exact ⟨rfl,K0.below⟩
theorem ZgV (M:Nat→Prop) (w:World) (hM:∀ b,M b→b<w.heap.size) (A:Option Addr) (n c:Nat) (l:List De) (b:Nat) (s:ByteArray) (t:TypeId) (hB:Ro w M (fun w=>w.heap[b]? =some (.cells #[.string s] t (0,0)))) (hD:Ro w M (DesIn A n l)) (hn:n≤1000000):
  Calls Tryz.prog 122 #[.slice A n c,.func (.func 123) #[] #[.pointer (some ⟨b,0,none⟩)]] w fun e w' =>e=.returned (.int .i64 (Ze (YS s) l))∧Below w.heap.size w w' :=by
 have HL:=hid hD.now.len
 have K0:=(((Hold.start M w hM).add (hB.less (by simp [Mut]))).add (hD.less (by simp [Mut,Hp.foot])))
 go_enter Tryz.func122,Tryz.ntmps122
 go_wp2_with fail
 go_loopw [8] (fun iv wr=>∃ (k:Nat),k≤n∧iv=.int .i64 k∧Hid (Ze (YS s) l=Zy (YS s) k (l.drop k))∧Hold M none w wr [.ro (DesIn A n l),.ro (fun w=>w.heap[b]? =some (.cells #[.string s] t (0,0)))]) (fun iv _=>n - (intOf iv).toNat)
 case atStart=>exact ⟨0,by omega,rfl,hid rfl,K0⟩
 case round=>
  clear K0
  obtain ⟨k,hk,rfl,HC,H⟩:=hrel
  by_cases hlt:k<n
  ·have hd:decide ((k:Int)<(n:Int))=true:=by simp;omega
   have i0:(0:Int)≤(k:Int):=by omega
   have i1:(k:Int)<(n:Int):=by omega
   obtain ⟨x,hx⟩:=Zl HL.out hlt
   obtain ⟨g,o,rfl,hb,c0,c1,c2,c3⟩:=(H.ro 0 rfl).now.at_ hx
   have HX:=hid hx
   clear hx
   go_wp2_with fail
   refine (ZgU wr x b s t (H.ro 1 rfl).now).mono ?_
   rintro e w1 ⟨rfl,b1⟩
   have K1:=H.call b1
   clear H b1
   cases hz:YS s x
   ·have HN:=hid (XZ HC.out HX.out hz)
    clear hz
    go_wp2_with fail
    go_roundw
    case rel=>exact ⟨k+1,by omega,by go_num,HN,K1⟩
    case measure=>simp [intOf];omega
   ·have HN:=hid (show Ze (YS s) l=(k:Int) from Ww HC.out HX.out hz)
    clear hz
    go_wp2_with fail
    go_ret
    exact ⟨by rw [HN.out]<;>rfl,K1.below⟩
  ·obtain rfl:n=k:=by omega
   have hd:decide ((n:Int)<(n:Int))=false:=by simp
   have HN:=hid (show Ze (YS s) l=-1 from XY HC.out (by rw [HL.out];exact Kg _))
   go_wp2_with fail
   go_ret
   exact ⟨by rw [HN.out]<;>rfl,H.below⟩
def Zd9 (w:World) (l:List De) (s:ByteArray) (e:Ending) (w' :World):Prop:=Below w.heap.size w w' ∧((l.find? (YS s)=none∧e=.returned (.tuple #[.agg #[.string ⟨#[]⟩,.slice none 0 0,.slice none 0 0,.slice none 0 0],.bool false]))∨∃ x,l.find? (YS s)=some x∧x∈l∧e=.returned (.tuple #[x.val,.bool true]))
theorem Zbn {α:Type} {p:α→Bool} {l:List α} (h:Ze p l=-1):l.find? p=none:=by
 rw [List.find?_eq_none]
 intro x hx hp
 obtain ⟨i,hi⟩:=List.mem_iff_getElem?.1 hx
 have:=(Zbm hp hi).1
 omega
theorem Zbo {α:Type} {p:α→Bool}:∀ {l:List α} {k:Nat},Ze p l=(k:Int)→∃ x,l[k]? =some x∧l.find? p=some x:=by
 intro l k h
 have hlt:k<l.length:=by
  have h2:=find_range p l
  rcases l with _|⟨x,l⟩
  ·have:Ze p ([]:List α)=-1:=XY (k:=0) rfl (Kg _)
   omega
  ·simp only [List.length_cons] at h2 ⊢
   omega
 cases hf:l.find? p with
 | none=>
  exfalso
  have hall:∀ j,j≤l.length→Ze p l=Zy p j (l.drop j):=by
   intro j hj
   induction j with
   | zero=>rfl
   | succ j ih=>
    have hj' :j<l.length:=by omega
    exact XZ (ih (by omega)) (Ky hj') (by
     have:=List.find?_eq_none.1 hf l[j] (List.getElem_mem hj')
     simpa using this)
  have:=XY (hall l.length (Kg _)) (Kg _)
  omega
 | some x=>
  obtain ⟨i,hi,hix,hmin⟩:=List.find?_eq_some_iff_getElem.1 hf|>.2
  have hfi:Ze p l=(i:Int):=by
   have hall:∀ j,j≤i→Ze p l=Zy p j (l.drop j):=by
    intro j hj
    induction j with
    | zero=>rfl
    | succ j ih=>
     have hj' :j<l.length:=by omega
     exact XZ (ih (by omega)) (Ky hj') (by
      have:=hmin j (by omega)
      simpa using this)
   exact Ww (hall i (Kg _)) (Ky hi) (by rw [hix];exact (List.find?_eq_some_iff_getElem.1 hf).1)
  have:i=k:=by omega
  subst this
  exact ⟨x,by rw [Ky hi,hix],rfl⟩
theorem ZgW (M:Nat→Prop) (w:World) (hM:∀ b,M b→b<w.heap.size) (A:Option Addr) (n c:Nat) (l:List De) (s:ByteArray) (hD:Ro w M (DesIn A n l)) (hn:n≤1000000):
  Calls Tryz.prog 78 #[.slice A n c,.string s] w fun e w' =>Zd9 w l s e w' :=by
 have K0:=(((Hold.start M w hM).add (hD.less (by simp [Mut]))).Za #[.string s] 9).alloc #[.string ⟨#[]⟩,.slice none 0 0,.slice none 0 0,.slice none 0 0] 103
 simp only [World.size_alloc] at K0
 have HL:=hid hD.now.len
 have hce:=ZgV _ _ K0.Zb A n c l w.heap.size s 9 (K0.get 1 rfl) (K0.ro 2 rfl) hn
 obtain ⟨gr,hgr⟩:∃ g,g=w.heap.size+1:=⟨_,rfl⟩
 rw [←hgr] at K0
 have F0:=K0.facts
 simp only [zg] at F0
 clear hD
 go_enter Tryz.func78,Tryz.ntmps78
 go_wp2_with fail
 refine hce.mono ?_
 rintro e w1 ⟨rfl,b1⟩
 have K1:=K0.call b1
 clear K0 F0 hce b1
 rw [←hgr]
 have HGR:=hid hgr
 clear hgr
 obtain ⟨kf,hkf⟩:∃ z:Int,Ze (YS s) l=z:=⟨_,rfl⟩
 rw [hkf]
 have hrg:=find_range (YS s) l
 rw [hkf] at hrg
 by_cases hneg:kf<0
 ·have HF:=hid (Zbn (show Ze (YS s) l=-1 by omega))
  clear hkf hrg
  have F1:=K1.facts
  simp only [zg] at F1
  have K2:=(((K1.store 0 rfl 0 (.string ⟨#[]⟩)).store 0 rfl 1 (.slice none 0 0)).store 0 rfl 2 (.slice none 0 0)).store 0 rfl 3 (.slice none 0 0)
  simp only [zl] at K2
  have F2:=K2.facts
  simp only [zg] at F2
  have HB:=hid K2.below
  clear K1 K2
  go_wp2_with fail
  refine Lh (v:=.tuple #[.agg #[.string ⟨#[]⟩,.slice none 0 0,.slice none 0 0,.slice none 0 0],.bool false]) ?_ rfl ?_
  ·clear HB
   simp [results,Tryz.results78,go_sem,F2]
  ·exact ⟨HB.out,.inl ⟨HF.out,rfl⟩⟩
 ·obtain ⟨k,rfl⟩:∃ k:Nat,kf=(k:Int):=⟨kf.toNat,by omega⟩
  obtain ⟨x,hx,hf⟩:=Zbo hkf
  have HF:=hid (KJ hf (Ka hx))
  have hkn:k<n:=by rw [←HL.out];exact (Kc.1 hx).1
  have hki:(k:Int)<(n:Int):=by omega
  have hk0:¬((k:Int)<0):=by omega
  obtain ⟨b,o,rfl,hb,c0,c1,c2,c3⟩:=(K1.ro 2 rfl).now.at_ hx
  clear hkf hrg hneg hx hf
  have F1:=K1.facts
  simp only [zg] at F1
  have K2:=(((K1.store 0 rfl 0 (.string x.nm)).store 0 rfl 1 (.slice x.I x.ni x.ci)).store 0 rfl 2 (.slice x.D x.nd x.cd)).store 0 rfl 3 (.slice x.U x.nu x.cu)
  simp only [zl] at K2
  have F2:=K2.facts
  simp only [zg] at F2
  have HB:=hid K2.below
  clear K1 K2
  go_wp2_with fail
  refine Lh (v:=.tuple #[.agg #[.string x.nm,.slice x.I x.ni x.ci,.slice x.D x.nd x.cd,.slice x.U x.nu x.cu],.bool true]) ?_ rfl ?_
  ·clear HB
   simp [results,Tryz.results78,go_sem,F2]
  ·exact ⟨HB.out,.inr ⟨x,HF.out.1,HF.out.2,rfl⟩⟩
def WI (ni nd nu:Nat) (ev:Int):Int:=if ev=1 then ni else if ev=2 then nu else if ev=3 then nd else 0
theorem ZgT (w:World) (s:ByteArray) (I:Option Addr) (ni ci:Nat) (D:Option Addr) (nd cd:Nat) (U:Option Addr) (nu cu:Nat) (ev:Int):Calls Tryz.prog 81 #[.agg #[.string s,.slice I ni ci,.slice D nd cd,.slice U nu cu],.int .i64 ev] w fun e w' =>e=.returned (.int .i64 (WI ni nd nu ev))∧Below w.heap.size w w' :=by
 have K0:=(Hold.Yi w).Za #[.string s,.slice I ni ci,.slice D nd cd,.slice U nu cu] 103
 have F0:=K0.facts
 simp only [zg] at F0
 go_enter Tryz.func81,Tryz.ntmps81
 by_cases e1:ev=1
 ·subst e1
  go_wp2_with fail
  go_ret
  exact ⟨rfl,K0.below⟩
 ·have b1:(ev==1)=false:=by simpa using e1
  by_cases e2:ev=2
  ·subst e2
   go_wp2_with fail
   go_ret
   exact ⟨rfl,K0.below⟩
  ·have b2:(ev==2)=false:=by simpa using e2
   by_cases e3:ev=3
   ·subst e3
    go_wp2_with fail
    go_ret
    exact ⟨rfl,K0.below⟩
   ·have b3:(ev==3)=false:=by simpa using e3
    have HC:=hid (show WI ni nd nu ev=0 from by unfold WI;rw [Lf e1,Lf e2,Lf e3])
    clear e1 e2 e3
    go_wp2_with fail
    go_ret
    exact ⟨by rw [HC.out]<;>rfl,K0.below⟩
def YB (s:ByteArray) (x:Te):Bool:=x.nm.toList==s.toList
def Zd5 (w:World) (M:Nat→Prop) (nm:ByteArray) (cs:List Col) (e:Ending) (w' :World):Prop:=∃ (C:Option Addr) (q cap:Nat),e=.returned (.tuple #[.agg #[.string nm,.slice C q cap],.bool true])∧q=cs.length∧Ro w' M (ColsIn C q cs)∧Below w.heap.size w w'
theorem ZgR (w:World) (x:Te) (b:Nat) (s:ByteArray) (t:TypeId) (hb:w.heap[b]? =some (.cells #[.string s] t (0,0))):
  Calls Tryz.prog 107 #[.agg #[.string x.nm,.slice x.A x.n x.c,.int .i64 x.nx,.slice x.B x.m x.d],.pointer (some ⟨b,0,none⟩)] w fun e w' =>e=.returned (.bool (YB s x))∧Below w.heap.size w w' :=by
 have hbl:b<w.heap.size:=Blk.lt (t:=t) (cs:=#[.string s]) hb
 have K0:=((Hold.Yi w).Wp (g:=b) (t:=t) (cs:=#[.string s]) (fun w2 h1 h2=>(h2 b hbl (by simp [Mut,Zc])).trans hb)).Za #[.string x.nm,.slice x.A x.n x.c,.int .i64 x.nx,.slice x.B x.m x.d] 69
 have F0:=K0.facts
 simp only [zg] at F0
 go_enter Tryz.func107,Tryz.ntmps107
 go_wp2_with fail
 go_ret
 exact ⟨rfl,K0.below⟩
theorem Za7 (M:Nat→Prop) (w:World) (hM:∀ b,M b→b<w.heap.size) (A:Option Addr) (n c:Nat) (l:List Te) (b:Nat) (s:ByteArray) (t:TypeId) (hB:Ro w M (fun w=>w.heap[b]? =some (.cells #[.string s] t (0,0)))) (hD:Ro w M (TesIn A n l)) (hn:n≤4611686018427387904):
  Calls Tryz.prog 74 #[.slice A n c,.func (.func 107) #[] #[.pointer (some ⟨b,0,none⟩)]] w fun e w' =>e=.returned (.int .i64 (Ze (YB s) l))∧Below w.heap.size w w' :=by
 have HL:=hid hD.now.len
 have K0:=(((Hold.start M w hM).add (hB.less (by simp [Mut]))).add (hD.less (by simp [Mut,Hp.foot])))
 go_enter Tryz.func74,Tryz.ntmps74
 go_wp2_with fail
 go_loopw [8] (fun iv wr=>∃ (k:Nat),k≤n∧iv=.int .i64 k∧Hid (Ze (YB s) l=Zy (YB s) k (l.drop k))∧Hold M none w wr [.ro (TesIn A n l),.ro (fun w=>w.heap[b]? =some (.cells #[.string s] t (0,0)))]) (fun iv _=>n - (intOf iv).toNat)
 case atStart=>exact ⟨0,by omega,rfl,hid rfl,K0⟩
 case round=>
  clear K0
  obtain ⟨k,hk,rfl,HC,H⟩:=hrel
  by_cases hlt:k<n
  ·have hd:decide ((k:Int)<(n:Int))=true:=by simp;omega
   have i0:(0:Int)≤(k:Int):=by omega
   have i1:(k:Int)<(n:Int):=by omega
   obtain ⟨x,hx⟩:=Zl HL.out hlt
   obtain ⟨g,o,rfl,hb,c0,c1,c2,c3,-⟩:=(H.ro 0 rfl).now.at_ hx
   have HX:=hid hx
   clear hx
   go_wp2_with fail
   refine (ZgR wr x b s t (H.ro 1 rfl).now).mono ?_
   rintro e w1 ⟨rfl,b1⟩
   have K1:=H.call b1
   clear H b1
   cases hz:YB s x
   ·have HN:=hid (XZ HC.out HX.out hz)
    clear hz
    go_wp2_with fail
    go_roundw
    case rel=>exact ⟨k+1,by omega,by go_num,HN,K1⟩
    case measure=>simp [intOf];omega
   ·have HN:=hid (show Ze (YB s) l=(k:Int) from Ww HC.out HX.out hz)
    clear hz
    go_wp2_with fail
    go_ret
    exact ⟨by rw [HN.out]<;>rfl,K1.below⟩
  ·obtain rfl:n=k:=by omega
   have hd:decide ((n:Int)<(n:Int))=false:=by simp
   have HN:=hid (show Ze (YB s) l=-1 from XY HC.out (by rw [HL.out];exact Kg _))
   go_wp2_with fail
   go_ret
   exact ⟨by rw [HN.out]<;>rfl,H.below⟩
theorem ZgO (M:Nat→Prop) (w:World) (hM:∀ b,M b→b<w.heap.size) (A:Option Addr) (n c:Nat) (l:List Te) (s:ByteArray) (hD:Ro w M (TesIn A n l)) (hn:n≤4611686018427387904) (hf:Ze (YB s) l=-1):
  Calls Tryz.prog 70 #[.slice A n c,.string s] w fun e w' =>e=.returned (.tuple #[.agg #[.string ⟨#[]⟩,.slice none 0 0],.bool false])∧Below w.heap.size w w' :=by
 have K0:=(((Hold.start M w hM).add (hD.less (by simp [Mut]))).Za #[.string s] 9).alloc #[.string ⟨#[]⟩,.slice none 0 0] 66
 simp only [World.size_alloc] at K0
 have F0:=K0.facts
 simp only [zg] at F0
 have hce:=Za7 _ _ K0.Zb A n c l w.heap.size s 9 (K0.get 1 rfl) (K0.ro 2 rfl) hn
 rw [hf] at hce
 go_enter Tryz.func70,Tryz.ntmps70
 go_wp2_with fail
 refine hce.mono ?_
 rintro e w1 ⟨rfl,b1⟩
 have K1:=K0.call b1
 clear K0 F0 hce b1
 have F1:=K1.facts
 simp only [zg] at F1
 have K2:=(K1.store 0 rfl 0 (.string ⟨#[]⟩)).store 0 rfl 1 (.slice none 0 0)
 simp only [zl] at K2
 have F2:=K2.facts
 simp only [zg] at F2
 have HB:=hid K2.below
 clear K1 K2
 go_wp2_with fail
 exact bodyPost_ret (v:=.tuple #[.agg #[.string ⟨#[]⟩,.slice none 0 0],.bool false]) (by simp [results,Tryz.results70,go_sem,F2]) rfl ⟨rfl,HB.out⟩
theorem ZgP (M:Nat→Prop) (w:World) (hM:∀ b,M b→b<w.heap.size) (A:Option Addr) (n c:Nat) (l:List Te) (s:ByteArray) (hD:Ro w M (TesIn A n l)) (hn:n≤4611686018427387904) (k:Nat) (x:Te) (hx:l[k]? =some x) (hf:Ze (YB s) l=(k:Int)) (hxn:x.n≤4398046511104):
  Calls Tryz.prog 70 #[.slice A n c,.string s] w fun e w' =>Zd5 w M x.nm x.cs e w' :=by
 have K0:=(((Hold.start M w hM).add (hD.less (by simp [Mut]))).Za #[.string s] 9).alloc #[.string ⟨#[]⟩,.slice none 0 0] 66
 simp only [World.size_alloc] at K0
 have F0:=K0.facts
 simp only [zg] at F0
 have hce:=Za7 _ _ K0.Zb A n c l w.heap.size s 9 (K0.get 1 rfl) (K0.ro 2 rfl) hn
 rw [hf] at hce
 have hkn:k<n:=by rw [←hD.now.len];exact (Kc.1 hx).1
 have HX:=hid hx
 clear hx hf
 go_enter Tryz.func70,Tryz.ntmps70
 go_wp2_with fail
 refine hce.mono ?_
 rintro e w1 ⟨rfl,b1⟩
 have KA:=K0.call b1
 clear K0 F0 hce b1 hD
 obtain ⟨b,o,rfl,hb,c0,c1,-,-,-⟩:=(KA.ro 2 rfl).now.at_ HX.out
 have KB:=(KA.add (S:=ColsIn x.A x.n x.cs) ((KA.ro 2 rfl).imp fun w2 h2=>(h2.2 x (Ka HX.out)).1)).alloc #[.string x.nm,.slice x.A x.n x.c] 66
 have K1:=KB
 have F1:=K1.facts
 simp only [zg] at F1
 clear KA K1
 obtain ⟨xnm,xA,xn,xc,xcs,xnx,xB,xm,xd,xl⟩:=x
 go_wp2_with fail
 refine (ZaG _ _ KB.Zb xA xn xc xcs (KB.ro 1 rfl) hxn).mono ?_
 rintro e w2 ⟨C,q,cap,rfl,hq,hqc,hcap,rC,b2⟩
 have K2:=(KB.call b2).add rC
 clear F1 KB b2 rC c0 c1
 have HQ:=hid hq
 clear hq
 obtain ⟨g,hg⟩:∃ g,g=w1.heap.size:=⟨_,rfl⟩
 rw [←hg] at K2 ⊢
 have HG:=hid hg
 clear hg
 have F2:=K2.facts
 simp only [zg] at F2
 have K3:=K2.store 1 rfl 1 (.slice C q cap)
 simp only [zl] at K3
 have F3:=K3.facts
 simp only [zg] at F3
 have K4:=(K3.store 3 rfl 0 (.string xnm)).store 3 rfl 1 (.slice C q cap)
 simp only [zl] at K4
 have F4:=K4.facts
 simp only [zg] at F4
 have HR:=hid ((K4.ro 0 rfl).less zm)
 have HB:=hid K4.below
 clear K2 K3 K4
 go_wp2_with fail
 refine Lh (v:=.tuple #[.agg #[.string xnm,.slice C q cap],.bool true]) ?_ rfl ?_
 ·clear HR HB
  simp [results,Tryz.results70,go_sem,F4]
 ·exact ⟨C,q,cap,rfl,HQ.out,HR.out,HB.out⟩
def Gb (A:Option Addr) (n:Nat) (l:List Tg) (w:World):Prop:=SlR 11 A n (l.flatMap Tg.cells) w∧∀ t∈l,SlR 1 t.cols.A t.cols.n (Yz t.cols.l) w
def DeB (x:De):Prop:=x.ni≤1000∧x.nd≤1000∧x.nu≤1000∧(∀ r∈x.li,r.n≤4398046511104)∧(∀ r∈x.ld,r.n≤4398046511104)∧∀ p∈x.lu,p.on≤4398046511104∧p.nn≤4398046511104
def Vn (t:Tg) (m:List Row × List Row × List Upd):List Sh:=
 if t.each then m.1.map (Vv t.name)++m.2.1.map (Uw t.name)++m.2.2.map (Jw t.name) else if 0<WI m.1.length m.2.1.length m.2.2.length t.event then [(t.name,0,0,0)] else []
def Ye (tl:List Te) (l:List De) (t:Tg):List Sh:=
 match l.find? (YS t.tab),tl.find? (YB t.tab) with
 | some d,some y=>if t.before then [] else Vn t (Yn t.event t.cols.l y.cs (d.li.map Rw.row) (d.ld.map Rw.row) (d.lu.map Pr.upd))
 | _,_=>[]
theorem Jc {tl:List Te} {l:List De} {gl:List Tg} {j:Nat} {outs:List Itm} {t:Tg} (h:outs.map Itm.sh=(gl.take j).flatMap (Ye tl l)) (hx:gl[j]? =some t) (hz:Ye tl l t=[]):outs.map Itm.sh=(gl.take (j+1)).flatMap (Ye tl l):=by
 rw [h,UA hx,List.flatMap_append]
 simp [hz]
theorem ZbS {tl:List Te} {l:List De} {gl:List Tg} {j:Nat} {outs more:List Itm} {t:Tg} (h:outs.map Itm.sh=(gl.take j).flatMap (Ye tl l)) (hx:gl[j]? =some t) (hz:more.map Itm.sh=Ye tl l t):(outs++more).map Itm.sh=(gl.take (j+1)).flatMap (Ye tl l):=by
 rw [Km,h,UA hx,List.flatMap_append,hz]
 simp
theorem Zb4 (ev:Int) (ol:List ByteArray) (cl:List Col) (ins del:List Row) (upd:List Upd):(Yn ev ol cl ins del upd).1.length≤ins.length∧(Yn ev ol cl ins del upd).2.1.length≤del.length∧(Yn ev ol cl ins del upd).2.2.length≤upd.length:=by
 unfold Yn
 split
 ·exact ⟨Kg _,Lc _,Lc _⟩
 ·split
  ·exact ⟨Lc _,Kg _,Lc _⟩
  ·split
   ·exact ⟨Lc _,Lc _,List.length_filter_le _ _⟩
   ·exact ⟨Lc _,Lc _,Lc _⟩
theorem ZiZ (l:List Itm):∀ u∈Yd l,u.oneCell' =true:=fun u hu=>by
 unfold Yd at hu
 rw [List.mem_flatMap] at hu
 obtain ⟨x,_,hx⟩:=hu
 simp only [Itm.cells,List.mem_cons,List.not_mem_nil,or_false] at hx
 rcases hx with rfl|rfl|rfl|rfl<;>rfl
theorem ZgX (M:Nat→Prop) (w:World) (hM:∀ b,M b→b<w.heap.size) (A:Option Addr) (n c:Nat) (l:List De) (s:ByteArray) (hD:Ro w M (DesIn A n l)) (hn:n≤1000000):
  Calls Tryz.prog 78 #[.slice A n c,.string s] w fun e w' =>∃ (d:De) (ok:Bool),e=.returned (.tuple #[d.val,.bool ok])∧(ok=false→l.find? (YS s)=none)∧(ok=true→l.find? (YS s)=some d∧d∈l)∧Below w.heap.size w w' :=(ZgW M w hM A n c l s hD hn).mono fun e w' ⟨hb,h⟩=>by
 rcases h with ⟨hf,rfl⟩|⟨x,hf,hm,rfl⟩
 ·exact ⟨⟨⟨#[]⟩,none,0,0,[],none,0,0,[],none,0,0,[]⟩,false,rfl,fun _=>hf,fun h=>(nomatch h),hb⟩
 ·exact ⟨x,true,rfl,fun h=>(nomatch h),fun _=>⟨hf,hm⟩,hb⟩
theorem ZgQ (M:Nat→Prop) (w:World) (hM:∀ b,M b→b<w.heap.size) (A:Option Addr) (n c:Nat) (l:List Te) (s:ByteArray) (hD:Ro w M (TesIn A n l)) (hn:n≤4611686018427387904) (hb:∀ x∈l,x.n≤1000):
  Calls Tryz.prog 70 #[.slice A n c,.string s] w fun e w' =>∃ (nm:ByteArray) (C:Option Addr) (q cap:Nat) (ok:Bool) (cs:List Col),e=.returned (.tuple #[.agg #[.string nm,.slice C q cap],.bool ok])∧(ok=false→l.find? (YB s)=none)∧(ok=true→(l.find? (YB s)).map Te.cs=some cs)∧q≤1000∧Ro w' M (SlR 4 C q (Zf cs))∧Below w.heap.size w w' :=by
 obtain ⟨kt,hkt⟩:∃ z:Int,Ze (YB s) l=z:=⟨_,rfl⟩
 have hrg:=find_range (YB s) l
 by_cases hneg:kt<0
 ·have h1:Ze (YB s) l=-1:=by omega
  refine (ZgO M w hM A n c l s hD hn h1).mono ?_
  rintro e w3 ⟨rfl,b3⟩
  exact ⟨_,_,_,_,false,[],rfl,fun _=>Zbn h1,fun h=>(nomatch h),by omega,fun w2 _ _=>ZG 4 w2,b3⟩
 ·obtain ⟨k,rfl⟩:∃ k:Nat,kt=(k:Int):=⟨kt.toNat,by omega⟩
  obtain ⟨x,hx,hf⟩:=Zbo hkt
  have hxb:=hb x (Ka hx)
  have hl:=(RdC.ZW (show SlR 4 x.A x.n (Zf x.cs) _ from (hD.now.2 x (Ka hx)).1)).len
  refine (ZgP M w hM A n c l s hD hn k x hx hkt (by omega)).mono ?_
  rintro e w3 ⟨C,q,cap,rfl,hq,rC,b3⟩
  exact ⟨_,C,q,cap,true,x.cs,rfl,fun h=>(nomatch h),fun _=>by rw [hf];rfl,by omega,rC,b3⟩
theorem ZhX (M:Nat→Prop) (w:World) (hM:∀ b,M b→b<w.heap.size) (gA:Option Addr) (gn gc:Nat) (gl:List Tg) (tA:Option Addr) (tn_ tc:Nat) (tl:List Te) (A:Option Addr) (n c:Nat) (l:List De) (hG:Ro w M (Gb gA gn gl)) (hT:Ro w M (TesIn tA tn_ tl)) (hD:Ro w M (DesIn A n l)) (hgn:gn≤1000) (hgb:∀ t∈gl,t.cols.n≤1000) (htn:tn_≤1000) (htb:∀ x∈tl,x.n≤1000) (hn:n≤1000) (hb:∀ x∈l,DeB x):Calls Tryz.prog 39 #[.slice gA gn gc,.slice tA tn_ tc,.slice A n c] w fun e w' =>Zai w M (gl.flatMap (Ye tl l)) e w' :=by
 have HL:=hid (show gl.length=gn from by
  have h:=(show Rd _ _ 11 gA gn (gl.flatMap Tg.cells) from hG.now.1).1
  rw [YL Tg.cells 11 (fun _=>rfl)] at h
  omega)
 have HGB:=hid hgb
 have HTB:=hid htb
 have HB:=hid hb
 have K0:=(((Hold.start M w hM).add (hD.less (by simp [Mut]))).add (hT.less (by simp [Mut,Hp.foot]))).add (hG.less (by simp [Mut,Hp.foot]))|>.nil 157 4
 clear hG hT hD hgb htb hb
 go_enter Tryz.func39,Tryz.ntmps39
 go_wp2_with fail
 go_loopw [7,16] (fun ov iv wr=>∃ (j k cap:Nat) (O:Option Addr) (outs:List Itm),j≤gn∧k≤3000 * j∧iv=.int .i64 j∧ov=.slice O k cap∧Hid (outs.map Itm.sh=(gl.take j).flatMap (Ye tl l))∧Hold M none w wr [.own 157 4 (.slice O k cap) k (Yd outs),.ro (Gb gA gn gl),.ro (TesIn tA tn_ tl),.ro (DesIn A n l)]) (fun _ iv _=>gn - (intOf iv).toNat)
 case atStart=>exact ⟨0,0,0,none,[],by omega,by omega,rfl,rfl,hid rfl,K0⟩
 case round=>
  clear K0
  obtain ⟨j,k,cap,O,outs,hj,hk,rfl,rfl,HO,H⟩:=hrel
  by_cases hlt:j<gn
  ·skip
   obtain ⟨⟨tn,tt,tb,te,⟨oA,on,oc,ol⟩,tch,⟨pA,pn,pc,pl⟩,⟨qA,qn,qc,ql⟩,⟨rA,rn,rc,rl⟩,⟨kA,kn,kc,kl⟩,⟨aA,an,ac,al⟩⟩,hx⟩:∃ x,gl[j]? =some x:=Zl HL.out hlt
   obtain ⟨b,o,rfl,hb,hcl⟩:=(show ∃ b o,gA=some ⟨b,o,none⟩∧b<wr.heap.size∧∀ q u,q<11→(Tg.cells ⟨tn,tt,tb,te,⟨oA,on,oc,ol⟩,tch,⟨pA,pn,pc,pl⟩,⟨qA,qn,qc,ql⟩,⟨rA,rn,rc,rl⟩,⟨kA,kn,kc,kl⟩,⟨aA,an,ac,al⟩⟩)[q]? =some u→World.cell? wr ⟨b,o+j * 11+q,none⟩=some u from by
    obtain ⟨b,o,e,hb,hcl⟩:=(show Rd _ _ 11 gA gn (gl.flatMap Tg.cells) from (H.ro 1 rfl).now.1).2 (by omega)
    refine ⟨b,o,e,hb,fun q u hq hu=>?_⟩
    rw [Nat.add_assoc]
    exact hcl _ _ ((flat_get Tg.cells 11 (fun _=>rfl) gl j q _ hq hx).trans hu))
   have x0:=hcl 0 _ (by omega) rfl
   have x1:=hcl 1 _ (by omega) rfl
   have x2:=hcl 2 _ (by omega) rfl
   have x3:=hcl 3 _ (by omega) rfl
   have x4:=hcl 4 _ (by omega) rfl
   have x5:=hcl 5 _ (by omega) rfl
   have x6:=hcl 6 _ (by omega) rfl
   have x7:=hcl 7 _ (by omega) rfl
   have x8:=hcl 8 _ (by omega) rfl
   have x9:=hcl 9 _ (by omega) rfl
   have x10:=hcl 10 _ (by omega) rfl
   simp only [Nat.add_zero,SlP.v] at x0 x1 x2 x3 x4 x5 x6 x7 x8 x9 x10
   have hmx:=Ka hx
   have hon:on≤1000:=HGB.out _ hmx
   have HX:=hid hx
   clear hcl hx
   have K1:=H.Za #[.string tn,.string tt,.bool tb,.int .i64 te,.slice oA on oc,.bool tch,.slice pA pn pc,.slice qA qn qc,.slice rA rn rc,.slice kA kn kc,.slice aA an ac] 48
   obtain ⟨g9,hg9⟩:∃ g,g=wr.heap.size:=⟨_,rfl⟩
   rw [←hg9] at K1
   clear H
   go_upto_region 5 with fail
   rw [←hg9]
   have HG9:=hid hg9
   clear hg9 x0 x1 x2 x3 x4 x5 x6 x7 x8 x9 x10
   generalize World.alloc _ _=w1 at K1 ⊢
   have F1:=K1.facts
   simp only [zg] at F1
   go_wp2_with fail
   clear F1
   refine (ZgX (Mut M _) _ K1.Zb A n c l tt (K1.ro 4 rfl) (by omega)).mono ?_
   rintro e w2 ⟨d,fd,rfl,hfd1,hfd2,b2⟩
   have K2:=(K1.call b2).alloc #[.string d.nm,.slice d.I d.ni d.ci,.slice d.D d.nd d.cd,.slice d.U d.nu d.cu] 103
   obtain ⟨g10,hg10⟩:∃ g,g=w2.heap.size:=⟨_,rfl⟩
   rw [←hg10] at K2
   clear K1 b2
   have F2:=K2.facts
   simp only [zg] at F2
   rw [hg10] at F2
   simp only [De.val]
   go_upto_region 6 with fail
   rw [←hg10]
   have HG10:=hid hg10
   clear hg10 F2
   generalize World.alloc _ _=w2b at K2 ⊢
   have F2:=K2.facts
   simp only [zg] at F2
   go_wp2_with fail
   clear F2
   refine (ZgQ (Mut M _) _ K2.Zb tA tn_ tc tl tt (K2.ro 4 rfl) (by omega) HTB.out).mono ?_
   rintro e w3 ⟨ynm,C3,q3,cap3,kb,ycs,rfl,hk1,hk2,hq3b,r3,b3⟩
   have K3:=((K2.call b3).add r3).Za #[.string ynm,.slice C3 q3 cap3] 66
   clear K2 b3 r3
   obtain ⟨g12,hg12⟩:∃ g,g=w3.heap.size:=⟨_,rfl⟩
   rw [←hg12] at K3
   have F3:=K3.facts
   simp only [zg] at F3
   rw [hg12] at F3
   go_upto_region 7 with fail
   rw [←hg12]
   have HG12:=hid hg12
   clear hg12 F3
   generalize World.alloc _ _=w3b at K3 ⊢
   have F3:=K3.facts
   simp only [zg] at F3
   cases kb
   ·have HT0:=hid (hk1 rfl)
    have HZ:=hid (show Ye tl l ⟨tn,tt,tb,te,⟨oA,on,oc,ol⟩,tch,⟨pA,pn,pc,pl⟩,⟨qA,qn,qc,ql⟩,⟨rA,rn,rc,rl⟩,⟨kA,kn,kc,kl⟩,⟨aA,an,ac,al⟩⟩=[] from by unfold Ye;rw [HT0.out];cases l.find? (YS tt)<;>rfl)
    clear hfd1 hfd2 hk1 hk2
    cases tb<;>cases fd<;>(go_wp2_with fail;go_roundw;(case rel=>exact ⟨j+1,k,cap,O,outs,by omega,by omega,by go_num,by first|rfl|trivial,hid (Jc HO.out HX.out HZ.out),K3.pick [4,5,6,7] (by decide) rfl⟩);(case measure=>simp [intOf];omega))
   ·have HT1:=hid (hk2 rfl)
    clear hk1 hk2
    cases tb
    ·cases fd
     ·have HZ:=hid (show Ye tl l ⟨tn,tt,false,te,⟨oA,on,oc,ol⟩,tch,⟨pA,pn,pc,pl⟩,⟨qA,qn,qc,ql⟩,⟨rA,rn,rc,rl⟩,⟨kA,kn,kc,kl⟩,⟨aA,an,ac,al⟩⟩=[] from by unfold Ye;rw [hfd1 rfl])
      clear hfd1 hfd2
      (go_wp2_with fail;go_roundw;(case rel=>exact ⟨j+1,k,cap,O,outs,by omega,by omega,by go_num,by first|rfl|trivial,hid (Jc HO.out HX.out HZ.out),K3.pick [4,5,6,7] (by decide) rfl⟩);(case measure=>simp [intOf];omega))
     ·skip
      have HF:=hid (hfd2 rfl)
      have HDB:=hid (HB.out d (hfd2 rfl).2)
      have hdb:=HDB.out
      have hdb1:d.ni≤1000:=hdb.1
      have hdb2:d.nd≤1000:=hdb.2.1
      have hdb3:d.nu≤1000:=hdb.2.2.1
      have hmd:=(hfd2 rfl).2
      have HI:=hid (show Ye tl l ⟨tn,tt,false,te,⟨oA,on,oc,ol⟩,tch,⟨pA,pn,pc,pl⟩,⟨qA,qn,qc,ql⟩,⟨rA,rn,rc,rl⟩,⟨kA,kn,kc,kl⟩,⟨aA,an,ac,al⟩⟩=Vn ⟨tn,tt,false,te,⟨oA,on,oc,ol⟩,tch,⟨pA,pn,pc,pl⟩,⟨qA,qn,qc,ql⟩,⟨rA,rn,rc,rl⟩,⟨kA,kn,kc,kl⟩,⟨aA,an,ac,al⟩⟩ (Yn te ol ycs (d.li.map Rw.row) (d.ld.map Rw.row) (d.lu.map Pr.upd)) from by unfold Ye;have h:=HT1.out;revert h;rw [HF.out.1];cases tl.find? (YB tt) with|none=>intro h;cases h|some y=>intro h;obtain rfl:=(Kz h);rfl)
      clear hfd1 hfd2
      have K4:=((K3.add (S:=SlR 1 oA on (Yz ol)) ((K3.ro 5 rfl).imp fun w2 h2=>h2.2 _ hmx)).add (S:=Zaf d) (((K3.ro 7 rfl).imp fun w2 h2=>h2.2 d hmd).less (by simp [ZL,Mut,Hp.foot])))
      clear K3 F3
      have F4:=K4.facts
      simp only [zg] at F4
      go_wp2_with fail
      clear F4
      refine (Zio (Mut M _) _ K4.Zb ⟨tn,tt,false,te,⟨oA,on,oc,ol⟩,tch,⟨pA,pn,pc,pl⟩,⟨qA,qn,qc,ql⟩,⟨rA,rn,rc,rl⟩,⟨kA,kn,kc,kl⟩,⟨aA,an,ac,al⟩⟩ ynm C3 q3 cap3 ycs d.nm d.I d.ni d.ci d.li d.D d.nd d.cd d.ld d.U d.nu d.cu d.lu (K4.ro 1 rfl) (K4.ro 3 rfl) ((K4.ro 0 rfl).imp fun w2 h2=>h2.1) ((K4.ro 0 rfl).imp fun w2 h2=>h2.2.1) ((K4.ro 0 rfl).imp fun w2 h2=>h2.2.2) hon hq3b (by omega) (by omega) (by omega) ⟨hdb.2.2.2.1,hdb.2.2.2.2.1⟩ hdb.2.2.2.2.2).mono ?_
      rintro e w4 ⟨I2,ni2,ci2,li2,D2,nd2,cd2,ld2,U2,nu2,cu2,lu2,rfl,hm,hc1,hc2,hc3,rI,rD,rU,b4⟩
      have hl1:li2.length=ni2:=rI.now.len
      have hl2:ld2.length=nd2:=rD.now.len
      have hl3:lu2.length=nu2:=rU.now.len
      have hle:=Zb4 te ol ycs (d.li.map Rw.row) (d.ld.map Rw.row) (d.lu.map Pr.upd)
      rw [←hm] at hle
      simp only [List.length_map] at hle
      have hdl:d.li.length=d.ni∧d.ld.length=d.nd∧d.lu.length=d.nu:=⟨(K4.ro 0 rfl).now.1.len,(K4.ro 0 rfl).now.2.1.len,(K4.ro 0 rfl).now.2.2.len⟩
      have hN2:ni2≤1000∧nd2≤1000∧nu2≤1000:=⟨by omega,by omega,by omega⟩
      have HN2:=hid hN2
      have HM:=hid hm
      have HLL:=hid (KJ hl1 (KJ hl2 hl3))
      have K5:=((((K4.call b4).add rI).add (rD.less (by simp [ZL,Hp.foot]))).add (rU.less (by simp [ZL,Hp.foot])))
      clear K4 b4 rI rD rU hm hc1 hc2 hc3 hle hdl hl1 hl2 hl3 hN2 hdb
      have F5:=K5.facts
      simp only [zg] at F5
      have K6:=(((K5.store 7 rfl 0 (.string d.nm)).store 7 rfl 1 (.slice I2 ni2 ci2)).store 7 rfl 2 (.slice D2 nd2 cd2)).store 7 rfl 3 (.slice U2 nu2 cu2)
      simp only [zl] at K6
      have F6:=K6.facts
      simp only [zg] at F6
      clear K5
      cases tch
      ·go_wp2_with fail
       clear F5
       refine (ZgT _ d.nm I2 ni2 ci2 D2 nd2 cd2 U2 nu2 cu2 te).mono ?_
       rintro e w5 ⟨rfl,b5⟩
       have K7:=K6.call b5
       clear K6 b5 F6
       have F7:=K7.facts
       simp only [zg] at F7
       obtain ⟨cz,hcz⟩:∃ z:Int,WI ni2 nd2 nu2 te=z:=⟨_,rfl⟩
       rw [hcz]
       have HCZ:=hid (show WI (li2.map Rw.row).length (ld2.map Rw.row).length (lu2.map Pr.upd).length te=cz from by rw [Kj,Kj,Kj,HLL.out.1,HLL.out.2.1,HLL.out.2.2];exact hcz)
       clear hcz
       by_cases hpos:0<cz
       ·have hpb:decide (0<cz)=true:=by simpa using hpos
        have HZ:=hid (show Ye tl l ⟨tn,tt,false,te,⟨oA,on,oc,ol⟩,false,⟨pA,pn,pc,pl⟩,⟨qA,qn,qc,ql⟩,⟨rA,rn,rc,rl⟩,⟨kA,kn,kc,kl⟩,⟨aA,an,ac,al⟩⟩=[(tn,0,0,0)] from by rw [HI.out,←HM.out];unfold Vn;simp only [Bool.false_eq_true,if_false];rw [HCZ.out,Lg hpos])
        go_wp2_with (at_builtin;go_must (refine ZJ K7 9 rfl Tryz.WK #[.string tn,.int .i64 0,.slice none 0 0,.slice none 0 0] rfl (.tmp 62) (.tmp 66) rfl rfl _ (by first|rfl|simp) rfl rfl (by intro u hu;simp at hu;rcases hu with rfl|rfl|rfl|rfl<;>rfl) (by omega) (by omega) ?_);intro gA2 capA wA hcA hmA KA;simp only [zl] at KA)
        rw [show Yd outs++(#[.string tn,.int .i64 0,.slice none 0 0,.slice none 0 0]:Array Value).toList=Yd (outs++[⟨tn,0,none,0,0,none,0,0⟩]) from (Jb outs ⟨tn,0,none,0,0,none,0,0⟩).symm] at KA
        go_roundw
        case rel=>exact ⟨j+1,k+1,capA,_,outs++[⟨tn,0,none,0,0,none,0,0⟩],by omega,by omega,by go_num,by first|rfl|trivial,hid (ZbS HO.out HX.out (by rw [HZ.out];rfl)),KA.pick [9,10,11,12] (by decide) rfl⟩
        case measure=>simp [intOf];omega
       ·have hpb:decide (0<cz)=false:=by simpa using hpos
        have HZ:=hid (show Ye tl l ⟨tn,tt,false,te,⟨oA,on,oc,ol⟩,false,⟨pA,pn,pc,pl⟩,⟨qA,qn,qc,ql⟩,⟨rA,rn,rc,rl⟩,⟨kA,kn,kc,kl⟩,⟨aA,an,ac,al⟩⟩=[] from by rw [HI.out,←HM.out];unfold Vn;simp only [Bool.false_eq_true,if_false];rw [HCZ.out,Lf hpos])
        go_wp2_with fail
        go_roundw
        case rel=>exact ⟨j+1,k,cap,O,outs,by omega,by omega,by go_num,by first|rfl|trivial,hid (Jc HO.out HX.out HZ.out),K7.pick [9,10,11,12] (by decide) rfl⟩
        case measure=>simp [intOf];omega
      ·go_wp2_with fail
       clear F5
       refine (ZgS (Mut M _) _ K6.Zb ⟨tn,tt,false,te,⟨oA,on,oc,ol⟩,true,⟨pA,pn,pc,pl⟩,⟨qA,qn,qc,ql⟩,⟨rA,rn,rc,rl⟩,⟨kA,kn,kc,kl⟩,⟨aA,an,ac,al⟩⟩ d.nm I2 ni2 ci2 li2 D2 nd2 cd2 ld2 U2 nu2 cu2 lu2 (K6.ro 2 rfl) (K6.ro 1 rfl) (K6.ro 0 rfl) (by have:=HN2.out;omega) (by have:=HN2.out;omega) (by have:=HN2.out;omega)).mono ?_
       rintro e w5 ⟨RA,rn2,rc2,rl2,rfl,hrl,hrc,rR,b5⟩
       have hrn:rl2.length=rn2:=by
        have h:=(show Rd _ _ 4 RA rn2 (Yd rl2) from rR.now).1
        rw [ZbQ] at h
        omega
       have hrb:rn2≤3000:=by
        have h:=congrArg List.length hrl
        simp only [List.length_map,List.length_append] at h
        have h2:=HN2.out
        have h3:=HLL.out
        omega
       have HRL:=hid hrl
       have K7:=(K6.call b5).add rR
       have HSR:=hid rR.now
       clear K6 b5 F6 rR hrl hrc hrn
       have F7:=K7.facts
       simp only [zg] at F7
       have HZ:=hid (show Ye tl l ⟨tn,tt,false,te,⟨oA,on,oc,ol⟩,true,⟨pA,pn,pc,pl⟩,⟨qA,qn,qc,ql⟩,⟨rA,rn,rc,rl⟩,⟨kA,kn,kc,kl⟩,⟨aA,an,ac,al⟩⟩=rl2.map Itm.sh from by rw [HI.out,←HM.out,HRL.out];simp only [Vn,if_true,List.map_map])
       go_wp2_with (at_builtin;go_must (refine ZX K7 10 rfl Tryz.WK HSR.out rfl (.tmp 51) (.tmp 54) rfl rfl rfl (ZiZ rl2) (by omega) (by omega) ?_);intro G1 gc1 wB hcB hmB KE;simp only [zl] at KE)
       rw [show Yd outs++Yd rl2=Yd (outs++rl2) by simp [Yd]] at KE
       go_roundw
       case rel=>exact ⟨j+1,k+rn2,gc1,G1,outs++rl2,by omega,by omega,by go_num,by first|rfl|trivial,hid (ZbS HO.out HX.out HZ.out.symm),KE.pick [10,11,12,13] (by decide) rfl⟩
       case measure=>simp [intOf];omega
    ·have HZ:=hid (show Ye tl l ⟨tn,tt,true,te,⟨oA,on,oc,ol⟩,tch,⟨pA,pn,pc,pl⟩,⟨qA,qn,qc,ql⟩,⟨rA,rn,rc,rl⟩,⟨kA,kn,kc,kl⟩,⟨aA,an,ac,al⟩⟩=[] from by unfold Ye;cases l.find? (YS tt)<;>cases tl.find? (YB tt)<;>rfl)
     clear hfd1 hfd2
     cases fd<;>(go_wp2_with fail;go_roundw;(case rel=>exact ⟨j+1,k,cap,O,outs,by omega,by omega,by go_num,by first|rfl|trivial,hid (Jc HO.out HX.out HZ.out),K3.pick [4,5,6,7] (by decide) rfl⟩);(case measure=>simp [intOf];omega))
  ·obtain rfl:gn=j:=by omega
   have hcap:=ZM (H.get 0 rfl)
   have KZ:=H.Zq 0 rfl
   simp only [List.set_cons_zero] at KZ
   have HR:=hid ((KZ.ro 0 rfl).less zm)
   have HBL:=hid KZ.below
   clear KZ H
   go_wp2_with fail
   go_ret
   exact ⟨O,k,cap,outs,rfl,by rw [HO.out,Kh (by rw [HL.out];exact Kg _)],⟨hcap.1,hcap.2.1⟩,HR.out,HBL.out⟩
end
end Go.Proofs.YtnmnkbnmollpmaaGreatDoor

import Derived.Test.YtnbbllkbefagmaaGreatDoorRkCtsSaidMAE
import Derived.Test.YtnbbllkbefagmaaGreatDoorRkCtsSaidMAF
import Derived.Test.YtnbbllkbefagmaaGreatDoorRkCtsSaidMX
import Derived.Test.YtnbbllkbefagmaaGreatDoorRkCtsSaidMW
import Derived.Test.YtnbbllkbefagmaaGreatDoorRkCtsSaidMO
import Derived.Test.YtnbbllkbefagmaaGreatDoorRkCtsSaidMH
import Derived.Test.YtnbbllkbefagmaaGreatDoorRkCtsSaidMG
import Derived.Deep.CutRange
import Derived.Deep.CutBlock
namespace Go.Proofs.YtnbbllkbefagmaaGreatDoor
open Go.RowKit
set_option linter.unusedVariables false
set_option linter.unusedSimpArgs false
theorem Gy {w:World} {A:Option Addr} {n k:Nat} {l:List Te} (h:TesIn A n l w) (hk:k≤n):TesIn A k (l.take k) w:=by
 have hl:=h.len
 refine ⟨⟨by rw [JF,List.length_take];omega,fun h0=>?_⟩,fun x hx=>h.2 x (List.mem_of_mem_take hx)⟩
 obtain ⟨b,o,e,hb,hc⟩:=(show Rd w w.heap.size 4 A n (ZI l) from h.1).2 (by omega)
 refine ⟨b,o,e,hb,fun j u hu=>hc j u ?_⟩
 have e1:ZI l=ZI (l.take k)++ZI (l.drop k):=by unfold ZI;rw [←List.flatMap_append,List.take_append_drop]
 rw [e1]
 exact (List.getElem?_append_left (List.getElem?_eq_some_iff.1 hu).1).trans hu
def WW (M:Nat→Prop) (x:Array Value) (v1 v2:Value) (n:Nat) (ys:List Value) (u:Value) (w:World):Prop:=∃ (g g8:Nat) (C:Option Addr) (cap:Nat),u=.slice (some ⟨g,0,none⟩) 4 4∧Ro w M (fun w=>w.heap[g]? =some (.cells #[v1,v2,.slice (some ⟨g8,0,none⟩) 1 1,.slice C n cap] 25 (0,0)))∧Ro w M (SlR 11 (some ⟨g8,0,none⟩) 1 x.toList)∧Ro w M (SlR 11 C n (x.toList++ys))
theorem ZaC {M:Nat→Prop} {x:Array Value} {v1 v2:Value} {n:Nat} {ys:List Value} (u:Value) (w w' :World) (hr:RM M w w') (h:WW M x v1 v2 n ys u w):WW M x v1 v2 n ys u w' :=by
 obtain ⟨g,g8,C,cap,h1,h2,h3,h4⟩:=h
 exact ⟨g,g8,C,cap,h1,hr.ro h2,hr.ro h3,hr.ro h4⟩
def YW (M:Nat→Prop) (x:Array Value) (u:Value) (w:World):Prop:=∃ g:Nat,u=.slice (some ⟨g,0,none⟩) 1 1∧Ro w M (SlR 11 (some ⟨g,0,none⟩) 1 x.toList)
theorem UG {M:Nat→Prop} {x:Array Value} (u:Value) (w w' :World) (hr:RM M w w') (h:YW M x u w):YW M x u w' :=by
 obtain ⟨g,h1,h2⟩:=h
 exact ⟨g,h1,hr.ro h2⟩
def Wn (M:Nat→Prop) (n:Nat) (ys:List Value) (u:Value) (w:World):Prop:=∃ (C:Option Addr) (cap:Nat),u=.slice C n cap∧Ro w M (SlR 11 C n ys)
theorem Gt {M:Nat→Prop} {n:Nat} {ys:List Value} (u:Value) (w w' :World) (hr:RM M w w') (h:Wn M n ys u w):Wn M n ys u w' :=by
 obtain ⟨C,cap,h1,h2⟩:=h
 exact ⟨C,cap,h1,hr.ro h2⟩
set_option maxHeartbeats 32000000 in
set_option maxRecDepth 100000 in
theorem Zb8 (d:Nat) (s:SlP Tg) (i:Int) (A:Option Addr) (n c:Nat) (zs:List Int) (w:World) (hs:RawTgs (d+1) w s) (hr:Rd w w.heap.size 1 A n (zs.map (Value.int .i64))) (hz:Ints zs) (hn:n≤c) (hc:c≤9223372036854775807) (hw:Wds w) (hTN:TNm w):
  Calls Tryz.prog 6 #[.slice s.A s.n s.c,.int .i64 i,.slice A n c] w fun e w' =>e=.returned (.bool true)∧Below w.heap.size w w' :=by
 obtain ⟨sA,sn,sc,sl⟩:=s
 simp only
 have hwl:=hw.lt
 have htl:=hTN.lt
 have HSF:=hid hs.fit
 have HSR:=hid hs.rk
 have hsi:=hs.ins
 simp only at hsi HSF HSR
 have HSL:=hid hsi.now.len
 have K0:=(Hold.YD w).add (hsi.less (by simp [Mut]))
 clear hs hsi
 by_cases h10:10<sn
 ·have hd10:decide ((sn:Int) > 10)=true:=by simp;omega
  have HB:=hid K0
  clear K0
  go_enter Tryz.func6,Tryz.ntmps6
  go_wp2_with fail
  refine (JB _ _ HB.out.Zc).mono ?_
  rintro e w3 ⟨rfl,b3⟩
  have HB:=hid (HB.out.call b3).below
  clear b3
  go_wp2_with fail
  go_ret
  exact ⟨rfl,HB.out⟩
 ·have hd10:decide ((sn:Int) > 10)=false:=by simp;omega
  go_enter Tryz.func6,Tryz.ntmps6
  go_wp2_with fail
  refine (ZfZ A n c zs _ hr hz hn hc).mono ?_
  rintro e w1 ⟨T,rfl,hT,t1,b1⟩
  have K1:=Hold.Zhu K0 b1 t1 hT (by simp [Mut,Zb,Hp.foot])
  have wd0:Wds w1:=hw.below b1 hwl
  have tn0:TNm w1:=hTN.keep (b1.block _ htl)
  have hT1:1<T:=by omega
  have K2:=(K1.add (wd0.ro2 (show ¬Mut Zb [.tp T,.ro _] 1 by simp [Mut,Zb,Hp.foot];omega))).add (tn0.ro2 (show ¬Mut Zb [.ro Wds,.tp T,.ro _] 0 by simp [Mut,Zb,Hp.foot];omega))
  clear K1 K0 wd0 tn0 t1 b1 hw hTN hr hwl htl hT
  go_wp2_with fail
  refine (Zgp (Mut Zb _) T _ K2.Zc (K2.tp_ 2 rfl) (K2.get 2 rfl).2 8 (by omega) ((K2.ro 1 rfl).less (XA (i:=2) rfl)) hT1 ((K2.ro 0 rfl).less (XA (i:=2) rfl))).mono ?_
  rintro e w2 ⟨gA,gn,gc,gl,O1,on1,oc1,ol1,rfl,hgl,hgn,hgc,hgc2,hgo,-,rG,-,t2,g2⟩
  have K3:=(Hold.Zf K2 2 rfl g2 t2).add rG
  have HGO:=hid hgo
  have HGL:=hid hgl
  clear K2 t2 g2 rG hgo hgl
  obtain ⟨KM,hKM,K4⟩:=K3.name
  have h4:KM[3]? =some (.tp T):=by rw [hKM];rfl
  have HH4:=hid h4
  have HKM:=hid hKM
  have hb0:∀ b,Mut Zb KM b→b<w2.heap.size:=K4.Zc
  clear hKM K3 h4
  go_upto_region 5 with fail
  refine wp_region_any (by kernel_rfl) ?_
  refine ZH 14 125 (KM) (spL [(26,ValsSlot (Mut Zb KM) 3 [.string ⟨#[110]⟩,.string ⟨#[109]⟩,.string ⟨#[105,100]⟩]),(28,fun u _=>Z6 3 u),(29,Xh (Mut Zb KM) Q4),(30,zI),(32,fun u _=>Z6 3 u),(34,XP fun z=>-3≤z∧z≤12),(36,XP fun z=>-3≤z∧z≤12),(38,UA (Mut Zb KM) w2.heap.size),(10,Yf (Mut Zb KM) w2.heap.size 40 Vt)]) (by kernel_rfl) (by kernel_rfl) (by kernel_rfl) rfl ?_ (K4.drew) ?_
  ·exact Ze Jv (Ze (fun _ _ _ _ h=>h) (Ze QO (Ze (fun _ _ _ _ h=>h) (Ze (fun _ _ _ _ h=>h) (Ze U8 (Ze U8 (Ze ZgT (Ze Wv (ZF _)))))))))
  simp only [zd,Act.put,List.getElem_toArray,List.getElem_cons_zero,List.getElem_cons_succ,zl]
  refine Ye #[.string ⟨#[110]⟩,.string ⟨#[109]⟩,.string ⟨#[105,100]⟩] 9 26 (ValsSlot (Mut Zb KM) 3 [.string ⟨#[110]⟩,.string ⟨#[109]⟩,.string ⟨#[105,100]⟩]) (fun g=>.slice (some ⟨g,0,none⟩) 3 3) rfl rfl rfl rfl (fun wv=>?_) (fun wv HC _hrm hD hro=>?_) ?_
  ·go_simp<;>rfl
  ·exact ⟨_,rfl,rfl,ZJ (hro _ HC.Zc) rfl⟩
  rintro ga1 wg HCg hg21
  simp only [Act.put,zl]
  clear HCg hg21
  refine' dv rfl rfl rfl (fun wv HC=>?_) ?_;rotate_left
  · go_simp<;>rfl
  simp only [Act.put,zl]
  refine Yk 3 3 HH4.out 28 rfl rfl rfl rfl (fun wv=>?_) (fun ra1 hra1=>?_)
  ·go_simp<;>rfl
  have ira1:(ra1:Int)<3:=by omega
  have jra1:(0:Int)≤(ra1:Int):=by omega
  simp only [Act.put,zl]
  refine XW 29 (Xh (Mut Zb KM) Q4) rfl rfl rfl rfl (fun wv HC hD=>?_) ?_
  ·have ha:ValsSlot (Mut Zb KM) 3 [.string ⟨#[110]⟩,.string ⟨#[109]⟩,.string ⟨#[105,100]⟩] (.slice (some ⟨ga1,0,none⟩) 3 3) wv:=ZV hD 0 rfl (by kernel_rfl) rfl rfl
   refine ⟨.pointer (some ⟨ga1,ra1,none⟩),?_,ha.cell (by intro z hz;simp only [List.mem_cons,List.not_mem_nil,or_false] at hz;rcases hz with rfl|rfl|rfl<;>exact ⟨_,rfl,by decide⟩) hra1⟩
   go_simp
  rintro u wx HCx ⟨gz,oz,zz,rfl,hz,-⟩
  clear HCx hz
  simp only [Act.put,zl]
  refine XW 30 zI rfl rfl rfl rfl (fun wv HC hD=>?_) ?_
  ·obtain ⟨g',o',z,e',hz,hc⟩:Xh (Mut Zb KM) Q4 (.pointer (some ⟨gz,oz,none⟩)) wv:=ZV hD 3 rfl (by kernel_rfl) rfl rfl
   obtain ⟨rfl,rfl⟩:gz=g' ∧oz=o' :=by injection e' with e';injection e' with e';injection e' with e1 e2;exact ⟨e1,e2⟩
   have hc0:=hc.now
   obtain ⟨z',rfl,hz'⟩:=hz
   refine ⟨.string z',?_,⟨z',rfl,hz'⟩⟩
   go_simp
  rintro u wx HCx ⟨col,rfl,hcol⟩
  clear HCx
  simp only [Act.put,zl]
  refine' dv rfl rfl rfl (fun wv HC=>?_) ?_;rotate_left
  · go_simp<;>rfl
  simp only [Act.put,zl]
  refine Yk 3 3 HH4.out 32 rfl rfl rfl rfl (fun wv=>?_) (fun kk hkk=>?_)
  ·go_simp<;>rfl
  simp only [Act.put,zl]
  refine' dv rfl rfl rfl (fun wv HC=>?_) ?_;rotate_left
  · go_simp<;>rfl
  simp only [Act.put,zl]
  refine Zq 34 (XP fun z=>-3≤z∧z≤12) (f:=32) (args:=#[.pointer (some ⟨T,0,none⟩)]) rfl rfl rfl rfl (fun wv=>?_) (fun wv HC hrm hD=>?_) ?_
  ·go_simp<;>rfl
  ·refine (Vd T wv (HC.tp_ 3 HH4.out)).mono ?_
   rintro e w5 ⟨r,rfl,r0,r1,t5,g5'⟩
   exact ⟨_,rfl,⟨r,rfl,r0,r1⟩,Hold.Zf HC 3 HH4.out g5' t5,RM.grown g5' (.inr ⟨_,List.mem_of_getElem? HH4.out,rfl⟩)⟩
  rintro u wx HCx ⟨lo,rfl,hlo⟩
  clear HCx
  simp only [Act.put,zl]
  refine' dv rfl rfl rfl (fun wv HC=>?_) ?_;rotate_left
  · go_simp<;>rfl
  simp only [Act.put,zl]
  refine Zq 36 (XP fun z=>-3≤z∧z≤12) (f:=32) (args:=#[.pointer (some ⟨T,0,none⟩)]) rfl rfl rfl rfl (fun wv=>?_) (fun wv HC hrm hD=>?_) ?_
  ·go_simp<;>rfl
  ·refine (Vd T wv (HC.tp_ 3 HH4.out)).mono ?_
   rintro e w5 ⟨r,rfl,r0,r1,t5,g5'⟩
   exact ⟨_,rfl,⟨r,rfl,r0,r1⟩,Hold.Zf HC 3 HH4.out g5' t5,RM.grown g5' (.inr ⟨_,List.mem_of_getElem? HH4.out,rfl⟩)⟩
  rintro u wx HCx ⟨hi,rfl,hhi⟩
  clear HCx
  have hwh:IntKind.i64.wrap (hi+5)=hi+5:=IntWalk.i64_in _ (by omega)
  simp only [Act.put,zl]
  refine' dv rfl rfl rfl (fun wv HC=>?_) ?_;rotate_left
  · go_simp<;>rfl
  simp only [Act.put,zl]
  refine Zq 38 (UA (Mut Zb KM) w2.heap.size) (f:=30) (args:=#[.string col,.int .i64 kk,.int .i64 lo,.int .i64 (hi+5)]) rfl rfl rfl rfl (fun wv=>?_) (fun wv HC hrm hD=>?_) ?_
  ·go_simp<;>rfl
  ·refine (Zeg (Mut Zb KM) wv HC.Zc col kk lo (hi+5) (by omega) (by omega) (by omega)).mono ?_
   rintro e w5 ⟨gr,ga,a,rfl,q1,q2,q3,q5,q4,b5⟩
   exact ⟨_,rfl,⟨gr,ga,col,kk,lo,hi+5,a,rfl,hcol,⟨by omega,by omega⟩,⟨by omega,by omega⟩,q1,q2,q3,Nat.le_trans (show w2.heap.size≤wv.heap.size from hrm.1) q5,fun w9 h1 h2=>(h2 gr (Blk.lt q4) (fun hm=>by have:=hb0 gr hm;have:w2.heap.size≤wv.heap.size:=hrm.1;omega)).trans q4⟩,HC.call b5,RM.below b5⟩
  rintro ud wx HCx -
  clear HCx
  simp only [Act.put,zl]
  refine Ye Vt 40 10 (Yf (Mut Zb KM) w2.heap.size 40 Vt) (fun g=>.pointer (some ⟨g,0,none⟩)) rfl rfl rfl rfl (fun wv=>?_) (fun wv HC hrm hD hro=>?_) ?_
  ·go_simp<;>rfl
  ·exact ⟨_,rfl,hrm.1,hro _ HC.Zc⟩
  rintro gx wg HCg hsl
  clear HCg hsl
  simp only [Act.put,zl]
  refine ZE ?_
  rintro wx2 HX
  rintro hrm HG
  have hb2:=(Zp (d:=38) rfl).1 (HG 12 _ rfl (by omega))
  have hb3:=(Zp (d:=10) rfl).1 (HG 13 _ rfl (by omega))
  clear HG
  obtain ⟨gr,ga,col1,k1,lo1,hi1,a1,rfl,hcs,hI1,hI2,hla,hsm,hra,hgr,hro⟩:=hb2
  obtain ⟨gx',e',hgx,hgB⟩:=hb3
  obtain rfl:gx=gx' :=by injection e' with e';injection e' with e';injection e'
  clear e'
  have hne:gr≠gx:=by
   rintro rfl
   have hh2:=hgB.now.symm.trans hro.now
   injection hh2 with hh2
   injection hh2 with _ hh2
   exact absurd hh2 (by decide)
  have K5:=Hold.Zhh K4.drew HX hrm hgr hro.now hgx hgB.now hne
  have hra2:=ZcG hgB.now Zfh hla hsm hra
  have K6:=K5.add (hra2.less (fun b hb=>by
   rcases ZG.1 hb with hf|hm
   ·right;have hf:some gx=some b:=hf;injection hf with hf;exact hf.symm
   ·left
    rcases ZG.1 hm with hf|hm
    ·right;have hf:some gr=some b:=hf;injection hf with hf;exact hf.symm
    ·exact .inl hm))
  have HLA:=hid hla
  have HSM:=hid hsm
  have HI12:=hid (And.intro hI1 hI2)
  have HCS:=hid hcs
  rw [HKM.out] at K6
  clear hla hsm hI1 hI2 hcs hra hra2 hro hrm hgr HX K5 K4 hgB hgx hne hb0 HH4 HKM
  obtain ⟨ak,atab,⟨arA,arn,arc,arl⟩,⟨aqA,aqn,aqc,aql⟩,⟨asA,asn,asc,asl⟩,⟨awA,awn,awc,awl⟩,atext⟩:=a1
  unfold Vt rkA at K6
  have F6:=K6.facts
  simp only [zg] at F6
  have K7:=((((((((((((K6.store 1 rfl 0 (.string ⟨#[97]⟩)).store 1 rfl 1 (.string ⟨#[117]⟩)).store 1 rfl 2 (.bool false)).store 1 rfl 3 (.int .i64 2)).store 1 rfl 4 (.slice none 0 0)).store 1 rfl 5 (.bool false)).store 1 rfl 6 (.slice none 0 0)).store 1 rfl 7 (.slice none 0 0)).store 1 rfl 8 (.slice (some ⟨gr,0,none⟩) 1 1)).store 1 rfl 9 (.slice none 0 0)).store 1 rfl 10 (.slice (some ⟨ga,0,none⟩) 1 1))).JP 1 rfl
  simp only [zl] at K7
  clear K6
  simp only [Yc,Tg.val,SlP.nil]
  go_upto_region 6 with fail
  clear F6
  generalize World.setCell _ _ _=w7 at K7 ⊢
  have HI12' :∃ lo hi:Int,Hid (I64 lo∧I64 hi)∧Hold Zb none w w7 [.ro (AcsIn 3 (some ⟨ga,0,none⟩) 1 [⟨ak,atab,⟨arA,arn,arc,arl⟩,⟨aqA,aqn,aqc,aql⟩,⟨asA,asn,asc,asl⟩,⟨awA,awn,awc,awl⟩,atext⟩]),.cst gx 40 #[.string ⟨#[97]⟩,.string ⟨#[117]⟩,.bool false,.int .i64 2,.slice none 0 0,.bool false,.slice none 0 0,.slice none 0 0,.slice (some ⟨gr,0,none⟩) 1 1,.slice none 0 0,.slice (some ⟨ga,0,none⟩) 1 1],.blk gr 85 #[.string ⟨#[117]⟩,.string col1,.int .i64 lo,.int .i64 hi],.ro (TgsIn 5 gA gn gl),.ro TNm,.ro Wds,.tp T,.ro (TgsIn (d+1) sA sn sl)]:=⟨lo1,hi1,HI12,K7⟩
  clear K7 HI12
  obtain ⟨lo,hi,HLH,K7⟩:=HI12'
  go_wp2_with fail
  refine (ZZ T 3 _ (K7.tp_ 6 rfl) (by omega) (by omega)).mono ?_
  rintro e w8 ⟨b8,rfl,t8,g8⟩
  have K8:=Hold.Zf K7 6 rfl g8 t8
  clear K7 t8 g8
  go_upto_if 40 with fail
  go_cut [40] from 40 to 47 (fun _ wx=>∃ lo hi:Int,Hid (I64 lo∧I64 hi)∧Hold Zb none w wx [.ro (AcsIn 3 (some ⟨ga,0,none⟩) 1 [⟨ak,atab,⟨arA,arn,arc,arl⟩,⟨aqA,aqn,aqc,aql⟩,⟨asA,asn,asc,asl⟩,⟨awA,awn,awc,awl⟩,atext⟩]),.cst gx 40 #[.string ⟨#[97]⟩,.string ⟨#[117]⟩,.bool false,.int .i64 2,.slice none 0 0,.bool false,.slice none 0 0,.slice none 0 0,.slice (some ⟨gr,0,none⟩) 1 1,.slice none 0 0,.slice (some ⟨ga,0,none⟩) 1 1],.blk gr 85 #[.string ⟨#[117]⟩,.string col1,.int .i64 lo,.int .i64 hi],.ro (TgsIn 5 gA gn gl),.ro TNm,.ro Wds,.tp T,.ro (TgsIn (d+1) sA sn sl)])
  case first=>
   cases b8
   ·go_wp2_with fail
    go_meet
    exact ⟨lo,hi,HLH,K8⟩
   ·go_upto_region 7 with fail
    obtain ⟨KN,hKN,K9⟩:=K8.name
    have h4:KN[6]? =some (.tp T):=by rw [hKN];rfl
    have HH4:=hid h4
    have H8:Hid (∀ wv,Hold Zb none w wv KN→(wv.cell? ⟨gx,8,none⟩=some (.slice (some ⟨gr,0,none⟩) 1 1)∧gx<wv.heap.size)∧wv.cell? ⟨gr,2,none⟩=some (.int .i64 lo)∧gr<wv.heap.size):=hid fun wv HC=>by
     rw [hKN] at HC
     have y1:=HC.ZB 1 rfl
     exact ⟨⟨cell_of_row _ _ 8 _ _ _ y1,Blk.lt y1⟩,(HC.Zy 2 rfl).cell 2,Blk.lt (HC.Zy 2 rfl)⟩
    have HKN:=hid hKN
    clear hKN h4
    refine wp_region_any (by kernel_rfl) ?_
    refine ZH 6 125 (KN) (spL [(44,XP I64)]) (by kernel_rfl) (by kernel_rfl) (by kernel_rfl) rfl ?_ (K9.drew) ?_
    ·exact Ze U8 (ZF _)
    simp only [zd,Act.put,List.getElem_toArray,List.getElem_cons_zero,List.getElem_cons_succ,zl]
    iterate 2
     refine' dv rfl rfl rfl (fun wv HC=>?_) ?_;rotate_left
     ·obtain ⟨⟨f0,f1⟩,f2,f3⟩:=H8.out _ HC;go_simp<;>rfl
     simp only [Act.put,zl]
    refine' dv rfl rfl rfl (fun wv HC=>?_) ?_;rotate_left
    · go_simp<;>rfl
    simp only [Act.put,zl]
    refine Zq 44 (XP I64) (f:=34) (args:=#[.pointer (some ⟨T,0,none⟩)]) rfl rfl rfl rfl (fun wv=>?_) (fun wv HC hrm hD=>?_) ?_
    ·go_simp<;>rfl
    ·refine (ZaF T wv (HC.tp_ 6 HH4.out)).mono ?_
     rintro e w5 ⟨r,rfl,r0,t5,g5'⟩
     exact ⟨_,rfl,⟨r,rfl,r0⟩,Hold.Zf HC 6 HH4.out g5' t5,RM.grown g5' (.inr ⟨_,List.mem_of_getElem? HH4.out,rfl⟩)⟩
    rintro u wx HCx ⟨nv,rfl,hnv⟩
    clear HCx
    iterate 2
     simp only [Act.put,zl]
     refine' dv rfl rfl rfl (fun wv HC=>?_) ?_;rotate_left
     · go_simp<;>rfl
    simp only [Act.put,zl]
    refine ZE ?_
    rintro wx9 HX9
    rintro _hrm HG
    clear HG _hrm
    rw [HKN.out] at HX9
    have q1:=HX9.facts
    simp only [zg] at q1
    go_wp2_with fail
    go_meet
    exact ⟨nv,hi,hid ⟨hnv,HLH.out.2⟩,HX9.store 2 rfl 2 (.int .i64 nv)⟩
  case rest=>
  clear HLH K8 lo hi
  obtain ⟨lo,hi,HLH,K7⟩:=hcut
  go_wp2_with fail
  refine (ZZ T 3 _ (K7.tp_ 6 rfl) (by omega) (by omega)).mono ?_
  rintro e w8 ⟨b8,rfl,t8,g8⟩
  have K8:=Hold.Zf K7 6 rfl g8 t8
  clear K7 t8 g8
  go_upto_if 48 with fail
  go_cut [48] from 48 to 63 (fun _ wx=>∃ lo hi:Int,Hid (I64 lo∧I64 hi)∧Hold Zb none w wx [.ro (AcsIn 3 (some ⟨ga,0,none⟩) 1 [⟨ak,atab,⟨arA,arn,arc,arl⟩,⟨aqA,aqn,aqc,aql⟩,⟨asA,asn,asc,asl⟩,⟨awA,awn,awc,awl⟩,atext⟩]),.cst gx 40 #[.string ⟨#[97]⟩,.string ⟨#[117]⟩,.bool false,.int .i64 2,.slice none 0 0,.bool false,.slice none 0 0,.slice none 0 0,.slice (some ⟨gr,0,none⟩) 1 1,.slice none 0 0,.slice (some ⟨ga,0,none⟩) 1 1],.blk gr 85 #[.string ⟨#[117]⟩,.string col1,.int .i64 lo,.int .i64 hi],.ro (TgsIn 5 gA gn gl),.ro TNm,.ro Wds,.tp T,.ro (TgsIn (d+1) sA sn sl)])
  case first=>
   cases b8
   ·go_wp2_with fail
    go_meet
    exact ⟨lo,hi,HLH,K8⟩
   ·go_upto_region 9 with fail
    obtain ⟨KN,hKN,K9⟩:=K8.name
    have h4:KN[6]? =some (.tp T):=by rw [hKN];rfl
    have HH4:=hid h4
    have H8:Hid (∀ wv,Hold Zb none w wv KN→(wv.cell? ⟨gx,8,none⟩=some (.slice (some ⟨gr,0,none⟩) 1 1)∧gx<wv.heap.size)∧wv.cell? ⟨gr,2,none⟩=some (.int .i64 lo)∧gr<wv.heap.size):=hid fun wv HC=>by
     rw [hKN] at HC
     have y1:=HC.ZB 1 rfl
     exact ⟨⟨cell_of_row _ _ 8 _ _ _ y1,Blk.lt y1⟩,(HC.Zy 2 rfl).cell 2,Blk.lt (HC.Zy 2 rfl)⟩
    have HKN:=hid hKN
    clear hKN h4
    refine wp_region_any (by kernel_rfl) ?_
    refine ZH 14 125 (KN) (spL [(57,fun u _=>Z6 5 u)]) (by kernel_rfl) (by kernel_rfl) (by kernel_rfl) rfl ?_ (K9.drew) ?_
    ·exact Ze (fun _ _ _ _ h=>h) (ZF _)
    simp only [zd,Act.put,List.getElem_toArray,List.getElem_cons_zero,List.getElem_cons_succ,zl]
    iterate 4
     refine' dv rfl rfl rfl (fun wv HC=>?_) ?_;rotate_left
     ·obtain ⟨⟨f0,f1⟩,f2,f3⟩:=H8.out _ HC;go_simp<;>rfl
     simp only [Act.put,zl]
    iterate 2
     refine' dv rfl rfl rfl (fun wv HC=>?_) ?_;rotate_left
     · go_simp<;>rfl
     simp only [Act.put,zl]
    refine' dv rfl rfl rfl (fun wv HC=>?_) ?_;rotate_left
    ·obtain ⟨⟨f0,f1⟩,f2,f3⟩:=H8.out _ HC;go_simp<;>rfl
    simp only [Act.put,zl]
    refine' dv rfl rfl rfl (fun wv HC=>?_) ?_;rotate_left
    · go_simp<;>rfl
    simp only [Act.put,zl]
    refine Yk 5 6 HH4.out 57 rfl rfl rfl rfl (fun wv=>?_) (fun r7 hr7=>?_)
    ·go_simp<;>rfl
    have hw7:IntKind.i64.wrap ((r7:Int) - 2)=(r7:Int) - 2:=IntWalk.i64_in _ (by omega)
    iterate 5
     simp only [Act.put,zl]
     refine' dv rfl rfl rfl (fun wv HC=>?_) ?_;rotate_left
     · go_simp<;>rfl
    simp only [Act.put,zl]
    refine ZE ?_
    rintro wx9 HX9
    rintro _hrm HG
    clear HG _hrm
    rw [HKN.out] at HX9
    have q1:=HX9.facts
    simp only [zg] at q1
    go_wp2_with fail
    go_meet
    exact ⟨lo,wrap64 (wrap64 (lo+((r7:Int) - 2))+1048576),hid ⟨HLH.out.1,Zb3 _⟩,HX9.store 2 rfl 3 (.int .i64 (wrap64 (wrap64 (lo+((r7:Int) - 2))+1048576)))⟩
  case rest=>
  clear HLH K8 lo hi
  obtain ⟨lo,hi,HLH,K7⟩:=hcut
  go_wp2_with fail
  refine (Zdt (Mut Zb _) T _ K7.Zc (K7.tp_ 6 rfl) (K7.get 6 rfl).2 5 (by omega) ((K7.ro 5 rfl).less (XA (i:=6) rfl)) hT1).mono ?_
  rintro e w9 ⟨lA,lc,ll,rfl,hlc,hlc2,hl3,rL,t9,g9⟩
  have K10:=(Hold.Zf K7 6 rfl g9 t9).add rL
  have HL3:=hid hl3
  clear K7 t9 g9 rL hl3
  go_upto_region 11 with fail
  go_cut [73,74,75] from 65 to 76 (fun v73 v74 v75 wx=>v74=.int .i64 4∧v75=.int .i64 0∧WW (Mut Zb [.ro (TesIn lA 3 ll),.ro (AcsIn 3 (some ⟨ga,0,none⟩) 1 [⟨ak,atab,⟨arA,arn,arc,arl⟩,⟨aqA,aqn,aqc,aql⟩,⟨asA,asn,asc,asl⟩,⟨awA,awn,awc,awl⟩,atext⟩]),.cst gx 40 #[.string ⟨#[97]⟩,.string ⟨#[117]⟩,.bool false,.int .i64 2,.slice none 0 0,.bool false,.slice none 0 0,.slice none 0 0,.slice (some ⟨gr,0,none⟩) 1 1,.slice none 0 0,.slice (some ⟨ga,0,none⟩) 1 1],.blk gr 85 #[.string ⟨#[117]⟩,.string col1,.int .i64 lo,.int .i64 hi],.ro (TgsIn 5 gA gn gl),.ro TNm,.ro Wds,.tp T,.ro (TgsIn (d+1) sA sn sl)]) #[.string ⟨#[97]⟩,.string ⟨#[117]⟩,.bool false,.int .i64 2,.slice none 0 0,.bool false,.slice none 0 0,.slice none 0 0,.slice (some ⟨gr,0,none⟩) 1 1,.slice none 0 0,.slice (some ⟨ga,0,none⟩) 1 1] (.slice sA sn sc) (.slice gA gn gc) (1+gn) (ZX gl) v73 wx∧Hold Zb none w wx [.ro (TesIn lA 3 ll),.ro (AcsIn 3 (some ⟨ga,0,none⟩) 1 [⟨ak,atab,⟨arA,arn,arc,arl⟩,⟨aqA,aqn,aqc,aql⟩,⟨asA,asn,asc,asl⟩,⟨awA,awn,awc,awl⟩,atext⟩]),.cst gx 40 #[.string ⟨#[97]⟩,.string ⟨#[117]⟩,.bool false,.int .i64 2,.slice none 0 0,.bool false,.slice none 0 0,.slice none 0 0,.slice (some ⟨gr,0,none⟩) 1 1,.slice none 0 0,.slice (some ⟨ga,0,none⟩) 1 1],.blk gr 85 #[.string ⟨#[117]⟩,.string col1,.int .i64 lo,.int .i64 hi],.ro (TgsIn 5 gA gn gl),.ro TNm,.ro Wds,.tp T,.ro (TgsIn (d+1) sA sn sl)])
  case first=>
   obtain ⟨KN,hKN,K11⟩:=K10.name
   have H8:Hid (∀ wv,Hold Zb none w wv KN→Blk wv gx 40 #[.string ⟨#[97]⟩,.string ⟨#[117]⟩,.bool false,.int .i64 2,.slice none 0 0,.bool false,.slice none 0 0,.slice none 0 0,.slice (some ⟨gr,0,none⟩) 1 1,.slice none 0 0,.slice (some ⟨ga,0,none⟩) 1 1]∧SlR 11 gA gn (ZX gl) wv):=hid fun wv HC=>by
    rw [hKN] at HC
    exact ⟨HC.ZB 2 rfl,(HC.ro 4 rfl).now.1⟩
   have HKN:=hid hKN
   clear hKN K10
   rcases Nat.eq_zero_or_pos gn with h0|h0
   ·subst h0
    have hgl0:gl=[]:=List.length_eq_zero_iff.1 HGL.out
    refine wp_region_any (by kernel_rfl) ?_
    refine ZH 11 125 (KN) (spL [(68,YW (Mut Zb KN) #[.string ⟨#[97]⟩,.string ⟨#[117]⟩,.bool false,.int .i64 2,.slice none 0 0,.bool false,.slice none 0 0,.slice none 0 0,.slice (some ⟨gr,0,none⟩) 1 1,.slice none 0 0,.slice (some ⟨ga,0,none⟩) 1 1]),(70,YW (Mut Zb KN) #[.string ⟨#[97]⟩,.string ⟨#[117]⟩,.bool false,.int .i64 2,.slice none 0 0,.bool false,.slice none 0 0,.slice none 0 0,.slice (some ⟨gr,0,none⟩) 1 1,.slice none 0 0,.slice (some ⟨ga,0,none⟩) 1 1]),(72,Wn (Mut Zb KN) 1 (#[.string ⟨#[97]⟩,.string ⟨#[117]⟩,.bool false,.int .i64 2,.slice none 0 0,.bool false,.slice none 0 0,.slice none 0 0,.slice (some ⟨gr,0,none⟩) 1 1,.slice none 0 0,.slice (some ⟨ga,0,none⟩) 1 1].toList++ZX gl)),(73,WW (Mut Zb KN) #[.string ⟨#[97]⟩,.string ⟨#[117]⟩,.bool false,.int .i64 2,.slice none 0 0,.bool false,.slice none 0 0,.slice none 0 0,.slice (some ⟨gr,0,none⟩) 1 1,.slice none 0 0,.slice (some ⟨ga,0,none⟩) 1 1] (.slice sA sn sc) (.slice gA 0 gc) 1 (ZX gl))]) (by kernel_rfl) (by kernel_rfl) (by kernel_rfl) rfl ?_ (K11.drew) ?_
    ·exact Ze UG (Ze UG (Ze Gt (Ze ZaC (ZF _))))
    simp only [zd,Act.put,List.getElem_toArray,List.getElem_cons_zero,List.getElem_cons_succ,zl]
    iterate 2
     refine' dv rfl rfl rfl (fun wv HC=>?_) ?_;rotate_left
     · go_simp<;>rfl
     simp only [Act.put,zl]
    refine' dv rfl rfl rfl (fun wv HC=>?_) ?_;rotate_left
    ·obtain ⟨x0,x1,x2,x3,x4,x5,x6,x7,x8,x9,x10⟩:=eleven (H8.out _ HC).1;go_simp<;>rfl
    simp only [Act.put,zl]
    refine Ye #[.string ⟨#[97]⟩,.string ⟨#[117]⟩,.bool false,.int .i64 2,.slice none 0 0,.bool false,.slice none 0 0,.slice none 0 0,.slice (some ⟨gr,0,none⟩) 1 1,.slice none 0 0,.slice (some ⟨ga,0,none⟩) 1 1] 40 68 (YW (Mut Zb KN) #[.string ⟨#[97]⟩,.string ⟨#[117]⟩,.bool false,.int .i64 2,.slice none 0 0,.bool false,.slice none 0 0,.slice none 0 0,.slice (some ⟨gr,0,none⟩) 1 1,.slice none 0 0,.slice (some ⟨ga,0,none⟩) 1 1]) (fun g=>.slice (some ⟨g,0,none⟩) 1 1) rfl rfl rfl rfl (fun wv=>?_) (fun wv HC _hrm hD hro=>?_) ?_
    ·go_simp<;>rfl
    ·exact ⟨_,rfl,ZJ (hro _ HC.Zc) rfl⟩
    rintro g68 wg HCg hg21
    simp only [Act.put,zl]
    clear HCg hg21
    refine' dv rfl rfl rfl (fun wv HC=>?_) ?_;rotate_left
    ·obtain ⟨x0,x1,x2,x3,x4,x5,x6,x7,x8,x9,x10⟩:=eleven (H8.out _ HC).1;go_simp<;>rfl
    simp only [Act.put,zl]
    refine Ye #[.string ⟨#[97]⟩,.string ⟨#[117]⟩,.bool false,.int .i64 2,.slice none 0 0,.bool false,.slice none 0 0,.slice none 0 0,.slice (some ⟨gr,0,none⟩) 1 1,.slice none 0 0,.slice (some ⟨ga,0,none⟩) 1 1] 40 70 (YW (Mut Zb KN) #[.string ⟨#[97]⟩,.string ⟨#[117]⟩,.bool false,.int .i64 2,.slice none 0 0,.bool false,.slice none 0 0,.slice none 0 0,.slice (some ⟨gr,0,none⟩) 1 1,.slice none 0 0,.slice (some ⟨ga,0,none⟩) 1 1]) (fun g=>.slice (some ⟨g,0,none⟩) 1 1) rfl rfl rfl rfl (fun wv=>?_) (fun wv HC _hrm hD hro=>?_) ?_
    ·go_simp<;>rfl
    ·exact ⟨_,rfl,ZJ (hro _ HC.Zc) rfl⟩
    rintro g70 wg HCg hg21
    simp only [Act.put,zl]
    clear HCg hg21
    refine' dv rfl rfl rfl (fun wv HC=>?_) ?_;rotate_left
    · go_simp<;>rfl
    simp only [Act.put,zl]
    refine ZeF Tryz.JM 72 (Wn (Mut Zb KN) 1 (#[.string ⟨#[97]⟩,.string ⟨#[117]⟩,.bool false,.int .i64 2,.slice none 0 0,.bool false,.slice none 0 0,.slice none 0 0,.slice (some ⟨gr,0,none⟩) 1 1,.slice none 0 0,.slice (some ⟨ga,0,none⟩) 1 1].toList++ZX gl)) rfl rfl rfl rfl (.tmp 70) (.tmp 71) rfl (b:=⟨g70,0,none⟩) (n:=1) (cap:=1) rfl (Nat.le_refl _) (A:=gA) (c:=gc) rfl (fun wv HC hD=>?_) ?_
    ·obtain ⟨g',e',hr'⟩:YW (Mut Zb KN) #[.string ⟨#[97]⟩,.string ⟨#[117]⟩,.bool false,.int .i64 2,.slice none 0 0,.bool false,.slice none 0 0,.slice none 0 0,.slice (some ⟨gr,0,none⟩) 1 1,.slice none 0 0,.slice (some ⟨ga,0,none⟩) 1 1] (.slice (some ⟨g70,0,none⟩) 1 1) wv:=ZV hD 5 rfl (by kernel_rfl) rfl rfl
     obtain rfl:g70=g' :=by injection e' with e';injection e' with e';injection e'
     exact ⟨_,_,rfl,by rw [hgl0];simpa [ZX] using hr'⟩
    simp only [Act.put,zl]
    refine Ye #[.slice sA sn sc,.slice gA 0 gc,.slice (some ⟨g68,0,none⟩) 1 1,.slice (some ⟨g70,0,none⟩) 1 1] 25 73 (WW (Mut Zb KN) #[.string ⟨#[97]⟩,.string ⟨#[117]⟩,.bool false,.int .i64 2,.slice none 0 0,.bool false,.slice none 0 0,.slice none 0 0,.slice (some ⟨gr,0,none⟩) 1 1,.slice none 0 0,.slice (some ⟨ga,0,none⟩) 1 1] (.slice sA sn sc) (.slice gA 0 gc) 1 (ZX gl)) (fun g=>.slice (some ⟨g,0,none⟩) 4 4) rfl rfl rfl rfl (fun wv=>?_) (fun wv HC _hrm hD hro=>?_) ?_
    ·go_simp<;>rfl
    ·obtain ⟨g',e',hr'⟩:YW (Mut Zb KN) #[.string ⟨#[97]⟩,.string ⟨#[117]⟩,.bool false,.int .i64 2,.slice none 0 0,.bool false,.slice none 0 0,.slice none 0 0,.slice (some ⟨gr,0,none⟩) 1 1,.slice none 0 0,.slice (some ⟨ga,0,none⟩) 1 1] (.slice (some ⟨g68,0,none⟩) 1 1) wv:=ZV hD 3 rfl (by kernel_rfl) rfl rfl
     obtain rfl:g68=g' :=by injection e' with e';injection e' with e';injection e'
     obtain ⟨C',cap',e',hr2⟩:Wn (Mut Zb KN) 1 (#[.string ⟨#[97]⟩,.string ⟨#[117]⟩,.bool false,.int .i64 2,.slice none 0 0,.bool false,.slice none 0 0,.slice none 0 0,.slice (some ⟨gr,0,none⟩) 1 1,.slice none 0 0,.slice (some ⟨ga,0,none⟩) 1 1].toList++ZX gl) (.slice (some ⟨g70,0,none⟩) 1 1) wv:=ZV hD 7 rfl (by kernel_rfl) rfl rfl
     obtain ⟨rfl,-,rfl⟩:=Value.slice.inj e'
     exact ⟨_,g68,some ⟨g70,0,none⟩,1,rfl,hro _ HC.Zc,(RM.alloc _ _ _).ro hr',(RM.alloc _ _ _).ro hr2⟩
    rintro g73 wg HCg hg21
    simp only [Act.put,zl]
    clear HCg hg21
    iterate 2
     refine' dv rfl rfl rfl (fun wv HC=>?_) ?_;rotate_left
     · go_simp<;>rfl
     simp only [Act.put,zl]
    refine ZE ?_
    rintro wx9 HX9
    rintro _hrm HG
    have hL:=(Zp (d:=73) rfl).1 (HG 8 _ rfl (by omega))
    clear HG
    rw [HKN.out] at HX9 hL
    go_wp2_with fail
    go_meet
    exact ⟨rfl,rfl,hL,HX9⟩
   ·obtain ⟨bG,oG,rfl,-,-⟩:=(show Rd w9 w9.heap.size 11 gA gn (ZX gl) from (H8.out _ K11).2).2 h0
    refine wp_region_any (by kernel_rfl) ?_
    refine ZH 11 125 (KN) (spL [(68,YW (Mut Zb KN) #[.string ⟨#[97]⟩,.string ⟨#[117]⟩,.bool false,.int .i64 2,.slice none 0 0,.bool false,.slice none 0 0,.slice none 0 0,.slice (some ⟨gr,0,none⟩) 1 1,.slice none 0 0,.slice (some ⟨ga,0,none⟩) 1 1]),(70,YW (Mut Zb KN) #[.string ⟨#[97]⟩,.string ⟨#[117]⟩,.bool false,.int .i64 2,.slice none 0 0,.bool false,.slice none 0 0,.slice none 0 0,.slice (some ⟨gr,0,none⟩) 1 1,.slice none 0 0,.slice (some ⟨ga,0,none⟩) 1 1]),(72,Wn (Mut Zb KN) (1+gn) (#[.string ⟨#[97]⟩,.string ⟨#[117]⟩,.bool false,.int .i64 2,.slice none 0 0,.bool false,.slice none 0 0,.slice none 0 0,.slice (some ⟨gr,0,none⟩) 1 1,.slice none 0 0,.slice (some ⟨ga,0,none⟩) 1 1].toList++ZX gl)),(73,WW (Mut Zb KN) #[.string ⟨#[97]⟩,.string ⟨#[117]⟩,.bool false,.int .i64 2,.slice none 0 0,.bool false,.slice none 0 0,.slice none 0 0,.slice (some ⟨gr,0,none⟩) 1 1,.slice none 0 0,.slice (some ⟨ga,0,none⟩) 1 1] (.slice sA sn sc) (.slice (some ⟨bG,oG,none⟩) gn gc) (1+gn) (ZX gl))]) (by kernel_rfl) (by kernel_rfl) (by kernel_rfl) rfl ?_ (K11.drew) ?_
    ·exact Ze UG (Ze UG (Ze Gt (Ze ZaC (ZF _))))
    simp only [zd,Act.put,List.getElem_toArray,List.getElem_cons_zero,List.getElem_cons_succ,zl]
    iterate 2
     refine' dv rfl rfl rfl (fun wv HC=>?_) ?_;rotate_left
     · go_simp<;>rfl
     simp only [Act.put,zl]
    refine' dv rfl rfl rfl (fun wv HC=>?_) ?_;rotate_left
    ·obtain ⟨x0,x1,x2,x3,x4,x5,x6,x7,x8,x9,x10⟩:=eleven (H8.out _ HC).1;go_simp<;>rfl
    simp only [Act.put,zl]
    refine Ye #[.string ⟨#[97]⟩,.string ⟨#[117]⟩,.bool false,.int .i64 2,.slice none 0 0,.bool false,.slice none 0 0,.slice none 0 0,.slice (some ⟨gr,0,none⟩) 1 1,.slice none 0 0,.slice (some ⟨ga,0,none⟩) 1 1] 40 68 (YW (Mut Zb KN) #[.string ⟨#[97]⟩,.string ⟨#[117]⟩,.bool false,.int .i64 2,.slice none 0 0,.bool false,.slice none 0 0,.slice none 0 0,.slice (some ⟨gr,0,none⟩) 1 1,.slice none 0 0,.slice (some ⟨ga,0,none⟩) 1 1]) (fun g=>.slice (some ⟨g,0,none⟩) 1 1) rfl rfl rfl rfl (fun wv=>?_) (fun wv HC _hrm hD hro=>?_) ?_
    ·go_simp<;>rfl
    ·exact ⟨_,rfl,ZJ (hro _ HC.Zc) rfl⟩
    rintro g68 wg HCg hg21
    simp only [Act.put,zl]
    clear HCg hg21
    refine' dv rfl rfl rfl (fun wv HC=>?_) ?_;rotate_left
    ·obtain ⟨x0,x1,x2,x3,x4,x5,x6,x7,x8,x9,x10⟩:=eleven (H8.out _ HC).1;go_simp<;>rfl
    simp only [Act.put,zl]
    refine Ye #[.string ⟨#[97]⟩,.string ⟨#[117]⟩,.bool false,.int .i64 2,.slice none 0 0,.bool false,.slice none 0 0,.slice none 0 0,.slice (some ⟨gr,0,none⟩) 1 1,.slice none 0 0,.slice (some ⟨ga,0,none⟩) 1 1] 40 70 (YW (Mut Zb KN) #[.string ⟨#[97]⟩,.string ⟨#[117]⟩,.bool false,.int .i64 2,.slice none 0 0,.bool false,.slice none 0 0,.slice none 0 0,.slice (some ⟨gr,0,none⟩) 1 1,.slice none 0 0,.slice (some ⟨ga,0,none⟩) 1 1]) (fun g=>.slice (some ⟨g,0,none⟩) 1 1) rfl rfl rfl rfl (fun wv=>?_) (fun wv HC _hrm hD hro=>?_) ?_
    ·go_simp<;>rfl
    ·exact ⟨_,rfl,ZJ (hro _ HC.Zc) rfl⟩
    rintro g70 wg HCg hg21
    simp only [Act.put,zl]
    clear HCg hg21
    refine' dv rfl rfl rfl (fun wv HC=>?_) ?_;rotate_left
    · go_simp<;>rfl
    simp only [Act.put,zl]
    refine Zfo Tryz.JM 72 (Wn (Mut Zb KN) (1+gn) (#[.string ⟨#[97]⟩,.string ⟨#[117]⟩,.bool false,.int .i64 2,.slice none 0 0,.bool false,.slice none 0 0,.slice none 0 0,.slice (some ⟨gr,0,none⟩) 1 1,.slice none 0 0,.slice (some ⟨ga,0,none⟩) 1 1].toList++ZX gl)) rfl rfl rfl rfl (.tmp 70) (.tmp 71) rfl (b:=g70) (q:=0) (n:=1) (cap:=1) rfl (g:=bG) (p:=oG) (m:=gn) (c:=gc) rfl (by omega) (by omega) h0 (by omega) (by omega) (fun wv HC hD=>?_) ?_
    ·obtain ⟨g',e',hr'⟩:YW (Mut Zb KN) #[.string ⟨#[97]⟩,.string ⟨#[117]⟩,.bool false,.int .i64 2,.slice none 0 0,.bool false,.slice none 0 0,.slice none 0 0,.slice (some ⟨gr,0,none⟩) 1 1,.slice none 0 0,.slice (some ⟨ga,0,none⟩) 1 1] (.slice (some ⟨g70,0,none⟩) 1 1) wv:=ZV hD 5 rfl (by kernel_rfl) rfl rfl
     obtain rfl:g70=g' :=by injection e' with e';injection e' with e';injection e'
     exact ⟨_,ZX gl,hr'.now,(H8.out _ HC).2,fun C' cap' w' HC' _ hro=>⟨C',cap',rfl,hro⟩⟩
    rintro u wx HCx ⟨C72,cap72,rfl,-⟩
    clear HCx
    simp only [Act.put,zl]
    refine Ye #[.slice sA sn sc,.slice (some ⟨bG,oG,none⟩) gn gc,.slice (some ⟨g68,0,none⟩) 1 1,.slice C72 (1+gn) cap72] 25 73 (WW (Mut Zb KN) #[.string ⟨#[97]⟩,.string ⟨#[117]⟩,.bool false,.int .i64 2,.slice none 0 0,.bool false,.slice none 0 0,.slice none 0 0,.slice (some ⟨gr,0,none⟩) 1 1,.slice none 0 0,.slice (some ⟨ga,0,none⟩) 1 1] (.slice sA sn sc) (.slice (some ⟨bG,oG,none⟩) gn gc) (1+gn) (ZX gl)) (fun g=>.slice (some ⟨g,0,none⟩) 4 4) rfl rfl rfl rfl (fun wv=>?_) (fun wv HC _hrm hD hro=>?_) ?_
    ·go_simp<;>rfl
    ·obtain ⟨g',e',hr'⟩:YW (Mut Zb KN) #[.string ⟨#[97]⟩,.string ⟨#[117]⟩,.bool false,.int .i64 2,.slice none 0 0,.bool false,.slice none 0 0,.slice none 0 0,.slice (some ⟨gr,0,none⟩) 1 1,.slice none 0 0,.slice (some ⟨ga,0,none⟩) 1 1] (.slice (some ⟨g68,0,none⟩) 1 1) wv:=ZV hD 3 rfl (by kernel_rfl) rfl rfl
     obtain rfl:g68=g' :=by injection e' with e';injection e' with e';injection e'
     obtain ⟨C',cap',e',hr2⟩:Wn (Mut Zb KN) (1+gn) (#[.string ⟨#[97]⟩,.string ⟨#[117]⟩,.bool false,.int .i64 2,.slice none 0 0,.bool false,.slice none 0 0,.slice none 0 0,.slice (some ⟨gr,0,none⟩) 1 1,.slice none 0 0,.slice (some ⟨ga,0,none⟩) 1 1].toList++ZX gl) (.slice C72 (1+gn) cap72) wv:=ZV hD 7 rfl (by kernel_rfl) rfl rfl
     obtain ⟨rfl,-,rfl⟩:=Value.slice.inj e'
     exact ⟨_,g68,C72,cap72,rfl,hro _ HC.Zc,(RM.alloc _ _ _).ro hr',(RM.alloc _ _ _).ro hr2⟩
    rintro g73 wg HCg hg21
    simp only [Act.put,zl]
    clear HCg hg21
    iterate 2
     refine' dv rfl rfl rfl (fun wv HC=>?_) ?_;rotate_left
     · go_simp<;>rfl
     simp only [Act.put,zl]
    refine ZE ?_
    rintro wx9 HX9
    rintro _hrm HG
    have hL:=(Zp (d:=73) rfl).1 (HG 8 _ rfl (by omega))
    clear HG
    rw [HKN.out] at HX9 hL
    go_wp2_with fail
    go_meet
    exact ⟨rfl,rfl,hL,HX9⟩
  case rest=>
  obtain ⟨rfl,rfl,hL,K11⟩:=hcut
  clear K10
  have K12:=K11.JP 3 rfl
  simp only [zl] at K12
  obtain ⟨g,g8,C,cap,rfl,hLb,hL8,hLC⟩:=hL
  obtain ⟨x,hx⟩:∃ x:Tg,x=(Yc gr ga col1 lo hi ⟨ak,atab,⟨arA,arn,arc,arl⟩,⟨aqA,aqn,aqc,aql⟩,⟨asA,asn,asc,asl⟩,⟨awA,awn,awc,awl⟩,atext⟩):=⟨_,rfl⟩
  have hR:=(show Ro _ _ (SlR 4 (some ⟨gr,0,none⟩) 1 [.string ⟨#[117]⟩,.string col1,.int .i64 lo,.int .i64 hi]) from ZJ (K12.get 3 rfl) rfl).imp fun w2 h2=>(show RksIn (some ⟨gr,0,none⟩) 1 [⟨Yh,col1,lo,hi⟩] w2 from ⟨h2,fun _ _=>trivial⟩)
  have hT:Ro _ _ (TgIn 5 x):=(hR.and (K12.ro 1 rfl)).imp fun w2 h2=>by
   rw [hx]
   exact Zf4 (d:=3) ⟨SlP.Zi _ _ _ _,SlP.Zi _ _ _ _,SlP.Zi _ _ _ _,h2.1,SlP.Zi _ _ _ _,h2.2⟩ (by omega)
  have hls:=ZdM (K12.ro 0 rfl).now HL3.out
  have hgf:=ZfE (K12.ro 4 rfl).now HGO.out
  have hxf:TgFit 5 x:=by
   have h:=Ql (gr:=gr) (ga:=ga) HLA.out HSM.out 5
   rw [hx]
   exact ⟨h.n,h.s,h.w,h.a,h.r⟩
  have hxr:∀ r∈x.rank.l,Y8 r:=by rw [hx];exact ZfI HLH.out.1 HLH.out.2 HCS.out
  have hxc:x.cells=[.string ⟨#[97]⟩,.string ⟨#[117]⟩,.bool false,.int .i64 2,.slice none 0 0,.bool false,.slice none 0 0,.slice none 0 0,.slice (some ⟨gr,0,none⟩) 1 1,.slice none 0 0,.slice (some ⟨ga,0,none⟩) 1 1]:=by rw [hx];rfl
  have hS0:=(K12.ro 0 rfl).and ((K12.ro 8 rfl).and ((K12.ro 4 rfl).and hT))
  have hS1:=(hLb.and (hL8.and hLC)).less (M' :=fun b=>b=T) (fun b hb=>.inr ⟨_,List.mem_of_getElem? (i:=7) rfl,by rw [hb];rfl⟩)
  have hS2:=hS0.less (M' :=fun b=>b=T) (fun b hb=>.inr ⟨_,List.mem_of_getElem? (i:=7) rfl,by rw [hb];rfl⟩)
  obtain ⟨S,hSd⟩:∃ S:World→Prop,S=fun w2=>TesIn lA 3 ll w2∧TgsIn (d+1) sA sn sl w2∧TgsIn 5 gA gn gl w2∧TgsIn 5 (some ⟨g8,0,none⟩) 1 [x] w2∧TgsIn 5 C (1+gn) (x::gl) w2∧w2.heap[g]? =some (.cells #[.slice sA sn sc,.slice gA gn gc,.slice (some ⟨g8,0,none⟩) 1 1,.slice C (1+gn) cap] 25 (0,0)):=⟨_,rfl⟩
  have hS:Ro _ (fun b=>b=T) S:=(hS2.and hS1).imp fun w2 h2=>by
   rw [hSd]
   obtain ⟨⟨q0,q1,q2,q3⟩,q4,q5,q6⟩:=h2
   refine ⟨q0,q1,q2,⟨by simpa [ZX,hxc] using q5,fun t ht=>?_⟩,⟨by simpa [ZX,hxc] using q6,fun t ht=>?_⟩,q4⟩
   ·simp only [List.mem_cons,List.not_mem_nil,or_false] at ht
    subst ht
    exact q3
   ·rcases List.mem_cons.1 ht with rfl|ht
    ·exact q3
    ·exact q2.2 t ht
  have K13:=((K12.drop (L' :=[.tp T]) (by repeat (first|exact List.Sublist.cons_cons _ (List.nil_sublist _)|apply List.Sublist.cons))).add (hS.less (fun b hb=>by
   rcases hb with hb|⟨k,hk,hf⟩
   ·exact hb.elim
   ·simp only [List.mem_cons,List.not_mem_nil,or_false] at hk
    subst hk
    have hf:some T=some b:=hf
    injection hf with hf
    exact hf.symm)))
  have HST:Hid (∀ w2,S w2→TesIn lA 3 ll w2):=hid fun w2 h=>by rw [hSd] at h;exact h.1
  have HLG:Hid (∀ j:Nat,j<4→∃ v,(∀ w2,S w2→w2.cell? ⟨g,j,none⟩=some v∧g<w2.heap.size)∧LG S v):=hid fun j hj=>by
   have hb:∀ w2,S w2→w2.heap[g]? =some (.cells #[.slice sA sn sc,.slice gA gn gc,.slice (some ⟨g8,0,none⟩) 1 1,.slice C (1+gn) cap] 25 (0,0)):=fun w2 h=>by rw [hSd] at h;exact h.2.2.2.2.2
   rcases j with _|_|_|_|j
   ·exact ⟨_,fun w2 h=>⟨cell_of_row _ _ 0 _ _ _ (hb w2 h),Blk.lt (hb w2 h)⟩,d,sn,sc,sA,sl,rfl,by omega,fun w2 h=>by rw [hSd] at h;exact h.2.1,HSF.out,HSR.out⟩
   ·exact ⟨_,fun w2 h=>⟨cell_of_row _ _ 1 _ _ _ (hb w2 h),Blk.lt (hb w2 h)⟩,4,gn,gc,gA,gl,rfl,by omega,fun w2 h=>by rw [hSd] at h;exact h.2.2.1,hgf.1,hgf.2⟩
   ·exact ⟨_,fun w2 h=>⟨cell_of_row _ _ 2 _ _ _ (hb w2 h),Blk.lt (hb w2 h)⟩,4,1,1,some ⟨g8,0,none⟩,[x],rfl,by omega,fun w2 h=>by rw [hSd] at h;exact h.2.2.2.1,fun t ht=>by simp only [List.mem_cons,List.not_mem_nil,or_false] at ht;subst ht;exact hxf,fun t ht=>by simp only [List.mem_cons,List.not_mem_nil,or_false] at ht;subst ht;exact hxr⟩
   ·exact ⟨_,fun w2 h=>⟨cell_of_row _ _ 3 _ _ _ (hb w2 h),Blk.lt (hb w2 h)⟩,4,1+gn,cap,C,x::gl,rfl,by omega,fun w2 h=>by rw [hSd] at h;exact h.2.2.2.2.1,fun t ht=>by rcases List.mem_cons.1 ht with rfl|ht;exact hxf;exact hgf.1 t ht,fun t ht=>by rcases List.mem_cons.1 ht with rfl|ht;exact hxr;exact hgf.2 t ht⟩
   ·omega
  have HLS:=hid hls
  clear hLb hL8 hLC hx hR hT hls hgf hxf hxr hxc hS0 hS1 hS2 hSd hS K11 K12 HLA HSM HLH HCS
  have l2:(2:Int)≤(lc:Int):=by omega
  have HKN:=hid (fun w2 h2=>@JB Zb w2 h2)
  go_wp2_with fail
  go_loopw [75] (fun jv wr=>∃ j:Nat,j≤4∧jv=.int .i64 j∧Hold Zb none w wr [.ro S,.tp T]) (fun jv _=>4 - (intOf jv).toNat)
  case atStart=>exact ⟨0,by omega,rfl,K13⟩
  case round=>
   clear K13
   obtain ⟨j,hj,rfl,H⟩:=hrel
   by_cases hlt:j<4
   ·have hd:decide ((j:Int)<4)=true:=by simp;omega
    have j0:(0:Int)≤(j:Int):=by omega
    have j1:(j:Int)<4:=by omega
    obtain ⟨v,hv,dd,yn,yc,yA,yl,rfl,hyn,hyI,hyF,hyR⟩:=HLG.out j hlt
    obtain ⟨c0,c1⟩:=hv _ (H.ro 0 rfl).now
    have HE:=hid (fun (w2:World) (h2:Hold Zb none w w2 [.ro S,.tp T]) (i:Int)=>GJ _ w2 h2.Zc yA yn yc yl lA 3 lc ll i dd ((h2.ro 0 rfl).imp hyI) ((h2.ro 0 rfl).imp HST.out) (by omega) (by omega) hyF HLS.out.1 (fun t h r hr=>(hyR t h r hr).1))
    have HER:=hid (fun (w2:World) (h2:Hold Zb none w w2 [.ro S,.tp T]) (i:Int)=>zP _ w2 h2.Zc yA yn yc yl lA 3 lc ll i dd ((h2.ro 0 rfl).imp hyI) ((h2.ro 0 rfl).imp HST.out) (by omega) (by omega) hyF HLS.out.1 (fun t h r hr=>(hyR t h r hr).1))
    generalize Yn (dd+1) yl (ZM ll)=CB at HE HER
    go_wp2_with fail
    clear c0 c1 hv
    go_loopw [14] (fun nv wq=>∃ k:Nat,k≤yn+2∧nv=.int .i64 ((k:Int) - 1)∧Hold Zb none w wq [.ro S,.tp T]) (fun nv _=>yn+2 - (intOf nv+1).toNat)
    case atStart=>exact ⟨0,by omega,rfl,H⟩
    case round=>
     clear H
     obtain ⟨k,hk,rfl,H2⟩:=hrel
     by_cases hk2:k≤yn+1
     ·have hd2:decide ((k:Int) - 1≤(yn:Int))=true:=by simp;omega
      go_wp2_with fail
      refine (HE.out _ H2 _).mono ?_
      rintro e w5 ⟨rfl,b5⟩
      have K5:=H2.call b5
      clear H2 b5
      go_wp2_with fail
      refine (HER.out _ K5 _).mono ?_
      rintro e w6 ⟨rfl,b6⟩
      have K6:=K5.call b6
      clear K5 b6
      go_wp2_with fail
      go_roundw
      case rel=>exact ⟨k+1,by omega,by go_num,K6⟩
      case measure=>simp [intOf];omega
     ·obtain rfl:k=yn+2:=by omega
      have hd2:decide (((yn+2:Nat):Int) - 1≤(yn:Int))=false:=by simp;omega
      go_upto_region 19 with fail
      obtain ⟨V1,hV1⟩:∃ V1,V1=(YL (dd+1) yl ll yn).1:=⟨_,rfl⟩
      obtain ⟨V2,hV2⟩:∃ V2,V2=(YL (dd+1) yl (ll.take 2) yn).1:=⟨_,rfl⟩
      have HT1:=hid (fun (w2:World) (h2:Hold Zb none w w2 [.ro S,.tp T])=>zC _ w2 h2.Zc yA yn yc yl lA 3 lc ll dd ((h2.ro 0 rfl).imp hyI) ((h2.ro 0 rfl).imp HST.out) (by omega) (by omega) hyF HLS.out.1 HLS.out.2 hyR)
      have HT2:=hid (fun (w2:World) (h2:Hold Zb none w w2 [.ro S,.tp T])=>zX _ w2 h2.Zc yA yn yc yl lA 3 lc ll dd ((h2.ro 0 rfl).imp hyI) ((h2.ro 0 rfl).imp HST.out) (by omega) (by omega) hyF HLS.out.1 HLS.out.2 hyR)
      have HT3:=hid (fun (w2:World) (h2:Hold Zb none w w2 [.ro S,.tp T])=>zC _ w2 h2.Zc yA yn yc yl lA 2 lc (ll.take 2) dd ((h2.ro 0 rfl).imp hyI) ((h2.ro 0 rfl).imp fun w3 h3=>Gy (HST.out w3 h3) (by omega)) (by omega) (by omega) hyF (fun x hx=>HLS.out.1 x (List.mem_of_mem_take hx)) (fun x hx=>HLS.out.2 x (List.mem_of_mem_take hx)) hyR)
      have HT4:=hid (fun (w2:World) (h2:Hold Zb none w w2 [.ro S,.tp T])=>zX _ w2 h2.Zc yA yn yc yl lA 2 lc (ll.take 2) dd ((h2.ro 0 rfl).imp hyI) ((h2.ro 0 rfl).imp fun w3 h3=>Gy (HST.out w3 h3) (by omega)) (by omega) (by omega) hyF (fun x hx=>HLS.out.1 x (List.mem_of_mem_take hx)) (fun x hx=>HLS.out.2 x (List.mem_of_mem_take hx)) hyR)
      rw [←hV1] at HT1 HT2
      rw [←hV2] at HT3 HT4
      clear hV1 hV2
      refine wp_region_any (by kernel_rfl) ?_
      refine ZH 29 125 ([.ro S,.tp T]) (spL [(97,IsV (.bool (CB i))),(101,IsV (.bool (CB i))),(106,IsV (.int .i64 V1)),(109,IsV (.int .i64 V1)),(116,IsV (.int .i64 V2)),(120,IsV (.int .i64 V2))]) (by kernel_rfl) (by kernel_rfl) (by kernel_rfl) rfl ?_ (H2.drew) ?_
      ·exact Ze XN (Ze XN (Ze XN (Ze XN (Ze XN (Ze XN (ZF _))))))
      simp only [zd,Act.put,List.getElem_toArray,List.getElem_cons_zero,List.getElem_cons_succ,zl]
      iterate 3
       refine' dv rfl rfl rfl (fun wv HC=>?_) ?_;rotate_left
       · go_simp<;>rfl
       simp only [Act.put,zl]
      refine Zq 97 (IsV (.bool (CB i))) (f:=35) (args:=#[.slice yA yn yc,.slice lA 3 lc,.int .i64 i]) rfl rfl rfl rfl (fun wv=>?_) (fun wv HC hrm hD=>?_) ?_
      ·go_simp<;>rfl
      ·exact (HE.out _ HC i).mono fun e w5 ⟨h1,b5⟩=>⟨_,h1,rfl,HC.call b5,RM.below b5⟩
      rintro u wx HCx rfl
      clear HCx
      iterate 3
       simp only [Act.put,zl]
       refine' dv rfl rfl rfl (fun wv HC=>?_) ?_;rotate_left
       · go_simp<;>rfl
      simp only [Act.put,zl]
      refine Zq 101 (IsV (.bool (CB i))) (f:=36) (args:=#[.slice yA yn yc,.slice lA 3 lc,.int .i64 i]) rfl rfl rfl rfl (fun wv=>?_) (fun wv HC hrm hD=>?_) ?_
      ·go_simp<;>rfl
      ·exact (HER.out _ HC i).mono fun e w5 ⟨h1,b5⟩=>⟨_,h1,rfl,HC.call b5,RM.below b5⟩
      rintro u wx HCx rfl
      clear HCx
      simp only [Act.put,zl]
      refine V5 rfl rfl rfl ⟨.bool false,fun wv HC=>by go_simp,?_⟩
      iterate 3
       simp only [Act.put,zl]
       refine' dv rfl rfl rfl (fun wv HC=>?_) ?_;rotate_left
       · go_simp<;>rfl
      simp only [Act.put,zl]
      refine Zq 106 (IsV (.int .i64 V1)) (f:=37) (args:=#[.slice yA yn yc,.slice lA 3 lc]) rfl rfl rfl rfl (fun wv=>?_) (fun wv HC hrm hD=>?_) ?_
      ·go_simp<;>rfl
      ·exact (HT1.out _ HC).mono fun e w5 ⟨h1,b5⟩=>⟨_,h1,rfl,HC.call b5,RM.below b5⟩
      rintro u wx HCx rfl
      clear HCx
      iterate 2
       simp only [Act.put,zl]
       refine' dv rfl rfl rfl (fun wv HC=>?_) ?_;rotate_left
       · go_simp<;>rfl
      simp only [Act.put,zl]
      refine Zq 109 (IsV (.int .i64 V1)) (f:=38) (args:=#[.slice yA yn yc,.slice lA 3 lc]) rfl rfl rfl rfl (fun wv=>?_) (fun wv HC hrm hD=>?_) ?_
      ·go_simp<;>rfl
      ·exact (HT2.out _ HC).mono fun e w5 ⟨h1,b5⟩=>⟨_,h1,rfl,HC.call b5,RM.below b5⟩
      rintro u wx HCx rfl
      clear HCx
      simp only [Act.put,zl]
      refine V5 rfl rfl rfl ⟨.bool false,fun wv HC=>by go_simp,?_⟩
      iterate 5
       simp only [Act.put,zl]
       refine' dv rfl rfl rfl (fun wv HC=>?_) ?_;rotate_left
       · go_simp<;>rfl
      simp only [Act.put,zl]
      refine Zq 116 (IsV (.int .i64 V2)) (f:=37) (args:=#[.slice yA yn yc,.slice lA 2 lc]) rfl rfl rfl rfl (fun wv=>?_) (fun wv HC hrm hD=>?_) ?_
      ·go_simp<;>rfl
      ·exact (HT3.out _ HC).mono fun e w5 ⟨h1,b5⟩=>⟨_,h1,rfl,HC.call b5,RM.below b5⟩
      rintro u wx HCx rfl
      clear HCx
      iterate 3
       simp only [Act.put,zl]
       refine' dv rfl rfl rfl (fun wv HC=>?_) ?_;rotate_left
       · go_simp<;>rfl
      simp only [Act.put,zl]
      refine Zq 120 (IsV (.int .i64 V2)) (f:=38) (args:=#[.slice yA yn yc,.slice lA 2 lc]) rfl rfl rfl rfl (fun wv=>?_) (fun wv HC hrm hD=>?_) ?_
      ·go_simp<;>rfl
      ·exact (HT4.out _ HC).mono fun e w5 ⟨h1,b5⟩=>⟨_,h1,rfl,HC.call b5,RM.below b5⟩
      rintro u wx HCx rfl
      clear HCx
      simp only [Act.put,zl]
      refine V5 rfl rfl rfl ⟨.bool false,fun wv HC=>by go_simp,?_⟩
      simp only [Act.put,zl]
      refine' dv rfl rfl rfl (fun wv HC=>?_) ?_;rotate_left
      · go_simp<;>rfl
      simp only [Act.put,zl]
      refine ZE ?_
      rintro wx9 HX9
      rintro _hrm HG
      clear HG _hrm
      go_wp2_with fail
      go_roundw
      case rel=>exact ⟨j+1,by omega,by go_num,HX9⟩
      case measure=>simp [intOf];omega
   ·obtain rfl:j=4:=by omega
    go_wp2_with fail
    refine (JB _ _ H.Zc).mono ?_
    rintro e w5 ⟨rfl,b5⟩
    have K5:=H.call b5
    go_wp2_with fail
    go_ret
    exact ⟨rfl,K5.below⟩
end Go.Proofs.YtnbbllkbefagmaaGreatDoor

import Derived.Test.YtnmnkbnmollpmaaGreatDoorBdDscSaidMAI
import Derived.Test.YtnmnkbnmollpmaaGreatDoorBdDscSaidMAJ
set_option linter.unusedVariables false
set_option linter.unusedSimpArgs false
set_option maxHeartbeats 64000000
set_option maxRecDepth 100000
namespace Go.Proofs.YtnmnkbnmollpmaaGreatDoor
section
open Go.RowKit
theorem ZeG {d d' :Nat} {a:Ac} {w:World} (h:AcIn d a w) (hd:d≤d'):AcIn d' a w:=⟨⟨h.1.1,fun r hr=>⟨(h.1.2 r hr).1,fun x hx=>((h.1.2 r hr).2 x hx).le hd⟩⟩,⟨h.2.1.1,fun q hq=>(h.2.1.2 q hq).le hd⟩,⟨h.2.2.1.1,fun s hs=>(show ExIn d s.e w from h.2.2.1.2 s hs).le hd⟩,h.2.2.2.1,fun x hx=>(h.2.2.2.2 x hx).le hd⟩
theorem ZlU {d d' :Nat} {t:Tg} {w:World} (h:TgIn d t w) (hd:d≤d'):TgIn d' t w:=
 ⟨h.1,h.2.1,h.2.2.1,h.2.2.2.1,⟨h.2.2.2.2.1.1,fun x hx=>(h.2.2.2.2.1.2 x hx).le hd⟩,h.2.2.2.2.2.1,fun a ha=>ZeG (h.2.2.2.2.2.2 a ha) hd⟩
def dAc (gs gw gb gt:Nat) (lo hi:Int):Ac:=⟨2,nmU,SlP.nil,SlP.nil,⟨some ⟨gs,0,none⟩,1,1,[⟨nmN,VL gb⟩]⟩,⟨some ⟨gw,0,none⟩,1,1,[QP gt lo hi]⟩,⟨#[]⟩⟩
def sAc (gs:Nat) (hi:Int):Ac:=⟨2,nmU,SlP.nil,SlP.nil,⟨some ⟨gs,0,none⟩,1,1,[⟨nmN,ZF (nV hi)⟩]⟩,SlP.nil,⟨#[]⟩⟩
theorem ZfT (gs gw gb gt:Nat) (lo hi:Int):DownAc lo hi (dAc gs gw gb gt lo hi) (VL gb):=⟨rfl,rfl,rfl,rfl,⟨gb,rfl⟩,⟨gs,1,Kg _,rfl⟩,⟨rfl,gt,rfl⟩,rfl⟩
theorem ZfU (gs gw gb gt:Nat) (lo hi:Int) (h1:0≤lo) (h2:0≤hi):XH ZE Zr 1 lo hi (dAc gs gw gb gt lo hi):=⟨rfl,rfl,gb,gt,ZF (nV 1),ZF (nV lo),ZF (nV hi),rfl,rfl,.inl ⟨by omega,rfl⟩,.inl ⟨h1,rfl⟩,.inl ⟨h2,rfl⟩⟩
theorem ZkZ {P Q U:Tb} {hi:Int} (gs d:Nat) (hb:0≤hi∧hi≤100) (hst:StOk [P,Q,U]) (hlim:∀ y∈[P,Q,U],TbM y∧y.cs.length≤100∧y.rs.length≤100∧∀ r∈y.rs,r.2.length≤6):UpB d (sAc gs hi) nmN (ZF (nV hi)) P Q U 1 true (nV hi):=by
 have hU:=hst.at_ 2 U rfl
 have hP:=hst.at_ 0 P rfl
 have hQ:=hst.at_ 1 Q rfl
 have hc:U.cs=Y3:=hU.2.1
 refine ⟨⟨rfl,(show Yf nmU=true by decide+kernel),(show nmU.toList≠[] by decide+kernel),rfl,rfl,⟨gs,1,Kg _,rfl⟩,JP d hi hb.1,by decide+kernel,Lc _,(fun y hy=>nomatch hy),rfl⟩,⟨by rw [hP.1];exact (show nm3 0≠nmU by decide+kernel),by rw [hQ.1];exact (show nm3 1≠nmU by decide+kernel),hU.1⟩,hlim,by rw [hc];decide+kernel,fun r hr=>?_,(GL (by omega)).2,?_,hU.2.2.val,by rw [hc];exact zx (by omega)⟩
 ·obtain ⟨_,_,_,_,hok,_⟩:=XU hU.2.2.val
  rw [WN (Vp hok r hr),hc]
  decide+kernel
 ·exact fun r hr f hf=>⟨.inl ⟨rfl,rfl⟩,fun _=>QX d [f] (nV hi)⟩
theorem Zha {P Q U:Tb} (hst:StOk [P,Q,U]):Yk [P,Q,U] ZE=2:=by
 have e0:P.nm=nm3 0:=(hst.at_ 0 P rfl).1
 have e1:Q.nm=nm3 1:=(hst.at_ 1 Q rfl).1
 have e2:U.nm=nm3 2:=(hst.at_ 2 U rfl).1
 have k0:((nm3 0).toList==ZE.toList)=false:=by decide+kernel
 have k1:((nm3 1).toList==ZE.toList)=false:=by decide+kernel
 have k2:((nm3 2).toList==ZE.toList)=true:=by decide+kernel
 unfold Yk
 simp [Ze,Zy,e0,e1,e2,k0,k1,k2]
theorem down_row {U:Tb} {v:Vl} (h:VTab U) (hc:U.cs=Y3):∀ r∈(Z5 1 v U).rs,r.2[1]? =some v:=fun r hr=>by
 obtain ⟨r0,h0,rfl⟩:=Kt.1 (show r∈U.rs.map (setR 1 v) from hr)
 obtain ⟨_,_,_,_,hok,_⟩:=XU h.val
 have h1:=WN (Vp hok r0 h0)
 rw [hc] at h1
 have h2:r0.2.length=3:=h1
 show (r0.2.set 1 v)[1]? =some v
 rw [List.getElem?_set_self (by omega)]
theorem Zf8 (A:Option Addr) (n c:Nat) (zs:List Int) (low width:Int) (w:World) (hr:Rd w w.heap.size 1 A n (zs.map (Value.int .i64))) (hz:Ints zs) (hn:n≤c) (hc:c≤9223372036854775807) (hl64:I64 low) (hw64:I64 width) (hw:Wds w):
  Calls Tryz.prog 3 #[.slice A n c,.int .i64 low,.int .i64 width] w fun e w' =>e=.returned (.bool true)∧Below w.heap.size w w' :=by
 have hwl:=hw.lt
 have wd0:=hw.ro2 (M:=Zc) (fun h=>h)
 have hrz:=(Rd.ro hr (Kg _) (fun b _ h=>h):Ro w Zc (SlR 1 A n (zs.map (Value.int .i64))))
 have K0:=(((Hold.Yi w).add (hrz.less (by simp [Mut,Zc]))).add (wd0.less (by simp [Mut,Zc,Hp.foot])))
 clear hw hr wd0 hrz
 obtain ⟨lo,hlo⟩:∃ lo,lo=low % 5:=⟨_,rfl⟩
 obtain ⟨wd,hwd⟩:∃ wd,wd=width % 12:=⟨_,rfl⟩
 obtain ⟨hi,hhi⟩:∃ hi,hi=lo+wd:=⟨_,rfl⟩
 have hb:0≤lo∧lo≤hi∧hi≤100:=by omega
 have hwh:IntKind.i64.wrap (lo+wd)=hi:=by rw [Kn];omega
 have HB:=hid hb
 have HLO:=hid hlo
 have HWD:=hid hwd
 clear hlo hwd hhi
 go_enter Tryz.func3,Tryz.ntmps3
 go_wp2_with fail
 have hrz:Rd _ _ 1 A n (zs.map (Value.int .i64)):=(K0.ro 1 rfl).now
 refine (ZiJ A n c zs _ hrz hz hn hc).mono ?_
 rintro e w1 ⟨T,rfl,hT,t1,b1⟩
 have hwl2:0<T:=by have:=(K0.ro 0 rfl).now.lt;omega
 have K1:=Hold.ZiI (K0.drop (L' :=[_]) (.cons_cons _ (.cons _ (List.nil_sublist _)))) b1 t1 hT (by simp [Mut,Zc,Hp.foot])
 clear K0 t1 b1 hT hrz
 go_wp2_with fail
 refine (JV _ _ _ hl64 (by omega) (by omega)).mono ?_
 rintro e w2 ⟨rfl,rfl⟩
 rw [←HLO.out]
 go_wp2_with fail
 refine (JV _ _ _ hw64 (by omega) (by omega)).mono ?_
 rintro e w2 ⟨rfl,rfl⟩
 rw [←HWD.out]
 obtain ⟨gk,hgk⟩:∃ g,g=w1.heap.size:=⟨_,rfl⟩
 have K2:=K1.Za #[.string ⟨#[117]⟩,.string ⟨#[110]⟩,.int .i64 lo,.int .i64 hi] 27
 rw [←hgk] at K2
 clear K1
 go_wp2_with fail
 rw [←hgk]
 clear hgk hb hwh
 generalize World.alloc _ _=wa at K2 ⊢
 refine (ZaJ _ ⟨#[]⟩ ⟨#[110]⟩).mono ?_
 rintro e w3 ⟨rfl,b3⟩
 have K3:=K2.call b3
 clear K2 b3
 go_wp2_with fail
 refine (JW (Mut Zc _) _ K3.Zb 1 (by omega)).mono ?_
 rintro e w4 ⟨kE,rfl,hkE,rk,b4⟩
 obtain rfl:=Qi hkE (by omega)
 have K4:=(K3.call b4).add rk
 clear K3 b4 rk hkE
 go_wp2_with fail
 refine (Zfb (Mut Zc _) _ K4.Zb 10 (ZU ⟨#[]⟩ ⟨#[110]⟩) _ 2 (fun w2 _ _=>(ZaK _ _ _).more) (K4.ro 0 rfl)).mono ?_
 rintro e w5 ⟨gb,rfl,rb,b5⟩
 have K5:=(K4.call b5).add rb
 clear K4 b5 rb
 rw [show (opE 5 10 false gb 2 [ZU ⟨#[]⟩ ⟨#[110]⟩,ZF ⟨1,1,⟨#[]⟩⟩]).val=.agg #[.int .i64 5,.int .i64 10,.bool false,.int .i64 0,.int .i64 0,.string ⟨#[]⟩,.string ⟨#[]⟩,.string ⟨#[]⟩,.slice (some ⟨gb,0,none⟩) 2 2,.slice none 0 0] from rfl]
 have K6:=K5.Za #[.string ⟨#[110]⟩,.int .i64 5,.int .i64 10,.bool false,.int .i64 0,.int .i64 0,.string ⟨#[]⟩,.string ⟨#[]⟩,.string ⟨#[]⟩,.slice (some ⟨gb,0,none⟩) 2 2,.slice none 0 0] 39
 obtain ⟨gs,hgs⟩:∃ gs,gs=w5.heap.size:=⟨_,rfl⟩
 rw [←hgs] at K6
 clear K5
 go_wp2_with fail
 rw [←hgs]
 clear hgs
 generalize World.alloc _ _=wb at K6 ⊢
 refine (Zfa (Mut Zc _) _ K6.Zb ⟨#[110]⟩ lo hi (by have:=HB.out;omega) (by have:=HB.out;omega)).mono ?_
 rintro e w6 ⟨gt,x,y,rfl,hx,hy,rt,b6⟩
 obtain rfl:=Qi hx HB.out.1
 obtain rfl:=Qi hy (by have:=HB.out;omega)
 have K7:=(((((K6.call b6).add rt).Za #[.int .i64 7,.int .i64 0,.bool false,.int .i64 0,.int .i64 0,.string ⟨#[]⟩,.string ⟨#[]⟩,.string ⟨#[]⟩,.slice (some ⟨gt,0,none⟩) 3 3,.slice none 0 0] 34).Za #[.int .i64 2,.string ⟨#[117]⟩,.slice none 0 0,.slice none 0 0,.slice (some ⟨gs,0,none⟩) 1 1,.slice (some ⟨w6.heap.size,0,none⟩) 1 1,.string ⟨#[]⟩] 44).Za #[.string ⟨#[97]⟩,.string ⟨#[117]⟩,.bool false,.int .i64 2,.slice none 0 0,.bool false,.slice none 0 0,.slice none 0 0,.slice (some ⟨gk,0,none⟩) 1 1,.slice none 0 0,.slice (some ⟨w6.heap.size+1,0,none⟩) 1 1] 48)
 simp only [World.size_alloc] at K7
 clear K6 b6 rt hx hy
 rw [show (opE 7 0 false gt 3 [ZU ⟨#[]⟩ ⟨#[110]⟩,ZF ⟨1,lo,⟨#[]⟩⟩,ZF ⟨1,hi,⟨#[]⟩⟩]).val=.agg #[.int .i64 7,.int .i64 0,.bool false,.int .i64 0,.int .i64 0,.string ⟨#[]⟩,.string ⟨#[]⟩,.string ⟨#[]⟩,.slice (some ⟨gt,0,none⟩) 3 3,.slice none 0 0] from rfl]
 obtain ⟨gw,hgw⟩:∃ g,g=w6.heap.size:=⟨_,rfl⟩
 obtain ⟨ga,hga⟩:∃ g,g=gw+1:=⟨_,rfl⟩
 obtain ⟨gx,hgx⟩:∃ g,g=ga+1:=⟨_,rfl⟩
 rw [←hgw,←hga,←hgx] at K7
 go_wp2_with fail
 rw [←hgw,←hga,←hgx]
 clear hgw hga hgx
 generalize World.alloc _ _=wc at K7 ⊢
 have hS:Ro _ _ (SesIn 3 (some ⟨gs,0,none⟩) 1 [⟨nmN,VL gb⟩]):=(show Ro _ _ (SlR 11 (some ⟨gs,0,none⟩) 1 [.string ⟨#[110]⟩,.int .i64 5,.int .i64 10,.bool false,.int .i64 0,.int .i64 0,.string ⟨#[]⟩,.string ⟨#[]⟩,.string ⟨#[]⟩,.slice (some ⟨gb,0,none⟩) 2 2,.slice none 0 0]) from ZO (K7.get 4 rfl) rfl).and ((K7.ro 5 rfl).imp fun w2 h2 s hs=>by
  simp only [List.mem_cons,List.not_mem_nil,or_false] at hs
  subst hs
  exact h2)
 have hW:Ro _ _ (ExsIn 3 (some ⟨gw,0,none⟩) 1 [QP gt lo hi]):=Qb (l:=[QP gt lo hi]) (K7.get 2 rfl) rfl (fun z hz=>by
  simp only [List.mem_cons,List.not_mem_nil,or_false] at hz
  subst hz
  exact K7.ro 3 rfl)
 have hR:Ro _ _ (RksIn (some ⟨gk,0,none⟩) 1 [⟨ZE,Zr,lo,hi⟩]):=(show Ro _ _ (SlR 4 (some ⟨gk,0,none⟩) 1 [.string ⟨#[117]⟩,.string ⟨#[110]⟩,.int .i64 lo,.int .i64 hi]) from ZO (K7.get 7 rfl) rfl).imp fun w2 h2=>⟨h2,fun _ _=>trivial⟩
 have hA:Ro _ _ (AcsIn 3 (some ⟨ga,0,none⟩) 1 [dAc gs gw gb gt lo hi]):=(show Ro _ _ (SlR 7 (some ⟨ga,0,none⟩) 1 [.int .i64 2,.string ⟨#[117]⟩,.slice none 0 0,.slice none 0 0,.slice (some ⟨gs,0,none⟩) 1 1,.slice (some ⟨gw,0,none⟩) 1 1,.string ⟨#[]⟩]) from ZO (K7.get 1 rfl) rfl).and ((hS.and hW).imp fun w2 h2 s hs=>by
  simp only [List.mem_cons,List.not_mem_nil,or_false] at hs
  subst hs
  exact ⟨SlP.YM _ _ _ _,SlP.YM _ _ _ _,h2.1,h2.2⟩)
 have hX:Ro _ _ (TgIn 3 (ZA gk ga Zr lo hi (dAc gs gw gb gt lo hi))):=(hR.and hA).imp fun w2 h2=>⟨SlP.YM _ _ _ _,SlP.YM _ _ _ _,SlP.YM _ _ _ _,h2.1,SlP.YM _ _ _ _,h2.2⟩
 obtain ⟨a,ha⟩:∃ a,a=dAc gs gw gb gt lo hi:=⟨_,rfl⟩
 rw [←ha] at hX
 have HDN:=hid (show DownAc lo hi a (VL gb) from by rw [ha];exact ZfT _ _ _ _ _ _)
 have HLW:=hid (show XH ZE Zr 1 lo hi a∧AcSm a from by rw [ha];exact ⟨ZfU _ _ _ _ _ _ HB.out.1 (by have:=HB.out;omega),⟨rfl,rfl,Kg _,Kg _⟩⟩)
 have K8:=(K7.add hX).pick [0,1,9,10] (by decide) rfl
 simp only [List.filterMap_cons,List.filterMap_nil,List.getElem?_cons_zero,List.getElem?_cons_succ] at K8
 clear K7 hS hW hR hA hX ha
 refine (Zl5 (Mut Zc _) T _ K8.Zb (K8.tp_ 2 rfl) (K8.get 2 rfl).2 5 (by omega) ((K8.ro 3 rfl).less (WQ (i:=2) rfl)) hwl2).mono ?_
 rintro e w7 ⟨A0,c0,l,rfl,hc1,hc2,hS,r0,t2,g2⟩
 have K9:=(((Hold.Xk K8 2 rfl g2 t2).add r0).drop (L' :=[_,_,_]) (.cons_cons _ (.cons_cons _ (.cons_cons _ (KV _)))))
 have HS:=hid hS
 have HC0:=hid (KJ hc1 hc2)
 clear K8 t2 g2 r0 hS hc1 hc2 hwl2 hz
 obtain ⟨p,q,u,rfl⟩:∃ p q u,l=[p,q,u]:=by
  have h:=HS.out.len
  match l,h with
  | [p,q,u],_=>exact ⟨p,q,u,rfl⟩
 have hst:StOk [p.tb,q.tb,u.tb]:=HS.out.st
 have HST:=hid hst
 have HLM:=hid (Jd hst)
 have HOK:=hid (show ∀ z∈[p,q,u],z.ok from fun z hz=>(HS.out.ok z hz).1)
 have hur:u.tb.rs.length≤5:=(HS.out.ok u (by simp)).2.2
 have HUR:=hid hur
 clear hst hur HS
 go_wp2_with fail
 refine (JW (Mut Zc _) _ K9.Zb hi (by have:=HB.out;omega)).mono ?_
 rintro e w8 ⟨kE,rfl,hkE,rk,b8⟩
 obtain rfl:=Qi hkE (by have:=HB.out;omega)
 rw [show (ZF ⟨1,hi,⟨#[]⟩⟩).val=.agg #[.int .i64 1,.int .i64 0,.bool false,.int .i64 1,.int .i64 hi,.string ⟨#[]⟩,.string ⟨#[]⟩,.string ⟨#[]⟩,.slice none 0 0,.slice none 0 0] from rfl]
 have K10:=((K9.call b8).add rk).Za #[.string ⟨#[110]⟩,.int .i64 1,.int .i64 0,.bool false,.int .i64 1,.int .i64 hi,.string ⟨#[]⟩,.string ⟨#[]⟩,.string ⟨#[]⟩,.slice none 0 0,.slice none 0 0] 39
 obtain ⟨gs2,hgs2⟩:∃ g,g=w8.heap.size:=⟨_,rfl⟩
 rw [←hgs2] at K10
 clear K9 b8 rk hkE
 go_wp2_with fail
 rw [←hgs2]
 clear hgs2
 generalize World.alloc _ _=wd at K10 ⊢
 have hA2:Ro wd (Mut Zc _) (AcIn 2 (sAc gs2 hi)):=((show Ro _ _ (SlR 11 (some ⟨gs2,0,none⟩) 1 [.string ⟨#[110]⟩,.int .i64 1,.int .i64 0,.bool false,.int .i64 1,.int .i64 hi,.string ⟨#[]⟩,.string ⟨#[]⟩,.string ⟨#[]⟩,.slice none 0 0,.slice none 0 0]) from ZO (K10.get 0 rfl) rfl).and (K10.ro 1 rfl)).imp fun w2 h2=>⟨SlP.YM _ _ _ _,SlP.YM _ _ _ _,⟨h2.1,fun s hs=>by
  simp only [sAc,List.mem_cons,List.not_mem_nil,or_false] at hs
  subst hs
  exact h2.2⟩,SlP.YM _ _ _ _⟩
 refine (ZcP (Mut Zc _) _ K10.Zb 2 (sAc gs2 hi) nmN (ZF (nV hi)) p.tb q.tb u.tb 1 true (nV hi) A0 3 c0 [p,q,u] none 0 0 [] none 0 0 none 0 0 [] (ZkZ gs2 2 (by have:=HB.out;omega) HST.out HLM.out) rfl HOK.out hA2 (K10.ro 2 rfl) (fun w2 _ _=>ZG 11 w2) (fun z hz=>nomatch hz) (by omega) (fun w2 _ _=>⟨ZG 4 w2,fun x hx=>nomatch hx⟩) (by omega)).mono ?_
 simp only [if_true]
 rintro e w9 ⟨mA,mn,mc,ml,rfl,hm1,hm2,hm3,hm4,rm,b9⟩
 have hmn:mn=3:=by
  have h1:=rm.now.len
  have h2:=congrArg List.length hm3
  simp only [List.length_map,List.length_cons,List.length_nil] at h2
  omega
 subst hmn
 have K12:=((K10.call b9).add rm).pick [0,3,4,5] (by decide) rfl
 simp only [List.filterMap_cons,List.filterMap_nil,List.getElem?_cons_zero,List.getElem?_cons_succ] at K12
 have hm3' :ml.map Te.tb=[p.tb,q.tb,ZP u.tb lo hi 0]:=by rw [hm3,Zgf]
 have hst1:StOk [p.tb,q.tb,ZP u.tb lo hi 0]:=HST.out.set (k:=2) rfl (x:=ZP u.tb lo hi 0) rfl rfl ((HST.out.at_ 2 u.tb rfl).2.2.set (U1 (HST.out.at_ 2 u.tb rfl).2.2 (HST.out.at_ 2 u.tb rfl).2.1 HB.out 0))
 have HM3:=hid hm3'
 have HST1:=hid hst1
 have hml:∀ z∈ml,z.ok∧(TbM z.tb∧z.tb.cs.length≤100∧z.tb.rs.length≤100∧∀ r∈z.tb.rs,r.2.length≤6):=fun z hz=>⟨hm4 z hz,Jd hst1 z.tb (by rw [←hm3'];exact Ko hz)⟩
 have HML:=hid hml
 clear K10 b9 rm hA2 hm3 hm3' hst1 hm4 hml
 obtain ⟨L,hL,hLc⟩:=Zhg HB.out HST.out
 obtain ⟨N,bb,vv,hs,hmd,hN⟩:∃ (N:Nat) (bb:Nat→Bool) (vv:Nat→Vl),StepsB 3 a nmN (VL gb) p.tb q.tb nmU (ZP u.tb lo hi) N 1 bb vv∧QK nmU (0<N) L∧(L=[]∧N=0∨u.tb.rs≠[]∧N=(hi - lo+1).toNat+1∧∃ d:Dl,L=[d]∧d.nm=nmU∧d.upd≠[]):=by
  rcases hLc with rfl|⟨hne,d,rfl,h1,h2,h3,h4⟩
  ·exact ⟨0,fun _=>true,fun _=>nV 0,ZlA HB.out HDN.out.tab HST.out,⟨fun h=>absurd h (by omega),fun _=>rfl⟩,.inl ⟨rfl,rfl⟩⟩
  ·exact ⟨_,_,_,Zlz 2 HDN.out HB.out HST.out HLM.out hne,⟨fun _=>⟨d,rfl,h1,h2,h3,h4⟩,fun h=>absurd (by omega) h⟩,.inr ⟨hne,rfl,d,rfl,h1,h4⟩⟩
 have HL:=hid hL
 have HSS:=hid hs
 have HMD:=hid hmd
 have HN:=hid hN
 clear hL hLc hs hmd hN
 go_wp2_with fail
 refine (zi (Mut Zc _) _ K12.Zb A0 3 c0 [p,q,u] mA 3 mc ml (K12.ro 1 rfl) (K12.ro 0 rfl) (fun z hz=>⟨HOK.out z hz,(HLM.out z.tb (by simpa using List.mem_map_of_mem (f:=Te.tb) hz)).1⟩) (fun z hz=>⟨(HML.out z hz).1,(HML.out z hz).2.1⟩) (by omega) (by omega)).mono ?_
 rw [HM3.out,show [p,q,u].map Te.tb=[p.tb,q.tb,u.tb] from rfl,HL.out]
 rintro e w10 ⟨dA,dn,dc,el,rfl,hd1,hd2,hd3,hd4,rD,b10⟩
 have K13:=(K12.call b10).add rD
 have HEL:=hid (KJ (show el.map El.dl=L from hd3) hd4)
 clear K12 b10 rD hd3 hd4 hd1 hd2
 have F13:=K13.facts
 simp only [zg] at F13
 have K14:=K13.Za #[.string ⟨#[97]⟩,.string ⟨#[117]⟩,.bool false,.int .i64 2,.slice none 0 0,.bool false,.slice none 0 0,.slice none 0 0,.slice (some ⟨gk,0,none⟩) 1 1,.slice none 0 0,.slice (some ⟨ga,0,none⟩) 1 1] 48
 obtain ⟨gz,hgz⟩:∃ g,g=w10.heap.size:=⟨_,rfl⟩
 rw [←hgz] at K14
 clear K13
 go_wp2_with fail
 rw [←hgz]
 clear hgz F13
 generalize World.alloc _ _=we at K14 ⊢
 have hG:Ro we (Mut Zc _) (TgsIn 3 (some ⟨gz,0,none⟩) 1 [stT ⟨#[97]⟩ nmU (some ⟨gk,0,none⟩) 1 1 [⟨ZE,Zr,lo,hi⟩] ga a]):=((show Ro _ _ (SlR 11 (some ⟨gz,0,none⟩) 1 (Vy [stT ⟨#[97]⟩ nmU (some ⟨gk,0,none⟩) 1 1 [⟨ZE,Zr,lo,hi⟩] ga a])) from ZO (K14.get 0 rfl) rfl).and (K14.ro 4 rfl)).imp fun w2 h2=>⟨h2.1,fun x hx=>by
  simp only [List.mem_cons,List.not_mem_nil,or_false] at hx
  subst hx
  exact h2.2⟩
 refine (Zku (Mut Zc _) _ K14.Zb 3 (some ⟨gz,0,none⟩) 1 ⟨#[97]⟩ nmU (some ⟨gk,0,none⟩) 1 1 [⟨ZE,Zr,lo,hi⟩] ga a nmN (VL gb) p.tb q.tb (ZP u.tb lo hi) N 1 bb vv A0 3 c0 [p,q,u] mA 3 mc ml L HSS.out HM3.out (fun z hz=>(HML.out z hz).1) (K14.ro 3 rfl) (by omega) (fun z hz=>⟨HOK.out z hz,(HLM.out z.tb (by simpa using List.mem_map_of_mem (f:=Te.tb) hz)).1⟩) hG (K14.ro 2 rfl) (fun z hz=>(JK ((K14.ro 2 rfl).now.2 z hz) (HML.out z hz).1 (HML.out z hz).2).1) HL.out HMD.out).mono ?_
 rintro e w11 ⟨rA,rn,rc,rl,rfl,hr1,hr2,hr3,hr4,rr,b11⟩
 have K15:=(((K14.call b11).add rr).Za #[.slice rA rn rc,.int .i64 N,.int .i64 N,.slice none 0 0,.slice none 0 0] 58)
 have hrn:rn=3:=by
  have h1:=rr.now.len
  have h2:=congrArg List.length hr3
  simp only [List.length_map,List.length_cons,List.length_nil] at h2
  omega
 obtain ⟨gn,hgn⟩:∃ g,g=w11.heap.size:=⟨_,rfl⟩
 rw [←hgn] at K15
 have HR3:=hid hr3
 clear K14 b11 rr hr3 hG hr4
 subst hrn
 rcases HN.out with ⟨hL0,hN0⟩|⟨hne,hN1,d,hL1,hdn,hdu⟩
 ·obtain rfl:el=[]:=List.map_eq_nil_iff.1 (by rw [HEL.out.1,hL0])
  obtain rfl:0=dn:=(K15.ro 3 rfl).now.len
  clear hL0 hN0
  go_wp2_with fail
  (try rw [←hgn])
  clear hgn
  generalize World.alloc _ _=wf at K15 ⊢
  refine (ZbV _).mono ?_
  rintro e w12 ⟨rfl,b12⟩
  have HBE:=hid (K15.call b12).below
  clear K15 b12
  go_wp2_with fail
  go_ret
  exact ⟨rfl,HBE.out⟩
 ·obtain ⟨y,rfl⟩:∃ y,el=[y]:=by
   have h:=congrArg List.length (HEL.out.1.trans hL1)
   match el,h with
   | [y],_=>exact ⟨y,rfl⟩
  obtain rfl:1=dn:=(K15.ro 3 rfl).now.len
  have HY:=hid (show y.nm=nmU∧y.lu≠[] from by
   have h:y.dl=d:=by simpa using HEL.out.1.trans hL1
   refine ⟨by rw [←hdn,←h];rfl,fun e=>hdu ?_⟩
   rw [←h]
   show y.lu.map Pr.upd=[]
   rw [e]
   rfl)
  have HNE:=hid (KJ hne hN1)
  clear hne hN1 hL1 hdn hdu
  go_wp2_with fail
  (try rw [←hgn])
  clear hgn
  generalize World.alloc _ _=wf at K15 ⊢
  have hsetN:=U1 (HST.out.at_ 2 u.tb rfl).2.2 (HST.out.at_ 2 u.tb rfl).2.1 HB.out N
  have hstN:StOk [p.tb,q.tb,ZP u.tb lo hi N]:=HST.out.set (k:=2) rfl (x:=ZP u.tb lo hi N) rfl rfl ((HST.out.at_ 2 u.tb rfl).2.2.set hsetN)
  refine (ZcR (Mut Zc _) _ K15.Zb rA 3 rc rl ⟨#[117]⟩ (K15.ro 1 rfl) (by omega)).mono ?_
  rw [HR3.out,show Yk [p.tb,q.tb,ZP u.tb lo hi N] ⟨#[117]⟩=2 from Zha hstN]
  rintro e w12 ⟨rfl,b12⟩
  obtain ⟨p2,q2,u2,rfl,hp2,hq2,hu2⟩:=Qz HR3.out
  have K16:=(K15.call b12).pick [0,1,3,4,6,7] (by decide) rfl
  simp only [List.filterMap_cons,List.filterMap_nil,List.getElem?_cons_zero,List.getElem?_cons_succ] at K16
  have hrow:∀ r∈u2.l,r.vs[1]? =some (nV (lo - 1)):=fun r hr=>by
   have h1:r.row∈u2.tb.rs:=Ko hr
   rw [hu2,HNE.out.2,Zge u.tb HB.out.2.1] at h1
   exact down_row (HST.out.at_ 2 u.tb rfl).2.2 (HST.out.at_ 2 u.tb rfl).2.1 _ h1
  have HROW:=hid hrow
  have hul:=(K16.ro 1 rfl).now.2 u2 (by simp)
  have hum:u2.l.length=u2.m:=hul.2.len
  have hup:0<u2.m∧u2.m≤5:=by
   have h1:=congrArg (fun t:Tb=>t.rs.length) hu2
   simp only [ZP,Z5,List.length_map] at h1
   have h2:(u2.l.map Rw.row).length=u.tb.rs.length:=h1
   rw [Kj] at h2
   have h3:=List.length_pos_iff.2 HNE.out.1
   have h4:=HUR.out
   omega
  have HUM:=hid hum
  obtain ⟨un,uA,unn,uc,ucs,unx,uB,um,ud,ul⟩:=u2
  simp only at hup
  obtain ⟨r0,hr0⟩:=Ya HUM.out hup.1
  obtain ⟨ub,uo,rfl,-,-⟩:=hul.2.at_ hr0
  obtain ⟨rb,ro,rfl,hrb,-,-,-,r3,-⟩:=(K16.ro 1 rfl).now.at_ (show [p2,q2,⟨un,uA,unn,uc,ucs,unx,some ⟨ub,uo,none⟩,um,ud,ul⟩][2]? =some ⟨un,uA,unn,uc,ucs,unx,some ⟨ub,uo,none⟩,um,ud,ul⟩ from rfl)
  simp only at r3
  clear hsetN hstN K15 b12 hp2 hq2 hu2 hrow hul hum hr0
  have F16:=K16.facts
  simp only [zg] at F16
  go_wp2_with fail
  clear F16 r3
  go_loopw [102] (fun iv wr=>∃ j:Nat,j≤um∧iv=.int .i64 j∧Hold Zc none w wr [.cst gn 58 #[.slice (some ⟨rb,ro,none⟩) 3 rc,.int .i64 N,.int .i64 N,.slice none 0 0,.slice none 0 0],.ro (TesIn (some ⟨rb,ro,none⟩) 3 [p2,q2,⟨un,uA,unn,uc,ucs,unx,some ⟨ub,uo,none⟩,um,ud,ul⟩]),.ro (ElsIn dA 1 [y]),.ro (TesIn mA 3 ml),.ro (TgIn 3 (ZA gk ga Zr lo hi a)),.cst gx 48 #[.string ⟨#[97]⟩,.string ⟨#[117]⟩,.bool false,.int .i64 2,.slice none 0 0,.bool false,.slice none 0 0,.slice none 0 0,.slice (some ⟨gk,0,none⟩) 1 1,.slice none 0 0,.slice (some ⟨ga,0,none⟩) 1 1]]) (fun iv _=>um - (intOf iv).toNat)
  case atStart=>exact ⟨0,by omega,rfl,K16⟩
  case round=>
   clear K16
   obtain ⟨j,hj,rfl,H⟩:=hrel
   by_cases hlt:j<um
   ·obtain ⟨r,hr⟩:=Ya HUM.out hlt
    have hu5:=hup.2
    have hv:=HROW.out r (Ka hr)
    obtain ⟨ub',uo',hub,hubl,c0,c1,hvs⟩:=((H.ro 1 rfl).now.2 ⟨un,uA,unn,uc,ucs,unx,some ⟨ub,uo,none⟩,um,ud,ul⟩ (by simp)).2.at_ hr
    obtain ⟨rfl,rfl⟩:ub=ub' ∧uo=uo' :=by injection hub with h;injection h with h1 h2;exact ⟨h1,h2⟩
    obtain ⟨vb,vo,hvb,hvbl,v0,v1,v2⟩:=hvs.at_ hv
    have hvn:r.vs.length=r.n:=hvs.len
    have hv1:1<r.n:=by
     have:=(Kc.1 hv).1
     omega
    rw [hvb] at c1
    have hcmp:decide (lo - 1≥lo)=false:=by simp;omega
    have hnv:(nV (lo - 1)).i=lo - 1:=rfl
    rw [hnv] at v1
    simp only [Nat.one_mul] at v1
    have K17:=H.Za #[.int .i64 r.id,.slice (some ⟨vb,vo,none⟩) r.n r.c] 72
    have F17:=K17.facts
    simp only [zg] at F17
    clear hv hub hvs hvb v0 v2 hnv hr hvn H
    go_wp2_with fail
    go_roundw
    case rel=>exact ⟨j+1,by omega,by go_num,K17.drop (Kb _ _)⟩
    case measure=>simp [intOf];omega
   ·obtain rfl:j=um:=by omega
    have hb:=HB.out
    have hw1:IntKind.i64.wrap (hi - lo)=hi - lo:=by rw [Kn];omega
    have hw2:IntKind.i64.wrap (hi - lo+1)=hi - lo+1:=by rw [Kn];omega
    clear hb
    go_wp2_with fail
    have hb:=HB.out
    obtain ⟨p1,q1,u1,rfl,hp1,hq1,hu1⟩:=Qz HM3.out
    have hst1:StOk [p1.tb,q1.tb,u1.tb]:=by rw [hp1,hq1,hu1];exact HST1.out
    have hu1l:u1.l.length=u1.m:=((H.ro 3 rfl).now.2 u1 (by simp)).2.len
    have hu1m:u1.m=u.tb.rs.length:=by
     have h1:=congrArg (fun t:Tb=>t.rs.length) hu1
     simp only [ZP,Z5,List.length_map] at h1
     have h2:(u1.l.map Rw.row).length=u.tb.rs.length:=h1
     rw [Kj] at h2
     omega
    obtain ⟨cn,hcn⟩:∃ cn:Nat,cn=u.tb.rs.length:=⟨_,rfl⟩
    have hcb:1≤cn∧cn≤5:=by
     have h3:=List.length_pos_iff.2 HNE.out.1
     have h4:=HUR.out
     omega
    rw [←hcn] at hu1m ⊢
    have hrd:YD (4+1) [ZA gk ga Zr lo hi a] [p1,q1,u1]=(cn:Int) * (hi - lo+1)+1:=by
     rw [ZcA hst1 HLW.out.1 HB.out (by omega),hu1m]
    have hfi:hi - lo+2≤XM 5 [ZA gk ga Zr lo hi a] [p1,q1,u1] [y.de]:=Zhd hst1 HLW.out.1 HB.out (by omega) (d:=y.de) HY.out.1 HY.out.2
    obtain ⟨fi,hfe⟩:∃ fi,fi=XM 5 [ZA gk ga Zr lo hi a] [p1,q1,u1] [y.de]:=⟨_,rfl⟩
    rw [←hfe] at hfi
    have hNi:(N:Int)=hi - lo+1+1:=by rw [HNE.out.2];omega
    rw [hNi] at H
    have hp0:0≤(cn:Int) * (hi - lo+1):=Int.mul_nonneg (by omega) (by omega)
    have hp5:(cn:Int) * (hi - lo+1)≤5 * 101:=Int.mul_le_mul (by omega) (by omega) (by omega) (by omega)
    have hx1:IntKind.i64.wrap ((cn:Int) * (hi - lo+1))=(cn:Int) * (hi - lo+1):=by rw [Kn];omega
    have hx2:IntKind.i64.wrap ((cn:Int) * (hi - lo+1)+1)=(cn:Int) * (hi - lo+1)+1:=by rw [Kn];omega
    have hx3:IntKind.i64.wrap (hi - lo+1+1)=hi - lo+1+1:=by rw [Kn];omega
    have hx4:decide (hi - lo+1+1≤fi)=true:=by simp;omega
    have hsm:=fun z (hz:z∈[p1,q1,u1])=>JK ((H.ro 3 rfl).now.2 z hz) (HML.out z hz).1 (HML.out z hz).2
    have HTE:Hid (∀ z∈[p1,q1,u1],BTe z):=hid fun z hz=>⟨by have:=(hsm z hz).2.1;omega,(hsm z hz).2.2.1,(HML.out z hz).2.1.nm⟩
    have HTG:Hid (∀ z∈[ZA gk ga Zr lo hi a],BTg z):=hid fun z hz=>by
     simp only [List.mem_cons,List.not_mem_nil,or_false] at hz
     subst hz
     refine ⟨Zf5 HLW.out.1 HLW.out.2 5,⟨(fun h=>nomatch h),by simp [ZA,SlP.nil],by simp [ZA],fun b hb=>?_⟩,fun r hr=>?_,⟨by simp [ZA],fun b hb=>?_⟩,?_,by simp [ZA,SlP.nil]⟩
     ·simp only [ZA,List.mem_cons,List.not_mem_nil,or_false] at hb
      subst hb
      obtain ⟨g,c,-,h⟩:=HDN.out.sets
      rw [h]
      simp
     ·simp only [ZA,List.mem_cons,List.not_mem_nil,or_false] at hr
      subst hr
      exact ⟨⟨by have:=HB.out;constructor<;>simp only<;>omega,by have:=HB.out;constructor<;>simp only<;>omega⟩,(show ZE.size≤maxLen by decide+kernel),(show Zr.size≤maxLen by decide+kernel)⟩
     ·simp only [ZA,List.mem_cons,List.not_mem_nil,or_false] at hb
      subst hb
      exact ⟨by rw [HDN.out.rows];omega,by rw [HDN.out.qs];omega⟩
     ·show ZE.size≤maxLen
      decide+kernel
    obtain ⟨KL,hKL,KN⟩:=H.name
    have HF:Hid (∀ wv,Hold Zc none w wv KL→Blk wv gx 48 #[.string ⟨#[97]⟩,.string ⟨#[117]⟩,.bool false,.int .i64 2,.slice none 0 0,.bool false,.slice none 0 0,.slice none 0 0,.slice (some ⟨gk,0,none⟩) 1 1,.slice none 0 0,.slice (some ⟨ga,0,none⟩) 1 1]∧Blk wv gn 58 #[.slice (some ⟨rb,ro,none⟩) 3 rc,.int .i64 (hi - lo+1+1),.int .i64 (hi - lo+1+1),.slice none 0 0,.slice none 0 0]∧Ro wv Zc (TesIn mA 3 [p1,q1,u1])∧Ro wv Zc (TgIn 5 (ZA gk ga Zr lo hi a))∧Ro wv Zc (DesIn dA 1 [y.de])):=hid fun wv HC=>by
     rw [hKL] at HC
     exact ⟨HC.Zg 5 rfl,HC.Zg 0 rfl,(HC.ro 3 rfl).less fun b h=>h.elim,((HC.ro 4 rfl).imp fun w2 h2=>ZlU h2 (by omega)).less fun b h=>h.elim,((HC.ro 2 rfl).imp fun w2 h2=>Zf4 h2).less fun b h=>h.elim⟩
    have HKL:=hid hKL
    have HG1:=hid (fun (wv:World) (g:Nat) (HC:Hold Zc none w wv KL) (h:Y4 (Mut Zc KL) 11 #[.string ⟨#[97]⟩,.string ⟨#[117]⟩,.bool false,.int .i64 2,.slice none 0 0,.bool false,.slice none 0 0,.slice none 0 0,.slice (some ⟨gk,0,none⟩) 1 1,.slice none 0 0,.slice (some ⟨ga,0,none⟩) 1 1] (.slice (some ⟨g,0,none⟩) 1 1) wv)=>(((G7 h).less (M' :=Zc) zn).and (HF.out wv HC).2.2.2.1).imp fun w4 h4=>(⟨h4.1,fun x hx=>by
     simp only [List.mem_cons,List.not_mem_nil,or_false] at hx
     subst hx
     exact h4.2⟩:TgsIn 5 (some ⟨g,0,none⟩) 1 [ZA gk ga Zr lo hi a] w4))
    have HDE:Hid (∀ z∈[y.de],DeB z):=hid fun z hz=>by
     simp only [List.mem_cons,List.not_mem_nil,or_false] at hz
     subst hz
     have g:=HEL.out.2 y (by simp)
     exact ⟨by have:=g.i;show y.ni≤1000;omega,by have:=g.d;show y.nd≤1000;omega,by have:=g.u;show y.nu≤1000;omega,fun r hr=>by have:=(g.li r hr).2;omega,fun r hr=>by have:=(g.ld r hr).2;omega,fun r hr=>by have:=(g.lu r hr).2;omega⟩
    have HRD:=hid hrd
    have HFE:=hid hfe
    clear hKL H hrd hfe hst1 hp1 hq1 hu1 hu1l hu1m hcn hsm hb hNi hup
    refine Lj (by kernel_rfl) ?_
    refine Zn 29 147 (KL) (spL [(119,Y4 (Mut Zc KL) 11 #[.string ⟨#[97]⟩,.string ⟨#[117]⟩,.bool false,.int .i64 2,.slice none 0 0,.bool false,.slice none 0 0,.slice none 0 0,.slice (some ⟨gk,0,none⟩) 1 1,.slice none 0 0,.slice (some ⟨ga,0,none⟩) 1 1]),(121,IsV (.int .i64 ((cn:Int) * (hi - lo+1)+1))),(138,Y4 (Mut Zc KL) 11 #[.string ⟨#[97]⟩,.string ⟨#[117]⟩,.bool false,.int .i64 2,.slice none 0 0,.bool false,.slice none 0 0,.slice none 0 0,.slice (some ⟨gk,0,none⟩) 1 1,.slice none 0 0,.slice (some ⟨ga,0,none⟩) 1 1]),(141,IsV (.int .i64 fi)),(145,IsV (.bool true))]) (by kernel_rfl) (by kernel_rfl) (by kernel_rfl) rfl ?_ (KN.drew) ?_
    ·exact Zd Qk (Zd Yu (Zd Qk (Zd Yu (Zd Yu (Zm _)))))
    simp only [zd,zp,List.getElem_toArray,List.getElem_cons_zero,List.getElem_cons_succ]
    refine' dv rfl rfl rfl (fun wv HC=>?_) ?_;rotate_left
    ·obtain ⟨q,-⟩:=HF.out _ HC;have x0:=q.cell 0;have x1:=q.cell 1;have x2:=q.cell 2;have x3:=q.cell 3;have x4:=q.cell 4;have x5:=q.cell 5;have x6:=q.cell 6;have x7:=q.cell 7;have x8:=q.cell 8;have x9:=q.cell 9;have x10:=q.cell 10;go_simp<;>rfl
    simp only [zp]
    refine Z8 #[.string ⟨#[97]⟩,.string ⟨#[117]⟩,.bool false,.int .i64 2,.slice none 0 0,.bool false,.slice none 0 0,.slice none 0 0,.slice (some ⟨gk,0,none⟩) 1 1,.slice none 0 0,.slice (some ⟨ga,0,none⟩) 1 1] 48 119 (Y4 (Mut Zc KL) 11 #[.string ⟨#[97]⟩,.string ⟨#[117]⟩,.bool false,.int .i64 2,.slice none 0 0,.bool false,.slice none 0 0,.slice none 0 0,.slice (some ⟨gk,0,none⟩) 1 1,.slice none 0 0,.slice (some ⟨ga,0,none⟩) 1 1]) (fun g=>.slice (some ⟨g,0,none⟩) 1 1) rfl rfl rfl rfl (fun wv=>?_) (fun wv HC hrm hD hro=>?_) ?_
    ·go_simp<;>rfl
    ·exact ⟨_,rfl,ZO (hro _ HC.Zb) rfl⟩
    rintro g19 wg HCg hsl
    simp only [zp]
    clear hsl HCg
    refine' dv rfl rfl rfl (fun wv HC=>?_) ?_;rotate_left
    · go_simp<;>rfl
    simp only [zp]
    refine Zi 121 (IsV (.int .i64 ((cn:Int) * (hi - lo+1)+1))) (f:=16) (args:=#[.slice (some ⟨g19,0,none⟩) 1 1,.slice mA 3 mc]) rfl rfl rfl rfl (fun wv=>?_) (fun wv HC hrm hD=>?_) ?_
    ·go_simp<;>rfl
    ·refine (Gm Zc wv zn (some ⟨g19,0,none⟩) 1 1 [ZA gk ga Zr lo hi a] mA 3 mc [p1,q1,u1] 4 (HG1.out wv g19 HC (ZI hD 1 rfl (by kernel_rfl) rfl rfl)) (HF.out wv HC).2.2.1 (by omega) (by omega) (fun z hz=>(HTG.out z hz).fit) (fun z hz=>(HTE.out z hz).n) (fun z hz=>by have:=(HTE.out z hz).m;omega) (fun z hz=>(HTG.out z hz).rk)).mono ?_
     rintro e w5 ⟨rfl,b5⟩
     exact ⟨_,rfl,by rw [HRD.out];rfl,HC.call b5,RM.below b5⟩
    rintro v21 wx HCx rfl
    simp only [zp]
    clear HCx
    repeat (refine' dv rfl rfl rfl (fun wv HC=>?_) ?_;rotate_left;(focus (obtain ⟨-,q,-⟩:=HF.out _ HC;have y1:=q.cell 1;go_simp<;>rfl;done));simp only [zp])
    refine' dv rfl rfl rfl (fun wv HC=>?_) ?_;rotate_left
    ·obtain ⟨q,-⟩:=HF.out _ HC;have x0:=q.cell 0;have x1:=q.cell 1;have x2:=q.cell 2;have x3:=q.cell 3;have x4:=q.cell 4;have x5:=q.cell 5;have x6:=q.cell 6;have x7:=q.cell 7;have x8:=q.cell 8;have x9:=q.cell 9;have x10:=q.cell 10;go_simp<;>rfl
    simp only [zp]
    refine Z8 #[.string ⟨#[97]⟩,.string ⟨#[117]⟩,.bool false,.int .i64 2,.slice none 0 0,.bool false,.slice none 0 0,.slice none 0 0,.slice (some ⟨gk,0,none⟩) 1 1,.slice none 0 0,.slice (some ⟨ga,0,none⟩) 1 1] 48 138 (Y4 (Mut Zc KL) 11 #[.string ⟨#[97]⟩,.string ⟨#[117]⟩,.bool false,.int .i64 2,.slice none 0 0,.bool false,.slice none 0 0,.slice none 0 0,.slice (some ⟨gk,0,none⟩) 1 1,.slice none 0 0,.slice (some ⟨ga,0,none⟩) 1 1]) (fun g=>.slice (some ⟨g,0,none⟩) 1 1) rfl rfl rfl rfl (fun wv=>?_) (fun wv HC hrm hD hro=>?_) ?_
    ·go_simp<;>rfl
    ·exact ⟨_,rfl,ZO (hro _ HC.Zb) rfl⟩
    rintro g38 wg HCg hsl
    simp only [zp]
    clear hsl HCg
    iterate 2
     refine' dv rfl rfl rfl (fun wv HC=>?_) ?_;rotate_left
     · go_simp<;>rfl
     simp only [zp]
    refine Zi 141 (IsV (.int .i64 fi)) (f:=17) (args:=#[.slice (some ⟨g38,0,none⟩) 1 1,.slice mA 3 mc,.slice dA 1 dc]) rfl rfl rfl rfl (fun wv=>?_) (fun wv HC hrm hD=>?_) ?_
    ·go_simp<;>rfl
    ·refine (Zay wv _ 1 1 [ZA gk ga Zr lo hi a] _ 3 mc [p1,q1,u1] _ 1 dc [y.de] (HG1.out wv g38 HC (ZI hD 20 rfl (by kernel_rfl) rfl rfl)) (HF.out wv HC).2.2.1 (HF.out wv HC).2.2.2.2 (by omega) (by omega) (by omega) (by omega) HTG.out HTE.out HDE.out).mono ?_
     rintro e w5 ⟨rfl,b5⟩
     exact ⟨_,rfl,by rw [←HFE.out];rfl,HC.call b5,RM.below b5⟩
    rintro v41 wx HCx rfl
    simp only [zp]
    clear HCx
    repeat (refine' dv rfl rfl rfl (fun wv HC=>?_) ?_;rotate_left;(focus (go_simp<;>rfl;done));simp only [zp])
    refine Zi 145 (IsV (.bool true)) (f:=14) (args:=#[]) rfl rfl rfl rfl (fun wv=>?_) (fun wv HC hrm hD=>?_) ?_
    ·go_simp<;>rfl
    ·refine (ZbV wv).mono ?_
     rintro e w5 ⟨rfl,b5⟩
     exact ⟨_,rfl,rfl,HC.call b5,RM.below b5⟩
    rintro v45 wx HCx rfl
    simp only [zp]
    clear HCx
    repeat (refine' dv rfl rfl rfl (fun wv HC=>?_) ?_;rotate_left;(focus (go_simp<;>rfl;done));simp only [zp])
    refine Zk ?_
    rintro wx2 HX
    rintro _hrm HGW
    clear HGW _hrm
    have HBE:=hid HX.below
    clear HX HF HKL KN HG1 HTE HTG HDE HRD HFE
    go_wp2_with fail
    go_ret
    exact ⟨rfl,HBE.out⟩
end
end Go.Proofs.YtnmnkbnmollpmaaGreatDoor

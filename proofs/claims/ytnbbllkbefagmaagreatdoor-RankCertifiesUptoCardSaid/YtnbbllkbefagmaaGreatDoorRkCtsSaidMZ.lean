import Derived.Test.YtnbbllkbefagmaaGreatDoorRkCtsSaidMY
import Derived.Test.YtnbbllkbefagmaaGreatDoorRkCtsSaidMX
namespace Go.Proofs.YtnbbllkbefagmaaGreatDoor
open Go.RowKit
set_option linter.unusedVariables false
set_option linter.unusedSimpArgs false
theorem Zcy {d:Nat} {a:Ac} {col:ByteArray} {x:Ex} {l:List Ex} (hw:a.wh.l=x::l):Z8 d a col=(if a.kind=2∧(Z9 d x).kind=7 then (match (Z9 d x).args with|[x,y,z]=>(if Yz x a.tab col∧(Yp y).2∧(Yp z).2 then ((Yp y).1,(Yp z).1,true) else (0,0,false))|_=>(0,0,false)) else (0,0,false)):=by
 rw [JZ hw]
 have e:∀ (y z:Ex) (p:Bool),(if p=true∧(ZL y).2=true∧(ZL z).2=true then ((ZL y).1,(ZL z).1,true) else ((0,0,false):Int × Int × Bool))=if p=true∧(Yp y).2=true∧(Yp z).2=true then ((Yp y).1,(Yp z).1,true) else (0,0,false):=by
  intro y z p
  unfold Yp
  cases (ZL y).2<;>cases (ZL z).2<;>simp
 split
 ·match (Z9 d x).args with
  | [x,y,z]=>exact e _ _ _
  | []=>rfl
  | [_]=>rfl
  | [_,_]=>rfl
  | _::_::_::_::_=>rfl
 ·rfl
set_option maxRecDepth 100000 in
set_option maxHeartbeats 8000000 in
theorem ZgF (M:Nat→Prop) (w:World) (hM:∀ b,M b→b<w.heap.size) (a:Ac) (col:ByteArray) (d:Nat) (ha:Ro w M (AcIn (d+1) a)) (hn:a.wh.n≤9223372036854775807):Calls Tryz.prog 145 #[a.val,.string col] w fun r w' =>r=.returned (.tuple #[.int .i64 (Z8 (d+1) a col).1,.int .i64 (Z8 (d+1) a col).2.1,.bool (Z8 (d+1) a col).2.2])∧Below w.heap.size w w' :=by
 have hD:Ro w M (ExsIn (d+1) a.wh.A a.wh.n a.wh.l):=ha.imp fun w2 h2=>h2.2.2.2
 have HG0:=hid (show a.kind≠2∨a.wh.l=[]→Z8 (d+1) a col=(0,0,false) from fun h=>by
  unfold Z8 XI
  rcases h with h|h
  ·split
   ·rename_i x y he
    split at he
    ·cases he
    ·rw [if_neg (fun h2=>h h2.1)] at he;cases he
   ·rfl
  ·rw [h])
 have HR0:=hid (fun (x:Ex) (l:List Ex) (h:a.wh.l=x::l)=>Zcy (d:=d+1) (col:=col) h)
 generalize Z8 (d+1) a col=R at *
 obtain ⟨ak,atab,⟨rA,rn,rc,rl⟩,⟨qA,qn,qc,ql⟩,⟨sA,sn,sc,sl⟩,⟨wA,wn,wc,wl⟩,text⟩:=a
 simp only [Ac.val] at hD hn ⊢
 clear ha
 have K0:=((Hold.start M w hM).add (hD.less (by simp [Mut]))).Za #[.int .i64 ak,.string atab,.slice rA rn rc,.slice qA qn qc,.slice sA sn sc,.slice wA wn wc,.string text] 97
 have F0:=K0.facts
 simp only [zg] at F0
 have hlw:wl.length=wn:=(K0.ro 1 rfl).now.len
 go_enter Tryz.func145,Tryz.ntmps145
 by_cases hk:ak=2
 ·subst hk
  obtain _|⟨e0,l⟩:=wl
  ·obtain rfl:wn=0:=hlw.symm
   have hr:R=(0,0,false):=HG0.out (.inr rfl)
   have HB:=hid K0.below
   clear K0 HR0 HG0
   subst hr
   go_wp2_with fail
   refine bodyPost_ret (Y3 rfl _ _ _) rfl ?_
   exact ⟨by rfl,HB.out⟩
  ·have HR:=hid (HR0.out e0 l rfl)
   have hw0:((wn:Int)==0)=false:=by simp at hlw;simp;omega
   have hw1:0<wn:=by simp at hlw;omega
   obtain ⟨b0,o0,rfl,hb0,hcq,hxq⟩:=(K0.ro 1 rfl).now.at_ (k:=0) (x:=e0) rfl
   have q0:=hcq 0 _ (by omega) rfl
   have q1:=hcq 1 _ (by omega) rfl
   have q2:=hcq 2 _ (by omega) rfl
   have q3:=hcq 3 _ (by omega) rfl
   have q4:=hcq 4 _ (by omega) rfl
   have q5:=hcq 5 _ (by omega) rfl
   have q6:=hcq 6 _ (by omega) rfl
   have q7:=hcq 7 _ (by omega) rfl
   have q8:=hcq 8 _ (by omega) rfl
   have q9:=hcq 9 _ (by omega) rfl
   simp only [Nat.zero_mul,Nat.add_zero] at q0 q1 q2 q3 q4 q5 q6 q7 q8 q9
   clear hcq hxq hlw HR0 HG0
   go_wp2_with fail
   refine (ZbY _ _ K0.Zc (d+1) e0 ((K0.ro 1 rfl).imp fun w2 h2=>h2.2 e0 (List.mem_cons_self ..))).mono ?_
   rintro e w1 ⟨rfl,b1⟩
   clear q0 q1 q2 q3 q4 q5 q6 q7 q8 q9 hb0
   have KA:=K0.call b1
   have KB:=KA.add (S:=ExIn (d+1) (Z9 (d+1) e0)) ((KA.ro 1 rfl).imp fun w2 h2=>JA (h2.2 e0 (List.mem_cons_self ..)))
   clear KA K0 F0 b1
   obtain ⟨E,hE⟩:∃ E,E=Z9 (d+1) e0:=⟨_,rfl⟩
   rw [←hE] at KB
   have HR2:=hid (show R=_ from HR.out)
   clear HR
   rw [←hE] at HR2 ⊢
   clear hE
   obtain ⟨ek,eop,ent,⟨evk,evi,evs⟩,etab,enm,eA,en,ec,eargs,eB,em,ed,esub⟩:=E
   simp only [Ex.val] at HR2 ⊢
   have K1:=KB.Za #[.int .i64 ek,.int .i64 eop,.bool ent,.int .i64 evk,.int .i64 evi,.string evs,.string etab,.string enm,.slice eA en ec,.slice eB em ed] 126
   clear KB
   have F1:=K1.facts
   simp only [zg] at F1
   have hlen:=(ExIn.succ.1 (K1.ro 1 rfl).now).1.len
   simp only at hlen
   have hB:=fun q=>(K1.drewN q).below
   have HB:=hid hB
   clear hB
   have HR:=hid (show R=_ from HR2.out)
   clear HR2
   by_cases h7:ek=7
   ·subst h7
    by_cases h3:(en:Int)=3
    ·obtain ⟨X,Y,Z,rfl⟩:∃ X Y Z,eargs=[X,Y,Z]:=by
      match eargs,hlen with
      | [a,b,c],_=>exact ⟨a,b,c,rfl⟩
      | [],hlen=>simp at hlen;omega
      | [_],hlen=>simp at hlen;omega
      | [_,_],hlen=>simp at hlen;omega
      | _::_::_::_::_,hlen=>simp at hlen;omega
     obtain rfl:en=3:=by omega
     have hx:=(ExIn.succ.1 (K1.ro 1 rfl).now).1
     obtain _|d:=d
     ·exact (hx.2 X (List.mem_cons_self ..)).elim
     obtain ⟨xk,xop,xnt,⟨xvk,xvi,xvs⟩,xtab,xnm,xA,xn,xc,xargs,xB,xm,xd,xsub⟩:=X
     obtain ⟨yk,yop,ynt,⟨yvk,yvi,yvs⟩,ytab,ynm,yA,yn,yc,yargs,yB,ym,yd,ysub⟩:=Y
     obtain ⟨zk,zop,znt,⟨zvk,zvi,zvs⟩,ztab,znm,zA,zn,zc,zargs,zB,zm,zd,zsub⟩:=Z
     obtain ⟨b2,o2,rfl,hb2,hcx,-⟩:=hx.at_ (k:=0) (x:=⟨xk,xop,xnt,⟨xvk,xvi,xvs⟩,xtab,xnm,xA,xn,xc,xargs,xB,xm,xd,xsub⟩) rfl
     obtain ⟨b3,o3,e3,-,hcy,-⟩:=hx.at_ (k:=1) (x:=⟨yk,yop,ynt,⟨yvk,yvi,yvs⟩,ytab,ynm,yA,yn,yc,yargs,yB,ym,yd,ysub⟩) rfl
     obtain ⟨b4,o4,e4,-,hcz,-⟩:=hx.at_ (k:=2) (x:=⟨zk,zop,znt,⟨zvk,zvi,zvs⟩,ztab,znm,zA,zn,zc,zargs,zB,zm,zd,zsub⟩) rfl
     simp only [Option.some.injEq,Addr.mk.injEq,and_true] at e3 e4
     obtain ⟨rfl,rfl⟩:=e3
     obtain ⟨rfl,rfl⟩:=e4
     have x0:=hcx 0 _ (by omega) rfl
     have y0:=hcy 0 _ (by omega) rfl
     have z0:=hcz 0 _ (by omega) rfl
     have x1:=hcx 1 _ (by omega) rfl
     have y1:=hcy 1 _ (by omega) rfl
     have z1:=hcz 1 _ (by omega) rfl
     have x2:=hcx 2 _ (by omega) rfl
     have y2:=hcy 2 _ (by omega) rfl
     have z2:=hcz 2 _ (by omega) rfl
     have x3:=hcx 3 _ (by omega) rfl
     have y3:=hcy 3 _ (by omega) rfl
     have z3:=hcz 3 _ (by omega) rfl
     have x4:=hcx 4 _ (by omega) rfl
     have y4:=hcy 4 _ (by omega) rfl
     have z4:=hcz 4 _ (by omega) rfl
     have x5:=hcx 5 _ (by omega) rfl
     have y5:=hcy 5 _ (by omega) rfl
     have z5:=hcz 5 _ (by omega) rfl
     have x6:=hcx 6 _ (by omega) rfl
     have y6:=hcy 6 _ (by omega) rfl
     have z6:=hcz 6 _ (by omega) rfl
     have x7:=hcx 7 _ (by omega) rfl
     have y7:=hcy 7 _ (by omega) rfl
     have z7:=hcz 7 _ (by omega) rfl
     have x8:=hcx 8 _ (by omega) rfl
     have y8:=hcy 8 _ (by omega) rfl
     have z8:=hcz 8 _ (by omega) rfl
     have x9:=hcx 9 _ (by omega) rfl
     have y9:=hcy 9 _ (by omega) rfl
     have z9:=hcz 9 _ (by omega) rfl
     simp only [Nat.zero_mul,Nat.one_mul,Nat.add_zero,Nat.reduceMul] at x0 y0 z0 x1 y1 z1 x2 y2 z2 x3 y3 z3 x4 y4 z4 x5 y5 z5 x6 y6 z6 x7 y7 z7 x8 y8 z8 x9 y9 z9
     have RX:∀ q∈[⟨xk,xop,xnt,⟨xvk,xvi,xvs⟩,xtab,xnm,xA,xn,xc,xargs,xB,xm,xd,xsub⟩,⟨yk,yop,ynt,⟨yvk,yvi,yvs⟩,ytab,ynm,yA,yn,yc,yargs,yB,ym,yd,ysub⟩,⟨zk,zop,znt,⟨zvk,zvi,zvs⟩,ztab,znm,zA,zn,zc,zargs,zB,zm,zd,zsub⟩],Ro _ _ (ExIn (d+1) q):=fun q hq=>(K1.ro 1 rfl).imp fun w2 h2=>(ExIn.succ.1 h2).1.2 q hq
     have K2:=(K1.add (RX ⟨yk,yop,ynt,⟨yvk,yvi,yvs⟩,ytab,ynm,yA,yn,yc,yargs,yB,ym,yd,ysub⟩ (by simp))).add (S:=ExIn (d+1) ⟨zk,zop,znt,⟨zvk,zvi,zvs⟩,ztab,znm,zA,zn,zc,zargs,zB,zm,zd,zsub⟩) ((RX ⟨zk,zop,znt,⟨zvk,zvi,zvs⟩,ztab,znm,zA,zn,zc,zargs,zB,zm,zd,zsub⟩ (by simp)).less (by simp [ZG,Hp.foot]))
     have hR:R=if Yz ⟨xk,xop,xnt,⟨xvk,xvi,xvs⟩,xtab,xnm,xA,xn,xc,xargs,xB,xm,xd,xsub⟩ atab col∧(Yp ⟨yk,yop,ynt,⟨yvk,yvi,yvs⟩,ytab,ynm,yA,yn,yc,yargs,yB,ym,yd,ysub⟩).2∧(Yp ⟨zk,zop,znt,⟨zvk,zvi,zvs⟩,ztab,znm,zA,zn,zc,zargs,zB,zm,zd,zsub⟩).2 then ((Yp ⟨yk,yop,ynt,⟨yvk,yvi,yvs⟩,ytab,ynm,yA,yn,yc,yargs,yB,ym,yd,ysub⟩).1,(Yp ⟨zk,zop,znt,⟨zvk,zvi,zvs⟩,ztab,znm,zA,zn,zc,zargs,zB,zm,zd,zsub⟩).1,true) else (0,0,false):=by rw [HR.out,if_pos (by simp)]
     clear HR hlen HB RX hx hcx hcy hcz
     cases hI:Yz ⟨xk,xop,xnt,⟨xvk,xvi,xvs⟩,xtab,xnm,xA,xn,xc,xargs,xB,xm,xd,xsub⟩ atab col
     ·have hr:R=(0,0,false):=by rw [hR,if_neg (by simp [hI])]
      clear hR K1
      subst hr
      go_wp2_with fail
      generalize w1.alloc (.cells #[.int .i64 7,.int .i64 eop,.bool ent,.int .i64 evk,.int .i64 evi,.string evs,.string etab,.string enm,.slice (some ⟨b2,o2,none⟩) 3 ec,.slice eB em ed] 126)=wk at *
      go_still_tail 16,(by kernel_rfl)
      change wpList _ _ _ _ _ wk.drew
      go_wp2_with (go_at_call 197;go_must (refine (Vk _ ⟨xk,xop,xnt,⟨xvk,xvi,xvs⟩,xtab,xnm,xA,xn,xc,xargs,xB,xm,xd,xsub⟩ ⟨2,atab,⟨rA,rn,rc,rl⟩,⟨qA,qn,qc,ql⟩,⟨sA,sn,sc,sl⟩,⟨some ⟨b0,o0,none⟩,wn,wc,e0::l⟩,text⟩ col).mono ?_);rintro e w2 ⟨rfl,bb2⟩;have K3:=K2.drew.call bb2;rw [hI])
      go_wp2_with fail
      refine bodyPost_ret (Y3 rfl _ _ _) rfl ?_
      exact ⟨rfl,K3.below⟩
     ·clear K1
      have HR:=hid (show R=_ from hR)
      clear hR
      go_wp2_with fail
      generalize w1.alloc (.cells #[.int .i64 7,.int .i64 eop,.bool ent,.int .i64 evk,.int .i64 evi,.string evs,.string etab,.string enm,.slice (some ⟨b2,o2,none⟩) 3 ec,.slice eB em ed] 126)=wk at *
      go_still_tail 16,(by kernel_rfl)
      change wpList _ _ _ _ _ wk.drew
      go_wp2_with (go_at_call 197;go_must (refine (Vk _ ⟨xk,xop,xnt,⟨xvk,xvi,xvs⟩,xtab,xnm,xA,xn,xc,xargs,xB,xm,xd,xsub⟩ ⟨2,atab,⟨rA,rn,rc,rl⟩,⟨qA,qn,qc,ql⟩,⟨sA,sn,sc,sl⟩,⟨some ⟨b0,o0,none⟩,wn,wc,e0::l⟩,text⟩ col).mono ?_);rintro e w2 ⟨rfl,bb2⟩;have K3:=K2.drew.call bb2;have F3:=K3.facts;simp only [zg] at F3;obtain ⟨b3,o3,e3,hb3,hcy,-⟩:=(ExIn.succ.1 (K3.ro 3 rfl).now).1.at_ (k:=1) (x:=⟨yk,yop,ynt,⟨yvk,yvi,yvs⟩,ytab,ynm,yA,yn,yc,yargs,yB,ym,yd,ysub⟩) rfl;simp only [Option.some.injEq,Addr.mk.injEq,and_true] at e3;obtain ⟨rfl,rfl⟩:=e3;have y0:=hcy 0 _ (by omega) rfl;have y1:=hcy 1 _ (by omega) rfl;have y2:=hcy 2 _ (by omega) rfl;have y3:=hcy 3 _ (by omega) rfl;have y4:=hcy 4 _ (by omega) rfl;have y5:=hcy 5 _ (by omega) rfl;have y6:=hcy 6 _ (by omega) rfl;have y7:=hcy 7 _ (by omega) rfl;have y8:=hcy 8 _ (by omega) rfl;have y9:=hcy 9 _ (by omega) rfl;simp only [Nat.one_mul,Nat.add_zero,Nat.reduceMul] at y0 y1 y2 y3 y4 y5 y6 y7 y8 y9;clear hcy;rw [hI])
      have HI:=hid hI
      clear hI
      clear x0 y0 z0 x1 y1 z1 x2 y2 z2 x3 y3 z3 x4 y4 z4 x5 y5 z5 x6 y6 z6 x7 y7 z7 x8 y8 z8 x9 y9 z9 F1 hb2 K2
      refine (Zab _ _ K3.Zc ⟨yk,yop,ynt,⟨yvk,yvi,yvs⟩,ytab,ynm,yA,yn,yc,yargs,yB,ym,yd,ysub⟩ d (K3.ro 1 rfl)).mono ?_
      rintro e w3 ⟨rfl,bb3⟩
      have K4:=K3.call bb3
      clear y0 y1 y2 y3 y4 y5 y6 y7 y8 y9 F3 hb3 K3 bb3 bb2
      have F4:=K4.facts
      simp only [zg] at F4
      obtain ⟨b3,o3,e3,hb3,hcz,-⟩:=(ExIn.succ.1 (K4.ro 3 rfl).now).1.at_ (k:=2) (x:=⟨zk,zop,znt,⟨zvk,zvi,zvs⟩,ztab,znm,zA,zn,zc,zargs,zB,zm,zd,zsub⟩) rfl
      simp only [Option.some.injEq,Addr.mk.injEq,and_true] at e3
      obtain ⟨rfl,rfl⟩:=e3
      have z0:=hcz 0 _ (by omega) rfl
      have z1:=hcz 1 _ (by omega) rfl
      have z2:=hcz 2 _ (by omega) rfl
      have z3:=hcz 3 _ (by omega) rfl
      have z4:=hcz 4 _ (by omega) rfl
      have z5:=hcz 5 _ (by omega) rfl
      have z6:=hcz 6 _ (by omega) rfl
      have z7:=hcz 7 _ (by omega) rfl
      have z8:=hcz 8 _ (by omega) rfl
      have z9:=hcz 9 _ (by omega) rfl
      simp only [Nat.one_mul,Nat.add_zero,Nat.reduceMul] at z0 z1 z2 z3 z4 z5 z6 z7 z8 z9
      clear hcz
      go_wp2_with fail
      refine (Zab _ _ K4.Zc ⟨zk,zop,znt,⟨zvk,zvi,zvs⟩,ztab,znm,zA,zn,zc,zargs,zB,zm,zd,zsub⟩ d (K4.ro 0 rfl)).mono ?_
      rintro e w4 ⟨rfl,bb4⟩
      have K5:=K4.call bb4
      clear z0 z1 z2 z3 z4 z5 z6 z7 z8 z9 F4 hb3 K4 bb4
      have HB:=hid K5.below
      clear K5
      obtain ⟨⟨cy,oy⟩,hcy⟩:∃ q,q=Yp ⟨yk,yop,ynt,⟨yvk,yvi,yvs⟩,ytab,ynm,yA,yn,yc,yargs,yB,ym,yd,ysub⟩:=⟨_,rfl⟩
      obtain ⟨⟨cz,oz⟩,hcz⟩:∃ q,q=Yp ⟨zk,zop,znt,⟨zvk,zvi,zvs⟩,ztab,znm,zA,zn,zc,zargs,zB,zm,zd,zsub⟩:=⟨_,rfl⟩
      rw [←hcy,←hcz] at HR
      rw [←hcy,←hcz]
      clear hcy hcz
      have hr:R=if oy=true∧oz=true then (cy,cz,true) else (0,0,false):=by rw [HR.out];simp [HI.out]
      clear HR
      cases oy<;>cases oz
      all_goals
       simp only [Bool.false_eq_true,false_and,and_false,and_self,if_false,if_true] at hr
       subst hr
       go_wp2_with fail
       refine bodyPost_ret (Y3 rfl _ _ _) rfl ?_
       exact ⟨rfl,HB.out⟩
    ·have h3b:((en:Int) !=3)=true:=by simpa using h3
     have hr:R=(0,0,false):=by
      rw [HR.out,if_pos (by simp)]
      match eargs,hlen with
      | [a,b,c],hlen=>simp at hlen;omega
      | [],_=>rfl
      | [_],_=>rfl
      | [_,_],_=>rfl
      | _::_::_::_::_,_=>rfl
     clear K1 HR hlen
     subst hr
     go_wp2_with fail
     go_quiet (fail)
     go_wp2_with fail
     refine bodyPost_ret (Y3 rfl _ _ _) rfl ?_
     exact ⟨by rfl,HB.out _⟩
   ·have h7b:(ek !=7)=true:=by simpa using h7
    have hr:R=(0,0,false):=by rw [HR.out,if_neg (fun h=>h7 h.2)]
    clear K1 HR
    subst hr
    go_wp2_with fail
    go_quiet (fail)
    go_wp2_with fail
    refine bodyPost_ret (Y3 rfl _ _ _) rfl ?_
    exact ⟨by rfl,HB.out _⟩
 ·have hk2:(ak !=2)=true:=by simpa using hk
  have hr:R=(0,0,false):=HG0.out (.inl hk)
  have HB:=hid K0.below
  clear K0 HR0 HG0 hk
  subst hr
  go_wp2_with fail
  refine bodyPost_ret (Y3 rfl _ _ _) rfl ?_
  exact ⟨by rfl,HB.out⟩
theorem zO:(⟨#[]⟩:ByteArray).toList=[]:=by kernel_rfl
theorem zZ {c:Ex} {tab col:ByteArray}:Yz c tab col=true↔c.kind=2∧c.nm=col∧(c.tab=⟨#[]⟩∨c.tab=tab):=by
 unfold Yz
 rw [Bool.and_eq_true,Bool.and_eq_true,Bool.or_eq_true,beq_iff_eq,beq_iff_eq,beq_iff_eq,List.isEmpty_iff]
 constructor
 ·rintro ⟨⟨h1,h2⟩,h3⟩
  exact ⟨h1,Yr h2,h3.imp (fun h=>Yr (b:=⟨#[]⟩) (by rw [h,zO])) (fun h=>Yr h)⟩
 ·rintro ⟨h1,h2,h3⟩
  exact ⟨⟨h1,by rw [h2]⟩,h3.imp (fun h=>by rw [h,zO]) (fun h=>by rw [h])⟩
theorem U7 {tab col:ByteArray} {s:Se} {c k:Ex} (hc:s.col=col) (ha:s.e.args=[c,k]):Yq tab col s=if s.e.kind=5∧s.e.op=10∧Yz c tab col=true∧k.kind=1∧k.v.k=1 then some k.v.i else none:=by
 unfold Yq XJ
 simp only [ha,hc,true_and]
 by_cases h:s.e.kind=5∧s.e.op=10∧Yz c tab col=true∧k.kind=1∧k.v.k=1
 ·obtain ⟨h1,h2,h3,h4,h5⟩:=h
  obtain ⟨i1,i2,i3⟩:=zZ.1 h3
  simp [h1,h2,h3,h4,h5,i1,i2,i3]
 ·rw [if_neg h,if_neg]
  intro h2
  apply h
  split at h2
  ·rename_i hh
   obtain ⟨g1,g2,g3,g4,g5,g6,g7⟩:=hh
   have g8:s.e.op=10:=by
    rcases g2 with g2|g2
    ·rw [if_pos g2] at h2;exact absurd h2 (by decide)
    ·exact g2
   exact ⟨g1,g8,zZ.2 ⟨g3,g4,g5⟩,g6,g7⟩
  ·cases h2
theorem Zdh {tab col:ByteArray} {s:Se} {c k:Ex} (hc:s.col=col) (ha:s.e.args=[c,k]) (h:Yz c tab col=false):Yq tab col s=none:=by
 rw [U7 hc ha,if_neg (fun h2=>by rw [h] at h2;exact absurd h2.2.2.1 (by decide))]
theorem Zeh {tab col:ByteArray} {s:Se} (h:¬(s.e.kind=5∧s.e.op=10∧s.e.args.length=2)):Yq tab col s=none:=by
 unfold Yq
 rw [if_neg]
 rintro ⟨_,h2⟩
 unfold XJ at h2
 split at h2
 ·rename_i c k ha
  split at h2
  ·rename_i hh
   apply h
   refine ⟨hh.1,?_,by rw [ha];rfl⟩
   rcases hh.2.1 with g2|g2
   ·rw [if_pos g2] at h2;exact absurd h2 (by decide)
   ·exact g2
  ·cases h2
 ·cases h2
set_option maxRecDepth 100000 in
set_option maxHeartbeats 8000000 in
theorem Zak (M:Nat→Prop) (w:World) (hM:∀ b,M b→b<w.heap.size) (a:Ac) (col:ByteArray) (d:Nat) (ha:Ro w M (AcIn (d+1) a)) (hn:a.sets.n≤9223372036854775807):Calls Tryz.prog 144 #[a.val,.string col] w fun r w' =>r=.returned (.tuple #[.int .i64 (ZT a col).1,.bool (ZT a col).2])∧Below w.heap.size w w' :=by
 have hD:Ro w M (SesIn (d+1) a.sets.A a.sets.n a.sets.l):=ha.imp fun w2 h2=>h2.2.2.1
 obtain ⟨ak,atab,⟨rA,rn,rc,rl⟩,⟨qA,qn,qc,ql⟩,⟨sA,sn,sc,sl⟩,⟨wA,wn,wc,wl⟩,text⟩:=a
 simp only [Ac.val] at hD hn ⊢
 clear ha
 by_cases hk:ak=2
 ·subst hk
  have HR:=hid (show ZT ⟨2,atab,⟨rA,rn,rc,rl⟩,⟨qA,qn,qc,ql⟩,⟨sA,sn,sc,sl⟩,⟨wA,wn,wc,wl⟩,text⟩ col=match sl.findSome? (Yq atab col) with|some k=>(k,true)|none=>(0,false) by simp [ZT,YN];rfl)
  generalize ZT ⟨2,atab,⟨rA,rn,rc,rl⟩,⟨qA,qn,qc,ql⟩,⟨sA,sn,sc,sl⟩,⟨wA,wn,wc,wl⟩,text⟩ col=R at *
  have HL:=hid hD.now.len
  have K0:=((Hold.start M w hM).add (hD.less (by simp [Mut]))).Za #[.int .i64 2,.string atab,.slice rA rn rc,.slice qA qn qc,.slice sA sn sc,.slice wA wn wc,.string text] 97
  have F:=K0.facts
  simp only [zg] at F
  go_enter Tryz.func144,Tryz.ntmps144
  go_wp2_with fail
  clear F
  go_loopw [15] (fun i wr=>∃ k:Nat,k≤sn∧i=.int .i64 k∧Hid (sl.findSome? (Yq atab col)=(sl.drop k).findSome? (Yq atab col))∧Hold M none w wr [.cst w.heap.size 97 #[.int .i64 2,.string atab,.slice rA rn rc,.slice qA qn qc,.slice sA sn sc,.slice wA wn wc,.string text],.ro (SesIn (d+1) sA sn sl)]) (fun i _=>sn - (intOf i).toNat)
  case atStart=>exact ⟨0,by omega,rfl,hid rfl,K0⟩
  case round=>
   clear K0
   obtain ⟨k,hk,rfl,HF,H⟩:=hrel
   by_cases hlt:k<sn
   ·obtain ⟨⟨xcol,⟨xk,xop,xnt,⟨xvk,xvi,xvs⟩,xtab,xnm,xA,xn,xc,xargs,xB,xm,xd,xsub⟩⟩,hc⟩:=Y2 HL.out hlt
    obtain ⟨b,o,rfl,hb,hcl,-⟩:=(H.ro 1 rfl).now.at_ hc
    have c0:=hcl 0 _ (by omega) rfl
    have c1:=hcl 1 _ (by omega) rfl
    have c2:=hcl 2 _ (by omega) rfl
    have c3:=hcl 3 _ (by omega) rfl
    have c4:=hcl 4 _ (by omega) rfl
    have c5:=hcl 5 _ (by omega) rfl
    have c6:=hcl 6 _ (by omega) rfl
    have c7:=hcl 7 _ (by omega) rfl
    have c8:=hcl 8 _ (by omega) rfl
    have c9:=hcl 9 _ (by omega) rfl
    have c10:=hcl 10 _ (by omega) rfl
    simp only [Nat.add_zero] at c0
    clear hcl
    have HC:=hid hc;clear hc
    have F:=H.facts
    simp only [zg] at F
    have K1:=((H.add (S:=ExIn (d+1) ⟨xk,xop,xnt,⟨xvk,xvi,xvs⟩,xtab,xnm,xA,xn,xc,xargs,xB,xm,xd,xsub⟩) ((H.ro 1 rfl).imp fun w2 h2=>h2.2 _ (List.mem_of_getElem? HC.out))).Za #[.string xcol,.int .i64 xk,.int .i64 xop,.bool xnt,.int .i64 xvk,.int .i64 xvi,.string xvs,.string xtab,.string xnm,.slice xA xn xc,.slice xB xm xd] 128)
    have F1:=K1.facts
    simp only [zg] at F1
    by_cases hcol:xcol=col
    ·have b0:(xcol.toList==col.toList)=true:=by simp [hcol]
     have b0' :(xcol.toList !=col.toList)=false:=by simp [hcol]
     have HCOL:=hid hcol
     clear hcol
     have KA:=K1.Za #[.int .i64 xk,.int .i64 xop,.bool xnt,.int .i64 xvk,.int .i64 xvi,.string xvs,.string xtab,.string xnm,.slice xA xn xc,.slice xB xm xd] 126
     have FA:=KA.facts
     simp only [zg] at FA
     by_cases h5:xk=5∧xop=10∧xn=2
     ·obtain ⟨rfl,rfl,rfl⟩:=h5
      have hx:=(ExIn.succ.1 (KA.ro 2 rfl).now).1
      obtain ⟨cE,kE,rfl⟩:∃ x y,xargs=[x,y]:=by
       have h:=hx.len
       match xargs,h with
       | [x,y],_=>exact ⟨x,y,rfl⟩
      obtain _|d:=d
      ·exact (hx.2 cE (List.mem_cons_self ..)).elim
      obtain ⟨ck,cop,cnt,⟨cvk,cvi,cvs⟩,ctab,cnm,cA,cn,cc,cargs,cB,cm,cd,csub⟩:=cE
      obtain ⟨yk,yop,ynt,⟨yvk,yvi,yvs⟩,ytab,ynm,yA,yn,yc,yargs,yB,ym,yd,ysub⟩:=kE
      obtain ⟨b2,o2,rfl,hb2,hcx,-⟩:=hx.at_ (k:=0) (x:=⟨ck,cop,cnt,⟨cvk,cvi,cvs⟩,ctab,cnm,cA,cn,cc,cargs,cB,cm,cd,csub⟩) rfl
      obtain ⟨b3,o3,e3,-,hcy,-⟩:=hx.at_ (k:=1) (x:=⟨yk,yop,ynt,⟨yvk,yvi,yvs⟩,ytab,ynm,yA,yn,yc,yargs,yB,ym,yd,ysub⟩) rfl
      obtain ⟨rfl,rfl⟩:b2=b3∧o2=o3:=by injection e3 with e3;injection e3 with a1 a2;exact ⟨a1,a2⟩
      have y0:=hcx 0 _ (by omega) rfl
      have y1:=hcx 1 _ (by omega) rfl
      have y2:=hcx 2 _ (by omega) rfl
      have y3:=hcx 3 _ (by omega) rfl
      have y4:=hcx 4 _ (by omega) rfl
      have y5:=hcx 5 _ (by omega) rfl
      have y6:=hcx 6 _ (by omega) rfl
      have y7:=hcx 7 _ (by omega) rfl
      have y8:=hcx 8 _ (by omega) rfl
      have y9:=hcx 9 _ (by omega) rfl
      simp only [Nat.zero_mul,Nat.add_zero] at y0 y1 y2 y3 y4 y5 y6 y7 y8 y9
      have HYY:=hid hcy
      clear hcx hcy hx e3
      cases hI:Yz ⟨ck,cop,cnt,⟨cvk,cvi,cvs⟩,ctab,cnm,cA,cn,cc,cargs,cB,cm,cd,csub⟩ atab col
      ·have HLS:=hid (show Yq atab col ⟨xcol,⟨5,10,xnt,⟨xvk,xvi,xvs⟩,xtab,xnm,some ⟨b2,o2,none⟩,2,xc,[⟨ck,cop,cnt,⟨cvk,cvi,cvs⟩,ctab,cnm,cA,cn,cc,cargs,cB,cm,cd,csub⟩,⟨yk,yop,ynt,⟨yvk,yvi,yvs⟩,ytab,ynm,yA,yn,yc,yargs,yB,ym,yd,ysub⟩],xB,xm,xd,xsub⟩⟩=none from Zdh HCOL.out rfl hI)
       clear K1 F1 H F
       go_wp2_with fail
       generalize World.alloc _ _=wk at KA FA y0 y1 y2 y3 y4 y5 y6 y7 y8 y9 ⊢
       go_still_tail 21,(by kernel_rfl)
       change wpList _ _ _ _ _ wk.drew
       go_wp2_with (go_at_call 197;go_must (refine (Vk _ ⟨ck,cop,cnt,⟨cvk,cvi,cvs⟩,ctab,cnm,cA,cn,cc,cargs,cB,cm,cd,csub⟩ ⟨2,atab,⟨rA,rn,rc,rl⟩,⟨qA,qn,qc,ql⟩,⟨some ⟨b,o,none⟩,sn,sc,sl⟩,⟨wA,wn,wc,wl⟩,text⟩ col).mono ?_);rintro e w2 ⟨rfl,bb2⟩;have K3:=KA.drew.call bb2;rw [hI])
       have KR:=K3.pick [3,4] (by decide) rfl
       simp only [List.filterMap_cons,List.filterMap_nil,List.getElem?_cons_zero,List.getElem?_cons_succ] at KR
       go_wp2_with fail
       go_roundw
       case rel=>exact ⟨k+1,by omega,by go_num,hid (Wm HC.out HLS.out HF.out),KR⟩
       case measure=>simp [intOf];omega
      ·by_cases hk1:yk=1
       ·subst hk1
        by_cases hv1:yvk=1
        ·subst hv1
         have HLS:=hid (show Yq atab col ⟨xcol,⟨5,10,xnt,⟨xvk,xvi,xvs⟩,xtab,xnm,some ⟨b2,o2,none⟩,2,xc,[⟨ck,cop,cnt,⟨cvk,cvi,cvs⟩,ctab,cnm,cA,cn,cc,cargs,cB,cm,cd,csub⟩,⟨1,yop,ynt,⟨1,yvi,yvs⟩,ytab,ynm,yA,yn,yc,yargs,yB,ym,yd,ysub⟩],xB,xm,xd,xsub⟩⟩=some yvi from by rw [U7 HCOL.out rfl];simp [hI])
         clear K1 F1 H F
         go_wp2_with fail
         generalize World.alloc _ _=wk at KA FA y0 y1 y2 y3 y4 y5 y6 y7 y8 y9 ⊢
         go_still_tail 21,(by kernel_rfl)
         change wpList _ _ _ _ _ wk.drew
         go_wp2_with (go_at_call 197;go_must (refine (Vk _ ⟨ck,cop,cnt,⟨cvk,cvi,cvs⟩,ctab,cnm,cA,cn,cc,cargs,cB,cm,cd,csub⟩ ⟨2,atab,⟨rA,rn,rc,rl⟩,⟨qA,qn,qc,ql⟩,⟨some ⟨b,o,none⟩,sn,sc,sl⟩,⟨wA,wn,wc,wl⟩,text⟩ col).mono ?_);rintro e w2 ⟨rfl,bb2⟩;have K3:=KA.drew.call bb2;have F3:=K3.facts;simp only [zg] at F3;obtain ⟨b3,o3,e3,hb3,hcz,-⟩:=(ExIn.succ.1 (K3.ro 2 rfl).now).1.at_ (k:=1) (x:=⟨1,yop,ynt,⟨1,yvi,yvs⟩,ytab,ynm,yA,yn,yc,yargs,yB,ym,yd,ysub⟩) rfl;simp only [Option.some.injEq,Addr.mk.injEq,and_true] at e3;obtain ⟨rfl,rfl⟩:=e3;have z0:=hcz 0 _ (by omega) rfl;have z3:=hcz 3 _ (by omega) rfl;have z4:=hcz 4 _ (by omega) rfl;simp only [Nat.one_mul,Nat.add_zero,Nat.reduceMul] at z0 z3 z4;clear hcz;rw [hI])
         refine bodyPost_ret (results_tmp2 rfl _ _ _) rfl ⟨?_,K3.below⟩
         rw [HR.out,ZaK HC.out (y:=yvi) HLS.out HF.out]
         rfl
        ·have bv:(yvk==1)=false:=by simp [hv1]
         have HLS:=hid (show Yq atab col ⟨xcol,⟨5,10,xnt,⟨xvk,xvi,xvs⟩,xtab,xnm,some ⟨b2,o2,none⟩,2,xc,[⟨ck,cop,cnt,⟨cvk,cvi,cvs⟩,ctab,cnm,cA,cn,cc,cargs,cB,cm,cd,csub⟩,⟨1,yop,ynt,⟨yvk,yvi,yvs⟩,ytab,ynm,yA,yn,yc,yargs,yB,ym,yd,ysub⟩],xB,xm,xd,xsub⟩⟩=none from by rw [U7 HCOL.out rfl];simp [hv1])
         clear K1 F1 H F hv1
         go_wp2_with fail
         generalize World.alloc _ _=wk at KA FA y0 y1 y2 y3 y4 y5 y6 y7 y8 y9 ⊢
         go_still_tail 21,(by kernel_rfl)
         change wpList _ _ _ _ _ wk.drew
         go_wp2_with (go_at_call 197;go_must (refine (Vk _ ⟨ck,cop,cnt,⟨cvk,cvi,cvs⟩,ctab,cnm,cA,cn,cc,cargs,cB,cm,cd,csub⟩ ⟨2,atab,⟨rA,rn,rc,rl⟩,⟨qA,qn,qc,ql⟩,⟨some ⟨b,o,none⟩,sn,sc,sl⟩,⟨wA,wn,wc,wl⟩,text⟩ col).mono ?_);rintro e w2 ⟨rfl,bb2⟩;have K3:=KA.drew.call bb2;have F3:=K3.facts;simp only [zg] at F3;obtain ⟨b3,o3,e3,hb3,hcz,-⟩:=(ExIn.succ.1 (K3.ro 2 rfl).now).1.at_ (k:=1) (x:=⟨1,yop,ynt,⟨yvk,yvi,yvs⟩,ytab,ynm,yA,yn,yc,yargs,yB,ym,yd,ysub⟩) rfl;simp only [Option.some.injEq,Addr.mk.injEq,and_true] at e3;obtain ⟨rfl,rfl⟩:=e3;have z0:=hcz 0 _ (by omega) rfl;have z3:=hcz 3 _ (by omega) rfl;have z4:=hcz 4 _ (by omega) rfl;simp only [Nat.one_mul,Nat.add_zero,Nat.reduceMul] at z0 z3 z4;clear hcz;rw [hI])
         have KR:=K3.pick [3,4] (by decide) rfl
         simp only [List.filterMap_cons,List.filterMap_nil,List.getElem?_cons_zero,List.getElem?_cons_succ] at KR
         go_wp2_with fail
         go_roundw
         case rel=>exact ⟨k+1,by omega,by go_num,hid (Wm HC.out HLS.out HF.out),KR⟩
         case measure=>simp [intOf];omega
       ·have bk:(yk==1)=false:=by simp [hk1]
        have HLS:=hid (show Yq atab col ⟨xcol,⟨5,10,xnt,⟨xvk,xvi,xvs⟩,xtab,xnm,some ⟨b2,o2,none⟩,2,xc,[⟨ck,cop,cnt,⟨cvk,cvi,cvs⟩,ctab,cnm,cA,cn,cc,cargs,cB,cm,cd,csub⟩,⟨yk,yop,ynt,⟨yvk,yvi,yvs⟩,ytab,ynm,yA,yn,yc,yargs,yB,ym,yd,ysub⟩],xB,xm,xd,xsub⟩⟩=none from by rw [U7 HCOL.out rfl];simp [hk1])
        clear K1 F1 H F hk1
        go_wp2_with fail
        generalize World.alloc _ _=wk at KA FA y0 y1 y2 y3 y4 y5 y6 y7 y8 y9 ⊢
        go_still_tail 21,(by kernel_rfl)
        change wpList _ _ _ _ _ wk.drew
        go_wp2_with (go_at_call 197;go_must (refine (Vk _ ⟨ck,cop,cnt,⟨cvk,cvi,cvs⟩,ctab,cnm,cA,cn,cc,cargs,cB,cm,cd,csub⟩ ⟨2,atab,⟨rA,rn,rc,rl⟩,⟨qA,qn,qc,ql⟩,⟨some ⟨b,o,none⟩,sn,sc,sl⟩,⟨wA,wn,wc,wl⟩,text⟩ col).mono ?_);rintro e w2 ⟨rfl,bb2⟩;have K3:=KA.drew.call bb2;have F3:=K3.facts;simp only [zg] at F3;obtain ⟨b3,o3,e3,hb3,hcz,-⟩:=(ExIn.succ.1 (K3.ro 2 rfl).now).1.at_ (k:=1) (x:=⟨yk,yop,ynt,⟨yvk,yvi,yvs⟩,ytab,ynm,yA,yn,yc,yargs,yB,ym,yd,ysub⟩) rfl;simp only [Option.some.injEq,Addr.mk.injEq,and_true] at e3;obtain ⟨rfl,rfl⟩:=e3;have z0:=hcz 0 _ (by omega) rfl;have z3:=hcz 3 _ (by omega) rfl;have z4:=hcz 4 _ (by omega) rfl;simp only [Nat.one_mul,Nat.add_zero,Nat.reduceMul] at z0 z3 z4;clear hcz;rw [hI])
        have KR:=K3.pick [3,4] (by decide) rfl
        simp only [List.filterMap_cons,List.filterMap_nil,List.getElem?_cons_zero,List.getElem?_cons_succ] at KR
        go_wp2_with fail
        go_roundw
        case rel=>exact ⟨k+1,by omega,by go_num,hid (Wm HC.out HLS.out HF.out),KR⟩
        case measure=>simp [intOf];omega
     ·have HLS:=hid (show Yq atab col ⟨xcol,⟨xk,xop,xnt,⟨xvk,xvi,xvs⟩,xtab,xnm,xA,xn,xc,xargs,xB,xm,xd,xsub⟩⟩=none from Zeh (fun h=>h5 ⟨h.1,h.2.1,by have h9:=(ExIn.succ.1 (KA.ro 2 rfl).now).1.len;simp only at h9;have h8:=h.2.2;simp only at h8;omega⟩))
      have HC5:(xk==5)=false∨xk=5∧(xop==10)=false∨xk=5∧xop=10∧((xn:Int)==2)=false:=by
       by_cases h1:xk=5
       ·by_cases h2:xop=10
        ·exact .inr (.inr ⟨h1,h2,by simp;omega⟩)
        ·exact .inr (.inl ⟨h1,by simp [h2]⟩)
       ·exact .inl (by simp [h1])
      clear K1 F1 H F h5
      have hB:=fun q=>KA.drewN q
      have HB:=hid hB
      clear hB KA
      rcases HC5 with h|⟨rfl,h⟩|⟨rfl,rfl,h⟩
      all_goals
       go_wp2_with fail
       go_quiet (fail)
       go_wp2_with fail
       go_roundw
       case rel=>exact ⟨k+1,by omega,by go_num,hid (Wm HC.out HLS.out HF.out),((HB.out nq).pick [3,4] (by decide) rfl:_)⟩
       case measure=>simp [intOf];omega
    ·have b0:(xcol.toList==col.toList)=false:=by rw [beq_eq_false_iff_ne];exact fun h=>hcol (Yr h)
     have b0' :(xcol.toList !=col.toList)=true:=by rw [bne_iff_ne];exact fun h=>hcol (Yr h)
     go_wp2_with fail
     go_roundw
     case rel=>exact ⟨k+1,by omega,by go_num,hid (Wm HC.out (by simp [Yq,hcol]) HF.out),K1.drop ((List.sublist_cons_self _ _).cons _)⟩
     case measure=>simp [intOf];omega
   ·have F:=H.facts
    simp only [zg] at F
    have hks:k=sn:=by omega
    go_wp2_with fail
    refine bodyPost_ret (results_tmp2 rfl _ _ _) rfl ⟨?_,H.below⟩
    rw [HR.out,HF.out,List.drop_eq_nil_of_le (by rw [HL.out];omega)]
    rfl
 ·have K0:=(Hold.YD w).Za #[.int .i64 ak,.string atab,.slice rA rn rc,.slice qA qn qc,.slice sA sn sc,.slice wA wn wc,.string text] 97
  have F:=K0.facts
  simp only [zg] at F
  have HB:=hid K0.below
  clear K0
  rw [show ZT ⟨ak,atab,⟨rA,rn,rc,rl⟩,⟨qA,qn,qc,ql⟩,⟨sA,sn,sc,sl⟩,⟨wA,wn,wc,wl⟩,text⟩ col=(0,false) by simp [ZT,YN,hk]]
  go_enter Tryz.func144,Tryz.ntmps144
  go_wp2_with fail
  all_goals first
   | (exfalso;omega)
   | (refine bodyPost_ret (results_tmp2 rfl _ _ _) rfl ?_;exact ⟨rfl,HB.out⟩)
def Rk.val (r:Rk):Value:=.agg #[.string r.tab,.string r.col,.int .i64 r.lo,.int .i64 r.hi]
def AcsIn (d:Nat) (A:Option Addr) (n:Nat) (l:List Ac) (w:World):Prop:=SlR 7 A n (l.flatMap Ac.cells) w∧∀ x∈l,AcIn d x w
theorem AcsIn.len {d:Nat} {A:Option Addr} {n:Nat} {l:List Ac} {w:World} (h:AcsIn d A n l w):l.length=n:=SlP.In.len (s:=⟨A,n,0,l⟩) (k:=7) (cel:=Ac.cells) (P:=AcIn d) h (by omega) (fun _=>rfl)
theorem AcsIn.at_ {d:Nat} {w:World} {A:Option Addr} {n:Nat} {l:List Ac} (h:AcsIn d A n l w) {k:Nat} {x:Ac} (hx:l[k]? =some x):
  ∃ b o,A=some ⟨b,o,none⟩∧b<w.heap.size∧(∀ j u,j<7→x.cells[j]? =some u→w.cell? ⟨b,o+k * 7+j,none⟩=some u)∧AcIn d x w:=SlP.In.at_ (s:=⟨A,n,0,l⟩) (k:=7) (cel:=Ac.cells) (P:=AcIn d) h (by omega) (fun _=>rfl) hx
theorem WM {α:Type} {f:α→Bool} {l:List α} {k:Nat} {x:α} (hx:l[k]? =some x) (hf:f x=true) (h:l.all f=(l.drop k).all f):l.all f=(l.drop (k+1)).all f:=by
 have hk:k<l.length:=(List.getElem?_eq_some_iff.1 hx).1
 rw [h,List.drop_eq_getElem_cons hk]
 have:l[k]=x:=(List.getElem?_eq_some_iff.1 hx).2
 simp [this,hf]
theorem U5 {α:Type} {f:α→Bool} {l:List α} {k:Nat} {x:α} (hx:l[k]? =some x) (hf:f x=false):l.all f=false:=by
 rw [List.all_eq_false]
 exact ⟨x,List.mem_of_getElem? hx,by simp [hf]⟩
theorem Zgz {d:Nat} {r:Rk} {a:Ac} {lk glo ghi:Int} {lb gb:Bool} (h1:ZT a r.col=(lk,lb)) (h2:Z8 d a r.col=(glo,ghi,gb)) (h4:¬a.kind=4):YH d r a=true↔(a.tab.toList=r.tab.toList∧lb=true∧¬lk<1∧gb=true∧¬glo<r.lo∧¬r.hi<ghi):=by
 have e:a.tab.toList=r.tab.toList↔a.tab=r.tab:=⟨Yr,fun h=>by rw [h]⟩
 rw [e]
 unfold YH
 unfold ZT at h1
 unfold Z8 at h2
 simp only [h4,decide_false,Bool.false_or,Bool.and_eq_true,decide_eq_true_eq]
 cases hl:YN a r.col with
 | none=>
  rw [hl] at h1
  have:lb=false:=(congrArg Prod.snd h1).symm
  subst this
  simp
 | some k=>
  rw [hl] at h1
  obtain ⟨rfl,rfl⟩:=Prod.mk.inj h1
  cases hg:XI d a r.col with
  | none=>
   rw [hg] at h2
   have:gb=false:=(congrArg (fun q=>q.2.2) h2).symm
   subst this
   simp
  | some q=>
   obtain ⟨x,y⟩:=q
   rw [hg] at h2
   obtain ⟨rfl,h3⟩:=Prod.mk.inj h2
   obtain ⟨rfl,rfl⟩:=Prod.mk.inj h3
   simp only [Bool.and_eq_true,decide_eq_true_eq,true_and]
   constructor
   ·rintro ⟨a1,⟨a2,a3⟩,a4⟩;exact ⟨a1,by omega,by omega,by omega⟩
   ·rintro ⟨a1,a2,a3,a4⟩;exact ⟨a1,⟨by omega,by omega⟩,by omega⟩
theorem ZdW (M:Nat→Prop) (w:World) (hM:∀ b,M b→b<w.heap.size) (a:Ac) (col:ByteArray) (d:Nat) (ha:Ro w M (AcIn (d+1) a)) (hn:a.wh.n≤9223372036854775807):Calls Tryz.prog 139 #[a.val,.string col] w fun r w' =>r=.returned (.tuple #[.int .i64 (Z8 (d+1) a col).1,.int .i64 (Z8 (d+1) a col).2.1,.bool (Z8 (d+1) a col).2.2])∧Below w.heap.size w w' :=by
 match hl:a.wh.l with
 | []=>
  have h0:a.wh.n=0:=by
   have h2:ExsIn (d+1) a.wh.A a.wh.n a.wh.l w:=ha.now.2.2.2
   have:=h2.len
   rw [hl] at this
   exact this.symm
  have hr:Z8 (d+1) a col=(0,0,false):=by simp [Z8,XI,hl]
  rw [hr]
  exact Zg2 w a col h0
 | x::l=>exact Zdw M w hM a col d ha hn x l hl
set_option maxRecDepth 100000 in
set_option maxHeartbeats 4000000 in
theorem ZdP (M:Nat→Prop) (w:World) (hM:∀ b,M b→b<w.heap.size) (t:Tg) (r:Rk) (d:Nat) (ht:Ro w M (AcsIn (d+1) t.acts.A t.acts.n t.acts.l)) (hn:t.acts.n≤9223372036854775807) (hok:∀ a∈t.acts.l,a.sets.n≤9223372036854775807∧a.wh.n≤9223372036854775807):Calls Tryz.prog 83 #[t.val,r.val] w fun e w' =>e=.returned (.bool (YO (d+1) t r))∧Below w.heap.size w w' :=by
 obtain ⟨tname,ttab,tbef,tev,⟨cA,cn,cc,cl⟩,teach,⟨pA,pn,pc,pl⟩,⟨fA,fn,fc,fl⟩,⟨kA,kn,kc,kl⟩,⟨oA,on,oc,ol⟩,⟨uA,un,uc,ul⟩⟩:=t
 obtain ⟨rtab,rcol,rlo,rhi⟩:=r
 simp only [Tg.val,Rk.val,YO] at ht hn hok ⊢
 have HL:=hid ht.now.len
 have HOK:=hid hok
 have K0:=(((Hold.start M w hM).add (ht.less (by simp [Mut]))).Za #[.string tname,.string ttab,.bool tbef,.int .i64 tev,.slice cA cn cc,.bool teach,.slice pA pn pc,.slice fA fn fc,.slice kA kn kc,.slice oA on oc,.slice uA un uc] 40).Za #[.string rtab,.string rcol,.int .i64 rlo,.int .i64 rhi] 85
 simp only [World.size_alloc] at K0
 have F0:=K0.facts
 simp only [zg] at F0
 clear ht hok
 go_enter Tryz.func83,Tryz.ntmps83
 go_wp2_with fail
 clear F0
 go_loopw [15] (fun i wr=>∃ k:Nat,k≤un∧i=.int .i64 k∧Hid (ul.all (YH (d+1) ⟨rtab,rcol,rlo,rhi⟩)=(ul.drop k).all (YH (d+1) ⟨rtab,rcol,rlo,rhi⟩))∧Hold M none w wr [.cst (w.heap.size+1) 85 #[.string rtab,.string rcol,.int .i64 rlo,.int .i64 rhi],.cst w.heap.size 40 #[.string tname,.string ttab,.bool tbef,.int .i64 tev,.slice cA cn cc,.bool teach,.slice pA pn pc,.slice fA fn fc,.slice kA kn kc,.slice oA on oc,.slice uA un uc],.ro (AcsIn (d+1) uA un ul)]) (fun i _=>un - (intOf i).toNat)
 case atStart=>exact ⟨0,by omega,rfl,hid rfl,K0⟩
 case round=>
  clear K0
  obtain ⟨k,hk,rfl,HF,H⟩:=hrel
  by_cases hlt:k<un
  ·obtain ⟨⟨ak,atab,⟨arA,arn,arc,arl⟩,⟨aqA,aqn,aqc,aql⟩,⟨asA,asn,asc,asl⟩,⟨awA,awn,awc,awl⟩,atext⟩,hc⟩:=Y2 HL.out hlt
   obtain ⟨b,o,rfl,hb,hcl,-⟩:=(H.ro 2 rfl).now.at_ hc
   have c0:=hcl 0 _ (by omega) rfl
   have c1:=hcl 1 _ (by omega) rfl
   have c2:=hcl 2 _ (by omega) rfl
   have c3:=hcl 3 _ (by omega) rfl
   have c4:=hcl 4 _ (by omega) rfl
   have c5:=hcl 5 _ (by omega) rfl
   have c6:=hcl 6 _ (by omega) rfl
   simp only [Nat.add_zero] at c0
   simp only [SlP.v] at c2 c3 c4 c5
   clear hcl
   have HC:=hid hc;clear hc
   have HO:=HOK.out _ (List.mem_of_getElem? HC.out)
   simp only at HO
   have K1:=(H.add (S:=AcIn (d+1) ⟨ak,atab,⟨arA,arn,arc,arl⟩,⟨aqA,aqn,aqc,aql⟩,⟨asA,asn,asc,asl⟩,⟨awA,awn,awc,awl⟩,atext⟩) ((H.ro 2 rfl).imp fun w2 h2=>h2.2 _ (List.mem_of_getElem? HC.out))).Za #[.int .i64 ak,.string atab,.slice arA arn arc,.slice aqA aqn aqc,.slice asA asn asc,.slice awA awn awc,.string atext] 97
   have F1:=K1.facts
   simp only [zg] at F1
   by_cases h4:ak=4
   ·have HW:=hid (show YH (d+1) ⟨rtab,rcol,rlo,rhi⟩ ⟨ak,atab,⟨arA,arn,arc,arl⟩,⟨aqA,aqn,aqc,aql⟩,⟨asA,asn,asc,asl⟩,⟨awA,awn,awc,awl⟩,atext⟩=true by simp [YH,h4])
    subst h4
    go_wp2_with fail
    go_roundw
    case rel=>exact ⟨k+1,by omega,by go_num,hid (WM HC.out HW.out HF.out),K1.drop (List.Sublist.cons _ (List.Sublist.cons _ (List.Sublist.refl _)))⟩
    case measure=>simp [intOf];omega
   ·obtain ⟨⟨lk,lb⟩,h1⟩:∃ q,ZT ⟨ak,atab,⟨arA,arn,arc,arl⟩,⟨aqA,aqn,aqc,aql⟩,⟨asA,asn,asc,asl⟩,⟨awA,awn,awc,awl⟩,atext⟩ rcol=q:=⟨_,rfl⟩
    obtain ⟨⟨glo,ghi,gb⟩,h2⟩:∃ q,Z8 (d+1) ⟨ak,atab,⟨arA,arn,arc,arl⟩,⟨aqA,aqn,aqc,aql⟩,⟨asA,asn,asc,asl⟩,⟨awA,awn,awc,awl⟩,atext⟩ rcol=q:=⟨_,rfl⟩
    have HW:=hid (Zgz (r:=⟨rtab,rcol,rlo,rhi⟩) h1 h2 h4)
    have hc1:=za _ _ K1.Zc ⟨ak,atab,⟨arA,arn,arc,arl⟩,⟨aqA,aqn,aqc,aql⟩,⟨asA,asn,asc,asl⟩,⟨awA,awn,awc,awl⟩,atext⟩ rcol d (K1.ro 1 rfl) HO.1
    rw [h1] at hc1
    have H2:=hid h2
    clear h1 h2
    go_wp2_with fail
    refine hc1.mono ?_
    rintro e w1 ⟨rfl,b1⟩
    have K2:=K1.call b1
    clear K1 F1 b1 c0 c1 c2 c3 c4 c5 c6
    have F2:=K2.facts
    simp only [zg] at F2
    have hc2:=ZdW _ _ K2.Zc ⟨ak,atab,⟨arA,arn,arc,arl⟩,⟨aqA,aqn,aqc,aql⟩,⟨asA,asn,asc,asl⟩,⟨awA,awn,awc,awl⟩,atext⟩ rcol d (K2.ro 1 rfl) HO.2
    rw [H2.out] at hc2
    go_wp2_with fail
    refine hc2.mono ?_
    rintro e w2 ⟨rfl,b2⟩
    have K3:=K2.call b2
    clear K2 F2 b2 H2 hc2 hc1
    have F3:=K3.facts
    simp only [zg] at F3
    go_wp2_with fail
    all_goals clear F3
    all_goals first
     | (refine ⟨⟨k+1,by omega,by go_num,hid (WM HC.out (HW.out.2 ⟨by assumption,by assumption,by omega,by assumption,by omega,by omega⟩) HF.out),K3.drop (List.Sublist.cons _ (List.Sublist.cons _ (List.Sublist.refl _)))⟩,by simp [intOf];omega⟩)
     | (go_ret;exact ⟨by rw [U5 HC.out (Bool.eq_false_iff.2 fun hw=>by obtain ⟨q1,q2,q3,q4,q5,q6⟩:=HW.out.1 hw;first|contradiction|omega)]<;>rfl,K3.below⟩)
  ·have F:=H.facts
   simp only [zg] at F
   have hks:k=un:=by omega
   go_wp2_with fail
   go_ret
   exact ⟨by rw [HF.out,List.drop_eq_nil_of_le (by rw [HL.out];omega)]<;>rfl,H.below⟩
end Go.Proofs.YtnbbllkbefagmaaGreatDoor
namespace Go.Proofs.YtnbbllkbefagmaaGreatDoor
open Go.RowKit
set_option linter.unusedVariables false
set_option linter.unusedSimpArgs false
def exW:Nat→Ex→Nat
 | 0,_=>1
 | d+1,e=>1+(e.args.map (exW d)).sum+(e.sub.map fun q=>1+(q.items.map (exW d)).sum+(q.wh.map (exW d)).sum).sum
def ZA (d:Nat) (l:List Ex):Nat:=(l.map (exW d)).sum
def quW (d:Nat) (q:Qu):Nat:=1+ZA d q.items+ZA d q.wh
def Yt (d:Nat) (l:List Qu):Nat:=(l.map (quW d)).sum
theorem VH (d:Nat) (e:Ex):exW (d+1) e=1+ZA d e.args+Yt d e.sub:=rfl
theorem QL (d:Nat) (e:Ex):1≤exW d e:=by
 cases d with
 | zero=>exact Nat.le_refl _
 | succ d=>rw [VH];omega
theorem XV {α:Type} {f:α→Nat} (h:∀ x,1≤f x):∀ l:List α,l.length≤(l.map f).sum
 | []=>Nat.le_refl _
 | x::l=>by have:=XV h l;have:=h x;simp only [List.length_cons,List.map_cons,List.sum_cons];omega
theorem Zb9 (d:Nat) (l:List Ex):l.length≤ZA d l:=XV (QL d) l
theorem Zcq (d:Nat) (l:List Qu):l.length≤Yt d l:=XV (fun q=>by unfold quW;omega) l
theorem VR {α:Type} {f:α→Nat} {l:List α} {k:Nat} {x:α} (hx:l[k]? =some x):((l.take (k+1)).map f).sum=((l.take k).map f).sum+f x:=by
 rw [List.take_add_one,hx];simp
theorem VZ {α:Type} {f:α→Nat} (l:List α) (k:Nat):((l.take k).map f).sum≤(l.map f).sum:=by
 have h:((l.take k++l.drop k).map f).sum=(l.map f).sum:=by rw [List.take_append_drop]
 rw [List.map_append,List.sum_append] at h
 omega
def QusIn (d:Nat) (A:Option Addr) (n:Nat) (l:List Qu) (w:World):Prop:=SlR 4 A n (YU l) w∧∀ q∈l,QuIn d q w
theorem QusIn.len {d:Nat} {A:Option Addr} {n:Nat} {l:List Qu} {w:World} (h:QusIn d A n l w):l.length=n:=SlP.In.len (s:=⟨A,n,0,l⟩) (k:=4) (cel:=Qu.cells) (P:=QuIn d) h (by omega) (fun _=>rfl)
theorem QusIn.at_ {d:Nat} {w:World} {A:Option Addr} {n:Nat} {l:List Qu} (h:QusIn d A n l w) {k:Nat} {x:Qu} (hx:l[k]? =some x):
  ∃ b o,A=some ⟨b,o,none⟩∧b<w.heap.size∧(∀ j u,j<4→x.cells[j]? =some u→w.cell? ⟨b,o+k * 4+j,none⟩=some u)∧QuIn d x w:=SlP.In.at_ (s:=⟨A,n,0,l⟩) (k:=4) (cel:=Qu.cells) (P:=QuIn d) h (by omega) (fun _=>rfl) hx
def NmSt (M:Nat→Prop) (row:Option Nat) (w0 w:World) (g k:Nat) (L:List Hp):Prop:=
 ∃ (B:Option Addr) (m c:Nat) (xs:List ByteArray),m≤k∧Hold M row w0 w (.blk g 35 #[.slice B m c]::.own 9 1 (.slice B m c) m (Zv xs)::L)
section
variable {M:Nat→Prop} {row:Option Nat} {w0 w:World} {g k:Nat} {L:List Hp}
theorem NmSt.le (h:NmSt M row w0 w g k L) {k' :Nat} (hk:k≤k'):NmSt M row w0 w g k' L:=by
 obtain ⟨B,m,c,xs,hm,K⟩:=h
 exact ⟨B,m,c,xs,by omega,K⟩
theorem NmSt.Xm (h:NmSt M row w0 w g k L) (i:Nat) {S S' :World→Prop} (hi:L[i]? =some (.ro S)) (hs:∀ w,S w→S' w):NmSt M row w0 w g k (.ro S' ::L):=by
 obtain ⟨B,m,c,xs,hm,K⟩:=h
 exact ⟨B,m,c,xs,hm,(K.add ((K.ro (i+2) (by simpa using hi)).imp hs)).JN 2⟩
theorem NmSt.cst (h:NmSt M row w0 w g k L) (cs:Array Value) (t:TypeId):NmSt M row w0 (w.alloc (.cells cs t)) g k (.cst w.heap.size t cs::L):=by
 obtain ⟨B,m,c,xs,hm,K⟩:=h
 exact ⟨B,m,c,xs,hm,(K.Za cs t).JN 2⟩
theorem NmSt.drop (h:NmSt M row w0 w g k L) {L' :List Hp} (hL:List.Sublist L' L):NmSt M row w0 w g k L' :=by
 obtain ⟨B,m,c,xs,hm,K⟩:=h
 exact ⟨B,m,c,xs,hm,K.drop (hL.cons_cons _|>.cons_cons _)⟩
theorem NmSt.factsL (h:NmSt M row w0 w g k L):factsL w L:=by
 obtain ⟨B,m,c,xs,hm,K⟩:=h
 exact (K.drop (L' :=L) (List.Sublist.cons _ (List.Sublist.cons _ (List.Sublist.refl _)))).facts
theorem NmSt.ro (h:NmSt M row w0 w g k L) (i:Nat) {S:World→Prop} (hi:L[i]? =some (.ro S)):S w:=by
 obtain ⟨B,m,c,xs,hm,K⟩:=h
 exact (K.ro (i+2) (by simpa using hi)).now
end
abbrev Ul (g:Nat):Value:=.func (.func 193) #[] #[.pointer (some ⟨g,0,none⟩)]
set_option maxRecDepth 100000 in
set_option maxHeartbeats 2000000 in
theorem Zfj {M:Nat→Prop} {row:Option Nat} {w0 w:World} {g k:Nat} {L:List Hp} (h:NmSt M row w0 w g k L) (e:Ex) (hk:k<4398046511104):Calls Tryz.prog 193 #[e.val,.pointer (some ⟨g,0,none⟩)] w fun r w' =>r=.returned (.bool true)∧NmSt M row w0 w' g (k+1) L:=by
 obtain ⟨P,q,cap,xs,hq,K⟩:=h
 obtain ⟨ek,eop,ent,⟨evk,evi,evs⟩,etab,enm,eA,en,ec,eargs,eB,em,ed,esub⟩:=e
 simp only [Ex.val]
 have K1:=K.Za #[.int .i64 ek,.int .i64 eop,.bool ent,.int .i64 evk,.int .i64 evi,.string evs,.string etab,.string enm,.slice eA en ec,.slice eB em ed] 126
 have F1:=(K1.drop (L' :=[_,_]) (List.Sublist.cons_cons _ (List.Sublist.cons_cons _ (List.nil_sublist _)))).facts
 simp only [zg] at F1
 have HCE:=hid (show Zv xs++(#[Value.string enm]).toList=Zv (xs++[enm]) by simp [Zv])
 by_cases h2:ek=2∧etab=⟨#[78,69,87]⟩
 ·obtain ⟨rfl,rfl⟩:=h2
  go_enter Tryz.func193,Tryz.ntmps193
  go_wp2_with (at_builtin;go_must (refine Zx K1 2 rfl Tryz.Qe #[.string enm] rfl (.tmp 12) (.tmp 15) rfl rfl _ (by first|rfl|simp) rfl rfl (by intro u hu;simp at hu;rcases hu with rfl;rfl) (by omega) (by omega) ?_);intro g9 cap9 w9 hc9 hm9 KB;rw [HCE.out] at KB;simp only [zl] at KB;have FB:=(KB.drop (L' :=[_,_]) (List.Sublist.cons_cons _ (List.Sublist.cons_cons _ (List.nil_sublist _)))).facts;simp only [zg] at FB)
  have KC:=(KB.store 1 rfl 0 (.slice (some ⟨g9,0,none⟩) (q+1) cap9)).drop (List.sublist_cons_self _ _)
  simp only [zl] at KC
  go_ret
  exact ⟨by first|rfl|simp,_,q+1,cap9,_,by omega,KC⟩
 ·have KC:=K1.drop (List.sublist_cons_self _ _)
  by_cases h3:ek=2
  ·subst h3
   have h4:(etab.toList==[78,69,87])=false:=by
    rw [Bool.eq_false_iff]
    intro h
    exact h2 ⟨rfl,Yr (by rw [ByteArray.toList_eq,ByteArray.toList_eq] at *;simpa using h)⟩
   clear h2
   go_enter Tryz.func193,Tryz.ntmps193
   go_wp2_with fail
   go_ret
   exact ⟨by first|rfl|simp,_,q,cap,_,by omega,KC⟩
  ·clear h2
   go_enter Tryz.func193,Tryz.ntmps193
   go_wp2_with fail
   all_goals first
    | (exfalso;omega)
    | (go_ret;exact ⟨by first|rfl|simp,_,q,cap,_,by omega,KC⟩)
def Vx (d:Nat):Prop:=∀ (M:Nat→Prop) (row:Option Nat) (w0 w:World) (g k:Nat) (L:List Hp) (A:Option Addr) (n c:Nat) (l:List Ex),NmSt M row w0 w g k (.ro (ExsIn d A n l)::L)→k+ZA d l≤4398046511104→
 Calls Tryz.prog 227 #[Ul g,.slice A n c] w fun r w' =>r=.returned (.bool true)∧NmSt M row w0 w' g (k+ZA d l) (.ro (ExsIn d A n l)::L)
def QE (d:Nat):Prop:=∀ (M:Nat→Prop) (row:Option Nat) (w0 w:World) (g k:Nat) (L:List Hp) (A:Option Addr) (n c:Nat) (l:List Qu),NmSt M row w0 w g k (.ro (QusIn d A n l)::L)→k+Yt d l≤4398046511104→
 Calls Tryz.prog 259 #[Ul g,.slice A n c] w fun r w' =>r=.returned (.bool true)∧NmSt M row w0 w' g (k+Yt d l) (.ro (QusIn d A n l)::L)
set_option maxRecDepth 100000 in
set_option maxHeartbeats 2000000 in
theorem Gu {d:Nat} (hE:Vx d):QE d:=by
 intro M row w0 w g k L A n c l h hk
 have HL:=hid (h.ro 0 rfl).len
 have hn:n≤4398046511104:=by have:=Zcq d l;have:=(h.ro 0 rfl).len;omega
 have HK:=hid hk
 clear hk
 go_enter Tryz.func259,Tryz.ntmps259
 go_wp2_with fail
 go_loopw [9] (fun iv wr=>∃ (j:Nat),j≤n∧iv=.int .i64 j∧NmSt M row w0 wr g (k+Yt d (l.take j)) (.ro (QusIn d A n l)::L)) (fun iv _=>n - (intOf iv).toNat)
 case atStart=>exact ⟨0,by omega,rfl,h⟩
 case round=>
  clear h
  obtain ⟨j,hj,rfl,H⟩:=hrel
  by_cases hlt:j<n
  ·obtain ⟨⟨st,xA,xn,xc,items,src,xB,xm,xd,wh⟩,hc⟩:=Y2 HL.out hlt
   obtain ⟨b,o,rfl,hb,hcl,-⟩:=(H.ro 0 rfl).at_ hc
   have c0:=hcl 0 _ (by omega) rfl
   have c1:=hcl 1 _ (by omega) rfl
   have c2:=hcl 2 _ (by omega) rfl
   have c3:=hcl 3 _ (by omega) rfl
   simp only [Nat.add_zero] at c0
   clear hcl
   have HS:=hid (show Yt d (l.take (j+1))=Yt d (l.take j)+(1+ZA d items+ZA d wh) from VR hc)
   have HT:=hid (show Yt d (l.take (j+1))≤Yt d l from VZ l (j+1))
   have HM:=hid (List.mem_of_getElem? hc)
   clear hc
   have H0:=H.cst #[.bool st,.slice xA xn xc,.string src,.slice xB xm xd] 273
   have H1:=H0.Xm 1 (S' :=ExsIn d xA xn items) rfl (fun w2 h2=>(h2.2 _ HM.out).1)
   have F1:=(H1.drop (L' :=[_,_]) (List.Sublist.cons_cons _ (List.Sublist.cons_cons _ (List.nil_sublist _)))).factsL
   simp only [zg] at F1
   clear H H0
   go_wp2_with fail
   refine (hE _ _ _ _ _ _ _ _ _ _ _ H1 (by have:=HK.out;have:=HS.out;have:=HT.out;omega)).mono ?_
   rintro e w1 ⟨rfl,H2⟩
   have H3:=H2.Xm 2 (S' :=ExsIn d xB xm wh) rfl (fun w2 h2=>(h2.2 _ HM.out).2)
   have F3:=(H3.drop (L' :=[_,_,_]) (List.Sublist.cons_cons _ (List.Sublist.cons_cons _ (List.Sublist.cons_cons _ (List.nil_sublist _))))).factsL
   simp only [zg] at F3
   clear H1 H2 F1 c0 c1 c2 c3
   go_wp2_with fail
   refine (hE _ _ _ _ _ _ _ _ _ _ _ H3 (by have:=HK.out;have:=HS.out;have:=HT.out;omega)).mono ?_
   rintro e w2 ⟨rfl,H4⟩
   clear H3 F3
   go_wp2_with fail
   go_roundw
   case rel=>exact ⟨j+1,by omega,by go_num,(H4.drop (List.Sublist.cons _ (List.Sublist.cons _ (List.Sublist.cons _ (List.Sublist.refl _))))).le (by have:=HS.out;omega)⟩
   case measure=>simp [intOf];omega
  ·have hjn:j=n:=by omega
   rw [List.take_of_length_le (by rw [HL.out];omega)] at H
   go_wp2_with fail
   go_ret
   exact ⟨by first|rfl|simp,H⟩
set_option maxRecDepth 100000 in
set_option maxHeartbeats 2000000 in
theorem Gp {d:Nat} (hD:∀ e,d=e+1→Vx e∧QE e):Vx d:=by
 intro M row w0 w g k L A n c l h hk
 have HL:=hid (h.ro 0 rfl).len
 have hn:n≤4398046511104:=by have:=Zb9 d l;have:=(h.ro 0 rfl).len;omega
 have HK:=hid hk
 clear hk
 go_enter Tryz.func227,Tryz.ntmps227
 go_wp2_with fail
 go_loopw [9] (fun iv wr=>∃ (j:Nat),j≤n∧iv=.int .i64 j∧NmSt M row w0 wr g (k+ZA d (l.take j)) (.ro (ExsIn d A n l)::L)) (fun iv _=>n - (intOf iv).toNat)
 case atStart=>exact ⟨0,by omega,rfl,h⟩
 case round=>
  clear h
  obtain ⟨j,hj,rfl,H⟩:=hrel
  by_cases hlt:j<n
  ·obtain ⟨⟨xk,xop,xnt,⟨xvk,xvi,xvs⟩,xtab,xnm,xA,xn,xc,xargs,xB,xm,xd,xsub⟩,hc⟩:=Y2 HL.out hlt
   obtain ⟨b,o,rfl,hb,hcl,hin⟩:=(H.ro 0 rfl).at_ hc
   obtain _|d:=d
   ·exact hin.elim
   clear hin
   obtain ⟨hE,hQ⟩:=hD d rfl
   have c0:=hcl 0 _ (by omega) rfl
   have c1:=hcl 1 _ (by omega) rfl
   have c2:=hcl 2 _ (by omega) rfl
   have c3:=hcl 3 _ (by omega) rfl
   have c4:=hcl 4 _ (by omega) rfl
   have c5:=hcl 5 _ (by omega) rfl
   have c6:=hcl 6 _ (by omega) rfl
   have c7:=hcl 7 _ (by omega) rfl
   have c8:=hcl 8 _ (by omega) rfl
   have c9:=hcl 9 _ (by omega) rfl
   simp only [Nat.add_zero] at c0
   clear hcl
   have HS:=hid (show ZA (d+1) (l.take (j+1))=ZA (d+1) (l.take j)+(1+ZA d xargs+Yt d xsub) from VR hc)
   have HT:=hid (show ZA (d+1) (l.take (j+1))≤ZA (d+1) l from VZ l (j+1))
   have HM:=hid (List.mem_of_getElem? hc)
   clear hc
   have H1:=H.cst #[.int .i64 xk,.int .i64 xop,.bool xnt,.int .i64 xvk,.int .i64 xvi,.string xvs,.string xtab,.string xnm,.slice xA xn xc,.slice xB xm xd] 126
   have F1:=(H1.drop (L' :=[_,_]) (List.Sublist.cons_cons _ (List.Sublist.cons_cons _ (List.nil_sublist _)))).factsL
   simp only [zg] at F1
   clear H
   go_wp2_with fail
   refine (Zfj H1 ⟨xk,xop,xnt,⟨xvk,xvi,xvs⟩,xtab,xnm,xA,xn,xc,xargs,xB,xm,xd,xsub⟩ (by have:=HK.out;have:=HS.out;have:=HT.out;omega)).mono ?_
   rintro e w1 ⟨rfl,H2⟩
   have H3:=H2.Xm 1 (S' :=ExsIn d xA xn xargs) rfl (fun w2 h2=>(ExIn.succ.1 (h2.2 _ HM.out)).1)
   have F3:=(H3.drop (L' :=[_,_]) (List.Sublist.cons_cons _ (List.Sublist.cons_cons _ (List.nil_sublist _)))).factsL
   simp only [zg] at F3
   clear H1 H2 F1 c0 c1 c2 c3 c4 c5 c6 c7 c8 c9
   go_wp2_with fail
   refine (hE _ _ _ _ _ _ _ _ _ _ _ H3 (by have:=HK.out;have:=HS.out;have:=HT.out;omega)).mono ?_
   rintro e w2 ⟨rfl,H4⟩
   have H5:=H4.Xm 2 (S' :=QusIn d xB xm xsub) rfl (fun w2 h2=>(ExIn.succ.1 (h2.2 _ HM.out)).2)
   have F5:=(H5.drop (L' :=[_,_,_]) (List.Sublist.cons_cons _ (List.Sublist.cons_cons _ (List.Sublist.cons_cons _ (List.nil_sublist _))))).factsL
   simp only [zg] at F5
   clear H3 H4 F3
   go_wp2_with fail
   refine (hQ _ _ _ _ _ _ _ _ _ _ _ H5 (by have:=HK.out;have:=HS.out;have:=HT.out;omega)).mono ?_
   rintro e w3 ⟨rfl,H6⟩
   clear H5 F5
   go_wp2_with fail
   go_roundw
   case rel=>exact ⟨j+1,by omega,by go_num,(H6.drop (List.Sublist.cons _ (List.Sublist.cons _ (List.Sublist.cons _ (List.Sublist.refl _))))).le (by have:=HS.out;omega)⟩
   case measure=>simp [intOf];omega
  ·have hjn:j=n:=by omega
   rw [List.take_of_length_le (by rw [HL.out];omega)] at H
   go_wp2_with fail
   go_ret
   exact ⟨by first|rfl|simp,H⟩
theorem Vo:∀ d,Vx d∧QE d
 | 0=>have h:Vx 0:=Gp (fun e he=>by omega)
  ⟨h,Gu h⟩
 | d+1=>have h:Vx (d+1):=Gp (fun e he=>by
   obtain rfl:d=e:=by omega
   exact Vo d)
  ⟨h,Gu h⟩
end Go.Proofs.YtnbbllkbefagmaaGreatDoor

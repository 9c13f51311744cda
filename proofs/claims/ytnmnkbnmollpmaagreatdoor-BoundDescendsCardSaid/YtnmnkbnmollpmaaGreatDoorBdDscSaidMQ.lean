import Derived.Test.YtnmnkbnmollpmaaGreatDoorBdDscSaidML
set_option linter.unusedVariables false
set_option linter.unusedSimpArgs false
set_option maxHeartbeats 64000000
set_option maxRecDepth 100000
namespace Go.Proofs.YtnmnkbnmollpmaaGreatDoor
section
open Go.RowKit
theorem VU {fn:Func} {t u v:Tmp} (h:fn.results=#[.tmp t,.tmp u,.tmp v]) (tmps:Array Value) (P:Program) (w:World):
  (results fn tmps).run P w=.ok (.tuple #[tmps.getD t undef,tmps.getD u undef,tmps.getD v undef]) w:=by
 simp [results,h]
theorem ZbE {w:World}:∀ {d:Nat} {e:Ex},ExIn d e w→ExIn d (YR d e) w
 | 0,_,h=>h.elim
 | d+1,e,h=>by
  unfold YR
  split
  ·split
   ·rename_i a l hl
    exact (ZbE ((ExIn.succ.1 h).1.2 a (by rw [hl];exact Kl ..))).more
   ·exact h
  ·exact h
theorem ZaO {e:Ex} (h:¬(e.kind=4∧∃ a,e.args=[a]∧a.kind=1)):Yj e=(e.v.i,(e.kind==1)&&(e.v.k==1)):=by
 have hb:((e.kind==1)&&(e.v.k==1))=(decide (e.kind=1)&&decide (e.v.k=1)):=by
  cases h1:(e.kind==1)<;>cases h2:(e.v.k==1)<;>simp at h1 h2<;>simp [h1,h2]
 unfold Yj
 split
 ·rename_i a ha
  rw [Lf (fun hc=>h ⟨hc.1,a,ha,hc.2⟩),hb]
 ·rw [hb]
theorem ZfL {e a:Ex} (h:e.kind=4) (ha:e.args=[a]) (hk:a.kind=1):Yj e=(IntKind.i64.wrap (-a.v.i),a.v.k==1):=by
 have hb:(a.v.k==1)=decide (a.v.k=1):=by cases h2:(a.v.k==1)<;>simp at h2<;>simp [h2]
 simp [Yj,ha,h,hk,hb]
theorem ZaQ (M:Nat→Prop) (w:World) (hM:∀ b,M b→b<w.heap.size) (e:Ex) (d:Nat) (he:Ro w M (ExIn (d+1) e)):Calls Tryz.prog 147 #[e.val] w fun r w' =>r=.returned (.tuple #[.int .i64 (Yj e).1,.bool (Yj e).2])∧Below w.heap.size w w' :=by
 by_cases h:e.kind=4
 ·by_cases h2:∃ a,e.args=[a]∧a.kind=1
  ·obtain ⟨a,ha,hk⟩:=h2
   rw [ZfL h ha hk]
   exact ZfK M w hM e a d he h ha hk
  ·rw [ZaO (fun hc=>h2 hc.2)]
   have hlen:=(ExIn.succ.1 he.now).1.len
   obtain ⟨k,op,nt,⟨vk,vi,vs⟩,tab,nm,A,n,c,args,B,m,d,sub⟩:=e
   simp only [Ex.val] at h h2 hlen ⊢
   subst h
   have K0:=((Hold.start M w hM).add (he.less (by simp [Mut]))).Za #[.int .i64 4,.int .i64 op,.bool nt,.int .i64 vk,.int .i64 vi,.string vs,.string tab,.string nm,.slice A n c,.slice B m d] 34
   have F0:=K0.facts
   simp only [zg] at F0
   have hB:=fun q=>(K0.drewN q).below
   have HB:=hid hB
   clear hB
   by_cases hn:(n:Int)=1
   ·obtain ⟨a,ha⟩:∃ a,args=[a]:=by
     match args,hlen with
     | [a],_=>exact ⟨a,rfl⟩
     | [],hlen=>simp at hlen;omega
     | _::_::_,hlen=>simp at hlen;omega
    subst ha
    obtain ⟨b2,o2,rfl,hb2,hc,-⟩:=(ExIn.succ.1 (K0.ro 1 rfl).now).1.at_ (k:=0) (x:=a) rfl
    have y0:=hc 0 _ (by omega) rfl
    simp only [Nat.zero_mul,Nat.add_zero] at y0
    clear hc K0 he
    have hak:¬a.kind=1:=fun hk=>h2 ⟨a,rfl,hk⟩
    obtain ⟨ka,hka⟩:∃ ka,ka=a.kind:=⟨_,rfl⟩
    rw [←hka] at y0 hak
    clear hka h2 hlen
    have h0:0<n:=by omega
    go_enter Tryz.func147,Tryz.ntmps147
    go_wp2_with fail
    go_quiet (fail)
    go_wp2_with fail
    refine Lh (results_tmp2 rfl _ _ _) rfl ?_
    exact ⟨rfl,HB.out _⟩
   ·clear K0 he h2 hlen
    go_enter Tryz.func147,Tryz.ntmps147
    go_wp2_with fail
    go_quiet (fail)
    go_wp2_with fail
    refine Lh (results_tmp2 rfl _ _ _) rfl ?_
    exact ⟨rfl,HB.out _⟩
 ·rw [ZaO (fun hc=>h hc.1)]
  exact ZaN w e h
def Xn (d:Nat) (a:Ac) (col:ByteArray):Int × Int × Bool:=match VN d a col with|some (x,y)=>(x,y,true)|none=>(0,0,false)
theorem ZhI {d:Nat} {a:Ac} {col:ByteArray} {x:Ex} {l:List Ex} (hw:a.wh.l=x::l):Xn d a col=(if a.kind=2∧(YR d x).kind=7 then (match (YR d x).args with|[x,y,z]=>(if Vm x a.tab col∧(Yj y).2∧(Yj z).2 then ((Yj y).1,(Yj z).1,true) else (0,0,false))|_=>(0,0,false)) else (0,0,false)):=by
 unfold Xn VN
 simp only [hw]
 generalize YR d x=E
 by_cases h:a.kind=2∧E.kind=7
 ·rw [Lg h,Lg h]
  match hE:E.args with
  | [x,y,z]=>
   simp only
   by_cases h2:Vm x a.tab col=true∧(Yj y).2=true∧(Yj z).2=true
   ·rw [Lg h2,Lg h2]
   ·rw [Lf h2,Lf h2]
  | []=>rfl
  | [_]=>rfl
  | [_,_]=>rfl
  | _::_::_::_::_=>rfl
 ·rw [Lf h,Lf h]
theorem ZhF (w:World) (a:Ac) (col:ByteArray) (hn:a.wh.n=0):Calls Tryz.prog 112 #[a.val,.string col] w fun r w' =>r=.returned (.tuple #[.int .i64 0,.int .i64 0,.bool false])∧Below w.heap.size w w' :=by
 obtain ⟨ak,atab,⟨rA,rn,rc,rl⟩,⟨qA,qn,qc,ql⟩,⟨sA,sn,sc,sl⟩,⟨wA,wn,wc,wl⟩,text⟩:=a
 simp only [Ac.val] at hn ⊢
 subst hn
 have K0:=(Hold.Yi w).Za #[.int .i64 ak,.string atab,.slice rA rn rc,.slice qA qn qc,.slice sA sn sc,.slice wA 0 wc,.string text] 44
 have F0:=K0.facts
 simp only [zg] at F0
 by_cases hk:ak=2
 ·subst hk
  go_enter Tryz.func112,Tryz.ntmps112
  go_wp2_with fail
  refine (Zbs _ wA wc).mono ?_
  rintro e w1 ⟨rfl,b1⟩
  have K1:=(K0.call b1).Za #[.int .i64 0,.int .i64 0,.bool false,.int .i64 0,.int .i64 0,.string ⟨#[]⟩,.string ⟨#[]⟩,.string ⟨#[]⟩,.slice none 0 0,.slice none 0 0] 34
  have F1:=K1.facts
  simp only [zg] at F1
  have hB:=fun q=>(K1.drewN q).below
  have HB:=hid hB
  clear hB K0 K1 F0
  go_wp2_with fail
  go_quiet (fail)
  go_wp2_with fail
  refine Lh (VU rfl _ _ _) rfl ?_
  exact ⟨rfl,HB.out _⟩
 ·have hk2:(ak !=2)=true:=by simpa using hk
  go_enter Tryz.func112,Tryz.ntmps112
  go_wp2_with fail
  refine (Zbs _ wA wc).mono ?_
  rintro e w1 ⟨rfl,b1⟩
  have K1:=(K0.call b1).Za #[.int .i64 0,.int .i64 0,.bool false,.int .i64 0,.int .i64 0,.string ⟨#[]⟩,.string ⟨#[]⟩,.string ⟨#[]⟩,.slice none 0 0,.slice none 0 0] 34
  have F1:=K1.facts
  simp only [zg] at F1
  have hB:=fun q=>(K1.drewN q).below
  have HB:=hid hB
  clear hB K0 K1 F0
  go_wp2_with fail
  go_quiet (fail)
  go_wp2_with fail
  refine Lh (VU rfl _ _ _) rfl ?_
  exact ⟨rfl,HB.out _⟩
theorem ZhG (M:Nat→Prop) (w:World) (hM:∀ b,M b→b<w.heap.size) (a:Ac) (col:ByteArray) (d:Nat) (ha:Ro w M (AcIn (d+1) a)) (hn:a.wh.n≤9223372036854775807) (x:Ex) (l:List Ex) (hl:a.wh.l=x::l):Calls Tryz.prog 112 #[a.val,.string col] w fun r w' =>r=.returned (.tuple #[.int .i64 (Xn (d+1) a col).1,.int .i64 (Xn (d+1) a col).2.1,.bool (Xn (d+1) a col).2.2])∧Below w.heap.size w w' :=by
 have hD:Ro w M (ExsIn (d+1) a.wh.A a.wh.n a.wh.l):=ha.imp fun w2 h2=>h2.2.2.2
 rw [hl] at hD
 have HR:=hid (ZhI (d:=d+1) (col:=col) hl)
 generalize Xn (d+1) a col=R at *
 obtain ⟨ak,atab,⟨rA,rn,rc,rl⟩,⟨qA,qn,qc,ql⟩,⟨sA,sn,sc,sl⟩,⟨wA,wn,wc,wl⟩,text⟩:=a
 simp only [Ac.val] at hD hn HR ⊢
 clear ha hl
 have K0:=((Hold.start M w hM).add (hD.less (by simp [Mut]))).Za #[.int .i64 ak,.string atab,.slice rA rn rc,.slice qA qn qc,.slice sA sn sc,.slice wA wn wc,.string text] 44
 have F0:=K0.facts
 simp only [zg] at F0
 go_enter Tryz.func112,Tryz.ntmps112
 go_wp2_with fail
 refine (Zhe _ _ K0.Zb wA wn wc (d+1) x l (K0.ro 1 rfl) hn).mono ?_
 rintro e w1 ⟨rfl,b1⟩
 have KA:=K0.call b1
 have KB:=KA.add (S:=ExIn (d+1) (YR (d+1) x)) ((KA.ro 1 rfl).imp fun w2 h2=>ZbE (h2.2 x (Kl ..)))
 clear KA K0 F0 b1
 obtain ⟨E,hE⟩:∃ E,E=YR (d+1) x:=⟨_,rfl⟩
 rw [←hE] at KB
 have HR2:=hid (show R=_ from HR.out)
 clear HR
 rw [←hE] at HR2 ⊢
 clear hE
 obtain ⟨ek,eop,ent,⟨evk,evi,evs⟩,etab,enm,eA,en,ec,eargs,eB,em,ed,esub⟩:=E
 simp only [Ex.val] at HR2 ⊢
 have K1:=KB.Za #[.int .i64 ek,.int .i64 eop,.bool ent,.int .i64 evk,.int .i64 evi,.string evs,.string etab,.string enm,.slice eA en ec,.slice eB em ed] 34
 clear KB
 have F1:=K1.facts
 simp only [zg] at F1
 have hlen:=(ExIn.succ.1 (K1.ro 1 rfl).now).1.len
 simp only at hlen
 have hB:=fun q=>(K1.drewN q).below
 have HB:=hid hB
 clear hB
 have HR:=hid (show R=_ from HR2.out)
 clear HR2
 by_cases hk:ak=2
 ·subst hk
  by_cases h7:ek=7
  ·subst h7
   by_cases h3:(en:Int)=3
   ·obtain ⟨X,Y,Z,rfl⟩:∃ X Y Z,eargs=[X,Y,Z]:=by
     match eargs,hlen with
     | [a,b,c],_=>exact ⟨a,b,c,rfl⟩
     | [],hlen=>simp at hlen;omega
     | [_],hlen=>simp at hlen;omega
     | [_,_],hlen=>simp at hlen;omega
     | _::_::_::_::_,hlen=>simp at hlen;omega
    obtain rfl:en=3:=by omega
    have hx:=(ExIn.succ.1 (K1.ro 1 rfl).now).1
    obtain _|d:=d
    ·exact (hx.2 X (Kl ..)).elim
    obtain ⟨xk,xop,xnt,⟨xvk,xvi,xvs⟩,xtab,xnm,xA,xn,xc,xargs,xB,xm,xd,xsub⟩:=X
    obtain ⟨yk,yop,ynt,⟨yvk,yvi,yvs⟩,ytab,ynm,yA,yn,yc,yargs,yB,ym,yd,ysub⟩:=Y
    obtain ⟨zk,zop,znt,⟨zvk,zvi,zvs⟩,ztab,znm,zA,zn,zc,zargs,zB,zm,zd,zsub⟩:=Z
    obtain ⟨b2,o2,rfl,hb2,hcx,-⟩:=hx.at_ (k:=0) (x:=⟨xk,xop,xnt,⟨xvk,xvi,xvs⟩,xtab,xnm,xA,xn,xc,xargs,xB,xm,xd,xsub⟩) rfl
    obtain ⟨b3,o3,e3,-,hcy,-⟩:=hx.at_ (k:=1) (x:=⟨yk,yop,ynt,⟨yvk,yvi,yvs⟩,ytab,ynm,yA,yn,yc,yargs,yB,ym,yd,ysub⟩) rfl
    obtain ⟨b4,o4,e4,-,hcz,-⟩:=hx.at_ (k:=2) (x:=⟨zk,zop,znt,⟨zvk,zvi,zvs⟩,ztab,znm,zA,zn,zc,zargs,zB,zm,zd,zsub⟩) rfl
    simp only [Option.some.injEq,Addr.mk.injEq,and_true] at e3 e4
    obtain ⟨rfl,rfl⟩:=e3
    obtain ⟨rfl,rfl⟩:=e4
    have x0:=hcx 0 _ (by omega) rfl
    have y0:=hcy 0 _ (by omega) rfl
    have z0:=hcz 0 _ (by omega) rfl
    have x1:=hcx 1 _ (by omega) rfl
    have y1:=hcy 1 _ (by omega) rfl
    have z1:=hcz 1 _ (by omega) rfl
    have x2:=hcx 2 _ (by omega) rfl
    have y2:=hcy 2 _ (by omega) rfl
    have z2:=hcz 2 _ (by omega) rfl
    have x3:=hcx 3 _ (by omega) rfl
    have y3:=hcy 3 _ (by omega) rfl
    have z3:=hcz 3 _ (by omega) rfl
    have x4:=hcx 4 _ (by omega) rfl
    have y4:=hcy 4 _ (by omega) rfl
    have z4:=hcz 4 _ (by omega) rfl
    have x5:=hcx 5 _ (by omega) rfl
    have y5:=hcy 5 _ (by omega) rfl
    have z5:=hcz 5 _ (by omega) rfl
    have x6:=hcx 6 _ (by omega) rfl
    have y6:=hcy 6 _ (by omega) rfl
    have z6:=hcz 6 _ (by omega) rfl
    have x7:=hcx 7 _ (by omega) rfl
    have y7:=hcy 7 _ (by omega) rfl
    have z7:=hcz 7 _ (by omega) rfl
    have x8:=hcx 8 _ (by omega) rfl
    have y8:=hcy 8 _ (by omega) rfl
    have z8:=hcz 8 _ (by omega) rfl
    have x9:=hcx 9 _ (by omega) rfl
    have y9:=hcy 9 _ (by omega) rfl
    have z9:=hcz 9 _ (by omega) rfl
    simp only [Nat.zero_mul,Nat.one_mul,Nat.add_zero,Nat.reduceMul] at x0 y0 z0 x1 y1 z1 x2 y2 z2 x3 y3 z3 x4 y4 z4 x5 y5 z5 x6 y6 z6 x7 y7 z7 x8 y8 z8 x9 y9 z9
    have RX:∀ q∈[⟨xk,xop,xnt,⟨xvk,xvi,xvs⟩,xtab,xnm,xA,xn,xc,xargs,xB,xm,xd,xsub⟩,⟨yk,yop,ynt,⟨yvk,yvi,yvs⟩,ytab,ynm,yA,yn,yc,yargs,yB,ym,yd,ysub⟩,⟨zk,zop,znt,⟨zvk,zvi,zvs⟩,ztab,znm,zA,zn,zc,zargs,zB,zm,zd,zsub⟩],Ro _ _ (ExIn (d+1) q):=fun q hq=>(K1.ro 1 rfl).imp fun w2 h2=>(ExIn.succ.1 h2).1.2 q hq
    have K2:=(K1.add (RX ⟨yk,yop,ynt,⟨yvk,yvi,yvs⟩,ytab,ynm,yA,yn,yc,yargs,yB,ym,yd,ysub⟩ (by simp))).add (S:=ExIn (d+1) ⟨zk,zop,znt,⟨zvk,zvi,zvs⟩,ztab,znm,zA,zn,zc,zargs,zB,zm,zd,zsub⟩) ((RX ⟨zk,zop,znt,⟨zvk,zvi,zvs⟩,ztab,znm,zA,zn,zc,zargs,zB,zm,zd,zsub⟩ (by simp)).less (by simp [ZL,Hp.foot]))
    have hR:R=if Vm ⟨xk,xop,xnt,⟨xvk,xvi,xvs⟩,xtab,xnm,xA,xn,xc,xargs,xB,xm,xd,xsub⟩ atab col∧(Yj ⟨yk,yop,ynt,⟨yvk,yvi,yvs⟩,ytab,ynm,yA,yn,yc,yargs,yB,ym,yd,ysub⟩).2∧(Yj ⟨zk,zop,znt,⟨zvk,zvi,zvs⟩,ztab,znm,zA,zn,zc,zargs,zB,zm,zd,zsub⟩).2 then ((Yj ⟨yk,yop,ynt,⟨yvk,yvi,yvs⟩,ytab,ynm,yA,yn,yc,yargs,yB,ym,yd,ysub⟩).1,(Yj ⟨zk,zop,znt,⟨zvk,zvi,zvs⟩,ztab,znm,zA,zn,zc,zargs,zB,zm,zd,zsub⟩).1,true) else (0,0,false):=by rw [HR.out,Lg ⟨rfl,rfl⟩]
    clear HR hlen HB RX hx hcx hcy hcz
    cases hI:Vm ⟨xk,xop,xnt,⟨xvk,xvi,xvs⟩,xtab,xnm,xA,xn,xc,xargs,xB,xm,xd,xsub⟩ atab col
    ·have hr:R=(0,0,false):=by rw [hR,if_neg (by simp [hI])]
     clear hR K1
     subst hr
     go_wp2_with fail
     generalize w1.alloc (.cells #[.int .i64 7,.int .i64 eop,.bool ent,.int .i64 evk,.int .i64 evi,.string evs,.string etab,.string enm,.slice (some ⟨b2,o2,none⟩) 3 ec,.slice eB em ed] 34)=wk at *
     go_still_tail 26,(by kernel_rfl)
     change wpList _ _ _ _ _ wk.drew
     go_wp2_with (go_at_call 146;refine (ZbP _ ⟨xk,xop,xnt,⟨xvk,xvi,xvs⟩,xtab,xnm,xA,xn,xc,xargs,xB,xm,xd,xsub⟩ atab col).mono ?_;rintro e w2 ⟨rfl,bb2⟩;have K3:=K2.drew.call bb2;rw [hI])
     go_wp2_with fail
     refine Lh (VU rfl _ _ _) rfl ?_
     exact ⟨rfl,K3.below⟩
    ·clear K1
     have HR:=hid (show R=_ from hR)
     clear hR
     go_wp2_with fail
     generalize w1.alloc (.cells #[.int .i64 7,.int .i64 eop,.bool ent,.int .i64 evk,.int .i64 evi,.string evs,.string etab,.string enm,.slice (some ⟨b2,o2,none⟩) 3 ec,.slice eB em ed] 34)=wk at *
     go_still_tail 26,(by kernel_rfl)
     change wpList _ _ _ _ _ wk.drew
     go_wp2_with (go_at_call 146;refine (ZbP _ ⟨xk,xop,xnt,⟨xvk,xvi,xvs⟩,xtab,xnm,xA,xn,xc,xargs,xB,xm,xd,xsub⟩ atab col).mono ?_;rintro e w2 ⟨rfl,bb2⟩;have K3:=K2.drew.call bb2;have F3:=K3.facts;simp only [zg] at F3;obtain ⟨b3,o3,e3,hb3,hcy,-⟩:=(ExIn.succ.1 (K3.ro 3 rfl).now).1.at_ (k:=1) (x:=⟨yk,yop,ynt,⟨yvk,yvi,yvs⟩,ytab,ynm,yA,yn,yc,yargs,yB,ym,yd,ysub⟩) rfl;simp only [Option.some.injEq,Addr.mk.injEq,and_true] at e3;obtain ⟨rfl,rfl⟩:=e3;have y0:=hcy 0 _ (by omega) rfl;have y1:=hcy 1 _ (by omega) rfl;have y2:=hcy 2 _ (by omega) rfl;have y3:=hcy 3 _ (by omega) rfl;have y4:=hcy 4 _ (by omega) rfl;have y5:=hcy 5 _ (by omega) rfl;have y6:=hcy 6 _ (by omega) rfl;have y7:=hcy 7 _ (by omega) rfl;have y8:=hcy 8 _ (by omega) rfl;have y9:=hcy 9 _ (by omega) rfl;simp only [Nat.one_mul,Nat.add_zero,Nat.reduceMul] at y0 y1 y2 y3 y4 y5 y6 y7 y8 y9;clear hcy;rw [hI])
     have HI:=hid hI
     clear hI
     clear x0 y0 z0 x1 y1 z1 x2 y2 z2 x3 y3 z3 x4 y4 z4 x5 y5 z5 x6 y6 z6 x7 y7 z7 x8 y8 z8 x9 y9 z9 F1 hb2 K2
     refine (ZaQ _ _ K3.Zb ⟨yk,yop,ynt,⟨yvk,yvi,yvs⟩,ytab,ynm,yA,yn,yc,yargs,yB,ym,yd,ysub⟩ d (K3.ro 1 rfl)).mono ?_
     rintro e w3 ⟨rfl,bb3⟩
     have K4:=K3.call bb3
     clear y0 y1 y2 y3 y4 y5 y6 y7 y8 y9 F3 hb3 K3 bb3 bb2
     have F4:=K4.facts
     simp only [zg] at F4
     obtain ⟨b3,o3,e3,hb3,hcz,-⟩:=(ExIn.succ.1 (K4.ro 3 rfl).now).1.at_ (k:=2) (x:=⟨zk,zop,znt,⟨zvk,zvi,zvs⟩,ztab,znm,zA,zn,zc,zargs,zB,zm,zd,zsub⟩) rfl
     simp only [Option.some.injEq,Addr.mk.injEq,and_true] at e3
     obtain ⟨rfl,rfl⟩:=e3
     have z0:=hcz 0 _ (by omega) rfl
     have z1:=hcz 1 _ (by omega) rfl
     have z2:=hcz 2 _ (by omega) rfl
     have z3:=hcz 3 _ (by omega) rfl
     have z4:=hcz 4 _ (by omega) rfl
     have z5:=hcz 5 _ (by omega) rfl
     have z6:=hcz 6 _ (by omega) rfl
     have z7:=hcz 7 _ (by omega) rfl
     have z8:=hcz 8 _ (by omega) rfl
     have z9:=hcz 9 _ (by omega) rfl
     simp only [Nat.one_mul,Nat.add_zero,Nat.reduceMul] at z0 z1 z2 z3 z4 z5 z6 z7 z8 z9
     clear hcz
     go_wp2_with fail
     refine (ZaQ _ _ K4.Zb ⟨zk,zop,znt,⟨zvk,zvi,zvs⟩,ztab,znm,zA,zn,zc,zargs,zB,zm,zd,zsub⟩ d (K4.ro 0 rfl)).mono ?_
     rintro e w4 ⟨rfl,bb4⟩
     have K5:=K4.call bb4
     clear z0 z1 z2 z3 z4 z5 z6 z7 z8 z9 F4 hb3 K4 bb4
     have HB:=hid K5.below
     clear K5
     obtain ⟨⟨cy,oy⟩,hcy⟩:∃ q,q=Yj ⟨yk,yop,ynt,⟨yvk,yvi,yvs⟩,ytab,ynm,yA,yn,yc,yargs,yB,ym,yd,ysub⟩:=⟨_,rfl⟩
     obtain ⟨⟨cz,oz⟩,hcz⟩:∃ q,q=Yj ⟨zk,zop,znt,⟨zvk,zvi,zvs⟩,ztab,znm,zA,zn,zc,zargs,zB,zm,zd,zsub⟩:=⟨_,rfl⟩
     rw [←hcy,←hcz] at HR
     rw [←hcy,←hcz]
     clear hcy hcz
     have hr:R=if oy=true∧oz=true then (cy,cz,true) else (0,0,false):=by rw [HR.out];simp [HI.out]
     clear HR
     cases oy<;>cases oz
     all_goals
      simp only [Bool.false_eq_true,false_and,and_false,and_self,if_false,if_true] at hr
      subst hr
      go_wp2_with fail
      refine Lh (VU rfl _ _ _) rfl ?_
      exact ⟨rfl,HB.out⟩
   ·have h3b:((en:Int) !=3)=true:=by simpa using h3
    have hr:R=(0,0,false):=by
     rw [HR.out,Lg ⟨rfl,rfl⟩]
     match eargs,hlen with
     | [a,b,c],hlen=>simp at hlen;omega
     | [],_=>rfl
     | [_],_=>rfl
     | [_,_],_=>rfl
     | _::_::_::_::_,_=>rfl
    clear K1 HR hlen
    subst hr
    go_wp2_with fail
    go_quiet (fail)
    go_wp2_with fail
    refine Lh (VU rfl _ _ _) rfl ?_
    exact ⟨by rfl,HB.out _⟩
  ·have h7b:(ek !=7)=true:=by simpa using h7
   have hr:R=(0,0,false):=by rw [HR.out,Lf (fun h=>h7 h.2)]
   clear K1 HR
   subst hr
   go_wp2_with fail
   go_quiet (fail)
   go_wp2_with fail
   refine Lh (VU rfl _ _ _) rfl ?_
   exact ⟨by rfl,HB.out _⟩
 ·have hk2:(ak !=2)=true:=by simpa using hk
  have hr:R=(0,0,false):=by rw [HR.out,Lf (fun h=>hk h.1)]
  clear K1 HR
  subst hr
  go_wp2_with fail
  go_quiet (fail)
  go_wp2_with fail
  refine Lh (VU rfl _ _ _) rfl ?_
  exact ⟨by rfl,HB.out _⟩
def Rk.val (r:Rk):Value:=.agg #[.string r.tab,.string r.col,.int .i64 r.lo,.int .i64 r.hi]
def AcsIn (d:Nat) (A:Option Addr) (n:Nat) (l:List Ac) (w:World):Prop:=SlR 7 A n (l.flatMap Ac.cells) w∧∀ x∈l,AcIn d x w
theorem AcsIn.len {d:Nat} {A:Option Addr} {n:Nat} {l:List Ac} {w:World} (h:AcsIn d A n l w):l.length=n:=SlP.In.len (s:=⟨A,n,0,l⟩) (k:=7) (cel:=Ac.cells) (P:=AcIn d) h (by omega) (fun _=>rfl)
theorem AcsIn.at_ {d:Nat} {w:World} {A:Option Addr} {n:Nat} {l:List Ac} (h:AcsIn d A n l w) {k:Nat} {x:Ac} (hx:l[k]? =some x):
  ∃ b o,A=some ⟨b,o,none⟩∧b<w.heap.size∧(∀ j u,j<7→x.cells[j]? =some u→w.cell? ⟨b,o+k * 7+j,none⟩=some u)∧AcIn d x w:=SlP.In.at_ (s:=⟨A,n,0,l⟩) (k:=7) (cel:=Ac.cells) (P:=AcIn d) h (by omega) (fun _=>rfl) hx
theorem VJ {α:Type} {f:α→Bool} {l:List α} {k:Nat} {x:α} (hx:l[k]? =some x) (hf:f x=true) (h:l.all f=(l.drop k).all f):l.all f=(l.drop (k+1)).all f:=by
 have hk:k<l.length:=(Kc.1 hx).1
 rw [h,Le hk]
 have:l[k]=x:=(Kc.1 hx).2
 simp [this,hf]
theorem QM {α:Type} {f:α→Bool} {l:List α} {k:Nat} {x:α} (hx:l[k]? =some x) (hf:f x=false):l.all f=false:=by
 rw [List.all_eq_false]
 exact ⟨x,List.mem_of_getElem? hx,by simp [hf]⟩
theorem Zi9 {d:Nat} {r:Rk} {a:Ac} {lk glo ghi:Int} {lb gb:Bool} (h1:Xg a r.col=(lk,lb)) (h2:Xn d a r.col=(glo,ghi,gb)) (h4:¬a.kind=4):WU d r a=true↔(a.tab.toList=r.tab.toList∧lb=true∧¬lk<1∧gb=true∧¬glo<r.lo∧¬r.hi<ghi):=by
 have e:a.tab.toList=r.tab.toList↔a.tab=r.tab:=⟨Yc,fun h=>by rw [h]⟩
 rw [e]
 unfold WU
 unfold Xg at h1
 unfold Xn at h2
 simp only [h4,decide_false,Bool.false_or,Bool.and_eq_true,decide_eq_true_eq]
 cases hl:Wx a r.col with
 | none=>
  rw [hl] at h1
  have:lb=false:=(congrArg Prod.snd h1).symm
  subst this
  simp
 | some k=>
  rw [hl] at h1
  obtain ⟨rfl,rfl⟩:=Prod.mk.inj h1
  cases hg:VN d a r.col with
  | none=>
   rw [hg] at h2
   have:gb=false:=(congrArg (fun q=>q.2.2) h2).symm
   subst this
   simp
  | some q=>
   obtain ⟨x,y⟩:=q
   rw [hg] at h2
   obtain ⟨rfl,h3⟩:=Prod.mk.inj h2
   obtain ⟨rfl,rfl⟩:=Prod.mk.inj h3
   simp only [Bool.and_eq_true,decide_eq_true_eq,true_and]
   constructor
   ·rintro ⟨a1,⟨a2,a3⟩,a4⟩;exact ⟨a1,by omega,by omega,by omega⟩
   ·rintro ⟨a1,a2,a3,a4⟩;exact ⟨a1,⟨by omega,by omega⟩,by omega⟩
theorem ZhJ (M:Nat→Prop) (w:World) (hM:∀ b,M b→b<w.heap.size) (a:Ac) (col:ByteArray) (d:Nat) (ha:Ro w M (AcIn (d+1) a)) (hn:a.wh.n≤9223372036854775807):Calls Tryz.prog 112 #[a.val,.string col] w fun r w' =>r=.returned (.tuple #[.int .i64 (Xn (d+1) a col).1,.int .i64 (Xn (d+1) a col).2.1,.bool (Xn (d+1) a col).2.2])∧Below w.heap.size w w' :=by
 match hl:a.wh.l with
 | []=>
  have h0:a.wh.n=0:=by
   have h2:ExsIn (d+1) a.wh.A a.wh.n a.wh.l w:=ha.now.2.2.2
   have:=h2.len
   rw [hl] at this
   exact this.symm
  have hr:Xn (d+1) a col=(0,0,false):=by simp [Xn,VN,hl]
  rw [hr]
  exact ZhF w a col h0
 | x::l=>exact ZhG M w hM a col d ha hn x l hl
theorem Zja (M:Nat→Prop) (w:World) (hM:∀ b,M b→b<w.heap.size) (t:Tg) (r:Rk) (d:Nat) (ht:Ro w M (AcsIn (d+1) t.acts.A t.acts.n t.acts.l)) (hn:t.acts.n≤9223372036854775807) (hok:∀ a∈t.acts.l,a.sets.n≤9223372036854775807∧a.wh.n≤9223372036854775807):Calls Tryz.prog 72 #[t.val,r.val] w fun e w' =>e=.returned (.bool (Wh (d+1) t r))∧Below w.heap.size w w' :=by
 obtain ⟨tname,ttab,tbef,tev,⟨cA,cn,cc,cl⟩,teach,⟨pA,pn,pc,pl⟩,⟨fA,fn,fc,fl⟩,⟨kA,kn,kc,kl⟩,⟨oA,on,oc,ol⟩,⟨uA,un,uc,ul⟩⟩:=t
 obtain ⟨rtab,rcol,rlo,rhi⟩:=r
 simp only [Tg.val,Rk.val,Wh] at ht hn hok ⊢
 have HL:=hid ht.now.len
 have HOK:=hid hok
 have K0:=(((Hold.start M w hM).add (ht.less (by simp [Mut]))).Za #[.string tname,.string ttab,.bool tbef,.int .i64 tev,.slice cA cn cc,.bool teach,.slice pA pn pc,.slice fA fn fc,.slice kA kn kc,.slice oA on oc,.slice uA un uc] 48).Za #[.string rtab,.string rcol,.int .i64 rlo,.int .i64 rhi] 27
 simp only [World.size_alloc] at K0
 have F0:=K0.facts
 simp only [zg] at F0
 clear ht hok
 go_enter Tryz.func72,Tryz.ntmps72
 go_wp2_with fail
 clear F0
 go_loopw [15] (fun i wr=>∃ k:Nat,k≤un∧i=.int .i64 k∧Hid (ul.all (WU (d+1) ⟨rtab,rcol,rlo,rhi⟩)=(ul.drop k).all (WU (d+1) ⟨rtab,rcol,rlo,rhi⟩))∧Hold M none w wr [.cst (w.heap.size+1) 27 #[.string rtab,.string rcol,.int .i64 rlo,.int .i64 rhi],.cst w.heap.size 48 #[.string tname,.string ttab,.bool tbef,.int .i64 tev,.slice cA cn cc,.bool teach,.slice pA pn pc,.slice fA fn fc,.slice kA kn kc,.slice oA on oc,.slice uA un uc],.ro (AcsIn (d+1) uA un ul)]) (fun i _=>un - (intOf i).toNat)
 case atStart=>exact ⟨0,by omega,rfl,hid rfl,K0⟩
 case round=>
  clear K0
  obtain ⟨k,hk,rfl,HF,H⟩:=hrel
  by_cases hlt:k<un
  ·obtain ⟨⟨ak,atab,⟨arA,arn,arc,arl⟩,⟨aqA,aqn,aqc,aql⟩,⟨asA,asn,asc,asl⟩,⟨awA,awn,awc,awl⟩,atext⟩,hc⟩:=Ya HL.out hlt
   obtain ⟨b,o,rfl,hb,hcl,-⟩:=(H.ro 2 rfl).now.at_ hc
   have c0:=hcl 0 _ (by omega) rfl
   have c1:=hcl 1 _ (by omega) rfl
   have c2:=hcl 2 _ (by omega) rfl
   have c3:=hcl 3 _ (by omega) rfl
   have c4:=hcl 4 _ (by omega) rfl
   have c5:=hcl 5 _ (by omega) rfl
   have c6:=hcl 6 _ (by omega) rfl
   simp only [Nat.add_zero] at c0
   simp only [SlP.v] at c2 c3 c4 c5
   clear hcl
   have HC:=hid hc;clear hc
   have HO:=HOK.out _ (Ka HC.out)
   simp only at HO
   have K1:=(H.add (S:=AcIn (d+1) ⟨ak,atab,⟨arA,arn,arc,arl⟩,⟨aqA,aqn,aqc,aql⟩,⟨asA,asn,asc,asl⟩,⟨awA,awn,awc,awl⟩,atext⟩) ((H.ro 2 rfl).imp fun w2 h2=>h2.2 _ (Ka HC.out))).Za #[.int .i64 ak,.string atab,.slice arA arn arc,.slice aqA aqn aqc,.slice asA asn asc,.slice awA awn awc,.string atext] 44
   have F1:=K1.facts
   simp only [zg] at F1
   by_cases h4:ak=4
   ·have HW:=hid (show WU (d+1) ⟨rtab,rcol,rlo,rhi⟩ ⟨ak,atab,⟨arA,arn,arc,arl⟩,⟨aqA,aqn,aqc,aql⟩,⟨asA,asn,asc,asl⟩,⟨awA,awn,awc,awl⟩,atext⟩=true by simp [WU,h4])
    subst h4
    go_wp2_with fail
    go_roundw
    case rel=>exact ⟨k+1,by omega,by go_num,hid (VJ HC.out HW.out HF.out),K1.drop (Ke _ (Ke _ (KR _)))⟩
    case measure=>simp [intOf];omega
   ·obtain ⟨⟨lk,lb⟩,h1⟩:∃ q,Xg ⟨ak,atab,⟨arA,arn,arc,arl⟩,⟨aqA,aqn,aqc,aql⟩,⟨asA,asn,asc,asl⟩,⟨awA,awn,awc,awl⟩,atext⟩ rcol=q:=⟨_,rfl⟩
    obtain ⟨⟨glo,ghi,gb⟩,h2⟩:∃ q,Xn (d+1) ⟨ak,atab,⟨arA,arn,arc,arl⟩,⟨aqA,aqn,aqc,aql⟩,⟨asA,asn,asc,asl⟩,⟨awA,awn,awc,awl⟩,atext⟩ rcol=q:=⟨_,rfl⟩
    have HW:=hid (Zi9 (r:=⟨rtab,rcol,rlo,rhi⟩) h1 h2 h4)
    have hc1:=Zb1 _ _ K1.Zb ⟨ak,atab,⟨arA,arn,arc,arl⟩,⟨aqA,aqn,aqc,aql⟩,⟨asA,asn,asc,asl⟩,⟨awA,awn,awc,awl⟩,atext⟩ rcol d (K1.ro 1 rfl) HO.1
    rw [h1] at hc1
    have H2:=hid h2
    clear h1 h2
    go_wp2_with fail
    refine hc1.mono ?_
    rintro e w1 ⟨rfl,b1⟩
    have K2:=K1.call b1
    clear K1 F1 b1 c0 c1 c2 c3 c4 c5 c6
    have F2:=K2.facts
    simp only [zg] at F2
    have hc2:=ZhJ _ _ K2.Zb ⟨ak,atab,⟨arA,arn,arc,arl⟩,⟨aqA,aqn,aqc,aql⟩,⟨asA,asn,asc,asl⟩,⟨awA,awn,awc,awl⟩,atext⟩ rcol d (K2.ro 1 rfl) HO.2
    rw [H2.out] at hc2
    go_wp2_with fail
    refine hc2.mono ?_
    rintro e w2 ⟨rfl,b2⟩
    have K3:=K2.call b2
    clear K2 F2 b2 H2 hc2 hc1
    have F3:=K3.facts
    simp only [zg] at F3
    go_wp2_with fail
    all_goals clear F3
    all_goals first
     | (refine ⟨⟨k+1,by omega,by go_num,hid (VJ HC.out (HW.out.2 ⟨by assumption,by assumption,by omega,by assumption,by omega,by omega⟩) HF.out),K3.drop (List.Sublist.cons _ (List.Sublist.cons _ (List.Sublist.refl _)))⟩,by simp [intOf];omega⟩)
     | (go_ret;exact ⟨by rw [QM HC.out (Bool.eq_false_iff.2 fun hw=>by obtain ⟨q1,q2,q3,q4,q5,q6⟩:=HW.out.1 hw;first|contradiction|omega)]<;>rfl,K3.below⟩)
  ·have F:=H.facts
   simp only [zg] at F
   have hks:k=un:=by omega
   go_wp2_with fail
   go_ret
   exact ⟨by rw [HF.out,List.drop_eq_nil_of_le (by rw [HL.out];omega)]<;>rfl,H.below⟩
end
section
open Go.RowKit
def exW:Nat→Ex→Nat
 | 0,_=>1
 | d+1,e=>1+(e.args.map (exW d)).sum+(e.sub.map fun q=>1+(q.items.map (exW d)).sum+(q.wh.map (exW d)).sum).sum
def ZK (d:Nat) (l:List Ex):Nat:=(l.map (exW d)).sum
def quW (d:Nat) (q:Qu):Nat:=1+ZK d q.items+ZK d q.wh
def YT (d:Nat) (l:List Qu):Nat:=(l.map (quW d)).sum
theorem QZ (d:Nat) (e:Ex):exW (d+1) e=1+ZK d e.args+YT d e.sub:=rfl
theorem Zg4 (d:Nat) (e:Ex):1≤exW d e:=by
 cases d with
 | zero=>exact Kg _
 | succ d=>rw [QZ];omega
theorem Qg {α:Type} {f:α→Nat} (h:∀ x,1≤f x):∀ l:List α,l.length≤(l.map f).sum
 | []=>Kg _
 | x::l=>by have:=Qg h l;have:=h x;simp only [List.length_cons,List.map_cons,List.sum_cons];omega
theorem Zg5 (d:Nat) (l:List Ex):l.length≤ZK d l:=Qg (Zg4 d) l
theorem Zjw (d:Nat) (l:List Qu):l.length≤YT d l:=Qg (fun q=>by unfold quW;omega) l
theorem Qs {α:Type} {f:α→Nat} {l:List α} {k:Nat} {x:α} (hx:l[k]? =some x):((l.take (k+1)).map f).sum=((l.take k).map f).sum+f x:=by
 rw [Kq,hx];simp
theorem Qt {α:Type} {f:α→Nat} (l:List α) (k:Nat):((l.take k).map f).sum≤(l.map f).sum:=by
 have h:((l.take k++l.drop k).map f).sum=(l.map f).sum:=by rw [List.take_append_drop]
 rw [Km,List.sum_append] at h
 omega
def QusIn (d:Nat) (A:Option Addr) (n:Nat) (l:List Qu) (w:World):Prop:=SlR 4 A n (Qm l) w∧∀ q∈l,QuIn d q w
theorem QusIn.len {d:Nat} {A:Option Addr} {n:Nat} {l:List Qu} {w:World} (h:QusIn d A n l w):l.length=n:=SlP.In.len (s:=⟨A,n,0,l⟩) (k:=4) (cel:=Qu.cells) (P:=QuIn d) h (by omega) (fun _=>rfl)
theorem QusIn.at_ {d:Nat} {w:World} {A:Option Addr} {n:Nat} {l:List Qu} (h:QusIn d A n l w) {k:Nat} {x:Qu} (hx:l[k]? =some x):
  ∃ b o,A=some ⟨b,o,none⟩∧b<w.heap.size∧(∀ j u,j<4→x.cells[j]? =some u→w.cell? ⟨b,o+k * 4+j,none⟩=some u)∧QuIn d x w:=SlP.In.at_ (s:=⟨A,n,0,l⟩) (k:=4) (cel:=Qu.cells) (P:=QuIn d) h (by omega) (fun _=>rfl) hx
def NmSt (M:Nat→Prop) (row:Option Nat) (w0 w:World) (g k:Nat) (L:List Hp):Prop:=
 ∃ (B:Option Addr) (m c:Nat) (xs:List ByteArray),m≤k∧Hold M row w0 w (.blk g 46 #[.slice B m c]::.own 9 1 (.slice B m c) m (Zv xs)::L)
section
variable {M:Nat→Prop} {row:Option Nat} {w0 w:World} {g k:Nat} {L:List Hp}
theorem NmSt.le (h:NmSt M row w0 w g k L) {k' :Nat} (hk:k≤k'):NmSt M row w0 w g k' L:=by
 obtain ⟨B,m,c,xs,hm,K⟩:=h
 exact ⟨B,m,c,xs,by omega,K⟩
theorem NmSt.XJ (h:NmSt M row w0 w g k L) (i:Nat) {S S' :World→Prop} (hi:L[i]? =some (.ro S)) (hs:∀ w,S w→S' w):NmSt M row w0 w g k (.ro S' ::L):=by
 obtain ⟨B,m,c,xs,hm,K⟩:=h
 exact ⟨B,m,c,xs,hm,(K.add ((K.ro (i+2) (by simpa using hi)).imp hs)).zy 2⟩
theorem NmSt.cst (h:NmSt M row w0 w g k L) (cs:Array Value) (t:TypeId):NmSt M row w0 (w.alloc (.cells cs t)) g k (.cst w.heap.size t cs::L):=by
 obtain ⟨B,m,c,xs,hm,K⟩:=h
 exact ⟨B,m,c,xs,hm,(K.Za cs t).zy 2⟩
theorem NmSt.drop (h:NmSt M row w0 w g k L) {L' :List Hp} (hL:List.Sublist L' L):NmSt M row w0 w g k L' :=by
 obtain ⟨B,m,c,xs,hm,K⟩:=h
 exact ⟨B,m,c,xs,hm,K.drop (hL.cons_cons _|>.cons_cons _)⟩
theorem NmSt.factsL (h:NmSt M row w0 w g k L):factsL w L:=by
 obtain ⟨B,m,c,xs,hm,K⟩:=h
 exact (K.drop (L' :=L) (Ke _ (Ke _ (KR _)))).facts
theorem NmSt.ro (h:NmSt M row w0 w g k L) (i:Nat) {S:World→Prop} (hi:L[i]? =some (.ro S)):S w:=by
 obtain ⟨B,m,c,xs,hm,K⟩:=h
 exact (K.ro (i+2) (by simpa using hi)).now
end
abbrev Qp (g:Nat):Value:=.func (.func 149) #[] #[.pointer (some ⟨g,0,none⟩)]
theorem Zko {M:Nat→Prop} {row:Option Nat} {w0 w:World} {g k:Nat} {L:List Hp} (h:NmSt M row w0 w g k L) (e:Ex) (hk:k<4398046511104):Calls Tryz.prog 149 #[e.val,.pointer (some ⟨g,0,none⟩)] w fun r w' =>r=.returned (.bool true)∧NmSt M row w0 w' g (k+1) L:=by
 obtain ⟨P,q,cap,xs,hq,K⟩:=h
 obtain ⟨ek,eop,ent,⟨evk,evi,evs⟩,etab,enm,eA,en,ec,eargs,eB,em,ed,esub⟩:=e
 simp only [Ex.val]
 have K1:=K.Za #[.int .i64 ek,.int .i64 eop,.bool ent,.int .i64 evk,.int .i64 evi,.string evs,.string etab,.string enm,.slice eA en ec,.slice eB em ed] 34
 have F1:=(K1.drop (L' :=[_,_]) (Ki _ (Ki _ (KV _)))).facts
 simp only [zg] at F1
 have HCE:=hid (show Zv xs++(#[Value.string enm]).toList=Zv (xs++[enm]) by simp [Zv])
 by_cases h2:ek=2∧etab=⟨#[78,69,87]⟩
 ·obtain ⟨rfl,rfl⟩:=h2
  go_enter Tryz.func149,Tryz.ntmps149
  go_wp2_with (at_builtin;go_must (refine ZJ K1 2 rfl Tryz.QV #[.string enm] rfl (.tmp 12) (.tmp 15) rfl rfl _ (by first|rfl|simp) rfl rfl (by intro u hu;simp at hu;rcases hu with rfl;rfl) (by omega) (by omega) ?_);intro g9 cap9 w9 hc9 hm9 KB;rw [HCE.out] at KB;simp only [zl] at KB;have FB:=(KB.drop (L' :=[_,_]) (Ki _ (Ki _ (KV _)))).facts;simp only [zg] at FB)
  have KC:=(KB.store 1 rfl 0 (.slice (some ⟨g9,0,none⟩) (q+1) cap9)).drop (Kb _ _)
  simp only [zl] at KC
  go_ret
  exact ⟨by first|rfl|simp,_,q+1,cap9,_,by omega,KC⟩
 ·have KC:=K1.drop (Kb _ _)
  by_cases h3:ek=2
  ·subst h3
   have h4:(etab.toList==[78,69,87])=false:=by
    rw [Bool.eq_false_iff]
    intro h
    exact h2 ⟨rfl,Yc (by rw [ByteArray.toList_eq,ByteArray.toList_eq] at *;simpa using h)⟩
   clear h2
   go_enter Tryz.func149,Tryz.ntmps149
   go_wp2_with fail
   go_ret
   exact ⟨by first|rfl|simp,_,q,cap,_,by omega,KC⟩
  ·clear h2
   go_enter Tryz.func149,Tryz.ntmps149
   go_wp2_with fail
   all_goals first
    | (exfalso;omega)
    | (go_ret;exact ⟨by first|rfl|simp,_,q,cap,_,by omega,KC⟩)
def Ui (d:Nat):Prop:=∀ (M:Nat→Prop) (row:Option Nat) (w0 w:World) (g k:Nat) (L:List Hp) (A:Option Addr) (n c:Nat) (l:List Ex),NmSt M row w0 w g k (.ro (ExsIn d A n l)::L)→k+ZK d l≤4398046511104→
 Calls Tryz.prog 179 #[Qp g,.slice A n c] w fun r w' =>r=.returned (.bool true)∧NmSt M row w0 w' g (k+ZK d l) (.ro (ExsIn d A n l)::L)
def Gc (d:Nat):Prop:=∀ (M:Nat→Prop) (row:Option Nat) (w0 w:World) (g k:Nat) (L:List Hp) (A:Option Addr) (n c:Nat) (l:List Qu),NmSt M row w0 w g k (.ro (QusIn d A n l)::L)→k+YT d l≤4398046511104→
 Calls Tryz.prog 209 #[Qp g,.slice A n c] w fun r w' =>r=.returned (.bool true)∧NmSt M row w0 w' g (k+YT d l) (.ro (QusIn d A n l)::L)
theorem ZdF {d:Nat} (hE:Ui d):Gc d:=by
 intro M row w0 w g k L A n c l h hk
 have HL:=hid (h.ro 0 rfl).len
 have hn:n≤4398046511104:=by have:=Zjw d l;have:=(h.ro 0 rfl).len;omega
 have HK:=hid hk
 clear hk
 go_enter Tryz.func209,Tryz.ntmps209
 go_wp2_with fail
 go_loopw [9] (fun iv wr=>∃ (j:Nat),j≤n∧iv=.int .i64 j∧NmSt M row w0 wr g (k+YT d (l.take j)) (.ro (QusIn d A n l)::L)) (fun iv _=>n - (intOf iv).toNat)
 case atStart=>exact ⟨0,by omega,rfl,h⟩
 case round=>
  clear h
  obtain ⟨j,hj,rfl,H⟩:=hrel
  by_cases hlt:j<n
  ·obtain ⟨⟨st,xA,xn,xc,items,src,xB,xm,xd,wh⟩,hc⟩:=Ya HL.out hlt
   obtain ⟨b,o,rfl,hb,hcl,-⟩:=(H.ro 0 rfl).at_ hc
   have c0:=hcl 0 _ (by omega) rfl
   have c1:=hcl 1 _ (by omega) rfl
   have c2:=hcl 2 _ (by omega) rfl
   have c3:=hcl 3 _ (by omega) rfl
   simp only [Nat.add_zero] at c0
   clear hcl
   have HS:=hid (show YT d (l.take (j+1))=YT d (l.take j)+(1+ZK d items+ZK d wh) from Qs hc)
   have HT:=hid (show YT d (l.take (j+1))≤YT d l from Qt l (j+1))
   have HM:=hid (Ka hc)
   clear hc
   have H0:=H.cst #[.bool st,.slice xA xn xc,.string src,.slice xB xm xd] 184
   have H1:=H0.XJ 1 (S' :=ExsIn d xA xn items) rfl (fun w2 h2=>(h2.2 _ HM.out).1)
   have F1:=(H1.drop (L' :=[_,_]) (Ki _ (Ki _ (KV _)))).factsL
   simp only [zg] at F1
   clear H H0
   go_wp2_with fail
   refine (hE _ _ _ _ _ _ _ _ _ _ _ H1 (by have:=HK.out;have:=HS.out;have:=HT.out;omega)).mono ?_
   rintro e w1 ⟨rfl,H2⟩
   have H3:=H2.XJ 2 (S' :=ExsIn d xB xm wh) rfl (fun w2 h2=>(h2.2 _ HM.out).2)
   have F3:=(H3.drop (L' :=[_,_,_]) (Ki _ (Ki _ (Ki _ (KV _))))).factsL
   simp only [zg] at F3
   clear H1 H2 F1 c0 c1 c2 c3
   go_wp2_with fail
   refine (hE _ _ _ _ _ _ _ _ _ _ _ H3 (by have:=HK.out;have:=HS.out;have:=HT.out;omega)).mono ?_
   rintro e w2 ⟨rfl,H4⟩
   clear H3 F3
   go_wp2_with fail
   go_roundw
   case rel=>exact ⟨j+1,by omega,by go_num,(H4.drop (Ke _ (Ke _ (Ke _ (KR _))))).le (by have:=HS.out;omega)⟩
   case measure=>simp [intOf];omega
  ·have hjn:j=n:=by omega
   rw [Kh (by rw [HL.out];omega)] at H
   go_wp2_with fail
   go_ret
   exact ⟨by first|rfl|simp,H⟩
theorem ZdE {d:Nat} (hD:∀ e,d=e+1→Ui e∧Gc e):Ui d:=by
 intro M row w0 w g k L A n c l h hk
 have HL:=hid (h.ro 0 rfl).len
 have hn:n≤4398046511104:=by have:=Zg5 d l;have:=(h.ro 0 rfl).len;omega
 have HK:=hid hk
 clear hk
 go_enter Tryz.func179,Tryz.ntmps179
 go_wp2_with fail
 go_loopw [9] (fun iv wr=>∃ (j:Nat),j≤n∧iv=.int .i64 j∧NmSt M row w0 wr g (k+ZK d (l.take j)) (.ro (ExsIn d A n l)::L)) (fun iv _=>n - (intOf iv).toNat)
 case atStart=>exact ⟨0,by omega,rfl,h⟩
 case round=>
  clear h
  obtain ⟨j,hj,rfl,H⟩:=hrel
  by_cases hlt:j<n
  ·obtain ⟨⟨xk,xop,xnt,⟨xvk,xvi,xvs⟩,xtab,xnm,xA,xn,xc,xargs,xB,xm,xd,xsub⟩,hc⟩:=Ya HL.out hlt
   obtain ⟨b,o,rfl,hb,hcl,hin⟩:=(H.ro 0 rfl).at_ hc
   obtain _|d:=d
   ·exact hin.elim
   clear hin
   obtain ⟨hE,hQ⟩:=hD d rfl
   have c0:=hcl 0 _ (by omega) rfl
   have c1:=hcl 1 _ (by omega) rfl
   have c2:=hcl 2 _ (by omega) rfl
   have c3:=hcl 3 _ (by omega) rfl
   have c4:=hcl 4 _ (by omega) rfl
   have c5:=hcl 5 _ (by omega) rfl
   have c6:=hcl 6 _ (by omega) rfl
   have c7:=hcl 7 _ (by omega) rfl
   have c8:=hcl 8 _ (by omega) rfl
   have c9:=hcl 9 _ (by omega) rfl
   simp only [Nat.add_zero] at c0
   clear hcl
   have HS:=hid (show ZK (d+1) (l.take (j+1))=ZK (d+1) (l.take j)+(1+ZK d xargs+YT d xsub) from Qs hc)
   have HT:=hid (show ZK (d+1) (l.take (j+1))≤ZK (d+1) l from Qt l (j+1))
   have HM:=hid (Ka hc)
   clear hc
   have H1:=H.cst #[.int .i64 xk,.int .i64 xop,.bool xnt,.int .i64 xvk,.int .i64 xvi,.string xvs,.string xtab,.string xnm,.slice xA xn xc,.slice xB xm xd] 34
   have F1:=(H1.drop (L' :=[_,_]) (Ki _ (Ki _ (KV _)))).factsL
   simp only [zg] at F1
   clear H
   go_wp2_with fail
   refine (Zko H1 ⟨xk,xop,xnt,⟨xvk,xvi,xvs⟩,xtab,xnm,xA,xn,xc,xargs,xB,xm,xd,xsub⟩ (by have:=HK.out;have:=HS.out;have:=HT.out;omega)).mono ?_
   rintro e w1 ⟨rfl,H2⟩
   have H3:=H2.XJ 1 (S' :=ExsIn d xA xn xargs) rfl (fun w2 h2=>(ExIn.succ.1 (h2.2 _ HM.out)).1)
   have F3:=(H3.drop (L' :=[_,_]) (Ki _ (Ki _ (KV _)))).factsL
   simp only [zg] at F3
   clear H1 H2 F1 c0 c1 c2 c3 c4 c5 c6 c7 c8 c9
   go_wp2_with fail
   refine (hE _ _ _ _ _ _ _ _ _ _ _ H3 (by have:=HK.out;have:=HS.out;have:=HT.out;omega)).mono ?_
   rintro e w2 ⟨rfl,H4⟩
   have H5:=H4.XJ 2 (S' :=QusIn d xB xm xsub) rfl (fun w2 h2=>(ExIn.succ.1 (h2.2 _ HM.out)).2)
   have F5:=(H5.drop (L' :=[_,_,_]) (Ki _ (Ki _ (Ki _ (KV _))))).factsL
   simp only [zg] at F5
   clear H3 H4 F3
   go_wp2_with fail
   refine (hQ _ _ _ _ _ _ _ _ _ _ _ H5 (by have:=HK.out;have:=HS.out;have:=HT.out;omega)).mono ?_
   rintro e w3 ⟨rfl,H6⟩
   clear H5 F5
   go_wp2_with fail
   go_roundw
   case rel=>exact ⟨j+1,by omega,by go_num,(H6.drop (Ke _ (Ke _ (Ke _ (KR _))))).le (by have:=HS.out;omega)⟩
   case measure=>simp [intOf];omega
  ·have hjn:j=n:=by omega
   rw [Kh (by rw [HL.out];omega)] at H
   go_wp2_with fail
   go_ret
   exact ⟨by first|rfl|simp,H⟩
theorem UD:∀ d,Ui d∧Gc d
 | 0=>have h:Ui 0:=ZdE (fun e he=>by omega)
  ⟨h,ZdF h⟩
 | d+1=>have h:Ui (d+1):=ZdE (fun e he=>by
   obtain rfl:d=e:=by omega
   exact UD d)
  ⟨h,ZdF h⟩
end
section
open Go.RowKit
def rrW (d:Nat) (l:List (SlP Ex)):Nat:=(l.map fun r=>1+ZK d r.l).sum
def Wl (d:Nat) (l:List Se):Nat:=(l.map fun s=>1+exW d s.e).sum
def acW (d:Nat) (a:Ac):Nat:=1+rrW d a.rows.l+Wl d a.sets.l+YT d a.qs.l+ZK d a.wh.l
def WF (d:Nat) (l:List Ac):Nat:=(l.map (acW d)).sum
def RrsIn (d:Nat) (A:Option Addr) (n:Nat) (l:List (SlP Ex)) (w:World):Prop:=SlR 1 A n (l.flatMap fun r=>[r.v]) w∧∀ r∈l,ExsIn d r.A r.n r.l w
theorem RrsIn.len {d:Nat} {A:Option Addr} {n:Nat} {l:List (SlP Ex)} {w:World} (h:RrsIn d A n l w):l.length=n:=SlP.In.len (s:=⟨A,n,0,l⟩) (k:=1) (cel:=fun r=>[r.v]) (P:=fun r w=>ExsIn d r.A r.n r.l w) h (by omega) (fun _=>rfl)
theorem RrsIn.at_ {d:Nat} {w:World} {A:Option Addr} {n:Nat} {l:List (SlP Ex)} (h:RrsIn d A n l w) {k:Nat} {x:SlP Ex} (hx:l[k]? =some x):
  ∃ b o,A=some ⟨b,o,none⟩∧b<w.heap.size∧w.cell? ⟨b,o+k,none⟩=some (.slice x.A x.n x.c)∧ExsIn d x.A x.n x.l w:=by
 obtain ⟨b,o,e,hb,hc,hx⟩:=SlP.In.at_ (s:=⟨A,n,0,l⟩) (k:=1) (cel:=fun r=>[r.v]) (P:=fun r w=>ExsIn d r.A r.n r.l w) h (by omega) (fun _=>rfl) hx
 have h0:=hc 0 _ (by omega) rfl
 simp only [Nat.mul_one,Nat.add_zero] at h0
 exact ⟨b,o,e,hb,h0,hx⟩
theorem AcIn.parts {d:Nat} {a:Ac} {w:World} (h:AcIn d a w):RrsIn d a.rows.A a.rows.n a.rows.l w∧QusIn d a.qs.A a.qs.n a.qs.l w∧SesIn d a.sets.A a.sets.n a.sets.l w∧ExsIn d a.wh.A a.wh.n a.wh.l w:=h
theorem Zkv (d:Nat) (l:List (SlP Ex)):l.length≤rrW d l:=Qg (fun q=>by omega) l
theorem Zlc (d:Nat) (l:List Se):l.length≤Wl d l:=Qg (fun q=>by omega) l
theorem NmSt.ZeL {M:Nat→Prop} {row:Option Nat} {w0 w:World} {g k:Nat} {L:List Hp} (h:NmSt M row w0 w g k L) {S' :World→Prop} (hs:∀ (B:Option Addr) (m c:Nat) (xs:List ByteArray),Hold M row w0 w (.blk g 46 #[.slice B m c]::.own 9 1 (.slice B m c) m (Zv xs)::L)→Ro w (Mut M (.blk g 46 #[.slice B m c]::.own 9 1 (.slice B m c) m (Zv xs)::L)) S'):NmSt M row w0 w g k (.ro S' ::L):=by
 obtain ⟨B,m,c,xs,hm,K⟩:=h
 exact ⟨B,m,c,xs,hm,(K.add (hs B m c xs K)).zy 2⟩
theorem Zmh (M:Nat→Prop) (row:Option Nat) (w0 w:World) (g k:Nat) (L:List Hp) (d:Nat) (a:Ac) (h:NmSt M row w0 w g k (.ro (AcIn d a)::L)) (hk:k+acW d a≤4398046511104):
  Calls Tryz.prog 180 #[Qp g,a.val] w fun r w' =>r=.returned (.bool true)∧NmSt M row w0 w' g (k+acW d a) (.ro (AcIn d a)::L):=by
 obtain ⟨hR,hQ,hS,hW⟩:=(h.ro 0 rfl).parts
 obtain ⟨ak,atab,⟨arA,arn,arc,arl⟩,⟨aqA,aqn,aqc,aql⟩,⟨asA,asn,asc,asl⟩,⟨awA,awn,awc,awl⟩,atext⟩:=a
 simp only [Ac.val,acW] at hR hQ hS hW hk ⊢
 have HLR:=hid hR.len
 have HLS:=hid hS.len
 have hrn:arn≤4398046511104:=by have:=Zkv d arl;have:=hR.len;omega
 have hsn:asn≤4398046511104:=by have:=Zlc d asl;have:=hS.len;omega
 clear hR hQ hS hW
 have HK:=hid hk
 clear hk
 have H1:=(h.XJ 0 (S' :=RrsIn d arA arn arl) rfl (fun w2 h2=>h2.parts.1)).cst #[.int .i64 ak,.string atab,.slice arA arn arc,.slice aqA aqn aqc,.slice asA asn asc,.slice awA awn awc,.string atext] 44
 have F1:=(H1.drop (L' :=[_]) (Ki _ (KV _))).factsL
 simp only [zg] at F1
 clear h
 go_enter Tryz.func180,Tryz.ntmps180
 go_wp2_with fail
 clear F1
 go_loopw [12,6] (fun iv _ wr=>∃ (j:Nat),j≤arn∧iv=.int .i64 j∧NmSt M row w0 wr g (k+rrW d (arl.take j)) (.cst w.heap.size 44 #[.int .i64 ak,.string atab,.slice arA arn arc,.slice aqA aqn aqc,.slice asA asn asc,.slice awA awn awc,.string atext]::.ro (RrsIn d arA arn arl)::.ro (AcIn d ⟨ak,atab,⟨arA,arn,arc,arl⟩,⟨aqA,aqn,aqc,aql⟩,⟨asA,asn,asc,asl⟩,⟨awA,awn,awc,awl⟩,atext⟩)::L)) (fun iv _ _=>arn - (intOf iv).toNat)
 case atStart=>exact ⟨0,by omega,rfl,H1⟩
 case round=>
  clear H1
  obtain ⟨j,hj,rfl,H⟩:=hrel
  by_cases hlt:j<arn
  ·obtain ⟨⟨xA,xn,xc,xl⟩,hc⟩:=Ya HLR.out hlt
   obtain ⟨b,o,rfl,hb,c0,-⟩:=(H.ro 1 rfl).at_ hc
   have HS:=hid (show rrW d (arl.take (j+1))=rrW d (arl.take j)+(1+ZK d xl) from Qs hc)
   have HT:=hid (show rrW d (arl.take (j+1))≤rrW d arl from Qt arl (j+1))
   have HM:=hid (Ka hc)
   clear hc
   have H3:=H.XJ 1 (S' :=ExsIn d xA xn xl) rfl (fun w2 h2=>h2.2 _ HM.out)
   clear H
   go_wp2_with fail
   refine ((UD d).1 _ _ _ _ _ _ _ _ _ _ _ H3 (by have:=HK.out;have:=HS.out;have:=HT.out;omega)).mono ?_
   rintro e w1 ⟨rfl,H4⟩
   clear H3
   go_wp2_with fail
   go_roundw
   case rel=>exact ⟨j+1,by omega,by go_num,(H4.drop (Kb _ _)).le (by have:=HS.out;omega)⟩
   case measure=>simp [intOf];omega
  ·obtain rfl:arn=j:=by omega
   rw [Kh (by rw [HLR.out];exact Kg _)] at H
   have H2:=((H.XJ 2 (S' :=SesIn d asA asn asl) rfl (fun w2 h2=>h2.parts.2.2.1)).drop (L' :=.ro (SesIn d asA asn asl)::.cst w.heap.size 44 #[.int .i64 ak,.string atab,.slice arA arn arc,.slice aqA aqn aqc,.slice asA asn asc,.slice awA awn awc,.string atext]::.ro (AcIn d ⟨ak,atab,⟨arA,arn,arc,arl⟩,⟨aqA,aqn,aqc,aql⟩,⟨asA,asn,asc,asl⟩,⟨awA,awn,awc,awl⟩,atext⟩)::L) (Ki _ (Ki _ (Kb _ _))))
   have F2:=(H2.drop (L' :=[_,_]) (Ki _ (Ki _ (KV _)))).factsL
   simp only [zg] at F2
   clear H
   go_wp2_with fail
   clear F2
   go_loopw [24,8] (fun iv _ wr=>∃ (j:Nat),j≤asn∧iv=.int .i64 j∧NmSt M row w0 wr g (k+rrW d arl+Wl d (asl.take j)) (.ro (SesIn d asA asn asl)::.cst w.heap.size 44 #[.int .i64 ak,.string atab,.slice arA arn arc,.slice aqA aqn aqc,.slice asA asn asc,.slice awA awn awc,.string atext]::.ro (AcIn d ⟨ak,atab,⟨arA,arn,arc,arl⟩,⟨aqA,aqn,aqc,aql⟩,⟨asA,asn,asc,asl⟩,⟨awA,awn,awc,awl⟩,atext⟩)::L)) (fun iv _ _=>asn - (intOf iv).toNat)
   case atStart=>exact ⟨0,by omega,rfl,H2⟩
   case round=>
    clear H2
    obtain ⟨j2,hj2,rfl,H⟩:=hrel
    by_cases hlt2:j2<asn
    ·obtain ⟨⟨xcol,⟨xk,xop,xnt,⟨xvk,xvi,xvs⟩,xtab,xnm,xA,xn,xc,xargs,xB,xm,xd,xsub⟩⟩,hc⟩:=Ya HLS.out hlt2
     obtain ⟨b,o,rfl,hb,hcl,-⟩:=(H.ro 0 rfl).at_ hc
     have c0:=hcl 0 _ (by omega) rfl
     have c1:=hcl 1 _ (by omega) rfl
     have c2:=hcl 2 _ (by omega) rfl
     have c3:=hcl 3 _ (by omega) rfl
     have c4:=hcl 4 _ (by omega) rfl
     have c5:=hcl 5 _ (by omega) rfl
     have c6:=hcl 6 _ (by omega) rfl
     have c7:=hcl 7 _ (by omega) rfl
     have c8:=hcl 8 _ (by omega) rfl
     have c9:=hcl 9 _ (by omega) rfl
     have c10:=hcl 10 _ (by omega) rfl
     simp only [Nat.add_zero] at c0
     clear hcl
     have HS:=hid (show Wl d (asl.take (j2+1))=Wl d (asl.take j2)+(1+exW d ⟨xk,xop,xnt,⟨xvk,xvi,xvs⟩,xtab,xnm,xA,xn,xc,xargs,xB,xm,xd,xsub⟩) from Qs hc)
     have HT:=hid (show Wl d (asl.take (j2+1))≤Wl d asl from Qt asl (j2+1))
     have HM:=hid (Ka hc)
     clear hc
     have HA:=(H.cst #[.string xcol,.int .i64 xk,.int .i64 xop,.bool xnt,.int .i64 xvk,.int .i64 xvi,.string xvs,.string xtab,.string xnm,.slice xA xn xc,.slice xB xm xd] 39).cst #[.int .i64 xk,.int .i64 xop,.bool xnt,.int .i64 xvk,.int .i64 xvi,.string xvs,.string xtab,.string xnm,.slice xA xn xc,.slice xB xm xd] 34
     rw [KP] at HA
     have H3:=HA.ZeL (S' :=ExsIn d (some ⟨wr.heap.size+1,0,none⟩) 1 [⟨xk,xop,xnt,⟨xvk,xvi,xvs⟩,xtab,xnm,xA,xn,xc,xargs,xB,xm,xd,xsub⟩]) (fun B m c xs K=>Qb (l:=[⟨xk,xop,xnt,⟨xvk,xvi,xvs⟩,xtab,xnm,xA,xn,xc,xargs,xB,xm,xd,xsub⟩]) (K.get 2 rfl) rfl (fun x hx=>by
      simp only [List.mem_cons,List.not_mem_nil,or_false] at hx
      subst hx
      exact (K.ro 4 rfl).imp fun w2 h2=>h2.2 _ HM.out))
     have H1:=H.cst #[.string xcol,.int .i64 xk,.int .i64 xop,.bool xnt,.int .i64 xvk,.int .i64 xvi,.string xvs,.string xtab,.string xnm,.slice xA xn xc,.slice xB xm xd] 39
     have F1:=(H1.drop (L' :=[_]) (Ki _ (KV _))).factsL
     simp only [zg] at F1
     clear H H1 HA
     go_wp2_with fail
     refine ((UD d).1 _ _ _ _ _ _ _ _ _ _ _ H3 (by have:=HK.out;have:=HS.out;have:=HT.out;simp only [ZK,List.map_cons,List.map_nil,List.sum_cons,List.sum_nil];omega)).mono ?_
     rintro e w1 ⟨rfl,H4⟩
     clear H3 F1
     go_wp2_with fail
     go_roundw
     case rel=>exact ⟨j2+1,by omega,by go_num,(H4.drop (Ke _ (Ke _ (Kb _ _)))).le (by have:=HS.out;simp only [ZK,List.map_cons,List.map_nil,List.sum_cons,List.sum_nil];omega)⟩
     case measure=>simp [intOf];omega
    ·obtain rfl:asn=j2:=by omega
     rw [Kh (by rw [HLS.out];exact Kg _)] at H
     have H3:=H.XJ 2 (S' :=QusIn d aqA aqn aql) rfl (fun w2 h2=>h2.parts.2.1)
     have F3:=(H3.drop (L' :=[_,_,_]) (Ki _ (Ki _ (Ki _ (KV _))))).factsL
     simp only [zg] at F3
     clear H
     go_wp2_with fail
     refine ((UD d).2 _ _ _ _ _ _ _ _ _ _ _ H3 (by have:=HK.out;omega)).mono ?_
     rintro e w1 ⟨rfl,H4⟩
     have H5:=H4.XJ 3 (S' :=ExsIn d awA awn awl) rfl (fun w2 h2=>h2.parts.2.2.2)
     have F5:=(H5.drop (L' :=[_,_,_,_]) (Ki _ (Ki _ (Ki _ (Ki _ (KV _)))))).factsL
     simp only [zg] at F5
     clear H3 H4 F3
     go_wp2_with fail
     refine ((UD d).1 _ _ _ _ _ _ _ _ _ _ _ H5 (by have:=HK.out;omega)).mono ?_
     rintro e w2 ⟨rfl,H6⟩
     clear H5 F5
     go_wp2_with fail
     go_ret
     exact ⟨by first|rfl|simp,(H6.drop (List.Sublist.cons _ (List.Sublist.cons _ (List.Sublist.cons _ (List.sublist_cons_self _ _))))).le (by omega)⟩
def ZQ (l:List Ac):List Se:=l.flatMap fun a=>if a.kind=5 then a.sets.l else []
theorem Zlf (t:Tg):(ZQ t.acts.l).map Se.col=YE t:=by
 unfold ZQ YE
 generalize t.acts.l=l
 induction l with
 | nil=>rfl
 | cons a l ih=>
  rw [List.flatMap_cons,List.flatMap_cons,Km,ih]
  split<;>rfl
theorem Zli {l:List Ac} {k:Nat} {x:Ac} (hx:l[k]? =some x):ZQ (l.take (k+1))=ZQ (l.take k)++(if x.kind=5 then x.sets.l else []):=by
 unfold ZQ
 rw [Kq,hx]
 simp
theorem Zlh {l:List Ac} (k:Nat):(ZQ (l.take k)).length≤(ZQ l).length:=by
 have h:ZQ (l.take k++l.drop k)=ZQ (l.take k)++ZQ (l.drop k):=by unfold ZQ;exact List.flatMap_append ..
 rw [List.take_append_drop] at h
 rw [h,List.length_append]
 omega
theorem Zlg {l:List Ac} {d:Nat} {w:World} (h:∀ a∈l,AcIn d a w):∀ s∈ZQ l,Yq d s w:=fun s hs=>by
 unfold ZQ at hs
 rw [List.mem_flatMap] at hs
 obtain ⟨a,ha,hs⟩:=hs
 split at hs
 ·exact (h a ha).parts.2.2.1.2 s hs
 ·exact nomatch hs
theorem Zi1 (l:List Se):∀ u∈l.flatMap Se.cells,u.oneCell' =true:=fun u hu=>by
 rw [List.mem_flatMap] at hu
 obtain ⟨x,_,hx⟩:=hu
 unfold Se.cells at hx
 rcases Kv.1 hx with rfl|hx
 ·rfl
 ·exact ZiX x.e u hx
theorem Tryz.ZgD:ElemT Tryz.prog 40 39 11 152 (.agg #[.string ⟨#[]⟩,.int .i64 0,.int .i64 0,.bool false,.int .i64 0,.int .i64 0,.string ⟨#[]⟩,.string ⟨#[]⟩,.string ⟨#[]⟩,.slice none 0 0,.slice none 0 0]):=⟨Tryz.underlying40,by kernel_rfl,rfl,by omega⟩
theorem Zhy (M:Nat→Prop) (w:World) (hM:∀ b,M b→b<w.heap.size) (t:Tg) (d:Nat) (ha:Ro w M (AcsIn d t.acts.A t.acts.n t.acts.l)) (hn:t.acts.n≤9223372036854775807) (hs:(ZQ t.acts.l).length≤549755813888):
  Calls Tryz.prog 152 #[t.val] w fun e w' =>∃ (A:Option Addr) (n c:Nat),e=.returned (.slice A n c)∧n≤549755813888∧Ro w' M (SesIn d A n (ZQ t.acts.l))∧Below w.heap.size w w' :=by
 obtain ⟨tname,ttab,tbef,tev,⟨cA,cn,cc,cl⟩,teach,⟨pA,pn,pc,pl⟩,⟨fA,fn,fc,fl⟩,⟨kA,kn,kc,kl⟩,⟨oA,on,oc,ol⟩,⟨uA,un,uc,ul⟩⟩:=t
 simp only [Tg.val] at ha hn hs ⊢
 have HL:=hid ha.now.len
 have HS:=hid hs
 have K0:=((Hold.start M w hM).add (ha.less (by simp [Mut]))).Za #[.string tname,.string ttab,.bool tbef,.int .i64 tev,.slice cA cn cc,.bool teach,.slice pA pn pc,.slice fA fn fc,.slice kA kn kc,.slice oA on oc,.slice uA un uc] 48
 have KN:=K0.nil 39 11
 have F0:=K0.facts
 simp only [zg] at F0
 clear ha hs
 go_enter Tryz.func152,Tryz.ntmps152
 go_wp2_with fail
 clear F0 K0
 go_loopw [3,9] (fun ov iv wr=>∃ (k q cap:Nat) (O:Option Addr),k≤un∧iv=.int .i64 k∧ov=.slice O q cap∧Hid (q=(ZQ (ul.take k)).length)∧Hold M none w wr [.own 39 11 (.slice O q cap) q ((ZQ (ul.take k)).flatMap Se.cells),.cst w.heap.size 48 #[.string tname,.string ttab,.bool tbef,.int .i64 tev,.slice cA cn cc,.bool teach,.slice pA pn pc,.slice fA fn fc,.slice kA kn kc,.slice oA on oc,.slice uA un uc],.ro (AcsIn d uA un ul)]) (fun _ i _=>un - (intOf i).toNat)
 case atStart=>exact ⟨0,0,0,none,by omega,rfl,rfl,hid rfl,KN⟩
 case round=>
  clear KN
  obtain ⟨k,q,cap,O,hk,rfl,rfl,HQ,H⟩:=hrel
  by_cases hlt:k<un
  ·obtain ⟨⟨ak,atab,⟨arA,arn,arc,arl⟩,⟨aqA,aqn,aqc,aql⟩,⟨asA,asn,asc,asl⟩,⟨awA,awn,awc,awl⟩,atext⟩,hc⟩:=Ya HL.out hlt
   obtain ⟨b,o,rfl,hb,hcl,-⟩:=(H.ro 2 rfl).now.at_ hc
   have c0:=hcl 0 _ (by omega) rfl
   have c1:=hcl 1 _ (by omega) rfl
   have c2:=hcl 2 _ (by omega) rfl
   have c3:=hcl 3 _ (by omega) rfl
   have c4:=hcl 4 _ (by omega) rfl
   have c5:=hcl 5 _ (by omega) rfl
   have c6:=hcl 6 _ (by omega) rfl
   simp only [Nat.add_zero] at c0
   clear hcl
   simp only [SlP.v] at c2 c3 c4 c5
   have HT:=hid (Zli hc)
   have HTL:=hid (Zlh (l:=ul) (k+1))
   have HM:=hid (Ka hc)
   clear hc
   have K1:=H.Za #[.int .i64 ak,.string atab,.slice arA arn arc,.slice aqA aqn aqc,.slice asA asn asc,.slice awA awn awc,.string atext] 44
   have F1:=K1.facts
   simp only [zg] at F1
   clear H
   by_cases h5:ak=5
   ·subst h5
    have hS:=((K1.ro 3 rfl).now.2 _ HM.out).parts.2.2.1
    simp only at hS
    have hlen:=hS.len
    have e1:(ZQ (ul.take (k+1))).length=q+asn:=by
     rw [HT.out,List.length_append,HQ.out];simp [hlen]
    have e2:(ZQ (ul.take k)).flatMap Se.cells++asl.flatMap Se.cells=(ZQ (ul.take (k+1))).flatMap Se.cells:=by
     rw [HT.out,List.flatMap_append];simp
    have hqs:q+asn≤549755813888:=by have:=HTL.out;have:=HS.out;omega
    have HE1:=hid e1
    have HE2:=hid e2
    have HSR:=hid hS.1
    clear e1 e2 hlen hS
    go_wp2_with (at_builtin;go_must (refine ZX K1 1 rfl Tryz.ZgD HSR.out rfl (.tmp 16) (.tmp 18) rfl rfl rfl (Zi1 _) (by omega) (by omega) ?_);intro C9 cap9 w9 hc9 hm9 KB;rw [HE2.out] at KB;simp only [zl] at KB)
    go_roundw
    case rel=>exact ⟨k+1,q+asn,cap9,_,by omega,by go_num,by first|rfl|trivial,hid HE1.out.symm,KB.drop (Kb _ _)⟩
    case measure=>simp [intOf];omega
   ·have e1:ZQ (ul.take (k+1))=ZQ (ul.take k):=by rw [HT.out];simp [h5]
    go_wp2_with fail
    all_goals first
     | (exfalso;omega)
     | skip
    go_roundw
    case rel=>exact ⟨k+1,q,cap,O,by omega,by go_num,by first|rfl|trivial,hid (by rw [e1];exact HQ.out),by rw [e1];exact K1.drop (Kb _ _)⟩
    case measure=>simp [intOf];omega
  ·obtain rfl:un=k:=by omega
   rw [Kh (by rw [HL.out];exact Kg _)] at H HQ
   have K1:=H.Zq 0 rfl
   simp only [List.set_cons_zero] at K1
   have F:=H.facts
   simp only [zg] at F
   have hq:q≤549755813888:=by have:=HQ.out;have:=HS.out;omega
   go_wp2_with fail
   go_ret
   refine ⟨O,q,cap,by first|rfl|simp,hq,?_,H.below⟩
   have R1:=K1.ro 0 rfl
   have R2:=K1.ro 2 rfl
   exact ((R1.and R2).imp fun w2 h2=>⟨h2.1,Zlg h2.2.2⟩).less fun b hb=>.inl hb
theorem Zmj (M:Nat→Prop) (row:Option Nat) (w0 w:World) (g k:Nat) (L:List Hp) (d:Nat) (a:Ac) (h:NmSt M row w0 w g k (.ro (AcIn d a)::L)) (hk:k+acW d a≤4398046511104):
  Calls Tryz.prog 151 #[a.val,Qp g] w fun r w' =>(∃ b,r=.returned (.bool b))∧NmSt M row w0 w' g (k+acW d a) (.ro (AcIn d a)::L):=by
 have hce:=fun (w:World) (L:List Hp) (h:NmSt M row w0 w g k (.ro (AcIn d a)::L))=>Zmh M row w0 w g k L d a h hk
 have H1:=h.cst #[.int .i64 a.kind,.string a.tab,.slice a.rows.A a.rows.n a.rows.c,.slice a.qs.A a.qs.n a.qs.c,.slice a.sets.A a.sets.n a.sets.c,.slice a.wh.A a.wh.n a.wh.c,.string a.text] 44
 have F1:=(H1.drop (L' :=[_]) (Ki _ (KV _))).factsL
 simp only [zg] at F1
 obtain ⟨P,m,c,xs,hm,K⟩:=H1
 have H2:NmSt M row w0 _ g k (.ro (AcIn d a)::.cst w.heap.size 44 #[.int .i64 a.kind,.string a.tab,.slice a.rows.A a.rows.n a.rows.c,.slice a.qs.A a.qs.n a.qs.c,.slice a.sets.A a.sets.n a.sets.c,.slice a.wh.A a.wh.n a.wh.c,.string a.text]::L):=⟨P,m,c,xs,hm,K.perm (((List.Perm.swap _ _ _).cons _).cons _)⟩
 simp only [Ac.val] at hce ⊢
 have HCE:=hid hce
 clear hce K
 go_enter Tryz.func151,Tryz.ntmps151
 go_wp2_with fail
 refine (HCE.out _ _ H2).mono ?_
 rintro e w1 ⟨rfl,H3⟩
 go_wp2_with fail
 go_ret
 exact ⟨⟨true,by first|rfl|simp⟩,H3.drop (List.Sublist.cons_cons _ (List.sublist_cons_self _ _))⟩
theorem Zmi (M:Nat→Prop) (row:Option Nat) (w0 w:World) (g k:Nat) (L:List Hp) (d:Nat) (A:Option Addr) (n c:Nat) (l:List Ex) (h:NmSt M row w0 w g k (.ro (ExsIn d A n l)::L)) (hk:k+ZK d l≤4398046511104):
  Calls Tryz.prog 150 #[.slice A n c,Qp g] w fun r w' =>(∃ b,r=.returned (.bool b))∧NmSt M row w0 w' g (k+ZK d l) (.ro (ExsIn d A n l)::L):=by
 go_enter Tryz.func150,Tryz.ntmps150
 go_wp2_with fail
 refine ((UD d).1 _ _ _ _ _ _ _ _ _ _ _ h hk).mono ?_
 rintro e w1 ⟨rfl,H3⟩
 go_wp2_with fail
 go_ret
 exact ⟨⟨true,by first|rfl|simp⟩,H3⟩
theorem Zav (M:Nat→Prop) (w:World) (hM:∀ b,M b→b<w.heap.size) (a:Ac) (d:Nat) (ha:Ro w M (AcIn d a)) (hn:a.sets.n≤1000000):Calls Tryz.prog 118 #[a.val] w fun e w' =>Zeh w (YZ a) e w' :=by
 have hD:Ro w M (SesIn d a.sets.A a.sets.n a.sets.l):=ha.imp fun w2 h2=>h2.2.2.1
 obtain ⟨ak,atab,⟨arA,arn,arc,arl⟩,⟨aqA,aqn,aqc,aql⟩,⟨asA,asn,asc,asl⟩,⟨awA,awn,awc,awl⟩,atext⟩:=a
 simp only [Ac.val,YZ] at hD hn ⊢
 clear ha
 by_cases hk:ak=2
 ·subst hk
  rw [Lg rfl]
  have HL:=hid hD.now.len
  have K0:=(((Hold.start M w hM).add (hD.less (by simp [Mut]))).Za #[.int .i64 2,.string atab,.slice arA arn arc,.slice aqA aqn aqc,.slice asA asn asc,.slice awA awn awc,.string atext] 44)
  have KN:=K0.nil 9 1
  have F0:=K0.facts
  simp only [zg] at F0
  go_enter Tryz.func118,Tryz.ntmps118
  go_wp2_with fail
  clear F0 K0
  go_loopw [3,12] (fun ov iv wr=>∃ (k cap:Nat) (O:Option Addr),k≤asn∧iv=.int .i64 k∧ov=.slice O k cap∧Hold M none w wr [.own 9 1 (.slice O k cap) k (Zv ((asl.take k).map Se.col)),.cst w.heap.size 44 #[.int .i64 2,.string atab,.slice arA arn arc,.slice aqA aqn aqc,.slice asA asn asc,.slice awA awn awc,.string atext],.ro (SesIn d asA asn asl)]) (fun _ i _=>asn - (intOf i).toNat)
  case atStart=>exact ⟨0,0,none,by omega,rfl,rfl,KN⟩
  case round=>
   clear KN
   obtain ⟨k,cap,O,hk,rfl,rfl,H⟩:=hrel
   by_cases hlt:k<asn
   ·obtain ⟨⟨xcol,⟨xk,xop,xnt,⟨xvk,xvi,xvs⟩,xtab,xnm,xA,xn,xc,xargs,xB,xm,xd,xsub⟩⟩,hc⟩:=Ya HL.out hlt
    obtain ⟨b,o,rfl,hb,hcl,-⟩:=(H.ro 2 rfl).now.at_ hc
    have c0:=hcl 0 _ (by omega) rfl
    have c1:=hcl 1 _ (by omega) rfl
    have c2:=hcl 2 _ (by omega) rfl
    have c3:=hcl 3 _ (by omega) rfl
    have c4:=hcl 4 _ (by omega) rfl
    have c5:=hcl 5 _ (by omega) rfl
    have c6:=hcl 6 _ (by omega) rfl
    have c7:=hcl 7 _ (by omega) rfl
    have c8:=hcl 8 _ (by omega) rfl
    have c9:=hcl 9 _ (by omega) rfl
    have c10:=hcl 10 _ (by omega) rfl
    simp only [Nat.add_zero] at c0
    clear hcl
    have HCE:=hid (show Zv ((asl.take k).map Se.col)++(#[Value.string xcol]).toList=Zv ((asl.take (k+1)).map Se.col) by rw [Kq,hc];simp [Zv])
    clear hc
    have K1:=H.Za #[.string xcol,.int .i64 xk,.int .i64 xop,.bool xnt,.int .i64 xvk,.int .i64 xvi,.string xvs,.string xtab,.string xnm,.slice xA xn xc,.slice xB xm xd] 39
    have F1:=K1.facts
    simp only [zg] at F1
    clear H
    go_wp2_with (at_builtin;go_must (refine ZJ K1 1 rfl Tryz.QV #[.string xcol] rfl (.tmp 16) (.tmp 19) rfl rfl _ (by first|rfl|simp) rfl rfl (by intro u hu;simp at hu;rcases hu with rfl;rfl) (by omega) (by omega) ?_);intro g9 cap9 w9 hc9 hm9 KB;rw [HCE.out] at KB;simp only [zl] at KB)
    go_roundw
    case rel=>exact ⟨k+1,cap9,_,by omega,by go_num,by first|rfl|trivial,KB.drop (Kb _ _)⟩
    case measure=>simp [intOf];omega
   ·obtain rfl:asn=k:=by omega
    rw [Kh (by rw [HL.out];exact Kg _)] at H
    have F:=H.facts
    simp only [zg] at F
    go_wp2_with fail
    go_ret
    exact ⟨O,asn,cap,by first|rfl|simp,by rw [List.length_map];exact HL.out.symm,H.get 0 rfl,H.below⟩
 ·rw [Lf hk]
  have K0:=(Hold.Yi w).Za #[.int .i64 ak,.string atab,.slice arA arn arc,.slice aqA aqn aqc,.slice asA asn asc,.slice awA awn awc,.string atext] 44
  have F0:=K0.facts
  simp only [zg] at F0
  have HB:=hid K0.below
  clear K0
  go_enter Tryz.func118,Tryz.ntmps118
  go_wp2_with fail
  all_goals first
   | (exfalso;omega)
   | (go_ret;exact ⟨none,0,0,rfl,rfl,World.ownsRow_nil _ _ _ _,HB.out⟩)
theorem ZaR (l:List ByteArray) (x:ByteArray):YG l x=l.any fun c=>decide (c=x):=by
 unfold YG
 rw [Bool.eq_iff_iff]
 simp only [decide_eq_true_eq,List.any_eq_true]
 constructor
 ·intro h;exact ⟨x,h,rfl⟩
 ·rintro ⟨y,h,rfl⟩;exact h
theorem eight {w:World} {g h:Nat} {t u:TypeId} {a b c d e f k x y z q:Value} (h1:Blk w g t #[a,b,c,d,e,f,k]) (h2:Blk w h u #[x,y,z,q]):w.cell? ⟨g,0,none⟩=some a∧w.cell? ⟨g,1,none⟩=some b∧w.cell? ⟨g,2,none⟩=some c∧w.cell? ⟨g,3,none⟩=some d∧w.cell? ⟨g,4,none⟩=some e∧w.cell? ⟨g,5,none⟩=some f∧w.cell? ⟨g,6,none⟩=some k∧w.cell? ⟨h,1,none⟩=some y:=
 ⟨h1.cell 0,h1.cell 1,h1.cell 2,h1.cell 3,h1.cell 4,h1.cell 5,h1.cell 6,h2.cell 1⟩
theorem ZhK (M:Nat→Prop) (w:World) (hM:∀ b,M b→b<w.heap.size) (a:Ac) (r:Rk) (d:Nat) (ha:Ro w M (AcIn (d+1) a)) (hn:a.sets.n≤1000000):Calls Tryz.prog 115 #[a.val,r.val] w fun e w' =>e=.returned (.bool (Xo r a))∧Below w.heap.size w w' :=by
 obtain ⟨ak,atab,⟨arA,arn,arc,arl⟩,⟨aqA,aqn,aqc,aql⟩,⟨asA,asn,asc,asl⟩,⟨awA,awn,awc,awl⟩,atext⟩:=a
 obtain ⟨rtab,rcol,rlo,rhi⟩:=r
 simp only [Ac.val,Rk.val] at hn ⊢
 have K0:=(((Hold.start M w hM).add (ha.less (by simp [Mut]))).Za #[.int .i64 ak,.string atab,.slice arA arn arc,.slice aqA aqn aqc,.slice asA asn asc,.slice awA awn awc,.string atext] 44).Za #[.string rtab,.string rcol,.int .i64 rlo,.int .i64 rhi] 27
 simp only [World.size_alloc] at K0
 have F0:=K0.facts
 simp only [zg] at F0
 have HB:=hid K0.below
 have HH:=hid (show Xo ⟨rtab,rcol,rlo,rhi⟩ ⟨ak,atab,⟨arA,arn,arc,arl⟩,⟨aqA,aqn,aqc,aql⟩,⟨asA,asn,asc,asl⟩,⟨awA,awn,awc,awl⟩,atext⟩=if atab=rtab then (if ak=1 then false else if ak=2∧YG (YZ ⟨ak,atab,⟨arA,arn,arc,arl⟩,⟨aqA,aqn,aqc,aql⟩,⟨asA,asn,asc,asl⟩,⟨awA,awn,awc,awl⟩,atext⟩) rcol=true then (Xg ⟨ak,atab,⟨arA,arn,arc,arl⟩,⟨aqA,aqn,aqc,aql⟩,⟨asA,asn,asc,asl⟩,⟨awA,awn,awc,awl⟩,atext⟩ rcol).2 else true) else true by
  have h2:(Xg ⟨ak,atab,⟨arA,arn,arc,arl⟩,⟨aqA,aqn,aqc,aql⟩,⟨asA,asn,asc,asl⟩,⟨awA,awn,awc,awl⟩,atext⟩ rcol).2=(Wx ⟨ak,atab,⟨arA,arn,arc,arl⟩,⟨aqA,aqn,aqc,aql⟩,⟨asA,asn,asc,asl⟩,⟨awA,awn,awc,awl⟩,atext⟩ rcol).isSome:=by
   unfold Xg;cases Wx ⟨ak,atab,⟨arA,arn,arc,arl⟩,⟨aqA,aqn,aqc,aql⟩,⟨asA,asn,asc,asl⟩,⟨awA,awn,awc,awl⟩,atext⟩ rcol<;>rfl
  rw [h2,ZaR]
  rfl)
 generalize Xo ⟨rtab,rcol,rlo,rhi⟩ ⟨ak,atab,⟨arA,arn,arc,arl⟩,⟨aqA,aqn,aqc,aql⟩,⟨asA,asn,asc,asl⟩,⟨awA,awn,awc,awl⟩,atext⟩=R at *
 by_cases h1:atab=rtab
 ·have h1b:atab.toList=rtab.toList:=by rw [h1]
  have h1c:(atab.toList==rtab.toList)=true:=by simp [h1]
  by_cases h2:ak=1
  ·have hr:R=false:=by rw [HH.out,Lg h1,Lg h2]
   subst h2
   clear HH K0 h1
   subst hr
   go_enter Tryz.func115,Tryz.ntmps115
   go_wp2_with fail
   all_goals first
    | (exfalso;simp_all;done)
    | (go_ret;exact ⟨by first|rfl|simp,HB.out⟩)
  ·by_cases h3:ak=2
   ·subst h3
    clear h2
    have hr0:R=if YG (YZ ⟨2,atab,⟨arA,arn,arc,arl⟩,⟨aqA,aqn,aqc,aql⟩,⟨asA,asn,asc,asl⟩,⟨awA,awn,awc,awl⟩,atext⟩) rcol=true then (Xg ⟨2,atab,⟨arA,arn,arc,arl⟩,⟨aqA,aqn,aqc,aql⟩,⟨asA,asn,asc,asl⟩,⟨awA,awn,awc,awl⟩,atext⟩ rcol).2 else true:=by rw [HH.out,Lg h1,Lf (by decide)];simp
    have HR:=hid hr0
    clear HH h1 hr0
    have hc1:=Zav _ _ K0.drew.Zb ⟨2,atab,⟨arA,arn,arc,arl⟩,⟨aqA,aqn,aqc,aql⟩,⟨asA,asn,asc,asl⟩,⟨awA,awn,awc,awl⟩,atext⟩ (d+1) (K0.drew.ro 2 rfl) hn
    simp only [Ac.val] at hc1
    have hlen:=hid (show (YZ ⟨2,atab,⟨arA,arn,arc,arl⟩,⟨aqA,aqn,aqc,aql⟩,⟨asA,asn,asc,asl⟩,⟨awA,awn,awc,awl⟩,atext⟩).length≤1000000 by
     have h5:SesIn (d+1) asA asn asl w:=ha.now.2.2.1
     simp only [YZ,if_true,List.length_map]
     have:=h5.len
     omega)
    go_enter Tryz.func115,Tryz.ntmps115
    go_wp2_with fail
    go_region_held3 (fun w' =>w'.cell? ⟨w.heap.size,0,none⟩=some (.int .i64 2)∧w'.cell? ⟨w.heap.size,1,none⟩=some (.string atab)∧w'.cell? ⟨w.heap.size,2,none⟩=some (.slice arA arn arc)∧w'.cell? ⟨w.heap.size,3,none⟩=some (.slice aqA aqn aqc)∧w'.cell? ⟨w.heap.size,4,none⟩=some (.slice asA asn asc)∧w'.cell? ⟨w.heap.size,5,none⟩=some (.slice awA awn awc)∧w'.cell? ⟨w.heap.size,6,none⟩=some (.string atext)∧w'.cell? ⟨w.heap.size+1,1,none⟩=some (.string rcol))
     (first|exact eight (K0.drew.Zg 1 rfl) (K0.drew.Zg 0 rfl)|exact eight (K2.Zg 2 rfl) (K2.Zg 1 rfl))
     (first
      | (go_at_call 118;((with_reducible refine hc1.mono ?_);rintro e w1 ⟨A1,n1,c1,rfl,hl1,ho1,b1⟩;have HL1:=hid hl1;clear hl1;have K1:=K0.drew.QQ b1 ho1;have K2:=K1.Zq 0 rfl;simp only [List.set_cons_zero] at K2;have hc2:=JB w1 A1 n1 c1 (YZ ⟨2,atab,⟨arA,arn,arc,arl⟩,⟨aqA,aqn,aqc,aql⟩,⟨asA,asn,asc,asl⟩,⟨awA,awn,awc,awl⟩,atext⟩) rcol (K2.ro 0 rfl).now (by have:=hlen.out;have:=HL1.out;omega)))
      | (go_at_call 117;((with_reducible refine hc2.mono ?_);rintro e w2 ⟨rfl,rfl⟩)))
    clear F0 hc1 hc2 K0 K1 ho1
    have F2:=K2.facts
    simp only [zg] at F2
    cases hcs:YG (YZ ⟨2,atab,⟨arA,arn,arc,arl⟩,⟨aqA,aqn,aqc,aql⟩,⟨asA,asn,asc,asl⟩,⟨awA,awn,awc,awl⟩,atext⟩) rcol
    ·have hr:R=true:=by rw [HR.out,hcs];rfl
     clear HR hcs
     subst hr
     go_wp2_with fail
     go_ret
     exact ⟨by first|rfl|simp,K2.below⟩
    ·have hr0:R=(Xg ⟨2,atab,⟨arA,arn,arc,arl⟩,⟨aqA,aqn,aqc,aql⟩,⟨asA,asn,asc,asl⟩,⟨awA,awn,awc,awl⟩,atext⟩ rcol).2:=by rw [HR.out,hcs];rfl
     have HR2:=hid hr0
     clear HR hcs hr0
     go_wp2_with fail
     refine (Zb1 _ _ K2.Zb ⟨2,atab,⟨arA,arn,arc,arl⟩,⟨aqA,aqn,aqc,aql⟩,⟨asA,asn,asc,asl⟩,⟨awA,awn,awc,awl⟩,atext⟩ rcol d (K2.ro 3 rfl) (by show asn≤_;omega)).mono ?_
     rintro e w3 ⟨rfl,b3⟩
     have K3:=K2.call b3
     go_wp2_with fail
     go_ret
     exact ⟨by rw [HR2.out]<;>rfl,K3.below⟩
   ·have hr:R=true:=by rw [HH.out,Lg h1,Lf h2,Lf (fun h=>h3 h.1)]
    have h3b:(ak !=2)=true:=by simpa using h3
    have hB:=fun q=>(K0.drewN q).below
    have HB2:=hid hB
    clear HH K0 h1 hB
    subst hr
    go_enter Tryz.func115,Tryz.ntmps115
    go_wp2_with fail
    all_goals first
     | (exfalso;simp_all;done)
     | skip
    go_quiet (fail)
    go_wp2_with fail
    go_ret
    exact ⟨by first|rfl|simp,HB2.out _⟩
 ·have h1b:¬atab.toList=rtab.toList:=fun h=>h1 (Yc h)
  have h1c:(atab.toList==rtab.toList)=false:=by simpa using h1b
  have hr:R=true:=by rw [HH.out,Lf h1]
  clear HH K0
  subst hr
  go_enter Tryz.func115,Tryz.ntmps115
  go_wp2_with fail
  all_goals first
   | (exfalso;simp_all;done)
   | (go_ret;exact ⟨by first|rfl|simp,HB.out⟩)
theorem Zc7 {α:Type} {L:List α} {i:Nat} {x:α} (h:L[i]? =some x):L.set i x=L:=by
 apply List.ext_getElem?
 intro j
 rw [List.getElem?_set]
 split
 ·subst i;split
  ·exact h.symm
  ·rw [List.getElem?_eq_none (by omega)]
 ·rfl
theorem zF {M:Nat→Prop} {row:Option Nat} {w0 w:World} {L:List Hp} (K:Hold M row w0 w L) (i:Nat) {e:TypeId} {A:Option Addr} {q cap:Nat} {ss:List ByteArray} (hi:L[i]? =some (.own e 1 (.slice A q cap) q (Zv ss))) (hq:q<4611686018427387904):
  Calls Tryz.prog 120 #[.slice A q cap] w fun e' w' =>e' =.returned (.tuple #[])∧∃ ss' :List ByteArray,ss'.Perm ss∧Hold M row w0 w' (L.set i (.own e 1 (.slice A q cap) q (Zv ss'))):=by
 rcases Jl (show w.ownsRow w0.heap.size e 1 (.slice A q cap) q (Zv ss) from K.get i hi) with ⟨rfl,rfl,rfl⟩|⟨g,rfl,_⟩
 ·refine (Zlr w).mono ?_
  rintro e' w' ⟨rfl,b⟩
  exact ⟨rfl,ss,List.Perm.refl _,by rw [Zc7 hi];exact K.call b⟩
 ·exact Zls K i hi hq
theorem Gu {M:Nat→Prop} {row:Option Nat} {w0 w:World} {L:List Hp} (K:Hold M row w0 w L) (i:Nat) {e:TypeId} {A:Option Addr} {q cap:Nat} {ss:List ByteArray} (hi:L[i]? =some (.own e 1 (.slice A q cap) q (Zv ss))) (hq:q≤9223372036854775807):
  Calls Tryz.prog 121 #[.slice A q cap] w fun e' w' =>∃ (q' :Nat) (ss' :List ByteArray),e' =.returned (.slice A q' cap)∧q' ≤q∧(∀ s,s∈ss' ↔s∈ss)∧Hold M row w0 w' (L.set i (.own e 1 (.slice A q' cap) q' (Zv ss'))):=by
 rcases Jl (show w.ownsRow w0.heap.size e 1 (.slice A q cap) q (Zv ss) from K.get i hi) with ⟨rfl,rfl,rfl⟩|⟨g,rfl,_⟩
 ·refine (ZfI w).mono ?_
  rintro e' w' ⟨rfl,b⟩
  exact ⟨0,ss,rfl,Kg _,fun s=>Iff.rfl,by rw [Zc7 hi];exact K.call b⟩
 ·exact ZfJ K i hi hq
def tgW (d:Nat) (t:Tg):Nat:=ZK d t.cond.l+WF d t.acts.l
theorem TgIn.parts {d:Nat} {t:Tg} {w:World} (h:TgIn d t w):ExsIn d t.cond.A t.cond.n t.cond.l w∧AcsIn d t.acts.A t.acts.n t.acts.l w:=⟨h.2.2.2.2.1,h.2.2.2.2.2⟩
theorem Zkm (w:World) (t:Tg) (h:¬(t.before=true∧t.each=true)):
  Calls Tryz.prog 116 #[t.val] w fun e w' =>e=.returned (.tuple #[.slice none 0 0,.slice none 0 0])∧Below w.heap.size w w' :=by
 obtain ⟨tname,ttab,tbef,tev,⟨cA,cn,cc,cl⟩,teach,⟨pA,pn,pc,pl⟩,⟨fA,fn,fc,fl⟩,⟨kA,kn,kc,kl⟩,⟨oA,on,oc,ol⟩,⟨uA,un,uc,ul⟩⟩:=t
 simp only [Tg.val] at h ⊢
 have K0:=(Hold.Yi w).Za #[.string tname,.string ttab,.bool tbef,.int .i64 tev,.slice cA cn cc,.bool teach,.slice pA pn pc,.slice fA fn fc,.slice kA kn kc,.slice oA on oc,.slice uA un uc] 48
 have F0:=K0.facts
 simp only [zg] at F0
 have HB:=hid K0.below
 clear K0
 go_enter Tryz.func116,Tryz.ntmps116
 cases tbef<;>cases teach
 all_goals first
  | (exfalso;exact h ⟨rfl,rfl⟩)
  | (clear h;go_wp2_with fail;refine Lh (results_tmp2 rfl _ _ _) rfl ?_;exact ⟨rfl,HB.out⟩)
theorem Zkn (M:Nat→Prop) (w:World) (hM:∀ b,M b→b<w.heap.size) (t:Tg) (d:Nat) (ha:Ro w M (TgIn d t)) (hn:t.acts.n≤9223372036854775807) (hs:(ZQ t.acts.l).length≤549755813888) (hw:tgW d t≤4398046511104) (hb:t.before=true) (he:t.each=true):
  Calls Tryz.prog 116 #[t.val] w fun e w' =>∃ (B C:Option Addr) (m c k c2:Nat) (xs:List ByteArray),e=.returned (.tuple #[.slice B m c,.slice C k c2])∧k≤549755813888∧Ro w' M (StrsIn C k xs)∧(∀ s,s∈xs↔s∈YE t)∧Below w.heap.size w w' :=by
 obtain ⟨hC,hA⟩:=ha.now.parts
 have HSC:=hid (Zlf t)
 generalize YE t=SC at *
 obtain ⟨tname,ttab,tbef,tev,⟨cA,cn,cc,cl⟩,teach,⟨pA,pn,pc,pl⟩,⟨fA,fn,fc,fl⟩,⟨kA,kn,kc,kl⟩,⟨oA,on,oc,ol⟩,⟨uA,un,uc,ul⟩⟩:=t
 simp only [Tg.val,tgW] at hb he hn hs hw hC hA HSC ⊢
 subst hb
 subst he
 have HL:=hid hA.len
 have HW:=hid hw
 have HS:=hid hs
 clear hC hA hw hs
 have K0:=((Hold.start M w hM).add (ha.less (by simp [Mut]))).Za #[.string tname,.string ttab,.bool true,.int .i64 tev,.slice cA cn cc,.bool true,.slice pA pn pc,.slice fA fn fc,.slice kA kn kc,.slice oA on oc,.slice uA un uc] 48
 have K1:=(K0.alloc #[.slice none 0 0] 46).nil 9 1
 simp only [World.size_alloc] at K1
 have H0:NmSt M none w _ (w.heap.size+1) 0 [.cst w.heap.size 48 #[.string tname,.string ttab,.bool true,.int .i64 tev,.slice cA cn cc,.bool true,.slice pA pn pc,.slice fA fn fc,.slice kA kn kc,.slice oA on oc,.slice uA un uc],.ro (TgIn d ⟨tname,ttab,true,tev,⟨cA,cn,cc,cl⟩,true,⟨pA,pn,pc,pl⟩,⟨fA,fn,fc,fl⟩,⟨kA,kn,kc,kl⟩,⟨oA,on,oc,ol⟩,⟨uA,un,uc,ul⟩⟩)]:=⟨none,0,0,[],Kg _,K1.perm (List.Perm.swap _ _ _)⟩
 have H1:=H0.XJ 1 (S' :=ExsIn d oA on ol) rfl (fun w2 h2=>h2.parts.1)
 have F1:=K1.facts
 simp only [zg] at F1
 clear ha K0 K1 H0
 obtain ⟨g,hg⟩:∃ g,g=w.heap.size+1:=⟨_,rfl⟩
 go_enter Tryz.func116,Tryz.ntmps116
 go_wp2_with fail
 rw [←hg] at H1 ⊢
 have HG:=hid hg
 clear hg
 refine (Zmi _ _ _ _ _ _ _ _ _ _ _ _ H1 (by have:=HW.out;omega)).mono ?_
 rintro e w1 ⟨⟨vb,rfl⟩,H2⟩
 have H3:=H2.XJ 2 (S' :=AcsIn d uA un ul) rfl (fun w2 h2=>h2.parts.2)
 have H4:=H3.drop (L' :=[.ro (AcsIn d uA un ul),.cst w.heap.size 48 #[.string tname,.string ttab,.bool true,.int .i64 tev,.slice cA cn cc,.bool true,.slice pA pn pc,.slice fA fn fc,.slice kA kn kc,.slice oA on oc,.slice uA un uc],.ro (TgIn d ⟨tname,ttab,true,tev,⟨cA,cn,cc,cl⟩,true,⟨pA,pn,pc,pl⟩,⟨fA,fn,fc,fl⟩,⟨kA,kn,kc,kl⟩,⟨oA,on,oc,ol⟩,⟨uA,un,uc,ul⟩⟩)]) (Ki _ (Ke _ (KR _)))
 clear H1 H2 H3 F1
 have F4:=(H4.drop (L' :=[_,_,_]) (Ki _ (Ki _ (Ki _ (KV _))))).factsL
 simp only [zg] at F4
 go_wp2_with fail
 clear F4
 go_loopw [27] (fun iv wr=>∃ (j:Nat),j≤un∧iv=.int .i64 j∧NmSt M none w wr g (0+ZK d ol+WF d (ul.take j)) [.ro (AcsIn d uA un ul),.cst w.heap.size 48 #[.string tname,.string ttab,.bool true,.int .i64 tev,.slice cA cn cc,.bool true,.slice pA pn pc,.slice fA fn fc,.slice kA kn kc,.slice oA on oc,.slice uA un uc],.ro (TgIn d ⟨tname,ttab,true,tev,⟨cA,cn,cc,cl⟩,true,⟨pA,pn,pc,pl⟩,⟨fA,fn,fc,fl⟩,⟨kA,kn,kc,kl⟩,⟨oA,on,oc,ol⟩,⟨uA,un,uc,ul⟩⟩)]) (fun iv _=>un - (intOf iv).toNat)
 case atStart=>exact ⟨0,by omega,rfl,H4⟩
 case round=>
  clear H4
  obtain ⟨j,hj,rfl,H⟩:=hrel
  by_cases hlt:j<un
  ·obtain ⟨⟨ak,atab,⟨arA,arn,arc,arl⟩,⟨aqA,aqn,aqc,aql⟩,⟨asA,asn,asc,asl⟩,⟨awA,awn,awc,awl⟩,atext⟩,hc⟩:=Ya HL.out hlt
   obtain ⟨b,o,rfl,hb,hcl,-⟩:=(H.ro 0 rfl).at_ hc
   have c0:=hcl 0 _ (by omega) rfl
   have c1:=hcl 1 _ (by omega) rfl
   have c2:=hcl 2 _ (by omega) rfl
   have c3:=hcl 3 _ (by omega) rfl
   have c4:=hcl 4 _ (by omega) rfl
   have c5:=hcl 5 _ (by omega) rfl
   have c6:=hcl 6 _ (by omega) rfl
   simp only [Nat.add_zero] at c0
   clear hcl
   simp only [SlP.v] at c2 c3 c4 c5
   have HSS:=hid (show WF d (ul.take (j+1))=WF d (ul.take j)+acW d ⟨ak,atab,⟨arA,arn,arc,arl⟩,⟨aqA,aqn,aqc,aql⟩,⟨asA,asn,asc,asl⟩,⟨awA,awn,awc,awl⟩,atext⟩ from Qs hc)
   have HT:=hid (show WF d (ul.take (j+1))≤WF d ul from Qt ul (j+1))
   have HM:=hid (Ka hc)
   clear hc
   have H1:=H.cst #[.int .i64 ak,.string atab,.slice arA arn arc,.slice aqA aqn aqc,.slice asA asn asc,.slice awA awn awc,.string atext] 44
   have H5:=H1.XJ 1 (S' :=AcIn d ⟨ak,atab,⟨arA,arn,arc,arl⟩,⟨aqA,aqn,aqc,aql⟩,⟨asA,asn,asc,asl⟩,⟨awA,awn,awc,awl⟩,atext⟩) rfl (fun w2 h2=>h2.2 _ HM.out)
   have F5:=(H5.drop (L' :=[_,_]) (Ki _ (Ki _ (KV _)))).factsL
   simp only [zg] at F5
   clear H H1
   have hce:=Zmj _ _ _ _ _ _ _ _ ⟨ak,atab,⟨arA,arn,arc,arl⟩,⟨aqA,aqn,aqc,aql⟩,⟨asA,asn,asc,asl⟩,⟨awA,awn,awc,awl⟩,atext⟩ H5 (by have:=HW.out;have:=HSS.out;have:=HT.out;omega)
   simp only [Ac.val] at hce
   go_wp2_with fail
   refine hce.mono ?_
   rintro e w2 ⟨⟨vb2,rfl⟩,H6⟩
   clear H5 F5 hce
   go_wp2_with fail
   go_roundw
   case rel=>exact ⟨j+1,by omega,by go_num,(H6.drop (Ke _ (Ke _ (KR _)))).le (by have:=HSS.out;omega)⟩
   case measure=>simp [intOf];omega
  ·obtain rfl:un=j:=by omega
   rw [Kh (by rw [HL.out];exact Kg _)] at H
   obtain ⟨B,m,c,xs,hm,K2⟩:=H
   have HMM:=hid hm
   clear hm
   have F2:=K2.facts
   simp only [zg] at F2
   have hce:=Zhy _ _ K2.Zb ⟨tname,ttab,true,tev,⟨cA,cn,cc,cl⟩,true,⟨pA,pn,pc,pl⟩,⟨fA,fn,fc,fl⟩,⟨kA,kn,kc,kl⟩,⟨oA,on,oc,ol⟩,⟨uA,un,uc,ul⟩⟩ d (K2.ro 2 rfl) hn HS.out
   simp only [Tg.val] at hce
   go_wp2_with fail
   refine hce.mono ?_
   rintro e w3 ⟨A3,n3,c3,rfl,hn3,r3,b3⟩
   have K3:=((K2.call b3).add r3).nil 9 1
   clear K2 F2 hce b3 r3
   have HSO:=hid (show (ZQ ul).map Se.col=SC from HSC.out)
   try simp only at K3
   generalize ZQ ul=SS at *
   have HL3:=hid (K3.ro 1 rfl).now.len
   have HML:m≤4398046511104:=by have:=HMM.out;have:=HW.out;omega
   go_wp2_with fail
   go_loopw [5,38] (fun ov iv wr=>∃ (k cap:Nat) (O:Option Addr),k≤n3∧iv=.int .i64 k∧ov=.slice O k cap∧Hold M none w wr [.own 9 1 (.slice O k cap) k (Zv ((SS.take k).map Se.col)),.ro (SesIn d A3 n3 SS),.blk g 46 #[.slice B m c],.own 9 1 (.slice B m c) m (Zv xs),.ro (AcsIn d uA un ul),.cst w.heap.size 48 #[.string tname,.string ttab,.bool true,.int .i64 tev,.slice cA cn cc,.bool true,.slice pA pn pc,.slice fA fn fc,.slice kA kn kc,.slice oA on oc,.slice uA un uc],.ro (TgIn d ⟨tname,ttab,true,tev,⟨cA,cn,cc,cl⟩,true,⟨pA,pn,pc,pl⟩,⟨fA,fn,fc,fl⟩,⟨kA,kn,kc,kl⟩,⟨oA,on,oc,ol⟩,⟨uA,un,uc,ul⟩⟩)]) (fun _ i _=>n3 - (intOf i).toNat)
   case atStart=>exact ⟨0,0,none,by omega,rfl,rfl,K3⟩
   case round=>
    clear K3
    obtain ⟨k,cap,O,hk,rfl,rfl,H⟩:=hrel
    by_cases hlt3:k<n3
    ·obtain ⟨⟨xcol,⟨xk,xop,xnt,⟨xvk,xvi,xvs⟩,xtab,xnm,xA,xn,xc,xargs,xB,xm,xd,xsub⟩⟩,hc⟩:=Ya HL3.out hlt3
     obtain ⟨b,o,rfl,hb,hcl,-⟩:=(H.ro 1 rfl).now.at_ hc
     have c0:=hcl 0 _ (by omega) rfl
     have c1:=hcl 1 _ (by omega) rfl
     have c2:=hcl 2 _ (by omega) rfl
     have c3:=hcl 3 _ (by omega) rfl
     have c4:=hcl 4 _ (by omega) rfl
     have c5:=hcl 5 _ (by omega) rfl
     have c6:=hcl 6 _ (by omega) rfl
     have c7:=hcl 7 _ (by omega) rfl
     have c8:=hcl 8 _ (by omega) rfl
     have c9:=hcl 9 _ (by omega) rfl
     have c10:=hcl 10 _ (by omega) rfl
     simp only [Nat.add_zero] at c0
     clear hcl
     have HCE:=hid (show Zv ((SS.take k).map Se.col)++(#[Value.string xcol]).toList=Zv ((SS.take (k+1)).map Se.col) by rw [Kq,hc];simp [Zv])
     clear hc
     have K1:=H.Za #[.string xcol,.int .i64 xk,.int .i64 xop,.bool xnt,.int .i64 xvk,.int .i64 xvi,.string xvs,.string xtab,.string xnm,.slice xA xn xc,.slice xB xm xd] 39
     have F1:=K1.facts
     simp only [zg] at F1
     clear H
     go_wp2_with (at_builtin;go_must (refine ZJ K1 1 rfl Tryz.QV #[.string xcol] rfl (.tmp 42) (.tmp 45) rfl rfl _ (by first|rfl|simp) rfl rfl (by intro u hu;simp at hu;rcases hu with rfl;rfl) (by omega) (by omega) ?_);intro g9 cap9 w9 hc9 hm9 KB;rw [HCE.out] at KB;simp only [zl] at KB)
     go_roundw
     case rel=>exact ⟨k+1,cap9,_,by omega,by go_num,by first|rfl|trivial,KB.drop (Kb _ _)⟩
     case measure=>simp [intOf];omega
    ·obtain rfl:n3=k:=by omega
     rw [Kh (by rw [HL3.out];exact Kg _),HSO.out] at H
     have F:=H.facts
     simp only [zg] at F
     go_wp2_with fail
     refine (zF H 3 rfl (by omega)).mono ?_
     rintro e w4 ⟨rfl,ys,hys,K4⟩
     simp only [zl] at K4
     clear H F
     have F4:=K4.facts
     simp only [zg] at F4
     go_wp2_with fail
     refine (zF K4 0 rfl (by omega)).mono ?_
     rintro e w5 ⟨rfl,zs,hzs,K5⟩
     simp only [zl] at K5
     clear K4 F4
     have F5:=K5.facts
     simp only [zg] at F5
     have HZ:=hid (fun s:ByteArray=>hzs.mem_iff (a:=s))
     clear hzs hys
     go_wp2_with fail
     refine (Gu K5 3 rfl (by omega)).mono ?_
     rintro e w6 ⟨q6,ys6,rfl,hq6,-,K6⟩
     simp only [zl] at K6
     clear K5 F5
     go_wp2_with fail
     refine (Gu K6 0 rfl (by omega)).mono ?_
     rintro e w7 ⟨q7,zs7,rfl,hq7,hz7,K7⟩
     simp only [zl] at K7
     have HZ7:=hid hz7
     clear K6 hz7
     go_wp2_with fail
     refine Lh (results_tmp2 rfl _ _ _) rfl ?_
     have K8:=K7.Zq 0 rfl
     simp only [List.set_cons_zero] at K8
     exact ⟨_,_,_,_,_,_,zs7,rfl,by omega,(K8.ro 0 rfl).less (fun b hb=>.inl hb),fun s=>(HZ7.out s).trans (HZ.out s),K7.below⟩
abbrev ZcE (b:Nat):Value:=.func (.func 114) #[] #[.pointer (some ⟨b,0,none⟩)]
theorem Zj3 (M:Nat→Prop) (w:World) (hM:∀ b,M b→b<w.heap.size) (a:Ac) (r:Rk) (d b:Nat) (t:TypeId) (ha:Ro w M (AcIn (d+1) a)) (hb:Ro w M (fun w=>w.heap[b]? =some (.cells #[.string r.tab,.string r.col,.int .i64 r.lo,.int .i64 r.hi] t (0,0)))) (hn:a.sets.n≤1000000):Calls Tryz.prog 114 #[a.val,.pointer (some ⟨b,0,none⟩)] w fun e w' =>e=.returned (.bool (!Xo r a))∧Below w.heap.size w w' :=by
 have hce:=fun (M:Nat→Prop) (w:World) (hM:∀ b,M b→b<w.heap.size) (ha:Ro w M (AcIn (d+1) a))=>ZhK M w hM a r d ha hn
 generalize Xo r a=R at *
 obtain ⟨ak,atab,⟨arA,arn,arc,arl⟩,⟨aqA,aqn,aqc,aql⟩,⟨asA,asn,asc,asl⟩,⟨awA,awn,awc,awl⟩,atext⟩:=a
 obtain ⟨rtab,rcol,rlo,rhi⟩:=r
 simp only [Ac.val,Rk.val] at hn hb hce ⊢
 have K0:=(((Hold.start M w hM).add (ha.less (by simp [Mut]))).Wp (g:=b) (t:=t) (cs:=#[.string rtab,.string rcol,.int .i64 rlo,.int .i64 rhi]) (hb.less (by simp [Mut,Hp.foot]))).Za #[.int .i64 ak,.string atab,.slice arA arn arc,.slice aqA aqn aqc,.slice asA asn asc,.slice awA awn awc,.string atext] 44
 have F0:=K0.facts
 simp only [zg] at F0
 have HCE:=hid hce
 clear hce
 go_enter Tryz.func114,Tryz.ntmps114
 go_wp2_with fail
 refine (HCE.out _ _ K0.Zb (K0.ro 2 rfl)).mono ?_
 rintro e w1 ⟨rfl,b1⟩
 have K1:=K0.call b1
 go_wp2_with fail
 go_ret
 exact ⟨by first|rfl|simp,K1.below⟩
theorem Zj5 (M:Nat→Prop) (w:World) (hM:∀ b,M b→b<w.heap.size) (A:Option Addr) (n c:Nat) (l:List Ac) (r:Rk) (d b:Nat) (t:TypeId) (hD:Ro w M (AcsIn (d+1) A n l)) (hB:Ro w M (fun w=>w.heap[b]? =some (.cells #[.string r.tab,.string r.col,.int .i64 r.lo,.int .i64 r.hi] t (0,0)))) (hn:n≤4611686018427387904) (hok:∀ a∈l,a.sets.n≤1000000):
  Calls Tryz.prog 148 #[.slice A n c,ZcE b] w fun e w' =>(∃ z:Int,e=.returned (.int .i64 z)∧decide (z≥0)=!(l.all (Xo r)))∧Below w.heap.size w w' :=by
 have HL:=hid hD.now.len
 have HOK:=hid hok
 have K0:=(((Hold.start M w hM).add (hB.less (by simp [Mut]))).add (hD.less (by simp [Mut,Hp.foot])))
 clear hD hB hok
 go_enter Tryz.func148,Tryz.ntmps148
 go_wp2_with fail
 go_loopw [8] (fun iv wr=>∃ (k:Nat),k≤n∧iv=.int .i64 k∧Hid (l.all (Xo r)=(l.drop k).all (Xo r))∧Hold M none w wr [.ro (AcsIn (d+1) A n l),.ro (fun w=>w.heap[b]? =some (.cells #[.string r.tab,.string r.col,.int .i64 r.lo,.int .i64 r.hi] t (0,0)))]) (fun iv _=>n - (intOf iv).toNat)
 case atStart=>exact ⟨0,by omega,rfl,hid rfl,K0⟩
 case round=>
  clear K0
  obtain ⟨k,hk,rfl,HF,H⟩:=hrel
  by_cases hlt:k<n
  ·obtain ⟨⟨ak,atab,⟨arA,arn,arc,arl⟩,⟨aqA,aqn,aqc,aql⟩,⟨asA,asn,asc,asl⟩,⟨awA,awn,awc,awl⟩,atext⟩,hc⟩:=Ya HL.out hlt
   obtain ⟨b2,o2,rfl,hb2,hcl,-⟩:=(H.ro 0 rfl).now.at_ hc
   have c0:=hcl 0 _ (by omega) rfl
   have c1:=hcl 1 _ (by omega) rfl
   have c2:=hcl 2 _ (by omega) rfl
   have c3:=hcl 3 _ (by omega) rfl
   have c4:=hcl 4 _ (by omega) rfl
   have c5:=hcl 5 _ (by omega) rfl
   have c6:=hcl 6 _ (by omega) rfl
   simp only [Nat.add_zero] at c0
   simp only [SlP.v] at c2 c3 c4 c5
   clear hcl
   have HC:=hid hc;clear hc
   have hce:=Zj3 _ wr H.Zb ⟨ak,atab,⟨arA,arn,arc,arl⟩,⟨aqA,aqn,aqc,aql⟩,⟨asA,asn,asc,asl⟩,⟨awA,awn,awc,awl⟩,atext⟩ r d b t ((H.ro 0 rfl).imp fun w2 h2=>h2.2 _ (Ka HC.out)) (H.ro 1 rfl) (HOK.out _ (Ka HC.out))
   cases hz:Xo r ⟨ak,atab,⟨arA,arn,arc,arl⟩,⟨aqA,aqn,aqc,aql⟩,⟨asA,asn,asc,asl⟩,⟨awA,awn,awc,awl⟩,atext⟩
   ·rw [hz] at hce
    have HZ:=hid hz
    clear hz
    go_wp2_with fail
    refine hce.mono ?_
    rintro e w1 ⟨rfl,b1⟩
    have K1:=H.call b1
    go_wp2_with fail
    go_ret
    refine ⟨⟨(k:Int),rfl,?_⟩,K1.below⟩
    rw [QM HC.out HZ.out]
    simp
   ·rw [hz] at hce
    have HZ:=hid hz
    clear hz
    go_wp2_with fail
    refine hce.mono ?_
    rintro e w1 ⟨rfl,b1⟩
    have K1:=H.call b1
    go_wp2_with fail
    go_roundw
    case rel=>exact ⟨k+1,by omega,by go_num,hid (VJ HC.out HZ.out HF.out),K1⟩
    case measure=>simp [intOf];omega
  ·have hks:k=n:=by omega
   go_wp2_with fail
   go_ret
   refine ⟨⟨-1,rfl,?_⟩,H.below⟩
   rw [HF.out,List.drop_eq_nil_of_le (by rw [HL.out];omega)]
   rfl
theorem Zj4 (M:Nat→Prop) (w:World) (hM:∀ b,M b→b<w.heap.size) (A:Option Addr) (n c:Nat) (l:List Ac) (r:Rk) (d b:Nat) (t:TypeId) (hD:Ro w M (AcsIn (d+1) A n l)) (hB:Ro w M (fun w=>w.heap[b]? =some (.cells #[.string r.tab,.string r.col,.int .i64 r.lo,.int .i64 r.hi] t (0,0)))) (hn:n≤4611686018427387904) (hok:∀ a∈l,a.sets.n≤1000000):
  Calls Tryz.prog 113 #[.slice A n c,ZcE b] w fun e w' =>e=.returned (.bool (!(l.all (Xo r))))∧Below w.heap.size w w' :=by
 go_enter Tryz.func113,Tryz.ntmps113
 go_wp2_with fail
 refine (Zj5 M w hM A n c l r d b t hD hB hn hok).mono ?_
 rintro e w1 ⟨⟨z,rfl,hz⟩,b1⟩
 have HZ:=hid hz
 clear hz
 go_wp2_with fail
 go_ret
 exact ⟨by first|rw [←HZ.out]<;>rfl|simp [←HZ.out],b1⟩
end
end Go.Proofs.YtnmnkbnmollpmaaGreatDoor

import Derived.Test.YtnmnkbnmollpmaaGreatDoorBdDscSaidMX
import Derived.Test.YtnmnkbnmollpmaaGreatDoorBdDscSaidMW
import Derived.Test.YtnmnkbnmollpmaaGreatDoorBdDscSaidMY
import Derived.Test.YtnmnkbnmollpmaaGreatDoorBdDscSaidMV
set_option linter.unusedVariables false
set_option linter.unusedSimpArgs false
set_option maxHeartbeats 64000000
set_option maxRecDepth 100000
namespace Go.Proofs.YtnmnkbnmollpmaaGreatDoor
section
open Go.RowKit
def Y7 (d:Dl):Bool:=decide (d.ins.length=0∧d.del.length=0∧d.upd.length=0)
def WH (a b:List Tb) (k:Nat):Bool:=((a.zip b).take k).all fun p=>(Zw p.1 p.2).1
def Ws (a b:List Tb) (k:Nat):List Dl:=(((a.zip b).take k).map fun p=>(Zw p.1 p.2).2).filter fun d=>!Y7 d
def Y6 (a b:List Tb):Bool × List Dl:=if Y2 a&&Y2 b&&decide (a.length=b.length)&&WH a b a.length then (true,Ws a b a.length) else (false,[])
theorem Zf0 {a b:List Tb} (h:Y2 a=false):Y6 a b=(false,[]):=by unfold Y6;rw [h];rfl
theorem Zf1 {a b:List Tb} (h:Y2 b=false):Y6 a b=(false,[]):=by unfold Y6;rw [h];simp
theorem Zf3 {a b:List Tb} (h:a.length≠b.length):Y6 a b=(false,[]):=by unfold Y6;rw [decide_eq_false h];simp
theorem Zab {a b:List Tb} {k:Nat} {x y:Tb} (hx:a[k]? =some x) (hy:b[k]? =some y):(a.zip b)[k]? =some (x,y):=List.getElem?_zip_eq_some.2 ⟨hx,hy⟩
theorem Zf2 {a b:List Tb} {k:Nat} {x y:Tb} (hx:a[k]? =some x) (hy:b[k]? =some y) (h:(Zw x y).1=false):Y6 a b=(false,[]):=by
 have hk:=(Kc.1 hx).1
 have:WH a b a.length=false:=by
  unfold WH
  rw [List.all_eq_false]
  refine ⟨(x,y),?_,by rw [h];simp⟩
  refine Ka (i:=k) ?_
  rw [List.getElem?_take,Lg hk]
  exact Zab hx hy
 unfold Y6
 rw [this]
 simp
theorem Ze9 {a b:List Tb} {k:Nat} {x y:Tb} (hx:a[k]? =some x) (hy:b[k]? =some y) (h:WH a b k=true) (hb:(Zw x y).1=true):WH a b (k+1)=true:=by
 unfold WH at h ⊢
 rw [Kq,Zab hx hy,List.all_append,h]
 simp [hb]
theorem Zax {a b:List Tb} {k:Nat} {x y:Tb} (hx:a[k]? =some x) (hy:b[k]? =some y):Ws a b (k+1)=Ws a b k++(if Y7 (Zw x y).2 then [] else [(Zw x y).2]):=by
 unfold Ws
 rw [Kq,Zab hx hy,Km,KY]
 congr 1
 cases h:Y7 (Zw x y).2<;>simp [h]
theorem ZaU {a b:List Tb} {n:Nat} (hn:a.length=n) (ha:Y2 a=true) (hb:Y2 b=true) (hl:a.length=b.length) (h:WH a b n=true):Y6 a b=(true,Ws a b n):=by
 subst hn
 unfold Y6
 rw [ha,hb,decide_eq_true hl,h]
 rfl
theorem zI {l:List Tb} (h:Y2 l=true):∀ t∈l,Zh t.nm t.cs t.nx t.rs=true:=fun t ht=>by
 obtain ⟨j,hj⟩:=List.getElem?_of_mem ht
 cases hb:Zh t.nm t.cs t.nx t.rs with
 | true=>rfl
 | false=>
  have:=zH (Kc.1 hj).1 (Zdh hj hb)
  rw [h] at this;cases this
theorem Ziu {rs l:List Row} {u:Upd} (h:u∈YF rs l):∃ r∈l,∃ o,Zj rs r.1=some o∧u=(r.1,o,r.2):=by
 obtain ⟨r,hr,h2⟩:=List.mem_filterMap.1 h
 split at h2
 ·rename_i o ho
  split at h2
  ·cases h2
  ·injection h2 with h2
   exact ⟨r,hr,o,ho,h2.symm⟩
 ·cases h2
theorem Ze7 {a b:Tb} (ha:Zh a.nm a.cs a.nx a.rs=true) (hb:Zh b.nm b.cs b.nx b.rs=true):
  (Zw a b).2.ins.length≤100∧(Zw a b).2.del.length≤100∧(Zw a b).2.upd.length≤100∧(∀ r∈(Zw a b).2.ins,r.2.length≤6)∧(∀ r∈(Zw a b).2.del,r.2.length≤6)∧∀ u∈(Zw a b).2.upd,u.2.1.length≤6∧u.2.2.length≤6:=by
 have h1:=(Qx ha).1
 have h2:=(Qx hb).1
 have h3:=Uz ha
 have h4:=Uz hb
 unfold Zw
 split
 ·refine ⟨?_,?_,?_,fun r hr=>?_,fun r hr=>?_,fun u hu=>?_⟩
  ·have:(Z4 a.rs b.rs).length≤b.rs.length:=List.length_filter_le _ _
   show (Z4 a.rs b.rs).length≤_
   omega
  ·have:(Z4 b.rs a.rs).length≤a.rs.length:=List.length_filter_le _ _
   show (Z4 b.rs a.rs).length≤_
   omega
  ·have:(YF a.rs b.rs).length≤b.rs.length:=List.length_filterMap_le _ _
   show (YF a.rs b.rs).length≤_
   omega
  ·have:=Qw hb (List.mem_filter.1 (show r∈Z4 a.rs b.rs from hr)).1;omega
  ·have:=Qw ha (List.mem_filter.1 (show r∈Z4 b.rs a.rs from hr)).1;omega
  ·obtain ⟨r,hr,o,ho,rfl⟩:=Ziu hu
   have k1:=Qw hb hr
   have k2:=Qw ha (ZbG ho)
   dsimp only at k1 k2 ⊢
   omega
 ·refine ⟨?_,?_,?_,fun r hr=>(nomatch hr),fun r hr=>(nomatch hr),fun u hu=>(nomatch hu)⟩<;>exact Lc _
def QH (l:List El) (w:World):Prop:=∀ x∈l,Wm x w
theorem ZgK {M:Nat→Prop} {w:World} {rs:List El} {r:El} (h:Ro w M (QH rs)) (k:Ro w M (Wm r)):Ro w M (QH (rs++[r])):=fun w2 h1 h2 x hx=>by
 rcases Kk.1 hx with hx|hx
 ·exact h w2 h1 h2 x hx
 ·simp at hx;subst hx;exact k w2 h1 h2
theorem ZgJ (w:World) (M:Nat→Prop):Ro w M (QH []):=fun _ _ _ r hr=>nomatch hr
theorem Zgw (l:List El) (x:El):XK (l++[x])=XK l++x.cells:=by simp [XK]
theorem ZgM {x:El} {w:World} (h:Wm x w):Y7 x.dl=decide (x.ni=0∧x.nd=0∧x.nu=0):=by
 have l1:x.li.length=x.ni:=h.1.len
 have l2:x.ld.length=x.nd:=h.2.1.len
 have l3:x.lu.length=x.nu:=h.2.2.len
 unfold Y7
 simp only [El.dl,List.length_map,l1,l2,l3]
theorem ZaS (l:List ByteArray) (c:ByteArray):YG l c=hasB l c:=by
 unfold YG;exact Bool.eq_iff_iff.2 (decide_eq_true_iff.trans Qd.symm)
def Zac (g:Nat) (A:Option Addr) (n c:Nat) (l:List ByteArray) (w:World):Prop:=w.heap[g]? =some (.cells #[.slice A n c] 46 (0,0))∧StrsIn A n l w
theorem ZeR (w:World) (g:Nat) (A:Option Addr) (n c:Nat) (l:List ByteArray) (s:ByteArray) (hx:Zac g A n c l w) (hn:n≤1000000):Calls Tryz.prog 155 #[.string s,.pointer (some ⟨g,0,none⟩)] w fun e w' =>e=.returned (.bool (hasB l s))∧w=w' :=by
 obtain ⟨q1,q2⟩:=hx
 have s0:=Li _ _ 0 _ _ _ q1
 clear q1
 have HQ:=hid q2
 clear q2
 go_enter Tryz.func155,Tryz.ntmps155
 go_wp2_with fail
 refine (JB w A n c l s HQ.out (by omega)).mono ?_
 rintro e w1 ⟨rfl,rfl⟩
 go_wp2_with fail
 go_ret
 exact ⟨by rw [ZaS]<;>rfl,rfl⟩
theorem UW {p:Tg→Bool} {ts outs:List Tg} {j:Nat} {x:Tg} (h:outs.map kTg=((ts.take j).filter p).map kTg) (hx:ts[j]? =some x) (hp:p x=false):outs.map kTg=((ts.take (j+1)).filter p).map kTg:=by
 rw [UB hx,KY,h];simp [hp]
theorem ZeQ {p:Tg→Bool} {ts outs:List Tg} {j:Nat} {x y:Tg} (h:outs.map kTg=((ts.take j).filter p).map kTg) (hx:ts[j]? =some x) (hp:p x=true) (hy:kTg y=kTg x):(outs++[y]).map kTg=((ts.take (j+1)).filter p).map kTg:=by
 rw [UB hx,KY,Km,Km,h];simp [hp,hy]
def ZdQ (w:World) (M:Nat→Prop) (l:List Tg) (e:Ending) (w' :World):Prop:=∃ (A:Option Addr) (n c:Nat) (k:List Tg),e=.returned (.slice A n c)∧n≤8∧k.map kTg=l.map kTg∧(∀ y∈k,TgGd 5 y)∧Ro w' M (TgsIn 5 A n k)∧Below w.heap.size w w'
theorem ZeS (M:Nat→Prop) (w:World) (hM:∀ b,M b→b<w.heap.size) (A:Option Addr) (n c:Nat) (ts:List Tg) (tab:ByteArray) (B:Option Addr) (m q:Nat) (sl:List ByteArray) (hT:Ro w M (TgsIn 5 A n ts)) (hS:Ro w Zc (StrsIn B m sl)) (hn:n≤8) (hm:m≤1000000) (hG:∀ t∈ts,TgEd t):Calls Tryz.prog 119 #[.slice A n c,.string tab,.int .i64 2,.slice B m q,.bool true] w fun e w' =>ZdQ w M (ts.filter (Xb tab sl)) e w' :=by
 have HL:=hid hT.now.len
 have HG:=hid hG
 have HS:=hid hS
 have K0:=((((Hold.start M w hM).add (hT.less (by simp [Mut]))).Za #[.slice B m q] 46).add (S:=Ga 5 []) (fun w2 _ _ x hx=>(nomatch hx))).nil 48 11
 clear hT hS hG
 obtain ⟨g8,hg8⟩:∃ g,g=w.heap.size:=⟨_,rfl⟩
 rw [←hg8] at K0
 go_enter Tryz.func119,Tryz.ntmps119
 go_upto_region 1 with fail
 rw [←hg8]
 have HG8:=hid hg8
 clear hg8
 generalize World.alloc _ _=w1 at K0 ⊢
 go_wp2_with fail
 go_loopw [11,17] (fun ov iv wr=>∃ (j k cap:Nat) (O:Option Addr) (outs:List Tg),j≤n∧k≤j∧iv=.int .i64 j∧ov=.slice O k cap∧Hid (outs.map kTg=((ts.take j).filter (Xb tab sl)).map kTg∧∀ y∈outs,TgGd 5 y)∧Hold M none w wr [.own 48 11 (.slice O k cap) k (Vy outs),.ro (Ga 5 outs),.cst g8 46 #[.slice B m q],.ro (TgsIn 5 A n ts)]) (fun _ iv _=>n - (intOf iv).toNat)
 case atStart=>exact ⟨0,0,0,none,[],by omega,by omega,rfl,rfl,hid ⟨rfl,fun y hy=>(nomatch hy)⟩,K0⟩
 case round=>
  clear K0
  obtain ⟨j,k,cap,O,outs,hj,hkj,rfl,rfl,HO,H⟩:=hrel
  by_cases hlt:j<n
  ·have j0:(0:Int)≤(j:Int):=by omega
   have j1:(j:Int)<(n:Int):=by omega
   obtain ⟨⟨tn,tt,tb,te,⟨oA,on,oc,ol⟩,tch,⟨pA,pn,pc,pl⟩,⟨qA,qn,qc,ql⟩,⟨rA,rn,rc,rl⟩,⟨kA,kn,kc,kl⟩,⟨aA,an,ac,al⟩⟩,hx⟩:=Zl HL.out hlt
   obtain ⟨b,o,rfl,hb,hc,-⟩:=(H.ro 3 rfl).now.at_ hx
   have x0:=hc 0 _ (by omega) rfl
   have x1:=hc 1 _ (by omega) rfl
   have x2:=hc 2 _ (by omega) rfl
   have x3:=hc 3 _ (by omega) rfl
   have x4:=hc 4 _ (by omega) rfl
   have x5:=hc 5 _ (by omega) rfl
   have x6:=hc 6 _ (by omega) rfl
   have x7:=hc 7 _ (by omega) rfl
   have x8:=hc 8 _ (by omega) rfl
   have x9:=hc 9 _ (by omega) rfl
   have x10:=hc 10 _ (by omega) rfl
   simp only [Nat.add_zero,SlP.v] at x0 x1 x2 x3 x4 x5 x6 x7 x8 x9 x10
   clear hc
   have hmx:=Ka hx
   have HX:=hid hx
   have HGX:=hid (HG.out _ hmx)
   have K1:=(H.add (S:=TgIn 5 ⟨tn,tt,tb,te,⟨oA,on,oc,ol⟩,tch,⟨pA,pn,pc,pl⟩,⟨qA,qn,qc,ql⟩,⟨rA,rn,rc,rl⟩,⟨kA,kn,kc,kl⟩,⟨aA,an,ac,al⟩⟩) ((H.ro 3 rfl).imp fun w2 h2=>h2.2 _ hmx)).Za #[.string tn,.string tt,.bool tb,.int .i64 te,.slice oA on oc,.bool tch,.slice pA pn pc,.slice qA qn qc,.slice rA rn rc,.slice kA kn kc,.slice aA an ac] 48
   clear H hx hmx
   obtain ⟨g9,hg9⟩:∃ g,g=wr.heap.size:=⟨_,rfl⟩
   rw [←hg9] at K1
   go_upto_region 5 with fail
   rw [←hg9]
   have HG9:=hid hg9
   clear hg9 x0 x1 x2 x3 x4 x5 x6 x7 x8 x9 x10
   generalize World.alloc _ _=w4 at K1 ⊢
   have F1:=K1.facts
   simp only [zg] at F1
   cases tb
   ·have HP:=hid (show Xb tab sl ⟨tn,tt,false,te,⟨oA,on,oc,ol⟩,tch,⟨pA,pn,pc,pl⟩,⟨qA,qn,qc,ql⟩,⟨rA,rn,rc,rl⟩,⟨kA,kn,kc,kl⟩,⟨aA,an,ac,al⟩⟩=false from rfl)
    go_wp2_with fail
    go_roundw
    case rel=>exact ⟨j+1,k,cap,O,outs,by omega,by omega,by go_num,by first|rfl|trivial,hid ⟨UW HO.out.1 HX.out HP.out,HO.out.2⟩,K1.drop (((Kb _ _).cons _))⟩
    case measure=>simp [intOf];omega
   ·by_cases htab:tt=tab
    ·have e1:(tt.toList==tab.toList)=true:=by simp [htab]
     have e2:(tt.toList !=tab.toList)=false:=by simp [htab]
     by_cases hev:te=2
     ·have e3:(te !=2)=false:=by simp [hev]
      cases tch
      ·have HP:=hid (show Xb tab sl ⟨tn,tt,true,te,⟨oA,on,oc,ol⟩,false,⟨pA,pn,pc,pl⟩,⟨qA,qn,qc,ql⟩,⟨rA,rn,rc,rl⟩,⟨kA,kn,kc,kl⟩,⟨aA,an,ac,al⟩⟩=false from by simp [Xb])
       clear htab hev
       go_wp2_with fail
       go_roundw
       case rel=>exact ⟨j+1,k,cap,O,outs,by omega,by omega,by go_num,by first|rfl|trivial,hid ⟨UW HO.out.1 HX.out HP.out,HO.out.2⟩,K1.drop (((Kb _ _).cons _))⟩
       case measure=>simp [intOf];omega
      ·have HGG:=hid (HGX.out.b rfl)
       have HOL:=hid (show ol.length=on from SlP.In.len (s:=⟨oA,on,oc,ol⟩) (k:=1) (cel:=Yg) (P:=fun _ _=>True) (K1.ro 1 rfl).now.1 (by omega) (fun _=>rfl))
       have hon:on≤8:=by have h2:ol.length≤8:=HGX.out.c;have:=HOL.out;omega
       have HPP:=hid (show Xb tab sl ⟨tn,tt,true,te,⟨oA,on,oc,ol⟩,true,⟨pA,pn,pc,pl⟩,⟨qA,qn,qc,ql⟩,⟨rA,rn,rc,rl⟩,⟨kA,kn,kc,kl⟩,⟨aA,an,ac,al⟩⟩=(decide (ol=[])||ol.any fun s=>hasB sl s) from by simp [Xb,htab,hev])
       clear htab hev
       have hc1:StrsIn oA on ol w4∧Zac g8 B m q sl w4:=⟨Zdm (K1.ro 1 rfl).now.1.1,K1.Zg 4 rfl,HS.out w4 K1.below.size (fun b hb _=>K1.below.block b hb)⟩
       go_wp2_with fail
       refine (ZcZ _ 155 _ (hasB sl) (fun _ _=>rfl) (fun s=>ZeR _ g8 B m q sl s hc1.2 hm) oA on oc ol hc1.1 (by omega)).mono ?_
       rintro e w5 ⟨rfl,rfl⟩
       clear hc1
       obtain ⟨z,hz⟩:∃ z:Bool,(ol.any fun s=>hasB sl s)=z:=⟨_,rfl⟩
       rw [hz]
       have HZ:=hid hz
       clear hz
       have hon0:((on:Int)==0)=decide (ol=[]):=by
        rw [Bool.eq_iff_iff,beq_iff_eq,decide_eq_true_iff,←List.length_eq_zero_iff,HOL.out];omega
       obtain ⟨y,hy⟩:∃ y:Bool,decide (ol=[])=y:=⟨_,rfl⟩
       rw [hy] at hon0
       have HY:=hid hy
       clear hy
       go_upto_region 7 with fail
       go_cut [56] from 46 to 56 (fun v wx=>v=.bool (y||z)∧wx=w4)
       case first=>
        cases y
        ·go_wp2_with fail
         go_meet
         exact ⟨by first|rfl|simp,rfl⟩
        ·go_wp2_with fail
         go_meet
         exact ⟨by first|rfl|simp,rfl⟩
       case rest=>
        obtain ⟨rfl,rfl⟩:=hcut
        clear hon0
        rw [HY.out,HZ.out] at HPP
        clear HY HZ
        generalize (y||z)=yz at *
        cases yz
        ·clear hon
         go_wp2_with fail
         go_roundw
         case rel=>exact ⟨j+1,k,cap,O,outs,by omega,by omega,by go_num,by first|rfl|trivial,hid ⟨UW HO.out.1 HX.out HPP.out,HO.out.2⟩,K1.drop (((Kb _ _).cons _))⟩
         case measure=>simp [intOf];omega
        ·go_wp2_with fail
         refine (ZfZ 5 (Mut M _) _ K1.Zb ⟨tn,tt,true,te,⟨oA,on,oc,ol⟩,true,⟨pA,pn,pc,pl⟩,⟨qA,qn,qc,ql⟩,⟨rA,rn,rc,rl⟩,⟨kA,kn,kc,kl⟩,⟨aA,an,ac,al⟩⟩ (K1.ro 1 rfl) HGG.out).mono ?_
         rintro e w5 ⟨⟨yn,yt,yb,ye,⟨yoA,yon,yoc,yol⟩,ych,⟨ypA,ypn,ypc,ypl⟩,⟨yqA,yqn,yqc,yql⟩,⟨yrA,yrn,yrc,yrl⟩,⟨ykA,ykn,ykc,ykl⟩,⟨yaA,yan,yac,yal⟩⟩,rfl,hyg,hcp,ry,b5⟩
         have HYG:=hid hyg
         have HYK:=hid hcp.k
         have K2:=(K1.call b5).add ry
         clear K1 F1 hyg hcp ry b5
         rw [show Tg.val ⟨yn,yt,yb,ye,⟨yoA,yon,yoc,yol⟩,ych,⟨ypA,ypn,ypc,ypl⟩,⟨yqA,yqn,yqc,yql⟩,⟨yrA,yrn,yrc,yrl⟩,⟨ykA,ykn,ykc,ykl⟩,⟨yaA,yan,yac,yal⟩⟩=.agg #[.string yn,.string yt,.bool yb,.int .i64 ye,.slice yoA yon yoc,.bool ych,.slice ypA ypn ypc,.slice yqA yqn yqc,.slice yrA yrn yrc,.slice ykA ykn ykc,.slice yaA yan yac] from rfl]
         have F2:=K2.facts
         simp only [zg] at F2
         go_wp2_with (at_builtin;go_must (refine ZJ K2 3 rfl Tryz.ZgH #[.string yn,.string yt,.bool yb,.int .i64 ye,.slice yoA yon yoc,.bool ych,.slice ypA ypn ypc,.slice yqA yqn yqc,.slice yrA yrn yrc,.slice ykA ykn ykc,.slice yaA yan yac] rfl (.tmp 57) (.tmp 60) rfl rfl _ (by first|rfl|simp) rfl rfl (by intro u hu;simp at hu;rcases hu with rfl|rfl|rfl|rfl|rfl|rfl|rfl|rfl|rfl|rfl|rfl<;>rfl) (by omega) (by omega) ?_);intro gA capA wA hcA hmA KB;simp only [zl] at KB)
         rw [show Vy outs++(#[.string yn,.string yt,.bool yb,.int .i64 ye,.slice yoA yon yoc,.bool ych,.slice ypA ypn ypc,.slice yqA yqn yqc,.slice yrA yrn yrc,.slice ykA ykn ykc,.slice yaA yan yac]:Array Value).toList=Vy (outs++[⟨yn,yt,yb,ye,⟨yoA,yon,yoc,yol⟩,ych,⟨ypA,ypn,ypc,ypl⟩,⟨yqA,yqn,yqc,yql⟩,⟨yrA,yrn,yrc,yrl⟩,⟨ykA,ykn,ykc,ykl⟩,⟨yaA,yan,yac,yal⟩⟩]) from (ZlR outs ⟨yn,yt,yb,ye,⟨yoA,yon,yoc,yol⟩,ych,⟨ypA,ypn,ypc,ypl⟩,⟨yqA,yqn,yqc,yql⟩,⟨yrA,yrn,yrc,yrl⟩,⟨ykA,ykn,ykc,ykl⟩,⟨yaA,yan,yac,yal⟩⟩).symm] at KB
         have hR:Ro _ _ (Ga 5 (outs++[⟨yn,yt,yb,ye,⟨yoA,yon,yoc,yol⟩,ych,⟨ypA,ypn,ypc,ypl⟩,⟨yqA,yqn,yqc,yql⟩,⟨yrA,yrn,yrc,yrl⟩,⟨ykA,ykn,ykc,ykl⟩,⟨yaA,yan,yac,yal⟩⟩])):=((KB.ro 4 rfl).and (KB.ro 0 rfl)).imp fun w2 h2 y hy=>by
          rcases Kk.1 hy with hy|hy
          ·exact h2.1 y hy
          ·simp only [List.mem_cons,List.not_mem_nil,or_false] at hy
           subst hy
           exact h2.2
         have KC:=(KB.ZT 4 rfl hR).pick [3,4,5,6] (by decide) rfl
         simp only [List.set_cons_zero,List.set_cons_succ,List.filterMap_cons,List.filterMap_nil,List.getElem?_cons_zero,List.getElem?_cons_succ] at KC
         go_roundw
         case rel=>exact ⟨j+1,k+1,capA,_,outs++[⟨yn,yt,yb,ye,⟨yoA,yon,yoc,yol⟩,ych,⟨ypA,ypn,ypc,ypl⟩,⟨yqA,yqn,yqc,yql⟩,⟨yrA,yrn,yrc,yrl⟩,⟨ykA,ykn,ykc,ykl⟩,⟨yaA,yan,yac,yal⟩⟩],by omega,by omega,by go_num,by first|rfl|trivial,hid ⟨ZeQ HO.out.1 HX.out HPP.out HYK.out,fun y hy=>by
          rcases Kk.1 hy with hy|hy
          ·exact HO.out.2 y hy
          ·simp only [List.mem_cons,List.not_mem_nil,or_false] at hy
           subst hy
           exact HYG.out⟩,KC⟩
         case measure=>simp [intOf];omega
     ·have e3:(te !=2)=true:=by simp [hev]
      have HP:=hid (show Xb tab sl ⟨tn,tt,true,te,⟨oA,on,oc,ol⟩,tch,⟨pA,pn,pc,pl⟩,⟨qA,qn,qc,ql⟩,⟨rA,rn,rc,rl⟩,⟨kA,kn,kc,kl⟩,⟨aA,an,ac,al⟩⟩=false from by simp [Xb,hev])
      clear htab hev
      go_wp2_with fail
      go_roundw
      case rel=>exact ⟨j+1,k,cap,O,outs,by omega,by omega,by go_num,by first|rfl|trivial,hid ⟨UW HO.out.1 HX.out HP.out,HO.out.2⟩,K1.drop (((Kb _ _).cons _))⟩
      case measure=>simp [intOf];omega
    ·have e1:(tt.toList==tab.toList)=false:=by rw [beq_eq_false_iff_ne];exact fun h=>htab (Yc h)
     have e2:(tt.toList !=tab.toList)=true:=by rw [bne_iff_ne];exact fun h=>htab (Yc h)
     have HP:=hid (show Xb tab sl ⟨tn,tt,true,te,⟨oA,on,oc,ol⟩,tch,⟨pA,pn,pc,pl⟩,⟨qA,qn,qc,ql⟩,⟨rA,rn,rc,rl⟩,⟨kA,kn,kc,kl⟩,⟨aA,an,ac,al⟩⟩=false from by simp [Xb,htab])
     clear htab
     go_wp2_with fail
     go_roundw
     case rel=>exact ⟨j+1,k,cap,O,outs,by omega,by omega,by go_num,by first|rfl|trivial,hid ⟨UW HO.out.1 HX.out HP.out,HO.out.2⟩,K1.drop (((Kb _ _).cons _))⟩
     case measure=>simp [intOf];omega
  ·obtain rfl:n=j:=by omega
   go_wp2_with fail
   go_ret
   have KZ:=H.Zq 0 rfl
   simp only [List.set_cons_zero] at KZ
   have hR:Ro _ _ (TgsIn 5 O k outs):=((KZ.ro 0 rfl).and (KZ.ro 1 rfl)).imp fun w2 h2=>⟨h2.1,h2.2⟩
   exact ⟨O,k,cap,outs,rfl,by omega,by
    have h:=HO.out.1
    rwa [Kh (by rw [HL.out];exact Kg _)] at h,HO.out.2,hR.less (fun b hb=>.inl hb),KZ.below⟩
def bW:Nat→Nat
 | 0=>1
 | d+1=>2+12 * bW d
theorem XD {α:Type} {f:α→Nat} {b k:Nat} {l:List α} (h:∀ x∈l,f x≤b) (hk:l.length≤k):(l.map f).sum≤k * b:=by
 have h1:(l.map f).sum≤l.length * b:=by
  clear hk
  induction l with
  | nil=>simp
  | cons x l ih=>
   have h2:=h x (Kl ..)
   have h3:=ih fun y hy=>h y (Kr _ hy)
   rw [List.map_cons,List.sum_cons,List.length_cons,Nat.succ_mul]
   omega
 exact KI h1 (Nat.mul_le_mul_right _ hk)
theorem WL:∀ {d:Nat} {e:Ex},Yw d e→exW d e≤bW d
 | 0,_,h=>h.elim
 | d+1,e,⟨_,h4,h2,h3⟩=>by
  rw [QZ]
  have a1:ZK d e.args≤3 * bW d:=XD (fun x hx=>WL (h2 x hx)) h4.2.1
  have a2:YT d e.sub≤1 * (1+9 * bW d):=XD (fun q hq=>by
   have b1:ZK d q.items≤8 * bW d:=XD (fun x hx=>WL ((h3 q hq).2.2.1 x hx)) (h3 q hq).2.1.1
   have b2:ZK d q.wh≤1 * bW d:=XD (fun x hx=>WL ((h3 q hq).2.2.2 x hx)) (h3 q hq).2.1.2
   unfold quW
   omega) h4.2.2
  unfold bW
  omega
theorem ZeF {d:Nat} {a:Ac} (h:AcGd d a):acW d a≤18+82 * bW d:=by
 have a1:rrW d a.rows.l≤8 * (1+8 * bW d):=XD (fun r hr=>by
  have b1:ZK d r.l≤8 * bW d:=XD (fun x hx=>WL ((h.r.2.2 r hr).2.2 x hx)) (h.r.2.2 r hr).2.1
  omega) h.r.2.1
 have a2:Wl d a.sets.l≤8 * (1+bW d):=XD (fun s hs=>by
  have:=WL (h.s.2.2 s hs)
  omega) h.s.2.1
 have a3:YT d a.qs.l≤1 * (1+9 * bW d):=XD (fun q hq=>by
  have b1:ZK d q.items≤8 * bW d:=XD (fun x hx=>WL ((h.q.2.2 q hq).2.2.1 x hx)) (h.q.2.2 q hq).2.1.1
  have b2:ZK d q.wh≤1 * bW d:=XD (fun x hx=>WL ((h.q.2.2 q hq).2.2.2 x hx)) (h.q.2.2 q hq).2.1.2
  unfold quW
  omega) h.q.2.1
 have a4:ZK d a.wh.l≤1 * bW d:=XD (fun x hx=>WL (h.h.2.2 x hx)) h.h.2.1
 unfold acW
 omega
theorem ZlT {d:Nat} {t:Tg} (h:TgGd d t):tgW d t≤72+329 * bW d:=by
 have a1:ZK d t.cond.l≤1 * bW d:=XD (fun x hx=>WL (h.h.2.2 x hx)) h.h.2.1
 have a2:WF d t.acts.l≤4 * (18+82 * bW d):=XD (fun a ha=>ZeF (h.a.2.2 a ha)) h.a.2.1
 unfold tgW
 omega
theorem Zc8 {d:Nat}:∀ {l:List Ac},(∀ a∈l,AcGd d a)→(ZQ l).length≤l.length * 8
 | [],_=>Lc _
 | a::l,h=>by
  have ih:=Zc8 (l:=l) fun x hx=>h x (Kr _ hx)
  have h1:=(h a (Kl ..)).s.2.1
  unfold ZQ at *
  rw [List.flatMap_cons,List.length_append,List.length_cons]
  split
  ·omega
  ·simp only [List.length_nil];omega
theorem AcIn.lens {d:Nat} {a:Ac} {w:World} (h:AcIn d a w):a.sets.l.length=a.sets.n∧a.wh.l.length=a.wh.n:=
 ⟨SlP.In.len h.2.2.1 (by omega) (fun _=>rfl),SlP.In.len h.2.2.2 (by omega) (fun _=>rfl)⟩
theorem Zhi {t:Tg} {w:World} (hi:TgIn 5 t w) (h:TgGd 5 t):TgFit 5 t:=by
 have n1:t.acts.l.length=t.acts.n:=SlP.In.len hi.2.2.2.2.2 (by omega) (fun _=>rfl)
 have n2:t.rank.l.length=t.rank.n:=SlP.In.len hi.2.2.2.1 (by omega) (fun _=>rfl)
 have h1:=h.a.2.1
 have h2:=h.r.2.1
 have h3:=Zc8 h.a.2.2
 have h4:=ZlT h
 have h5:bW 5=294074:=rfl
 refine ⟨by omega,by omega,by rw [h5] at h4;omega,fun a ha=>?_,by omega⟩
 have m1:=((hi.2.2.2.2.2).2 a ha).lens
 have m2:=(h.a.2.2 a ha).s.2.1
 have m3:=(h.a.2.2 a ha).h.2.1
 omega
theorem Zfx {l ts:List Tg} {a:Ac} (h:l.map kTg=(ts.filter (Xb a.tab (YZ a))).map kTg) (s:ByteArray):(s∈YZ a∨∃ y∈l,y.before=true∧y.each=true∧s∈YE y)↔XX ts a s=true:=by
 unfold XX
 rw [Bool.or_eq_true,Qd,List.any_eq_true]
 refine or_congr Iff.rfl ⟨?_,?_⟩
 ·rintro ⟨y,hy,h1,h2,h3⟩
  have h4:kTg y∈(ts.filter (Xb a.tab (YZ a))).map kTg:=by rw [←h];exact Ko hy
  obtain ⟨t,ht,e⟩:=Kt.1 h4
  obtain ⟨h5,h6⟩:=List.mem_filter.1 ht
  have e3:YE t=YE y:=congrArg (fun x=>x.2.2) e
  exact ⟨t,h5,by rw [h6,e3,Bool.true_and,Qd];exact h3⟩
 ·rintro ⟨t,ht,hx⟩
  rw [Bool.and_eq_true,Qd] at hx
  have h4:kTg t∈l.map kTg:=by rw [h];exact Ko (List.mem_filter.2 ⟨ht,hx.1⟩)
  obtain ⟨y,hy,e⟩:=Kt.1 h4
  have e1:y.before=t.before:=congrArg (fun x=>x.1) e
  have e2:y.each=t.each:=congrArg (fun x=>x.2.1) e
  have e3:YE y=YE t:=congrArg (fun x=>x.2.2) e
  have ha:=hx.1
  unfold Xb at ha
  simp only [Bool.and_eq_true] at ha
  exact ⟨y,hy,by rw [e1];exact ha.1.1.1.1,by rw [e2];exact ha.1.2,by rw [e3];exact hx.2⟩
theorem Zfy {l:List Tg} {j:Nat} {y:Tg} {sa xs zs:List ByteArray} (h:∀ s,s∈xs↔s∈sa∨∃ y∈l.take j,y.before=true∧y.each=true∧s∈YE y) (hy:l[j]? =some y) (hz:∀ s,s∈zs↔(y.before=true∧y.each=true∧s∈YE y)):∀ s,s∈xs++zs↔s∈sa∨∃ y∈l.take (j+1),y.before=true∧y.each=true∧s∈YE y:=by
 intro s
 rw [Kk,h,hz,UB hy,or_assoc]
 refine or_congr Iff.rfl ⟨?_,?_⟩
 ·rintro (⟨x,hx,h1⟩|h1)
  ·exact ⟨x,Kk.2 (.inl hx),h1⟩
  ·exact ⟨y,Kk.2 (.inr (List.mem_singleton.2 rfl)),h1⟩
 ·rintro ⟨x,hx,h1⟩
  rcases Kk.1 hx with hx|hx
  ·exact .inl ⟨x,hx,h1⟩
  ·rw [List.mem_singleton] at hx;subst hx;exact .inr h1
def ZdT (w:World) (M:Nat→Prop) (ts:List Tg) (a:Ac) (e:Ending) (w' :World):Prop:=∃ (B:Option Addr) (m q:Nat) (xs:List ByteArray),e=.returned (.slice B m q)∧m≤9223372036854775807∧Ro w' M (StrsIn B m xs)∧(∀ s,s∈xs↔XX ts a s=true)∧Below w.heap.size w w'
theorem Zft (M:Nat→Prop) (w:World) (hM:∀ b,M b→b<w.heap.size) (a:Ac) (A:Option Addr) (n c:Nat) (ts:List Tg) (ha:Ro w M (AcIn 5 a)) (hT:Ro w M (TgsIn 5 A n ts)) (hn:n≤8) (hG:∀ t∈ts,TgEd t) (hs:a.sets.l.length≤8):Calls Tryz.prog 77 #[a.val,.slice A n c] w fun e w' =>ZdT w M ts a e w' :=by
 have HG:=hid hG
 have hsn:a.sets.n≤8:=by have:=ha.now.lens.1;omega
 have HAL:=hid (show (YZ a).length≤8 from by unfold YZ;split<;>simp;exact hs)
 have HCM:=hid (fun l h=>Zfx (l:=l) (ts:=ts) (a:=a) h)
 obtain ⟨ak,atab,⟨arA,arn,arc,arl⟩,⟨aqA,aqn,aqc,aql⟩,⟨asA,asn,asc,asl⟩,⟨awA,awn,awc,awl⟩,atext⟩:=a
 have K0:=(((Hold.start M w hM).add (hT.less (by simp [Mut]))).add (ha.less (by simp [Mut,Hp.foot]))).Za #[.int .i64 ak,.string atab,.slice arA arn arc,.slice aqA aqn aqc,.slice asA asn asc,.slice awA awn awc,.string atext] 44
 clear hT ha hG
 obtain ⟨g2,hg2⟩:∃ g,g=w.heap.size:=⟨_,rfl⟩
 rw [←hg2] at K0
 have hc2:=Zav (Mut M _) _ K0.Zb ⟨ak,atab,⟨arA,arn,arc,arl⟩,⟨aqA,aqn,aqc,aql⟩,⟨asA,asn,asc,asl⟩,⟨awA,awn,awc,awl⟩,atext⟩ 5 (K0.ro 1 rfl) (by simp only at hsn ⊢;omega)
 simp only [Ac.val] at hc2 ⊢
 go_enter Tryz.func77,Tryz.ntmps77
 go_upto_region 1 with fail
 rw [←hg2]
 have HG2:=hid hg2
 clear hg2
 generalize World.alloc _ _=w1 at K0 hc2 ⊢
 have F0:=K0.facts
 simp only [zg] at F0
 go_wp2_with fail
 refine hc2.mono ?_
 rintro e w2 ⟨A1,n1,c1,rfl,hl1,ho1,b1⟩
 have HL1:=hid hl1
 have K1:=K0.QQ b1 ho1
 have hS:=((K1.Zq 0 rfl).ro 0 rfl).less (M' :=Zc) zn
 generalize hSA:YZ ⟨ak,atab,⟨arA,arn,arc,arl⟩,⟨aqA,aqn,aqc,aql⟩,⟨asA,asn,asc,asl⟩,⟨awA,awn,awc,awl⟩,atext⟩=SA at *
 clear K0 F0 hl1 ho1 b1 hc2
 have HSA:=hid hSA
 clear hSA
 have F1:=K1.facts
 simp only [zg] at F1
 go_wp2_with fail
 refine (ZeS (Mut M _) _ K1.Zb A n c ts atab A1 n1 c1 SA (K1.ro 3 rfl) hS hn (by have:=HAL.out;have:=HL1.out;omega) HG.out).mono ?_
 rintro e w3 ⟨A2,n2,c2,l2,rfl,hn2,hk2,hg2,r2,b2⟩
 have HK2:=hid hk2
 have HG2:=hid hg2
 have HL2:=hid r2.now.len
 have K2:=((K1.call b2).add r2).pick [1,0] (by decide) rfl
 simp only [List.filterMap_cons,List.filterMap_nil,List.getElem?_cons_zero,List.getElem?_cons_succ] at K2
 clear K1 F1 hS hk2 hg2 r2 b2
 go_wp2_with fail
 go_loopw [5,18] (fun ov iv wr=>∃ (j k cap:Nat) (O:Option Addr) (xs:List ByteArray),j≤n2∧k≤1000000+j * 549755813888∧iv=.int .i64 j∧ov=.slice O k cap∧Hid (∀ s,s∈xs↔s∈SA∨∃ y∈l2.take j,y.before=true∧y.each=true∧s∈YE y)∧Hold M none w wr [.own 9 1 (.slice O k cap) k (Zv xs),.ro (TgsIn 5 A2 n2 l2)]) (fun _ iv _=>n2 - (intOf iv).toNat)
 case atStart=>exact ⟨0,n1,c1,A1,SA,by omega,by have:=HAL.out;have:=HL1.out;omega,rfl,rfl,hid (fun s=>⟨fun h=>.inl h,fun h=>h.elim id fun ⟨y,hy,_⟩=>(nomatch hy)⟩),K2⟩
 case round=>
  clear K2
  obtain ⟨j,k,cap,O,xs,hj,hkj,rfl,rfl,HO,H⟩:=hrel
  by_cases hlt:j<n2
  ·have j0:(0:Int)≤(j:Int):=by omega
   have j1:(j:Int)<(n2:Int):=by omega
   obtain ⟨⟨tn,tt,tb,te,⟨oA,on,oc,ol⟩,tch,⟨pA,pn,pc,pl⟩,⟨qA,qn,qc,ql⟩,⟨rA,rn,rc,rl⟩,⟨kA,kn,kc,kl⟩,⟨aA,an,ac,al⟩⟩,hx⟩:=Zl HL2.out hlt
   obtain ⟨b,o,rfl,hb,hc,-⟩:=(H.ro 1 rfl).now.at_ hx
   have x0:=hc 0 _ (by omega) rfl
   have x1:=hc 1 _ (by omega) rfl
   have x2:=hc 2 _ (by omega) rfl
   have x3:=hc 3 _ (by omega) rfl
   have x4:=hc 4 _ (by omega) rfl
   have x5:=hc 5 _ (by omega) rfl
   have x6:=hc 6 _ (by omega) rfl
   have x7:=hc 7 _ (by omega) rfl
   have x8:=hc 8 _ (by omega) rfl
   have x9:=hc 9 _ (by omega) rfl
   have x10:=hc 10 _ (by omega) rfl
   simp only [Nat.add_zero,SlP.v] at x0 x1 x2 x3 x4 x5 x6 x7 x8 x9 x10
   clear hc
   have hmx:=Ka hx
   have HX:=hid hx
   have K1:=(H.add (S:=TgIn 5 ⟨tn,tt,tb,te,⟨oA,on,oc,ol⟩,tch,⟨pA,pn,pc,pl⟩,⟨qA,qn,qc,ql⟩,⟨rA,rn,rc,rl⟩,⟨kA,kn,kc,kl⟩,⟨aA,an,ac,al⟩⟩) ((H.ro 1 rfl).imp fun w2 h2=>h2.2 _ hmx)).Za #[.string tn,.string tt,.bool tb,.int .i64 te,.slice oA on oc,.bool tch,.slice pA pn pc,.slice qA qn qc,.slice rA rn rc,.slice kA kn kc,.slice aA an ac] 48
   have HFIT:=hid (Zhi (K1.ro 1 rfl).now (HG2.out _ hmx))
   clear H hx hmx
   obtain ⟨g9,hg9⟩:∃ g,g=wr.heap.size:=⟨_,rfl⟩
   rw [←hg9] at K1
   go_upto_region 5 with fail
   rw [←hg9]
   have HG9:=hid hg9
   clear hg9 x0 x1 x2 x3 x4 x5 x6 x7 x8 x9 x10
   generalize World.alloc _ _=w4 at K1 ⊢
   have F1:=K1.facts
   simp only [zg] at F1
   have hr:=ZcK (Mut M _) _ K1.Zb ⟨tn,tt,tb,te,⟨oA,on,oc,ol⟩,tch,⟨pA,pn,pc,pl⟩,⟨qA,qn,qc,ql⟩,⟨rA,rn,rc,rl⟩,⟨kA,kn,kc,kl⟩,⟨aA,an,ac,al⟩⟩ 5 (K1.ro 1 rfl) HFIT.out
   simp only [Tg.val] at hr
   go_wp2_with fail
   refine hr.mono ?_
   rintro e w5 ⟨RB,RC,rm,rmc,rk,rkc,zs,rfl,hrk,rz,hzs,b5⟩
   have HZS:=hid hzs
   have K2:=((K1.call b5).add rz)
   clear K1 F1 hr hzs rz b5
   have hrr:=hid (show SlR 1 RC rk (Zv zs) w5 from (K2.ro 0 rfl).now)
   have h1:=hid (Zi3 zs)
   go_wp2_with (at_builtin;go_must (refine ZX K2 3 rfl Tryz.QV hrr.out rfl (.tmp 27) (.tmp 28) rfl rfl rfl h1.out (by omega) (by omega) ?_);intro C' cap' w6 hc1 hm1 K3)
   rw [show Zv xs++Zv zs=Zv (xs++zs) from by simp [Zv]] at K3
   simp only [zl] at K3
   have K4:=K3.pick [3,4] (by decide) rfl
   simp only [List.filterMap_cons,List.filterMap_nil,List.getElem?_cons_zero,List.getElem?_cons_succ] at K4
   clear K2 K3
   go_roundw
   case rel=>exact ⟨j+1,k+rk,cap',C',xs++zs,by omega,by omega,by go_num,by first|rfl|trivial,hid (Zfy HO.out HX.out HZS.out),K4⟩
   case measure=>simp [intOf];omega
  ·obtain rfl:n2=j:=by omega
   have h:=HO.out
   rw [Kh (by rw [HL2.out];exact Kg _)] at h
   have HF:=hid h
   clear h
   go_wp2_with fail
   refine (zF H 0 rfl (by omega)).mono ?_
   rintro e w4 ⟨rfl,ys,hys,K4⟩
   simp only [List.set_cons_zero] at K4
   have HY:=hid (fun s:ByteArray=>hys.mem_iff (a:=s))
   clear H hys
   go_wp2_with fail
   refine (Gu K4 0 rfl (by omega)).mono ?_
   rintro e w5 ⟨q5,zs,rfl,hq5,hz5,K5⟩
   simp only [List.set_cons_zero] at K5
   have HZ:=hid hz5
   have K6:=K5.Zq 0 rfl
   simp only [List.set_cons_zero] at K6
   clear K4 K5 hz5
   go_wp2_with fail
   go_ret
   exact ⟨O,q5,cap,zs,rfl,by omega,(K6.ro 0 rfl).less (fun b hb=>.inl hb),fun s=>(HZ.out s).trans ((HY.out s).trans ((HF.out s).trans (HCM.out l2 HK2.out s))),K6.below⟩
def AcsR (A:Option Addr) (n:Nat) (l:List Ac) (w:World):Prop:=SlR 7 A n (l.flatMap Ac.cells) w∧∀ a∈l,AcIn 5 a w
theorem AcsR.len {A:Option Addr} {n:Nat} {l:List Ac} {w:World} (h:AcsR A n l w):l.length=n:=SlP.In.len (s:=⟨A,n,0,l⟩) (k:=7) (cel:=Ac.cells) (P:=AcIn 5) h (by omega) (fun _=>rfl)
theorem AcsR.at_ {w:World} {A:Option Addr} {n:Nat} {l:List Ac} (h:AcsR A n l w) {k:Nat} {x:Ac} (hx:l[k]? =some x):
  ∃ b o,A=some ⟨b,o,none⟩∧b<w.heap.size∧(∀ j u,j<7→x.cells[j]? =some u→w.cell? ⟨b,o+k * 7+j,none⟩=some u)∧AcIn 5 x w:=SlP.In.at_ (s:=⟨A,n,0,l⟩) (k:=7) (cel:=Ac.cells) (P:=AcIn 5) h (by omega) (fun _=>rfl) hx
theorem Tryz.GG:ElemT Tryz.prog 118 171 3 48 (.agg #[.string ⟨#[]⟩,.int .i64 0,.slice none 0 0]):=⟨Tryz.underlying118,by kernel_rfl,rfl,by omega⟩
def Zd6 (w:World) (M:Nat→Prop) (ts:List Tg) (t:Tg) (e:Ending) (w' :World):Prop:=∃ (A:Option Addr) (n c:Nat) (l:List Ef),e=.returned (.slice A n c)∧n≤4∧(∀ u,l.any (efC u)=(!t.before&&t.acts.l.any (Vf ts u)))∧(t.before=false→l.length=(t.acts.l.filter U0).length)∧(∀ x∈l,x.cols.n≤9223372036854775807)∧Ro w' M (EfsIn A n l)∧Below w.heap.size w w'
def ChgC (M:Nat→Prop) (ts:List Tg) (a:Ac) (u:Value) (w:World):Prop:=∃ (B:Option Addr) (m q:Nat) (xs:List ByteArray),u=.slice B m q∧m≤9223372036854775807∧(∀ s,s∈xs↔XX ts a s=true)∧Ro w M (StrsIn B m xs)
theorem ChgC.mono {M:Nat→Prop} {ts:List Tg} {a:Ac} (u:Value) (w w' :World) (hr:RM M w w') (h:ChgC M ts a u w):ChgC M ts a u w' :=by
 obtain ⟨B,m,q,xs,h1,h2,h3,h4⟩:=h
 exact ⟨B,m,q,xs,h1,h2,h3,hr.ro h4⟩
def EfC1 (M:Nat→Prop) (ts:List Tg) (a:Ac) (u:Value) (w:World):Prop:=∃ (B:Option Addr) (m q:Nat) (xs:List ByteArray),u=.agg #[.string a.tab,.int .i64 2,.slice B m q]∧m≤9223372036854775807∧(∀ s,s∈xs↔XX ts a s=true)∧Ro w M (StrsIn B m xs)
theorem EfC1.mono {M:Nat→Prop} {ts:List Tg} {a:Ac} (u:Value) (w w' :World) (hr:RM M w w') (h:EfC1 M ts a u w):EfC1 M ts a u w' :=by
 obtain ⟨B,m,q,xs,h1,h2,h3,h4⟩:=h
 exact ⟨B,m,q,xs,h1,h2,h3,hr.ro h4⟩
def EfOne (M:Nat→Prop) (ts:List Tg) (a:Ac) (u:Value) (w:World):Prop:=∃ (g:Nat) (B:Option Addr) (m q:Nat) (xs:List ByteArray),u=.slice (some ⟨g,0,none⟩) 1 1∧m≤9223372036854775807∧(∀ s,s∈xs↔XX ts a s=true)∧Ro w M (SlR 3 (some ⟨g,0,none⟩) 1 [.string a.tab,.int .i64 2,.slice B m q])∧Ro w M (StrsIn B m xs)
theorem EfOne.mono {M:Nat→Prop} {ts:List Tg} {a:Ac} (u:Value) (w w' :World) (hr:RM M w w') (h:EfOne M ts a u w):EfOne M ts a u w' :=by
 obtain ⟨g,B,m,q,xs,h1,h2,h3,h4,h5⟩:=h
 exact ⟨g,B,m,q,xs,h1,h2,h3,hr.ro h4,hr.ro h5⟩
theorem Zgr (M:Nat→Prop) (w:World) (hM:∀ b,M b→b<w.heap.size) (t:Tg) (A:Option Addr) (n c:Nat) (ts:List Tg) (ht:Ro w M (TgIn 5 t)) (hT:Ro w M (TgsIn 5 A n ts)) (hn:n≤8) (hG:∀ t∈ts,TgEd t) (hg:TgEd t):Calls Tryz.prog 38 #[t.val,.slice A n c] w fun e w' =>Zd6 w M ts t e w' :=by
 have HG:=hid hG
 have HGT:=hid hg
 have HAC:=hid (show Ro w M (AcsR t.acts.A t.acts.n t.acts.l) from ht.imp fun w2 h2=>h2.2.2.2.2.2)
 clear hG hg ht
 obtain ⟨tn,tt,tb,te,⟨oA,on,oc,ol⟩,tch,⟨pA,pn,pc,pl⟩,⟨qA,qn,qc,ql⟩,⟨rA,rn,rc,rl⟩,⟨kA,kn,kc,kl⟩,⟨aA,an,ac,al⟩⟩:=t
 dsimp only at HAC
 have HL:=hid HAC.out.now.len
 have han:an≤4:=by have h2:al.length≤4:=HGT.out.a;have:=HL.out;omega
 have K0:=(((Hold.start M w hM).add (hT.less (by simp [Mut]))).add (HAC.out.less (by simp [Mut,Hp.foot]))).Za #[.string tn,.string tt,.bool tb,.int .i64 te,.slice oA on oc,.bool tch,.slice pA pn pc,.slice qA qn qc,.slice rA rn rc,.slice kA kn kc,.slice aA an ac] 48
 clear hT HAC
 obtain ⟨g2,hg2⟩:∃ g,g=w.heap.size:=⟨_,rfl⟩
 rw [←hg2] at K0
 simp only [Tg.val]
 go_enter Tryz.func38,Tryz.ntmps38
 go_upto_region 1 with fail
 rw [←hg2]
 have HG2:=hid hg2
 clear hg2
 generalize World.alloc _ _=w1 at K0 ⊢
 have F0:=K0.facts
 simp only [zg] at F0
 cases tb
 ·have K1:=(K0.add (S:=V7 []) (fun w2 _ _ x hx=>(nomatch hx))).nil 171 3
  clear K0
  go_wp2_with fail
  clear F0
  go_loopw [5,13] (fun ov iv wr=>∃ (j k cap:Nat) (O:Option Addr) (outs:List Ef),j≤an∧k≤j∧iv=.int .i64 j∧ov=.slice O k cap∧Hid (VC ts (al.take j) outs∧∀ x∈outs,x.cols.n≤9223372036854775807)∧Hold M none w wr [.own 171 3 (.slice O k cap) k (Xm outs),.ro (V7 outs),.cst g2 48 #[.string tn,.string tt,.bool false,.int .i64 te,.slice oA on oc,.bool tch,.slice pA pn pc,.slice qA qn qc,.slice rA rn rc,.slice kA kn kc,.slice aA an ac],.ro (AcsR aA an al),.ro (TgsIn 5 A n ts)]) (fun _ iv _=>an - (intOf iv).toNat)
  case atStart=>exact ⟨0,0,0,none,[],by omega,by omega,rfl,rfl,hid ⟨Zgs ts,fun x hx=>(nomatch hx)⟩,K1⟩
  case round=>
   clear K1
   obtain ⟨j,k,cap,O,outs,hj,hkj,rfl,rfl,HO,H⟩:=hrel
   by_cases hlt:j<an
   ·have j0:(0:Int)≤(j:Int):=by omega
    have j1:(j:Int)<(an:Int):=by omega
    obtain ⟨⟨xk,xtab,⟨arA,arn,arc,arl⟩,⟨aqA,aqn,aqc,aql⟩,⟨asA,asn,asc,asl⟩,⟨awA,awn,awc,awl⟩,xtext⟩,hx⟩:=Zl HL.out hlt
    obtain ⟨b,o,rfl,hb,hc,-⟩:=(H.ro 3 rfl).now.at_ hx
    have x0:=hc 0 _ (by omega) rfl
    have x1:=hc 1 _ (by omega) rfl
    have x2:=hc 2 _ (by omega) rfl
    have x3:=hc 3 _ (by omega) rfl
    have x4:=hc 4 _ (by omega) rfl
    have x5:=hc 5 _ (by omega) rfl
    have x6:=hc 6 _ (by omega) rfl
    simp only [Nat.add_zero,SlP.v] at x0 x1 x2 x3 x4 x5 x6
    clear hc
    have hmx:=Ka hx
    have HX:=hid hx
    have hsl:=hid (HGT.out.s _ hmx)
    have K1:=(H.add (S:=AcIn 5 ⟨xk,xtab,⟨arA,arn,arc,arl⟩,⟨aqA,aqn,aqc,aql⟩,⟨asA,asn,asc,asl⟩,⟨awA,awn,awc,awl⟩,xtext⟩) ((H.ro 3 rfl).imp fun w2 h2=>h2.2 _ hmx)).Za #[.int .i64 xk,.string xtab,.slice arA arn arc,.slice aqA aqn aqc,.slice asA asn asc,.slice awA awn awc,.string xtext] 44
    clear H hx hmx
    obtain ⟨g7,hg7⟩:∃ g,g=wr.heap.size:=⟨_,rfl⟩
    rw [←hg7] at K1
    go_upto_region 7 with fail
    rw [←hg7]
    have HG7:=hid hg7
    clear hg7 x0 x1 x2 x3 x4 x5 x6
    generalize World.alloc _ _=w4 at K1 ⊢
    have F1:=K1.facts
    simp only [zg] at F1
    by_cases h1:xk=1∨xk=3
    ·have HKK:=hid h1
     rcases h1 with h1|h1
     ·have b1:(xk==1)=true:=by simp [h1]
      clear h1
      have HEA:=hid (show EfA ts ⟨xk,xtab,⟨arA,arn,arc,arl⟩,⟨aqA,aqn,aqc,aql⟩,⟨asA,asn,asc,asl⟩,⟨awA,awn,awc,awl⟩,xtext⟩ ⟨xtab,xk,SlP.nil⟩ from ⟨rfl,rfl,.inl ⟨HKK.out,rfl⟩⟩)
      go_wp2_with (at_builtin;go_must (refine ZJ K1 2 rfl Tryz.GG #[.string xtab,.int .i64 xk,.slice none 0 0] rfl (.tmp 22) (.tmp 28) rfl rfl _ (by first|rfl|simp) rfl rfl (by intro u hu;simp at hu;rcases hu with rfl|rfl|rfl<;>rfl) (by omega) (by omega) ?_);intro gA capA wA hcA hmA KB;simp only [zl] at KB)
      rw [show Xm outs++(#[.string xtab,.int .i64 xk,.slice none 0 0]:Array Value).toList=Xm (outs++[⟨xtab,xk,SlP.nil⟩]) from (GA outs ⟨xtab,xk,SlP.nil⟩).symm] at KB
      have hR:Ro _ _ (V7 (outs++[⟨xtab,xk,SlP.nil⟩])):=(KB.ro 3 rfl).imp fun w2 h2 y hy=>by
       rcases Kk.1 hy with hy|hy
       ·exact h2 y hy
       ·simp only [List.mem_cons,List.not_mem_nil,or_false] at hy
        subst hy
        exact ZG 1 w2
      have KC:=(KB.ZT 3 rfl hR).pick [2,3,4,5,6] (by decide) rfl
      simp only [List.set_cons_zero,List.set_cons_succ,List.filterMap_cons,List.filterMap_nil,List.getElem?_cons_zero,List.getElem?_cons_succ] at KC
      go_roundw
      case rel=>exact ⟨j+1,k+1,capA,_,outs++[⟨xtab,xk,SlP.nil⟩],by omega,by omega,by go_num,by first|rfl|trivial,hid ⟨GD HO.out.1 HX.out HEA.out,fun y hy=>by
       rcases Kk.1 hy with hy|hy
       ·exact HO.out.2 y hy
       ·simp only [List.mem_cons,List.not_mem_nil,or_false] at hy
        subst hy
        simp [SlP.nil]⟩,KC⟩
      case measure=>simp [intOf];omega
     ·have b1:(xk==1)=false:=by simp [h1]
      have b3:(xk==3)=true:=by simp [h1]
      clear h1
      have HEA:=hid (show EfA ts ⟨xk,xtab,⟨arA,arn,arc,arl⟩,⟨aqA,aqn,aqc,aql⟩,⟨asA,asn,asc,asl⟩,⟨awA,awn,awc,awl⟩,xtext⟩ ⟨xtab,xk,SlP.nil⟩ from ⟨rfl,rfl,.inl ⟨HKK.out,rfl⟩⟩)
      go_wp2_with (at_builtin;go_must (refine ZJ K1 2 rfl Tryz.GG #[.string xtab,.int .i64 xk,.slice none 0 0] rfl (.tmp 22) (.tmp 28) rfl rfl _ (by first|rfl|simp) rfl rfl (by intro u hu;simp at hu;rcases hu with rfl|rfl|rfl<;>rfl) (by omega) (by omega) ?_);intro gA capA wA hcA hmA KB;simp only [zl] at KB)
      rw [show Xm outs++(#[.string xtab,.int .i64 xk,.slice none 0 0]:Array Value).toList=Xm (outs++[⟨xtab,xk,SlP.nil⟩]) from (GA outs ⟨xtab,xk,SlP.nil⟩).symm] at KB
      have hR:Ro _ _ (V7 (outs++[⟨xtab,xk,SlP.nil⟩])):=(KB.ro 3 rfl).imp fun w2 h2 y hy=>by
       rcases Kk.1 hy with hy|hy
       ·exact h2 y hy
       ·simp only [List.mem_cons,List.not_mem_nil,or_false] at hy
        subst hy
        exact ZG 1 w2
      have KC:=(KB.ZT 3 rfl hR).pick [2,3,4,5,6] (by decide) rfl
      simp only [List.set_cons_zero,List.set_cons_succ,List.filterMap_cons,List.filterMap_nil,List.getElem?_cons_zero,List.getElem?_cons_succ] at KC
      go_roundw
      case rel=>exact ⟨j+1,k+1,capA,_,outs++[⟨xtab,xk,SlP.nil⟩],by omega,by omega,by go_num,by first|rfl|trivial,hid ⟨GD HO.out.1 HX.out HEA.out,fun y hy=>by
       rcases Kk.1 hy with hy|hy
       ·exact HO.out.2 y hy
       ·simp only [List.mem_cons,List.not_mem_nil,or_false] at hy
        subst hy
        simp [SlP.nil]⟩,KC⟩
      case measure=>simp [intOf];omega
    ·have b1:(xk==1)=false:=by simp;omega
     have b3:(xk==3)=false:=by simp;omega
     by_cases h2:xk=2
     ·clear b1 b3 h1
      subst h2
      have HEA:=hid (fun B m q xs (h:∀ s,s∈xs↔XX ts ⟨2,xtab,⟨arA,arn,arc,arl⟩,⟨aqA,aqn,aqc,aql⟩,⟨asA,asn,asc,asl⟩,⟨awA,awn,awc,awl⟩,xtext⟩ s=true)=>show EfA ts ⟨2,xtab,⟨arA,arn,arc,arl⟩,⟨aqA,aqn,aqc,aql⟩,⟨asA,asn,asc,asl⟩,⟨awA,awn,awc,awl⟩,xtext⟩ ⟨xtab,2,⟨B,m,q,xs⟩⟩ from ⟨rfl,rfl,.inr ⟨rfl,h⟩⟩)
      obtain ⟨KM,hKM,K6⟩:=K1.name
      have H1:∀ wv:World,Hold M none w wv KM→Blk wv g7 44 #[.int .i64 2,.string xtab,.slice arA arn arc,.slice aqA aqn aqc,.slice asA asn asc,.slice awA awn awc,.string xtext]:=fun wv h=>by rw [hKM] at h;exact h.Zg 0 rfl
      have H2:∀ wv:World,Hold M none w wv KM→Ro wv (Mut M KM) (AcIn 5 ⟨2,xtab,⟨arA,arn,arc,arl⟩,⟨aqA,aqn,aqc,aql⟩,⟨asA,asn,asc,asl⟩,⟨awA,awn,awc,awl⟩,xtext⟩):=fun wv h=>by rw [hKM] at h ⊢;exact h.ro 1 rfl
      have H3:∀ wv:World,Hold M none w wv KM→Ro wv (Mut M KM) (TgsIn 5 A n ts):=fun wv h=>by rw [hKM] at h ⊢;exact h.ro 6 rfl
      have HH1:=hid H1
      have HH2:=hid H2
      have HH3:=hid H3
      have HKM:=hid hKM
      clear hKM H1 H2 H3 K1
      go_upto_region 12 with fail
      clear F1
      refine Lj (by kernel_rfl) ?_
      refine Zn 8 43 (KM) (spL [(37,ChgC (Mut M KM) ts ⟨2,xtab,⟨arA,arn,arc,arl⟩,⟨aqA,aqn,aqc,aql⟩,⟨asA,asn,asc,asl⟩,⟨awA,awn,awc,awl⟩,xtext⟩),(38,EfC1 (Mut M KM) ts ⟨2,xtab,⟨arA,arn,arc,arl⟩,⟨aqA,aqn,aqc,aql⟩,⟨asA,asn,asc,asl⟩,⟨awA,awn,awc,awl⟩,xtext⟩),(39,EfOne (Mut M KM) ts ⟨2,xtab,⟨arA,arn,arc,arl⟩,⟨aqA,aqn,aqc,aql⟩,⟨asA,asn,asc,asl⟩,⟨awA,awn,awc,awl⟩,xtext⟩)]) (by kernel_rfl) (by kernel_rfl) (by kernel_rfl) rfl ?_ (K6.drew) ?_
      ·exact Zd ChgC.mono (Zd EfC1.mono (Zd EfOne.mono (Zm _)))
      simp only [zd,zp,List.getElem_toArray,List.getElem_cons_zero,List.getElem_cons_succ]
      iterate 2
       refine' dv rfl rfl rfl (fun wv HC=>?_) ?_;rotate_left
       · go_simp<;>rfl
       simp only [zp]
      refine' dv rfl rfl rfl (fun wv HC=>?_) ?_;rotate_left
      ·have q1:=(HH1.out _ HC).cell 1;go_simp<;>rfl
      simp only [zp]
      refine' dv rfl rfl rfl (fun wv HC=>?_) ?_;rotate_left
      ·obtain q0:=(HH1.out _ HC).cell 0;obtain q1:=(HH1.out _ HC).cell 1;obtain q2:=(HH1.out _ HC).cell 2;obtain q3:=(HH1.out _ HC).cell 3;obtain q4:=(HH1.out _ HC).cell 4;obtain q5:=(HH1.out _ HC).cell 5;obtain q6:=(HH1.out _ HC).cell 6;go_simp<;>rfl
      simp only [zp]
      refine' dv rfl rfl rfl (fun wv HC=>?_) ?_;rotate_left
      · go_simp<;>rfl
      simp only [zp]
      refine Zi 37 (ChgC (Mut M KM) ts ⟨2,xtab,⟨arA,arn,arc,arl⟩,⟨aqA,aqn,aqc,aql⟩,⟨asA,asn,asc,asl⟩,⟨awA,awn,awc,awl⟩,xtext⟩) (f:=77) (args:=#[.agg #[.int .i64 2,.string xtab,.slice arA arn arc,.slice aqA aqn aqc,.slice asA asn asc,.slice awA awn awc,.string xtext],.slice A n c]) rfl rfl rfl rfl (fun wv=>?_) (fun wv HC hrm hD=>?_) ?_
      ·go_simp<;>rfl
      ·refine (Zft (Mut M KM) wv HC.Zb ⟨2,xtab,⟨arA,arn,arc,arl⟩,⟨aqA,aqn,aqc,aql⟩,⟨asA,asn,asc,asl⟩,⟨awA,awn,awc,awl⟩,xtext⟩ A n c ts (HH2.out _ HC) (HH3.out _ HC) hn HG.out hsl.out).mono ?_
       rintro e w5 ⟨B,m,q,xs,rfl,hm,rx,hxs,b5⟩
       exact ⟨_,rfl,⟨B,m,q,xs,rfl,hm,hxs,rx⟩,HC.call b5,RM.below b5⟩
      rintro u wx HCx ⟨B,m,q,xs,rfl,-,-,-⟩
      clear HCx xs
      simp only [zp]
      refine YI 38 (EfC1 (Mut M KM) ts ⟨2,xtab,⟨arA,arn,arc,arl⟩,⟨aqA,aqn,aqc,aql⟩,⟨asA,asn,asc,asl⟩,⟨awA,awn,awc,awl⟩,xtext⟩) rfl rfl rfl rfl (.agg #[.string xtab,.int .i64 2,.slice B m q]) (fun wv HC=>?_) (fun wv HC hD=>?_) ?_
      ·go_simp<;>rfl
      ·have ha:ChgC (Mut M KM) ts ⟨2,xtab,⟨arA,arn,arc,arl⟩,⟨aqA,aqn,aqc,aql⟩,⟨asA,asn,asc,asl⟩,⟨awA,awn,awc,awl⟩,xtext⟩ (.slice B m q) wv:=ZI hD 5 rfl (by kernel_rfl) rfl rfl
       obtain ⟨B',m',q',xs,e',hm,hxs,rx⟩:=ha
       obtain ⟨rfl,rfl,rfl⟩:B=B' ∧m=m' ∧q=q' :=by injection e' with e1 e2 e3;exact ⟨e1,e2,e3⟩
       exact ⟨B,m,q,xs,rfl,hm,hxs,rx⟩
      simp only [zp]
      refine Z8 #[.string xtab,.int .i64 2,.slice B m q] 171 39 (EfOne (Mut M KM) ts ⟨2,xtab,⟨arA,arn,arc,arl⟩,⟨aqA,aqn,aqc,aql⟩,⟨asA,asn,asc,asl⟩,⟨awA,awn,awc,awl⟩,xtext⟩) (fun g=>.slice (some ⟨g,0,none⟩) 1 1) rfl rfl rfl rfl (fun wv=>?_) (fun wv HC hrm hD hro=>?_) ?_
      ·go_simp<;>rfl
      ·have h1:EfC1 (Mut M KM) ts ⟨2,xtab,⟨arA,arn,arc,arl⟩,⟨aqA,aqn,aqc,aql⟩,⟨asA,asn,asc,asl⟩,⟨awA,awn,awc,awl⟩,xtext⟩ (.agg #[.string xtab,.int .i64 2,.slice B m q]) wv:=ZI hD 6 rfl (by kernel_rfl) rfl rfl
       obtain ⟨B',m',q',xs,e',hm,hxs,rx⟩:=h1
       obtain ⟨rfl,rfl,rfl⟩:B=B' ∧m=m' ∧q=q' :=by
        injection e' with e'
        have h2:=congrArg (fun a:Array Value=>a[2]?) e'
        simp only [List.getElem?_toArray,List.getElem?_cons_zero,List.getElem?_cons_succ,Option.some.injEq,Value.slice.injEq] at h2
        exact h2
       exact ⟨_,B,m,q,xs,rfl,hm,hxs,ZO (hro _ HC.Zb) rfl,(RM.alloc (Mut M KM) wv _).ro rx⟩
      rintro g39 wg HCg h39
      simp only [zp]
      clear HCg h39
      refine Zk ?_
      rintro wx3 HX3
      rintro _hrm HGW
      have h1:EfOne (Mut M KM) ts ⟨2,xtab,⟨arA,arn,arc,arl⟩,⟨aqA,aqn,aqc,aql⟩,⟨asA,asn,asc,asl⟩,⟨awA,awn,awc,awl⟩,xtext⟩ (.slice (some ⟨g39,0,none⟩) 1 1) wx3:=(Zo (d:=39) rfl).1 (HGW 7 _ rfl (by omega))
      clear HGW _hrm
      obtain ⟨g',B2,m2,q2,xs,e',hm,hxs,rG,rx⟩:=h1
      obtain rfl:g39=g' :=by injection e' with e';injection e' with e';injection e'
      have K7:=HX3.add rx
      have HG9:=hid rG.now
      have HXS:=hid hxs
      rw [HKM.out] at K7
      clear HX3 rG rx HH1 HH2 HH3 HKM K6 e' hxs
      have F7:=K7.facts
      simp only [zg] at F7
      go_wp2_with (at_builtin;go_must (refine ZX K7 3 rfl Tryz.GG HG9.out rfl (.tmp 32) (.tmp 39) rfl rfl rfl (by intro u hu;simp at hu;rcases hu with rfl|rfl|rfl<;>rfl) (by omega) (by omega) ?_);intro G1 gc1 wB hcB hmB KE;simp only [zl] at KE)
      rw [show Xm outs++[.string xtab,.int .i64 2,.slice B2 m2 q2]=Xm (outs++[⟨xtab,2,⟨B2,m2,q2,xs⟩⟩]) from (GA outs ⟨xtab,2,⟨B2,m2,q2,xs⟩⟩).symm] at KE
      have hR:Ro _ _ (V7 (outs++[⟨xtab,2,⟨B2,m2,q2,xs⟩⟩])):=((KE.ro 4 rfl).and (KE.ro 0 rfl)).imp fun w2 h2 y hy=>by
       rcases Kk.1 hy with hy|hy
       ·exact h2.1 y hy
       ·simp only [List.mem_cons,List.not_mem_nil,or_false] at hy
        subst hy
        exact h2.2
      have KC:=(KE.ZT 4 rfl hR).pick [3,4,5,6,7] (by decide) rfl
      simp only [List.set_cons_zero,List.set_cons_succ,List.filterMap_cons,List.filterMap_nil,List.getElem?_cons_zero,List.getElem?_cons_succ] at KC
      go_roundw
      case rel=>exact ⟨j+1,k+1,gc1,G1,outs++[⟨xtab,2,⟨B2,m2,q2,xs⟩⟩],by omega,by omega,by go_num,by first|rfl|trivial,hid ⟨GD HO.out.1 HX.out (HEA.out B2 m2 q2 xs HXS.out),fun y hy=>by
       rcases Kk.1 hy with hy|hy
       ·exact HO.out.2 y hy
       ·simp only [List.mem_cons,List.not_mem_nil,or_false] at hy
        subst hy
        exact hm⟩,KC⟩
      case measure=>simp [intOf];omega
     ·have b2:(xk==2)=false:=by simp;omega
      have HSK:=hid (show VC ts (al.take (j+1)) outs from Zgt HO.out.1 HX.out (by simp only;omega) (by simp only;omega) (by simp only;omega))
      clear h1 h2
      go_wp2_with fail
      go_roundw
      case rel=>exact ⟨j+1,k,cap,O,outs,by omega,by omega,by go_num,by first|rfl|trivial,hid ⟨HSK.out,HO.out.2⟩,K1.drop ((Kb _ _).cons _)⟩
      case measure=>simp [intOf];omega
   ·obtain rfl:an=j:=by omega
    have h:=HO.out.1
    rw [Kh (by rw [HL.out];exact Kg _)] at h
    have HF:=hid h
    clear h
    go_wp2_with fail
    go_ret
    have KZ:=H.Zq 0 rfl
    simp only [List.set_cons_zero] at KZ
    have hR:Ro _ _ (EfsIn O k outs):=((KZ.ro 0 rfl).and (KZ.ro 1 rfl)).imp fun w2 h2=>⟨h2.1,h2.2⟩
    exact ⟨O,k,cap,outs,rfl,by omega,fun u=>by rw [HF.out.2 u];rfl,fun _=>HF.out.1,HO.out.2,hR.less (fun b hb=>.inl hb),KZ.below⟩
 ·have HB:=hid K0.below
  clear K0
  go_wp2_with fail
  go_ret
  exact ⟨none,0,0,[],rfl,by omega,fun u=>rfl,fun h=>absurd h (by simp),fun x hx=>(nomatch hx),fun w2 _ _=>⟨ZG 3 w2,fun x hx=>(nomatch hx)⟩,HB.out⟩
def Ef.val (x:Ef):Value:=.agg #[.string x.tab,.int .i64 x.ev,.slice x.cols.A x.cols.n x.cols.c]
theorem ZfR (w:World) (g:Nat) (x:Ef) (s:ByteArray) (q1:w.heap[g]? =some (.cells #[.string x.tab,.int .i64 x.ev,.slice x.cols.A x.cols.n x.cols.c] 171 (0,0))) (hx:UH x w) (hn:x.cols.n≤9223372036854775807):Calls Tryz.prog 199 #[.string s,.pointer (some ⟨g,0,none⟩)] w fun e w' =>e=.returned (.bool (hasB x.cols.l s))∧w=w' :=by
 have s0:=Li _ _ 2 _ _ _ q1
 clear q1
 go_enter Tryz.func199,Tryz.ntmps199
 go_wp2_with fail
 refine (JB w x.cols.A x.cols.n x.cols.c x.cols.l s hx hn).mono ?_
 rintro e w1 ⟨rfl,rfl⟩
 go_wp2_with fail
 go_ret
 exact ⟨by rw [ZaS]<;>rfl,rfl⟩
theorem Zfn (M:Nat→Prop) (w:World) (hM:∀ b,M b→b<w.heap.size) (x:Ef) (u:Tg) (hx:Ro w M (UH x)) (hu:Ro w M (TgIn 5 u)) (hxn:x.cols.n≤9223372036854775807) (hcl:u.cols.l.length≤8):Calls Tryz.prog 165 #[x.val,u.val] w fun e w' =>e=.returned (.bool (efC u x))∧Below w.heap.size w w' :=by
 have HOL:=hid (show u.cols.l.length=u.cols.n from SlP.In.len hu.now.1 (by omega) (fun _=>rfl))
 have HCO:=hid (show Ro w M (StrsIn u.cols.A u.cols.n u.cols.l) from hu.imp fun w2 h2=>Zdm h2.1.1)
 obtain ⟨tn,tt,tb,te,⟨oA,on,oc,ol⟩,tch,⟨pA,pn,pc,pl⟩,⟨qA,qn,qc,ql⟩,⟨rA,rn,rc,rl⟩,⟨kA,kn,kc,kl⟩,⟨aA,an,ac,al⟩⟩:=u
 dsimp only at hcl HOL HCO
 have hon:on≤8:=by have:=HOL.out;omega
 obtain ⟨xt,xe,⟨cA,cn,cc,cl⟩⟩:=x
 have K0:=(((((Hold.start M w hM).add (hx.less (by simp [Mut]))).add (HCO.out.less (by simp [Mut,Hp.foot]))).Za #[.string xt,.int .i64 xe,.slice cA cn cc] 171).Za #[.string tn,.string tt,.bool tb,.int .i64 te,.slice oA on oc,.bool tch,.slice pA pn pc,.slice qA qn qc,.slice rA rn rc,.slice kA kn kc,.slice aA an ac] 48)
 rw [KP] at K0
 clear hx hu HCO
 obtain ⟨g2,hg2⟩:∃ g,g=w.heap.size:=⟨_,rfl⟩
 rw [←hg2] at K0
 obtain ⟨g3,hg3⟩:∃ g,g=g2+1:=⟨_,rfl⟩
 rw [←hg3] at K0
 simp only [Ef.val,Tg.val]
 go_enter Tryz.func165,Tryz.ntmps165
 go_upto_region 1 with fail
 rw [←hg2]
 try rw [←hg3]
 have HG2:=hid (KJ hg2 hg3)
 clear hg2 hg3
 generalize World.alloc _ _=w1 at K0 ⊢
 have F0:=K0.facts
 simp only [zg] at F0
 have HB:=hid K0.below
 cases tb
 ·by_cases htab:xt=tt
  ·have e1:(xt.toList==tt.toList)=true:=by simp [htab]
   have e2:(xt.toList !=tt.toList)=false:=by simp [htab]
   by_cases hev:xe=te
   ·have e3:(xe !=te)=false:=by simp [hev]
    have HE:=hid (show efC ⟨tn,tt,false,te,⟨oA,on,oc,ol⟩,tch,⟨pA,pn,pc,pl⟩,⟨qA,qn,qc,ql⟩,⟨rA,rn,rc,rl⟩,⟨kA,kn,kc,kl⟩,⟨aA,an,ac,al⟩⟩ ⟨xt,xe,⟨cA,cn,cc,cl⟩⟩=(decide (ol=[])||ol.any fun s=>hasB cl s) from by simp [efC,htab,hev])
    have hc1:StrsIn oA on ol w1∧w1.heap[g2]? =some (.cells #[.string xt,.int .i64 xe,.slice cA cn cc] 171 (0,0))∧UH ⟨xt,xe,⟨cA,cn,cc,cl⟩⟩ w1:=⟨(K0.ro 2 rfl).now,K0.Zg 1 rfl,(K0.ro 3 rfl).now⟩
    have HC1:=hid hc1
    have hce:=ZcZ w1 199 (.pointer (some ⟨g2,0,none⟩)) (fun s=>hasB cl s) (fun _ _=>rfl) (fun s=>ZfR w1 g2 ⟨xt,xe,⟨cA,cn,cc,cl⟩⟩ s hc1.2.1 hc1.2.2 hxn) oA on oc ol hc1.1 (by omega)
    have HCE:=hid hce
    clear htab hev hce hc1 K0
    by_cases h0:on=0
    ·have e4:((on:Int)==0)=true:=by simp [h0]
     have HN:=hid (show decide (ol=[])=true from decide_eq_true (List.eq_nil_of_length_eq_zero (by rw [HOL.out,h0])))
     clear h0
     go_wp2_with fail
     go_ret
     exact ⟨by rw [HE.out,HN.out]<;>rfl,HB.out⟩
    ·have e4:((on:Int)==0)=false:=by simp;omega
     have HN:=hid (show decide (ol=[])=false from decide_eq_false (fun h=>h0 (by rw [←HOL.out,h];rfl)))
     clear h0
     go_wp2_with (go_at_call 154;go_must (refine HCE.out.mono ?_);rintro e w5 ⟨rfl,rfl⟩)
     go_ret
     exact ⟨by rw [HE.out,HN.out]<;>rfl,HB.out⟩
   ·have e3:(xe !=te)=true:=by simp [hev]
    have HE:=hid (show efC ⟨tn,tt,false,te,⟨oA,on,oc,ol⟩,tch,⟨pA,pn,pc,pl⟩,⟨qA,qn,qc,ql⟩,⟨rA,rn,rc,rl⟩,⟨kA,kn,kc,kl⟩,⟨aA,an,ac,al⟩⟩ ⟨xt,xe,⟨cA,cn,cc,cl⟩⟩=false from by simp [efC,hev])
    clear htab hev K0
    go_wp2_with fail
    go_ret
    exact ⟨by rw [HE.out]<;>rfl,HB.out⟩
  ·have e1:(xt.toList==tt.toList)=false:=by rw [beq_eq_false_iff_ne];exact fun h=>htab (Yc h)
   have e2:(xt.toList !=tt.toList)=true:=by rw [bne_iff_ne];exact fun h=>htab (Yc h)
   have HE:=hid (show efC ⟨tn,tt,false,te,⟨oA,on,oc,ol⟩,tch,⟨pA,pn,pc,pl⟩,⟨qA,qn,qc,ql⟩,⟨rA,rn,rc,rl⟩,⟨kA,kn,kc,kl⟩,⟨aA,an,ac,al⟩⟩ ⟨xt,xe,⟨cA,cn,cc,cl⟩⟩=false from by simp [efC,htab])
   clear htab K0
   go_wp2_with fail
   go_ret
   exact ⟨by rw [HE.out]<;>rfl,HB.out⟩
 ·have HE:=hid (show efC ⟨tn,tt,true,te,⟨oA,on,oc,ol⟩,tch,⟨pA,pn,pc,pl⟩,⟨qA,qn,qc,ql⟩,⟨rA,rn,rc,rl⟩,⟨kA,kn,kc,kl⟩,⟨aA,an,ac,al⟩⟩ ⟨xt,xe,⟨cA,cn,cc,cl⟩⟩=false from rfl)
  clear K0
  go_wp2_with fail
  go_ret
  exact ⟨by rw [HE.out]<;>rfl,HB.out⟩
def ZdX (w:World) (M:Nat→Prop) (E:Bool × List Dl) (e:Ending) (w' :World):Prop:=∃ (A:Option Addr) (n c:Nat) (l:List El),e=.returned (.tuple #[.slice A n c,.bool E.1])∧n≤c∧c≤9223372036854775807∧l.map El.dl=E.2∧(∀ x∈l,x.good 100 6)∧Ro w' M (ElsIn A n l)∧Below w.heap.size w w'
def UE (M:Nat→Prop) (T:Bool × Dl) (u:Value) (w:World):Prop:=∃ z:El,u=.tuple #[z.val,.bool T.1]∧z.dl=T.2∧z.good 100 6∧Ro w M (Wm z)
theorem Ze8 {M:Nat→Prop} {T:Bool × Dl} (u:Value) (w w' :World) (hr:RM M w w') (h:UE M T u w):UE M T u w' :=by
 obtain ⟨z,h1,h2,h3,h4⟩:=h
 exact ⟨z,h1,h2,h3,hr.ro h4⟩
theorem QW (w:World) (M:Nat→Prop):Ro w M (ElsIn none 0 []):=fun _ _ _=>⟨⟨rfl,fun h=>absurd h (Nat.lt_irrefl 0)⟩,fun x hx=>(nomatch hx)⟩
theorem Tryz.Zgy:ElemT Tryz.prog 54 103 4 88 (.agg #[.string ⟨#[]⟩,.slice none 0 0,.slice none 0 0,.slice none 0 0]):=⟨Tryz.underlying54,by kernel_rfl,rfl,by omega⟩
theorem zi (M:Nat→Prop) (w:World) (hM:∀ b,M b→b<w.heap.size) (A:Option Addr) (n c:Nat) (l:List Te) (B:Option Addr) (m d:Nat) (k:List Te) (hl:Ro w M (TesIn A n l)) (hk:Ro w M (TesIn B m k)) (hokl:∀ x∈l,x.ok∧TbM x.tb) (hokk:∀ x∈k,x.ok∧TbM x.tb) (hn:n≤1000) (hm:m≤1000):
  Calls Tryz.prog 12 #[.slice A n c,.slice B m d] w fun e w' =>ZdX w M (Y6 (l.map Te.tb) (k.map Te.tb)) e w' :=by
 have HOL:=hid hokl
 have HOK:=hid hokk
 have HLL:=hid hl.now.len
 have HLK:=hid hk.now.len
 have K0:=((Hold.start M w hM).add (hk.less (by simp [Mut]))).add (hl.less (by simp [Mut,Hp.foot]))
 obtain ⟨E,hE⟩:∃ E,E=Y6 (l.map Te.tb) (k.map Te.tb):=⟨_,rfl⟩
 rw [←hE]
 have HE:=hid hE
 clear hl hk hokl hokk hE
 go_enter Tryz.func12,Tryz.ntmps12
 go_wp2_with fail
 refine (ZcS _ _ K0.Zb A n c l (K0.ro 0 rfl) HOL.out (by omega)).mono ?_
 cases hv1:Y2 (l.map Te.tb) with
 | false=>
  have hz:E=(false,[]):=by rw [HE.out];exact Zf0 hv1
  subst hz
  rintro e w1 ⟨rfl,b1⟩
  have HB:=hid (K0.call b1).below
  clear K0 b1 hv1 HE
  go_wp2_with fail
  (try simp only [Exit.inBlock,Exit.then])
  refine Lh (results_tmp2 rfl _ _ _) rfl ?_
  exact ⟨none,0,0,[],rfl,by omega,by omega,rfl,fun x hx=>(nomatch hx),QW _ _,HB.out⟩
 | true=>
  rintro e w1 ⟨rfl,b1⟩
  have K1:=K0.call b1
  clear K0 b1
  have HV1:=hid hv1
  clear hv1
  go_wp2_with fail
  refine (ZcS _ _ K1.Zb B m d k (K1.ro 1 rfl) HOK.out (by omega)).mono ?_
  cases hv2:Y2 (k.map Te.tb) with
  | false=>
   have hz:E=(false,[]):=by rw [HE.out];exact Zf1 hv2
   subst hz
   rintro e w2 ⟨rfl,b1⟩
   have HB:=hid (K1.call b1).below
   clear K1 b1 hv2 HE
   go_wp2_with fail
   (try simp only [Exit.inBlock,Exit.then])
   refine Lh (results_tmp2 rfl _ _ _) rfl ?_
   exact ⟨none,0,0,[],rfl,by omega,by omega,rfl,fun x hx=>(nomatch hx),QW _ _,HB.out⟩
  | true=>
   rintro e w2 ⟨rfl,b1⟩
   have K2:=K1.call b1
   clear K1 b1
   have HV2:=hid hv2
   clear hv2
   by_cases hnm:n=m
   ·subst hnm
    have hb:((n:Int) !=(n:Int))=false:=by simp
    have hb1:((n:Int)==(n:Int))=true:=by simp
    have hb2:decide ((n:Int)=(n:Int))=true:=by simp
    have K3:=(K2.add (ZgJ _ _)).nil 103 4
    clear K2
    go_wp2_with fail
    go_loopw [4,5,6,27] (fun r4 r5 ov iv wr=>∃ (i q cap:Nat) (O:Option Addr) (outs:List El),i≤n∧q≤i∧r4=.slice none 0 0∧r5=.bool false∧iv=.int .i64 i∧ov=.slice O q cap∧Hid (WH (l.map Te.tb) (k.map Te.tb) i=true∧outs.map El.dl=Ws (l.map Te.tb) (k.map Te.tb) i∧∀ x∈outs,x.good 100 6)∧Hold M none w wr [.own 103 4 (.slice O q cap) q (XK outs),.ro (QH outs),.ro (TesIn A n l),.ro (TesIn B n k)]) (fun _ _ _ iv _=>n - (intOf iv).toNat)
    case atStart=>exact ⟨0,0,0,none,[],by omega,by omega,rfl,rfl,rfl,rfl,hid ⟨rfl,rfl,fun x hx=>(nomatch hx)⟩,K3⟩
    case round=>
     clear K3
     obtain ⟨i,q,cap,O,outs,hi,hq,rfl,rfl,rfl,rfl,HS,H⟩:=hrel
     by_cases hlt:i<n
     ·have hd:decide ((i:Int)<(n:Int))=true:=by simp;omega
      have i0:(0:Int)≤(i:Int):=by omega
      have i1:(i:Int)<(n:Int):=by omega
      obtain ⟨x,hx⟩:=Zl HLL.out hlt
      obtain ⟨y,hy⟩:=Zl HLK.out hlt
      have HX1:=hid hx
      have HY1:=hid hy
      have HXO:=hid (HOL.out x (Ka hx))
      have HYO:=hid (HOK.out y (Ka hy))
      obtain ⟨gA,oA,hA,-,-,-,-,-,-⟩:=(H.ro 2 rfl).now.at_ hx
      obtain ⟨gB,oB,hB,-,-,-,-,-,-⟩:=(H.ro 3 rfl).now.at_ hy
      subst hA hB
      clear hx hy
      obtain ⟨T,hT⟩:∃ T,T=Zw x.tb y.tb:=⟨_,rfl⟩
      have HT:=hid hT
      have HTS:=hid (show T.2.ins.length≤100∧T.2.del.length≤100∧T.2.upd.length≤100∧(∀ r∈T.2.ins,r.2.length≤6)∧(∀ r∈T.2.del,r.2.length≤6)∧∀ u∈T.2.upd,u.2.1.length≤6∧u.2.2.length≤6 by
       rw [hT]
       exact Ze7 (zI HV1.out _ (Ko (Ka HX1.out))) (zI HV2.out _ (Ko (Ka HY1.out))))
      clear hT
      go_wp2_with fail
      obtain ⟨KL,hKL,KN⟩:=H.name
      have HF:Hid (∀ wv,Hold M none w wv KL→(wv.cell? ⟨gA,oA+i * 4,none⟩=some (.string x.nm)∧wv.cell? ⟨gA,oA+i * 4+1,none⟩=some (.slice x.A x.n x.c)∧wv.cell? ⟨gA,oA+i * 4+2,none⟩=some (.int .i64 x.nx)∧wv.cell? ⟨gA,oA+i * 4+3,none⟩=some (.slice x.B x.m x.d)∧gA<wv.heap.size)∧wv.cell? ⟨gB,oB+i * 4,none⟩=some (.string y.nm)∧wv.cell? ⟨gB,oB+i * 4+1,none⟩=some (.slice y.A y.n y.c)∧wv.cell? ⟨gB,oB+i * 4+2,none⟩=some (.int .i64 y.nx)∧wv.cell? ⟨gB,oB+i * 4+3,none⟩=some (.slice y.B y.m y.d)∧gB<wv.heap.size):=hid fun wv HC=>by
       rw [hKL] at HC
       obtain ⟨b1,o1,e,hb1,d0,d1,d2,d3,-⟩:=(HC.ro 2 rfl).now.at_ HX1.out
       injection e with e
       injection e with e1 e2
       subst e1 e2
       obtain ⟨b1,o1,e,hb2,c0,c1,c2,c3,-⟩:=(HC.ro 3 rfl).now.at_ HY1.out
       injection e with e
       injection e with e1 e2
       subst e1 e2
       exact ⟨⟨d0,d1,d2,d3,hb1⟩,c0,c1,c2,c3,hb2⟩
      have HX:Hid (∀ wv,Hold M none w wv KL→Ro wv (Mut M KL) (YA x)∧Ro wv (Mut M KL) (YA y)):=hid fun wv HC=>by
       rw [hKL] at HC ⊢
       exact ⟨(HC.ro 2 rfl).imp fun w2 h2=>h2.2 x (Ka HX1.out),(HC.ro 3 rfl).imp fun w2 h2=>h2.2 y (Ka HY1.out)⟩
      have HKL:=hid hKL
      clear hKL H
      obtain ⟨Hb,hHb⟩:∃ Hb,Hb=wr.drew.heap.size:=⟨_,rfl⟩
      have HHb:=hid hHb
      clear hHb
      refine Lj (by kernel_rfl) ?_
      refine V3 [11] 13 53 (KL) (spL [(39,UE (Mut M KL) T),(8,Yp (Mut M KL) Hb 103 #[.string ⟨#[]⟩,.slice none 0 0,.slice none 0 0,.slice none 0 0])]) (by kernel_rfl) (fun _ d _ _ _ h=>by cases d<;>exact h) (by kernel_rfl) (by kernel_rfl) rfl ?_ (KN.drew) ?_
      ·exact Zd Ze8 (Zd VS (Zm _))
      simp only [zd,zp,List.getElem_toArray,List.getElem_cons_zero,List.getElem_cons_succ]
      repeat (first|(refine dw_skip rfl rfl rfl ?_;simp only [zp])|(refine' dv rfl rfl rfl (fun wv HC=>?_) ?_;rotate_left;(focus (obtain ⟨⟨f0,f1,f2,f3,f4⟩,q0,q1,q2,q3,q4⟩:=HF.out _ HC;go_simp<;>rfl;done));simp only [zp]))
      refine Zi 39 (UE (Mut M KL) T) (f:=30) (args:=#[.agg #[.string x.nm,.slice x.A x.n x.c,.int .i64 x.nx,.slice x.B x.m x.d],.agg #[.string y.nm,.slice y.A y.n y.c,.int .i64 y.nx,.slice y.B y.m y.d]]) rfl rfl rfl rfl (fun wv=>?_) (fun wv HC hrm hD=>?_) ?_
      ·go_simp<;>rfl
      ·obtain ⟨x1,x2⟩:=HX.out _ HC
       have hk:=ZjO _ wv HC.Zb _ _ x.tb y.tb (zK HXO.out.1 x1) (zK HYO.out.1 x2) HXO.out.2.nm HXO.out.2.cs HXO.out.2.rs HYO.out.2.nm HYO.out.2.cs HYO.out.2.rs
       rw [←HT.out] at hk
       refine hk.mono ?_
       rintro e w5 ⟨v5,rfl,hd5,b5⟩
       obtain ⟨z,rfl,hz,hzg,rz⟩:=Zgd hd5 HTS.out.1 HTS.out.2.1 HTS.out.2.2.1 HTS.out.2.2.2.1 HTS.out.2.2.2.2.1 HTS.out.2.2.2.2.2
       exact ⟨_,rfl,⟨z,rfl,hz,hzg,rz⟩,HC.call b5,RM.below b5⟩
      rintro u_ wx HCx ⟨z,rfl,-,-,-⟩
      clear HCx
      have hzv:z.val=.agg #[.string z.nm,.slice z.I z.ni z.ci,.slice z.D z.nd z.cd,.slice z.U z.nu z.cu]:=rfl
      rw [hzv]
      clear hzv
      simp only [zp]
      repeat (first|(refine dw_skip rfl rfl rfl ?_;simp only [zp])|(refine' dv rfl rfl rfl (fun wv HC=>?_) ?_;rotate_left;(focus (go_simp<;>rfl;done));simp only [zp]))
      refine Z8 #[.string ⟨#[]⟩,.slice none 0 0,.slice none 0 0,.slice none 0 0] 103 8 (Yp (Mut M KL) Hb 103 #[.string ⟨#[]⟩,.slice none 0 0,.slice none 0 0,.slice none 0 0]) (fun g=>.pointer (some ⟨g,0,none⟩)) rfl rfl rfl rfl (fun wv=>?_) (fun wv HC hrm hD hro=>?_) ?_
      ·go_simp<;>rfl
      ·exact ⟨_,rfl,by have:=hrm.1;rw [HHb.out];exact this,hro _ HC.Zb⟩
      rintro gb wg HCg hsl
      simp only [zp]
      clear hsl HCg
      refine Zk ?_
      rintro wxb HY
      rintro _hrm HGW
      have hap:UE (Mut M KL) T (.tuple #[.agg #[.string z.nm,.slice z.I z.ni z.ci,.slice z.D z.nd z.cd,.slice z.U z.nu z.cu],.bool T.1]) wxb:=(Zo (d:=39) rfl).1 (HGW 8 _ rfl (by omega))
      have hns:Yp (Mut M KL) Hb 103 #[.string ⟨#[]⟩,.slice none 0 0,.slice none 0 0,.slice none 0 0] (.pointer (some ⟨gb,0,none⟩)) wxb:=(Zo (d:=8) rfl).1 (HGW 12 _ rfl (by omega))
      clear HGW
      obtain ⟨g7,hg7,hgH,hgB⟩:=hns
      obtain rfl:gb=g7:=by injection hg7 with hg7;injection hg7 with hg7;injection hg7
      clear hg7
      rw [HHb.out] at hgH
      have HB:=Hold.VI KN.drew HY _hrm hgH hgB.now
      have hgn:=hgB.now
      obtain ⟨z2,e2,hz,hzg,rz⟩:=hap
      have ev:Value.agg #[.string z.nm,.slice z.I z.ni z.ci,.slice z.D z.nd z.cd,.slice z.U z.nu z.cu]=.agg #[.string z2.nm,.slice z2.I z2.ni z2.ci,.slice z2.D z2.nd z2.cd,.slice z2.U z2.nu z2.cu]:=by
       have h:=e2
       simp only [El.val,Value.tuple.injEq,Array.mk.injEq,List.cons.injEq,and_true] at h
       exact h
      rw [ev]
      clear ev e2
      have HZ:=hid (KJ hz hzg)
      have K4:=HB.add ((ZgL rz hgn ZiM).less fun b hb=>(ZL.1 hb).elim (fun hf=>Or.inl (by have hf:some gb=some b:=hf;injection hf with hf;exact hf.symm)) Or.inr)
      clear rz hz hzg hgn hgB hgH HY _hrm HHb KN HF HX HB z
      rw [HKL.out] at K4
      clear HKL
      clear KL
      have FB:=K4.facts
      simp only [zg] at FB
      have K5:=((((K4.store 1 rfl 0 (.string z2.nm)).store 1 rfl 1 (.slice z2.I z2.ni z2.ci)).store 1 rfl 2 (.slice z2.D z2.nd z2.cd)).store 1 rfl 3 (.slice z2.U z2.nu z2.cu)).GM 1 rfl
      simp only [zl] at K5
      cases hT1:T.1 with
      | false=>
       have hz:E=(false,[]):=by rw [HE.out];exact Zf2 (XE HX1.out) (XE HY1.out) (by rw [←HT.out];exact hT1)
       subst hz
       have HB:=hid K5.below
       clear HE hT1
       go_wp2_with fail
       (try simp only [Exit.inBlock,Exit.then])
       refine Lh (results_tmp2 rfl _ _ _) rfl ?_
       exact ⟨none,0,0,[],rfl,by omega,by omega,rfl,fun x hx=>(nomatch hx),QW _ _,HB.out⟩
      | true=>
       have HOKN:=hid (Ze9 (XE HX1.out) (XE HY1.out) HS.out.1 (by rw [←HT.out];exact hT1))
       have HEM:=hid (show Y7 (Zw x.tb y.tb).2=decide (z2.ni=0∧z2.nd=0∧z2.nu=0) by rw [←HT.out,←HZ.out.1];exact ZgM (K5.ro 0 rfl).now)
       clear hT1
       go_wp2_with fail
       clear FB K4
       generalize World.setCell _ _ _=w7 at K5 ⊢
       refine (Zj2 w7 z2.nm z2.I z2.ni z2.ci z2.D z2.nd z2.cd z2.U z2.nu z2.cu (by have:=HZ.out.2.i;omega) (by have:=HZ.out.2.d;omega) (by have:=HZ.out.2.u;omega)).mono ?_
       cases hEm:decide (z2.ni=0∧z2.nd=0∧z2.nu=0) with
       | true=>
        rintro e w8 ⟨rfl,b8⟩
        have K6:=(K5.call b8).drop (.cons _ (Kb _ _))
        have HA2:=hid (show outs.map El.dl=Ws (l.map Te.tb) (k.map Te.tb) (i+1) by rw [Zax (XE HX1.out) (XE HY1.out),HEM.out,hEm,Lg rfl,List.append_nil];exact HS.out.2.1)
        clear K5 b8 hEm
        go_wp2_with fail
        go_roundw
        case rel=>exact ⟨i+1,q,cap,O,outs,by omega,by omega,rfl,rfl,by first|rfl|go_num,rfl,hid ⟨HOKN.out,HA2.out,HS.out.2.2⟩,K6⟩
        case measure=>simp [intOf]<;>omega
       | false=>
        rintro e w8 ⟨rfl,b8⟩
        have K6:=K5.call b8
        have HA2:=hid (show (outs++[z2]).map El.dl=Ws (l.map Te.tb) (k.map Te.tb) (i+1) by rw [Zax (XE HX1.out) (XE HY1.out),HEM.out,hEm,if_neg (by simp),List.map_append,HS.out.2.1,←HT.out,←HZ.out.1];rfl)
        clear K5 b8 hEm
        have FB:=K6.facts
        simp only [zg] at FB
        have e9:XK outs++(#[.string z2.nm,.slice z2.I z2.ni z2.ci,.slice z2.D z2.nd z2.cd,.slice z2.U z2.nu z2.cu]).toList=XK (outs++[z2]):=(Zgw outs z2).symm
        have HE9:=hid e9
        clear e9
        go_wp2_with (at_builtin;go_must (refine ZJ K6 2 rfl Tryz.Zgy #[.string z2.nm,.slice z2.I z2.ni z2.ci,.slice z2.D z2.nd z2.cd,.slice z2.U z2.nu z2.cu] rfl (.tmp 47) (.tmp 49) rfl rfl _ (by first|rfl|simp) rfl rfl (by intro u hu;simp at hu;rcases hu with rfl|rfl|rfl|rfl<;>rfl) (by omega) (by omega) ?_);intro g9 cap9 w9 hc9 hm9 KB;rw [HE9.out] at KB;simp only [zl] at KB)
        have KC0:=KB.ZT 3 rfl (ZgK (r:=z2) (KB.ro 3 rfl) (KB.ro 0 rfl))
        simp only [zl] at KC0
        have KC:=KC0.drop (.cons _ (Kb _ _))
        go_roundw
        case rel=>exact ⟨i+1,q+1,cap9,_,outs++[z2],by omega,by omega,rfl,rfl,by first|rfl|go_num,rfl,hid ⟨HOKN.out,HA2.out,fun x hx=>by
         rcases Kk.1 hx with hx|hx
         ·exact HS.out.2.2 x hx
         ·simp at hx;subst hx;exact HZ.out.2⟩,KC⟩
        case measure=>simp [intOf]<;>omega
     ·obtain rfl:i=n:=by omega
      have hd:decide ((i:Int)<(i:Int))=false:=by simp
      have hz:E=(true,Ws (l.map Te.tb) (k.map Te.tb) i):=by rw [HE.out];exact ZaU (by rw [Kj];exact HLL.out) HV1.out HV2.out (by rw [Kj,Kj,HLL.out,HLK.out]) HS.out.1
      subst hz
      have hcap:=ZM (H.get 0 rfl)
      have KS:=H.Zq 0 rfl
      simp only [List.set_cons_zero] at KS
      have r1:=(KS.ZN 0 rfl).and (KS.ZN 1 rfl)
      have HG:=hid KS.below
      clear H HE KS
      go_wp2_with fail
      (try simp only [Exit.inBlock,Exit.then])
      refine Lh (results_tmp2 rfl _ _ _) rfl ?_
      exact ⟨O,q,cap,outs,rfl,hcap.1,hcap.2.1,HS.out.2.1,HS.out.2.2,r1,HG.out⟩
   ·have hb:((n:Int) !=(m:Int))=true:=by simp;omega
    have hb1:((n:Int)==(m:Int))=false:=by rw [beq_eq_false_iff_ne];omega
    have hb2:decide ((n:Int)=(m:Int))=false:=by rw [decide_eq_false_iff_not];omega
    have hz:E=(false,[]):=by rw [HE.out];exact Zf3 (by rw [Kj,Kj,HLL.out,HLK.out];exact hnm)
    subst hz
    have HB:=hid K2.below
    clear K2 HE hnm
    go_wp2_with fail
    (try simp only [Exit.inBlock,Exit.then])
    refine Lh (results_tmp2 rfl _ _ _) rfl ?_
    exact ⟨none,0,0,[],rfl,by omega,by omega,rfl,fun x hx=>(nomatch hx),QW _ _,HB.out⟩
end
end Go.Proofs.YtnmnkbnmollpmaaGreatDoor

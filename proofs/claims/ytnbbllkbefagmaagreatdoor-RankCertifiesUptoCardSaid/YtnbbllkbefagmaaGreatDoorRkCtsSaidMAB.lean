import Derived.Test.YtnbbllkbefagmaaGreatDoorRkCtsSaidMZ
import Derived.Test.YtnbbllkbefagmaaGreatDoorRkCtsSaidMX
import Derived.Deep.RegionHeld3
import Derived.Test.YtnbbllkbefagmaaGreatDoorRkCtsSaidMAA
import Derived.Test.YtnbbllkbefagmaaGreatDoorRkCtsSaidMJ
import Derived.Shelf.SlGeneric
import Derived.Shelf.SlSortCmp.NoneTotal
import Derived.Ground.SlsfProg
import Derived.Test.YtnbbllkbefagmaaGreatDoorProg
import Derived.Test.YtnbbllkbefagmaaGreatDoorRkCtsSaidMC
import Derived.Test.YtnbbllkbefagmaaGreatDoorRkCtsSaidMD
import Derived.WalkSpells
import Derived.Test.YtnbbllkbefagmaaGreatDoorRkCtsSaidMF
import Derived.Sort.Statements
import Derived.Shelf.SlSortCmp.Insertion
import Derived.Test.YtnbbllkbefagmaaGreatDoorRkCtsSaidMK
import Derived.Test.YtnbbllkbefagmaaGreatDoorRkCtsSaidMV
import Derived.Laws.CopyOwn
import Derived.OrdersHeld
import Derived.Test.YtnbbllkbefagmaaGreatDoorRkCtsSaidMG
import Derived.Test.YtnbbllkbefagmaaGreatDoorRkCtsSaidML
import Derived.Test.YtnbbllkbefagmaaGreatDoorRkCtsSaidMQ
namespace Go.Proofs.YtnbbllkbefagmaaGreatDoor
open Go.RowKit
set_option linter.unusedVariables false
set_option linter.unusedSimpArgs false
set_option maxRecDepth 100000 in
set_option maxHeartbeats 2000000 in
theorem ZbP (M:Nat→Prop) (w:World) (hM:∀ b,M b→b<w.heap.size) (a:Ac) (d:Nat) (ha:Ro w M (AcIn d a)) (hn:a.sets.n≤1000000):Calls Tryz.prog 175 #[a.val] w fun e w' =>JC w (Xy a) e w' :=by
 have hD:Ro w M (SesIn d a.sets.A a.sets.n a.sets.l):=ha.imp fun w2 h2=>h2.2.2.1
 obtain ⟨ak,atab,⟨arA,arn,arc,arl⟩,⟨aqA,aqn,aqc,aql⟩,⟨asA,asn,asc,asl⟩,⟨awA,awn,awc,awl⟩,atext⟩:=a
 simp only [Ac.val,Xy] at hD hn ⊢
 clear ha
 by_cases hk:ak=2
 ·subst hk
  rw [if_pos rfl]
  have HL:=hid hD.now.len
  have K0:=(((Hold.start M w hM).add (hD.less (by simp [Mut]))).Za #[.int .i64 2,.string atab,.slice arA arn arc,.slice aqA aqn aqc,.slice asA asn asc,.slice awA awn awc,.string atext] 97)
  have KN:=K0.nil 9 1
  have F0:=K0.facts
  simp only [zg] at F0
  go_enter Tryz.func175,Tryz.ntmps175
  go_wp2_with fail
  clear F0 K0
  go_loopw [3,12] (fun ov iv wr=>∃ (k cap:Nat) (O:Option Addr),k≤asn∧iv=.int .i64 k∧ov=.slice O k cap∧Hold M none w wr [.own 9 1 (.slice O k cap) k (Zv ((asl.take k).map Se.col)),.cst w.heap.size 97 #[.int .i64 2,.string atab,.slice arA arn arc,.slice aqA aqn aqc,.slice asA asn asc,.slice awA awn awc,.string atext],.ro (SesIn d asA asn asl)]) (fun _ i _=>asn - (intOf i).toNat)
  case atStart=>exact ⟨0,0,none,by omega,rfl,rfl,KN⟩
  case round=>
   clear KN
   obtain ⟨k,cap,O,hk,rfl,rfl,H⟩:=hrel
   by_cases hlt:k<asn
   ·obtain ⟨⟨xcol,⟨xk,xop,xnt,⟨xvk,xvi,xvs⟩,xtab,xnm,xA,xn,xc,xargs,xB,xm,xd,xsub⟩⟩,hc⟩:=Y2 HL.out hlt
    obtain ⟨b,o,rfl,hb,hcl,-⟩:=(H.ro 2 rfl).now.at_ hc
    have c0:=hcl 0 _ (by omega) rfl
    have c1:=hcl 1 _ (by omega) rfl
    have c2:=hcl 2 _ (by omega) rfl
    have c3:=hcl 3 _ (by omega) rfl
    have c4:=hcl 4 _ (by omega) rfl
    have c5:=hcl 5 _ (by omega) rfl
    have c6:=hcl 6 _ (by omega) rfl
    have c7:=hcl 7 _ (by omega) rfl
    have c8:=hcl 8 _ (by omega) rfl
    have c9:=hcl 9 _ (by omega) rfl
    have c10:=hcl 10 _ (by omega) rfl
    simp only [Nat.add_zero] at c0
    clear hcl
    have HCE:=hid (show Zv ((asl.take k).map Se.col)++(#[Value.string xcol]).toList=Zv ((asl.take (k+1)).map Se.col) by rw [List.take_add_one,hc];simp [Zv])
    clear hc
    have K1:=H.Za #[.string xcol,.int .i64 xk,.int .i64 xop,.bool xnt,.int .i64 xvk,.int .i64 xvi,.string xvs,.string xtab,.string xnm,.slice xA xn xc,.slice xB xm xd] 128
    have F1:=K1.facts
    simp only [zg] at F1
    clear H
    go_wp2_with (at_builtin;go_must (refine Zx K1 1 rfl Tryz.Qe #[.string xcol] rfl (.tmp 16) (.tmp 19) rfl rfl _ (by first|rfl|simp) rfl rfl (by intro u hu;simp at hu;rcases hu with rfl;rfl) (by omega) (by omega) ?_);intro g9 cap9 w9 hc9 hm9 KB;rw [HCE.out] at KB;simp only [zl] at KB)
    go_roundw
    case rel=>exact ⟨k+1,cap9,_,by omega,by go_num,by first|rfl|trivial,KB.drop (List.sublist_cons_self _ _)⟩
    case measure=>simp [intOf];omega
   ·obtain rfl:asn=k:=by omega
    rw [List.take_of_length_le (by rw [HL.out];exact Nat.le_refl _)] at H
    have F:=H.facts
    simp only [zg] at F
    go_wp2_with fail
    go_ret
    exact ⟨O,asn,cap,by first|rfl|simp,by rw [List.length_map];exact HL.out.symm,H.get 0 rfl,H.below⟩
 ·rw [if_neg hk]
  have K0:=(Hold.YD w).Za #[.int .i64 ak,.string atab,.slice arA arn arc,.slice aqA aqn aqc,.slice asA asn asc,.slice awA awn awc,.string atext] 97
  have F0:=K0.facts
  simp only [zg] at F0
  have HB:=hid K0.below
  clear K0
  go_enter Tryz.func175,Tryz.ntmps175
  go_wp2_with fail
  all_goals first
   | (exfalso;omega)
   | (go_ret;exact ⟨none,0,0,rfl,rfl,World.ownsRow_nil _ _ _ _,HB.out⟩)
theorem Qw (l:List ByteArray) (x:ByteArray):Yj l x=l.any fun c=>decide (c=x):=by
 unfold Yj
 rw [Bool.eq_iff_iff]
 simp only [decide_eq_true_eq,List.any_eq_true]
 constructor
 ·intro h;exact ⟨x,h,rfl⟩
 ·rintro ⟨y,h,rfl⟩;exact h
theorem eight {w:World} {g h:Nat} {t u:TypeId} {a b c d e f k x y z q:Value} (h1:Blk w g t #[a,b,c,d,e,f,k]) (h2:Blk w h u #[x,y,z,q]):w.cell? ⟨g,0,none⟩=some a∧w.cell? ⟨g,1,none⟩=some b∧w.cell? ⟨g,2,none⟩=some c∧w.cell? ⟨g,3,none⟩=some d∧w.cell? ⟨g,4,none⟩=some e∧w.cell? ⟨g,5,none⟩=some f∧w.cell? ⟨g,6,none⟩=some k∧w.cell? ⟨h,1,none⟩=some y:=
 ⟨h1.cell 0,h1.cell 1,h1.cell 2,h1.cell 3,h1.cell 4,h1.cell 5,h1.cell 6,h2.cell 1⟩
set_option maxRecDepth 100000 in
set_option maxHeartbeats 4000000 in
theorem ZcT (M:Nat→Prop) (w:World) (hM:∀ b,M b→b<w.heap.size) (a:Ac) (r:Rk) (d:Nat) (ha:Ro w M (AcIn (d+1) a)) (hn:a.sets.n≤1000000):Calls Tryz.prog 142 #[a.val,r.val] w fun e w' =>e=.returned (.bool (Ya r a))∧Below w.heap.size w w' :=by
 obtain ⟨ak,atab,⟨arA,arn,arc,arl⟩,⟨aqA,aqn,aqc,aql⟩,⟨asA,asn,asc,asl⟩,⟨awA,awn,awc,awl⟩,atext⟩:=a
 obtain ⟨rtab,rcol,rlo,rhi⟩:=r
 simp only [Ac.val,Rk.val] at hn ⊢
 have K0:=(((Hold.start M w hM).add (ha.less (by simp [Mut]))).Za #[.int .i64 ak,.string atab,.slice arA arn arc,.slice aqA aqn aqc,.slice asA asn asc,.slice awA awn awc,.string atext] 97).Za #[.string rtab,.string rcol,.int .i64 rlo,.int .i64 rhi] 85
 simp only [World.size_alloc] at K0
 have F0:=K0.facts
 simp only [zg] at F0
 have HB:=hid K0.below
 have HH:=hid (show Ya ⟨rtab,rcol,rlo,rhi⟩ ⟨ak,atab,⟨arA,arn,arc,arl⟩,⟨aqA,aqn,aqc,aql⟩,⟨asA,asn,asc,asl⟩,⟨awA,awn,awc,awl⟩,atext⟩=if atab=rtab then (if ak=1 then false else if ak=2∧Yj (Xy ⟨ak,atab,⟨arA,arn,arc,arl⟩,⟨aqA,aqn,aqc,aql⟩,⟨asA,asn,asc,asl⟩,⟨awA,awn,awc,awl⟩,atext⟩) rcol=true then (ZT ⟨ak,atab,⟨arA,arn,arc,arl⟩,⟨aqA,aqn,aqc,aql⟩,⟨asA,asn,asc,asl⟩,⟨awA,awn,awc,awl⟩,atext⟩ rcol).2 else true) else true by
  have h2:(ZT ⟨ak,atab,⟨arA,arn,arc,arl⟩,⟨aqA,aqn,aqc,aql⟩,⟨asA,asn,asc,asl⟩,⟨awA,awn,awc,awl⟩,atext⟩ rcol).2=(YN ⟨ak,atab,⟨arA,arn,arc,arl⟩,⟨aqA,aqn,aqc,aql⟩,⟨asA,asn,asc,asl⟩,⟨awA,awn,awc,awl⟩,atext⟩ rcol).isSome:=by
   unfold ZT;cases YN ⟨ak,atab,⟨arA,arn,arc,arl⟩,⟨aqA,aqn,aqc,aql⟩,⟨asA,asn,asc,asl⟩,⟨awA,awn,awc,awl⟩,atext⟩ rcol<;>rfl
  rw [h2,Qw]
  rfl)
 generalize Ya ⟨rtab,rcol,rlo,rhi⟩ ⟨ak,atab,⟨arA,arn,arc,arl⟩,⟨aqA,aqn,aqc,aql⟩,⟨asA,asn,asc,asl⟩,⟨awA,awn,awc,awl⟩,atext⟩=R at *
 by_cases h1:atab=rtab
 ·have h1b:atab.toList=rtab.toList:=by rw [h1]
  have h1c:(atab.toList==rtab.toList)=true:=by simp [h1]
  by_cases h2:ak=1
  ·have hr:R=false:=by rw [HH.out,if_pos h1,if_pos h2]
   subst h2
   clear HH K0 h1
   subst hr
   go_enter Tryz.func142,Tryz.ntmps142
   go_wp2_with fail
   all_goals first
    | (exfalso;simp_all;done)
    | (go_ret;exact ⟨by first|rfl|simp,HB.out⟩)
  ·by_cases h3:ak=2
   ·subst h3
    clear h2
    have hr0:R=if Yj (Xy ⟨2,atab,⟨arA,arn,arc,arl⟩,⟨aqA,aqn,aqc,aql⟩,⟨asA,asn,asc,asl⟩,⟨awA,awn,awc,awl⟩,atext⟩) rcol=true then (ZT ⟨2,atab,⟨arA,arn,arc,arl⟩,⟨aqA,aqn,aqc,aql⟩,⟨asA,asn,asc,asl⟩,⟨awA,awn,awc,awl⟩,atext⟩ rcol).2 else true:=by rw [HH.out,if_pos h1,if_neg (by decide)];simp
    have HR:=hid hr0
    clear HH h1 hr0
    have hc1:=ZbP _ _ K0.drew.Zc ⟨2,atab,⟨arA,arn,arc,arl⟩,⟨aqA,aqn,aqc,aql⟩,⟨asA,asn,asc,asl⟩,⟨awA,awn,awc,awl⟩,atext⟩ (d+1) (K0.drew.ro 2 rfl) hn
    simp only [Ac.val] at hc1
    have hlen:=hid (show (Xy ⟨2,atab,⟨arA,arn,arc,arl⟩,⟨aqA,aqn,aqc,aql⟩,⟨asA,asn,asc,asl⟩,⟨awA,awn,awc,awl⟩,atext⟩).length≤1000000 by
     have h5:SesIn (d+1) asA asn asl w:=ha.now.2.2.1
     simp only [Xy,if_true,List.length_map]
     have:=h5.len
     omega)
    go_enter Tryz.func142,Tryz.ntmps142
    go_wp2_with fail
    go_region_held3 (fun w' =>w'.cell? ⟨w.heap.size,0,none⟩=some (.int .i64 2)∧w'.cell? ⟨w.heap.size,1,none⟩=some (.string atab)∧w'.cell? ⟨w.heap.size,2,none⟩=some (.slice arA arn arc)∧w'.cell? ⟨w.heap.size,3,none⟩=some (.slice aqA aqn aqc)∧w'.cell? ⟨w.heap.size,4,none⟩=some (.slice asA asn asc)∧w'.cell? ⟨w.heap.size,5,none⟩=some (.slice awA awn awc)∧w'.cell? ⟨w.heap.size,6,none⟩=some (.string atext)∧w'.cell? ⟨w.heap.size+1,1,none⟩=some (.string rcol))
     (first|exact eight (K0.drew.ZB 1 rfl) (K0.drew.ZB 0 rfl)|exact eight (K2.ZB 2 rfl) (K2.ZB 1 rfl))
     (first
      | (go_at_call 175;((with_reducible refine hc1.mono ?_);rintro e w1 ⟨A1,n1,c1,rfl,hl1,ho1,b1⟩;have HL1:=hid hl1;clear hl1;have K1:=K0.drew.JO b1 ho1;have K2:=K1.ZC 0 rfl;simp only [List.set_cons_zero] at K2;have hc2:=JX w1 A1 n1 c1 (Xy ⟨2,atab,⟨arA,arn,arc,arl⟩,⟨aqA,aqn,aqc,aql⟩,⟨asA,asn,asc,asl⟩,⟨awA,awn,awc,awl⟩,atext⟩) rcol (K2.ro 0 rfl).now (by have:=hlen.out;have:=HL1.out;omega)))
      | (go_at_call 119;((with_reducible refine hc2.mono ?_);rintro e w2 ⟨rfl,rfl⟩)))
    clear F0 hc1 hc2 K0 K1 ho1
    have F2:=K2.facts
    simp only [zg] at F2
    cases hcs:Yj (Xy ⟨2,atab,⟨arA,arn,arc,arl⟩,⟨aqA,aqn,aqc,aql⟩,⟨asA,asn,asc,asl⟩,⟨awA,awn,awc,awl⟩,atext⟩) rcol
    ·have hr:R=true:=by rw [HR.out,hcs];rfl
     clear HR hcs
     subst hr
     go_wp2_with fail
     go_ret
     exact ⟨by first|rfl|simp,K2.below⟩
    ·have hr0:R=(ZT ⟨2,atab,⟨arA,arn,arc,arl⟩,⟨aqA,aqn,aqc,aql⟩,⟨asA,asn,asc,asl⟩,⟨awA,awn,awc,awl⟩,atext⟩ rcol).2:=by rw [HR.out,hcs];rfl
     have HR2:=hid hr0
     clear HR hcs hr0
     go_wp2_with fail
     refine (za _ _ K2.Zc ⟨2,atab,⟨arA,arn,arc,arl⟩,⟨aqA,aqn,aqc,aql⟩,⟨asA,asn,asc,asl⟩,⟨awA,awn,awc,awl⟩,atext⟩ rcol d (K2.ro 3 rfl) (by show asn≤_;omega)).mono ?_
     rintro e w3 ⟨rfl,b3⟩
     have K3:=K2.call b3
     go_wp2_with fail
     go_ret
     exact ⟨by rw [HR2.out]<;>rfl,K3.below⟩
   ·have hr:R=true:=by rw [HH.out,if_pos h1,if_neg h2,if_neg (fun h=>h3 h.1)]
    have h3b:(ak !=2)=true:=by simpa using h3
    have hB:=fun q=>(K0.drewN q).below
    have HB2:=hid hB
    clear HH K0 h1 hB
    subst hr
    go_enter Tryz.func142,Tryz.ntmps142
    go_wp2_with fail
    all_goals first
     | (exfalso;simp_all;done)
     | skip
    go_quiet (fail)
    go_wp2_with fail
    go_ret
    exact ⟨by first|rfl|simp,HB2.out _⟩
 ·have h1b:¬atab.toList=rtab.toList:=fun h=>h1 (Yr h)
  have h1c:(atab.toList==rtab.toList)=false:=by simpa using h1b
  have hr:R=true:=by rw [HH.out,if_neg h1]
  clear HH K0
  subst hr
  go_enter Tryz.func142,Tryz.ntmps142
  go_wp2_with fail
  all_goals first
   | (exfalso;simp_all;done)
   | (go_ret;exact ⟨by first|rfl|simp,HB.out⟩)
set_option maxHeartbeats 4000000 in
theorem Zf3 (w:World) (A:Option Addr) (n c:Nat) (xs:List ByteArray) (x:ByteArray) (hD:StrsIn A n xs w) (hn:n≤9223372036854775807):
  Calls Tryz.prog 146 #[.slice A n c,.string x] w fun e w' =>e=.returned (.bool (Yj xs x))∧w=w' :=by
 have HL:=hid hD.len
 go_enter Tryz.func146,Tryz.ntmps146
 go_wp2_with fail
 go_loopw [9] (fun iv wr=>∃ (k:Nat),k≤n∧iv=.int .i64 k∧wr=w∧Hid (Yj (xs.take k) x=false)) (fun iv _=>n - (intOf iv).toNat)
 case atStart=>exact ⟨0,by omega,rfl,rfl,hid (by simp [Yj])⟩
 case round=>
  obtain ⟨k,hk,rfl,rfl,HC⟩:=hrel
  by_cases hlt:k<n
  ·have i0:(0:Int)≤(k:Int):=by omega
   have i1:(k:Int)<(n:Int):=by omega
   obtain ⟨y,hy⟩:=Z4 HL.out hlt
   obtain ⟨b,o,rfl,_,ck⟩:=hD.at_ hy
   have HX:=hid hy
   clear hy
   cases e2:(y.toList==x.toList)
   ·have HN:=hid (zU HX.out (fun e=>by rw [e] at e2;simp at e2) HC.out)
    go_wp2_with fail
    go_roundw
    case rel=>exact ⟨k+1,by omega,by go_num,by first|rfl|trivial,HN⟩
    case measure=>simp [intOf];omega
   ·have HN:=hid (Zbm HX.out (V4.1 e2))
    go_wp2_with fail
    go_ret
    exact ⟨by rw [HN.out]<;>rfl,rfl⟩
  ·obtain rfl:n=k:=by omega
   have HN:=hid (show Yj xs x=false by have h:=HC.out;rwa [List.take_of_length_le (by rw [HL.out];exact Nat.le_refl _)] at h)
   go_wp2_with fail
   go_ret
   exact ⟨by rw [HN.out]<;>rfl,rfl⟩
def YB (k:Int) (l:List Se) (j:Nat):List ByteArray:=if k=5 then (l.take j).map Se.col else []
theorem ZeL {k:Int} (h:k≠5) (l:List Se) (i j:Nat):YB k l i=YB k l j:=by unfold YB;rw [if_neg h,if_neg h]
theorem Ze0 {l:List Se} {j:Nat} {x:Se} (hx:l[j]? =some x):YB 5 l (j+1)=YB 5 l j++[x.col]:=by
 unfold YB;rw [if_pos rfl,if_pos rfl,List.take_add_one,hx];simp
theorem Zfk {ul:List Ac} {i:Nat} {a:Ac} (ha:ul[i]? =some a):(Zu (ul.take i)).map Se.col++YB a.kind a.sets.l a.sets.l.length=(Zu (ul.take (i+1))).map Se.col:=by
 rw [Jf ha,List.map_append]
 unfold YB
 split<;>simp
theorem ZeY {ul:List Ac} {i j:Nat} {a:Ac} (ha:ul[i]? =some a):(Zu (ul.take i)).length+(YB a.kind a.sets.l j).length≤(Zu ul).length:=by
 refine Nat.le_trans ?_ (Zay (l:=ul) (i+1))
 rw [Jf ha,List.length_append]
 unfold YB
 split
 ·simp;omega
 ·simp
set_option maxRecDepth 100000 in
set_option maxHeartbeats 8000000 in
theorem ZbZ (M:Nat→Prop) (w:World) (hM:∀ b,M b→b<w.heap.size) (t:Tg) (d:Nat) (ha:Ro w M (AcsIn d t.acts.A t.acts.n t.acts.l)) (hf:TgFit d t):Calls Tryz.prog 200 #[t.val] w fun e w' =>JC w (YX t) e w' :=by
 have HSC:=hid (JK t)
 have hs:=hf.s
 have hn:=hf.n
 have HA:=hid hf.a
 clear hf
 generalize YX t=SC at *
 obtain ⟨tn,tt,tb,te,⟨oA,on,oc,ol⟩,tch,⟨pA,pn,pc,pl⟩,⟨qA,qn,qc,ql⟩,⟨rA,rn,rc,rl⟩,⟨kA,kn,kc,kl⟩,⟨uA,un,uc,ul⟩⟩:=t
 simp only [Tg.val] at ha hs hn HSC HA ⊢
 have HL:=hid ha.now.len
 have HS:=hid hs
 have K0:=(((Hold.start M w hM).add (ha.less (by simp [Mut]))).Za #[.string tn,.string tt,.bool tb,.int .i64 te,.slice oA on oc,.bool tch,.slice pA pn pc,.slice qA qn qc,.slice rA rn rc,.slice kA kn kc,.slice uA un uc] 40).nil 9 1
 obtain ⟨g1,hg1⟩:∃ g,g=w.heap.size:=⟨_,rfl⟩
 rw [←hg1] at K0
 clear ha hs
 go_enter Tryz.func200,Tryz.ntmps200
 go_upto_region 1 with fail
 rw [←hg1]
 have HG1:=hid hg1
 clear hg1
 generalize World.alloc _ _=w1 at K0 ⊢
 have F0:=K0.facts
 simp only [zg] at F0
 go_wp2_with fail
 clear F0
 go_loopw [3,11] (fun ov iv wr=>∃ (i q cap:Nat) (O:Option Addr),i≤un∧iv=.int .i64 i∧ov=.slice O q cap∧Hid (q=(Zu (ul.take i)).length)∧Hold M none w wr [.own 9 1 (.slice O q cap) q (Zv ((Zu (ul.take i)).map Se.col)),.cst g1 40 #[.string tn,.string tt,.bool tb,.int .i64 te,.slice oA on oc,.bool tch,.slice pA pn pc,.slice qA qn qc,.slice rA rn rc,.slice kA kn kc,.slice uA un uc],.ro (AcsIn d uA un ul)]) (fun _ iv _=>un - (intOf iv).toNat)
 case atStart=>exact ⟨0,0,0,none,by omega,rfl,rfl,hid rfl,K0⟩
 case round=>
  clear K0
  obtain ⟨i,q,cap,O,hi,rfl,rfl,HQ,H⟩:=hrel
  by_cases hlt:i<un
  ·have i0:(0:Int)≤(i:Int):=by omega
   have i1:(i:Int)<(un:Int):=by omega
   obtain ⟨⟨ak,atab,⟨arA,arn,arc,arl⟩,⟨aqA,aqn,aqc,aql⟩,⟨asA,asn,asc,asl⟩,⟨awA,awn,awc,awl⟩,atext⟩,hx⟩:=Z4 HL.out hlt
   obtain ⟨b,o,rfl,hb,hc,-⟩:=(H.ro 2 rfl).now.at_ hx
   have x0:=hc 0 _ (by omega) rfl
   have x1:=hc 1 _ (by omega) rfl
   have x2:=hc 2 _ (by omega) rfl
   have x3:=hc 3 _ (by omega) rfl
   have x4:=hc 4 _ (by omega) rfl
   have x5:=hc 5 _ (by omega) rfl
   have x6:=hc 6 _ (by omega) rfl
   simp only [Nat.add_zero,SlP.v] at x0 x1 x2 x3 x4 x5 x6
   clear hc
   have HX:=hid hx
   have K1:=((H.add (S:=SesIn d asA asn asl) ((H.ro 2 rfl).imp fun w2 h2=>(h2.2 _ (List.mem_of_getElem? hx)).2.2.1)).Za #[.int .i64 ak,.string atab,.slice arA arn arc,.slice aqA aqn aqc,.slice asA asn asc,.slice awA awn awc,.string atext] 97).pick [2,0,1,3,4] (by decide) rfl
   simp only [List.filterMap_cons,List.filterMap_nil,List.getElem?_cons_zero,List.getElem?_cons_succ] at K1
   have HLE:=hid (fun j=>ZeY (j:=j) hx)
   have hsn:asn≤1000000:=(HA.out _ (List.mem_of_getElem? hx)).1
   clear H hx
   obtain ⟨g5,hg5⟩:∃ g,g=wr.heap.size:=⟨_,rfl⟩
   rw [←hg5] at K1
   go_upto_region 5 with fail
   rw [←hg5]
   have HG5:=hid hg5
   clear hg5 x0 x1 x2 x3 x4 x5 x6
   generalize World.alloc _ _=w4 at K1 ⊢
   have HSL:=hid (K1.ro 2 rfl).now.len
   dsimp only at HLE
   have F1:=K1.facts
   simp only [zg] at F1
   go_wp2_with fail
   clear F1
   go_loopw [3,18] (fun ov jv wr=>∃ (j q cap:Nat) (O:Option Addr),j≤asn∧jv=.int .i64 j∧ov=.slice O q cap∧Hid (q=(Zu (ul.take i)).length+(YB ak asl j).length)∧Hold M none w wr [.own 9 1 (.slice O q cap) q (Zv ((Zu (ul.take i)).map Se.col++YB ak asl j)),.cst g5 97 #[.int .i64 ak,.string atab,.slice arA arn arc,.slice aqA aqn aqc,.slice asA asn asc,.slice awA awn awc,.string atext],.ro (SesIn d asA asn asl),.cst g1 40 #[.string tn,.string tt,.bool tb,.int .i64 te,.slice oA on oc,.bool tch,.slice pA pn pc,.slice qA qn qc,.slice rA rn rc,.slice kA kn kc,.slice (some ⟨b,o,none⟩) un uc],.ro (AcsIn d (some ⟨b,o,none⟩) un ul)]) (fun _ jv _=>asn - (intOf jv).toNat)
   case atStart=>exact ⟨0,q,cap,O,by omega,rfl,rfl,hid (by rw [HQ.out];unfold YB;split<;>simp),by
    have e:(Zu (ul.take i)).map Se.col++YB ak asl 0=(Zu (ul.take i)).map Se.col:=by unfold YB;split<;>simp
    rw [e];exact K1⟩
   case round=>
    clear K1
    obtain ⟨j,q,cap,O,hj,rfl,rfl,HQ,H⟩:=hrel
    by_cases hlj:j<asn
    ·have j0:(0:Int)≤(j:Int):=by omega
     have j1:(j:Int)<(asn:Int):=by omega
     obtain ⟨⟨xcol,⟨xk,xop,xnt,⟨xvk,xvi,xvs⟩,xtab,xnm,xA,xn,xc,xargs,xB,xm,xd,xsub⟩⟩,hy⟩:=Z4 HSL.out hlj
     obtain ⟨b',o',rfl,hb',hc,-⟩:=(H.ro 2 rfl).now.at_ hy
     have y0:=hc 0 _ (by omega) rfl
     have y1:=hc 1 _ (by omega) rfl
     have y2:=hc 2 _ (by omega) rfl
     have y3:=hc 3 _ (by omega) rfl
     have y4:=hc 4 _ (by omega) rfl
     have y5:=hc 5 _ (by omega) rfl
     have y6:=hc 6 _ (by omega) rfl
     have y7:=hc 7 _ (by omega) rfl
     have y8:=hc 8 _ (by omega) rfl
     have y9:=hc 9 _ (by omega) rfl
     have y10:=hc 10 _ (by omega) rfl
     simp only [Nat.add_zero] at y0
     clear hc
     have HY:=hid hy
     have hq5:q≤549755813888:=by have:=HQ.out;have:=HLE.out j;have:=HS.out;omega
     have K2:=H.Za #[.string xcol,.int .i64 xk,.int .i64 xop,.bool xnt,.int .i64 xvk,.int .i64 xvi,.string xvs,.string xtab,.string xnm,.slice xA xn xc,.slice xB xm xd] 128
     clear H hy
     have F2:=K2.facts
     simp only [zg] at F2
     by_cases h5:ak=5
     ·have b5:(ak==5)=true:=by simp [h5]
      have HP:=hid (show YB ak asl (j+1)=YB ak asl j++[xcol] from by rw [h5];exact Ze0 HY.out)
      clear h5
      go_wp2_with (at_builtin;go_must (refine Zx K2 1 rfl Tryz.Qe #[.string xcol] rfl (.tmp 25) (.tmp 28) rfl rfl _ (by first|rfl|simp) rfl rfl (by intro u hu;simp at hu;rcases hu with rfl;rfl) (by omega) (by omega) ?_);intro g9 cap9 w9 hc9 hm9 KB;simp only [zl] at KB)
      rw [show Zv ((Zu (ul.take i)).map Se.col++YB ak asl j)++(#[Value.string xcol]:Array Value).toList=Zv ((Zu (ul.take i)).map Se.col++YB ak asl (j+1)) from by rw [HP.out];simp [Zv]] at KB
      go_roundw
      case rel=>exact ⟨j+1,q+1,cap9,_,by omega,by go_num,by first|rfl|trivial,hid (by rw [HP.out,List.length_append,HQ.out];rfl),KB.drop (List.sublist_cons_self _ _)⟩
      case measure=>simp [intOf];omega
     ·have b5:(ak==5)=false:=by simp [h5]
      have HP:=hid (ZeL h5 asl (j+1) j)
      clear h5
      go_wp2_with fail
      go_roundw
      case rel=>exact ⟨j+1,q,cap,O,by omega,by go_num,by first|rfl|trivial,hid (by rw [HP.out];exact HQ.out),by rw [HP.out];exact K2.drop (List.sublist_cons_self _ _)⟩
      case measure=>simp [intOf];omega
    ·obtain rfl:asn=j:=by omega
     have HE:=hid (Zfk HX.out)
     dsimp only at HE
     have h:=HSL.out
     rw [←h] at H HQ
     rw [HE.out] at H
     have HQ2:=hid (show q=(Zu (ul.take (i+1))).length from by
      have e:=congrArg List.length HE.out
      rw [List.length_append,List.length_map,List.length_map] at e
      rw [HQ.out];exact e)
     have KC:=H.pick [0,3,4] (by decide) rfl
     simp only [List.filterMap_cons,List.filterMap_nil,List.getElem?_cons_zero,List.getElem?_cons_succ] at KC
     clear H
     go_wp2_with fail
     go_roundw
     case rel=>exact ⟨i+1,q,cap,O,by omega,by go_num,by first|rfl|trivial,HQ2,KC⟩
     case measure=>simp [intOf];omega
  ·obtain rfl:un=i:=by omega
   have h:=HQ.out
   rw [List.take_of_length_le (by rw [HL.out];exact Nat.le_refl _)] at H h
   rw [HSC.out] at H
   have HQ2:=hid (show q=SC.length from by rw [h,←HSC.out,List.length_map])
   go_wp2_with fail
   go_ret
   exact ⟨O,q,cap,by first|rfl|simp,HQ2.out,H.get 0 rfl,H.below⟩
set_option maxRecDepth 100000 in
set_option maxHeartbeats 4000000 in
theorem Zda (M:Nat→Prop) (w:World) (hM:∀ b,M b→b<w.heap.size) (t:Tg) (d:Nat) (ha:Ro w M (AcsIn d t.acts.A t.acts.n t.acts.l)) (hf:TgFit d t):Calls Tryz.prog 147 #[t.val] w fun e w' =>JC w (YX t) e w' :=by
 have K0:=((Hold.start M w hM).add (ha.less (by simp [Mut]))).Za #[.string t.name,.string t.tab,.bool t.before,.int .i64 t.event,.slice t.cols.A t.cols.n t.cols.c,.bool t.each,.slice t.prec.A t.prec.n t.prec.c,.slice t.foll.A t.foll.n t.foll.c,.slice t.rank.A t.rank.n t.rank.c,.slice t.cond.A t.cond.n t.cond.c,.slice t.acts.A t.acts.n t.acts.c] 40
 have F0:=K0.facts
 simp only [zg] at F0
 rw [show t.val=.agg #[.string t.name,.string t.tab,.bool t.before,.int .i64 t.event,.slice t.cols.A t.cols.n t.cols.c,.bool t.each,.slice t.prec.A t.prec.n t.prec.c,.slice t.foll.A t.foll.n t.foll.c,.slice t.rank.A t.rank.n t.rank.c,.slice t.cond.A t.cond.n t.cond.c,.slice t.acts.A t.acts.n t.acts.c] from rfl]
 go_enter Tryz.func147,Tryz.ntmps147
 go_wp2_with fail
 refine (ZbZ _ _ K0.Zc t d (K0.ro 1 rfl) hf).mono ?_
 rintro e w1 ⟨A1,n1,c1,rfl,hl1,ho1,b1⟩
 have HB:=hid (K0.call b1).below
 have HO:=hid (QK (show w.heap.size≤_ from K0.grow.size) ho1)
 have HL1:=hid hl1
 clear K0 F0 ho1 b1 hl1
 go_wp2_with fail
 go_ret
 exact ⟨A1,n1,c1,by first|rfl|simp,HL1.out,HO.out,HB.out⟩
set_option maxRecDepth 100000 in
set_option maxHeartbeats 4000000 in
theorem ZfB (M:Nat→Prop) (w:World) (hM:∀ b,M b→b<w.heap.size) (a:Ac) (col:ByteArray) (d:Nat) (ha:Ro w M (AcIn d a)) (hn:a.sets.n≤1000000):Calls Tryz.prog 148 #[a.val,.string col] w fun e w' =>e=.returned (.bool (a.sets.l.any fun s=>decide (s.col=col)))∧Below w.heap.size w w' :=by
 have hD:Ro w M (SesIn d a.sets.A a.sets.n a.sets.l):=ha.imp fun w2 h2=>h2.2.2.1
 obtain ⟨ak,atab,⟨arA,arn,arc,arl⟩,⟨aqA,aqn,aqc,aql⟩,⟨asA,asn,asc,asl⟩,⟨awA,awn,awc,awl⟩,atext⟩:=a
 simp only [Ac.val] at hD hn ⊢
 clear ha
 have HL:=hid hD.now.len
 have K0:=((Hold.start M w hM).add (hD.less (by simp [Mut]))).Za #[.int .i64 ak,.string atab,.slice arA arn arc,.slice aqA aqn aqc,.slice asA asn asc,.slice awA awn awc,.string atext] 97
 have F0:=K0.facts
 simp only [zg] at F0
 go_enter Tryz.func148,Tryz.ntmps148
 go_wp2_with fail
 clear F0
 go_loopw [10] (fun i wr=>∃ k:Nat,k≤asn∧i=.int .i64 k∧Hid (((asl.take k).any fun s=>decide (s.col=col))=false)∧Hold M none w wr [.ro (SesIn d asA asn asl)]) (fun i _=>asn - (intOf i).toNat)
 case atStart=>exact ⟨0,by omega,rfl,hid rfl,K0.drop (List.sublist_cons_self _ _)⟩
 case round=>
  clear K0
  obtain ⟨k,hk,rfl,HP,H⟩:=hrel
  by_cases hlt:k<asn
  ·have k0:(0:Int)≤(k:Int):=by omega
   have k1:(k:Int)<(asn:Int):=by omega
   obtain ⟨⟨xcol,⟨xk,xop,xnt,⟨xvk,xvi,xvs⟩,xtab,xnm,xA,xn,xc,xargs,xB,xm,xd,xsub⟩⟩,hy⟩:=Z4 HL.out hlt
   obtain ⟨b,o,rfl,hb,hc,-⟩:=(H.ro 0 rfl).now.at_ hy
   have y0:=hc 0 _ (by omega) rfl
   have y1:=hc 1 _ (by omega) rfl
   have y2:=hc 2 _ (by omega) rfl
   have y3:=hc 3 _ (by omega) rfl
   have y4:=hc 4 _ (by omega) rfl
   have y5:=hc 5 _ (by omega) rfl
   have y6:=hc 6 _ (by omega) rfl
   have y7:=hc 7 _ (by omega) rfl
   have y8:=hc 8 _ (by omega) rfl
   have y9:=hc 9 _ (by omega) rfl
   have y10:=hc 10 _ (by omega) rfl
   simp only [Nat.add_zero] at y0
   clear hc
   have HY:=hid hy
   have K1:=H.Za #[.string xcol,.int .i64 xk,.int .i64 xop,.bool xnt,.int .i64 xvk,.int .i64 xvi,.string xvs,.string xtab,.string xnm,.slice xA xn xc,.slice xB xm xd] 128
   have F1:=K1.facts
   simp only [zg] at F1
   clear H hy
   by_cases hcol:xcol=col
   ·have b0:(xcol.toList==col.toList)=true:=by simp [hcol]
    have HH:=hid (show (asl.any fun s=>decide (s.col=col))=true from List.any_eq_true.2 ⟨_,List.mem_of_getElem? HY.out,decide_eq_true hcol⟩)
    clear hcol
    go_wp2_with fail
    go_ret
    exact ⟨by rw [HH.out]<;>rfl,K1.below⟩
   ·have b0:(xcol.toList==col.toList)=false:=by rw [beq_eq_false_iff_ne];exact fun h=>hcol (Yr h)
    have HN:=hid (show ((asl.take (k+1)).any fun s=>decide (s.col=col))=false from by rw [List.take_add_one,HY.out,List.any_append,HP.out];simp [hcol])
    clear hcol
    go_wp2_with fail
    go_roundw
    case rel=>exact ⟨k+1,by omega,by go_num,HN,K1.drop (List.sublist_cons_self _ _)⟩
    case measure=>simp [intOf];omega
  ·obtain rfl:asn=k:=by omega
   have h:=HP.out
   rw [List.take_of_length_le (by rw [HL.out];exact Nat.le_refl _)] at h
   have HH:=hid h
   clear h
   go_wp2_with fail
   go_ret
   exact ⟨by rw [HH.out]<;>rfl,H.below⟩
abbrev ZaJ (b:Nat):Value:=.func (.func 141) #[] #[.pointer (some ⟨b,0,none⟩)]
set_option maxRecDepth 100000 in
set_option maxHeartbeats 2000000 in
theorem Zcp (M:Nat→Prop) (w:World) (hM:∀ b,M b→b<w.heap.size) (a:Ac) (r:Rk) (d b:Nat) (t:TypeId) (ha:Ro w M (AcIn (d+1) a)) (hb:Ro w M (fun w=>w.heap[b]? =some (.cells #[.string r.tab,.string r.col,.int .i64 r.lo,.int .i64 r.hi] t (0,0)))) (hn:a.sets.n≤1000000):Calls Tryz.prog 141 #[a.val,.pointer (some ⟨b,0,none⟩)] w fun e w' =>e=.returned (.bool (!Ya r a))∧Below w.heap.size w w' :=by
 have hce:=fun (M:Nat→Prop) (w:World) (hM:∀ b,M b→b<w.heap.size) (ha:Ro w M (AcIn (d+1) a))=>ZcT M w hM a r d ha hn
 generalize Ya r a=R at *
 obtain ⟨ak,atab,⟨arA,arn,arc,arl⟩,⟨aqA,aqn,aqc,aql⟩,⟨asA,asn,asc,asl⟩,⟨awA,awn,awc,awl⟩,atext⟩:=a
 obtain ⟨rtab,rcol,rlo,rhi⟩:=r
 simp only [Ac.val,Rk.val] at hn hb hce ⊢
 have K0:=(((Hold.start M w hM).add (ha.less (by simp [Mut]))).JL (g:=b) (t:=t) (cs:=#[.string rtab,.string rcol,.int .i64 rlo,.int .i64 rhi]) (hb.less (by simp [Mut,Hp.foot]))).Za #[.int .i64 ak,.string atab,.slice arA arn arc,.slice aqA aqn aqc,.slice asA asn asc,.slice awA awn awc,.string atext] 97
 have F0:=K0.facts
 simp only [zg] at F0
 have HCE:=hid hce
 clear hce
 go_enter Tryz.func141,Tryz.ntmps141
 go_wp2_with fail
 refine (HCE.out _ _ K0.Zc (K0.ro 2 rfl)).mono ?_
 rintro e w1 ⟨rfl,b1⟩
 have K1:=K0.call b1
 go_wp2_with fail
 go_ret
 exact ⟨by first|rfl|simp,K1.below⟩
set_option maxRecDepth 100000 in
set_option maxHeartbeats 2000000 in
theorem Zem (M:Nat→Prop) (w:World) (hM:∀ b,M b→b<w.heap.size) (A:Option Addr) (n c:Nat) (l:List Ac) (r:Rk) (d b:Nat) (t:TypeId) (hD:Ro w M (AcsIn (d+1) A n l)) (hB:Ro w M (fun w=>w.heap[b]? =some (.cells #[.string r.tab,.string r.col,.int .i64 r.lo,.int .i64 r.hi] t (0,0)))) (hn:n≤4611686018427387904) (hok:∀ a∈l,a.sets.n≤1000000):
  Calls Tryz.prog 192 #[.slice A n c,ZaJ b] w fun e w' =>(∃ z:Int,e=.returned (.int .i64 z)∧decide (z≥0)=!(l.all (Ya r)))∧Below w.heap.size w w' :=by
 have HL:=hid hD.now.len
 have HOK:=hid hok
 have K0:=(((Hold.start M w hM).add (hB.less (by simp [Mut]))).add (hD.less (by simp [Mut,Hp.foot])))
 clear hD hB hok
 go_enter Tryz.func192,Tryz.ntmps192
 go_wp2_with fail
 go_loopw [8] (fun iv wr=>∃ (k:Nat),k≤n∧iv=.int .i64 k∧Hid (l.all (Ya r)=(l.drop k).all (Ya r))∧Hold M none w wr [.ro (AcsIn (d+1) A n l),.ro (fun w=>w.heap[b]? =some (.cells #[.string r.tab,.string r.col,.int .i64 r.lo,.int .i64 r.hi] t (0,0)))]) (fun iv _=>n - (intOf iv).toNat)
 case atStart=>exact ⟨0,by omega,rfl,hid rfl,K0⟩
 case round=>
  clear K0
  obtain ⟨k,hk,rfl,HF,H⟩:=hrel
  by_cases hlt:k<n
  ·obtain ⟨⟨ak,atab,⟨arA,arn,arc,arl⟩,⟨aqA,aqn,aqc,aql⟩,⟨asA,asn,asc,asl⟩,⟨awA,awn,awc,awl⟩,atext⟩,hc⟩:=Y2 HL.out hlt
   obtain ⟨b2,o2,rfl,hb2,hcl,-⟩:=(H.ro 0 rfl).now.at_ hc
   have c0:=hcl 0 _ (by omega) rfl
   have c1:=hcl 1 _ (by omega) rfl
   have c2:=hcl 2 _ (by omega) rfl
   have c3:=hcl 3 _ (by omega) rfl
   have c4:=hcl 4 _ (by omega) rfl
   have c5:=hcl 5 _ (by omega) rfl
   have c6:=hcl 6 _ (by omega) rfl
   simp only [Nat.add_zero] at c0
   simp only [SlP.v] at c2 c3 c4 c5
   clear hcl
   have HC:=hid hc;clear hc
   have hce:=Zcp _ wr H.Zc ⟨ak,atab,⟨arA,arn,arc,arl⟩,⟨aqA,aqn,aqc,aql⟩,⟨asA,asn,asc,asl⟩,⟨awA,awn,awc,awl⟩,atext⟩ r d b t ((H.ro 0 rfl).imp fun w2 h2=>h2.2 _ (List.mem_of_getElem? HC.out)) (H.ro 1 rfl) (HOK.out _ (List.mem_of_getElem? HC.out))
   cases hz:Ya r ⟨ak,atab,⟨arA,arn,arc,arl⟩,⟨aqA,aqn,aqc,aql⟩,⟨asA,asn,asc,asl⟩,⟨awA,awn,awc,awl⟩,atext⟩
   ·rw [hz] at hce
    have HZ:=hid hz
    clear hz
    go_wp2_with fail
    refine hce.mono ?_
    rintro e w1 ⟨rfl,b1⟩
    have K1:=H.call b1
    go_wp2_with fail
    go_ret
    refine ⟨⟨(k:Int),rfl,?_⟩,K1.below⟩
    rw [U5 HC.out HZ.out]
    simp
   ·rw [hz] at hce
    have HZ:=hid hz
    clear hz
    go_wp2_with fail
    refine hce.mono ?_
    rintro e w1 ⟨rfl,b1⟩
    have K1:=H.call b1
    go_wp2_with fail
    go_roundw
    case rel=>exact ⟨k+1,by omega,by go_num,hid (WM HC.out HZ.out HF.out),K1⟩
    case measure=>simp [intOf];omega
  ·have hks:k=n:=by omega
   go_wp2_with fail
   go_ret
   refine ⟨⟨-1,rfl,?_⟩,H.below⟩
   rw [HF.out,List.drop_eq_nil_of_le (by rw [HL.out];omega)]
   rfl
set_option maxHeartbeats 2000000 in
theorem ZeQ (M:Nat→Prop) (w:World) (hM:∀ b,M b→b<w.heap.size) (A:Option Addr) (n c:Nat) (l:List Ac) (r:Rk) (d b:Nat) (t:TypeId) (hD:Ro w M (AcsIn (d+1) A n l)) (hB:Ro w M (fun w=>w.heap[b]? =some (.cells #[.string r.tab,.string r.col,.int .i64 r.lo,.int .i64 r.hi] t (0,0)))) (hn:n≤4611686018427387904) (hok:∀ a∈l,a.sets.n≤1000000):
  Calls Tryz.prog 140 #[.slice A n c,ZaJ b] w fun e w' =>e=.returned (.bool (!(l.all (Ya r))))∧Below w.heap.size w w' :=by
 go_enter Tryz.func140,Tryz.ntmps140
 go_wp2_with fail
 refine (Zem M w hM A n c l r d b t hD hB hn hok).mono ?_
 rintro e w1 ⟨⟨z,rfl,hz⟩,b1⟩
 have HZ:=hid hz
 clear hz
 go_wp2_with fail
 go_ret
 exact ⟨by first|rw [←HZ.out]<;>rfl|simp [←HZ.out],b1⟩
set_option maxRecDepth 100000 in
set_option maxHeartbeats 8000000 in
theorem Zg9 (M:Nat→Prop) (w:World) (hM:∀ b,M b→b<w.heap.size) (A:Option Addr) (n c:Nat) (l:List Tg) (r:Rk) (d:Nat) (ht:Ro w M (TgsIn (d+1) A n l)) (hn:n≤4611686018427387904) (hok:∀ t∈l,TgFit (d+1) t):Calls Tryz.prog 84 #[.slice A n c,r.val] w fun e w' =>e=.returned (.bool (YG l r))∧Below w.heap.size w w' :=by
 have hres:=fun (M:Nat→Prop) (w:World) (hM:∀ b,M b→b<w.heap.size) (A:Option Addr) (n c:Nat) (l:List Ac) (b:Nat) (t:TypeId) (hD:Ro w M (AcsIn (d+1) A n l)) (hB:Ro w M (fun w=>w.heap[b]? =some (.cells #[.string r.tab,.string r.col,.int .i64 r.lo,.int .i64 r.hi] t (0,0)))) (hn:n≤4611686018427387904) (hok:∀ a∈l,a.sets.n≤1000000)=>ZeQ M w hM A n c l r d b t hD hB hn hok
 obtain ⟨rtab,rcol,rlo,rhi⟩:=r
 simp only [Rk.val] at hres ⊢
 have HRES:=hid hres
 have HL:=hid ht.now.len
 have HOK:=hid hok
 have K0:=((Hold.start M w hM).add (ht.less (by simp [Mut]))).Za #[.string rtab,.string rcol,.int .i64 rlo,.int .i64 rhi] 85
 have F0:=K0.facts
 simp only [zg] at F0
 clear ht hok hres
 go_enter Tryz.func84,Tryz.ntmps84
 go_wp2_with fail
 clear F0
 go_loopw [11] (fun i wr=>∃ k:Nat,k≤n∧i=.int .i64 k∧Hid (YG l ⟨rtab,rcol,rlo,rhi⟩=(l.drop k).all (ZW ⟨rtab,rcol,rlo,rhi⟩))∧Hold M none w wr [.cst w.heap.size 85 #[.string rtab,.string rcol,.int .i64 rlo,.int .i64 rhi],.ro (TgsIn (d+1) A n l)]) (fun i _=>n - (intOf i).toNat)
 case atStart=>exact ⟨0,by omega,rfl,hid rfl,K0⟩
 case round=>
  clear K0
  obtain ⟨k,hk,rfl,HF,H⟩:=hrel
  by_cases hlt:k<n
  ·obtain ⟨⟨tname,ttab,tbef,tev,⟨cA,cn,cc,cl⟩,teach,⟨pA,pn,pc,pl⟩,⟨fA,fn,fc,fl⟩,⟨kA,kn,kc,kl⟩,⟨oA,on,oc,ol⟩,⟨uA,un,uc,ul⟩⟩,hc⟩:=Y2 HL.out hlt
   obtain ⟨b,o,rfl,hb,hcl,-⟩:=(H.ro 1 rfl).now.at_ hc
   have c0:=hcl 0 _ (by omega) rfl
   have c1:=hcl 1 _ (by omega) rfl
   have c2:=hcl 2 _ (by omega) rfl
   have c3:=hcl 3 _ (by omega) rfl
   have c4:=hcl 4 _ (by omega) rfl
   have c5:=hcl 5 _ (by omega) rfl
   have c6:=hcl 6 _ (by omega) rfl
   have c7:=hcl 7 _ (by omega) rfl
   have c8:=hcl 8 _ (by omega) rfl
   have c9:=hcl 9 _ (by omega) rfl
   have c10:=hcl 10 _ (by omega) rfl
   simp only [Nat.add_zero] at c0
   clear hcl
   simp only [SlP.v] at c4 c6 c7 c8 c9 c10
   have HC:=hid hc;clear hc
   have HO:=HOK.out _ (List.mem_of_getElem? HC.out)
   have K1:=(H.add (S:=TgIn (d+1) ⟨tname,ttab,tbef,tev,⟨cA,cn,cc,cl⟩,teach,⟨pA,pn,pc,pl⟩,⟨fA,fn,fc,fl⟩,⟨kA,kn,kc,kl⟩,⟨oA,on,oc,ol⟩,⟨uA,un,uc,ul⟩⟩) ((H.ro 1 rfl).imp fun w2 h2=>h2.2 _ (List.mem_of_getElem? HC.out))).Za #[.string tname,.string ttab,.bool tbef,.int .i64 tev,.slice cA cn cc,.bool teach,.slice pA pn pc,.slice fA fn fc,.slice kA kn kc,.slice oA on oc,.slice uA un uc] 40
   have F1:=K1.facts
   simp only [zg] at F1
   cases hbf:tbef
   ·subst hbf
    have hce:=HRES.out _ _ K1.Zc uA un uc ul w.heap.size 85 ((K1.ro 1 rfl).imp fun w2 h2=>h2.parts.2) (K1.get 2 rfl) HO.n (fun a ha=>(HO.a a ha).1)
    cases hz:ul.all (Ya ⟨rtab,rcol,rlo,rhi⟩)
    ·rw [hz] at hce
     have HZ:=hid (show ZW ⟨rtab,rcol,rlo,rhi⟩ ⟨tname,ttab,false,tev,⟨cA,cn,cc,cl⟩,teach,⟨pA,pn,pc,pl⟩,⟨fA,fn,fc,fl⟩,⟨kA,kn,kc,kl⟩,⟨oA,on,oc,ol⟩,⟨uA,un,uc,ul⟩⟩=false by simp only [ZW];exact hz)
     clear hz
     go_wp2_with fail
     refine hce.mono ?_
     rintro e w1 ⟨rfl,b1⟩
     have K2:=K1.call b1
     go_wp2_with fail
     go_ret
     exact ⟨by rw [show YG l ⟨rtab,rcol,rlo,rhi⟩=false from U5 HC.out HZ.out]<;>rfl,K2.below⟩
    ·rw [hz] at hce
     have HZ:=hid (show ZW ⟨rtab,rcol,rlo,rhi⟩ ⟨tname,ttab,false,tev,⟨cA,cn,cc,cl⟩,teach,⟨pA,pn,pc,pl⟩,⟨fA,fn,fc,fl⟩,⟨kA,kn,kc,kl⟩,⟨oA,on,oc,ol⟩,⟨uA,un,uc,ul⟩⟩=true by simp only [ZW];exact hz)
     clear hz
     go_wp2_with fail
     refine hce.mono ?_
     rintro e w1 ⟨rfl,b1⟩
     have K2:=K1.call b1
     go_wp2_with fail
     go_roundw
     case rel=>exact ⟨k+1,by omega,by go_num,hid (WM HC.out HZ.out HF.out),K2.drop (List.Sublist.cons _ (List.Sublist.cons _ (List.Sublist.refl _)))⟩
     case measure=>simp [intOf];omega
   ·subst hbf
    have hce:=Zde _ _ K1.Zc ⟨tname,ttab,true,tev,⟨cA,cn,cc,cl⟩,teach,⟨pA,pn,pc,pl⟩,⟨fA,fn,fc,fl⟩,⟨kA,kn,kc,kl⟩,⟨oA,on,oc,ol⟩,⟨uA,un,uc,ul⟩⟩ (d+1) (K1.ro 1 rfl) HO
    simp only [Tg.val] at hce
    have HT:=hid (show ∀ xs:List ByteArray,(∀ s,s∈xs↔((⟨tname,ttab,true,tev,⟨cA,cn,cc,cl⟩,teach,⟨pA,pn,pc,pl⟩,⟨fA,fn,fc,fl⟩,⟨kA,kn,kc,kl⟩,⟨oA,on,oc,ol⟩,⟨uA,un,uc,ul⟩⟩:Tg).before=true∧(⟨tname,ttab,true,tev,⟨cA,cn,cc,cl⟩,teach,⟨pA,pn,pc,pl⟩,⟨fA,fn,fc,fl⟩,⟨kA,kn,kc,kl⟩,⟨oA,on,oc,ol⟩,⟨uA,un,uc,ul⟩⟩:Tg).each=true∧s∈YX ⟨tname,ttab,true,tev,⟨cA,cn,cc,cl⟩,teach,⟨pA,pn,pc,pl⟩,⟨fA,fn,fc,fl⟩,⟨kA,kn,kc,kl⟩,⟨oA,on,oc,ol⟩,⟨uA,un,uc,ul⟩⟩))→ZW ⟨rtab,rcol,rlo,rhi⟩ ⟨tname,ttab,true,tev,⟨cA,cn,cc,cl⟩,teach,⟨pA,pn,pc,pl⟩,⟨fA,fn,fc,fl⟩,⟨kA,kn,kc,kl⟩,⟨oA,on,oc,ol⟩,⟨uA,un,uc,ul⟩⟩=!(decide (ttab=rtab)&&decide (tev=2)&&Yj xs rcol) by
     intro xs hxs
     have h1:Yj xs rcol=(teach&&(YX ⟨tname,ttab,true,tev,⟨cA,cn,cc,cl⟩,teach,⟨pA,pn,pc,pl⟩,⟨fA,fn,fc,fl⟩,⟨kA,kn,kc,kl⟩,⟨oA,on,oc,ol⟩,⟨uA,un,uc,ul⟩⟩).any fun c=>decide (c=rcol)):=by
      rw [Qw,Bool.eq_iff_iff]
      simp only [Bool.and_eq_true,List.any_eq_true,decide_eq_true_eq]
      constructor
      ·rintro ⟨q,hq,rfl⟩
       have:=(hxs q).1 hq
       exact ⟨this.2.1,q,this.2.2,rfl⟩
      ·rintro ⟨h1,q,hq,rfl⟩
       exact ⟨q,(hxs q).2 ⟨rfl,h1,hq⟩,rfl⟩
     rw [h1]
     simp only [ZW,if_true,Bool.and_assoc])
    go_wp2_with fail
    refine hce.mono ?_
    rintro e w1 ⟨B2,C2,m2,c2',k2,c3',xs,rfl,hk2,rS,hxs,b1⟩
    have hr:=HT.out xs (by simpa using hxs)
    have K2:=(K1.call b1).add rS
    have HK2:=hid hk2
    clear hce K1 F1 b1 rS hxs HT hk2 c0 c1 c2 c3 c4 c5 c6 c7 c8 c9 c10
    have F2:=K2.facts
    simp only [zg] at F2
    by_cases h1:ttab=rtab
    ·subst h1
     by_cases h2:tev=2
     ·subst h2
      have hcs:=JX w1 C2 k2 c3' xs rcol (K2.ro 0 rfl).now (by have:=HK2.out;omega)
      cases hz:Yj xs rcol
      ·rw [hz] at hr hcs
       have HZ:=hid (show ZW ⟨ttab,rcol,rlo,rhi⟩ _=true by rw [hr];simp)
       clear hr hz
       go_wp2_with fail
       refine hcs.mono ?_
       rintro e w2 ⟨rfl,rfl⟩
       go_wp2_with fail
       go_roundw
       case rel=>exact ⟨k+1,by omega,by go_num,hid (WM HC.out HZ.out HF.out),K2.drop (List.Sublist.cons _ (List.Sublist.cons _ (List.Sublist.cons _ (List.Sublist.refl _))))⟩
       case measure=>simp [intOf];omega
      ·rw [hz] at hr hcs
       have HZ:=hid (show ZW ⟨ttab,rcol,rlo,rhi⟩ _=false by rw [hr];simp)
       clear hr hz
       go_wp2_with fail
       refine hcs.mono ?_
       rintro e w2 ⟨rfl,rfl⟩
       go_wp2_with fail
       go_ret
       exact ⟨by rw [show YG l ⟨ttab,rcol,rlo,rhi⟩=false from U5 HC.out HZ.out]<;>rfl,K2.below⟩
     ·have HZ:=hid (show ZW ⟨ttab,rcol,rlo,rhi⟩ _=true by rw [hr];simp [h2])
      clear hr
      go_wp2_with fail
      all_goals first
       | (exfalso;omega)
       | skip
      go_roundw
      case rel=>exact ⟨k+1,by omega,by go_num,hid (WM HC.out HZ.out HF.out),K2.drop (List.Sublist.cons _ (List.Sublist.cons _ (List.Sublist.cons _ (List.Sublist.refl _))))⟩
      case measure=>simp [intOf];omega
    ·have h1b:¬ttab.toList=rtab.toList:=fun h=>h1 (Yr h)
     have h1c:(ttab.toList==rtab.toList)=false:=by simpa using h1b
     have HZ:=hid (show ZW ⟨rtab,rcol,rlo,rhi⟩ _=true by rw [hr];simp [h1])
     clear hr
     go_wp2_with fail
     all_goals first
      | (exfalso;contradiction)
      | skip
     go_roundw
     case rel=>exact ⟨k+1,by omega,by go_num,hid (WM HC.out HZ.out HF.out),K2.drop (List.Sublist.cons _ (List.Sublist.cons _ (List.Sublist.cons _ (List.Sublist.refl _))))⟩
     case measure=>simp [intOf];omega
  ·have hks:k=n:=by omega
   go_wp2_with fail
   go_ret
   exact ⟨by rw [HF.out,List.drop_eq_nil_of_le (by rw [HL.out];omega)]<;>rfl,H.below⟩
end Go.Proofs.YtnbbllkbefagmaaGreatDoor
namespace Go.Proofs
open Go.Shelf

end Go.Proofs
namespace Go.Proofs.YtnbbllkbefagmaaGreatDoor
open Go.RowKit
set_option linter.unusedVariables false
theorem six {w:World} {g g' :Nat} {t:TypeId} {x y z x' y' z' :Value} (h:Blk w g t #[x,y,z]) (h' :Blk w g' t #[x',y',z']):
  w.cell? ⟨g,0,none⟩=some x∧w.cell? ⟨g,1,none⟩=some y∧w.cell? ⟨g,2,none⟩=some z∧w.cell? ⟨g',0,none⟩=some x' ∧w.cell? ⟨g',1,none⟩=some y' ∧w.cell? ⟨g',2,none⟩=some z' :=⟨h.cell 0,h.cell 1,h.cell 2,h'.cell 0,h'.cell 1,h'.cell 2⟩
end Go.Proofs.YtnbbllkbefagmaaGreatDoor
namespace Go.Proofs.YtnbbllkbefagmaaGreatDoor
open Go.RowKit Go.Sort
set_option linter.unusedVariables false
set_option linter.unusedSimpArgs false

end Go.Proofs.YtnbbllkbefagmaaGreatDoor
namespace Go.Proofs.YtnbbllkbefagmaaGreatDoor
open Go.RowKit
set_option linter.unusedVariables false
set_option linter.unusedSimpArgs false
















theorem JI {l:List Te} {k:Nat} {x:Te} (h:l[k]? =some x):(l.map Te.tb)[k]? =some x.tb:=by rw [List.getElem?_map,h];rfl
def YF (l:List Tb) (s:ByteArray):Int:=Zr (fun t=>t.nm.toList==s.toList) l
set_option maxHeartbeats 2000000 in
set_option maxRecDepth 100000 in
theorem ZdO (M:Nat→Prop) (w:World) (hM:∀ b,M b→b<w.heap.size) (A:Option Addr) (n c:Nat) (l:List Te) (s:ByteArray) (hD:Ro w M (TesIn A n l)) (hn:n≤4611686018427387904):
  Calls Tryz.prog 39 #[.slice A n c,.string s] w fun e w' =>e=.returned (.int .i64 (YF (l.map Te.tb) s))∧Below w.heap.size w w' :=by
 have HL:=hid hD.now.len
 have K0:=(Hold.start M w hM).add (hD.less (by simp [Mut]))
 clear hD
 go_enter Tryz.func39,Tryz.ntmps39
 go_wp2_with fail
 go_loopw [9] (fun iv wr=>∃ (k:Nat),k≤n∧iv=.int .i64 k∧Hid (YF (l.map Te.tb) s=ZN (fun t=>t.nm.toList==s.toList) k ((l.map Te.tb).drop k))∧Hold M none w wr [.ro (TesIn A n l)]) (fun iv _=>n - (intOf iv).toNat)
 case atStart=>exact ⟨0,by omega,rfl,hid rfl,K0⟩
 case round=>
  clear K0
  obtain ⟨k,hk,rfl,HC,H⟩:=hrel
  by_cases hlt:k<n
  ·have hd:decide ((k:Int)<(n:Int))=true:=by simp;omega
   have i0:(0:Int)≤(k:Int):=by omega
   have i1:(k:Int)<(n:Int):=by omega
   obtain ⟨x,hx⟩:=Z4 HL.out hlt
   obtain ⟨g,o,rfl,hb,c0,c1,c2,c3,-⟩:=(H.ro 0 rfl).now.at_ hx
   have HX:=hid (JI hx)
   clear hx
   have K1:=H.Za #[.string x.nm,.slice x.A x.n x.c,.int .i64 x.nx,.slice x.B x.m x.d] 67
   have FA:=K1.facts
   simp only [zg] at FA
   clear H
   cases hz:(x.nm.toList==s.toList)
   ·have HN:=hid (Uk HC.out HX.out hz)
    go_wp2_with fail
    go_roundw
    case rel=>exact ⟨k+1,by omega,by go_num,HN,K1.drop (List.sublist_cons_self _ _)⟩
    case measure=>simp [intOf];omega
   ·have HN:=hid (show YF (l.map Te.tb) s=(k:Int) from VL HC.out HX.out hz)
    go_wp2_with fail
    go_ret
    exact ⟨by rw [HN.out]<;>rfl,K1.below⟩
  ·obtain rfl:n=k:=by omega
   have hd:decide ((n:Int)<(n:Int))=false:=by simp
   have HN:=hid (show YF (l.map Te.tb) s=-1 from VD HC.out (by rw [List.length_map,HL.out];exact Nat.le_refl _))
   go_wp2_with fail
   go_ret
   exact ⟨by rw [HN.out]<;>rfl,H.below⟩
end Go.Proofs.YtnbbllkbefagmaaGreatDoor

import Derived.Test.YtnmnkbnmollpmaaGreatDoorBdDscSaidMAD
import Derived.Test.YtnmnkbnmollpmaaGreatDoorBdDscSaidMAE
import Derived.Test.YtnmnkbnmollpmaaGreatDoorBdDscSaidMAG
set_option linter.unusedVariables false
set_option linter.unusedSimpArgs false
set_option maxHeartbeats 64000000
set_option maxRecDepth 100000
namespace Go.Proofs.YtnmnkbnmollpmaaGreatDoor
section
open Go.RowKit
theorem Tryz.ZgI:ElemT Tryz.prog 61 48 11 200 (.agg #[.string ⟨#[]⟩,.string ⟨#[]⟩,.bool false,.int .i64 0,.slice none 0 0,.bool false,.slice none 0 0,.slice none 0 0,.slice none 0 0,.slice none 0 0,.slice none 0 0]):=⟨Tryz.underlying61,by kernel_rfl,rfl,by omega⟩
theorem Tryz.ZgF:ElemT Tryz.prog 46 9 1 16 (.string ⟨#[]⟩):=⟨Tryz.underlying46,by kernel_rfl,rfl,by omega⟩
theorem Zcu (M:Nat→Prop) (w:World) (hM:∀ b,M b→b<w.heap.size) (d:Nat) (a:Ac) (nm:ByteArray) (x:Ex) (hx:Ro w M (AcIn d a)) (hu:UpA d a nm x):Calls Tryz.prog 26 #[.agg #[.int .i64 a.kind,.string a.tab,.slice a.rows.A a.rows.n a.rows.c,.slice a.qs.A a.qs.n a.qs.c,.slice a.sets.A a.sets.n a.sets.c,.slice a.wh.A a.wh.n a.wh.c,.string a.text]] w fun e w' =>∃ (A:Option Addr) (n c:Nat),e=.returned (.slice A n c)∧Below w.heap.size w w' :=by
 obtain ⟨kind,tab,⟨rA,rn,rc,rl⟩,⟨qA,qn,qc,ql⟩,⟨sA,sn,sc,sl⟩,⟨hA,hn_,hc,hl⟩,text⟩:=a
 obtain rfl:kind=2:=hu.kind
 obtain ⟨sg,sc',hsc,hse⟩:=hu.sets
 obtain ⟨rfl,rfl,rfl,rfl⟩:sA=some ⟨sg,0,none⟩∧sn=1∧sc=sc' ∧sl=[⟨nm,x⟩]:=by
  simp only [SlP.mk.injEq] at hse
  exact hse
 have K0:=(((Hold.start M w hM).add (hx.less (by simp [Mut]))).Za #[.int .i64 2,.string tab,.slice rA rn rc,.slice qA qn qc,.slice (some ⟨sg,0,none⟩) 1 sc,.slice hA hn_ hc,.string text] 44).nil 9 1
 obtain ⟨g1,hg1⟩:∃ g,g=w.heap.size:=⟨_,rfl⟩
 rw [←hg1] at K0
 clear hx hu hse hsc
 dsimp only
 go_enter Tryz.func26,Tryz.ntmps26
 go_upto_region 1 with fail
 rw [←hg1]
 clear hg1
 generalize World.alloc _ _=w1 at K0 ⊢
 have F0:=K0.facts
 simp only [zg] at F0
 go_wp2_with fail
 clear F0
 go_loopw [3,9] (fun ov iv wr=>∃ (j cap:Nat) (O:Option Addr) (zs:List Value),j≤1∧iv=.int .i64 j∧ov=.slice O j cap∧Hold M none w wr [.own 9 1 (.slice O j cap) j zs,.cst g1 44 #[.int .i64 2,.string tab,.slice rA rn rc,.slice qA qn qc,.slice (some ⟨sg,0,none⟩) 1 sc,.slice hA hn_ hc,.string text],.ro (AcIn d ⟨2,tab,⟨rA,rn,rc,rl⟩,⟨qA,qn,qc,ql⟩,⟨some ⟨sg,0,none⟩,1,sc,[⟨nm,x⟩]⟩,⟨hA,hn_,hc,hl⟩,text⟩)]) (fun _ iv _=>1 - (intOf iv).toNat)
 case atStart=>exact ⟨0,0,none,[],by omega,rfl,rfl,K0⟩
 case round=>
  clear K0
  obtain ⟨j,cap,O,zs,hj,rfl,rfl,H⟩:=hrel
  obtain rfl|rfl:j=0∨j=1:=by omega
  ·obtain ⟨sb,so,sE,-,sh,-⟩:=SlP.In.at_ (s:=⟨some ⟨sg,0,none⟩,1,sc,[⟨nm,x⟩]⟩) (k:=11) (cel:=Se.cells) (P:=Yq d) (H.ro 2 rfl).now.2.2.1 (by omega) (fun _=>rfl) (show ([⟨nm,x⟩]:List Se)[0]? =some _ from rfl)
   obtain ⟨rfl,rfl⟩:=Gd (show some (⟨sg,0,none⟩:Addr)=some ⟨sb,so,none⟩ from sE)
   have x0:=sh 0 _ (by omega) rfl
   have x1:=sh 1 _ (by omega) rfl
   have x2:=sh 2 _ (by omega) rfl
   have x3:=sh 3 _ (by omega) rfl
   have x4:=sh 4 _ (by omega) rfl
   have x5:=sh 5 _ (by omega) rfl
   have x6:=sh 6 _ (by omega) rfl
   have x7:=sh 7 _ (by omega) rfl
   have x8:=sh 8 _ (by omega) rfl
   have x9:=sh 9 _ (by omega) rfl
   have x10:=sh 10 _ (by omega) rfl
   simp only [Nat.add_zero,Nat.zero_mul] at x0 x1 x2 x3 x4 x5 x6 x7 x8 x9 x10
   clear sh sE
   have K6:=H.Za #[.string nm,.int .i64 x.kind,.int .i64 x.op,.bool x.nt,.int .i64 x.v.k,.int .i64 x.v.i,.string x.v.s,.string x.tab,.string x.nm,.slice x.A x.n x.c,.slice x.B x.m x.d] 39
   have F6:=K6.facts
   simp only [zg] at F6
   clear H
   go_wp2_with (at_builtin;go_must (refine ZJ K6 1 rfl Tryz.ZgF #[.string nm] rfl (.tmp 16) (.tmp 19) rfl rfl _ (by first|rfl|simp) rfl rfl (by intro u hu;simp at hu;rcases hu with rfl;rfl) (by omega) (by omega) ?_);intro gA capA wA hcA hmA KA;simp only [zl] at KA)
   go_roundw
   case rel=>exact ⟨1,capA,_,_,by omega,by go_num,by first|rfl|trivial,KA.drop (Kb _ _)⟩
   case measure=>simp [intOf]
  ·skip
   have F1:=H.facts
   simp only [zg] at F1
   go_wp2_with fail
   go_ret
   exact ⟨_,_,_,rfl,H.below⟩
theorem Zct (M:Nat→Prop) (w:World) (hM:∀ b,M b→b<w.heap.size) (A:Option Addr) (n c:Nat) (l:List Tg) (tab:ByteArray) (ev:Int) (sA:Option Addr) (sn sc:Nat) (each:Bool) (hx:Ro w M (SlR 11 A n (l.flatMap Tg.cells))) (hb:∀ t∈l,t.before=false) (hn:n≤1000):Calls Tryz.prog 25 #[.slice A n c,.string tab,.int .i64 ev,.slice sA sn sc,.bool each] w fun e w' =>e=.returned (.slice none 0 0)∧Below w.heap.size w w' :=by
 have HL:=hid (show l.length=n from by
  have h:=(show Rd _ _ 11 A n (l.flatMap Tg.cells) from hx.now).1
  rw [YL Tg.cells 11 (fun _=>rfl)] at h
  omega)
 have HB:=hid hb
 have K0:=(Hold.start M w hM).add (hx.less (by simp [Mut]))
 clear hx hb
 go_enter Tryz.func25,Tryz.ntmps25
 go_wp2_with fail
 go_loopw [11,19] (fun ov iv wr=>∃ j:Nat,j≤n∧iv=.int .i64 j∧ov=.slice none 0 0∧Hold M none w wr [.ro (SlR 11 A n (l.flatMap Tg.cells))]) (fun _ iv _=>n - (intOf iv).toNat)
 case atStart=>exact ⟨0,by omega,rfl,rfl,K0⟩
 case round=>
  clear K0
  obtain ⟨j,hj,rfl,rfl,H⟩:=hrel
  by_cases hlt:j<n
  ·obtain ⟨t,ht⟩:=Q9 HL.out hlt
   obtain ⟨b,o,rfl,hb,hc⟩:=(show Rd _ _ 11 A n (l.flatMap Tg.cells) from (H.ro 0 rfl).now).2 (by omega)
   have hbf:t.before=false:=HB.out t (Ka ht)
   have hcz:∀ (i:Nat) (u:Value),i<11→t.cells[i]? =some u→wr.cell? ⟨b,o+j * 11+i,none⟩=some u:=fun i u hi hu=>by
    have h:=hc _ _ ((flat_get Tg.cells 11 (fun _=>rfl) l j i t hi ht).trans hu)
    rwa [←Nat.add_assoc] at h
   have x0:=hcz 0 _ (by omega) rfl
   have x1:=hcz 1 _ (by omega) rfl
   have x2:=hcz 2 _ (by omega) rfl
   have x3:=hcz 3 _ (by omega) rfl
   have x4:=hcz 4 _ (by omega) rfl
   have x5:=hcz 5 _ (by omega) rfl
   have x6:=hcz 6 _ (by omega) rfl
   have x7:=hcz 7 _ (by omega) rfl
   have x8:=hcz 8 _ (by omega) rfl
   have x9:=hcz 9 _ (by omega) rfl
   have x10:=hcz 10 _ (by omega) rfl
   simp only [Nat.add_zero] at x0 x1 x2 x3 x4 x5 x6 x7 x8 x9 x10
   rw [hbf] at x2
   have K1:=H.Za #[.string t.name,.string t.tab,.bool false,.int .i64 t.event,t.cols.v,.bool t.each,t.prec.v,t.foll.v,t.rank.v,t.cond.v,t.acts.v] 48
   have F1:=K1.facts
   simp only [zg] at F1
   clear hc hcz hbf ht H
   simp only [SlP.v] at K1 F1 x4 x6 x7 x8 x9 x10
   go_wp2_with fail
   go_roundw
   case rel=>exact ⟨j+1,by omega,by go_num,rfl,K1.drop (Kb _ _)⟩
   case measure=>simp [intOf];omega
  ·obtain rfl:n=j:=by omega
   go_wp2_with fail
   go_ret
   exact ⟨rfl,H.below⟩
theorem ZkE (w:World) (tA:Option Addr) (tn tc:Nat):Calls Tryz.prog 24 #[.slice none 0 0,.slice tA tn tc] w fun e w' =>e=.returned (.int .i64 0)∧Below w.heap.size w w' :=by
 have K0:=Hold.start Zc w zn
 go_enter Tryz.func24,Tryz.ntmps24
 go_wp2_with fail
 go_loopw [13] (fun iv wr=>iv=.int .i64 0∧Hold Zc none w wr []) (fun _ _=>0)
 case atStart=>exact ⟨rfl,K0⟩
 case round=>
  clear K0
  obtain ⟨rfl,H⟩:=hrel
  go_wp2_with fail
  go_ret
  exact ⟨rfl,H.below⟩
def Zel (w:World) (M:Nat→Prop) (n:Nat) (vs:List Vl) (e:Ending) (w' :World):Prop:=∃ (C:Option Addr) (cap:Nat),e=.returned (.tuple #[.slice C n cap,.slice none 0 0,.slice none 0 0,.int .i64 0])∧n≤cap∧cap≤9223372036854775807∧Ro w' M (VlsIn C n vs)∧Below w.heap.size w w'
theorem Zky (M:Nat→Prop) (w:World) (hM:∀ b,M b→b<w.heap.size) (oA:Option Addr) (on oc:Nat) (snm:ByteArray) (cA:Option Addr) (cn cc:Nat) (xA:Option Addr) (xn xc:Nat) (A:Option Addr) (n c:Nat) (vs:List Vl) (tA:Option Addr) (tn tc:Nat) (hv:Ro w M (VlsIn A n vs)) (hn:n≤1000):
  Calls Tryz.prog 95 #[.slice none 0 0,.slice oA on oc,.agg #[.string snm,.slice cA cn cc],.slice xA xn xc,.slice A n c,.slice tA tn tc,.slice none 0 0] w fun e w' =>Zel w M n vs e w' :=by
 have K0:=((Hold.start M w hM).add (hv.less (by simp [Mut]))).Za #[.string snm,.slice cA cn cc] 66
 obtain ⟨i0,hi1,hi2,hi3,hi4⟩:=info_parts Tryz.ZgI.hi
 obtain ⟨j0,hj1,hj2,hj3,hj4⟩:=info_parts Tryz.XL.hi
 clear hv
 go_enter Tryz.func95,Tryz.ntmps95
 have F0:=K0.facts
 simp only [zg] at F0
 go_upto_region 1 with fail
 generalize World.alloc _ _=w1 at K0 F0 ⊢
 go_wp2_with (at_builtin;go_must (refine WA rfl (.const (.slice none 0 0)) (.tmp 27) 61 rfl 48 i0 _ Tryz.underlying61 hi1 hi2 none 0 rfl rfl ?_))
 refine (Xe (Mut M _) _ K0.Zb A n c vs (K0.ro 1 rfl) (by omega)).mono ?_
 rintro e w2 ⟨C,q,cap,rfl,hq,h1,h2,rC,b2⟩
 have hvl:vs.length=n:=(K0.ro 1 rfl).now.len
 obtain rfl:q=n:=by omega
 have K1:=(K0.call b2).add rC
 have HC:=hid (KJ h1 h2)
 clear K0 F0 b2 rC hq hvl h1 h2
 have F1:=K1.facts
 simp only [zg] at F1
 go_wp2_with (at_builtin;go_must (refine WA rfl (.const (.slice none 0 0)) (.tmp 31) 22 rfl 3 j0 _ Tryz.underlying22 hj1 hj2 none 0 rfl rfl ?_))
 clear F1
 go_loopw [4,6,18,19] (fun a1 a2 a3 a4 wr=>a1=.slice C q cap∧a2=.slice none 0 0∧a3=.slice none 0 0∧a4=.slice none 0 0∧Hold M none w wr [.ro (VlsIn C q vs)]) (fun _ _ _ _ _=>0)
 case atStart=>exact ⟨rfl,rfl,rfl,rfl,K1.pick [0] (by decide) rfl⟩
 case round=>
  clear K1
  obtain ⟨rfl,rfl,rfl,rfl,H⟩:=hrel
  have HR:=hid ((H.ro 0 rfl).less zm)
  have HB:=hid H.below
  clear H
  go_wp2_with fail
  refine Lh (v:=.tuple #[.slice C q cap,.slice none 0 0,.slice none 0 0,.int .i64 0]) ?_ rfl ?_
  ·simp [results,Tryz.results95,go_sem]
  ·exact ⟨C,cap,rfl,HC.out.1,HC.out.2,HR.out,HB.out⟩
def AtT (tl:List Te) (s:ByteArray) (i:Nat) (t:Te):Prop:=tl[i]? =some t∧t.nm=s∧∀ j y,j<i→tl[j]? =some y→y.nm≠s
theorem ZjP (M:Nat→Prop) (w:World) (hM:∀ b,M b→b<w.heap.size) (d:Nat) (a:Ac) (nm:ByteArray) (x:Ex) (i:Nat) (t:Te) (k:Nat) (b:Bool) (v:Vl) (tA:Option Addr) (tn tc:Nat) (tl:List Te)
  (ha:Ro w M (AcIn d a)) (hu:UpA d a nm x) (ht:Ro w M (TesIn tA tn tl)) (hat:AtT tl a.tab i t) (hk:Ze (named nm) t.cs=k) (hkl:∀ r∈t.l,k<r.vs.length) (hv:v.ok) (hok:∀ r∈t.l,r.ok∧r.n≤1000) (hn:t.n≤1000) (hm:t.m≤1000) (hs:UO d t.cs (t.l.map Rw.row) a.wh.l x b v) (htn:tn≤1000):
  Calls Tryz.prog 21 #[.agg #[.int .i64 a.kind,.string a.tab,.slice a.rows.A a.rows.n a.rows.c,.slice a.qs.A a.qs.n a.qs.c,.slice a.sets.A a.sets.n a.sets.c,.slice a.wh.A a.wh.n a.wh.c,.string a.text],.slice none 0 0,.slice tA tn tc] w fun e w' =>Zap w M (YV b k v (t.l.map Rw.row)) e w' :=by
 have HLN:=hid (show tl.length=tn from ht.now.len)
 have HU:=hid hu
 have HAT:=hid hat
 have HT:=hid (fun (M2:Nat→Prop) (w2:World) (h2:∀ b,M2 b→b<w2.heap.size) (h3:Ro w2 M2 (AcIn d a)) (h4:Ro w2 M2 (YA t))=>ZkL M2 w2 h2 d a nm x t k b v tA tn tc h3 hu h4 hk hkl hv hok hn hm hs)
 have hkd:(a.kind==1)=false:=by rw [hu.kind];rfl
 have K0:=((((Hold.start M w hM).add (ht.less (by simp [Mut]))).add (ha.less (by simp [Mut,Hp.foot]))).Za #[.int .i64 a.kind,.string a.tab,.slice a.rows.A a.rows.n a.rows.c,.slice a.qs.A a.qs.n a.qs.c,.slice a.sets.A a.sets.n a.sets.c,.slice a.wh.A a.wh.n a.wh.c,.string a.text] 44).alloc #[.slice none 0 0,.slice none 0 0,.slice none 0 0] 87
 simp only [World.size_alloc] at K0
 obtain ⟨g3,hg3⟩:∃ g,g=w.heap.size:=⟨_,rfl⟩
 obtain ⟨g6,hg6⟩:∃ g,g=g3+1:=⟨_,rfl⟩
 rw [←hg3,←hg6] at K0
 clear ha ht hu hat hk hkl hv hok hn hm hs
 go_enter Tryz.func21,Tryz.ntmps21
 go_upto_region 1 with fail
 rw [←hg3,←hg6]
 clear hg3 hg6
 generalize World.alloc _ _=w1 at K0 ⊢
 have F0:=K0.facts
 simp only [zg] at F0
 go_wp2_with fail
 refine (ZkD d a nm x _ ((K0.ro 2 rfl).less zn) HU.out).mono ?_
 rintro e w2 ⟨rfl,b2⟩
 have K1:=K0.call b2
 clear K0 F0 b2
 have F1:=K1.facts
 simp only [zg] at F1
 go_wp2_with fail
 clear F1
 go_loopw [16] (fun iv wr=>∃ j:Nat,j≤i∧iv=.int .i64 j∧Hold M none w wr [.blk g6 87 #[.slice none 0 0,.slice none 0 0,.slice none 0 0],.cst g3 44 #[.int .i64 a.kind,.string a.tab,.slice a.rows.A a.rows.n a.rows.c,.slice a.qs.A a.qs.n a.qs.c,.slice a.sets.A a.sets.n a.sets.c,.slice a.wh.A a.wh.n a.wh.c,.string a.text],.ro (AcIn d a),.ro (TesIn tA tn tl)]) (fun iv _=>tn - (intOf iv).toNat)
 case atStart=>exact ⟨0,by omega,rfl,K1⟩
 case round=>
  clear K1
  obtain ⟨j,hj,rfl,H⟩:=hrel
  have hin:i<tn:=by rw [←HLN.out];exact (Kc.1 HAT.out.1).1
  have hlt:j<tn:=by omega
  obtain ⟨y,hy⟩:=Zl HLN.out hlt
  obtain ⟨tb,to_,rfl,hb,c0,c1,c2,c3,-⟩:=(H.ro 3 rfl).now.at_ hy
  have HY:=hid hy
  clear hy
  have K2:=H.Za #[.string y.nm,.slice y.A y.n y.c,.int .i64 y.nx,.slice y.B y.m y.d] 69
  have F2:=K2.facts
  simp only [zg] at F2
  clear H
  obtain ⟨z,hz⟩:∃ z:Bool,(y.nm.toList==a.tab.toList)=z:=⟨_,rfl⟩
  have hz2:(y.nm.toList !=a.tab.toList)=!z:=by rw [←hz];rfl
  have HZ:=hid hz
  cases z
  ·have hji:j≠i:=fun e=>by
    subst e
    have h1:=HAT.out.1
    rw [HY.out] at h1
    obtain rfl:=Kz h1
    have h2:=HZ.out
    rw [HAT.out.2.1] at h2
    simp at h2
   go_wp2_with fail
   go_roundw
   case rel=>exact ⟨j+1,by omega,by go_num,K2.drop (Kb _ _)⟩
   case measure=>simp [intOf];omega
  ·obtain rfl:j=i:=by
    apply Classical.byContradiction
    intro hne
    exact HAT.out.2.2 j y (by omega) HY.out (Yc (beq_iff_eq.1 HZ.out))
   obtain rfl:y=t:=by
    have h1:=HAT.out.1
    rw [HY.out] at h1
    exact Kz h1
   go_wp2_with fail
   refine (HT.out (Mut M _) _ K2.Zb (K2.ro 3 rfl) ((K2.ro 4 rfl).imp fun w2 h2=>h2.2 y (Ka HY.out))).mono ?_
   rintro e w3 ⟨U,nu,cu,ps,rfl,h1,h2,h3,h4,rP,b3⟩
   have HP:=hid (KJ h1 (KJ h2 (KJ h3 h4)))
   have K3:=(K2.call b3).add rP
   clear K2 F2 b3 rP h1 h2 h3 h4 c0 c1 c2 c3 hb
   have F3:=K3.facts
   simp only [zg] at F3
   have KZ:=((K3.store 2 rfl 0 (.slice none 0 0)).store 2 rfl 1 (.slice none 0 0)).store 2 rfl 2 (.slice U nu cu)
   simp only [zl] at KZ
   have FZ:=KZ.facts
   simp only [zg] at FZ
   have HR:=hid ((KZ.ro 0 rfl).less zm)
   have HBL:=hid KZ.below
   clear KZ K3
   go_wp2_with fail
   refine Lh (v:=.tuple #[.agg #[.slice none 0 0,.slice none 0 0,.slice U nu cu],.int .i64 0]) ?_ rfl ?_
   ·clear HR HBL
    simp [results,Tryz.results21,go_sem,FZ]
   ·exact ⟨U,nu,cu,ps,rfl,HP.out.1,HP.out.2.1,HP.out.2.2.1,HP.out.2.2.2,HR.out,HBL.out⟩
def zo (oA:Option Addr) (on oc:Nat) (snm:ByteArray) (cA:Option Addr) (cn cc:Nat) (tA:Option Addr) (tn tc:Nat):Array Value:=#[.slice none 0 0,.slice oA on oc,.string snm,.slice cA cn cc,.slice tA tn tc,.slice none 0 0,.slice none 0 0]
def VF (M:Nat→Prop) (n:Nat) (vs:List Vl) (u:Value) (w:World):Prop:=∃ (C:Option Addr) (cap:Nat),u=.tuple #[.slice C n cap,.slice none 0 0,.slice none 0 0,.int .i64 0]∧n≤cap∧cap≤9223372036854775807∧Ro w M (VlsIn C n vs)
theorem ZcJ {M:Nat→Prop} {n:Nat} {vs:List Vl} (u:Value) (w w' :World) (hr:RM M w w') (h:VF M n vs u w):VF M n vs u w' :=by
 obtain ⟨C,cap,h1,h2,h3,h4⟩:=h
 exact ⟨C,cap,h1,h2,h3,hr.ro h4⟩
theorem Zc6 {α:Type} {l:List α} {i:Nat} {x:α} (h:l[i]? =some x):l.set i x=l:=by
 obtain ⟨hi,rfl⟩:=Kc.1 h
 exact List.set_getElem_self hi
theorem ZkB (M:Nat→Prop) (w0 w:World) (L:List Hp) (i g:Nat) (oA:Option Addr) (on oc:Nat) (snm:ByteArray) (cA:Option Addr) (cn cc:Nat) (tA:Option Addr) (tn tc:Nat) (xA:Option Addr) (xn xc:Nat) (A:Option Addr) (n c:Nat) (vs:List Vl)
  (K0:Hold M none w0 w L) (hi:L[i]? =some (.blk g 97 (zo oA on oc snm cA cn cc tA tn tc))) (hv:Ro w (Mut M L) (VlsIn A n vs)) (hn:n≤1000):
  Calls Tryz.prog 50 #[.pointer (some ⟨g,0,none⟩),.slice xA xn xc,.slice A n c] w fun e w' =>∃ (C:Option Addr) (cap:Nat),e=.returned (.tuple #[.slice C n cap,.int .i64 0])∧n≤cap∧cap≤9223372036854775807∧Hold M none w0 w' (.ro (VlsIn C n vs)::L):=by
 have HI:=hid hi
 have K1:=K0.add hv
 obtain ⟨j0,hj1,hj2,hj3,hj4⟩:=info_parts Tryz.XL.hi
 clear hv K0 hi
 go_enter Tryz.func50,Tryz.ntmps50
 go_upto_region 1 with fail
 obtain ⟨KL,hKL,KN⟩:=K1.name
 have HF:Hid (∀ wv,Hold M none w0 wv KL→Blk wv g 97 #[.slice none 0 0,.slice oA on oc,.string snm,.slice cA cn cc,.slice tA tn tc,.slice none 0 0,.slice none 0 0]∧Ro wv (Mut M KL) (VlsIn A n vs)):=hid fun wv HC=>by
  rw [hKL] at HC ⊢
  exact ⟨HC.Ym (i+1) HI.out,HC.ro 0 rfl⟩
 have HKL:=hid hKL
 clear hKL K1
 refine Lj (by kernel_rfl) ?_
 refine V3 [24,25,26,27] 28 57 (KL) (spL [(35,VF (Mut M KL) n vs),(12,VF (Mut M KL) n vs)]) (by kernel_rfl) (fun _ d _ _ _ h=>by cases d<;>exact h) (by kernel_rfl) (by kernel_rfl) rfl ?_ (KN.drew) ?_
 ·exact Zd ZcJ (Zd ZcJ (Zm _))
 simp only [zd,zp,List.getElem_toArray,List.getElem_cons_zero,List.getElem_cons_succ]
 repeat (refine' dv rfl rfl rfl (fun wv HC=>?_) ?_;rotate_left;(focus (have q0:=(HF.out _ HC).1.cell 0;have q1:=(HF.out _ HC).1.cell 1;have q2:=(HF.out _ HC).1.cell 2;have q3:=(HF.out _ HC).1.cell 3;have q4:=(HF.out _ HC).1.cell 4;have q5:=(HF.out _ HC).1.cell 5;go_simp<;>rfl;done));simp only [zp])
 refine Zi 35 (VF (Mut M KL) n vs) (f:=95) (args:=#[.slice none 0 0,.slice oA on oc,.agg #[.string snm,.slice cA cn cc],.slice xA xn xc,.slice A n c,.slice tA tn tc,.slice none 0 0]) rfl rfl rfl rfl (fun wv=>?_) (fun wv HC hrm hD=>?_) ?_
 ·go_simp<;>rfl
 ·refine (Zky (Mut M KL) wv HC.Zb oA on oc snm cA cn cc xA xn xc A n c vs tA tn tc (HF.out _ HC).2 hn).mono ?_
  rintro e w5 ⟨C,cap,rfl,h1,h2,h3,b5⟩
  exact ⟨_,rfl,⟨C,cap,rfl,h1,h2,h3⟩,HC.call b5,RM.below b5⟩
 rintro u wx HCx ⟨C,cap,rfl,h1,h2,-⟩
 have HC1:=hid (KJ h1 h2)
 clear HCx h1 h2
 simp only [zp]
 refine YI 12 (VF (Mut M KL) n vs) rfl rfl rfl rfl (.tuple #[.slice C n cap,.slice none 0 0,.slice none 0 0,.int .i64 0]) (fun wv HC=>?_) (fun wv HC hD=>?_) ?_
 ·go_simp<;>rfl
 ·exact ZI hD 22 rfl (by kernel_rfl) rfl rfl
 simp only [zp]
 repeat (refine' dv rfl rfl rfl (fun wv HC=>?_) ?_;rotate_left;(focus (go_simp<;>rfl;done));simp only [zp])
 refine Zk ?_
 rintro wx2 HX
 rintro _hrm HGW
 have hns:VF (Mut M KL) n vs (.tuple #[.slice C n cap,.slice none 0 0,.slice none 0 0,.int .i64 0]) wx2:=(Zo (d:=12) rfl).1 (HGW 23 _ rfl (by omega))
 obtain ⟨C2,cap2,e2,-,-,rC⟩:=hns
 obtain ⟨rfl,rfl⟩:C=C2∧cap=cap2:=by
  injection e2 with e2
  have h1:=congrArg (fun a:Array Value=>a[0]?) e2
  simp only [List.getElem?_toArray,List.getElem?_cons_zero,Option.some.injEq,Value.slice.injEq] at h1
  exact ⟨h1.1,h1.2.2⟩
 have K2:=HX.add rC
 clear HGW _hrm HX rC e2 HF KN
 rw [HKL.out] at K2
 obtain ⟨RC,hRC⟩:∃ RC,RC=zo oA on oc snm cA cn cc tA tn tc:=⟨_,rfl⟩
 have hi2:((.ro (VlsIn C n vs):Hp)::.ro (VlsIn A n vs)::L)[i+2]? =some (.blk g 97 RC):=by rw [hRC];exact HI.out
 have hs5:RC.setIfInBounds 5 (.slice none 0 0)=RC:=by rw [hRC];rfl
 have hs6:RC.setIfInBounds 6 (.slice none 0 0)=RC:=by rw [hRC];rfl
 have B2:=K2.Ym (i+2) hi2
 have K3:=K2.store (i+2) hi2 5 (.slice none 0 0)
 rw [hs5,Zc6 hi2] at K3
 have B3:=K3.Ym (i+2) hi2
 have K4:=K3.store (i+2) hi2 6 (.slice none 0 0)
 rw [hs6,Zc6 hi2] at K4
 have z0:=B2.lt
 have z1:=B2.frozen 5
 have z2:_=some (Value.slice none 0 0):=(B2.cell 5).trans (by rw [hRC];rfl)
 have z3:=B3.lt
 have z4:=B3.frozen 6
 have z5:_=some (Value.slice none 0 0):=(B3.cell 6).trans (by rw [hRC];rfl)
 have HK:=hid (K4.drop (Ki _ (Kb _ _)))
 clear K2 K3 K4 B2 B3 hi2 hs5 hs6 hRC
 go_wp2_with (at_builtin;go_must (refine WA rfl (.tmp 51) (.tmp 52) 22 rfl 3 j0 _ Tryz.underlying22 hj1 hj2 none 0 rfl rfl ?_))
 go_ret2
 exact ⟨C,cap,rfl,HC1.out.1,HC1.out.2,HK.out⟩
def Zey (M:Nat→Prop) (w0:World) (us:List Upd) (L:List Hp) (e:Ending) (w' :World):Prop:=∃ (U:Option Addr) (nu cu:Nat) (ps:List Pr),e=.returned (.tuple #[.agg #[.slice none 0 0,.slice none 0 0,.slice U nu cu],.int .i64 0])∧nu≤cu∧cu≤9223372036854775807∧ps.map Pr.upd=us∧(∀ p∈ps,p.ok)∧Hold M none w0 w' (.ro (PrsIn U nu ps)::L)
theorem ZkA (M:Nat→Prop) (w0 w:World) (L:List Hp) (i g:Nat) (oA:Option Addr) (on oc:Nat) (snm:ByteArray) (cA:Option Addr) (cn cc:Nat) (tA:Option Addr) (tn tc:Nat) (nm:ByteArray) (hA:Option Addr) (hn hc:Nat) (nx:Int) (B:Option Addr) (m d:Nat) (U:Option Addr) (nu cu:Nat) (ps:List Pr)
  (K0:Hold M none w0 w L) (hi:L[i]? =some (.blk g 97 (zo oA on oc snm cA cn cc tA tn tc))) (hp:Ro w (Mut M L) (PrsIn U nu ps)) (hnu:nu≤1000) (hok:∀ p∈ps,p.ok∧p.on≤1000∧p.nn≤1000):
  Calls Tryz.prog 27 #[.pointer (some ⟨g,0,none⟩),.agg #[.string nm,.slice hA hn hc,.int .i64 nx,.slice B m d],.agg #[.slice none 0 0,.slice none 0 0,.slice U nu cu]] w fun e w' =>Zey M w0 (ps.map Pr.upd) L e w' :=by
 have HPL:=hid (show ps.length=nu from hp.now.len)
 have HOK:=hid hok
 have HI:=hid hi
 obtain ⟨j0,hj1,hj2,hj3,hj4⟩:=info_parts Tryz.XL.hi
 have K1:=(((K0.add hp).Za #[.string nm,.slice hA hn hc,.int .i64 nx,.slice B m d] 69).Za #[.slice none 0 0,.slice none 0 0,.slice U nu cu] 87).alloc #[.slice none 0 0,.slice none 0 0,.slice none 0 0] 87
 simp only [World.size_alloc] at K1
 obtain ⟨g4,hg4⟩:∃ g,g=w.heap.size:=⟨_,rfl⟩
 obtain ⟨g5,hg5⟩:∃ g,g=g4+1:=⟨_,rfl⟩
 obtain ⟨g6,hg6⟩:∃ g,g=g5+1:=⟨_,rfl⟩
 rw [←hg4,←hg5,←hg6] at K1
 clear K0 hp hok hi
 go_enter Tryz.func27,Tryz.ntmps27
 go_upto_region 1 with fail
 rw [←hg4,←hg5,←hg6]
 clear hg4 hg5 hg6
 generalize World.alloc _ _=w1 at K1 ⊢
 have K2:=K1.alloc #[.slice none 0 0,.slice none 0 0,.slice none 0 0] 87
 obtain ⟨g8,hg8⟩:∃ g,g=w1.heap.size:=⟨_,rfl⟩
 rw [←hg8] at K2
 have F1:=K1.facts
 simp only [zg] at F1
 go_wp2_with (at_builtin;go_must (refine WA rfl (.const (.slice none 0 0)) (.tmp 24) 22 rfl 3 j0 _ Tryz.underlying22 hj1 hj2 none 0 rfl rfl ?_))
 rw [←hg8]
 clear hg8 K1 F1
 generalize World.alloc _ _=w2 at K2 ⊢
 go_loopw [30] (fun iv wr=>iv=.int .i64 0∧Hold M none w0 wr (.blk g8 87 #[.slice none 0 0,.slice none 0 0,.slice none 0 0]::.blk g6 87 #[.slice none 0 0,.slice none 0 0,.slice none 0 0]::.cst g5 87 #[.slice none 0 0,.slice none 0 0,.slice U nu cu]::.cst g4 69 #[.string nm,.slice hA hn hc,.int .i64 nx,.slice B m d]::.ro (PrsIn U nu ps)::L)) (fun _ _=>0)
 case atStart=>exact ⟨rfl,K2⟩
 case round=>
  clear K2
  obtain ⟨rfl,K2⟩:=hrel
  have F2:=K2.facts
  simp only [zg] at F2
  have K3:=(K2.add (show Ro _ _ (Yh []) from fun _ _ _ r hr=>nomatch hr)).nil 136 3
  clear K2
  go_wp2_with fail
  clear F2
  go_loopw [61] (fun iv wr=>∃ (j cap:Nat) (O:Option Addr) (outs:List Pr),j≤nu∧iv=.int .i64 j∧Hid (outs.map Pr.upd=(ps.take j).map Pr.upd∧∀ p∈outs,p.ok)∧Hold M none w0 wr (.own 136 3 (.slice O j cap) j (ZB outs)::.ro (Yh outs)::.blk g8 87 #[.slice none 0 0,.slice none 0 0,.slice O j cap]::.blk g6 87 #[.slice none 0 0,.slice none 0 0,.slice none 0 0]::.cst g5 87 #[.slice none 0 0,.slice none 0 0,.slice U nu cu]::.cst g4 69 #[.string nm,.slice hA hn hc,.int .i64 nx,.slice B m d]::.ro (PrsIn U nu ps)::L)) (fun iv _=>nu - (intOf iv).toNat)
  case atStart=>exact ⟨0,0,none,[],by omega,rfl,hid ⟨rfl,fun p hp=>nomatch hp⟩,K3⟩
  case round=>
   clear K3
   obtain ⟨j,cap,O,outs,hj,rfl,HO,H⟩:=hrel
   by_cases hlt:j<nu
   ·obtain ⟨⟨pid,pA,pn,pc,pvs,qA,qn,qc,qvs⟩,hp⟩:=Zl HPL.out hlt
    obtain ⟨ub,uo,rfl,hub,c0,c1,c2,hvs⟩:=(H.ro 6 rfl).now.at_ hp
    have hm_:=Ka hp
    have HP:=hid hp
    have HPK:=hid (HOK.out _ hm_)
    have hpn:pn≤1000:=HPK.out.2.1
    have hqn:qn≤1000:=HPK.out.2.2
    have H2:=H.Za #[.int .i64 pid,.slice pA pn pc,.slice qA qn qc] 136
    have H3:=H2.add (S:=VlsIn pA pn pvs) ((H2.ro 7 rfl).imp fun w2 h2=>(h2.2 _ hm_).1)
    have K5:=H3.add (S:=VlsIn qA qn qvs) ((H3.ro 8 rfl).imp fun w2 h2=>(h2.2 _ hm_).2)
    obtain ⟨gp,hgp⟩:∃ g,g=wr.heap.size:=⟨_,rfl⟩
    rw [←hgp] at K5
    simp only at c0 c1 c2
    have F5:=K5.facts
    simp only [zg] at F5
    rw [hgp] at F5
    clear H H2 H3 hp hvs hm_
    go_upto_region 17 with fail
    rw [←hgp] at F5 ⊢
    clear hgp c0 c1 c2
    generalize World.alloc _ _=w3 at K5 F5 ⊢
    go_wp2_with fail
    refine (ZkB M w0 _ _ (i+10) g oA on oc snm cA cn cc tA tn tc pA pn pc qA qn qc qvs K5 HI.out (K5.ro 0 rfl) hqn).mono ?_
    rintro e w4 ⟨C,ccap,rfl,h1,h2,K6⟩
    have HCAP:=hid (KJ h1 h2)
    clear K5 F5 h1 h2
    have F6:=K6.facts
    simp only [zg] at F6
    go_wp2_with fail
    obtain ⟨KM,hKM,K7⟩:=K6.name
    have H1:∀ wv:World,Hold M none w0 wv KM→Blk wv g8 87 #[.slice none 0 0,.slice none 0 0,.slice O j cap]:=fun wv h=>by rw [hKM] at h;exact h.Ym 6 rfl
    have H2:∀ wv:World,Hold M none w0 wv KM→Blk wv gp 136 #[.int .i64 pid,.slice pA pn pc,.slice qA qn qc]:=fun wv h=>by rw [hKM] at h;exact h.Zg 3 rfl
    have H3:∀ wv:World,Hold M none w0 wv KM→Ro wv (Mut M KM) (VlsIn pA pn pvs):=fun wv h=>by rw [hKM] at h ⊢;exact h.ro 2 rfl
    have H4:∀ wv:World,Hold M none w0 wv KM→Ro wv (Mut M KM) (VlsIn C qn qvs):=fun wv h=>by rw [hKM] at h ⊢;exact h.ro 0 rfl
    have HQL:=hid (show qvs.length=qn from (K6.ro 0 rfl).now.len)
    have HH1:=hid H1
    have HH2:=hid H2
    have HH3:=hid H3
    have HH4:=hid H4
    have HKM:=hid hKM
    clear hKM H1 H2 H3 H4 K6 F6
    refine Lj (by kernel_rfl) ?_
    refine Zn 10 116 (KM) (spL [(84,Zx (Mut M KM) pvs),(86,YP (Mut M KM) (pid,pvs,qvs)),(87,YX (Mut M KM) [(pid,pvs,qvs)])]) (by kernel_rfl) (by kernel_rfl) (by kernel_rfl) rfl ?_ (K7.drew) ?_
    ·exact Zd XG (Zd Vq (Zd Jr (Zm _)))
    simp only [zd,zp,List.getElem_toArray,List.getElem_cons_zero,List.getElem_cons_succ]
    repeat (refine' dv rfl rfl rfl (fun wv HC=>?_) ?_;rotate_left;(focus (have q0:=(HH1.out _ HC).cell 2;have p0:=(HH2.out _ HC).cell 0;have p1:=(HH2.out _ HC).cell 1;go_simp<;>rfl;done));simp only [zp])
    refine Zi 84 (Zx (Mut M KM) pvs) (f:=51) (args:=#[.slice pA pn pc]) rfl rfl rfl rfl (fun wv=>?_) (fun wv HC hrm hD=>?_) ?_
    ·go_simp<;>rfl
    ·refine (Xe (Mut M KM) wv HC.Zb pA pn pc pvs (HH3.out _ HC) (by omega)).mono ?_
     rintro e w5 ⟨A5,n5,c5,rfl,h50,h51,h52,h53,b5⟩
     exact ⟨_,rfl,⟨A5,n5,c5,rfl,h50,h51,h52,h53⟩,HC.call b5,RM.below b5⟩
    rintro u wx HCx ⟨A5,n5,c5,rfl,-,-,-,-⟩
    clear HCx
    simp only [zp]
    repeat (refine' dv rfl rfl rfl (fun wv HC=>?_) ?_;rotate_left;(focus (go_simp<;>rfl;done));simp only [zp])
    refine YI 86 (YP (Mut M KM) (pid,pvs,qvs)) rfl rfl rfl rfl (.agg #[.int .i64 pid,.slice A5 n5 c5,.slice C qn ccap]) (fun wv HC=>?_) (fun wv HC hD=>?_) ?_
    ·go_simp<;>rfl
    ·have h1:Zx (Mut M KM) pvs (.slice A5 n5 c5) wv:=ZI hD 6 rfl (by kernel_rfl) rfl rfl
     exact Jo HPK.out.1.id HPK.out.1.old HPK.out.1.new h1 ⟨C,qn,ccap,rfl,HQL.out.symm,HCAP.out.1,HCAP.out.2,HH4.out _ HC⟩
    simp only [zp]
    refine Z8 #[.int .i64 pid,.slice A5 n5 c5,.slice C qn ccap] 136 87 (YX (Mut M KM) [(pid,pvs,qvs)]) (fun g=>.slice (some ⟨g,0,none⟩) 1 1) rfl rfl rfl rfl (fun wv=>?_) (fun wv HC _hrm hD hro=>?_) ?_
    ·go_simp<;>rfl
    ·have hrr:=RM.alloc (Mut M KM) wv (.cells #[.int .i64 pid,.slice A5 n5 c5,.slice C qn ccap] 136)
     have h0:YP (Mut M KM) (pid,pvs,qvs) (.agg #[.int .i64 pid,.slice A5 n5 c5,.slice C qn ccap]) wv:=ZI hD 8 rfl (by kernel_rfl) rfl rfl
     replace h0:=Vq _ _ _ hrr h0
     exact Js (hro _ HC.Zb) (fun i j k e1=>Value.agg.inj e1) h0
    rintro g51 wg HCg hsl
    simp only [zp]
    clear hsl HCg
    refine Zk ?_
    rintro wx3 HX3
    rintro _hrm HGW
    have hb2:YX (Mut M KM) [(pid,pvs,qvs)] (.slice (some ⟨g51,0,none⟩) 1 1) wx3:=(Zo (d:=87) rfl).1 (HGW 9 _ rfl (by omega))
    clear HGW _hrm
    obtain ⟨Aq,nq,cq,pq,heq,-,-,hpm,hpok,hpr⟩:=hb2
    obtain ⟨rfl,rfl,rfl⟩:some ⟨g51,0,none⟩=Aq∧1=nq∧1=cq:=by injection heq with h1 h2 h3;exact ⟨h1,h2,h3⟩
    clear heq
    obtain ⟨pr,rfl,hpu⟩:∃ pr,pq=[pr]∧pr.upd=(pid,pvs,qvs):=by
     obtain ⟨pr,h1,h2⟩:=List.map_eq_singleton_iff.1 hpm
     exact ⟨pr,h1,h2⟩
    rw [HKM.out] at HX3 hpr
    have HPE:=hid (show ZB outs++ZB [pr]=ZB (outs++[pr]) by simp [ZB])
    have K8:=HX3.add (hpr.imp fun w h=>(h.2:Yh [pr] w))
    have HG:=hid ((hpr.imp fun w h=>h.1).now)
    have HPU:=hid hpu
    have HPO:=hid hpok
    clear HX3 hpr hpm hpok hpu HH1 HH2 HH3 HH4 HKM K7
    have F8:=K8.facts
    simp only [zg] at F8
    go_wp2_with (at_builtin;go_must (refine ZX K8 5 rfl Tryz.U7 HG.out rfl (.tmp 79) (.tmp 87) rfl rfl rfl (Jn _) (by omega) (by omega) ?_);intro G1 gc1 wB hcB hmB KE;rw [HPE.out] at KE;simp only [zl] at KE;(have FE:=KE.facts);simp only [zg] at FE)
    have KD:=KE.store 7 rfl 2 (.slice G1 (j+1) gc1)
    have KF:=(KD.ZT 6 rfl (Jp (KD.ro 6 rfl) (KD.ro 0 rfl))).drop (((((Kb _ _).cons _).cons _).cons _).cons _)
    simp only [zl] at KF
    go_roundw
    case rel=>exact ⟨j+1,gc1,G1,outs++[pr],by omega,by go_num,hid ⟨by rw [Km,HO.out.1,Kq,HP.out,Km];exact congrArg _ (congrArg (fun z=>[z]) HPU.out),fun p hp=>by
     rcases Kk.1 hp with hp|hp
     ·exact HO.out.2 p hp
     ·exact HPO.out p hp⟩,KF⟩
    case measure=>simp [intOf];omega
   ·obtain rfl:nu=j:=by omega
    rw [Kh (by rw [HPL.out];exact Kg _)] at HO
    have hcap:=ZM (H.get 0 rfl)
    have HCAP:=hid (KJ hcap.1 hcap.2.1)
    have F2:=H.facts
    simp only [zg] at F2
    go_wp2_with fail
    clear F2
    go_loopw [94] (fun iv wr=>iv=.int .i64 0∧Hold M none w0 wr (.own 136 3 (.slice O nu cap) nu (ZB outs)::.ro (Yh outs)::.blk g8 87 #[.slice none 0 0,.slice none 0 0,.slice O nu cap]::.blk g6 87 #[.slice none 0 0,.slice none 0 0,.slice none 0 0]::.cst g5 87 #[.slice none 0 0,.slice none 0 0,.slice U nu cu]::.cst g4 69 #[.string nm,.slice hA hn hc,.int .i64 nx,.slice B m d]::.ro (PrsIn U nu ps)::L)) (fun _ _=>0)
    case atStart=>exact ⟨rfl,H⟩
    case round=>
     clear H
     obtain ⟨rfl,H⟩:=hrel
     have K4:=((H.store 3 rfl 0 (.slice none 0 0)).store 3 rfl 1 (.slice none 0 0)).store 3 rfl 2 (.slice O nu cap)
     simp only [zl] at K4
     have F2:=H.facts
     simp only [zg] at F2
     have F4:=K4.facts
     simp only [zg] at F4
     have KZ:=K4.Zq 0 rfl
     simp only [zl] at KZ
     have hR:Ro _ _ (PrsIn O nu outs):=((KZ.ro 0 rfl).and (KZ.ro 1 rfl)).imp fun w2 h2=>⟨h2.1,h2.2⟩
     have HZ:=hid ((KZ.add hR).drop (Ki _ (((((((Kb _ _).cons _).cons _).cons _).cons _).cons _).cons _)))
     clear KZ K4 H hR
     go_wp2_with fail
     refine Lh (v:=.tuple #[.agg #[.slice none 0 0,.slice none 0 0,.slice O nu cap],.int .i64 0]) ?_ rfl ?_
     ·clear HZ
      simp [results,Tryz.results27,go_sem,F4]
     ·exact ⟨O,nu,cap,outs,rfl,HCAP.out.1,HCAP.out.2,HO.out.1,HO.out.2,HZ.out⟩
end
section
open Go.RowKit
def VG (M:Nat→Prop) (n:Nat) (l:List Te) (u:Value) (w:World):Prop:=∃ (C:Option Addr) (c:Nat),u=.slice C n c∧Ro w M (TesIn C n l)
theorem Zdt {M:Nat→Prop} {n:Nat} {l:List Te} (u:Value) (w w' :World) (hr:RM M w w') (h:VG M n l u w):VG M n l u w' :=by
 obtain ⟨C,c,h1,h2⟩:=h
 exact ⟨C,c,h1,hr.ro h2⟩
def VH (M:Nat→Prop) (us:List Upd) (u:Value) (w:World):Prop:=∃ (U:Option Addr) (nu cu:Nat) (ps:List Pr),u=.tuple #[.agg #[.slice none 0 0,.slice none 0 0,.slice U nu cu],.int .i64 0]∧nu≤cu∧cu≤9223372036854775807∧ps.map Pr.upd=us∧(∀ p∈ps,p.ok)∧Ro w M (PrsIn U nu ps)
theorem Zdx {M:Nat→Prop} {us:List Upd} (u:Value) (w w' :World) (hr:RM M w w') (h:VH M us u w):VH M us u w' :=by
 obtain ⟨U,nu,cu,ps,h1,h2,h3,h4,h5,h6⟩:=h
 exact ⟨U,nu,cu,ps,h1,h2,h3,h4,h5,hr.ro h6⟩
def V5 (u:Value) (w:World):Prop:=∃ (A:Option Addr) (n c:Nat),u=.slice A n c
theorem Zar {M:Nat→Prop} (u:Value) (w w' :World) (hr:RM M w w') (h:V5 u w):V5 u w' :=h
section
variable {P:Program} {M:Nat→Prop} {row:Option Nat} {w0 w1:World} {L:List Hp} {sp:SpW} {F:Act→Prop} {S0:Array Bool}
variable {ops:Array Oper} {o:Oper} {rest:List Oper} {a:Act} {k:Nat}
theorem Gz {t e:TypeId} {size bytes:Nat} {z:Value} (hE:ElemT P t e size bytes z) (d:Tmp) (hS:S0.getD k false=false) (hw:Region.wanted o (yielded ops a.tmps)=true) (hd:o.dst=some d) (hsp:sp d=some (IsV (.slice none 0 0)))
  (s x:Operand) (ho:o.op=.call { callee:=.builtin .append,args:=#[s,x],argTypes:=#[t,t] }) (hs:a.eval s=.slice none 0 0) {A:Option Addr} {c:Nat} (hx:a.eval x=.slice A 0 c)
  (hn:Zz P ops (HC M row w0 w1 L) (GW sp) (RM (Mut M L)) S0 F (k+1) rest (a.put (some d) (.slice none 0 0))):Zz P ops (HC M row w0 w1 L) (GW sp) (RM (Mut M L)) S0 F k (o::rest) a:=
 YI d (IsV (.slice none 0 0)) hS hw hd hsp _ (fun w _=>by
  obtain ⟨i0,hi1,hi2,hi3,hi4⟩:=info_parts hE.hi
  have hr:=ZcV (P:=P) (w:=w) t o.type e i0 z hE.ht hi1 hi2 A c
  unfold execOp
  simp only [ho,resolve,invoke,builtin,Sem.run_bind,Sem.run_pure,Result.andThen_ok,List.map_toArray,List.map_cons,List.map_nil,hs,hx,hr]) (fun _ _ _=>rfl) hn
end
def J6 (w:World) (M:Nat→Prop) (ts:List Tb) (cnt:Nat) (e:Ending) (w' :World):Prop:=∃ (A:Option Addr) (n c:Nat) (l:List Te),e=.returned (.tuple #[.slice A n c,.slice none 0 0,.slice none 0 0,.int .i64 cnt,.int .i64 0])∧n≤c∧c≤9223372036854775807∧l.map Te.tb=ts∧(∀ x∈l,x.ok)∧Ro w' M (TesIn A n l)∧Below w.heap.size w w'
structure UpT (d:Nat) (a:Ac) (nm:ByteArray) (x:Ex) (p q t:Te) (k:Nat) (b:Bool) (v:Vl):Prop where
 up:UpA d a nm x
 nms:p.nm≠a.tab∧q.nm≠a.tab∧t.nm=a.tab
 lim:∀ y∈[p,q,t],Uf y∧TbM y.tb∧y.n≤1000∧y.m≤1000
 oks:∀ y∈[p,q,t],y.ok
 col:Ze (named nm) t.cs=k
 len:∀ r∈t.l,k<r.vs.length∧r.n≤1000
 val:v.ok
 same:UO d t.cs (t.l.map Rw.row) a.wh.l x b v
 tab:Zh t.nm t.cs t.nx (t.l.map Rw.row)=true
 set:SetOk t.cs k v
theorem Zjo {w:World} {Q:Nat→Prop} {U:Option Addr} {nu:Nat} {ps:List Pr} (h:Ro w Q (PrsIn U nu ps)) {ga:Nat} {t:TypeId} (hg:w.heap[ga]? =some (.cells #[.slice none 0 0,.slice none 0 0,.slice none 0 0] t (0,0))):Ro w (fun b=>b=ga∨Q b) (PrsIn U nu ps):=by
 have hl:=h.now.len
 have k1:=(h.imp fun w2 h2=>h2.1:Ro w Q (SlR 3 U nu (ZB ps))).UV hg (by
  cases ps with
  | nil=>left;simpa using hl.symm
  | cons r l=>exact .inr ⟨.int .i64 r.id,rfl,by simp⟩)
 have k2:∀ (A:Option Addr) (n:Nat) (vs:List Vl),Ro w Q (VlsIn A n vs)→Ro w (fun b=>b=ga∨Q b) (VlsIn A n vs):=fun A n vs hv=>by
  have hn:=VlsIn.len hv.now
  exact (show Ro w Q (SlR 3 A n (ZH vs)) from hv).UV hg (by
   cases vs with
   | nil=>left;simpa using hn.symm
   | cons v vs=>exact .inr ⟨.int .i64 v.k,rfl,by simp⟩)
 refine k1.and fun w2 g1 g2 r hr=>?_
 exact ⟨k2 _ _ _ (h.imp fun w2 h2=>(h2.2 r hr).1) w2 g1 g2,k2 _ _ _ (h.imp fun w2 h2=>(h2.2 r hr).2) w2 g1 g2⟩
theorem JC (k:Nat) (v:Vl) (rs:List Row):(YN k v rs).length=rs.length:=by simp [YN]
theorem Zje {w:World} {base g n cap:Nat} {e:TypeId} {l:List Te} {k:Nat} {x:Te} (h:w.ownsRow base e 4 (.slice (some ⟨g,0,none⟩) n cap) n (ZC l)) (hx:l[k]? =some x):
  (w.cell? ⟨g,k * 4,none⟩=some (.string x.nm)∧w.cell? ⟨g,k * 4+1,none⟩=some (.slice x.A x.n x.c)∧w.cell? ⟨g,k * 4+2,none⟩=some (.int .i64 x.nx)∧w.cell? ⟨g,k * 4+3,none⟩=some (.slice x.B x.m x.d))∧
  (w.frozen? ⟨g,k * 4,none⟩=false∧w.frozen? ⟨g,k * 4+1,none⟩=false∧w.frozen? ⟨g,k * 4+2,none⟩=false∧w.frozen? ⟨g,k * 4+3,none⟩=false)∧g<w.heap.size:=by
 have hk:=(Kc.1 hx).1
 have hl:l.length=n:=by have:=h.1;rw [JH] at this;omega
 have c0:=flat_get Te.cells 4 (fun _=>rfl) l k 0 x (by omega) hx
 have c1:=flat_get Te.cells 4 (fun _=>rfl) l k 1 x (by omega) hx
 have c2:=flat_get Te.cells 4 (fun _=>rfl) l k 2 x (by omega) hx
 have c3:=flat_get Te.cells 4 (fun _=>rfl) l k 3 x (by omega) hx
 exact ⟨⟨(h.cellAt _ (by omega)).trans c0,(h.cellAt _ (by omega)).trans c1,(h.cellAt _ (by omega)).trans c2,(h.cellAt _ (by omega)).trans c3⟩,⟨h.frozenAt _,h.frozenAt _,h.frozenAt _,h.frozenAt _⟩,(h.lt g rfl).2⟩
theorem Hold.Zjr {M:Nat→Prop} {row:Option Nat} {w0 w:World} {L:List Hp} (h:Hold M row w0 w L) (i:Nat) {e:TypeId} {n cap g:Nat} {l:List Te} (hi:L[i]? =some (.own e 4 (.slice (some ⟨g,0,none⟩) n cap) n (ZC l))) (k:Nat) {x:Te} (hk:l[k]? =some x) (y:Te):
  Hold M row w0 ((((w.setCell ⟨g,k * 4,none⟩ (.string y.nm)).setCell ⟨g,k * 4+1,none⟩ (.slice y.A y.n y.c)).setCell ⟨g,k * 4+2,none⟩ (.int .i64 y.nx)).setCell ⟨g,k * 4+3,none⟩ (.slice y.B y.m y.d)) (L.set i (.own e 4 (.slice (some ⟨g,0,none⟩) n cap) n (ZC (l.set k y)))):=by
 have hil:=(Kc.1 hi).1
 have hs:∀ x:Hp,(L.set i x)[i]? =some x:=fun x=>by rw [List.getElem?_set,Lg rfl,Lg hil]
 have h1:=h.Vr i hi (k * 4) (.string y.nm)
 have h2:=h1.Vr i (hs _) (k * 4+1) (.slice y.A y.n y.c)
 rw [List.set_set] at h2
 have h3:=h2.Vr i (hs _) (k * 4+2) (.int .i64 y.nx)
 rw [List.set_set] at h3
 have h4:=h3.Vr i (hs _) (k * 4+3) (.slice y.B y.m y.d)
 rw [List.set_set,Zdr y hk] at h4
 exact h4
theorem Zkz (M:Nat→Prop) (w:World) (hM:∀ b,M b→b<w.heap.size) (d:Nat) (a:Ac) (nm:ByteArray) (x:Ex) (p q t:Te) (k:Nat) (b:Bool) (v:Vl) (tA:Option Addr) (tc:Nat) (gA:Option Addr) (gn gc:Nat) (gl:List Tg) (oA:Option Addr) (on oc:Nat) (eA:Option Addr) (en ec:Nat) (el:List Te)
  (hu:UpT d a nm x p q t k b v) (ha:Ro w M (AcIn d a)) (ht:Ro w M (TesIn tA 3 [p,q,t])) (hg:Ro w M (SlR 11 gA gn (gl.flatMap Tg.cells))) (hb:∀ z∈gl,z.before=false) (hgn:gn≤1000) (he:Ro w M (TesIn eA en el)) (hen:en≤900):
  Calls Tryz.prog 11 #[.slice tA 3 tc,.slice gA gn gc,.slice oA on oc,.agg #[.int .i64 a.kind,.string a.tab,.slice a.rows.A a.rows.n a.rows.c,.slice a.qs.A a.qs.n a.qs.c,.slice a.sets.A a.sets.n a.sets.c,.slice a.wh.A a.wh.n a.wh.c,.string a.text],.slice none 0 0,.slice eA en ec,.slice none 0 0] w fun e w' =>J6 w M [p.tb,q.tb,if b then Z5 k v t.tb else t.tb] (if b then t.m else 0) e w' :=by
 have HU:=hid hu
 obtain ⟨RT,hRT⟩:∃ RT,RT=[p.tb,q.tb,if b then Z5 k v t.tb else t.tb]:=⟨_,rfl⟩
 obtain ⟨CT,hCT⟩:∃ CT,CT=(if b then t.m else 0):=⟨_,rfl⟩
 rw [←hRT,←hCT]
 have HRT:=hid (KJ hRT hCT)
 clear hRT hCT
 have hkind:a.kind=2:=hu.up.kind
 have HB:=hid hb
 have HRM:=hid (show t.l.length=t.m from (ht.now.2 t (by simp)).2.len)
 obtain ⟨j0,hj1,hj2,hj3,hj4⟩:=info_parts Tryz.XL.hi
 obtain ⟨kind,tab,⟨rA,rn,rc,rl⟩,⟨qA,qn,qc,ql⟩,⟨sA,sn,sc,sl⟩,⟨hA,hn,hc,hl⟩,text⟩:=a
 obtain rfl:kind=2:=hkind
 have K0:=(((((Hold.start M w hM).add (he.less (by simp [Mut]))).add (hg.less (by simp [Mut,Hp.foot]))).add (ht.less (by simp [Mut,Hp.foot]))).add (ha.less (by simp [Mut,Hp.foot]))).Za #[.int .i64 2,.string tab,.slice rA rn rc,.slice qA qn qc,.slice sA sn sc,.slice hA hn hc,.string text] 44
 obtain ⟨g10,hg10⟩:∃ g,g=w.heap.size:=⟨_,rfl⟩
 rw [←hg10] at K0
 clear hu ha ht hg hb he
 dsimp only
 go_enter Tryz.func11,Tryz.ntmps11
 go_upto_region 1 with fail
 rw [←hg10]
 clear hg10
 generalize World.alloc _ _=w1 at K0 ⊢
 have F0:=K0.facts
 simp only [zg] at F0
 go_wp2_with fail
 refine (ZcR (Mut M _) _ K0.Zb tA 3 tc [p,q,t] tab (K0.ro 2 rfl) (by omega)).mono ?_
 rintro e w2 ⟨rfl,b2⟩
 have hfd:Yk ([p,q,t].map Te.tb) tab=2:=by
  have h1:(p.nm.toList==tab.toList)=false:=beq_eq_false_iff_ne.2 fun e=>HU.out.nms.1 (Yc e)
  have h2:(q.nm.toList==tab.toList)=false:=beq_eq_false_iff_ne.2 fun e=>HU.out.nms.2.1 (Yc e)
  have h3:(t.nm.toList==tab.toList)=true:=by rw [HU.out.nms.2.2];simp
  simp [Yk,Ze,Zy,Te.tb,h1,h2,h3]
 rw [hfd]
 clear hfd
 have K1:=K0.call b2
 clear K0 F0 b2
 have F1:=K1.facts
 simp only [zg] at F1
 go_wp2_with fail
 obtain ⟨Hb,hHb⟩:∃ Hb,Hb=w2.drew.heap.size:=⟨_,rfl⟩
 have HHb:=hid hHb
 clear hHb
 obtain ⟨KL,hKL,KN⟩:=K1.name
 have HF:Hid (∀ wv,Hold M none w wv KL→Blk wv g10 44 #[.int .i64 2,.string tab,.slice rA rn rc,.slice qA qn qc,.slice sA sn sc,.slice hA hn hc,.string text]∧Ro wv (Mut M KL) (AcIn d ⟨2,tab,⟨rA,rn,rc,rl⟩,⟨qA,qn,qc,ql⟩,⟨sA,sn,sc,sl⟩,⟨hA,hn,hc,hl⟩,text⟩)∧Ro wv (Mut M KL) (TesIn tA 3 [p,q,t])∧Ro wv (Mut M KL) (TesIn eA en el)):=hid fun wv HC=>by
  rw [hKL] at HC ⊢
  exact ⟨HC.Zg 0 rfl,HC.ro 1 rfl,HC.ro 2 rfl,HC.ro 4 rfl⟩
 have HKL:=hid hKL
 clear hKL K1 F1
 refine Lj (by kernel_rfl) ?_
 refine V3 [8] 10 131 (KL) (spL [(39,VG (Mut M KL) (3+en) ([p,q,t]++el)),(40,VH (Mut M KL) (YV b k v (t.l.map Rw.row))),(34,VH (Mut M KL) (YV b k v (t.l.map Rw.row))),(20,Yp (Mut M KL) Hb 87 #[.slice none 0 0,.slice none 0 0,.slice none 0 0])]) (by kernel_rfl) (fun _ d _ _ _ h=>by cases d<;>exact h) (by kernel_rfl) (by kernel_rfl) rfl ?_ (KN.drew) ?_
 ·exact Zd Zdt (Zd Zdx (Zd Zdx (Zd VS (Zm _))))
 simp only [zd,zp,List.getElem_toArray,List.getElem_cons_zero,List.getElem_cons_succ]
 repeat (refine' dv rfl rfl rfl (fun wv HC=>?_) ?_;rotate_left;(focus (have q0:=(HF.out _ HC).1.cell 0;have q1:=(HF.out _ HC).1.cell 1;have q2:=(HF.out _ HC).1.cell 2;have q3:=(HF.out _ HC).1.cell 3;have q4:=(HF.out _ HC).1.cell 4;have q5:=(HF.out _ HC).1.cell 5;have q6:=(HF.out _ HC).1.cell 6;go_simp<;>rfl;done));simp only [zp])
 refine Zi 39 (VG (Mut M KL) (3+en) ([p,q,t]++el)) (f:=22) (args:=#[.slice tA 3 tc,.slice eA en ec]) rfl rfl rfl rfl (fun wv=>?_) (fun wv HC hrm hD=>?_) ?_
 ·go_simp<;>rfl
 ·refine (Zcr (Mut M KL) wv HC.Zb tA 3 tc [p,q,t] eA en ec el (HF.out _ HC).2.2.1 (HF.out _ HC).2.2.2 (by omega) (by omega)).mono ?_
  rintro e w5 ⟨C,c5,rfl,r5,b5⟩
  exact ⟨_,rfl,⟨C,c5,rfl,r5⟩,HC.call b5,RM.below b5⟩
 rintro u wx HCx ⟨C,c5,rfl,-⟩
 clear HCx
 simp only [zp]
 refine Zi 40 (VH (Mut M KL) (YV b k v (t.l.map Rw.row))) (f:=21) (args:=#[.agg #[.int .i64 2,.string tab,.slice rA rn rc,.slice qA qn qc,.slice sA sn sc,.slice hA hn hc,.string text],.slice none 0 0,.slice C (3+en) c5]) rfl rfl rfl rfl (fun wv=>?_) (fun wv HC hrm hD=>?_) ?_
 ·go_simp<;>rfl
 ·have hD1:VG (Mut M KL) (3+en) ([p,q,t]++el) (.slice C (3+en) c5) wv:=ZI hD 4 rfl (by kernel_rfl) rfl rfl
  obtain ⟨C2,c2,e2,r2⟩:=hD1
  obtain ⟨rfl,rfl⟩:C=C2∧c5=c2:=by injection e2 with h1 h2 h3;exact ⟨h1,h3⟩
  have hlim:=HU.out.lim t (by simp)
  refine (ZjP (Mut M KL) wv HC.Zb d ⟨2,tab,⟨rA,rn,rc,rl⟩,⟨qA,qn,qc,ql⟩,⟨sA,sn,sc,sl⟩,⟨hA,hn,hc,hl⟩,text⟩ nm x 2 t k b v C (3+en) c5 ([p,q,t]++el) (HF.out _ HC).2.1 HU.out.up r2 ⟨rfl,HU.out.nms.2.2,fun j y hj hy=>by
   obtain rfl|rfl:j=0∨j=1:=by omega
   ·simp at hy;subst hy;exact HU.out.nms.1
   ·simp at hy;subst hy;exact HU.out.nms.2.1⟩ HU.out.col (fun r hr=>(HU.out.len r hr).1) HU.out.val (fun r hr=>⟨(hlim.1.2.2 r hr).1,(HU.out.len r hr).2⟩) hlim.2.2.1 hlim.2.2.2 HU.out.same (by omega)).mono ?_
  rintro e w5 ⟨U,nu,cu,ps,rfl,h1,h2,h3,h4,r5,b5⟩
  exact ⟨_,rfl,⟨U,nu,cu,ps,rfl,h1,h2,h3,h4,r5⟩,HC.call b5,RM.below b5⟩
 rintro u wx HCx ⟨U,nu,cu,ps0,rfl,-,-,-,-,-⟩
 clear HCx
 simp only [zp]
 refine YI 34 (VH (Mut M KL) (YV b k v (t.l.map Rw.row))) rfl rfl rfl rfl (.tuple #[.agg #[.slice none 0 0,.slice none 0 0,.slice U nu cu],.int .i64 0]) (fun wv HC=>?_) (fun wv HC hD=>?_) ?_
 ·go_simp<;>rfl
 ·exact ZI hD 5 rfl (by kernel_rfl) rfl rfl
 iterate 2
  simp only [zp]
  refine' dv rfl rfl rfl (fun wv HC=>?_) ?_;rotate_left
  · go_simp<;>rfl
 simp only [zp]
 refine Z8 #[.slice none 0 0,.slice none 0 0,.slice none 0 0] 87 20 (Yp (Mut M KL) Hb 87 #[.slice none 0 0,.slice none 0 0,.slice none 0 0]) (fun g=>.pointer (some ⟨g,0,none⟩)) rfl rfl rfl rfl (fun wv=>?_) (fun wv HC hrm hD hro=>?_) ?_
 ·go_simp<;>rfl
 ·exact ⟨_,rfl,by have:=hrm.1;rw [HHb.out];exact this,hro _ HC.Zb⟩
 rintro gb wg HCg hsl
 simp only [zp]
 clear hsl HCg
 refine Zk ?_
 rintro wxb HY
 rintro _hrm HGW
 have hns:Yp (Mut M KL) Hb 87 #[.slice none 0 0,.slice none 0 0,.slice none 0 0] (.pointer (some ⟨gb,0,none⟩)) wxb:=(Zo (d:=20) rfl).1 (HGW 9 _ rfl (by omega))
 have htv:VH (Mut M KL) (YV b k v (t.l.map Rw.row)) (.tuple #[.agg #[.slice none 0 0,.slice none 0 0,.slice U nu cu],.int .i64 0]) wxb:=(Zo (d:=34) rfl).1 (HGW 6 _ rfl (by omega))
 clear HGW
 obtain ⟨g7,hg7,hgH,hgB⟩:=hns
 obtain rfl:gb=g7:=by injection hg7 with hg7;injection hg7 with hg7;injection hg7
 obtain ⟨U2,nu2,cu2,ps,e2,hc1,hc2,hps,hpo,rP⟩:=htv
 obtain ⟨rfl,rfl,rfl⟩:U=U2∧nu=nu2∧cu=cu2:=by
  injection e2 with e2
  have h1:=congrArg (fun a:Array Value=>a[0]?) e2
  simp only [List.getElem?_toArray,List.getElem?_cons_zero,Option.some.injEq,Value.agg.injEq] at h1
  have h2:=congrArg (fun a:Array Value=>a[2]?) h1
  simp only [List.getElem?_toArray,List.getElem?_cons_zero,List.getElem?_cons_succ,Option.some.injEq,Value.slice.injEq] at h2
  exact h2
 clear hg7 e2
 rw [HHb.out] at hgH
 have HPS:=hid (KJ hc1 (KJ hc2 (KJ hps hpo)))
 have HPL:=hid (show ps.length=nu from rP.now.len)
 have HB1:=(Hold.VI KN.drew HY _hrm hgH hgB.now).add ((Zjo rP hgB.now).less (fun b hb=>(ZL.1 hb).imp (fun h=>by injection h with h;exact h.symm) id))
 rw [HKL.out] at HB1
 clear HY KN HF hgB hgH _hrm HHb HKL rP hc1 hc2 hps hpo
 have KB:=((HB1.store 1 rfl 0 (.slice none 0 0)).store 1 rfl 1 (.slice none 0 0)).store 1 rfl 2 (.slice U nu cu)
 simp only [zl] at KB
 have FB:=HB1.facts
 simp only [zg] at FB
 clear HB1
 have hnu:nu≤1000:=by
  have h1:=HPL.out
  have h2:=congrArg List.length HPS.out.2.2.1
  have h3:=HRM.out
  have h4:=(HU.out.lim t (by simp)).2.2.2
  rw [Kj] at h2
  unfold YV at h2
  cases b
  ·rw [Lf (by decide),List.length_nil] at h2;omega
  ·rw [Lg rfl,JC,Kj] at h2;omega
 have hw1:IntKind.i64.wrap (nu:Int)=nu:=IntWalk.i64_in _ (by omega)
 go_upto_region 5 with fail
 generalize World.setCell _ _ _=w3 at KB ⊢
 clear FB
 have F2:=KB.facts
 simp only [zg] at F2
 by_cases hz:nu=0
 ·subst hz
  have hps0:ps=[]:=List.eq_nil_of_length_eq_zero HPL.out
  have hemp:(if b then Z5 k v t.tb else t.tb)=t.tb∧(if b then t.m else 0)=0:=by
   cases b
   ·exact ⟨rfl,rfl⟩
   ·have h2:=congrArg List.length HPS.out.2.2.1
    rw [hps0] at h2
    unfold YV at h2
    rw [Lg rfl,JC,Kj] at h2
    have h3:t.l=[]:=List.eq_nil_of_length_eq_zero (by simpa using h2.symm)
    have h4:=HRM.out
    rw [h3] at h4
    refine ⟨?_,by simpa using h4.symm⟩
    simp [Z5,Te.tb,h3]
  have HEMP:=hid hemp
  clear hemp hps0
  go_wp2_with (first|(go_at_call 23;go_must (refine ((Jt (Mut M _) _ KB.Zb tA 3 tc [p,q,t] (fun y hy=>(HU.out.lim y hy).1) (KB.ro 4 rfl) (by omega)).mono fun e w' h=>TesOwn.ret KB.Zb h).mono ?_);rintro e w4 ⟨C,n4,c4,l4,rfl,h1,h2,h3,h4,r4,b4⟩;(have HL4:=hid (KJ h1 (KJ h2 (KJ h3 h4))));(have K4:=(KB.call b4).add r4);clear b4 r4 h1 h2 h3 h4 KB F2)|(at_builtin;go_must (refine WA rfl (.const (.slice none 0 0)) (.tmp 61) 22 rfl 3 j0 _ Tryz.underlying22 hj1 hj2 none 0 rfl rfl ?_)))
  have HR:=hid ((K4.ro 0 rfl).less zm)
  have HBL:=hid K4.below
  clear K4
  refine Lh (v:=.tuple #[.slice C n4 c4,.slice none 0 0,.slice none 0 0,.int .i64 0,.int .i64 0]) ?_ rfl ?_
  ·clear HR HBL
   simp [results,Tryz.results11,go_sem]
  ·exact ⟨C,n4,c4,l4,by rw [HRT.out.2,HEMP.out.2];rfl,HL4.out.1,HL4.out.2.1,HL4.out.2.2.1.trans (by rw [HRT.out.1,HEMP.out.1];rfl),HL4.out.2.2.2,HR.out,HBL.out⟩
 have hzb:((nu:Int)==0)=false:=by simp;omega
 obtain rfl:b=true:=by
  cases b
  ·exfalso
   have h1:=HPS.out.2.2.1
   have h2:=HPL.out
   simp only [YV,Bool.false_eq_true,if_false,List.map_eq_nil_iff] at h1
   rw [h1] at h2
   exact hz h2.symm
  ·rfl
 have hnm:t.m=nu:=by
  have h1:=HPL.out
  have h2:=congrArg List.length HPS.out.2.2.1
  have h3:=HRM.out
  rw [Kj] at h2
  unfold YV at h2
  rw [Lg rfl,JC,Kj] at h2
  omega
 have HNM:=hid hnm
 have HPS:=hid (show nu≤cu∧cu≤9223372036854775807∧ps.map Pr.upd=YN k v (t.l.map Rw.row)∧∀ p∈ps,p.ok from by
  have h:=HPS.out
  unfold YV at h
  rw [Lg rfl] at h
  exact h)
 clear hz hw1 hnm
 have hw1:IntKind.i64.wrap (nu:Int)=nu:=IntWalk.i64_in _ (by omega)
 go_wp2_with fail
 obtain ⟨KM,hKM,K5⟩:=KB.name
 have HF:Hid (∀ wv,Hold M none w wv KM→Blk wv g10 44 #[.int .i64 2,.string tab,.slice rA rn rc,.slice qA qn qc,.slice sA sn sc,.slice hA hn hc,.string text]∧Ro wv (Mut M KM) (AcIn d ⟨2,tab,⟨rA,rn,rc,rl⟩,⟨qA,qn,qc,ql⟩,⟨sA,sn,sc,sl⟩,⟨hA,hn,hc,hl⟩,text⟩)∧Ro wv (Mut M KM) (SlR 11 gA gn (gl.flatMap Tg.cells))):=hid fun wv HC=>by
  rw [hKM] at HC ⊢
  exact ⟨HC.Zg 2 rfl,HC.ro 3 rfl,HC.ro 5 rfl⟩
 have HKM:=hid hKM
 clear hKM KB F2
 refine Lj (by kernel_rfl) ?_
 refine Zn 11 131 (KM) (spL [(69,V5),(70,IsV (.slice none 0 0)),(72,IsV (.int .i64 0))]) (by kernel_rfl) (by kernel_rfl) (by kernel_rfl) rfl ?_ (K5.drew) ?_
 ·exact Zd Zar (Zd Yu (Zd Yu (Zm _)))
 simp only [zd,zp,List.getElem_toArray,List.getElem_cons_zero,List.getElem_cons_succ]
 repeat (refine' dv rfl rfl rfl (fun wv HC=>?_) ?_;rotate_left;(focus (have q0:=(HF.out _ HC).1.cell 0;have q1:=(HF.out _ HC).1.cell 1;have q2:=(HF.out _ HC).1.cell 2;have q3:=(HF.out _ HC).1.cell 3;have q4:=(HF.out _ HC).1.cell 4;have q5:=(HF.out _ HC).1.cell 5;have q6:=(HF.out _ HC).1.cell 6;go_simp<;>rfl;done));simp only [zp])
 refine Zi 69 V5 (f:=26) (args:=#[.agg #[.int .i64 2,.string tab,.slice rA rn rc,.slice qA qn qc,.slice sA sn sc,.slice hA hn hc,.string text]]) rfl rfl rfl rfl (fun wv=>?_) (fun wv HC hrm hD=>?_) ?_
 ·go_simp<;>rfl
 ·refine (Zcu (Mut M KM) wv HC.Zb d ⟨2,tab,⟨rA,rn,rc,rl⟩,⟨qA,qn,qc,ql⟩,⟨sA,sn,sc,sl⟩,⟨hA,hn,hc,hl⟩,text⟩ nm x (HF.out _ HC).2.1 HU.out.up).mono ?_
  rintro e w5 ⟨A5,n5,c5,rfl,b5⟩
  exact ⟨_,rfl,⟨A5,n5,c5,rfl⟩,HC.call b5,RM.below b5⟩
 rintro u wx HCx ⟨A5,n5,c5,rfl⟩
 clear HCx
 simp only [zp]
 refine Zi 70 (IsV (.slice none 0 0)) (f:=25) (args:=#[.slice gA gn gc,.string tab,.int .i64 2,.slice A5 n5 c5,.bool false]) rfl rfl rfl rfl (fun wv=>?_) (fun wv HC hrm hD=>?_) ?_
 ·go_simp<;>rfl
 ·refine (Zct (Mut M KM) wv HC.Zb gA gn gc gl tab 2 A5 n5 c5 false (HF.out _ HC).2.2 HB.out hgn).mono ?_
  rintro e w5 ⟨rfl,b5⟩
  exact ⟨_,rfl,rfl,HC.call b5,RM.below b5⟩
 rintro u wx HCx hu
 obtain rfl:u=.slice none 0 0:=hu
 clear HCx
 simp only [zp]
 repeat (refine' dv rfl rfl rfl (fun wv HC=>?_) ?_;rotate_left;(focus (go_simp<;>rfl;done));simp only [zp])
 refine Zi 72 (IsV (.int .i64 0)) (f:=24) (args:=#[.slice none 0 0,.slice tA 3 tc]) rfl rfl rfl rfl (fun wv=>?_) (fun wv HC hrm hD=>?_) ?_
 ·go_simp<;>rfl
 ·refine (ZkE wv tA 3 tc).mono ?_
  rintro e w5 ⟨rfl,b5⟩
  exact ⟨_,rfl,rfl,HC.call b5,RM.below b5⟩
 rintro u wx HCx hu
 obtain rfl:u=.int .i64 0:=hu
 clear HCx
 simp only [zp]
 repeat (refine' dv rfl rfl rfl (fun wv HC=>?_) ?_;rotate_left;(focus (go_simp<;>rfl;done));simp only [zp])
 refine Zk ?_
 rintro wxc HX
 rintro _hrm _HG
 clear _hrm _HG HF K5
 rw [HKM.out] at HX
 clear HKM
 obtain ⟨tb,to_,etA,htb,c0,c1,c2,c3,-⟩:=(HX.ro 4 rfl).now.at_ (show ([p,q,t]:List Te)[2]? =some t from rfl)
 subst etA
 simp only [Nat.reduceMul] at c0 c1 c2 c3
 have K6:=HX.Za #[.string t.nm,.slice t.A t.n t.c,.int .i64 t.nx,.slice t.B t.m t.d] 69
 obtain ⟨g24,hg24⟩:∃ g,g=wxc.heap.size:=⟨_,rfl⟩
 rw [←hg24] at K6
 have F6:=K6.facts
 simp only [zg] at F6
 rw [hg24] at F6
 clear HX
 go_wp2_with fail
 rw [←hg24] at F6 ⊢
 have HG24:=hid hg24
 clear hg24 c0 c1 c2 c3 htb
 generalize World.alloc _ _=w6 at K6 F6 ⊢
 clear F6
 obtain ⟨Hb,hHb⟩:∃ Hb,Hb=w6.drew.heap.size:=⟨_,rfl⟩
 have HHb:=hid hHb
 clear hHb
 obtain ⟨KN2,hKN2,K7⟩:=K6.name
 have HF:Hid (∀ wv,Hold M none w wv KN2→Blk wv g10 44 #[.int .i64 2,.string tab,.slice rA rn rc,.slice qA qn qc,.slice sA sn sc,.slice hA hn hc,.string text]∧Blk wv g24 69 #[.string t.nm,.slice t.A t.n t.c,.int .i64 t.nx,.slice t.B t.m t.d]∧Ro wv (Mut M KN2) (AcIn d ⟨2,tab,⟨rA,rn,rc,rl⟩,⟨qA,qn,qc,ql⟩,⟨sA,sn,sc,sl⟩,⟨hA,hn,hc,hl⟩,text⟩)∧Ro wv (Mut M KN2) (SlR 11 gA gn (gl.flatMap Tg.cells))):=hid fun wv HC=>by
  rw [hKN2] at HC ⊢
  exact ⟨HC.Zg 3 rfl,HC.Zg 0 rfl,HC.ro 4 rfl,HC.ro 6 rfl⟩
 have HKN:=hid hKN2
 clear hKN2 K6
 refine Lj (by kernel_rfl) ?_
 refine Zn 16 131 (KN2) (spL [(86,V5),(87,IsV (.slice none 0 0)),(93,IsV (.slice none 0 0)),(95,Yp (Mut M KN2) Hb 97 #[.slice none 0 0,.slice oA on oc,.string t.nm,.slice t.A t.n t.c,.slice (some ⟨tb,to_,none⟩) 3 tc,.slice none 0 0,.slice none 0 0])]) (by kernel_rfl) (by kernel_rfl) (by kernel_rfl) rfl ?_ (K7.drew) ?_
 ·exact Zd Zar (Zd Yu (Zd Yu (Zd VS (Zm _))))
 simp only [zd,zp,List.getElem_toArray,List.getElem_cons_zero,List.getElem_cons_succ]
 repeat (refine' dv rfl rfl rfl (fun wv HC=>?_) ?_;rotate_left;(focus (have q0:=(HF.out _ HC).1.cell 0;have q1:=(HF.out _ HC).1.cell 1;have q2:=(HF.out _ HC).1.cell 2;have q3:=(HF.out _ HC).1.cell 3;have q4:=(HF.out _ HC).1.cell 4;have q5:=(HF.out _ HC).1.cell 5;have q6:=(HF.out _ HC).1.cell 6;go_simp<;>rfl;done));simp only [zp])
 refine Zi 86 V5 (f:=26) (args:=#[.agg #[.int .i64 2,.string tab,.slice rA rn rc,.slice qA qn qc,.slice sA sn sc,.slice hA hn hc,.string text]]) rfl rfl rfl rfl (fun wv=>?_) (fun wv HC hrm hD=>?_) ?_
 ·go_simp<;>rfl
 ·refine (Zcu (Mut M KN2) wv HC.Zb d ⟨2,tab,⟨rA,rn,rc,rl⟩,⟨qA,qn,qc,ql⟩,⟨sA,sn,sc,sl⟩,⟨hA,hn,hc,hl⟩,text⟩ nm x (HF.out _ HC).2.2.1 HU.out.up).mono ?_
  rintro e w5 ⟨A5,n5,c5,rfl,b5⟩
  exact ⟨_,rfl,⟨A5,n5,c5,rfl⟩,HC.call b5,RM.below b5⟩
 rintro u wx HCx ⟨A6,n6,c6,rfl⟩
 clear HCx
 simp only [zp]
 refine Zi 87 (IsV (.slice none 0 0)) (f:=25) (args:=#[.slice gA gn gc,.string tab,.int .i64 2,.slice A6 n6 c6,.bool true]) rfl rfl rfl rfl (fun wv=>?_) (fun wv HC hrm hD=>?_) ?_
 ·go_simp<;>rfl
 ·refine (Zct (Mut M KN2) wv HC.Zb gA gn gc gl tab 2 A6 n6 c6 true (HF.out _ HC).2.2.2 HB.out hgn).mono ?_
  rintro e w5 ⟨rfl,b5⟩
  exact ⟨_,rfl,rfl,HC.call b5,RM.below b5⟩
 rintro u wx HCx hu
 obtain rfl:u=.slice none 0 0:=hu
 clear HCx
 simp only [zp]
 repeat (refine' dv rfl rfl rfl (fun wv HC=>?_) ?_;rotate_left;(focus (have p0:=(HF.out _ HC).2.1.cell 0;have p1:=(HF.out _ HC).2.1.cell 1;go_simp<;>rfl;done));simp only [zp])
 refine Gz Tryz.XL 93 rfl rfl rfl rfl (.const (.slice none 0 0)) (.tmp 92) rfl rfl (A:=none) (c:=0) rfl ?_
 simp only [zp]
 repeat (refine' dv rfl rfl rfl (fun wv HC=>?_) ?_;rotate_left;(focus (go_simp<;>rfl;done));simp only [zp])
 refine Z8 #[.slice none 0 0,.slice oA on oc,.string t.nm,.slice t.A t.n t.c,.slice (some ⟨tb,to_,none⟩) 3 tc,.slice none 0 0,.slice none 0 0] 97 95 (Yp (Mut M KN2) Hb 97 #[.slice none 0 0,.slice oA on oc,.string t.nm,.slice t.A t.n t.c,.slice (some ⟨tb,to_,none⟩) 3 tc,.slice none 0 0,.slice none 0 0]) (fun g=>.pointer (some ⟨g,0,none⟩)) rfl rfl rfl rfl (fun wv=>?_) (fun wv HC hrm hD hro=>?_) ?_
 ·go_simp<;>rfl
 ·exact ⟨_,rfl,by have:=hrm.1;rw [HHb.out];exact this,hro _ HC.Zb⟩
 rintro gr wg HCg hsl
 simp only [zp]
 clear hsl HCg
 refine Zk ?_
 rintro wxd HY
 rintro _hrm HGW
 have hns:Yp (Mut M KN2) Hb 97 #[.slice none 0 0,.slice oA on oc,.string t.nm,.slice t.A t.n t.c,.slice (some ⟨tb,to_,none⟩) 3 tc,.slice none 0 0,.slice none 0 0] (.pointer (some ⟨gr,0,none⟩)) wxd:=(Zo (d:=95) rfl).1 (HGW 15 _ rfl (by omega))
 clear HGW
 obtain ⟨g7,hg7,hgH,hgB⟩:=hns
 obtain rfl:gr=g7:=by injection hg7 with hg7;injection hg7 with hg7;injection hg7
 clear hg7
 rw [HHb.out] at hgH
 have K8:=Hold.VI K7.drew HY _hrm hgH hgB.now
 rw [HKN.out] at K8
 clear HY K7 HF hgB hgH _hrm HHb HKN
 have F8:=K8.facts
 simp only [zg] at F8
 have hpl:∀ y∈ps,y.ok∧y.on≤1000∧y.nn≤1000:=fun y hy=>by
  have h1:y.upd∈YN k v (t.l.map Rw.row):=by rw [←HPS.out.2.2.1];exact Ko hy
  unfold YN at h1
  rw [List.map_map] at h1
  obtain ⟨r,hr,he⟩:=Kt.1 h1
  have he:(r.id,r.vs,r.vs.set k v)=(y.id,y.old,y.new):=he
  simp only [Prod.mk.injEq] at he
  have h2:=(K8.ro 2 rfl).now.2 y hy
  have h3:y.old.length=y.on:=h2.1.len
  have h4:y.new.length=y.nn:=h2.2.len
  have h5:r.vs.length=r.n:=((K8.ro 6 rfl).now.2 t (by simp)).2.2 r hr|>.len
  have h6:=(HU.out.len r hr).2
  rw [←he.2.1] at h3
  rw [←he.2.2,List.length_set] at h4
  exact ⟨HPS.out.2.2.2 y hy,by omega,by omega⟩
 go_wp2_with fail
 refine (ZkA M w _ _ 0 gr oA on oc t.nm t.A t.n t.c (some ⟨tb,to_,none⟩) 3 tc t.nm t.A t.n t.c t.nx t.B t.m t.d U nu cu ps K8 rfl (K8.ro 2 rfl) hnu hpl).mono ?_
 rintro e w8 ⟨U2,nu2,cu2,ps2,rfl,hd1,hd2,hd3,hd4,K9⟩
 have HPS2:=hid (KJ hd1 (KJ hd2 (KJ (hd3.trans HPS.out.2.2.1) hd4)))
 clear K8 F8 hpl hd1 hd2 hd3 hd4
 have F9:=K9.facts
 simp only [zg] at F9
 have K10:=((K9.store 4 rfl 0 (.slice none 0 0)).store 4 rfl 1 (.slice none 0 0)).store 4 rfl 2 (.slice U2 nu2 cu2)
 simp only [zl] at K10
 have F10:=K10.facts
 simp only [zg] at F10
 clear K9
 have hT:=zK (HU.out.oks t (by simp)) ((K10.ro 7 rfl).imp fun w2 h2=>h2.2 t (by simp))
 have hC:Zad (Mut M _) [] [] (YN k v (t.l.map Rw.row)) (.agg #[.slice none 0 0,.slice none 0 0,.slice U2 nu2 cu2]) _:=⟨_,_,_,rfl,⟨none,0,0,[],rfl,Kg _,by omega,rfl,fun p hp=>(nomatch hp),fun w2 _ _=>⟨ZG 1 w2,fun r hr=>(nomatch hr)⟩⟩,⟨none,0,0,rfl,Kg _,by omega,fun w2 _ _=>ZG 1 w2⟩,⟨U2,nu2,cu2,ps2,rfl,HPS2.out.1,HPS2.out.2.1,HPS2.out.2.2.1,HPS2.out.2.2.2,K10.ro 0 rfl⟩⟩
 have hlim:=HU.out.lim t (by simp)
 have hlr:∀ r∈t.tb.rs,r.2.length≤1000000:=fun r hr=>by
  obtain ⟨y,hy,rfl⟩:=Kt.1 hr
  have h1:y.vs.length=y.n:=((K10.ro 7 rfl).now.2 t (by simp)).2.2 y hy|>.len
  have h2:=(HU.out.len y hy).2
  show y.vs.length≤1000000
  omega
 have HAP:=hid (ZjN (Mut M _) _ K10.Zb _ _ t.tb [] [] (YN k v (t.l.map Rw.row)) hT hC hlim.2.1.nm hlim.2.1.cs (by show (t.l.map Rw.row).length≤_;rw [Kj,HRM.out];have:=hlim.2.2.2;omega) hlr (by simp) (by simp) (by rw [JC,List.length_map,HRM.out];have:=hlim.2.2.2;omega))
 clear hT hC hlim hlr
 go_wp2_with fail
 refine HAP.out.mono ?_
 clear HAP
 rintro e w11 ⟨u,rfl,hap,b11⟩
 have hac:YY t.tb.nm t.tb.cs t.tb.nx t.tb.rs [] [] (YN k v (t.l.map Rw.row))=(0,Z5 k v t.tb):=ZeT (t:=t.tb) HU.out.tab HU.out.set
 rw [hac] at hap
 obtain ⟨v',rfl,hT'⟩:=hap
 obtain ⟨⟨xnm,xA,xn,xc,xcs,xnx,xB,xm,xd,xl⟩,rfl,hxt,hxo,rx⟩:=JG hT'
 have HX:=hid (KJ hxt hxo)
 have K11:=((K10.call b11).add rx).Za #[.string xnm,.slice xA xn xc,.int .i64 xnx,.slice xB xm xd] 69
 have hv:(⟨xnm,xA,xn,xc,xcs,xnx,xB,xm,xd,xl⟩:Te).val=.agg #[.string xnm,.slice xA xn xc,.int .i64 xnx,.slice xB xm xd]:=rfl
 rw [hv]
 clear hv hac hT' hxt hxo rx b11 K10 F10
 have F11:=K11.facts
 simp only [zg] at F11
 go_wp2_with fail
 refine (Jt (Mut M _) _ K11.Zb (some ⟨tb,to_,none⟩) 3 tc [p,q,t] (fun y hy=>(HU.out.lim y hy).1) (K11.ro 9 rfl) (by omega)).mono ?_
 rintro e w12 ⟨C,n4,c4,l4,rfl,hl4,hk4,ho4,hr4,b12⟩
 have hn4:n4=3:=by
  have a:=ho4.1;rw [JH] at a
  have b:=congrArg List.length hl4;simp at b
  omega
 subst hn4
 rcases Jl ho4 with ⟨-,h0,-⟩|⟨cg,rfl,-⟩
 ·omega
 have K12:=(K11.QQ b12 ho4).add (hr4.less (by intro b hb;rcases ZL.1 hb with h|h;exact .inr ⟨_,List.mem_singleton_self _,h⟩;exact .inl h))
 have HCAP:=hid (show 3≤c4∧c4≤9223372036854775807 from ⟨(ZM ho4).1,(ZM ho4).2.1⟩)
 have HL4:=hid (KJ hl4 hk4)
 obtain ⟨y2,hy2⟩:∃ y,l4[2]? =some y:=by
  have b:=congrArg List.length hl4;simp at b
  exact ⟨l4[2]'(by omega),Ky _⟩
 obtain ⟨⟨z0,z1,z2,z3⟩,⟨z4,z5,z6,z7⟩,z8⟩:=Zje ho4 hy2
 simp only [Nat.reduceMul,Nat.reduceAdd] at z0 z1 z2 z3 z4 z5 z6 z7
 have K13:=K12.Zjr 1 rfl 2 hy2 ⟨xnm,xA,xn,xc,xcs,xnx,xB,xm,xd,xl⟩
 simp only [List.set_cons_zero,List.set_cons_succ,Nat.reduceMul,Nat.reduceAdd] at K13
 have F12:=K12.facts
 simp only [zg] at F12
 have HY2:=hid hy2
 clear hl4 hk4 ho4 hr4 b12 hy2 K11 F11 K12
 go_wp2_with fail
 obtain ⟨KZ,hKZ,K14⟩:=K13.name
 have HF:Hid (∀ wv,Hold M none w wv KZ→Blk wv gr 97 #[.slice none 0 0,.slice oA on oc,.string t.nm,.slice t.A t.n t.c,.slice (some ⟨tb,to_,none⟩) 3 tc,.slice none 0 0,.slice none 0 0]):=hid fun wv HC=>by
  rw [hKZ] at HC
  exact HC.Ym 5 rfl
 have HKZ:=hid hKZ
 clear hKZ K13 F12 z0 z1 z2 z3 z4 z5 z6 z7 z8
 refine Lj (by kernel_rfl) ?_
 refine Zn 15 131 (KZ) (spL []) (by kernel_rfl) (by kernel_rfl) (by kernel_rfl) rfl ?_ (K14.drew) ?_
 ·exact Zm _
 simp only [zd,zp,List.getElem_toArray,List.getElem_cons_zero,List.getElem_cons_succ]
 repeat (refine' dv rfl rfl rfl (fun wv HC=>?_) ?_;rotate_left;(focus (have q4:=(HF.out _ HC).cell 5;have q5:=(HF.out _ HC).cell 6;have q6:=(HF.out _ HC).lt;go_simp<;>rfl;done));simp only [zp])
 refine Zk ?_
 rintro wxe HX2
 rintro _hrm _HG
 clear _hrm _HG HF K14
 rw [HKZ.out] at HX2
 have KS:=HX2.Zq 1 rfl
 simp only [zl] at KS
 have hTes:Ro _ _ (TesIn (some ⟨cg,0,none⟩) 3 (l4.set 2 ⟨xnm,xA,xn,xc,xcs,xnx,xB,xm,xd,xl⟩)):=((KS.ro 1 rfl).and ((KS.ro 0 rfl).and (KS.ro 3 rfl))).imp fun w2 h2=>⟨h2.1,fun y hy=>by
  rcases List.mem_or_eq_of_mem_set hy with hy|rfl
  ·exact h2.2.1 y hy
  ·exact h2.2.2⟩
 have HR:=hid (hTes.less zm)
 have HBL:=hid KS.below
 clear KS HX2 hTes HKZ
 go_wp2_with fail
 refine Lh (v:=.tuple #[.slice (some ⟨cg,0,none⟩) 3 c4,.slice none 0 0,.slice none 0 0,.int .i64 nu,.int .i64 0]) ?_ rfl ?_
 ·clear HR HBL
  simp [results,Tryz.results11,go_sem]
 ·refine ⟨some ⟨cg,0,none⟩,3,c4,_,by rw [HRT.out.2,←HNM.out];rfl,HCAP.out.1,HCAP.out.2,?_,fun y hy=>?_,HR.out,HBL.out⟩
  ·rw [List.map_set,HL4.out.1,HX.out.1,HRT.out.1];rfl
  ·rcases List.mem_or_eq_of_mem_set hy with hy|rfl
   ·exact HL4.out.2 y hy
   ·exact HX.out.2
end
section
open Go.RowKit
def stT (nm tab:ByteArray) (rA:Option Addr) (rn rc:Nat) (rl:List Rk) (ga:Nat) (a:Ac):Tg:=⟨nm,tab,false,2,SlP.nil,false,SlP.nil,SlP.nil,⟨rA,rn,rc,rl⟩,SlP.nil,⟨some ⟨ga,0,none⟩,1,1,[a]⟩⟩
def V9 (s:ByteArray) (l:List El):Prop:=l=[]∨∃ x,l=[x]∧x.nm=s∧x.ni=0∧x.nd=0∧0<x.nu∧x.good 100 6
def elZ:El:=⟨⟨#[]⟩,none,0,0,none,0,0,none,0,0,[],[],[]⟩
def Zd8 (w:World) (s:ByteArray) (l:List El) (e:Ending) (w' :World):Prop:=∃ x:El,e=.returned (.tuple #[.agg #[.string x.nm,.slice x.I x.ni x.ci,.slice x.D x.nd x.cd,.slice x.U x.nu x.cu],.bool (!l.isEmpty)])∧(l=[]∧x=elZ∨l=[x])∧Below w.heap.size w w'
theorem Zcy (M:Nat→Prop) (w:World) (hM:∀ b,M b→b<w.heap.size) (A:Option Addr) (n c:Nat) (l:List El) (s:ByteArray) (hD:Ro w M (ElsIn A n l)) (hl:V9 s l):Calls Tryz.prog 65 #[.slice A n c,.string s] w fun e w' =>Zd8 w s l e w' :=by
 have HLN:=hid (show l.length=n from hD.now.len)
 have K0:=((Hold.start M w hM).add (hD.less (by simp [Mut]))).alloc #[.string ⟨#[]⟩,.slice none 0 0,.slice none 0 0,.slice none 0 0] 103
 obtain ⟨g4,hg4⟩:∃ g,g=w.heap.size:=⟨_,rfl⟩
 rw [←hg4] at K0
 clear hD
 rcases hl with rfl|⟨⟨xn,I,ni,ci,D,nd,cd,U,nu,cu,li,ld,lu⟩,rfl,hxs,-⟩
 ·obtain rfl:0=n:=HLN.out
  go_enter Tryz.func65,Tryz.ntmps65
  go_wp2_with fail
  rw [←hg4]
  clear hg4
  go_loopw [10] (fun iv wr=>iv=.int .i64 0∧Hold M none w wr [.blk g4 103 #[.string ⟨#[]⟩,.slice none 0 0,.slice none 0 0,.slice none 0 0]]) (fun _ _=>0)
  case atStart=>exact ⟨rfl,K0.pick [0] (by decide) rfl⟩
  case round=>
   clear K0
   obtain ⟨rfl,H⟩:=hrel
   have KZ:=(((H.store 0 rfl 0 (.string ⟨#[]⟩)).store 0 rfl 1 (.slice none 0 0)).store 0 rfl 2 (.slice none 0 0)).store 0 rfl 3 (.slice none 0 0)
   simp only [zl] at KZ
   have F0:=H.facts
   simp only [zg] at F0
   have FZ:=KZ.facts
   simp only [zg] at FZ
   have HB:=hid KZ.below
   clear KZ H
   go_wp2_with fail
   refine Lh (v:=.tuple #[.agg #[.string ⟨#[]⟩,.slice none 0 0,.slice none 0 0,.slice none 0 0],.bool false]) ?_ rfl ?_
   ·clear HB
    simp [results,Tryz.results65,go_sem,FZ]
   ·exact ⟨elZ,rfl,.inl ⟨rfl,rfl⟩,HB.out⟩
 ·obtain rfl:1=n:=HLN.out
  obtain rfl:xn=s:=hxs
  go_enter Tryz.func65,Tryz.ntmps65
  go_wp2_with fail
  rw [←hg4]
  clear hg4
  go_loopw [10] (fun iv wr=>iv=.int .i64 0∧Hold M none w wr [.blk g4 103 #[.string ⟨#[]⟩,.slice none 0 0,.slice none 0 0,.slice none 0 0],.ro (ElsIn A 1 [⟨xn,I,ni,ci,D,nd,cd,U,nu,cu,li,ld,lu⟩])]) (fun _ _=>0)
  case atStart=>exact ⟨rfl,K0⟩
  case round=>
   clear K0
   obtain ⟨rfl,H⟩:=hrel
   obtain ⟨b,o,rfl,hb,c0,c1,c2,c3,-⟩:=(H.ro 1 rfl).now.at_ (show ([⟨xn,I,ni,ci,D,nd,cd,U,nu,cu,li,ld,lu⟩]:List El)[0]? =some _ from rfl)
   simp only [Nat.zero_mul,Nat.add_zero] at c0 c1 c2 c3
   have K1:=H.Za #[.string xn,.slice I ni ci,.slice D nd cd,.slice U nu cu] 103
   have KZ:=(((K1.store 1 rfl 0 (.string xn)).store 1 rfl 1 (.slice I ni ci)).store 1 rfl 2 (.slice D nd cd)).store 1 rfl 3 (.slice U nu cu)
   simp only [zl] at KZ
   have F1:=K1.facts
   simp only [zg] at F1
   have FZ:=KZ.facts
   simp only [zg] at FZ
   have HB:=hid KZ.below
   clear KZ K1 H
   go_wp2_with fail
   refine Lh (v:=.tuple #[.agg #[.string xn,.slice I ni ci,.slice D nd cd,.slice U nu cu],.bool true]) ?_ rfl ?_
   ·clear HB
    simp [results,Tryz.results65,go_sem,FZ]
   ·exact ⟨⟨xn,I,ni,ci,D,nd,cd,U,nu,cu,li,ld,lu⟩,rfl,.inr rfl,HB.out⟩
theorem ZkK (M:Nat→Prop) (w:World) (hM:∀ b,M b→b<w.heap.size) (d:Nat) (A:Option Addr) (c:Nat) (nm tab:ByteArray) (rA:Option Addr) (rn rc:Nat) (rl:List Rk) (ga:Nat) (a:Ac) (hD:Ro w M (TgsIn d A 1 [stT nm tab rA rn rc rl ga a])):Calls Tryz.prog 104 #[.slice A 1 c,.string nm] w fun e w' =>e=.returned (.tuple #[(stT nm tab rA rn rc rl ga a).val,.bool true])∧Below w.heap.size w w' :=by
 have K0:=((Hold.start M w hM).add (hD.less (by simp [Mut]))).alloc #[.string ⟨#[]⟩,.string ⟨#[]⟩,.bool false,.int .i64 0,.slice none 0 0,.bool false,.slice none 0 0,.slice none 0 0,.slice none 0 0,.slice none 0 0,.slice none 0 0] 48
 obtain ⟨g4,hg4⟩:∃ g,g=w.heap.size:=⟨_,rfl⟩
 rw [←hg4] at K0
 clear hD
 go_enter Tryz.func104,Tryz.ntmps104
 go_wp2_with fail
 rw [←hg4]
 clear hg4
 go_loopw [10] (fun iv wr=>iv=.int .i64 0∧Hold M none w wr [.blk g4 48 #[.string ⟨#[]⟩,.string ⟨#[]⟩,.bool false,.int .i64 0,.slice none 0 0,.bool false,.slice none 0 0,.slice none 0 0,.slice none 0 0,.slice none 0 0,.slice none 0 0],.ro (TgsIn d A 1 [stT nm tab rA rn rc rl ga a])]) (fun _ _=>0)
 case atStart=>exact ⟨rfl,K0⟩
 case round=>
  clear K0
  obtain ⟨rfl,H⟩:=hrel
  obtain ⟨b,o,rfl,hb,hc,-⟩:=(H.ro 1 rfl).now.at_ (show ([stT nm tab rA rn rc rl ga a]:List Tg)[0]? =some _ from rfl)
  have x0:=hc 0 _ (by omega) rfl
  have x1:=hc 1 _ (by omega) rfl
  have x2:=hc 2 _ (by omega) rfl
  have x3:=hc 3 _ (by omega) rfl
  have x4:=hc 4 _ (by omega) rfl
  have x5:=hc 5 _ (by omega) rfl
  have x6:=hc 6 _ (by omega) rfl
  have x7:=hc 7 _ (by omega) rfl
  have x8:=hc 8 _ (by omega) rfl
  have x9:=hc 9 _ (by omega) rfl
  have x10:=hc 10 _ (by omega) rfl
  simp only [Nat.zero_mul,Nat.add_zero,stT,SlP.v,SlP.nil] at x0 x1 x2 x3 x4 x5 x6 x7 x8 x9 x10
  clear hc
  have K1:=H.Za #[.string nm,.string tab,.bool false,.int .i64 2,.slice none 0 0,.bool false,.slice none 0 0,.slice none 0 0,.slice rA rn rc,.slice none 0 0,.slice (some ⟨ga,0,none⟩) 1 1] 48
  have KZ:=((((((((((K1.store 1 rfl 0 (.string nm)).store 1 rfl 1 (.string tab)).store 1 rfl 2 (.bool false)).store 1 rfl 3 (.int .i64 2)).store 1 rfl 4 (.slice none 0 0)).store 1 rfl 5 (.bool false)).store 1 rfl 6 (.slice none 0 0)).store 1 rfl 7 (.slice none 0 0)).store 1 rfl 8 (.slice rA rn rc)).store 1 rfl 9 (.slice none 0 0)).store 1 rfl 10 (.slice (some ⟨ga,0,none⟩) 1 1)
  simp only [zl] at KZ
  have F1:=K1.facts
  simp only [zg] at F1
  have FZ:=KZ.facts
  simp only [zg] at FZ
  have HB:=hid KZ.below
  clear KZ K1 H
  go_wp2_with fail
  refine Lh (v:=.tuple #[.agg #[.string nm,.string tab,.bool false,.int .i64 2,.slice none 0 0,.bool false,.slice none 0 0,.slice none 0 0,.slice rA rn rc,.slice none 0 0,.slice (some ⟨ga,0,none⟩) 1 1],.bool true]) ?_ rfl ?_
  ·clear HB
   simp [results,Tryz.results104,go_sem,FZ]
  ·exact ⟨rfl,HB.out⟩
def Zaj (w:World) (M:Nat→Prop) (nm:ByteArray) (l:List El) (e:Ending) (w' :World):Prop:=∃ (A:Option Addr) (c:Nat),e=.returned (.slice A (if l=[] then 0 else 1) c)∧(if l=[] then 0 else 1)≤c∧c≤9223372036854775807∧Ro w' M (SlR 4 A (if l=[] then 0 else 1) (if l=[] then [] else [.string nm,.int .i64 0,.slice none 0 0,.slice none 0 0]))∧Below w.heap.size w w'
theorem Zb5 (cl:List Col) (ins del:List Row) (upd:List Upd):Yn 2 [] cl ins del upd=([],[],upd):=by
 have h:∀ u:Upd,Xp [] cl u=true:=fun u=>rfl
 simp [Yn,h]
theorem Zkg (M:Nat→Prop) (w:World) (hM:∀ b,M b→b<w.heap.size) (d:Nat) (gA:Option Addr) (gc:Nat) (nm tab:ByteArray) (rA:Option Addr) (rn rc:Nat) (rl:List Rk) (ga:Nat) (a:Ac) (tA:Option Addr) (tc:Nat) (p q u:Te) (A:Option Addr) (n c:Nat) (l:List El)
  (hG:Ro w M (TgsIn d gA 1 [stT nm tab rA rn rc rl ga a])) (hT:Ro w M (TesIn tA 3 [p,q,u])) (hD:Ro w M (ElsIn A n l)) (hl:V9 tab l) (hnm:p.nm≠tab∧q.nm≠tab∧u.nm=tab) (hb:∀ y∈[p,q,u],y.n≤1000):Calls Tryz.prog 33 #[.slice gA 1 gc,.slice tA 3 tc,.slice A n c] w fun e w' =>Zaj w M nm l e w' :=by
 have HL:=hid hl
 have HNM:=hid hnm
 have HB:=hid hb
 have K0:=((((Hold.start M w hM).add (hD.less (by simp [Mut]))).add (hT.less (by simp [Mut,Hp.foot]))).add (hG.less (by simp [Mut,Hp.foot]))).nil 157 4
 obtain ⟨NI,hNI⟩:∃ NI:Nat,NI=(if l=[] then 0 else 1):=⟨_,rfl⟩
 obtain ⟨CI,hCI⟩:∃ CI:List Value,CI=(if l=[] then [] else [.string nm,.int .i64 0,.slice none 0 0,.slice none 0 0]):=⟨_,rfl⟩
 have HNI:=hid (KJ hNI hCI)
 clear hD hT hG hl hnm hb
 unfold Zaj
 rw [←hNI,←hCI]
 clear hNI hCI
 go_enter Tryz.func33,Tryz.ntmps33
 go_wp2_with fail
 go_loopw [7,23] (fun ov iv wr=>∃ (j k cap:Nat) (O:Option Addr) (zs:List Value),j≤1∧iv=.int .i64 j∧ov=.slice O k cap∧Hid ((j=0→k=0∧zs=[])∧(j=1→k=NI∧zs=CI))∧Hold M none w wr [.own 157 4 (.slice O k cap) k zs,.ro (TgsIn d gA 1 [stT nm tab rA rn rc rl ga a]),.ro (TesIn tA 3 [p,q,u]),.ro (ElsIn A n l)]) (fun _ iv _=>1 - (intOf iv).toNat)
 case atStart=>exact ⟨0,0,0,none,[],by omega,rfl,rfl,hid ⟨fun _=>⟨rfl,rfl⟩,fun h=>absurd h (by decide)⟩,K0⟩
 case round=>
  clear K0
  obtain ⟨j,k,cap,O,zs,hj,rfl,rfl,HZ,H⟩:=hrel
  obtain rfl|rfl:j=0∨j=1:=by omega
  ·obtain ⟨rfl,rfl⟩:=HZ.out.1 rfl
   obtain ⟨b,o,rfl,hb,hc,-⟩:=(H.ro 1 rfl).now.at_ (show ([stT nm tab rA rn rc rl ga a]:List Tg)[0]? =some _ from rfl)
   have x0:=hc 0 _ (by omega) rfl
   have x1:=hc 1 _ (by omega) rfl
   have x2:=hc 2 _ (by omega) rfl
   have x3:=hc 3 _ (by omega) rfl
   have x4:=hc 4 _ (by omega) rfl
   have x5:=hc 5 _ (by omega) rfl
   have x6:=hc 6 _ (by omega) rfl
   have x7:=hc 7 _ (by omega) rfl
   have x8:=hc 8 _ (by omega) rfl
   have x9:=hc 9 _ (by omega) rfl
   have x10:=hc 10 _ (by omega) rfl
   simp only [Nat.zero_mul,Nat.add_zero,stT,SlP.v,SlP.nil] at x0 x1 x2 x3 x4 x5 x6 x7 x8 x9 x10
   clear hc HZ
   have K1:=H.Za #[.string nm,.string tab,.bool false,.int .i64 2,.slice none 0 0,.bool false,.slice none 0 0,.slice none 0 0,.slice rA rn rc,.slice none 0 0,.slice (some ⟨ga,0,none⟩) 1 1] 48
   obtain ⟨g9,hg9⟩:∃ g,g=wr.heap.size:=⟨_,rfl⟩
   rw [←hg9] at K1
   have F1:=K1.facts
   simp only [zg] at F1
   rw [hg9] at F1
   clear H
   go_upto_region 5 with fail
   rw [←hg9] at F1 ⊢
   clear hg9 x0 x1 x2 x3 x4 x5 x6 x7 x8 x9 x10 hb
   generalize World.alloc _ _=w1 at K1 F1 ⊢
   go_wp2_with fail
   refine (ZcQ (Mut M _) _ K1.Zb tA 3 tc [p,q,u] tab (K1.ro 3 rfl) (by omega) HB.out).mono ?_
   rintro e w2 ⟨⟨snm,⟨cA,cn,cc,cl⟩⟩,ok,rfl,hsn,-,hsf,rs,b2⟩
   have hfu:[p,q,u].find? (Y8 tab)=some u:=by
    have h1:Y8 tab p=false:=decide_eq_false HNM.out.1
    have h2:Y8 tab q=false:=decide_eq_false HNM.out.2.1
    have h3:Y8 tab u=true:=decide_eq_true HNM.out.2.2
    simp [h1,h2,h3]
   have hsn:cn≤1000:=hsn
   obtain rfl:ok=true:=by
    rcases hsf with ⟨h1,h2⟩|⟨y,h1,h2,-⟩
    ·rw [hfu] at h1;cases h1
    ·exact h2
   have K2:=((K1.call b2).add rs).Za #[.string snm,.slice cA cn cc] 66
   clear K1 F1 b2 rs hsf hfu
   have F2:=K2.facts
   simp only [zg] at F2
   go_wp2_with fail
   refine (Zcy (Mut M _) _ K2.Zb A n c l tab (K2.ro 6 rfl) HL.out).mono ?_
   rintro e w3 ⟨⟨xn,I,ni,ci,D,nd,cd,U,nu,cu,li,ld,lu⟩,rfl,hfx,b3⟩
   have K3:=(K2.call b3).Za #[.string xn,.slice I ni ci,.slice D nd cd,.slice U nu cu] 103
   clear K2 F2 b3
   have F3:=K3.facts
   simp only [zg] at F3
   rcases hfx with ⟨rfl,-⟩|rfl
   ·have HNI2:=hid (show NI=0∧CI=[] from ⟨HNI.out.1.trans rfl,HNI.out.2.trans rfl⟩)
    go_wp2_with fail
    go_roundw
    case rel=>exact ⟨1,0,cap,O,[],by omega,by go_num,rfl,hid ⟨fun h=>absurd h (by decide),fun _=>⟨HNI2.out.1.symm,HNI2.out.2.symm⟩⟩,K3.pick [4,5,6,7] (by decide) rfl⟩
    case measure=>simp [intOf]
   ·have HNI2:=hid (show NI=1∧CI=[.string nm,.int .i64 0,.slice none 0 0,.slice none 0 0] from ⟨HNI.out.1.trans rfl,HNI.out.2.trans rfl⟩)
    obtain ⟨rfl,rfl,hnu,hgd⟩:ni=0∧nd=0∧0<nu∧El.good ⟨xn,I,ni,ci,D,nd,cd,U,nu,cu,li,ld,lu⟩ 100 6:=by
     rcases HL.out with h|⟨y,h,-,h1,h2,h3,h4⟩
     ·cases h
     ·injection h with h;subst h;exact ⟨h1,h2,h3,h4⟩
    have hnu2:nu≤100:=hgd.u
    have HGD:=hid hgd
    have rE:=(K3.ro 7 rfl).imp fun w2 h2=>h2.2 (⟨xn,I,0,ci,D,0,cd,U,nu,cu,li,ld,lu⟩:El) Kl
    have HLU:=hid (show lu.length=nu from rE.now.2.2.len)
    go_wp2_with fail
    refine (ZcI (Mut M _) _ K3.Zb (stT nm tab rA rn rc rl ga a) snm cA cn cc cl xn I 0 ci li D 0 cd ld U nu cu lu (fun w2 _ _=>ZG 1 w2) ((K3.ro 2 rfl).imp fun w2 h2=>h2.1) (rE.imp fun w2 h2=>h2.1) (rE.imp fun w2 h2=>h2.2.1) (rE.imp fun w2 h2=>h2.2.2) (by simp [stT,SlP.nil]) hsn (by omega) (by omega) (by omega) ⟨HGD.out.li,HGD.out.ld⟩ HGD.out.lu).mono ?_
    rintro e w4 ⟨I2,ni2,ci2,li2,D2,nd2,cd2,ld2,U2,nu2,cu2,lu2,rfl,hmd,hi1,hd1,hu1,r1,r2,r3,b4⟩
    have hmd2:(li2.map Rw.row,ld2.map Rw.row,lu2.map Pr.upd)=(([]:List Row),([]:List Row),lu.map Pr.upd):=hmd.trans (Zb5 cl _ _ _)
    simp only [Prod.mk.injEq,List.map_eq_nil_iff] at hmd2
    obtain ⟨rfl,rfl,hmd3⟩:=hmd2
    obtain rfl:0=ni2:=r1.now.len
    obtain rfl:0=nd2:=r2.now.len
    have hnu3:nu2=nu:=by
     have h1:lu2.length=nu2:=r3.now.len
     have h2:lu.length=nu:=HLU.out
     have h3:=congrArg List.length hmd3
     simp only [List.length_map] at h3
     omega
    subst hnu3
    have K4:=(K3.call b4).Za #[.string xn,.slice I2 0 ci2,.slice D2 0 cd2,.slice U2 nu2 cu2] 103
    clear K3 F3 b4 r1 r2 r3 rE hmd hmd3 hi1 hd1 hu1 hgd
    have F4:=K4.facts
    simp only [zg] at F4
    have hw1:IntKind.i64.wrap (nu2:Int)=nu2:=IntWalk.i64_in _ (by omega)
    have hd1:decide ((nu2:Int) > 0)=true:=by simp;omega
    have hd2:decide (0<nu2)=true:=by simp;omega
    go_wp2_with (at_builtin;go_must (refine ZJ K4 5 rfl Tryz.WK #[.string nm,.int .i64 0,.slice none 0 0,.slice none 0 0] rfl (.tmp 70) (.tmp 74) rfl rfl _ (by first|rfl|simp) rfl rfl (by intro u hu;simp at hu;rcases hu with rfl|rfl|rfl<;>rfl) (by omega) (by omega) ?_);intro gA1 capA wA hcA hmA KA;simp only [List.set_cons_zero,List.set_cons_succ,List.nil_append] at KA)
    go_roundw
    case rel=>exact ⟨1,1,capA,_,_,by omega,by go_num,by first|rfl|trivial,hid ⟨fun h=>absurd h (by decide),fun _=>⟨HNI2.out.1.symm,by rw [HNI2.out.2]⟩⟩,KA.pick [5,6,7,8] (by decide) rfl⟩
    case measure=>simp [intOf]
  ·obtain ⟨rfl,rfl⟩:=HZ.out.2 rfl
   have hcap:=ZM (H.get 0 rfl)
   have HCAP:=hid (KJ hcap.1 hcap.2.1)
   have KS:=H.Zq 0 rfl
   simp only [List.set_cons_zero] at KS
   have HR:=hid ((KS.ro 0 rfl).less zm)
   have HBL:=hid KS.below
   clear KS H hcap
   go_wp2_with fail
   go_ret
   exact ⟨O,cap,rfl,HCAP.out.1,HCAP.out.2,HR.out,HBL.out⟩
end
end Go.Proofs.YtnmnkbnmollpmaaGreatDoor

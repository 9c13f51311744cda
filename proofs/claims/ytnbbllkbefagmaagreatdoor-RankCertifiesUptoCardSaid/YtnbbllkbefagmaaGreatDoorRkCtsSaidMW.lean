import Derived.Test.YtnbbllkbefagmaaGreatDoorRkCtsSaidMV
import Derived.Test.YtnbbllkbefagmaaGreatDoorRkCtsSaidMG
import Derived.Test.YtnbbllkbefagmaaGreatDoorRkCtsSaidMK
import Derived.Test.YtnbbllkbefagmaaGreatDoorRkCtsSaidMD
import Derived.WalkSpells
import Derived.Deep.QuietTactic
import Derived.BigQuiet
import Derived.WalkLawsBesides
import Derived.StillTailTactics
import Derived.Deep.LoopGhost
import Derived.IntWalk
import Derived.WideShapes
namespace Go.Proofs.YtnbbllkbefagmaaGreatDoor
open Go.RowKit
set_option linter.unusedVariables false
set_option linter.unusedSimpArgs false
def nm3 (k:Nat):ByteArray:=if k=0 then XX else if k=1 then nmT else nmU
def cs3 (k:Nat):List Col:=if k=0 then Ym else if k=1 then Yl else Yb
structure Sto3 (N k:Nat) (outs:List Te):Prop where
 len:outs.length=k
 ok:∀ x∈outs,x.ok∧VTab x.tb∧x.tb.rs.length≤N
 at_:∀ (j:Nat) (x:Te),outs[j]? =some x→x.tb.nm=nm3 j∧x.tb.cs=cs3 j
theorem Sto3.zero (N:Nat):Sto3 N 0 []:=⟨rfl,fun x hx=>(nomatch hx),fun j x h=>by simp at h⟩
theorem Sto3.next {N k:Nat} {outs:List Te} {y:Te} (h:Sto3 N k outs) (h1:y.ok) (h2:VTab y.tb) (h3:y.tb.rs.length≤N) (h4:y.tb.nm=nm3 k) (h5:y.tb.cs=cs3 k):Sto3 N (k+1) (outs++[y]):=by
 refine ⟨by simp [h.len],fun x hx=>?_,fun j x hx=>?_⟩
 ·rcases List.mem_append.1 hx with hx|hx
  ·exact h.ok x hx
  ·simp at hx;subst hx;exact ⟨h1,h2,h3⟩
 ·rw [List.getElem?_append] at hx
  split at hx
  ·exact h.at_ j x hx
  ·rename_i hj
   have hk:=h.len
   obtain rfl:j=k:=by
    have:=(List.getElem?_eq_some_iff.1 hx).1
    simp at this;omega
   rw [hk] at hx
   simp at hx
   subst hx
   exact ⟨h4,h5⟩
def ZeB (w:World) (T:Nat) (M:Nat→Prop) (N:Nat) (e:Ending) (w' :World):Prop:=
 ∃ (A:Option Addr) (c:Nat) (l:List Te),e=.returned (.slice A 3 c)∧3≤c∧c≤9223372036854775807∧Sto3 N 3 l∧Ro w' M (TesIn A 3 l)∧Tp w' T∧w.grownBy w' (some T)
set_option maxHeartbeats 8000000 in
set_option maxRecDepth 100000 in
theorem Zdt (M:Nat→Prop) (T:Nat) (w:World) (hM:∀ b,M b→b<w.heap.size) (ht:Tp w T) (hMT:∀ b,M b→T≤b) (N:Nat) (hN:N≤50) (hW:Ro w (Mut M [.tp T]) Wds) (hw:1<T):
  Calls Tryz.prog 22 #[.pointer (some ⟨T,0,none⟩),.int .i64 N] w fun e w' =>ZeB w T M N e w' :=by
 have K0:=(Hold.YY M w T hM ht hMT).add hW
 clear hW
 go_enter Tryz.func22,Tryz.ntmps22
 go_wp2_with fail
 refine (U4 _ _ K0.Zc).mono ?_
 rintro e w1 ⟨g,g0,g1,g2,nl,nt,nu,hnl,hnt,hnu,rfl,b1,r0,r1,r2,r3⟩
 have HNL:=hid (And.intro hnl (And.intro hnt hnu))
 have K1:=((((((K0.call b1).add r3).add (r2.less (by simp [Mut,Hp.foot]))).add (r1.less (by simp [Mut,Hp.foot]))).add (r0.less (by simp [Mut,Hp.foot]))).add (Zdp _ _)).nil 67 4
 clear K0 b1 r0 r1 r2 r3 hnl hnt hnu
 go_wp2_with fail
 go_loopw [5,10] (fun ov iv wr=>∃ (k cap:Nat) (O:Option Addr) (outs:List Te),k≤3∧iv=.int .i64 k∧ov=.slice O k cap∧Hid (Sto3 N k outs)∧Hold M (some T) w wr [.own 67 4 (.slice O k cap) k (ZI outs),.ro (UO outs),.ro (fun w=>w.heap[g]? =some (.cells #[.string nl,.slice (some ⟨g0,0,none⟩) 2 2,.string nt,.slice (some ⟨g1,0,none⟩) 4 4,.string nu,.slice (some ⟨g2,0,none⟩) 3 3] 49 (0,0))),.ro (ColsIn (some ⟨g0,0,none⟩) 2 Ym),.ro (ColsIn (some ⟨g1,0,none⟩) 4 Yl),.ro (ColsIn (some ⟨g2,0,none⟩) 3 Yb),.ro Wds,.tp T]) (fun _ iv _=>3 - (intOf iv).toNat)
 case atStart=>exact ⟨0,0,none,[],by omega,rfl,rfl,hid (Sto3.zero N),K1⟩
 case round=>
  clear K1
  obtain ⟨k,cap,O,outs,hk,rfl,rfl,HS,H⟩:=hrel
  by_cases hlt:k<3
  ·have hd:decide ((k:Int)<3)=true:=by simp;omega
   have hblk:=(H.ro 2 rfl).now
   have hgl:=Blk.lt hblk
   obtain rfl|rfl|rfl:k=0∨k=1∨k=2:=by omega
   ·have c0:=cell_of_row _ _ 0 _ _ _ hblk
    have c1:=cell_of_row _ _ 1 _ _ _ hblk
    clear hblk
    have K1:=H.Za #[.string nl,.slice (some ⟨g0,0,none⟩) 2 2] 49
    have F1:=K1.facts
    simp only [zg] at F1
    clear H
    go_wp2_with fail
    refine (QU (Mut M _) T _ K1.Zc (K1.tp_ 8 rfl) (K1.get 8 rfl).2 nl (some ⟨g0,0,none⟩) 2 2 Ym N ((K1.ro 4 rfl).less (XA (i:=8) rfl)) (by omega) (by omega) (by rw [HNL.out.1];exact Vi (by decide+kernel)) ((K1.ro 7 rfl).less (XA (i:=8) rfl)) hw hN).mono ?_
    rintro e w5 ⟨v,t,rfl,hT,hv,hn1,hc1,hr1,t5,g5⟩
    obtain ⟨y,rfl,hy,hyo,ry⟩:=Jd hT
    have hyv:y.val=.agg #[.string y.nm,.slice y.A y.n y.c,.int .i64 y.nx,.slice y.B y.m y.d]:=rfl
    rw [hyv]
    clear hyv
    have K2:=(Hold.Zf K1 8 rfl g5 t5).add ry
    have HY:=hid (show y.ok∧VTab y.tb∧y.tb.rs.length≤N∧y.tb.nm=nl∧y.tb.cs=Ym from ⟨hyo,by rw [hy];exact hv,by rw [hy];exact hr1,by rw [hy];exact hn1,by rw [hy];exact hc1⟩)
    clear K1 F1 hT hv hn1 hc1 hr1 t5 g5 hy hyo ry
    go_wp2_with (at_builtin;go_must (refine Zx K2 2 rfl Tryz.WK #[.string y.nm,.slice y.A y.n y.c,.int .i64 y.nx,.slice y.B y.m y.d] rfl (.tmp 14) (.tmp 19) rfl rfl _ (by first|rfl|simp) rfl rfl (by intro u hu;simp at hu;rcases hu with rfl|rfl|rfl|rfl<;>rfl) (by omega) (by omega) ?_);intro g9 cap9 w9 hc9 hm9 KB;simp only [zl] at KB)
    have e9:ZI outs++(#[.string y.nm,.slice y.A y.n y.c,.int .i64 y.nx,.slice y.B y.m y.d]).toList=ZI (outs++[y]):=(VB outs y).symm
    rw [e9] at KB
    have KC:=(KB.WL 3 rfl (Q5 (r:=y) (KB.ro 3 rfl) (KB.ro 0 rfl))).drop (List.Sublist.cons _ (List.sublist_cons_self _ _))
    have HS2:=hid (HS.out.next HY.out.1 HY.out.2.1 HY.out.2.2.1 (show y.tb.nm=nm3 0 from HY.out.2.2.2.1.trans HNL.out.1) (show y.tb.cs=cs3 0 from HY.out.2.2.2.2))
    go_roundw
    case rel=>exact ⟨1,cap9,_,_,by omega,by go_num,by first|rfl|trivial,HS2,KC⟩
    case measure=>simp [intOf]
   ·have c0:=cell_of_row _ _ 2 _ _ _ hblk
    have c1:=cell_of_row _ _ 3 _ _ _ hblk
    clear hblk
    have K1:=H.Za #[.string nt,.slice (some ⟨g1,0,none⟩) 4 4] 49
    have F1:=K1.facts
    simp only [zg] at F1
    clear H
    go_wp2_with fail
    refine (QU (Mut M _) T _ K1.Zc (K1.tp_ 8 rfl) (K1.get 8 rfl).2 nt (some ⟨g1,0,none⟩) 4 4 Yl N ((K1.ro 5 rfl).less (XA (i:=8) rfl)) (by omega) (by omega) (by rw [HNL.out.2.1];exact Vi (by decide+kernel)) ((K1.ro 7 rfl).less (XA (i:=8) rfl)) hw hN).mono ?_
    rintro e w5 ⟨v,t,rfl,hT,hv,hn1,hc1,hr1,t5,g5⟩
    obtain ⟨y,rfl,hy,hyo,ry⟩:=Jd hT
    have hyv:y.val=.agg #[.string y.nm,.slice y.A y.n y.c,.int .i64 y.nx,.slice y.B y.m y.d]:=rfl
    rw [hyv]
    clear hyv
    have K2:=(Hold.Zf K1 8 rfl g5 t5).add ry
    have HY:=hid (show y.ok∧VTab y.tb∧y.tb.rs.length≤N∧y.tb.nm=nt∧y.tb.cs=Yl from ⟨hyo,by rw [hy];exact hv,by rw [hy];exact hr1,by rw [hy];exact hn1,by rw [hy];exact hc1⟩)
    clear K1 F1 hT hv hn1 hc1 hr1 t5 g5 hy hyo ry
    go_wp2_with (at_builtin;go_must (refine Zx K2 2 rfl Tryz.WK #[.string y.nm,.slice y.A y.n y.c,.int .i64 y.nx,.slice y.B y.m y.d] rfl (.tmp 14) (.tmp 19) rfl rfl _ (by first|rfl|simp) rfl rfl (by intro u hu;simp at hu;rcases hu with rfl|rfl|rfl|rfl<;>rfl) (by omega) (by omega) ?_);intro g9 cap9 w9 hc9 hm9 KB;simp only [zl] at KB)
    have e9:ZI outs++(#[.string y.nm,.slice y.A y.n y.c,.int .i64 y.nx,.slice y.B y.m y.d]).toList=ZI (outs++[y]):=(VB outs y).symm
    rw [e9] at KB
    have KC:=(KB.WL 3 rfl (Q5 (r:=y) (KB.ro 3 rfl) (KB.ro 0 rfl))).drop (List.Sublist.cons _ (List.sublist_cons_self _ _))
    have HS2:=hid (HS.out.next HY.out.1 HY.out.2.1 HY.out.2.2.1 (show y.tb.nm=nm3 1 from HY.out.2.2.2.1.trans HNL.out.2.1) (show y.tb.cs=cs3 1 from HY.out.2.2.2.2))
    go_roundw
    case rel=>exact ⟨2,cap9,_,_,by omega,by go_num,by first|rfl|trivial,HS2,KC⟩
    case measure=>simp [intOf]
   ·have c0:=cell_of_row _ _ 4 _ _ _ hblk
    have c1:=cell_of_row _ _ 5 _ _ _ hblk
    clear hblk
    have K1:=H.Za #[.string nu,.slice (some ⟨g2,0,none⟩) 3 3] 49
    have F1:=K1.facts
    simp only [zg] at F1
    clear H
    go_wp2_with fail
    refine (QU (Mut M _) T _ K1.Zc (K1.tp_ 8 rfl) (K1.get 8 rfl).2 nu (some ⟨g2,0,none⟩) 3 3 Yb N ((K1.ro 6 rfl).less (XA (i:=8) rfl)) (by omega) (by omega) (by rw [HNL.out.2.2];exact Vi (by decide+kernel)) ((K1.ro 7 rfl).less (XA (i:=8) rfl)) hw hN).mono ?_
    rintro e w5 ⟨v,t,rfl,hT,hv,hn1,hc1,hr1,t5,g5⟩
    obtain ⟨y,rfl,hy,hyo,ry⟩:=Jd hT
    have hyv:y.val=.agg #[.string y.nm,.slice y.A y.n y.c,.int .i64 y.nx,.slice y.B y.m y.d]:=rfl
    rw [hyv]
    clear hyv
    have K2:=(Hold.Zf K1 8 rfl g5 t5).add ry
    have HY:=hid (show y.ok∧VTab y.tb∧y.tb.rs.length≤N∧y.tb.nm=nu∧y.tb.cs=Yb from ⟨hyo,by rw [hy];exact hv,by rw [hy];exact hr1,by rw [hy];exact hn1,by rw [hy];exact hc1⟩)
    clear K1 F1 hT hv hn1 hc1 hr1 t5 g5 hy hyo ry
    go_wp2_with (at_builtin;go_must (refine Zx K2 2 rfl Tryz.WK #[.string y.nm,.slice y.A y.n y.c,.int .i64 y.nx,.slice y.B y.m y.d] rfl (.tmp 14) (.tmp 19) rfl rfl _ (by first|rfl|simp) rfl rfl (by intro u hu;simp at hu;rcases hu with rfl|rfl|rfl|rfl<;>rfl) (by omega) (by omega) ?_);intro g9 cap9 w9 hc9 hm9 KB;simp only [zl] at KB)
    have e9:ZI outs++(#[.string y.nm,.slice y.A y.n y.c,.int .i64 y.nx,.slice y.B y.m y.d]).toList=ZI (outs++[y]):=(VB outs y).symm
    rw [e9] at KB
    have KC:=(KB.WL 3 rfl (Q5 (r:=y) (KB.ro 3 rfl) (KB.ro 0 rfl))).drop (List.Sublist.cons _ (List.sublist_cons_self _ _))
    have HS2:=hid (HS.out.next HY.out.1 HY.out.2.1 HY.out.2.2.1 (show y.tb.nm=nm3 2 from HY.out.2.2.2.1.trans HNL.out.2.2) (show y.tb.cs=cs3 2 from HY.out.2.2.2.2))
    go_roundw
    case rel=>exact ⟨3,cap9,_,_,by omega,by go_num,by first|rfl|trivial,HS2,KC⟩
    case measure=>simp [intOf]
  ·obtain rfl:k=3:=by omega
   have hd:decide (((3:Nat):Int)<3)=false:=by decide
   have hcap:=Yx (H.get 0 rfl)
   have KS:=H.ZC 0 rfl
   simp only [List.set_cons_zero] at KS
   have r1:=(KS.YM 0 rfl).and (KS.YM 1 rfl)
   have ht9:=KS.tp_ 7 rfl
   have HG:=hid KS.grow
   clear H
   go_wp2_with fail
   go_ret
   exact ⟨O,cap,outs,rfl,hcap.1,hcap.2.1,HS.out,r1,ht9,HG.out⟩
theorem Qm:SchOk XX Ym:=Vi (by decide+kernel)
theorem QG:SchOk nmT Yl:=Vi (by decide+kernel)
theorem Jc:SchOk nmU Yb:=Vi (by decide+kernel)
def V8 (l:List Te) (w:World):Prop:=∀ x∈l,XH x w
def ZgE (w:World) (M:Nat→Prop) (e:Ending) (w' :World):Prop:=∃ (A:Option Addr) (c:Nat) (l:List Te),e=.returned (.slice A 3 c)∧(∀ x∈l,1≤x.n∧x.n≤4)∧Ro w' M (TesIn A 3 l)∧Below w.heap.size w w'
set_option maxHeartbeats 8000000 in
set_option maxRecDepth 100000 in
theorem ZdQ (M:Nat→Prop) (w:World) (hM:∀ b,M b→b<w.heap.size):Calls Tryz.prog 45 #[.slice none 0 0] w fun e w' =>ZgE w M e w' :=by
 have K0:=Hold.start M w hM
 go_enter Tryz.func45,Tryz.ntmps45
 go_wp2_with fail
 refine (U4 _ _ K0.Zc).mono ?_
 rintro e w1 ⟨g,g0,g1,g2,nl,nt,nu,hnl,hnt,hnu,rfl,b1,r0,r1,r2,r3⟩
 have HNL:=hid (And.intro hnl (And.intro hnt hnu))
 have K1:=((((((K0.call b1).add r3).add (r2.less (by simp [Mut,Hp.foot]))).add (r1.less (by simp [Mut,Hp.foot]))).add (r0.less (by simp [Mut,Hp.foot]))).add (S:=V8 []) (fun w2 _ _ x hx=>(nomatch hx))).nil 67 4
 clear K0 b1 r0 r1 r2 r3 hnl hnt hnu
 go_wp2_with fail
 go_loopw [3,14] (fun ov iv wr=>∃ (k cap:Nat) (O:Option Addr) (outs:List Te),k≤3∧outs.length=k∧iv=.int .i64 k∧ov=.slice O k cap∧Hid (∀ x∈outs,1≤x.n∧x.n≤4)∧Hold M none w wr [.own 67 4 (.slice O k cap) k (ZI outs),.ro (V8 outs),.ro (fun w=>w.heap[g]? =some (.cells #[.string nl,.slice (some ⟨g0,0,none⟩) 2 2,.string nt,.slice (some ⟨g1,0,none⟩) 4 4,.string nu,.slice (some ⟨g2,0,none⟩) 3 3] 49 (0,0))),.ro (ColsIn (some ⟨g0,0,none⟩) 2 Ym),.ro (ColsIn (some ⟨g1,0,none⟩) 4 Yl),.ro (ColsIn (some ⟨g2,0,none⟩) 3 Yb)]) (fun _ iv _=>3 - (intOf iv).toNat)
 case atStart=>exact ⟨0,0,none,[],by omega,rfl,rfl,rfl,hid (fun x hx=>(nomatch hx)),K1⟩
 case round=>
  clear K1
  obtain ⟨k,cap,O,outs,hk,hol,rfl,rfl,HS,H⟩:=hrel
  by_cases hlt:k<3
  ·have hd:decide ((k:Int)<3)=true:=by simp;omega
   have hblk:=(H.ro 2 rfl).now
   have hgl:=Blk.lt hblk
   obtain rfl|rfl|rfl:k=0∨k=1∨k=2:=by omega
   ·have c0:=cell_of_row _ _ 0 _ _ _ hblk
    have c1:=cell_of_row _ _ 1 _ _ _ hblk
    clear hblk
    have K1:=H.Za #[.string nl,.slice (some ⟨g0,0,none⟩) 2 2] 49
    have F1:=K1.facts
    simp only [zg] at F1
    clear H
    go_wp2_with fail
    clear F1
    refine (Qk (Mut M _) _ K1.Zc nl (some ⟨g0,0,none⟩) 2 2 Ym (K1.ro 4 rfl) (by omega) (by rw [HNL.out.1];exact (Qm).nm) (Qm).cs).mono ?_
    intro e w5 hr
    have hs:Yi nl Ym=true:=by rw [HNL.out.1];exact (Qm).val
    unfold Vr at hr
    rw [if_pos hs] at hr
    obtain ⟨yA,yn,yc,rfl,hyn,hyc,hyc2,ry,b5⟩:=hr
    replace hyn:yn=2:=hyn
    have HYN:=hid hyn
    have K2:=(((K1.call b5).add ry).Za #[.string nl,.slice yA yn yc,.int .i64 1,.slice none 0 0] 67)
    clear K1 hs hyn ry b5
    have F2:=K2.facts
    simp only [zg] at F2
    go_wp2_with (at_builtin;go_must (refine Zx K2 3 rfl Tryz.WK #[.string nl,.slice yA yn yc,.int .i64 1,.slice none 0 0] rfl (.tmp 23) (.tmp 25) rfl rfl (w5.heap.size+1) (by first|rfl|simp) rfl rfl (by intro u hu;simp at hu;rcases hu with rfl|rfl|rfl|rfl<;>rfl) (by omega) (by omega) ?_);intro g9 cap9 w9 hc9 hm9 KB;simp only [zl] at KB)
    have e9:ZI outs++(#[.string nl,.slice yA yn yc,.int .i64 1,.slice none 0 0]:Array Value).toList=ZI (outs++[⟨nl,yA,yn,yc,Ym,1,none,0,0,[]⟩]):=(VB outs ⟨nl,yA,yn,yc,Ym,1,none,0,0,[]⟩).symm
    rw [e9] at KB
    have hR:Ro _ _ (V8 (outs++[⟨nl,yA,yn,yc,Ym,1,none,0,0,[]⟩])):=((KB.ro 4 rfl).and (KB.ro 1 rfl)).imp fun w2 h2 x hx=>by
     rcases List.mem_append.1 hx with hx|hx
     ·exact h2.1 x hx
     ·simp only [List.mem_cons,List.not_mem_nil,or_false] at hx
      subst hx
      exact ⟨h2.2,ZR 5 w2,fun _ hx=>(nomatch hx)⟩
    have KC:=(KB.WL 4 rfl hR).drop (List.Sublist.cons _ (List.Sublist.cons _ (List.sublist_cons_self _ _)))
    have HS2:=hid (show ∀ x∈outs++[(⟨nl,yA,yn,yc,Ym,1,none,0,0,[]⟩:Te)],1≤x.n∧x.n≤4 from fun x hx=>by
     rcases List.mem_append.1 hx with hx|hx
     ·exact HS.out x hx
     ·simp only [List.mem_cons,List.not_mem_nil,or_false] at hx
      subst hx
      have:=HYN.out
      simp only
      omega)
    go_roundw
    case rel=>exact ⟨1,cap9,_,_,by omega,by simp [hol],by go_num,by first|rfl|trivial,HS2,KC⟩
    case measure=>simp [intOf]
   ·have c0:=cell_of_row _ _ 2 _ _ _ hblk
    have c1:=cell_of_row _ _ 3 _ _ _ hblk
    clear hblk
    have K1:=H.Za #[.string nt,.slice (some ⟨g1,0,none⟩) 4 4] 49
    have F1:=K1.facts
    simp only [zg] at F1
    clear H
    go_wp2_with fail
    clear F1
    refine (Qk (Mut M _) _ K1.Zc nt (some ⟨g1,0,none⟩) 4 4 Yl (K1.ro 5 rfl) (by omega) (by rw [HNL.out.2.1];exact (QG).nm) (QG).cs).mono ?_
    intro e w5 hr
    have hs:Yi nt Yl=true:=by rw [HNL.out.2.1];exact (QG).val
    unfold Vr at hr
    rw [if_pos hs] at hr
    obtain ⟨yA,yn,yc,rfl,hyn,hyc,hyc2,ry,b5⟩:=hr
    replace hyn:yn=4:=hyn
    have HYN:=hid hyn
    have K2:=(((K1.call b5).add ry).Za #[.string nt,.slice yA yn yc,.int .i64 1,.slice none 0 0] 67)
    clear K1 hs hyn ry b5
    have F2:=K2.facts
    simp only [zg] at F2
    go_wp2_with (at_builtin;go_must (refine Zx K2 3 rfl Tryz.WK #[.string nt,.slice yA yn yc,.int .i64 1,.slice none 0 0] rfl (.tmp 23) (.tmp 25) rfl rfl (w5.heap.size+1) (by first|rfl|simp) rfl rfl (by intro u hu;simp at hu;rcases hu with rfl|rfl|rfl|rfl<;>rfl) (by omega) (by omega) ?_);intro g9 cap9 w9 hc9 hm9 KB;simp only [zl] at KB)
    have e9:ZI outs++(#[.string nt,.slice yA yn yc,.int .i64 1,.slice none 0 0]:Array Value).toList=ZI (outs++[⟨nt,yA,yn,yc,Yl,1,none,0,0,[]⟩]):=(VB outs ⟨nt,yA,yn,yc,Yl,1,none,0,0,[]⟩).symm
    rw [e9] at KB
    have hR:Ro _ _ (V8 (outs++[⟨nt,yA,yn,yc,Yl,1,none,0,0,[]⟩])):=((KB.ro 4 rfl).and (KB.ro 1 rfl)).imp fun w2 h2 x hx=>by
     rcases List.mem_append.1 hx with hx|hx
     ·exact h2.1 x hx
     ·simp only [List.mem_cons,List.not_mem_nil,or_false] at hx
      subst hx
      exact ⟨h2.2,ZR 5 w2,fun _ hx=>(nomatch hx)⟩
    have KC:=(KB.WL 4 rfl hR).drop (List.Sublist.cons _ (List.Sublist.cons _ (List.sublist_cons_self _ _)))
    have HS2:=hid (show ∀ x∈outs++[(⟨nt,yA,yn,yc,Yl,1,none,0,0,[]⟩:Te)],1≤x.n∧x.n≤4 from fun x hx=>by
     rcases List.mem_append.1 hx with hx|hx
     ·exact HS.out x hx
     ·simp only [List.mem_cons,List.not_mem_nil,or_false] at hx
      subst hx
      have:=HYN.out
      simp only
      omega)
    go_roundw
    case rel=>exact ⟨2,cap9,_,_,by omega,by simp [hol],by go_num,by first|rfl|trivial,HS2,KC⟩
    case measure=>simp [intOf]
   ·have c0:=cell_of_row _ _ 4 _ _ _ hblk
    have c1:=cell_of_row _ _ 5 _ _ _ hblk
    clear hblk
    have K1:=H.Za #[.string nu,.slice (some ⟨g2,0,none⟩) 3 3] 49
    have F1:=K1.facts
    simp only [zg] at F1
    clear H
    go_wp2_with fail
    clear F1
    refine (Qk (Mut M _) _ K1.Zc nu (some ⟨g2,0,none⟩) 3 3 Yb (K1.ro 6 rfl) (by omega) (by rw [HNL.out.2.2];exact (Jc).nm) (Jc).cs).mono ?_
    intro e w5 hr
    have hs:Yi nu Yb=true:=by rw [HNL.out.2.2];exact (Jc).val
    unfold Vr at hr
    rw [if_pos hs] at hr
    obtain ⟨yA,yn,yc,rfl,hyn,hyc,hyc2,ry,b5⟩:=hr
    replace hyn:yn=3:=hyn
    have HYN:=hid hyn
    have K2:=(((K1.call b5).add ry).Za #[.string nu,.slice yA yn yc,.int .i64 1,.slice none 0 0] 67)
    clear K1 hs hyn ry b5
    have F2:=K2.facts
    simp only [zg] at F2
    go_wp2_with (at_builtin;go_must (refine Zx K2 3 rfl Tryz.WK #[.string nu,.slice yA yn yc,.int .i64 1,.slice none 0 0] rfl (.tmp 23) (.tmp 25) rfl rfl (w5.heap.size+1) (by first|rfl|simp) rfl rfl (by intro u hu;simp at hu;rcases hu with rfl|rfl|rfl|rfl<;>rfl) (by omega) (by omega) ?_);intro g9 cap9 w9 hc9 hm9 KB;simp only [zl] at KB)
    have e9:ZI outs++(#[.string nu,.slice yA yn yc,.int .i64 1,.slice none 0 0]:Array Value).toList=ZI (outs++[⟨nu,yA,yn,yc,Yb,1,none,0,0,[]⟩]):=(VB outs ⟨nu,yA,yn,yc,Yb,1,none,0,0,[]⟩).symm
    rw [e9] at KB
    have hR:Ro _ _ (V8 (outs++[⟨nu,yA,yn,yc,Yb,1,none,0,0,[]⟩])):=((KB.ro 4 rfl).and (KB.ro 1 rfl)).imp fun w2 h2 x hx=>by
     rcases List.mem_append.1 hx with hx|hx
     ·exact h2.1 x hx
     ·simp only [List.mem_cons,List.not_mem_nil,or_false] at hx
      subst hx
      exact ⟨h2.2,ZR 5 w2,fun _ hx=>(nomatch hx)⟩
    have KC:=(KB.WL 4 rfl hR).drop (List.Sublist.cons _ (List.Sublist.cons _ (List.sublist_cons_self _ _)))
    have HS2:=hid (show ∀ x∈outs++[(⟨nu,yA,yn,yc,Yb,1,none,0,0,[]⟩:Te)],1≤x.n∧x.n≤4 from fun x hx=>by
     rcases List.mem_append.1 hx with hx|hx
     ·exact HS.out x hx
     ·simp only [List.mem_cons,List.not_mem_nil,or_false] at hx
      subst hx
      have:=HYN.out
      simp only
      omega)
    go_roundw
    case rel=>exact ⟨3,cap9,_,_,by omega,by simp [hol],by go_num,by first|rfl|trivial,HS2,KC⟩
    case measure=>simp [intOf]
  ·obtain rfl:k=3:=by omega
   have KZ:=H.ZC 0 rfl
   simp only [zl] at KZ
   have hR:Ro _ _ (TesIn O 3 outs):=((KZ.ro 0 rfl).and (KZ.ro 1 rfl)).imp fun w2 h2=>⟨h2.1,h2.2⟩
   have HR:=hid (hR.less zm)
   have HB:=hid KZ.below
   clear KZ H hR hol
   go_wp2_with fail
   go_ret
   exact ⟨O,cap,outs,rfl,HS.out,HR.out,HB.out⟩
structure Lk where
 a:ByteArray
 b:ByteArray
def Lk.cells (x:Lk):List Value:=[.string x.a,.string x.b]
def XU (l:List Lk):List Value:=l.flatMap Lk.cells
theorem ZdF (l:List Lk):(XU l).length=l.length * 2:=Yu _ 2 (fun _=>rfl) l
def lkB (a b:ByteArray) (x:Lk):Bool:=x.a.toList==a.toList&&x.b.toList==b.toList
def Vh (l:List Lk) (a b:ByteArray):Bool:=l.any (lkB a b)
def LksIn (A:Option Addr) (n:Nat) (l:List Lk):World→Prop:=SlR 2 A n (XU l)
theorem LksIn.len {w:World} {A:Option Addr} {n:Nat} {l:List Lk} (h:LksIn A n l w):l.length=n:=by
 have:=(show Rd w w.heap.size 2 A n (XU l) from h).1
 rw [ZdF] at this
 omega
theorem LksIn.at_ {w:World} {A:Option Addr} {n:Nat} {l:List Lk} (h:LksIn A n l w) {k:Nat} {x:Lk} (hx:l[k]? =some x):
  ∃ b o,A=some ⟨b,o,none⟩∧b<w.heap.size∧w.cell? ⟨b,o+k * 2,none⟩=some (.string x.a)∧w.cell? ⟨b,o+k * 2+1,none⟩=some (.string x.b):=by
 have hk:k<n:=by rw [←h.len];exact (List.getElem?_eq_some_iff.1 hx).1
 obtain ⟨b,o,e,hb,hc⟩:=(show Rd w w.heap.size 2 A n (XU l) from h).2 (by omega)
 exact ⟨b,o,e,hb,hc _ _ (flat_get Lk.cells 2 (fun _=>rfl) l k 0 x (by omega) hx),hc _ _ (flat_get Lk.cells 2 (fun _=>rfl) l k 1 x (by omega) hx)⟩
theorem Zae {α:Type} {p:α→Bool} {l:List α} {k:Nat} {x:α} (h:l.any p=(l.drop k).any p) (hx:l[k]? =some x) (hp:p x=false):l.any p=(l.drop (k+1)).any p:=by
 obtain ⟨hk,rfl⟩:=List.getElem?_eq_some_iff.1 hx
 rw [h,List.drop_eq_getElem_cons hk,List.any_cons,hp,Bool.false_or]
theorem ZfK {α:Type} {p:α→Bool} {l:List α} {k:Nat} {x:α} (hx:l[k]? =some x) (hp:p x=true):l.any p=true:=by
 rw [List.any_eq_true];exact ⟨x,List.mem_of_getElem? hx,hp⟩
theorem Ze2 {α:Type} {p:α→Bool} {l:List α} {k:Nat} (h:l.any p=(l.drop k).any p) (hk:l.length≤k):l.any p=false:=by
 rw [h,List.drop_of_length_le hk];rfl
set_option maxHeartbeats 2000000 in
theorem U9 (M:Nat→Prop) (w:World) (hM:∀ b,M b→b<w.heap.size) (A:Option Addr) (n c:Nat) (l:List Lk) (a b:ByteArray) (hD:Ro w M (LksIn A n l)) (hn:n≤9223372036854775807):
  Calls Tryz.prog 170 #[.slice A n c,.string a,.string b] w fun e w' =>e=.returned (.bool (Vh l a b))∧Below w.heap.size w w' :=by
 have HL:=hid hD.now.len
 have K0:=(Hold.start M w hM).add (hD.less (by simp [Mut]))
 go_enter Tryz.func170,Tryz.ntmps170
 go_wp2_with fail
 go_loopw [11] (fun i wr=>∃ k:Nat,k≤n∧i=.int .i64 k∧l.any (lkB a b)=(l.drop k).any (lkB a b)∧Hold M none w wr [.ro (LksIn A n l)]) (fun i _=>n - (intOf i).toNat)
 case atStart=>exact ⟨0,by omega,rfl,rfl,K0⟩
 case round=>
  obtain ⟨k,hk,rfl,hf,H⟩:=hrel
  have HF:=hid hf;clear hf
  by_cases hlt:k<n
  ·obtain ⟨x,hx⟩:=Z4 HL.out hlt
   obtain ⟨g,o,rfl,hb,c0,c1⟩:=(H.ro 0 rfl).now.at_ hx
   have HX:=hid hx;clear hx
   have K1:=H.Za #[.string x.a,.string x.b] 190
   cases h1:(x.a.toList==a.toList)
   ·have HB:=hid (show lkB a b x=false by simp only [lkB,h1,Bool.false_and])
    go_wp2_with fail
    go_roundw
    case rel=>exact ⟨k+1,by omega,by go_num,Zae HF.out HX.out HB.out,K1.drop (List.sublist_cons_self _ _)⟩
    case measure=>simp [intOf];omega
   ·cases h2:(x.b.toList==b.toList)
    ·have HB:=hid (show lkB a b x=false by simp only [lkB,h2,Bool.and_false])
     go_wp2_with fail
     go_roundw
     case rel=>exact ⟨k+1,by omega,by go_num,Zae HF.out HX.out HB.out,K1.drop (List.sublist_cons_self _ _)⟩
     case measure=>simp [intOf];omega
    ·have HB:=hid (show lkB a b x=true by simp only [lkB,h1,h2,Bool.and_true])
     go_wp2_with fail
     go_ret
     exact ⟨by rw [show Vh l a b=true from ZfK HX.out HB.out]<;>rfl,K1.below⟩
  ·go_wp2_with fail
   go_ret
   exact ⟨by rw [show Vh l a b=false from Ze2 HF.out (by rw [HL.out];omega)]<;>rfl,H.below⟩
def Yd (x y:Lk):Bool:=Op.bytesLess x.a.toList y.a.toList||(x.a.toList==y.a.toList&&Op.bytesLess x.b.toList y.b.toList)
def Xb (x y:Lk):Bool:=x.a.toList==y.a.toList&&x.b.toList==y.b.toList
theorem Tryz.VG:ElemT Tryz.prog 26 190 2 32 (.agg #[.string ⟨#[]⟩,.string ⟨#[]⟩]):=⟨Tryz.underlying26,by kernel_rfl,rfl,by omega⟩
theorem VI (a b:ByteArray):∀ u∈(#[Value.string a,Value.string b]).toList,u.oneCell' =true:=by intro u hu;simp at hu;rcases hu with rfl|rfl<;>rfl
theorem Vu (l:List Lk) (x:Lk):XU l++(#[Value.string x.a,Value.string x.b]).toList=XU (l++[x]):=by simp [XU,Lk.cells]
set_option maxHeartbeats 1000000 in
theorem Je (x y:Lk) (w:World):
  Calls Tryz.prog 169 #[.agg #[.string x.a,.string x.b],.agg #[.string y.a,.string y.b]] w fun e w' =>e=.returned (.bool (Yd x y))∧Below w.heap.size w w' :=by
 obtain ⟨xa,xb⟩:=x
 obtain ⟨ya,yb⟩:=y
 cases h1:Op.bytesLess xa.toList ya.toList<;>cases h2:(xa.toList==ya.toList)<;>cases h3:Op.bytesLess xb.toList yb.toList
 all_goals
  go_enter Tryz.func169,Tryz.ntmps169
  go_wp2_with fail
  go_ret
  exact ⟨by simp only [Yd,h1,h2,h3]<;>rfl,ZeM _ _ _⟩
def Y6 (x:Lk) (s:List Lk × Bool) (y:Lk):List Lk × Bool:=((if s.2||Yd y x then s.1 else s.1++[x])++(if Xb y x then [] else [y]),s.2||!Yd y x)
def Y5 (x:Lk) (l:List Lk) (k:Nat):List Lk × Bool:=(l.take k).foldl (Y6 x) ([],false)
def YQ (x:Lk) (l:List Lk):List Lk:=if (Y5 x l l.length).2 then (Y5 x l l.length).1 else (Y5 x l l.length).1++[x]
theorem zx (x:Lk) {l:List Lk} {k:Nat} {y:Lk} (hy:l[k]? =some y):Y5 x l (k+1)=Y6 x (Y5 x l k) y:=by
 obtain ⟨hk,rfl⟩:=List.getElem?_eq_some_iff.1 hy
 unfold Y5
 rw [List.take_succ_eq_append_getElem hk,List.foldl_append]
 rfl
theorem Qi (x:Lk) (l:List Lk):∀ k,(Y5 x l k).1.length≤2 * k
 | 0=>by simp [Y5]
 | k+1=>by
  by_cases h:k<l.length
  ·rw [zx x (List.getElem?_eq_getElem h)]
   have:=Qi x l k
   unfold Y6
   split<;>split<;>simp<;>omega
  ·have:Y5 x l (k+1)=Y5 x l k:=by unfold Y5;rw [List.take_of_length_le (by omega),List.take_of_length_le (by omega)]
   rw [this];have:=Qi x l k;omega
def G7 (w:World) (M:Nat→Prop) (l:List Lk) (e:Ending) (w' :World):Prop:=
 ∃ (A:Option Addr) (n c:Nat),e=.returned (.slice A n c)∧n=l.length∧n≤c∧c≤9223372036854775807∧Ro w' M (LksIn A n l)∧Below w.heap.size w w'
set_option maxHeartbeats 4000000 in
theorem QA (M:Nat→Prop) (w:World) (hM:∀ b,M b→b<w.heap.size) (A:Option Addr) (n c:Nat) (l:List Lk) (x:Lk) (hD:Ro w M (LksIn A n l)) (hn:n≤1000000):
  Calls Tryz.prog 107 #[.slice A n c,.agg #[.string x.a,.string x.b]] w fun e w' =>G7 w M (YQ x l) e w' :=by
 have HL:=hid hD.now.len
 have K0:=((((Hold.start M w hM).add (hD.less (by simp [Mut]))).nil 190 2)).Za #[.string x.a,.string x.b] 190
 go_enter Tryz.func107,Tryz.ntmps107
 go_wp2_with fail
 go_loopw [5,6,11] (fun out d i wr=>∃ (k cap q:Nat) (C:Option Addr) (o:List Lk) (dn:Bool),k≤n∧i=.int .i64 k∧out=.slice C q cap∧d=.bool dn∧Hid (q=o.length)∧Hid (Y5 x l k=(o,dn))∧
  Hold M none w wr [.cst w.heap.size 190 #[.string x.a,.string x.b],.own 190 2 (.slice C q cap) q (XU o),.ro (LksIn A n l)]) (fun _ _ i _=>n - (intOf i).toNat)
 case atStart=>exact ⟨0,0,0,none,[],false,by omega,rfl,rfl,rfl,hid rfl,hid rfl,K0⟩
 case round=>
  obtain ⟨k,cap,q,C,o,dn,hk,rfl,rfl,rfl,HQ,HS,H⟩:=hrel
  have hqk:q≤2 * k:=by have:=Qi x l k;rw [HS.out] at this;have:=HQ.out;simp at *;omega
  by_cases hlt:k<n
  ·have hd:decide ((k:Int)<(n:Int))=true:=by simp;omega
   obtain ⟨y,hy⟩:=Z4 HL.out hlt
   obtain ⟨g,oo,rfl,hb,c0,c1⟩:=(H.ro 2 rfl).now.at_ hy
   have HN:=hid (zx x hy);clear hy
   have F:=H.facts
   simp only [World.size_alloc,World.size_drew,factsL,Zm,Nat.reduceAdd,List.toList_toArray,and_true,true_and] at F
   have K1:=H.Za #[.string y.a,.string y.b] 190
   have F1:=K1.facts
   simp only [World.size_alloc,World.size_drew,factsL,Zm,Nat.reduceAdd,List.toList_toArray,and_true,true_and] at F1
   cases h1:(y.a.toList==x.a.toList)<;>cases h2:(y.b.toList==x.b.toList)
   all_goals
    have heq:Xb y x=(y.a.toList==x.a.toList&&y.b.toList==x.b.toList):=rfl
    rw [h1,h2] at heq
    simp only [Bool.and_true,Bool.and_false,Bool.and_self] at heq
    have HE:=hid heq
    clear heq
    cases dn
    ·cases hbf:Yd y x
     all_goals
      have HBF:=hid hbf
      go_wp2_with fail
      refine (Je y x _).mono ?_
      rintro e wb ⟨rfl,bb⟩
      rw [HBF.out]
      have KB:=K1.call bb
      clear bb F F1
      have FB:=KB.facts
      simp only [zg] at FB
      clear hbf
      first
       | (go_wp2_with (first
         | (at_builtin;refine Zx KB 2 rfl Tryz.VG #[.string x.a,.string x.b] rfl (.tmp 23) (.tmp 25) rfl rfl wb.heap.size rfl rfl rfl (VI _ _) (by omega) (by omega) ?_;intro g2 cap2 w2 hc2 hm2 K2;(have F2:=K2.facts);simp only [World.size_alloc,World.size_drew,factsL,Zm,Nat.reduceAdd,List.toList_toArray,List.set_cons_zero,List.set_cons_succ,and_true,true_and] at F2)
         | (at_builtin;refine Zx KB 2 rfl Tryz.VG #[.string y.a,.string y.b] rfl (.tmp 30) (.tmp 32) rfl rfl wb.heap.size rfl rfl rfl (VI _ _) (by omega) (by omega) ?_;intro g3 cap3 w3 hc3 hm3 K3)
         | (at_builtin;refine Zx K2 2 rfl Tryz.VG #[.string y.a,.string y.b] rfl (.tmp 30) (.tmp 32) rfl rfl w2.heap.size rfl rfl rfl (VI _ _) (by omega) (by omega) ?_;intro g3 cap3 w3 hc3 hm3 K3)))
      go_roundw
      case measure=>simp [intOf];omega
      case rel=>
       first
        | (refine ⟨k+1,_,_,_,o++[x]++[y],true,by omega,by go_num,rfl,rfl,hid (by simp [HQ.out]),hid (by rw [HN.out,HS.out];simp [Y6,HBF.out,HE.out]),?_⟩;rw [←Vu,←Vu];exact K3.drop (List.sublist_cons_self _ _))
        | (refine ⟨k+1,_,_,_,o++[x],true,by omega,by go_num,rfl,rfl,hid (by simp [HQ.out]),hid (by rw [HN.out,HS.out];simp [Y6,HBF.out,HE.out]),?_⟩;rw [←Vu];exact K2.drop (List.sublist_cons_self _ _))
        | (refine ⟨k+1,_,_,_,o++[y],false,by omega,by go_num,rfl,rfl,hid (by simp [HQ.out]),hid (by rw [HN.out,HS.out];simp [Y6,HBF.out,HE.out]),?_⟩;rw [←Vu];exact K3.drop (List.sublist_cons_self _ _))
        | (refine ⟨k+1,_,_,_,o,false,by omega,by go_num,rfl,rfl,hid (by simp [HQ.out]),hid (by rw [HN.out,HS.out];simp [Y6,HBF.out,HE.out]),?_⟩;exact KB.drop (List.sublist_cons_self _ _))
    ·go_wp2_with (at_builtin;refine Zx K1 2 rfl Tryz.VG #[.string y.a,.string y.b] rfl (.tmp 30) (.tmp 32) rfl rfl (wr.heap.size+1) (by simp) rfl rfl (VI _ _) (by omega) (by omega) ?_;intro g3 cap3 w3 hc3 hm3 K3)
     go_roundw
     case measure=>simp [intOf];omega
     case rel=>
      first
       | (refine ⟨k+1,_,_,_,o++[y],true,by omega,by go_num,rfl,rfl,hid (by simp [HQ.out]),hid (by rw [HN.out,HS.out];simp [Y6,HE.out]),?_⟩;rw [←Vu];exact K3.drop (List.sublist_cons_self _ _))
       | (refine ⟨k+1,_,_,_,o,true,by omega,by go_num,rfl,rfl,hid (by simp [HQ.out]),hid (by rw [HN.out,HS.out];simp [Y6,HE.out]),?_⟩;exact K1.drop (List.sublist_cons_self _ _))
  ·obtain rfl:k=n:=by omega
   have HI:Hid (YQ x l=if dn then o else o++[x]):=by unfold Hid YQ;rw [HL.out,HS.out]
   have F:=H.facts
   simp only [World.size_alloc,World.size_drew,factsL,Zm,Nat.reduceAdd,List.toList_toArray,and_true,true_and] at F
   have hcap:=Yx (H.get 1 rfl)
   cases dn
   ·go_wp2_with (at_builtin;refine Zx H 1 rfl Tryz.VG #[.string x.a,.string x.b] rfl (.tmp 37) (.tmp 39) rfl rfl wr.heap.size rfl rfl rfl (VI _ _) (by omega) (by omega) ?_;intro g3 cap3 w3 hc3 hm3 K3)
    have KS:=K3.ZC 1 rfl
    go_ret
    have e:YQ x l=o++[x]:=HI.out
    exact ⟨_,_,_,rfl,by rw [e,HQ.out];simp,hc3,hm3,by rw [e];unfold LksIn;rw [←Vu];exact KS.YM 1 rfl,KS.below⟩
   ·have KS:=H.ZC 1 rfl
    go_wp2_with fail
    go_ret
    have e:YQ x l=o:=HI.out
    exact ⟨_,_,_,rfl,by rw [e];exact HQ.out,hcap.1,hcap.2.1,by rw [e];exact KS.YM 1 rfl,KS.below⟩
def Xu (l:List Lk) (i:Nat):Lk:=l.getD i ⟨⟨#[]⟩,⟨#[]⟩⟩
theorem QZ {l:List Lk} {i:Nat} {x:Lk} (h:l[i]? =some x):Xu l i=x:=by simp [Xu,List.getD,h]
def trB (l:List Lk) (x y:Lk):Bool:=!(x.b.toList==y.a.toList)||Vh l x.a y.b
def XM (l:List Lk) (i:Nat):Bool:=!((Xu l i).a.toList==(Xu l i).b.toList)&&(i==0||Yd (Xu l (i - 1)) (Xu l i))&&l.all (trB l (Xu l i))
def YI (l:List Lk):Bool:=(List.range l.length).all (XM l)
theorem zR {p:Nat→Bool} {k:Nat} (h:(List.range k).all p=true) (hp:p k=true):(List.range (k+1)).all p=true:=by
 rw [List.range_succ,List.all_append,h];simpa using hp
theorem UQ {p:Nat→Bool} {k n:Nat} (hk:k<n) (hp:p k=false):(List.range n).all p=false:=by
 rw [List.all_eq_false];exact ⟨k,by simpa using hk,by simp [hp]⟩
theorem UD {α:Type} {p:α→Bool} {l:List α} {k:Nat} {x:α} (h:(l.take k).all p=true) (hx:l[k]? =some x) (hp:p x=true):(l.take (k+1)).all p=true:=by
 obtain ⟨hk,rfl⟩:=List.getElem?_eq_some_iff.1 hx
 rw [List.take_succ_eq_append_getElem hk,List.all_append,h];simpa using hp
theorem JU {α:Type} {p:α→Bool} {l:List α} {k:Nat} {x:α} (hx:l[k]? =some x) (hp:p x=false):l.all p=false:=by
 rw [List.all_eq_false];exact ⟨x,List.mem_of_getElem? hx,by simp [hp]⟩
set_option maxHeartbeats 4000000 in
set_option maxRecDepth 100000 in
theorem UZ (M:Nat→Prop) (w:World) (hM:∀ b,M b→b<w.heap.size) (A:Option Addr) (n c:Nat) (l:List Lk) (hD:Ro w M (LksIn A n l)) (hn:n≤1000000):
  Calls Tryz.prog 106 #[.slice A n c] w fun e w' =>e=.returned (.bool (YI l))∧Below w.heap.size w w' :=by
 have HL:=hid hD.now.len
 have K0:=(Hold.start M w hM).add (hD.less (by simp [Mut]))
 go_enter Tryz.func106,Tryz.ntmps106
 go_wp2_with fail
 go_loopw [9] (fun i wr=>∃ (k:Nat),k≤n∧i=.int .i64 k∧Hid ((List.range k).all (XM l)=true)∧Hold M none w wr [.ro (LksIn A n l)]) (fun i _=>n - (intOf i).toNat)
 case atStart=>exact ⟨0,by omega,rfl,hid rfl,K0⟩
 case round=>
  obtain ⟨k,hk,rfl,HV,H⟩:=hrel
  obtain ⟨wo,rfl⟩:∃ wo:World,wo=wr:=⟨_,rfl⟩
  by_cases hlt:k<n
  ·have hd:decide ((k:Int)<(n:Int))=true:=by simp;omega
   obtain ⟨x,hx⟩:=Z4 HL.out hlt
   obtain ⟨g,o,rfl,hb,c0,c1⟩:=(H.ro 0 rfl).now.at_ hx
   have HX:=hid (QZ hx);clear hx
   have K1:=H.Za #[.string x.a,.string x.b] 190
   have F1:=K1.facts
   simp only [World.size_alloc,World.size_drew,factsL,Zm,Nat.reduceAdd,List.toList_toArray,and_true,true_and] at F1
   have HB0:=hid (And.intro c0 c1)
   cases hs:(x.a.toList==x.b.toList)
   ·by_cases hk0:k=0
    ·have hkd:decide (0<k)=false:=by simp;omega
     have HK0:=hid hk0
     have HSF:=hid hs
     clear hk0
     go_wp2_with fail
     go_quiet (fail)
     go_wp2_with fail
     go_loopw [35] (fun j wq=>∃ p:Nat,p≤n∧j=.int .i64 p∧Hid ((l.take p).all (trB l x)=true)∧Hold M none w wq [.cst wo.heap.size 190 #[.string x.a,.string x.b],.ro (LksIn (some ⟨g,o,none⟩) n l)]) (fun j _=>n - (intOf j).toNat)
     case atStart=>exact ⟨0,by omega,rfl,hid rfl,K1.drewN _⟩
     case round=>
      obtain ⟨p,hp,rfl,HP,H2⟩:=hrel
      by_cases hlt2:p<n
      ·have hd2:decide ((p:Int)<(n:Int))=true:=by simp;omega
       obtain ⟨y,hy⟩:=Z4 HL.out hlt2
       obtain ⟨g',o',ho',hb',e0,e1⟩:=(H2.ro 1 rfl).now.at_ hy
       obtain ⟨rfl,rfl⟩:g=g' ∧o=o' :=by injection ho' with ho';injection ho' with a1 a2;exact ⟨a1,a2⟩
       clear ho'
       have HY:=hid hy;clear hy
       have K2:=H2.Za #[.string y.a,.string y.b] 190
       have F2:=H2.facts
       simp only [World.size_alloc,World.size_drew,factsL,Zm,Nat.reduceAdd,List.toList_toArray,and_true,true_and] at F2
       cases h4:(x.b.toList==y.a.toList)
       ·have HT:=hid (show trB l x y=true by simp only [trB,h4];rfl)
        go_wp2_with fail
        go_roundw
        case rel=>exact ⟨p+1,by omega,by go_num,hid (UD HP.out HY.out HT.out),K2.drop (List.sublist_cons_self _ _)⟩
        case measure=>simp [intOf];omega
       ·cases hpr:Vh l x.a y.b
        ·have HT:=hid (show trB l x y=false by simp only [trB,h4,hpr];rfl)
         go_wp2_with (go_at_call 170;refine (U9 (Mut M _) _ K2.Zc _ n c l x.a y.b (K2.ro 2 rfl) (by omega)).mono ?_;rintro e w5 ⟨rfl,b5⟩;have K5:=K2.call b5;rw [hpr])
         go_ret
         exact ⟨by rw [show YI l=false from UQ (k:=k) (by rw [HL.out];exact hlt) (by unfold XM;rw [HX.out,JU HY.out HT.out];simp)]<;>rfl,K5.below⟩
        ·have HT:=hid (show trB l x y=true by simp only [trB,h4,hpr];rfl)
         go_wp2_with (go_at_call 170;refine (U9 (Mut M _) _ K2.Zc _ n c l x.a y.b (K2.ro 2 rfl) (by omega)).mono ?_;rintro e w5 ⟨rfl,b5⟩;have K5:=K2.call b5;rw [hpr])
         go_roundw
         case rel=>exact ⟨p+1,by omega,by go_num,hid (UD HP.out HY.out HT.out),K5.drop (List.sublist_cons_self _ _)⟩
         case measure=>simp [intOf];omega
      ·obtain rfl:n=p:=by omega
       have HPA:=HP.out
       rw [List.take_of_length_le (by rw [HL.out];omega)] at HPA
       have HPB:=hid HPA;clear HPA
       go_wp2_with fail
       go_roundw
       case rel=>exact ⟨k+1,by omega,by go_num,hid (zR HV.out (by unfold XM;rw [HX.out,HPB.out,HSF.out];simp [HK0.out])),H2.drop (List.sublist_cons_self _ _)⟩
       case measure=>simp [intOf];omega
    ·obtain ⟨k,rfl⟩:∃ m,k=m+1:=⟨k - 1,by omega⟩
     have HSF:=hid hs
     have hw:IntKind.i64.wrap (k:Int)=(k:Int):=IntWalk.i64_in _ (by omega)
     have i0:(0:Int)≤(k:Int):=by omega
     have i1:(k:Int)<(n:Int):=by omega
     have hkd:decide ((0:Int)<(k:Int)+1)=true:=by simp
     clear hk0
     obtain ⟨z,hz⟩:=Z4 HL.out (show k<n by omega)
     obtain ⟨g',o',ho',hb',e0,e1⟩:=(K1.ro 1 rfl).now.at_ hz
     obtain ⟨rfl,rfl⟩:g=g' ∧o=o' :=by injection ho' with ho';injection ho' with a1 a2;exact ⟨a1,a2⟩
     clear ho'
     have HZ:=hid (QZ hz);clear hz
     cases hbf:Yd z x
     ·have HBF:=hid hbf
      go_wp2_with fail
      generalize wo.alloc (.cells #[.string x.a,.string x.b] 190)=w1 at *
      go_still_tail 15,(by kernel_rfl)
      change wpList _ _ _ _ _ (World.drew _)
      go_wp2_with (go_at_call 169;refine (Je z x _).mono ?_;rintro e w5 ⟨rfl,b5⟩;have K5:=K1.drew.call b5;rw [HBF.out])
      go_wp2_with fail
      go_ret
      exact ⟨by rw [show YI l=false from UQ (k:=(k+1)) (by rw [HL.out];exact hlt) (by unfold XM;rw [HX.out];simp only [HBF.out,QZ,Nat.add_sub_cancel,HZ.out];simp)]<;>rfl,by first|exact (K5).below|exact (K5).drew.below|exact ((K5).drewN _).below⟩
     ·have HBF:=hid hbf
      go_wp2_with fail
      generalize wo.alloc (.cells #[.string x.a,.string x.b] 190)=w1 at *
      go_still_tail 15,(by kernel_rfl)
      change wpList _ _ _ _ _ (World.drew _)
      go_wp2_with (go_at_call 169;refine (Je z x _).mono ?_;rintro e w5 ⟨rfl,b5⟩;have K5:=K1.drew.call b5;rw [HBF.out])
      go_loopw [35] (fun j wq=>∃ p:Nat,p≤n∧j=.int .i64 p∧Hid ((l.take p).all (trB l x)=true)∧Hold M none w wq [.cst wo.heap.size 190 #[.string x.a,.string x.b],.ro (LksIn (some ⟨g,o,none⟩) n l)]) (fun j _=>n - (intOf j).toNat)
      case atStart=>exact ⟨0,by omega,rfl,hid rfl,K5⟩
      case round=>
       obtain ⟨p,hp,rfl,HP,H2⟩:=hrel
       by_cases hlt2:p<n
       ·have hd2:decide ((p:Int)<(n:Int))=true:=by simp;omega
        obtain ⟨y,hy⟩:=Z4 HL.out hlt2
        obtain ⟨g',o',ho',hb',e0,e1⟩:=(H2.ro 1 rfl).now.at_ hy
        obtain ⟨rfl,rfl⟩:g=g' ∧o=o' :=by injection ho' with ho';injection ho' with a1 a2;exact ⟨a1,a2⟩
        clear ho'
        have HY:=hid hy;clear hy
        have K2:=H2.Za #[.string y.a,.string y.b] 190
        have F2:=H2.facts
        simp only [World.size_alloc,World.size_drew,factsL,Zm,Nat.reduceAdd,List.toList_toArray,and_true,true_and] at F2
        cases h4:(x.b.toList==y.a.toList)
        ·have HT:=hid (show trB l x y=true by simp only [trB,h4];rfl)
         go_wp2_with fail
         go_roundw
         case rel=>exact ⟨p+1,by omega,by go_num,hid (UD HP.out HY.out HT.out),K2.drop (List.sublist_cons_self _ _)⟩
         case measure=>simp [intOf];omega
        ·cases hpr:Vh l x.a y.b
         ·have HT:=hid (show trB l x y=false by simp only [trB,h4,hpr];rfl)
          go_wp2_with (go_at_call 170;refine (U9 (Mut M _) _ K2.Zc _ n c l x.a y.b (K2.ro 2 rfl) (by omega)).mono ?_;rintro e w5 ⟨rfl,b5⟩;have K5:=K2.call b5;rw [hpr])
          go_ret
          exact ⟨by rw [show YI l=false from UQ (k:=(k+1)) (by rw [HL.out];exact hlt) (by unfold XM;rw [HX.out,JU HY.out HT.out];simp)]<;>rfl,K5.below⟩
         ·have HT:=hid (show trB l x y=true by simp only [trB,h4,hpr];rfl)
          go_wp2_with (go_at_call 170;refine (U9 (Mut M _) _ K2.Zc _ n c l x.a y.b (K2.ro 2 rfl) (by omega)).mono ?_;rintro e w5 ⟨rfl,b5⟩;have K5:=K2.call b5;rw [hpr])
          go_roundw
          case rel=>exact ⟨p+1,by omega,by go_num,hid (UD HP.out HY.out HT.out),K5.drop (List.sublist_cons_self _ _)⟩
          case measure=>simp [intOf];omega
       ·obtain rfl:n=p:=by omega
        have HPA:=HP.out
        rw [List.take_of_length_le (by rw [HL.out];omega)] at HPA
        have HPB:=hid HPA;clear HPA
        go_wp2_with fail
        go_roundw
        case rel=>exact ⟨(k+1)+1,by omega,by go_num,hid (zR HV.out (by unfold XM;rw [HX.out,HPB.out,HSF.out];simp [HZ.out,HBF.out])),H2.drop (List.sublist_cons_self _ _)⟩
        case measure=>simp [intOf];omega
   ·have HS:=hid hs
    go_wp2_with fail
    go_quiet (fail)
    go_wp2_with fail
    go_ret
    exact ⟨by rw [show YI l=false from UQ (k:=k) (by rw [HL.out];exact hlt) (by unfold XM;rw [HX.out];simp only [HS.out];simp)]<;>rfl,by first|exact (K1).below|exact (K1).drew.below|exact ((K1).drewN _).below⟩
  ·obtain rfl:k=n:=by omega
   go_wp2_with fail
   go_ret
   exact ⟨by rw [show YI l=true from by unfold YI;rw [HL.out];exact HV.out]<;>rfl,H.below⟩
theorem ZaP:∀ x:List UInt8,Op.bytesLess x x=false
 | []=>rfl
 | a::x=>by simp [Op.bytesLess,ZaP x]
theorem JE:∀ x y z:List UInt8,Op.bytesLess x y=true→Op.bytesLess y z=true→Op.bytesLess x z=true
 | _,[],_=>by simp [Op.bytesLess]
 | [],b::y,[]=>by simp [Op.bytesLess]
 | [],b::y,c::z=>by simp [Op.bytesLess]
 | a::x,b::y,[]=>by simp [Op.bytesLess]
 | a::x,b::y,c::z=>by
  have ih:=JE x y z
  simp only [Op.bytesLess,Bool.or_eq_true,Bool.and_eq_true,decide_eq_true_eq,beq_iff_eq]
  rintro (h1|⟨rfl,h1⟩) (h2|⟨rfl,h2⟩)
  ·exact .inl (UInt8.lt_trans h1 h2)
  ·exact .inl h1
  ·exact .inl h2
  ·exact .inr ⟨rfl,ih h1 h2⟩
theorem Jt:∀ x y:List UInt8,x=y∨Op.bytesLess x y=true∨Op.bytesLess y x=true
 | [],[]=>.inl rfl
 | [],b::y=>.inr (.inl rfl)
 | a::x,[]=>.inr (.inr rfl)
 | a::x,b::y=>by
  simp only [Op.bytesLess,Bool.or_eq_true,Bool.and_eq_true,decide_eq_true_eq,beq_iff_eq,List.cons.injEq]
  rcases UInt8.lt_or_lt_of_ne (a:=a) (b:=b)|> fun h=>Classical.em (a=b) with rfl|hne
  ·rcases Jt x y with rfl|h|h
   ·exact .inl ⟨rfl,rfl⟩
   ·exact .inr (.inl (.inr ⟨rfl,h⟩))
   ·exact .inr (.inr (.inr ⟨rfl,h⟩))
  ·rcases UInt8.lt_or_lt_of_ne hne with h|h
   ·exact .inr (.inl (.inl h))
   ·exact .inr (.inr (.inl h))
theorem Jg {a b:ByteArray} (h:a.toList=b.toList):a=b:=Go.WideShapes.bytes_inj (by rw [←ByteArray.toList_eq,←ByteArray.toList_eq];exact h)
theorem V4 {a b:ByteArray}:(a.toList==b.toList)=true↔a=b:=by
 rw [beq_iff_eq];exact ⟨Jg,fun h=>by rw [h]⟩
theorem zh {x y:Lk} (h1:x.a=y.a) (h2:x.b=y.b):x=y:=by
 obtain ⟨a,b⟩:=x;obtain ⟨c,d⟩:=y;simp only at h1 h2;rw [h1,h2]
theorem Uc {x y:Lk}:Xb x y=true↔x=y:=by
 unfold Xb
 rw [Bool.and_eq_true,V4,V4]
 exact ⟨fun h=>zh h.1 h.2,fun h=>by rw [h];exact ⟨rfl,rfl⟩⟩
theorem ZfA (x:Lk):Yd x x=false:=by simp [Yd,ZaP]
theorem Zbd {x y z:Lk} (h1:Yd x y=true) (h2:Yd y z=true):Yd x z=true:=by
 simp only [Yd,Bool.or_eq_true,Bool.and_eq_true,beq_iff_eq] at *
 rcases h1 with h1|⟨e1,h1⟩<;>rcases h2 with h2|⟨e2,h2⟩
 ·exact .inl (JE _ _ _ h1 h2)
 ·exact .inl (e2 ▸ h1)
 ·exact .inl (e1 ▸ h2)
 ·exact .inr ⟨e1.trans e2,JE _ _ _ h1 h2⟩
theorem ZbE (x y:Lk):x=y∨Yd x y=true∨Yd y x=true:=by
 simp only [Yd,Bool.or_eq_true,Bool.and_eq_true,beq_iff_eq]
 rcases Jt x.a.toList y.a.toList with h|h|h
 ·rcases Jt x.b.toList y.b.toList with h2|h2|h2
  ·exact .inl (zh (Jg h) (Jg h2))
  ·exact .inr (.inl (.inr ⟨h,h2⟩))
  ·exact .inr (.inr (.inr ⟨h.symm,h2⟩))
 ·exact .inr (.inl (.inl h))
 ·exact .inr (.inr (.inl h))
theorem J9 {x y:Lk} (h:Yd x y=true):x≠y:=by rintro rfl;rw [ZfA] at h;cases h
def LkSorted (l:List Lk):Prop:=l.Pairwise fun x y=>Yd x y=true
theorem LkSorted.nodup {l:List Lk} (h:LkSorted l):l.Nodup:=List.Pairwise.imp (fun h=>J9 h) h
def YK (x:Lk):Bool→List Lk→List Lk
 | d,[]=>if d then [] else [x]
 | d,y::l=>(if d||Yd y x then [] else [x])++(if Xb y x then [] else [y])++YK x (d||!Yd y x) l
theorem zD (x:Lk):∀ (l:List Lk) (o:List Lk) (d:Bool),(let s:=l.foldl (Y6 x) (o,d);if s.2 then s.1 else s.1++[x])=o++YK x d l
 | [],o,d=>by cases d<;>simp [YK]
 | y::l,o,d=>by
  have ih:=zD x l (Y6 x (o,d) y).1 (Y6 x (o,d) y).2
  refine Eq.trans ih ?_
  simp only [Y6,YK]
  cases d<;>cases Yd y x<;>cases Xb y x<;>simp
theorem ZaS (x:Lk) (l:List Lk):YQ x l=YK x false l:=by
 have h:=zD x l [] false
 simp only [List.nil_append] at h
 rw [←h]
 unfold YQ Y5
 rw [List.take_of_length_le (Nat.le_refl _)]
theorem QD (x:Lk):∀ l:List Lk,(∀ y∈l,y≠x)→YK x true l=l
 | [],_=>rfl
 | y::l,h=>by
  have hy:Xb y x=false:=by
   cases e:Xb y x
   ·rfl
   ·exact absurd (Uc.1 e) (h y (List.mem_cons_self ..))
  simp [YK,hy,QD x l (fun z hz=>h z (List.mem_cons_of_mem _ hz))]
theorem Zaq {x y:Lk} {l:List Lk} (h:LkSorted (y::l)):YK x false (y::l)=if Yd y x then y::YK x false l else if Xb y x then y::l else x::y::l:=by
 obtain ⟨h1,h2⟩:=List.pairwise_cons.1 h
 cases hb:Yd y x
 ·have hn:∀ z∈l,z≠x:=fun z hz e=>by
   subst e;rw [h1 z hz] at hb;cases hb
  cases he:Xb y x
  ·simp [YK,hb,he,QD x l hn]
  ·obtain rfl:=Uc.1 he
   simp [YK,hb,he,QD y l hn]
 ·have he:Xb y x=false:=by
   cases e:Xb y x
   ·rfl
   ·exact absurd (Uc.1 e) (J9 hb)
  simp [YK,hb,he]
theorem QR {x z:Lk}:∀ {l:List Lk},LkSorted l→(z∈YK x false l↔z=x∨z∈l)
 | [],_=>by simp [YK]
 | y::l,h=>by
  have ih:=QR (x:=x) (z:=z) (List.pairwise_cons.1 h).2
  rw [Zaq h]
  split
  ·simp only [List.mem_cons,ih]
   constructor
   ·rintro (h|h|h)
    ·exact .inr (.inl h)
    ·exact .inl h
    ·exact .inr (.inr h)
   ·rintro (h|h|h)
    ·exact .inr (.inl h)
    ·exact .inl h
    ·exact .inr (.inr h)
  ·split
   ·rename_i _ he
    obtain rfl:=Uc.1 he
    simp only [List.mem_cons]
    exact ⟨.inr,fun h=>h.elim .inl id⟩
   ·simp only [List.mem_cons]
theorem ZaQ {x:Lk}:∀ {l:List Lk},LkSorted l→LkSorted (YK x false l)
 | [],_=>by simp [YK,LkSorted]
 | y::l,h=>by
  have ih:=ZaQ (x:=x) (List.pairwise_cons.1 h).2
  rw [Zaq h]
  obtain ⟨h1,h2⟩:=List.pairwise_cons.1 h
  split
  ·rename_i hb
   refine List.pairwise_cons.2 ⟨fun z hz=>?_,ih⟩
   rcases (QR h2).1 hz with rfl|hz
   ·exact hb
   ·exact h1 z hz
  ·split
   ·exact h
   ·rename_i hb he
    have hxy:Yd x y=true:=by
     rcases ZbE x y with rfl|h|h
     ·exact absurd (Uc.2 rfl) he
     ·exact h
     ·exact absurd h hb
    refine List.pairwise_cons.2 ⟨fun z hz=>?_,h⟩
    rcases List.mem_cons.1 hz with rfl|hz
    ·exact hxy
    ·exact Zbd hxy (h1 z hz)
theorem VU {x z:Lk} {l:List Lk} (h:LkSorted l):z∈YQ x l↔z=x∨z∈l:=by rw [ZaS];exact QR h
theorem Gn {x:Lk} {l:List Lk} (h:LkSorted l):LkSorted (YQ x l):=by rw [ZaS];exact ZaQ h
theorem Uy {α:Type}:∀ {l u:List α},l.Nodup→(∀ x∈l,x∈u)→l.length≤u.length
 | [],u,_,_=>Nat.zero_le _
 | x::l,u,h,hs=>by
  obtain ⟨h1,h2⟩:=List.nodup_cons.1 h
  obtain ⟨p,q,rfl⟩:=List.append_of_mem (hs x (List.mem_cons_self ..))
  have:=Uy (u:=p++q) h2 fun z hz=>by
   have hz' :=hs z (List.mem_cons_of_mem _ hz)
   simp only [List.mem_append,List.mem_cons] at hz' ⊢
   rcases hz' with h|rfl|h
   ·exact .inl h
   ·exact absurd hz h1
   ·exact .inr h
  simp only [List.length_append,List.length_cons] at this ⊢
  omega
def ZcW (ns:List ByteArray):List Lk:=ns.flatMap fun a=>ns.map fun b=>⟨a,b⟩
theorem ZbN (ns:List ByteArray):(ZcW ns).length=ns.length * ns.length:=Yu _ _ (fun _=>by simp) ns
def NamesIn (ns:List ByteArray) (l:List Lk):Prop:=∀ z∈l,z.a∈ns∧z.b∈ns
theorem NamesIn.len {ns:List ByteArray} {l:List Lk} (h:NamesIn ns l) (hs:LkSorted l):l.length≤ns.length * ns.length:=by
 rw [←ZbN]
 refine Uy hs.nodup fun x hx=>?_
 obtain ⟨h1,h2⟩:=h x hx
 exact List.mem_flatMap.2 ⟨x.a,h1,List.mem_map.2 ⟨x.b,h2,rfl⟩⟩
inductive Tr (l:List Lk):ByteArray→ByteArray→Prop
 | one {a b:ByteArray}:(⟨a,b⟩:Lk)∈l→Tr l a b
 | step {a b c:ByteArray}:Tr l a b→Tr l b c→Tr l a c
theorem Tr.mono {l l' :List Lk} (h:∀ z∈l,Tr l' z.a z.b) {a b:ByteArray} (ht:Tr l a b):Tr l' a b:=by
 induction ht with
 | one hm=>exact h _ hm
 | step _ _ h1 h2=>exact .step h1 h2
theorem Tr.names {ns:List ByteArray} {l:List Lk} (h:NamesIn ns l) {a b:ByteArray} (ht:Tr l a b):a∈ns∧b∈ns:=by
 induction ht with
 | one hm=>exact h _ hm
 | step _ _ h1 h2=>exact ⟨h1.1,h2.2⟩
def Ui (l r:List Lk):Prop:=LkSorted r∧∀ a b,(⟨a,b⟩:Lk)∈r↔Tr l a b
def Mid (l o:List Lk):Prop:=LkSorted o∧(∀ z∈l,z∈o)∧∀ z∈o,Tr l z.a z.b
theorem Mid.self {l:List Lk} (h:LkSorted l):Mid l l:=⟨h,fun _ h=>h,fun z h=>.one h⟩
theorem Mid.ins {l o:List Lk} (h:Mid l o) {x y:Lk} (hx:x∈l) (hy:y∈l) (he:x.b=y.a):Mid l (YQ ⟨x.a,y.b⟩ o):=by
 refine ⟨Gn h.1,fun z hz=>(VU h.1).2 (.inr (h.2.1 z hz)),fun z hz=>?_⟩
 rcases (VU h.1).1 hz with rfl|hz
 ·exact .step (b:=x.b) (.one hx) (by rw [he];exact .one hy)
 ·exact h.2.2 z hz
theorem Mid.names {ns:List ByteArray} {l o:List Lk} (h:Mid l o) (hn:NamesIn ns l):NamesIn ns o:=fun z hz=>Tr.names hn (h.2.2 z hz)
def Done1 (l o:List Lk) (x:Lk) (j:Nat):Prop:=∀ y∈l.take j,x.b=y.a→(⟨x.a,y.b⟩:Lk)∈o
def DoneN (l o:List Lk) (i:Nat):Prop:=∀ x∈l.take i,Done1 l o x l.length
theorem Zah {α:Type} {l:List α} {k:Nat} {x y:α} (hx:l[k]? =some x) (h:y∈l.take (k+1)):y=x∨y∈l.take k:=by
 obtain ⟨hk,rfl⟩:=List.getElem?_eq_some_iff.1 hx
 rw [List.take_succ_eq_append_getElem hk] at h
 rcases List.mem_append.1 h with h|h
 ·exact .inr h
 ·exact .inl (by simpa using h)
theorem Done1.succ {l o:List Lk} {x y:Lk} {j:Nat} (h:Done1 l o x j) (hy:l[j]? =some y) (hd:x.b=y.a→(⟨x.a,y.b⟩:Lk)∈o):Done1 l o x (j+1):=fun z hz he=>by
 rcases Zah hy hz with rfl|hz
 ·exact hd he
 ·exact h z hz he
theorem Done1.more {l o o' :List Lk} {x:Lk} {j:Nat} (h:Done1 l o x j) (hs:∀ z∈o,z∈o'):Done1 l o' x j:=fun z hz he=>hs _ (h z hz he)
theorem DoneN.more {l o o' :List Lk} {i:Nat} (h:DoneN l o i) (hs:∀ z∈o,z∈o'):DoneN l o' i:=fun x hx=>(h x hx).more hs
theorem DoneN.succ {l o:List Lk} {i:Nat} {x:Lk} (h:DoneN l o i) (hx:l[i]? =some x) (h1:Done1 l o x l.length):DoneN l o (i+1):=fun z hz=>by
 rcases Zah hx hz with rfl|hz
 ·exact h1
 ·exact h z hz
theorem Zd0 {l0 l o:List Lk} (h:Mid l o) (hd:DoneN l o l.length) (hlen:o.length=l.length) (hl:LkSorted l) (h0:∀ z∈l0,z∈l) (h1:∀ z∈l,Tr l0 z.a z.b):Ui l0 o:=by
 have hsub:∀ z∈o,z∈l:=fun z hz=>by
  refine Classical.byContradiction fun hn=>?_
  have:=Uy (l:=z::l) (u:=o) (List.nodup_cons.2 ⟨hn,hl.nodup⟩) fun y hy=>by
   rcases List.mem_cons.1 hy with rfl|hy
   ·exact hz
   ·exact h.2.1 y hy
  simp only [List.length_cons] at this
  omega
 refine ⟨h.1,fun a b=>⟨fun hm=>h1 _ (hsub _ hm),fun ht=>?_⟩⟩
 induction ht with
 | one hm=>exact h.2.1 _ (h0 _ hm)
 | @step a b c _ _ i1 i2=>exact hd _ (by rw [List.take_length];exact hsub _ i1) _ (by rw [List.take_length];exact hsub _ i2) rfl
theorem Mid.len {l o:List Lk} (h:Mid l o) (hl:LkSorted l):l.length≤o.length:=Uy hl.nodup h.2.1
theorem Mid.trans {l0 l o:List Lk} (h:Mid l0 l) (k:Mid l o):Mid l0 o:=⟨k.1,fun z hz=>k.2.1 z (h.2.1 z hz),fun z hz=>Tr.mono h.2.2 (k.2.2 z hz)⟩
end Go.Proofs.YtnbbllkbefagmaaGreatDoor

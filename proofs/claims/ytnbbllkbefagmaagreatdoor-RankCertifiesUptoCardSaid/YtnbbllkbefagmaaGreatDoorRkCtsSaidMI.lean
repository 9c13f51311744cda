import Derived.Test.YtnbbllkbefagmaaGreatDoorRkCtsSaidMG
import Derived.Test.YtnbbllkbefagmaaGreatDoorRkCtsSaidMH
import Derived.Deep.DeepCutAuto
import Derived.Test.YtnbbllkbefagmaaGreatDoorRkCtsSaidMF
import Derived.Test.YtnbbllkbefagmaaGreatDoorRkCtsSaidMC
namespace Go.Proofs.YtnbbllkbefagmaaGreatDoor
open Go.RowKit
set_option linter.unusedVariables false
set_option linter.unusedSimpArgs false
theorem Zj {M:Nat→Prop} {L:List Hp} {T i:Nat} (h:L[i]? =some (.tp T)):∀ b,Mut (Mut M L) [.tp T] b→Mut M L b:=by
 rintro b (hb|⟨k,hk,hf⟩)
 ·exact hb
 ·simp only [List.mem_singleton] at hk
  subst hk
  exact .inr ⟨_,List.mem_of_getElem? h,hf⟩
theorem Xw {x:Ex} {n:Int} (h:Xv x n) (h1:-100≤n) (h2:n≤100):ExGd 2 x:=by
 rcases h with ⟨_,rfl⟩|⟨_,g,rfl⟩
 ·exact (Wu _ (Zo 1 (by decide)) (Zo n ⟨by omega,by omega⟩)).more
 ·exact YE (Zo 4 (by decide)) (Zo 0 (by decide)) (by omega) (fun a ha=>by
   simp only [List.mem_cons,List.not_mem_nil,or_false] at ha
   subst ha
   exact Wu _ (Zo 1 (by decide)) (Zo (-n) ⟨by omega,by omega⟩))
theorem Jy {kind k i:Int} {s:ByteArray} (h:WY kind k i s):I64 k:=by
 by_cases hk:kind=1∨kind=2∨kind=3
 ·rw [h.2.1 hk];rcases hk with rfl|rfl|rfl<;>exact Zo _ (by decide)
 ·rw [h.2.2 hk];exact Zo 0 (by decide)
def Zh (M:Nat→Prop) (d:Nat) (u:Value) (w:World):Prop:=∃ y:Ex,u=y.val∧ExGd d y∧Ro w M (ExIn d y)
theorem Z7 {M:Nat→Prop} {d:Nat} (u:Value) (w w' :World) (hr:RM M w w') (h:Zh M d u w):Zh M d u w' :=by
 obtain ⟨y,h1,h2,h3⟩:=h
 exact ⟨y,h1,h2,hr.ro h3⟩
theorem Qv (w:World):ExIn 1 zeroE w:=⟨ZR 10 w,fun a ha=>(nomatch ha),ZR 4 w,fun q hq=>(nomatch hq)⟩
structure PlN (n:Nat) (p:Pl):Prop where
 b:PlB p
 n:p.fr.n+n≤90
 s:0<p.tb.n→True
def GE (n:Nat):Prop:=∀ (M:Nat→Prop) (T:Nat) (w:World) (hM:∀ b,M b→b<w.heap.size) (ht:Tp w T) (hMT:∀ b,M b→T≤b) (p:Pl) (want depth:Int) (hp:Ro w (Mut M [.tp T]) (Zg p)) (hW:Ro w (Mut M [.tp T]) Wds) (hT:1<T) (hB:PlN n p) (hd:depth≤n) (hd2:-100≤depth),
 Calls Tryz.prog 99 #[.pointer (some ⟨T,0,none⟩),p.val,.int .i64 want,.int .i64 depth] w fun e w' =>Jl w T M (n+2) e w'
def GQ (n:Nat):Prop:=∀ (M:Nat→Prop) (T:Nat) (w:World) (hM:∀ b,M b→b<w.heap.size) (ht:Tp w T) (hMT:∀ b,M b→T≤b) (p:Pl) (kind depth:Int) (hp:Ro w (Mut M [.tp T]) (Zg p)) (hW:Ro w (Mut M [.tp T]) Wds) (hT:1<T) (hB:PlN n p) (hd:depth≤n) (hd2:1≤depth) (hs:0<p.tb.n) (hk:I64 kind) (hk1:1≤kind),
 Calls Tryz.prog 155 #[.pointer (some ⟨T,0,none⟩),p.val,.int .i64 kind,.int .i64 depth] w fun e w' =>Jl w T M (n+2) e w'
def GC (n:Nat):Prop:=∀ (M:Nat→Prop) (T:Nat) (w:World) (hM:∀ b,M b→b<w.heap.size) (ht:Tp w T) (hMT:∀ b,M b→T≤b) (p:Pl) (depth:Int) (hp:Ro w (Mut M [.tp T]) (Zg p)) (hW:Ro w (Mut M [.tp T]) Wds) (hT:1<T) (hB:PlN n p) (hd:depth≤n) (hd2:1≤depth),
 Calls Tryz.prog 156 #[.pointer (some ⟨T,0,none⟩),p.val,.int .i64 depth] w fun e w' =>Jl w T M (n+2) e w'
set_option maxRecDepth 100000 in
set_option maxHeartbeats 16000000 in
theorem Za7 {n:Nat} (hE:∀ m,n=m+1→GE m) (hQ:1≤n→GQ n) (hC:1≤n→GC n):GE n:=by
 intro M T w hM ht hMT p want depth hp hW hT hB hd hd2
 obtain ⟨⟨fA,fn,fc,fl⟩,⟨sA,sn,sc,sl⟩⟩:=p
 have KS:=((((Hold.YY M w T hM ht hMT).add hW).add (hp.less (by simp [ZG,Mut,Hp.foot]))).Za #[.slice fA fn fc,.slice sA sn sc] 177).alloc #[.int .i64 0,.int .i64 0,.bool false,.int .i64 0,.int .i64 0,.string ⟨#[]⟩,.string ⟨#[]⟩,.string ⟨#[]⟩,.slice none 0 0,.slice none 0 0] 126
 rw [World.size_alloc] at KS
 obtain ⟨gp,hgp⟩:∃ g,g=w.heap.size:=⟨_,rfl⟩
 rw [←hgp] at KS
 obtain ⟨gr,hgr⟩:∃ g,g=gp+1:=⟨_,rfl⟩
 rw [←hgr] at KS
 have HBB:=hid hB
 simp only [Pl.val]
 clear hp hW hB
 go_enter Tryz.func99,Tryz.ntmps99
 go_wp2_with fail
 rw [←hgp]
 try rw [←hgr]
 have HG:=hid (And.intro hgp hgr)
 clear hgp hgr
 refine (ZQ T 6 _ (KS.tp_ 4 rfl) (by omega) (by omega)).mono ?_
 rintro e w1 ⟨k,rfl,k0,k1,t1,g1⟩
 have K1:=Hold.Zf KS 4 rfl g1 t1
 clear KS g1 t1
 go_upto_region 2 with fail
 go_cut [19] (fun s9 wx=>s9=.bool (decide (4≤k∧0<depth))∧Hold M (some T) w wx [.blk gr 126 #[.int .i64 0,.int .i64 0,.bool false,.int .i64 0,.int .i64 0,.string ⟨#[]⟩,.string ⟨#[]⟩,.string ⟨#[]⟩,.slice none 0 0,.slice none 0 0],.cst gp 177 #[.slice fA fn fc,.slice sA sn sc],.ro (Zg ⟨⟨fA,fn,fc,fl⟩,⟨sA,sn,sc,sl⟩⟩),.ro Wds,.tp T])
 case first=>
  by_cases h4:4≤k
  ·by_cases h5:0<depth
   ·go_wp2_with fail
    all_goals first
     | (exfalso;omega)
     | (go_meet;exact ⟨by simp [h4,h5],K1⟩)
   ·go_wp2_with fail
    all_goals first
     | (exfalso;omega)
     | (go_meet;exact ⟨by simp [h4,h5],K1⟩)
  ·go_wp2_with fail
   all_goals first
    | (exfalso;omega)
    | (go_meet;exact ⟨by simp;omega,K1⟩)
 case rest=>
  obtain ⟨rfl,K2⟩:=hcut
  clear K1
  go_upto_if 19 with (fail)
  go_cut [9] (fun s9 wx=>∃ q:Int,s9=.int .i64 q∧0≤q∧q<6∧Hold M (some T) w wx [.blk gr 126 #[.int .i64 0,.int .i64 0,.bool false,.int .i64 0,.int .i64 0,.string ⟨#[]⟩,.string ⟨#[]⟩,.string ⟨#[]⟩,.slice none 0 0,.slice none 0 0],.cst gp 177 #[.slice fA fn fc,.slice sA sn sc],.ro (Zg ⟨⟨fA,fn,fc,fl⟩,⟨sA,sn,sc,sl⟩⟩),.ro Wds,.tp T])
  case first=>
   by_cases h4:4≤k∧0<depth
   ·go_wp2_with fail
    refine (ZQ T 4 _ (K2.tp_ 4 rfl) (by omega) (by omega)).mono ?_
    rintro e w2 ⟨r,rfl,r0,r1,t2,g2⟩
    have K3:=Hold.Zf K2 4 rfl g2 t2
    go_wp2_with fail
    go_meet
    exact ⟨r,rfl,r0,by omega,K3⟩
   ·go_wp2_with fail
    go_meet
    exact ⟨k,rfl,k0,k1,K2⟩
  case rest=>
   obtain ⟨q,rfl,q0,q1,K3⟩:=hcut
   clear K2 k0 k1
   go_upto_region 4 with fail
   go_cut [27] (fun s9 wx=>s9=.bool (decide (depth≤0∨3≤q))∧Hold M (some T) w wx [.blk gr 126 #[.int .i64 0,.int .i64 0,.bool false,.int .i64 0,.int .i64 0,.string ⟨#[]⟩,.string ⟨#[]⟩,.string ⟨#[]⟩,.slice none 0 0,.slice none 0 0],.cst gp 177 #[.slice fA fn fc,.slice sA sn sc],.ro (Zg ⟨⟨fA,fn,fc,fl⟩,⟨sA,sn,sc,sl⟩⟩),.ro Wds,.tp T])
   case first=>
    by_cases h4:depth≤0
    ·go_wp2_with fail
     all_goals first
      | (exfalso;omega)
      | (go_meet;exact ⟨by simp [h4],K3⟩)
    ·by_cases h5:3≤q
     ·go_wp2_with fail
      all_goals first
       | (exfalso;omega)
       | (go_meet;exact ⟨by simp [h4,h5],K3⟩)
     ·go_wp2_with fail
      all_goals first
       | (exfalso;omega)
       | (go_meet;exact ⟨by simp [h4,h5],K3⟩)
   case rest=>
    obtain ⟨rfl,K4⟩:=hcut
    clear K3
    by_cases hleaf:depth≤0∨3≤q
    ·have hlb:decide (depth≤0∨3≤q)=true:=by simpa using hleaf
     have F4:=K4.facts
     simp only [zg] at F4
     go_wp2_with fail
     refine (Qn (Mut M _) T _ K4.Zc (K4.tp_ 4 rfl) (K4.get 4 rfl).2 ⟨⟨fA,fn,fc,fl⟩,⟨sA,sn,sc,sl⟩⟩ want ((K4.ro 2 rfl).less (Zj (i:=4) rfl)) HBB.out.b).mono ?_
     rintro e w3 ⟨x,ok,rfl,hx,t3,g3⟩
     have K5:=(Hold.Zf K4 4 rfl g3 t3).Za #[.int .i64 x.kind,.int .i64 x.op,.bool x.nt,.int .i64 x.v.k,.int .i64 x.v.i,.string x.v.s,.string x.tab,.string x.nm,.slice x.A x.n x.c,.slice x.B x.m x.d] 126
     obtain ⟨gx,hgx⟩:∃ g,g=w3.heap.size:=⟨_,rfl⟩
     rw [←hgx] at K5
     have HXX:=hid hx
     clear K4 F4 g3 t3 hx
     have F5:=K5.facts
     simp only [zg] at F5
     rw [show x.val=.agg #[.int .i64 x.kind,.int .i64 x.op,.bool x.nt,.int .i64 x.v.k,.int .i64 x.v.i,.string x.v.s,.string x.tab,.string x.nm,.slice x.A x.n x.c,.slice x.B x.m x.d] from rfl]
     go_upto_region 6 with fail
     rw [←hgx]
     have HGX:=hid hgx
     clear hgx
     go_cut [40] (fun s9 wx=>∃ b:Bool,s9=.bool b∧(b=true→ok=true)∧Hold M (some T) w wx [.cst gx 126 #[.int .i64 x.kind,.int .i64 x.op,.bool x.nt,.int .i64 x.v.k,.int .i64 x.v.i,.string x.v.s,.string x.tab,.string x.nm,.slice x.A x.n x.c,.slice x.B x.m x.d],.blk gr 126 #[.int .i64 0,.int .i64 0,.bool false,.int .i64 0,.int .i64 0,.string ⟨#[]⟩,.string ⟨#[]⟩,.string ⟨#[]⟩,.slice none 0 0,.slice none 0 0],.cst gp 177 #[.slice fA fn fc,.slice sA sn sc],.ro (Zg ⟨⟨fA,fn,fc,fl⟩,⟨sA,sn,sc,sl⟩⟩),.ro Wds,.tp T])
     case first=>
      cases ok
      ·go_wp2_with fail
       all_goals (go_meet;exact ⟨false,rfl,fun h=>(nomatch h),K5⟩)
      ·go_wp2_with fail
       refine (ZZ T 3 _ (K5.tp_ 5 rfl) (by omega) (by omega)).mono ?_
       rintro e w4 ⟨b,rfl,t4,g4⟩
       have K6:=Hold.Zf K5 5 rfl g4 t4
       go_wp2_with fail
       all_goals (go_meet;exact ⟨!b,by first|rfl|simp,fun _=>(by first|trivial|rfl),K6⟩)
     case rest=>
      obtain ⟨b,rfl,hbok,K6⟩:=hcut
      have HBO:=hid hbok
      clear K5 F5 hbok
      cases b
      ·have K7:=K6.drop (List.sublist_cons_self _ _)
       clear K6
       go_wp2_with fail
       refine (ZZ T 8 _ (K7.tp_ 4 rfl) (by omega) (by omega)).mono ?_
       rintro e w4 ⟨b8,rfl,t4,g4⟩
       have K8:=Hold.Zf K7 4 rfl g4 t4
       clear K7 g4 t4
       cases b8
       ·by_cases h1:want=1
        ·have h1b:(want==1)=true:=by simp [h1]
         go_wp2_with fail
         all_goals first
          | (exfalso;contradiction)
          | skip
         refine (Vd T _ (K8.tp_ 4 rfl)).mono ?_
         rintro e w5 ⟨z,rfl,z0,z1,t5,g5⟩
         have KB:=Hold.Zf K8 4 rfl g5 t5
         clear K8 g5 t5
         go_wp2_with fail
         refine (XG _ _ KB.Zc z (by omega)).mono ?_
         rintro e w6 ⟨y,rfl,hy,ry,b6⟩
         have HY:=hid (Xw hy (by omega) (by omega))
         have KC:Hold M (some T) w w6 [.blk gr 126 #[.int .i64 0,.int .i64 0,.bool false,.int .i64 0,.int .i64 0,.string ⟨#[]⟩,.string ⟨#[]⟩,.string ⟨#[]⟩,.slice none 0 0,.slice none 0 0],.cst gp 177 #[.slice fA fn fc,.slice sA sn sc],.ro (Zg ⟨⟨fA,fn,fc,fl⟩,⟨sA,sn,sc,sl⟩⟩),.ro Wds,.tp T,.ro (ExIn 2 y)]:=((KB.call b6).add ry).pick [1,2,3,4,5,0] (by decide) rfl
         clear KB b6 ry hy
         have K9:=KC
         have F9:=K9.facts
         simp only [zg] at F9
         have KA:=((((((((((K9.store 0 rfl 0 (.int .i64 y.kind)).store 0 rfl 1 (.int .i64 y.op)).store 0 rfl 2 (.bool y.nt)).store 0 rfl 3 (.int .i64 y.v.k)).store 0 rfl 4 (.int .i64 y.v.i)).store 0 rfl 5 (.string y.v.s)).store 0 rfl 6 (.string y.tab)).store 0 rfl 7 (.string y.nm)).store 0 rfl 8 (.slice y.A y.n y.c)).store 0 rfl 9 (.slice y.B y.m y.d))
         simp only [zl] at KA
         have FA:=KA.facts
         simp only [zg] at FA
         have HR:=hid ((KA.ro 5 rfl).less zm)
         have HT:=hid (And.intro (KA.tp_ 4 rfl) KA.grow)
         rw [show y.val=.agg #[.int .i64 y.kind,.int .i64 y.op,.bool y.nt,.int .i64 y.v.k,.int .i64 y.v.i,.string y.v.s,.string y.tab,.string y.nm,.slice y.A y.n y.c,.slice y.B y.m y.d] from rfl]
         clear K9 KA
         go_wp2_with fail
         refine bodyPost_ret (v:=.agg #[.int .i64 y.kind,.int .i64 y.op,.bool y.nt,.int .i64 y.v.k,.int .i64 y.v.i,.string y.v.s,.string y.tab,.string y.nm,.slice y.A y.n y.c,.slice y.B y.m y.d]) ?_ rfl ?_
         ·clear HT HR
          simp [results,Tryz.results99,go_sem,FA]
         ·exact ⟨y,rfl,HY.out.le (by omega),HR.out.imp (fun w2 h2=>h2.le (by omega)),HT.out.1,HT.out.2⟩
        ·have h1b:(want==1)=false:=by simpa using h1
         go_wp2_with fail
         all_goals first
          | (exfalso;contradiction)
          | skip
         refine (UB T want _ (K8.tp_ 4 rfl) (K8.ro 3 rfl).now hT).mono ?_
         rintro e w5 ⟨vk,vi,vs,rfl,hv,hs,hvi,t5,-,g5⟩
         have KB:=Hold.Zf K8 4 rfl g5 t5
         have HVK:=hid (Jy hv)
         clear K8 g5 t5
         go_wp2_with fail
         refine (WZ _ ⟨vk,vi,vs⟩).mono ?_
         rintro e w6 ⟨rfl,b6⟩
         have KC:Hold M (some T) w w6 [.blk gr 126 #[.int .i64 0,.int .i64 0,.bool false,.int .i64 0,.int .i64 0,.string ⟨#[]⟩,.string ⟨#[]⟩,.string ⟨#[]⟩,.slice none 0 0,.slice none 0 0],.cst gp 177 #[.slice fA fn fc,.slice sA sn sc],.ro (Zg ⟨⟨fA,fn,fc,fl⟩,⟨sA,sn,sc,sl⟩⟩),.ro Wds,.tp T,.ro (ExIn 1 (Zz ⟨vk,vi,vs⟩))]:=((KB.call b6).add (S:=ExIn 1 (Zz ⟨vk,vi,vs⟩)) (fun w2 _ _=>WB _ _)).pick [1,2,3,4,5,0] (by decide) rfl
         clear KB b6
         have HY:=hid (Wu ⟨vk,vi,vs⟩ HVK.out hvi)
         generalize Zz ⟨vk,vi,vs⟩=y at *
         have K9:=KC
         have F9:=K9.facts
         simp only [zg] at F9
         have KA:=((((((((((K9.store 0 rfl 0 (.int .i64 y.kind)).store 0 rfl 1 (.int .i64 y.op)).store 0 rfl 2 (.bool y.nt)).store 0 rfl 3 (.int .i64 y.v.k)).store 0 rfl 4 (.int .i64 y.v.i)).store 0 rfl 5 (.string y.v.s)).store 0 rfl 6 (.string y.tab)).store 0 rfl 7 (.string y.nm)).store 0 rfl 8 (.slice y.A y.n y.c)).store 0 rfl 9 (.slice y.B y.m y.d))
         simp only [zl] at KA
         have FA:=KA.facts
         simp only [zg] at FA
         have HR:=hid ((KA.ro 5 rfl).less zm)
         have HT:=hid (And.intro (KA.tp_ 4 rfl) KA.grow)
         rw [show y.val=.agg #[.int .i64 y.kind,.int .i64 y.op,.bool y.nt,.int .i64 y.v.k,.int .i64 y.v.i,.string y.v.s,.string y.tab,.string y.nm,.slice y.A y.n y.c,.slice y.B y.m y.d] from rfl]
         clear K9 KA
         go_wp2_with fail
         refine bodyPost_ret (v:=.agg #[.int .i64 y.kind,.int .i64 y.op,.bool y.nt,.int .i64 y.v.k,.int .i64 y.v.i,.string y.v.s,.string y.tab,.string y.nm,.slice y.A y.n y.c,.slice y.B y.m y.d]) ?_ rfl ?_
         ·clear HT HR
          simp [results,Tryz.results99,go_sem,FA]
         ·exact ⟨y,rfl,HY.out.le (by omega),HR.out.imp (fun w2 h2=>h2.le (by omega)),HT.out.1,HT.out.2⟩
       ·go_wp2_with fail
        refine (WZ _ vlZ).mono ?_
        rintro e w6 ⟨rfl,b6⟩
        have KC:Hold M (some T) w w6 [.blk gr 126 #[.int .i64 0,.int .i64 0,.bool false,.int .i64 0,.int .i64 0,.string ⟨#[]⟩,.string ⟨#[]⟩,.string ⟨#[]⟩,.slice none 0 0,.slice none 0 0],.cst gp 177 #[.slice fA fn fc,.slice sA sn sc],.ro (Zg ⟨⟨fA,fn,fc,fl⟩,⟨sA,sn,sc,sl⟩⟩),.ro Wds,.tp T,.ro (ExIn 1 (Zz vlZ))]:=((K8.call b6).add (S:=ExIn 1 (Zz vlZ)) (fun w2 _ _=>WB _ _)).pick [1,2,3,4,5,0] (by decide) rfl
        clear K8 b6
        have HY:=hid (Wu vlZ (Zo 0 (by decide)) (Zo 0 (by decide)))
        generalize Zz vlZ=y at *
        have K9:=KC
        have F9:=K9.facts
        simp only [zg] at F9
        have KA:=((((((((((K9.store 0 rfl 0 (.int .i64 y.kind)).store 0 rfl 1 (.int .i64 y.op)).store 0 rfl 2 (.bool y.nt)).store 0 rfl 3 (.int .i64 y.v.k)).store 0 rfl 4 (.int .i64 y.v.i)).store 0 rfl 5 (.string y.v.s)).store 0 rfl 6 (.string y.tab)).store 0 rfl 7 (.string y.nm)).store 0 rfl 8 (.slice y.A y.n y.c)).store 0 rfl 9 (.slice y.B y.m y.d))
        simp only [zl] at KA
        have FA:=KA.facts
        simp only [zg] at FA
        have HR:=hid ((KA.ro 5 rfl).less zm)
        have HT:=hid (And.intro (KA.tp_ 4 rfl) KA.grow)
        rw [show y.val=.agg #[.int .i64 y.kind,.int .i64 y.op,.bool y.nt,.int .i64 y.v.k,.int .i64 y.v.i,.string y.v.s,.string y.tab,.string y.nm,.slice y.A y.n y.c,.slice y.B y.m y.d] from rfl]
        clear K9 KA
        go_wp2_with fail
        refine bodyPost_ret (v:=.agg #[.int .i64 y.kind,.int .i64 y.op,.bool y.nt,.int .i64 y.v.k,.int .i64 y.v.i,.string y.v.s,.string y.tab,.string y.nm,.slice y.A y.n y.c,.slice y.B y.m y.d]) ?_ rfl ?_
        ·clear HT HR
         simp [results,Tryz.results99,go_sem,FA]
        ·exact ⟨y,rfl,HY.out.le (by omega),HR.out.imp (fun w2 h2=>h2.le (by omega)),HT.out.1,HT.out.2⟩
      ·skip
       have F6:=K6.facts
       simp only [zg] at F6
       have K7:=((((((((((K6.store 1 rfl 0 (.int .i64 x.kind)).store 1 rfl 1 (.int .i64 x.op)).store 1 rfl 2 (.bool x.nt)).store 1 rfl 3 (.int .i64 x.v.k)).store 1 rfl 4 (.int .i64 x.v.i)).store 1 rfl 5 (.string x.v.s)).store 1 rfl 6 (.string x.tab)).store 1 rfl 7 (.string x.nm)).store 1 rfl 8 (.slice x.A x.n x.c)).store 1 rfl 9 (.slice x.B x.m x.d))
       simp only [zl] at K7
       have F7:=K7.facts
       simp only [zg] at F7
       have HT:=hid (And.intro (K7.tp_ 5 rfl) K7.grow)
       clear K6 K7
       go_wp2_with fail
       refine bodyPost_ret (v:=.agg #[.int .i64 x.kind,.int .i64 x.op,.bool x.nt,.int .i64 x.v.k,.int .i64 x.v.i,.string x.v.s,.string x.tab,.string x.nm,.slice x.A x.n x.c,.slice x.B x.m x.d]) ?_ rfl ?_
       ·clear HT
        simp [results,Tryz.results99,go_sem,F7]
       ·refine ⟨x,rfl,?_,?_,HT.out.1,HT.out.2⟩
        ·rcases HXX.out with ⟨h1,rfl⟩|⟨ct,cn,rfl⟩
         ·have h2:ok=true:=(by simpa using HBO.out);rw [h2] at h1;exact absurd h1 (by decide)
         ·exact (Xa ct cn).le (by omega)
        ·rcases HXX.out with ⟨h1,rfl⟩|⟨ct,cn,rfl⟩
         ·exact fun w2 _ _=>(Qv w2).le (by omega)
         ·exact fun w2 _ _=>(Xc ct cn w2).le (by omega)
    ·have hd1:1≤depth:=by omega
     have hq3:q<3:=by omega
     have hlb:decide (depth≤0∨3≤q)=false:=by simpa using hleaf
     obtain ⟨m,rfl⟩:∃ m,n=m+1:=⟨n - 1,by omega⟩
     have HQ:=hQ (by omega)
     have HC:=hC (by omega)
     have HE:=hE m rfl
     have F4:=K4.facts
     simp only [zg] at F4
     by_cases hw2:want=2
     ·subst hw2
      by_cases hqs:q=0∧0<sn
      ·obtain ⟨rfl,hs0⟩:=hqs
       have hsb:decide (0<sn)=true:=by simpa using hs0
       go_wp2_with fail
       refine (ZZ T 2 _ (K4.tp_ 4 rfl) (by omega) (by omega)).mono ?_
       rintro e w4 ⟨b2,rfl,t4,g4⟩
       have K5:=Hold.Zf K4 4 rfl g4 t4
       clear K4 F4 g4 t4
       have F5:=K5.facts
       simp only [zg] at F5
       cases b2
       ·go_wp2_with fail
        refine (HC (Mut M _) T _ K5.Zc (K5.tp_ 4 rfl) (K5.get 4 rfl).2 ⟨⟨fA,fn,fc,fl⟩,⟨sA,sn,sc,sl⟩⟩ depth ((K5.ro 2 rfl).less (Zj (i:=4) rfl)) ((K5.ro 3 rfl).less (Zj (i:=4) rfl)) hT HBB.out hd hd1).mono ?_
        rintro e w5 ⟨y,rfl,hy,ry,tY,gY⟩
        have HY:=hid hy
        have KC:Hold M (some T) w w5 [.blk gr 126 #[.int .i64 0,.int .i64 0,.bool false,.int .i64 0,.int .i64 0,.string ⟨#[]⟩,.string ⟨#[]⟩,.string ⟨#[]⟩,.slice none 0 0,.slice none 0 0],.cst gp 177 #[.slice fA fn fc,.slice sA sn sc],.ro (Zg ⟨⟨fA,fn,fc,fl⟩,⟨sA,sn,sc,sl⟩⟩),.ro Wds,.tp T,.ro (ExIn (m+1+2) y)]:=((Hold.Zf K5 4 rfl gY tY).add ry).pick [1,2,3,4,5,0] (by decide) rfl
        clear K5 hy ry tY gY
        have K9:=KC
        have F9:=K9.facts
        simp only [zg] at F9
        have KA:=((((((((((K9.store 0 rfl 0 (.int .i64 y.kind)).store 0 rfl 1 (.int .i64 y.op)).store 0 rfl 2 (.bool y.nt)).store 0 rfl 3 (.int .i64 y.v.k)).store 0 rfl 4 (.int .i64 y.v.i)).store 0 rfl 5 (.string y.v.s)).store 0 rfl 6 (.string y.tab)).store 0 rfl 7 (.string y.nm)).store 0 rfl 8 (.slice y.A y.n y.c)).store 0 rfl 9 (.slice y.B y.m y.d))
        simp only [zl] at KA
        have FA:=KA.facts
        simp only [zg] at FA
        have HR:=hid ((KA.ro 5 rfl).less zm)
        have HT:=hid (And.intro (KA.tp_ 4 rfl) KA.grow)
        rw [show y.val=.agg #[.int .i64 y.kind,.int .i64 y.op,.bool y.nt,.int .i64 y.v.k,.int .i64 y.v.i,.string y.v.s,.string y.tab,.string y.nm,.slice y.A y.n y.c,.slice y.B y.m y.d] from rfl]
        clear K9 KA
        go_wp2_with fail
        refine bodyPost_ret (v:=.agg #[.int .i64 y.kind,.int .i64 y.op,.bool y.nt,.int .i64 y.v.k,.int .i64 y.v.i,.string y.v.s,.string y.tab,.string y.nm,.slice y.A y.n y.c,.slice y.B y.m y.d]) ?_ rfl ?_
        ·clear HT HR
         simp [results,Tryz.results99,go_sem,FA]
        ·exact ⟨y,rfl,HY.out,HR.out.imp (fun w2 h2=>h2.le (by omega)),HT.out.1,HT.out.2⟩
       ·go_wp2_with fail
        refine (HQ (Mut M _) T _ K5.Zc (K5.tp_ 4 rfl) (K5.get 4 rfl).2 ⟨⟨fA,fn,fc,fl⟩,⟨sA,sn,sc,sl⟩⟩ 8 depth ((K5.ro 2 rfl).less (Zj (i:=4) rfl)) ((K5.ro 3 rfl).less (Zj (i:=4) rfl)) hT HBB.out hd hd1 hs0 (Zo 8 (by decide)) (by decide)).mono ?_
        rintro e w5 ⟨y,rfl,hy,ry,tY,gY⟩
        have HY:=hid hy
        have KC:Hold M (some T) w w5 [.blk gr 126 #[.int .i64 0,.int .i64 0,.bool false,.int .i64 0,.int .i64 0,.string ⟨#[]⟩,.string ⟨#[]⟩,.string ⟨#[]⟩,.slice none 0 0,.slice none 0 0],.cst gp 177 #[.slice fA fn fc,.slice sA sn sc],.ro (Zg ⟨⟨fA,fn,fc,fl⟩,⟨sA,sn,sc,sl⟩⟩),.ro Wds,.tp T,.ro (ExIn (m+1+2) y)]:=((Hold.Zf K5 4 rfl gY tY).add ry).pick [1,2,3,4,5,0] (by decide) rfl
        clear K5 hy ry tY gY
        have K9:=KC
        have F9:=K9.facts
        simp only [zg] at F9
        have KA:=((((((((((K9.store 0 rfl 0 (.int .i64 y.kind)).store 0 rfl 1 (.int .i64 y.op)).store 0 rfl 2 (.bool y.nt)).store 0 rfl 3 (.int .i64 y.v.k)).store 0 rfl 4 (.int .i64 y.v.i)).store 0 rfl 5 (.string y.v.s)).store 0 rfl 6 (.string y.tab)).store 0 rfl 7 (.string y.nm)).store 0 rfl 8 (.slice y.A y.n y.c)).store 0 rfl 9 (.slice y.B y.m y.d))
        simp only [zl] at KA
        have FA:=KA.facts
        simp only [zg] at FA
        have HR:=hid ((KA.ro 5 rfl).less zm)
        have HT:=hid (And.intro (KA.tp_ 4 rfl) KA.grow)
        rw [show y.val=.agg #[.int .i64 y.kind,.int .i64 y.op,.bool y.nt,.int .i64 y.v.k,.int .i64 y.v.i,.string y.v.s,.string y.tab,.string y.nm,.slice y.A y.n y.c,.slice y.B y.m y.d] from rfl]
        clear K9 KA
        go_wp2_with fail
        refine bodyPost_ret (v:=.agg #[.int .i64 y.kind,.int .i64 y.op,.bool y.nt,.int .i64 y.v.k,.int .i64 y.v.i,.string y.v.s,.string y.tab,.string y.nm,.slice y.A y.n y.c,.slice y.B y.m y.d]) ?_ rfl ?_
        ·clear HT HR
         simp [results,Tryz.results99,go_sem,FA]
        ·exact ⟨y,rfl,HY.out,HR.out.imp (fun w2 h2=>h2.le (by omega)),HT.out.1,HT.out.2⟩
      ·have hqb:((q==0)&&decide (0<sn))=false:=by
        rw [Bool.eq_false_iff]
        intro h
        simp only [Bool.and_eq_true,beq_iff_eq,decide_eq_true_eq] at h
        exact hqs h
       go_wp2_with fail
       all_goals
        clear F4
        refine (HC (Mut M _) T _ K4.Zc (K4.tp_ 4 rfl) (K4.get 4 rfl).2 ⟨⟨fA,fn,fc,fl⟩,⟨sA,sn,sc,sl⟩⟩ depth ((K4.ro 2 rfl).less (Zj (i:=4) rfl)) ((K4.ro 3 rfl).less (Zj (i:=4) rfl)) hT HBB.out hd hd1).mono ?_
        rintro e w5 ⟨y,rfl,hy,ry,tY,gY⟩
        have HY:=hid hy
        have KC:Hold M (some T) w w5 [.blk gr 126 #[.int .i64 0,.int .i64 0,.bool false,.int .i64 0,.int .i64 0,.string ⟨#[]⟩,.string ⟨#[]⟩,.string ⟨#[]⟩,.slice none 0 0,.slice none 0 0],.cst gp 177 #[.slice fA fn fc,.slice sA sn sc],.ro (Zg ⟨⟨fA,fn,fc,fl⟩,⟨sA,sn,sc,sl⟩⟩),.ro Wds,.tp T,.ro (ExIn (m+1+2) y)]:=((Hold.Zf K4 4 rfl gY tY).add ry).pick [1,2,3,4,5,0] (by decide) rfl
        clear K4 hy ry tY gY
        have K9:=KC
        have F9:=K9.facts
        simp only [zg] at F9
        have KA:=((((((((((K9.store 0 rfl 0 (.int .i64 y.kind)).store 0 rfl 1 (.int .i64 y.op)).store 0 rfl 2 (.bool y.nt)).store 0 rfl 3 (.int .i64 y.v.k)).store 0 rfl 4 (.int .i64 y.v.i)).store 0 rfl 5 (.string y.v.s)).store 0 rfl 6 (.string y.tab)).store 0 rfl 7 (.string y.nm)).store 0 rfl 8 (.slice y.A y.n y.c)).store 0 rfl 9 (.slice y.B y.m y.d))
        simp only [zl] at KA
        have FA:=KA.facts
        simp only [zg] at FA
        have HR:=hid ((KA.ro 5 rfl).less zm)
        have HT:=hid (And.intro (KA.tp_ 4 rfl) KA.grow)
        rw [show y.val=.agg #[.int .i64 y.kind,.int .i64 y.op,.bool y.nt,.int .i64 y.v.k,.int .i64 y.v.i,.string y.v.s,.string y.tab,.string y.nm,.slice y.A y.n y.c,.slice y.B y.m y.d] from rfl]
        clear K9 KA
        go_wp2_with fail
        refine bodyPost_ret (v:=.agg #[.int .i64 y.kind,.int .i64 y.op,.bool y.nt,.int .i64 y.v.k,.int .i64 y.v.i,.string y.v.s,.string y.tab,.string y.nm,.slice y.A y.n y.c,.slice y.B y.m y.d]) ?_ rfl ?_
        ·clear HT HR
         simp [results,Tryz.results99,go_sem,FA]
        ·exact ⟨y,rfl,HY.out,HR.out.imp (fun w2 h2=>h2.le (by omega)),HT.out.1,HT.out.2⟩
     ·by_cases hw1:want=1
      ·subst hw1
       have HBE:=hid (show PlN m ⟨⟨fA,fn,fc,fl⟩,⟨sA,sn,sc,sl⟩⟩ from ⟨HBB.out.b,by have:=HBB.out.n;omega,fun _=>trivial⟩)
       by_cases hqs:q=0∧0<sn
       ·obtain ⟨rfl,hs0⟩:=hqs
        have hsb:decide (0<sn)=true:=by simpa using hs0
        obtain ⟨KL,hKL⟩:∃ KL:List Hp,KL=[.blk gr 126 #[.int .i64 0,.int .i64 0,.bool false,.int .i64 0,.int .i64 0,.string ⟨#[]⟩,.string ⟨#[]⟩,.string ⟨#[]⟩,.slice none 0 0,.slice none 0 0],.cst gp 177 #[.slice fA fn fc,.slice sA sn sc],.ro (Zg ⟨⟨fA,fn,fc,fl⟩,⟨sA,sn,sc,sl⟩⟩),.ro Wds,.tp T]:=⟨_,rfl⟩
        have hcast:∀ (L1:List Hp) (wz:World),Hold M (some T) w wz L1→L1=KL→Hold M (some T) w wz KL:=fun _ _ h e=>e ▸ h
        have K5:=hcast _ _ K4 hKL.symm
        have H1:∀ wv:World,Hold M (some T) w wv KL→Blk wv gp 177 #[.slice fA fn fc,.slice sA sn sc]:=fun wv h=>by rw [hKL] at h;exact h.ZB 1 rfl
        have H2:∀ wv:World,Hold M (some T) w wv KL→Ro wv (Mut M KL) (Zg ⟨⟨fA,fn,fc,fl⟩,⟨sA,sn,sc,sl⟩⟩)∧Ro wv (Mut M KL) Wds∧Tp wv T∧∀ b,(Mut M KL) b→T≤b:=fun wv h=>by rw [hKL] at h ⊢;exact ⟨h.ro 2 rfl,h.ro 3 rfl,h.tp_ 4 rfl,(h.get 4 rfl).2⟩
        have h4:KL[4]? =some (.tp T):=by rw [hKL];rfl
        have HH1:=hid H1
        have HH2:=hid H2
        have HH4:=hid h4
        have HKL:=hid hKL
        clear hKL hcast H1 H2 h4 K4
        go_wp2_with fail
        clear F4
        refine wp_region_any (by kernel_rfl) ?_
        refine ZH 7 135 (KL) (spL [(70,fun u _=>Z6 4 u),(73,Zh (Mut M KL) (m+1+2))]) (by kernel_rfl) (by kernel_rfl) (by kernel_rfl) rfl ?_ (K5.drew) ?_
        ·exact Ze (fun _ _ _ _ h=>h) (Ze Z7 (ZF _))
        simp only [zd,Act.put,List.getElem_toArray,List.getElem_cons_zero,List.getElem_cons_succ,zl]
        refine' dv rfl rfl rfl (fun wv HC=>?_) ?_;rotate_left
        · go_simp<;>rfl
        simp only [Act.put,zl]
        refine' dv rfl rfl rfl (fun wv HC=>?_) ?_;rotate_left
        ·obtain q0:=(HH1.out _ HC).cell 0;obtain q1:=(HH1.out _ HC).cell 1;go_simp<;>rfl
        simp only [Act.put,zl]
        refine' dv rfl rfl rfl (fun wv HC=>?_) ?_;rotate_left
        · go_simp<;>rfl
        simp only [Act.put,zl]
        refine Yk 4 4 HH4.out 70 rfl rfl rfl rfl (fun wv=>?_) (fun r hr=>?_)
        ·go_simp<;>rfl
        have r4:(r:Int)<4:=by omega
        have r0:(0:Int)≤(r:Int):=by omega
        have hw9:IntKind.i64.wrap (9+(r:Int))=9+r:=IntWalk.i64_in _ (by omega)
        iterate 2
         refine' dv rfl rfl rfl (fun wv HC=>?_) ?_;rotate_left
         · go_simp<;>rfl
         simp only [Act.put,zl]
        refine Zq 73 (Zh (Mut M KL) (m+1+2)) (f:=155) (args:=#[.pointer (some ⟨T,0,none⟩),.agg #[.slice fA fn fc,.slice sA sn sc],.int .i64 (9+r),.int .i64 depth]) rfl rfl rfl rfl (fun wv=>?_) (fun wv HC hrm hD=>?_) ?_
        ·go_simp<;>rfl
        ·obtain ⟨X0,X1,X2,X3⟩:=HH2.out _ HC
         refine (HQ (Mut M KL) T wv HC.Zc X2 X3 ⟨⟨fA,fn,fc,fl⟩,⟨sA,sn,sc,sl⟩⟩ (9+r) depth (X0.less (Zj HH4.out)) (X1.less (Zj HH4.out)) hT HBB.out hd (by omega) hs0 ⟨by omega,by omega⟩ (by omega)).mono ?_
         rintro e w5 ⟨x,rfl,hx,rx,t5,g5⟩
         exact ⟨_,rfl,⟨x,rfl,hx,rx⟩,Hold.Zf HC 4 HH4.out g5 t5,RM.grown g5 (.inr ⟨_,List.mem_of_getElem? HH4.out,rfl⟩)⟩
        rintro u wx HCx ⟨x,rfl,hx,rx⟩
        clear HCx hx rx
        simp only [Act.put,zl]
        refine ZE ?_
        rintro wx2 HX
        rintro _hrm HG
        have hu:Zh (Mut M KL) (m+1+2) x.val wx2:=(Zp (d:=73) rfl).1 (HG 6 _ rfl (by omega))
        clear HG _hrm
        obtain ⟨y,hy,hok,hro⟩:=hu
        rw [HKL.out] at HX hro
        have KC:Hold M (some T) w wx2 [.blk gr 126 #[.int .i64 0,.int .i64 0,.bool false,.int .i64 0,.int .i64 0,.string ⟨#[]⟩,.string ⟨#[]⟩,.string ⟨#[]⟩,.slice none 0 0,.slice none 0 0],.cst gp 177 #[.slice fA fn fc,.slice sA sn sc],.ro (Zg ⟨⟨fA,fn,fc,fl⟩,⟨sA,sn,sc,sl⟩⟩),.ro Wds,.tp T,.ro (ExIn (m+1+2) y)]:=(HX.add hro).pick [1,2,3,4,5,0] (by decide) rfl
        clear HX hro
        have HY:=hid hok
        clear hok
        rw [hy]
        clear hy x
        have _hh:=HY
        rw [show y.val=.agg #[.int .i64 y.kind,.int .i64 y.op,.bool y.nt,.int .i64 y.v.k,.int .i64 y.v.i,.string y.v.s,.string y.tab,.string y.nm,.slice y.A y.n y.c,.slice y.B y.m y.d] from rfl]
        have K9:=KC
        have F9:=K9.facts
        simp only [zg] at F9
        have KA:=((((((((((K9.store 0 rfl 0 (.int .i64 y.kind)).store 0 rfl 1 (.int .i64 y.op)).store 0 rfl 2 (.bool y.nt)).store 0 rfl 3 (.int .i64 y.v.k)).store 0 rfl 4 (.int .i64 y.v.i)).store 0 rfl 5 (.string y.v.s)).store 0 rfl 6 (.string y.tab)).store 0 rfl 7 (.string y.nm)).store 0 rfl 8 (.slice y.A y.n y.c)).store 0 rfl 9 (.slice y.B y.m y.d))
        simp only [zl] at KA
        have FA:=KA.facts
        simp only [zg] at FA
        have HR:=hid ((KA.ro 5 rfl).less zm)
        have HT:=hid (And.intro (KA.tp_ 4 rfl) KA.grow)
        clear K9 KA
        go_wp2_with fail
        refine bodyPost_ret (v:=.agg #[.int .i64 y.kind,.int .i64 y.op,.bool y.nt,.int .i64 y.v.k,.int .i64 y.v.i,.string y.v.s,.string y.tab,.string y.nm,.slice y.A y.n y.c,.slice y.B y.m y.d]) ?_ rfl ?_
        ·clear HT HR
         simp [results,Tryz.results99,go_sem,FA]
        ·exact ⟨y,rfl,HY.out.le (by omega),HR.out.imp (fun w2 h2=>h2.le (by omega)),HT.out.1,HT.out.2⟩
       ·go_wp2_with fail
        all_goals
         refine (ZZ T 6 _ (K4.tp_ 4 rfl) (by omega) (by omega)).mono ?_
         rintro e w4 ⟨b6,rfl,t4,g4⟩
         have K5:=Hold.Zf K4 4 rfl g4 t4
         clear K4 F4 g4 t4
         have hs1:IntKind.i64.wrap (depth - 1)=depth - 1:=IntWalk.i64_in _ (by have:=HBB.out.n;omega)
         have F5:=K5.facts
         simp only [zg] at F5
         cases b6
         ·obtain ⟨KL,hKL⟩:∃ KL:List Hp,KL=[.blk gr 126 #[.int .i64 0,.int .i64 0,.bool false,.int .i64 0,.int .i64 0,.string ⟨#[]⟩,.string ⟨#[]⟩,.string ⟨#[]⟩,.slice none 0 0,.slice none 0 0],.cst gp 177 #[.slice fA fn fc,.slice sA sn sc],.ro (Zg ⟨⟨fA,fn,fc,fl⟩,⟨sA,sn,sc,sl⟩⟩),.ro Wds,.tp T]:=⟨_,rfl⟩
          have hcast:∀ (L1:List Hp) (wz:World),Hold M (some T) w wz L1→L1=KL→Hold M (some T) w wz KL:=fun _ _ h e=>e ▸ h
          have K6:=hcast _ _ K5 hKL.symm
          have H1:∀ wv:World,Hold M (some T) w wv KL→Blk wv gp 177 #[.slice fA fn fc,.slice sA sn sc]:=fun wv h=>by rw [hKL] at h;exact h.ZB 1 rfl
          have H2:∀ wv:World,Hold M (some T) w wv KL→Ro wv (Mut M KL) (Zg ⟨⟨fA,fn,fc,fl⟩,⟨sA,sn,sc,sl⟩⟩)∧Ro wv (Mut M KL) Wds∧Tp wv T∧∀ b,(Mut M KL) b→T≤b:=fun wv h=>by rw [hKL] at h ⊢;exact ⟨h.ro 2 rfl,h.ro 3 rfl,h.tp_ 4 rfl,(h.get 4 rfl).2⟩
          have h4:KL[4]? =some (.tp T):=by rw [hKL];rfl
          have HH1:=hid H1
          have HH2:=hid H2
          have HH4:=hid h4
          have HKL:=hid hKL
          clear hKL hcast H1 H2 h4 K5
          go_wp2_with fail
          clear F5
          refine wp_region_any (by kernel_rfl) ?_
          refine ZH 17 135 (KL) (spL [(107,IntsSlot (Mut M KL) 6 [9,10,11,9,12,13]),(109,fun u _=>Z6 6 u),(110,Vv (Mut M KL) I64),(111,XP I64),(117,Zh (Mut M KL) (m+2)),(123,Zh (Mut M KL) (m+2))]) (by kernel_rfl) (by kernel_rfl) (by kernel_rfl) rfl ?_ (K6.drew) ?_
          ·exact Ze ZeT (Ze (fun _ _ _ _ h=>h) (Ze Zcf (Ze U8 (Ze Z7 (Ze Z7 (ZF _))))))
          simp only [zd,Act.put,List.getElem_toArray,List.getElem_cons_zero,List.getElem_cons_succ,zl]
          refine Ye #[.int .i64 9,.int .i64 10,.int .i64 11,.int .i64 9,.int .i64 12,.int .i64 13] 3 107 (IntsSlot (Mut M KL) 6 [9,10,11,9,12,13]) (fun g=>.slice (some ⟨g,0,none⟩) 6 6) rfl rfl rfl rfl (fun wv=>?_) (fun wv HC _hrm hD hro=>?_) ?_
          ·go_simp<;>rfl
          ·exact ⟨_,rfl,rfl,ZJ (hro _ HC.Zc) rfl⟩
          rintro g21 wg HCg hg21
          simp only [Act.put,zl]
          clear HCg hg21
          refine' dv rfl rfl rfl (fun wv HC=>?_) ?_;rotate_left
          · go_simp<;>rfl
          simp only [Act.put,zl]
          refine Yk 6 4 HH4.out 109 rfl rfl rfl rfl (fun wv=>?_) (fun r hr=>?_)
          ·go_simp<;>rfl
          have r6:(r:Int)<6:=by omega
          have r0:(0:Int)≤(r:Int):=by omega
          simp only [Act.put,zl]
          refine XW 110 (Vv (Mut M KL) I64) rfl rfl rfl rfl (fun wv HC hD=>?_) ?_
          ·have ha:IntsSlot (Mut M KL) 6 [9,10,11,9,12,13] (.slice (some ⟨g21,0,none⟩) 6 6) wv:=ZV hD 0 rfl (by kernel_rfl) rfl rfl
           refine ⟨.pointer (some ⟨g21,r,none⟩),?_,ha.cell (by intro z hz;simp only [List.mem_cons,List.not_mem_nil,or_false] at hz;rcases hz with rfl|rfl|rfl|rfl|rfl|rfl<;>exact Zo _ (by decide)) hr⟩
           go_simp
          rintro u wx HCx ⟨gz,oz,zz,rfl,hz,-⟩
          clear HCx hz
          simp only [Act.put,zl]
          refine XW 111 (XP I64) rfl rfl rfl rfl (fun wv HC hD=>?_) ?_
          ·obtain ⟨g',o',z,e',hz,hc⟩:Vv (Mut M KL) I64 (.pointer (some ⟨gz,oz,none⟩)) wv:=ZV hD 3 rfl (by kernel_rfl) rfl rfl
           obtain ⟨rfl,rfl⟩:gz=g' ∧oz=o' :=by injection e' with e';injection e' with e';injection e' with e1 e2;exact ⟨e1,e2⟩
           have hc0:=hc.now
           refine ⟨.int .i64 z,?_,⟨z,rfl,hz⟩⟩
           go_simp
          rintro u wx HCx ⟨zop,rfl,hzop⟩
          clear HCx
          have HZOP:=hid hzop
          clear hzop
          simp only [Act.put,zl]
          refine' dv rfl rfl rfl (fun wv HC=>?_) ?_;rotate_left
          · go_simp<;>rfl
          simp only [Act.put,zl]
          refine' dv rfl rfl rfl (fun wv HC=>?_) ?_;rotate_left
          ·obtain q0:=(HH1.out _ HC).cell 0;obtain q1:=(HH1.out _ HC).cell 1;go_simp<;>rfl
          iterate 3
           simp only [Act.put,zl]
           refine' dv rfl rfl rfl (fun wv HC=>?_) ?_;rotate_left
           · go_simp<;>rfl
          simp only [Act.put,zl]
          refine Zq 117 (Zh (Mut M KL) (m+2)) (f:=99) (args:=#[.pointer (some ⟨T,0,none⟩),.agg #[.slice fA fn fc,.slice sA sn sc],.int .i64 1,.int .i64 (depth - 1)]) rfl rfl rfl rfl (fun wv=>?_) (fun wv HC hrm hD=>?_) ?_
          ·go_simp<;>rfl
          ·obtain ⟨X0,X1,X2,X3⟩:=HH2.out _ HC
           refine (HE (Mut M KL) T wv HC.Zc X2 X3 ⟨⟨fA,fn,fc,fl⟩,⟨sA,sn,sc,sl⟩⟩ 1 (depth - 1) (X0.less (Zj HH4.out)) (X1.less (Zj HH4.out)) hT HBE.out (by omega) (by omega)).mono ?_
           rintro e w5 ⟨x,rfl,hx,rx,t5,g5⟩
           exact ⟨_,rfl,⟨x,rfl,hx,rx⟩,Hold.Zf HC 4 HH4.out g5 t5,RM.grown g5 (.inr ⟨_,List.mem_of_getElem? HH4.out,rfl⟩)⟩
          rintro u wx HCx ⟨x,rfl,hx,rx⟩
          clear HCx hx rx
          simp only [Act.put,zl]
          refine' dv rfl rfl rfl (fun wv HC=>?_) ?_;rotate_left
          · go_simp<;>rfl
          simp only [Act.put,zl]
          refine' dv rfl rfl rfl (fun wv HC=>?_) ?_;rotate_left
          ·obtain q0:=(HH1.out _ HC).cell 0;obtain q1:=(HH1.out _ HC).cell 1;go_simp<;>rfl
          iterate 3
           simp only [Act.put,zl]
           refine' dv rfl rfl rfl (fun wv HC=>?_) ?_;rotate_left
           · go_simp<;>rfl
          simp only [Act.put,zl]
          refine Zq 123 (Zh (Mut M KL) (m+2)) (f:=99) (args:=#[.pointer (some ⟨T,0,none⟩),.agg #[.slice fA fn fc,.slice sA sn sc],.int .i64 1,.int .i64 (depth - 1)]) rfl rfl rfl rfl (fun wv=>?_) (fun wv HC hrm hD=>?_) ?_
          ·go_simp<;>rfl
          ·obtain ⟨X0,X1,X2,X3⟩:=HH2.out _ HC
           refine (HE (Mut M KL) T wv HC.Zc X2 X3 ⟨⟨fA,fn,fc,fl⟩,⟨sA,sn,sc,sl⟩⟩ 1 (depth - 1) (X0.less (Zj HH4.out)) (X1.less (Zj HH4.out)) hT HBE.out (by omega) (by omega)).mono ?_
           rintro e w5 ⟨x,rfl,hx,rx,t5,g5⟩
           exact ⟨_,rfl,⟨x,rfl,hx,rx⟩,Hold.Zf HC 4 HH4.out g5 t5,RM.grown g5 (.inr ⟨_,List.mem_of_getElem? HH4.out,rfl⟩)⟩
          rintro u wx HCx ⟨x2,rfl,hx,rx⟩
          clear HCx hx rx
          simp only [Act.put,zl]
          refine ZE ?_
          rintro wx2 HX
          rintro _hrm HG
          have hu:Zh (Mut M KL) (m+2) x.val wx2:=(Zp (d:=117) rfl).1 (HG 10 _ rfl (by omega))
          have hu2:Zh (Mut M KL) (m+2) x2.val wx2:=(Zp (d:=123) rfl).1 (HG 16 _ rfl (by omega))
          clear HG _hrm
          obtain ⟨y1,hy1,hok1,hro1⟩:=hu
          obtain ⟨y2,hy2,hok2,hro2⟩:=hu2
          rw [HKL.out] at HX hro1 hro2
          have HYA:=hid (YE (d:=m+2) (kind:=5) (op:=zop) (nt:=false) (g:=0) (k:=2) (l:=[y1,y2]) (Zo 5 (by decide)) HZOP.out (by omega) (fun z hz=>by
           simp only [List.mem_cons,List.not_mem_nil,or_false] at hz
           rcases hz with rfl|rfl
           ·exact hok1
           ·exact hok2))
          clear hok1 hok2
          rw [hy1,hy2]
          clear hy1 hy2 x x2
          rw [show y1.val=.agg #[.int .i64 y1.kind,.int .i64 y1.op,.bool y1.nt,.int .i64 y1.v.k,.int .i64 y1.v.i,.string y1.v.s,.string y1.tab,.string y1.nm,.slice y1.A y1.n y1.c,.slice y1.B y1.m y1.d] from rfl]
          rw [show y2.val=.agg #[.int .i64 y2.kind,.int .i64 y2.op,.bool y2.nt,.int .i64 y2.v.k,.int .i64 y2.v.i,.string y2.v.s,.string y2.tab,.string y2.nm,.slice y2.A y2.n y2.c,.slice y2.B y2.m y2.d] from rfl]
          go_wp2_with fail
          refine (Xj (Mut M _) _ HX.Zc zop y1 y2 (m+2) hro1 hro2).mono ?_
          rintro e w6 ⟨g6,rfl,ry,b6⟩
          have HYB:=hid (show ExGd (m+1+2) (opE 5 zop false g6 2 [y1,y2]) from HYA.out)
          generalize opE 5 zop false g6 2 [y1,y2]=y at *
          have HY:=HYB
          have KC:Hold M (some T) w w6 [.blk gr 126 #[.int .i64 0,.int .i64 0,.bool false,.int .i64 0,.int .i64 0,.string ⟨#[]⟩,.string ⟨#[]⟩,.string ⟨#[]⟩,.slice none 0 0,.slice none 0 0],.cst gp 177 #[.slice fA fn fc,.slice sA sn sc],.ro (Zg ⟨⟨fA,fn,fc,fl⟩,⟨sA,sn,sc,sl⟩⟩),.ro Wds,.tp T,.ro (ExIn (m+2+1) y)]:=((HX.call b6).add ry).pick [1,2,3,4,5,0] (by decide) rfl
          clear HX hro1 hro2 ry b6 HYA HYB
          rw [show y.val=.agg #[.int .i64 y.kind,.int .i64 y.op,.bool y.nt,.int .i64 y.v.k,.int .i64 y.v.i,.string y.v.s,.string y.tab,.string y.nm,.slice y.A y.n y.c,.slice y.B y.m y.d] from rfl]
          have F9:=KC.facts
          simp only [zg] at F9
          have KA:=((((((((((KC.store 0 rfl 0 (.int .i64 y.kind)).store 0 rfl 1 (.int .i64 y.op)).store 0 rfl 2 (.bool y.nt)).store 0 rfl 3 (.int .i64 y.v.k)).store 0 rfl 4 (.int .i64 y.v.i)).store 0 rfl 5 (.string y.v.s)).store 0 rfl 6 (.string y.tab)).store 0 rfl 7 (.string y.nm)).store 0 rfl 8 (.slice y.A y.n y.c)).store 0 rfl 9 (.slice y.B y.m y.d))
          simp only [zl] at KA
          have FA:=KA.facts
          simp only [zg] at FA
          have HR:=hid ((KA.ro 5 rfl).less zm)
          have HT:=hid (And.intro (KA.tp_ 4 rfl) KA.grow)
          clear KC KA
          go_wp2_with fail
          refine bodyPost_ret (v:=.agg #[.int .i64 y.kind,.int .i64 y.op,.bool y.nt,.int .i64 y.v.k,.int .i64 y.v.i,.string y.v.s,.string y.tab,.string y.nm,.slice y.A y.n y.c,.slice y.B y.m y.d]) ?_ rfl ?_
          ·clear HT HR
           simp [results,Tryz.results99,go_sem,FA]
          ·exact ⟨y,rfl,HY.out.le (by omega),HR.out.imp (fun w2 h2=>h2.le (by omega)),HT.out.1,HT.out.2⟩
         ·go_wp2_with fail
          refine (HE (Mut M _) T _ K5.Zc (K5.tp_ 4 rfl) (K5.get 4 rfl).2 ⟨⟨fA,fn,fc,fl⟩,⟨sA,sn,sc,sl⟩⟩ 1 (depth - 1) ((K5.ro 2 rfl).less (Zj (i:=4) rfl)) ((K5.ro 3 rfl).less (Zj (i:=4) rfl)) hT HBE.out (by omega) (by omega)).mono ?_
          rintro e w5 ⟨x,rfl,hx,rx,tY,gY⟩
          have K7:=((Hold.Zf K5 4 rfl gY tY).add rx).Za #[.int .i64 x.kind,.int .i64 x.op,.bool x.nt,.int .i64 x.v.k,.int .i64 x.v.i,.string x.v.s,.string x.tab,.string x.nm,.slice x.A x.n x.c,.slice x.B x.m x.d] 126
          rw [show x.val=.agg #[.int .i64 x.kind,.int .i64 x.op,.bool x.nt,.int .i64 x.v.k,.int .i64 x.v.i,.string x.v.s,.string x.tab,.string x.nm,.slice x.A x.n x.c,.slice x.B x.m x.d] from rfl]
          clear F5 K5 rx tY gY
          have F7:=K7.facts
          simp only [zg] at F7
          have K8:=((((((((((K7.store 2 rfl 0 (.int .i64 4)).store 2 rfl 1 (.int .i64 0)).store 2 rfl 2 (.bool false)).store 2 rfl 3 (.int .i64 0)).store 2 rfl 4 (.int .i64 0)).store 2 rfl 5 (.string ⟨#[]⟩)).store 2 rfl 6 (.string ⟨#[]⟩)).store 2 rfl 7 (.string ⟨#[]⟩)).store 2 rfl 8 (.slice (some ⟨w5.heap.size,0,none⟩) 1 1)).store 2 rfl 9 (.slice none 0 0))
          simp only [zl] at K8
          have F8:=K8.facts
          simp only [zg] at F8
          have hE1:Ro _ _ (ExsIn (m+2) (some ⟨w5.heap.size,0,none⟩) 1 [x]):=XC (l:=[x]) (K8.get 0 rfl) rfl (fun z hz=>by
           simp only [List.mem_cons,List.not_mem_nil,or_false] at hz
           subst hz
           exact K8.ro 1 rfl)
          have HR:=hid ((hE1.imp (S' :=ExIn (m+2+1) (opE 4 0 false w5.heap.size 1 [x])) fun w2 h2=>W9 h2).less zm)
          have HT:=hid (And.intro (K8.tp_ 6 rfl) K8.grow)
          have HX:=hid (YE (d:=m+2) (kind:=4) (op:=0) (nt:=false) (g:=w5.heap.size) (k:=1) (l:=[x]) (Zo 4 (by decide)) (Zo 0 (by decide)) (by omega) (fun z hz=>by
           simp only [List.mem_cons,List.not_mem_nil,or_false] at hz
           subst hz
           exact hx))
          clear K7 K8 hE1
          go_wp2_with fail
          refine bodyPost_ret (v:=.agg #[.int .i64 4,.int .i64 0,.bool false,.int .i64 0,.int .i64 0,.string ⟨#[]⟩,.string ⟨#[]⟩,.string ⟨#[]⟩,.slice (some ⟨w5.heap.size,0,none⟩) 1 1,.slice none 0 0]) ?_ rfl ?_
          ·clear HT HR HX
           simp [results,Tryz.results99,go_sem,F8]
          ·exact ⟨opE 4 0 false w5.heap.size 1 [x],rfl,HX.out,HR.out,HT.out.1,HT.out.2⟩
      ·have hw1b:(want==1)=false:=by simpa using hw1
       have hw2b:(want==2)=false:=by simpa using hw2
       go_wp2_with fail
       all_goals first
        | (exfalso;contradiction)
        | skip
       refine (UB T want _ (K4.tp_ 4 rfl) (K4.ro 3 rfl).now hT).mono ?_
       rintro e w5 ⟨vk,vi,vs,rfl,hv,hs,hvi,t5,-,g5⟩
       have KB:=Hold.Zf K4 4 rfl g5 t5
       have HVK:=hid (Jy hv)
       clear K4 F4 g5 t5
       go_wp2_with fail
       refine (WZ _ ⟨vk,vi,vs⟩).mono ?_
       rintro e w6 ⟨rfl,b6⟩
       have KC:Hold M (some T) w w6 [.blk gr 126 #[.int .i64 0,.int .i64 0,.bool false,.int .i64 0,.int .i64 0,.string ⟨#[]⟩,.string ⟨#[]⟩,.string ⟨#[]⟩,.slice none 0 0,.slice none 0 0],.cst gp 177 #[.slice fA fn fc,.slice sA sn sc],.ro (Zg ⟨⟨fA,fn,fc,fl⟩,⟨sA,sn,sc,sl⟩⟩),.ro Wds,.tp T,.ro (ExIn 1 (Zz ⟨vk,vi,vs⟩))]:=((KB.call b6).add (S:=ExIn 1 (Zz ⟨vk,vi,vs⟩)) (fun w2 _ _=>WB _ _)).pick [1,2,3,4,5,0] (by decide) rfl
       clear KB b6
       have HY:=hid (Wu ⟨vk,vi,vs⟩ HVK.out hvi)
       generalize Zz ⟨vk,vi,vs⟩=y at *
       have K9:=KC
       have F9:=K9.facts
       simp only [zg] at F9
       have KA:=((((((((((K9.store 0 rfl 0 (.int .i64 y.kind)).store 0 rfl 1 (.int .i64 y.op)).store 0 rfl 2 (.bool y.nt)).store 0 rfl 3 (.int .i64 y.v.k)).store 0 rfl 4 (.int .i64 y.v.i)).store 0 rfl 5 (.string y.v.s)).store 0 rfl 6 (.string y.tab)).store 0 rfl 7 (.string y.nm)).store 0 rfl 8 (.slice y.A y.n y.c)).store 0 rfl 9 (.slice y.B y.m y.d))
       simp only [zl] at KA
       have FA:=KA.facts
       simp only [zg] at FA
       have HR:=hid ((KA.ro 5 rfl).less zm)
       have HT:=hid (And.intro (KA.tp_ 4 rfl) KA.grow)
       rw [show y.val=.agg #[.int .i64 y.kind,.int .i64 y.op,.bool y.nt,.int .i64 y.v.k,.int .i64 y.v.i,.string y.v.s,.string y.tab,.string y.nm,.slice y.A y.n y.c,.slice y.B y.m y.d] from rfl]
       clear K9 KA
       go_wp2_with fail
       refine bodyPost_ret (v:=.agg #[.int .i64 y.kind,.int .i64 y.op,.bool y.nt,.int .i64 y.v.k,.int .i64 y.v.i,.string y.v.s,.string y.tab,.string y.nm,.slice y.A y.n y.c,.slice y.B y.m y.d]) ?_ rfl ?_
       ·clear HT HR
        simp [results,Tryz.results99,go_sem,FA]
       ·exact ⟨y,rfl,HY.out.le (by omega),HR.out.imp (fun w2 h2=>h2.le (by omega)),HT.out.1,HT.out.2⟩
end Go.Proofs.YtnbbllkbefagmaaGreatDoor
namespace Go.Proofs.YtnbbllkbefagmaaGreatDoor
open Go.RowKit
set_option linter.unusedVariables false
set_option linter.unusedSimpArgs false
section
variable {M:Nat→Prop} {row:Option Nat} {w0 w1:World} {L:List Hp} {sp:SpW} {F:Act→Prop} {S0:Array Bool}
variable {ops:Array Oper} {o:Oper} {rest:List Oper} {a:Act} {k:Nat} {T:Nat}
def Jj (u:Value) (_:World):Prop:=∃ b:Bool,u=.bool b
theorem Zdg (n:Nat) (i:Nat) (hi:L[i]? =some (.tp T)) (d:Tmp) (hS:S0.getD k false=false) (hw:Region.wanted o (yielded ops a.tmps)=true) (hd:o.dst=some d) (hsp:sp d=some Jj)
  (hrun:∀ w,(execOp a.eval o).run Tryz.prog w=.ok (.enter 33 #[.pointer (some ⟨T,0,none⟩),.int .i64 n]) w) (hn:∀ b:Bool,Zn Tryz.prog ops (HC M (some T) w0 w1 L) (GW sp) (RM (Mut M L)) S0 F (k+1) rest (a.put (some d) (.bool b)))
  (hpos:0<n:=by omega) (hmax:n≤9223372036854775807:=by omega):Zn Tryz.prog ops (HC M (some T) w0 w1 L) (GW sp) (RM (Mut M L)) S0 F k (o::rest) a:=by
 refine ZaY d Jj hS hw hd hsp hrun (fun w HC _=>?_) (fun u _ _ ⟨b,hu⟩=>by subst hu;exact hn b)
 refine (ZZ T n w (HC.tp_ i hi) (by omega) (by omega)).mono ?_
 rintro e w5 ⟨b,rfl,t5,g5⟩
 exact ⟨_,rfl,⟨b,rfl⟩,Hold.Zf HC i hi g5 t5,RM.grown g5 (.inr ⟨_,List.mem_of_getElem? hi,rfl⟩)⟩
end
end Go.Proofs.YtnbbllkbefagmaaGreatDoor

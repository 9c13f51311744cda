import Derived.Test.YtnbbllkbefagmaaGreatDoorRkCtsSaidMR
import Derived.Test.YtnbbllkbefagmaaGreatDoorRkCtsSaidMD
import Derived.Test.YtnbbllkbefagmaaGreatDoorRkCtsSaidMG
import Derived.Test.YtnbbllkbefagmaaGreatDoorRkCtsSaidML
import Derived.Deep.CutBlock
import Derived.Test.YtnbbllkbefagmaaGreatDoorRkCtsSaidME
import Derived.Test.YtnbbllkbefagmaaGreatDoorRkCtsSaidMN
namespace Go.Proofs.YtnbbllkbefagmaaGreatDoor
open Go.RowKit
set_option linter.unusedVariables false
set_option linter.unusedSimpArgs false
theorem WO {b o b2 o2:Nat} (h:some (⟨b,o,none⟩:Addr)=some ⟨b2,o2,none⟩):b=b2∧o=o2:=by
 injection h with h
 injection h with e1 e2
 exact ⟨e1,e2⟩
set_option maxHeartbeats 8000000 in
set_option maxRecDepth 100000 in
theorem Qy (s:SlP ByteArray) (w:World) (hx:Ro w Zb (s.In 1 Zt (fun _ _=>True))) (hn:s.n≤1000) (hcap:s.n≤s.c):Calls Tryz.prog 161 #[.slice s.A s.n s.c] w fun e w' =>YR w e w' :=by
 obtain ⟨A,n,c,l⟩:=s
 have HLN:=hid (show l.length=n from SlP.In.len (s:=⟨A,n,c,l⟩) (k:=1) (cel:=Zt) (P:=fun _ _=>True) hx.now (by omega) (fun _=>rfl))
 have hn:n≤1000:=hn
 have hcap:n≤c:=hcap
 have K0:=(Hold.start Zb w zn).add (hx.less (by simp [Mut]))
 clear hx
 go_enter Tryz.func161,Tryz.ntmps161
 by_cases h8:8<n
 ·have h8i:(8:Int)<(n:Int):=by omega
  go_wp2_with fail
  all_goals (go_ret;exact ⟨_,rfl,K0.below⟩)
 ·have h8i:¬(8:Int)<(n:Int):=by omega
  rcases Nat.eq_zero_or_pos n with h0|h0
  ·subst h0
   go_wp2_with fail
   go_loopw [12] (fun iv wr=>iv=.int .i64 0∧Hold Zb none w wr []) (fun _ _=>0)
   case atStart=>exact ⟨rfl,K0.drop (List.sublist_cons_self _ _)⟩
   case round=>
    clear K0
    obtain ⟨rfl,K0⟩:=hrel
    go_wp2_with fail
    all_goals (go_ret;exact ⟨_,rfl,K0.below⟩)
  ·obtain ⟨b,o,eA,-,-⟩:=(show Rd _ _ 1 A n (l.flatMap Zt) from (K0.ro 0 rfl).now.1).2 h0
   have eA:A=some ⟨b,o,none⟩:=eA
   subst eA
   have K1:Hold Zb none w _ [.ro (SlR 1 (some ⟨b,o,none⟩) n (l.flatMap Zt))]:=(K0.add ((K0.ro 0 rfl).imp (S' :=SlR 1 (some ⟨b,o,none⟩) n (l.flatMap Zt)) fun w2 h2=>h2.1)).pick [0] (by decide) rfl
   clear K0
   have HAT:=hid (fun (wv:World) (h:Hold Zb none w wv [.ro (SlR 1 (some ⟨b,o,none⟩) n (l.flatMap Zt))]) (j:Nat) (hj:j<n)=>(show ∃ x:ByteArray,wv.cell? ⟨b,o+j,none⟩=some (.string x) from by
    obtain ⟨b',o',e,-,hc⟩:=(show Rd _ _ 1 (some ⟨b,o,none⟩) n (l.flatMap Zt) from (h.ro 0 rfl).now).2 h0
    obtain ⟨rfl,rfl⟩:=WO e
    obtain ⟨x,hx⟩:∃ x,l[j]? =some x:=⟨l[j]'(by rw [HLN.out];exact hj),List.getElem?_eq_getElem _⟩
    exact ⟨x,by simpa using hc _ _ ((flat_get Zt 1 (fun _=>rfl) l j 0 x (by omega) hx).trans rfl)⟩))
   go_wp2_with fail
   go_loopw [12] (fun iv wr=>∃ j:Nat,j≤n∧iv=.int .i64 j∧Hold Zb none w wr [.ro (SlR 1 (some ⟨b,o,none⟩) n (l.flatMap Zt))]) (fun iv _=>n - (intOf iv).toNat)
   case atStart=>exact ⟨0,by omega,rfl,K1⟩
   case round=>
    clear K1
    obtain ⟨j,hj,rfl,H⟩:=hrel
    by_cases hlt:j<n
    ·obtain ⟨x,hx⟩:=HAT.out _ H j hlt
     go_wp2_with fail
     refine (ZO _ _).mono ?_
     rintro e w1 ⟨r,rfl,b1⟩
     have K2:=H.call b1
     clear H hx b1
     cases r
     ·go_wp2_with fail
      go_ret
      exact ⟨_,rfl,K2.below⟩
     ·go_wp2_with fail
      go_loopw [24] (fun iv wr=>∃ k:Nat,k≤j∧iv=.int .i64 k∧Hold Zb none w wr [.ro (SlR 1 (some ⟨b,o,none⟩) n (l.flatMap Zt))]) (fun iv _=>j - (intOf iv).toNat)
      case atStart=>exact ⟨0,by omega,rfl,K2⟩
      case round=>
       clear K2
       obtain ⟨k,hk,rfl,H2⟩:=hrel
       by_cases hlt2:k<j
       ·obtain ⟨y,hy⟩:=HAT.out _ H2 k (by omega)
        obtain ⟨bb,hbb⟩:∃ z:Bool,(y.toList==x.toList)=z:=⟨_,rfl⟩
        cases bb
        ·go_wp2_with fail
         go_roundw
         case rel=>exact ⟨k+1,by omega,by go_num,H2⟩
         case measure=>simp [intOf];omega
        ·go_wp2_with fail
         go_ret
         exact ⟨_,rfl,H2.below⟩
       ·obtain rfl:j=k:=by omega
        go_wp2_with fail
        go_roundw
        case rel=>exact ⟨j+1,by omega,by go_num,H2⟩
        case measure=>simp [intOf];omega
    ·obtain rfl:n=j:=by omega
     go_wp2_with fail
     go_ret
     exact ⟨_,rfl,H.below⟩
theorem XL (d:Nat):VA d:=zM (Jo d)
set_option maxHeartbeats 8000000 in
set_option maxRecDepth 100000 in
theorem J2 (d:Nat) (q:Qu) (w:World) (hx:Ro w Zb (QuIn d q)) (hg:(∀ a∈q.items,ExGd d a)∧(∀ a∈q.wh,ExGd d a)∧q.n≤1000∧q.m≤1000):Calls Tryz.prog 234 #[.agg #[.bool q.star,.slice q.A q.n q.c,.string q.src,.slice q.B q.m q.d]] w fun e w' =>YR w e w' :=by
 obtain ⟨st,A,n,c,items,src,B,m,e,wh⟩:=q
 have HG:=hid hg
 have K0:=((Hold.start Zb w zn).add (hx.less (by simp [Mut]))).Za #[.bool st,.slice A n c,.string src,.slice B m e] 273
 obtain ⟨gx,hgx⟩:∃ g,g=w.heap.size:=⟨_,rfl⟩
 rw [←hgx] at K0
 have F0:=K0.facts
 simp only [zg] at F0
 rw [hgx] at F0
 have HI:=hid (fun (wv:World) (h:Hold Zb none w wv [.cst gx 273 #[.bool st,.slice A n c,.string src,.slice B m e],.ro (QuIn d ⟨st,A,n,c,items,src,B,m,e,wh⟩)])=>XL d A n c items wv ((h.ro 1 rfl).imp (S' :=ExsIn d A n items) (fun w2 h2=>h2.1)|>.less zn) HG.out.1 HG.out.2.2.1)
 have HW:=hid (fun (wv:World) (h:Hold Zb none w wv [.cst gx 273 #[.bool st,.slice A n c,.string src,.slice B m e],.ro (QuIn d ⟨st,A,n,c,items,src,B,m,e,wh⟩)])=>XL d B m e wh wv ((h.ro 1 rfl).imp (S' :=ExsIn d B m wh) (fun w2 h2=>h2.2)|>.less zn) HG.out.2.1 HG.out.2.2.2)
 clear hx hg
 go_enter Tryz.func234,Tryz.ntmps234
 go_upto_region 1 with fail
 rw [←hgx] at F0 ⊢
 have HGX:=hid hgx
 clear hgx
 generalize World.alloc _ _=w1 at K0 F0 ⊢
 go_cut [27] (fun v wx=>∃ bb:Bool,v=.bool bb∧Hold Zb none w wx [.cst gx 273 #[.bool st,.slice A n c,.string src,.slice B m e],.ro (QuIn d ⟨st,A,n,c,items,src,B,m,e,wh⟩)])
 case first=>
  go_wp2_with (first
  | (go_at_call 232;go_must (refine (WG _ _).mono ?_);rintro e w1 ⟨r,rfl,b1⟩;replace K0:=K0.call b1;replace F0:=K0.facts;simp only [zg] at F0;clear b1)
  | (go_at_call 162;go_must (first|with_reducible refine (HI.out _ K0).mono ?_|with_reducible refine (HW.out _ K0).mono ?_);rintro e w1 ⟨r,rfl,b1⟩;replace K0:=K0.call b1;replace F0:=K0.facts;simp only [zg] at F0;clear b1))
  all_goals (go_meet;exact ⟨_,rfl,K0⟩)
 case rest=>
  obtain ⟨bb,rfl,K1⟩:=hcut
  clear K0 F0
  have K0:=K1
  clear K1
  have F0:=K0.facts
  simp only [zg] at F0
  cases bb
  ·go_wp2_with (first
  | (go_at_call 232;go_must (refine (WG _ _).mono ?_);rintro e w1 ⟨r,rfl,b1⟩;replace K0:=K0.call b1;replace F0:=K0.facts;simp only [zg] at F0;clear b1)
  | (go_at_call 162;go_must (first|with_reducible refine (HI.out _ K0).mono ?_|with_reducible refine (HW.out _ K0).mono ?_);rintro e w1 ⟨r,rfl,b1⟩;replace K0:=K0.call b1;replace F0:=K0.facts;simp only [zg] at F0;clear b1))
   all_goals (go_ret;exact ⟨_,rfl,K0.below⟩)
  ·go_wp2_with fail
   all_goals (go_ret;exact ⟨_,rfl,K0.below⟩)
def QS (w:World) (e:Ending) (w' :World):Prop:=∃ t c:Int,e=.returned (.tuple #[.int .i64 t,.int .i64 c])∧Below w.heap.size w w'
theorem Qc (a b:Int) (w:World):Calls Tryz.prog 165 #[.int .i64 a,.int .i64 b] w fun e w' =>YR w e w' :=by
 have K0:=Hold.start Zb w zn
 go_enter Tryz.func165,Tryz.ntmps165
 go_wp2_with fail
 all_goals (go_ret;exact ⟨_,rfl,K0.below⟩)
theorem UN (a b:Int) (w:World):Calls Tryz.prog 166 #[.int .i64 a,.int .i64 b] w fun e w' =>YR w e w' :=by
 have K0:=Hold.start Zb w zn
 go_enter Tryz.func166,Tryz.ntmps166
 go_wp2_with fail
 refine (Qc _ _ _).mono ?_
 rintro e w1 ⟨r,rfl,b1⟩
 have K1:=K0.call b1
 go_wp2_with fail
 all_goals (go_ret;exact ⟨_,rfl,K1.below⟩)
def tyC (l:List Int):List Value:=l.map fun t=>Value.int .i64 t
theorem Gq (l:List Int):(tyC l).length=l.length:=by simp [tyC]
set_option maxHeartbeats 8000000 in
set_option maxRecDepth 100000 in
theorem Zdo (x:Ex) (A:Option Addr) (n c:Nat) (l:List Int) (w:World) (hx:Ro w Zb (SlR 1 A n (tyC l))) (hn:n≤1000):Calls Tryz.prog 211 #[.agg #[.int .i64 x.kind,.int .i64 x.op,.bool x.nt,.int .i64 x.v.k,.int .i64 x.v.i,.string x.v.s,.string x.tab,.string x.nm,.slice x.A x.n x.c,.slice x.B x.m x.d],.slice A n c] w fun e w' =>QS w e w' :=by
 have HLN:=hid (show l.length=n from by
  have:=(show Rd _ _ 1 A n (tyC l) from hx.now).1
  rw [Gq] at this
  omega)
 have HAT:=hid (show ∀ (wv:World),SlR 1 A n (tyC l) wv→∀ j,j<n→∃ b o t,A=some ⟨b,o,none⟩∧wv.cell? ⟨b,o+j,none⟩=some (.int .i64 t) from fun wv h j hj=>by
  obtain ⟨b,o,e,-,hc⟩:=(show Rd _ _ 1 A n (tyC l) from h).2 (by omega)
  have hl:j<l.length:=by rw [HLN.out];exact hj
  exact ⟨b,o,l[j],e,by simpa using hc j (.int .i64 l[j]) (by simp [tyC,List.getElem?_eq_getElem hl])⟩)
 have K0:=((Hold.start Zb w zn).add (hx.less (by simp [Mut]))).Za #[.int .i64 x.kind,.int .i64 x.op,.bool x.nt,.int .i64 x.v.k,.int .i64 x.v.i,.string x.v.s,.string x.tab,.string x.nm,.slice x.A x.n x.c,.slice x.B x.m x.d] 126
 obtain ⟨gx,hgx⟩:∃ g,g=w.heap.size:=⟨_,rfl⟩
 rw [←hgx] at K0
 have F0:=K0.facts
 simp only [zg] at F0
 rw [hgx] at F0
 clear hx
 go_enter Tryz.func211,Tryz.ntmps211
 go_upto_block 0 with fail
 rw [←hgx] at F0 ⊢
 have HGX:=hid hgx
 clear hgx
 generalize World.alloc _ _=w1 at K0 F0 ⊢
 go_cut [6,7] (fun a b wx=>∃ p q:Int,a=.int .i64 p∧b=.int .i64 q∧Hold Zb none w wx [.cst gx 126 #[.int .i64 x.kind,.int .i64 x.op,.bool x.nt,.int .i64 x.v.k,.int .i64 x.v.i,.string x.v.s,.string x.tab,.string x.nm,.slice x.A x.n x.c,.slice x.B x.m x.d],.ro (SlR 1 A n (tyC l))])
 case first=>
  obtain ⟨c6,h6⟩:∃ z:Bool,(x.kind==6)=z:=⟨_,rfl⟩
  obtain ⟨c3,h3⟩:∃ z:Bool,(x.kind==3)=z:=⟨_,rfl⟩
  obtain ⟨c5,h5⟩:∃ z:Bool,(x.kind==5)=z:=⟨_,rfl⟩
  obtain ⟨c4,h4⟩:∃ z:Bool,(x.kind==4)=z:=⟨_,rfl⟩
  go_wp2_with fail
  all_goals first
   | (go_ret2;exact ⟨_,_,rfl,K0.below⟩)
   | (go_meet;exact ⟨_,_,rfl,rfl,K0⟩)
   | skip
  all_goals
   go_loopw [6,14] (fun pv iv wr=>∃ (p:Int) (j:Nat),j≤n∧pv=.int .i64 p∧iv=.int .i64 j∧Hold Zb none w wr [.cst gx 126 #[.int .i64 x.kind,.int .i64 x.op,.bool x.nt,.int .i64 x.v.k,.int .i64 x.v.i,.string x.v.s,.string x.tab,.string x.nm,.slice x.A x.n x.c,.slice x.B x.m x.d],.ro (SlR 1 A n (tyC l))]) (fun _ iv _=>n - (intOf iv).toNat)
   case atStart=>exact ⟨_,0,by omega,rfl,rfl,K0⟩
   case round=>
    clear K0 F0
    obtain ⟨p,j,hj,rfl,rfl,H⟩:=hrel
    by_cases hlt:j<n
    ·obtain ⟨b,o,t,rfl,hc⟩:=HAT.out _ (H.ro 1 rfl).now j hlt
     obtain ⟨z,hz⟩:∃ z:Bool,(t==0)=z:=⟨_,rfl⟩
     have hz2:(t !=0)=!z:=by rw [←hz];rfl
     cases z
     ·go_wp2_with fail
      all_goals first
       | (exfalso;contradiction)
       | skip
      all_goals
       go_roundw
       case rel=>exact ⟨_,j+1,by omega,by first|rfl|trivial,by go_num,H⟩
       case measure=>simp [intOf];omega
     ·go_wp2_with fail
      all_goals first
       | (exfalso;contradiction)
       | skip
      all_goals
       go_roundw
       case rel=>exact ⟨_,j+1,by omega,by first|rfl|trivial,by go_num,H⟩
       case measure=>simp [intOf];omega
    ·obtain rfl:n=j:=by omega
     go_wp2_with fail
     go_meet
     exact ⟨_,_,rfl,rfl,H⟩
 case rest=>
  obtain ⟨p,q,rfl,rfl,K1⟩:=hcut
  clear K0 F0
  go_wp2_with fail
  go_loopw [56] (fun iv wr=>∃ (j:Nat),j≤n∧iv=.int .i64 j∧Hold Zb none w wr [.cst gx 126 #[.int .i64 x.kind,.int .i64 x.op,.bool x.nt,.int .i64 x.v.k,.int .i64 x.v.i,.string x.v.s,.string x.tab,.string x.nm,.slice x.A x.n x.c,.slice x.B x.m x.d],.ro (SlR 1 A n (tyC l))]) (fun iv _=>n - (intOf iv).toNat)
  case atStart=>exact ⟨0,by omega,rfl,K1⟩
  case round=>
   clear K1
   obtain ⟨j,hj,rfl,H⟩:=hrel
   by_cases hlt:j<n
   ·obtain ⟨b,o,t,rfl,hc⟩:=HAT.out _ (H.ro 1 rfl).now j hlt
    go_wp2_with fail
    refine (Qc _ _ _).mono ?_
    rintro e w3 ⟨r,rfl,b3⟩
    have K3:=H.call b3
    clear H b3 hc
    cases r
    ·go_wp2_with fail
     go_ret2
     exact ⟨_,_,rfl,K3.below⟩
    ·go_wp2_with fail
     go_roundw
     case rel=>exact ⟨j+1,by omega,by go_num,K3⟩
     case measure=>simp [intOf];omega
   ·obtain rfl:n=j:=by omega
    go_wp2_with fail
    go_ret2
    exact ⟨_,_,rfl,H.below⟩
def ZcN (fl:List Fr) (w:World) (e:Ending) (w' :World):Prop:=∃ (i k:Nat) (ok:Bool),e=.returned (.tuple #[.int .i64 i,.int .i64 k,.bool ok])∧(ok=true→∃ f c,fl[i]? =some f∧f.cols.l[k]? =some c)∧Below w.heap.size w w'
set_option maxHeartbeats 8000000 in
set_option maxRecDepth 100000 in
theorem ZcL (fA:Option Addr) (fn fc:Nat) (fl:List Fr) (q nm:ByteArray) (w:World) (hx:Ro w Zb (FrsIn ⟨fA,fn,fc,fl⟩)) (hn:fn≤1000) (hc:∀ f∈fl,f.cols.n≤1000):Calls Tryz.prog 184 #[.slice fA fn fc,.string q,.string nm] w fun e w' =>ZcN fl w e w' :=by
 have HLN:=hid (show fl.length=fn from FrsIn.len hx.now)
 have HC:=hid hc
 have K0:=(Hold.start Zb w zn).add (hx.less (by simp [Mut]))
 clear hx hc
 go_enter Tryz.func184,Tryz.ntmps184
 go_upto_region 1 with fail
 have hw0:IntKind.i64.wrap ((fn:Int) - 1)=(fn:Int) - 1:=IntWalk.i64_in _ (by omega)
 go_wp2_with fail
 go_loopw [9] (fun iv wr=>∃ (i:Int),-1≤i∧i<fn∧iv=.int .i64 i∧Hold Zb none w wr [.ro (FrsIn ⟨fA,fn,fc,fl⟩)]) (fun iv _=>(intOf iv+1).toNat)
 case atStart=>exact ⟨_,by omega,by omega,rfl,K0⟩
 case round=>
  clear K0 hw0
  obtain ⟨i,hi,hi2,rfl,H⟩:=hrel
  by_cases hlt:0≤i
  ·obtain ⟨j,rfl⟩:∃ j:Nat,i=(j:Int):=⟨i.toNat,by omega⟩
   have hj:j<fn:=by omega
   have hwi:IntKind.i64.wrap ((j:Int) - 1)=(j:Int) - 1:=IntWalk.i64_in _ (by omega)
   obtain ⟨⟨fnm,fst,⟨cA,cn,cc,cl⟩,⟨vA,vn,vc,vl⟩⟩,hfx⟩:=Yg HLN.out hj
   obtain ⟨b,o,rfl,hb,hcl,hfin⟩:=FrsIn.at_ (H.ro 0 rfl).now hfx
   have c0:=hcl 0 _ (by omega) rfl
   have c1:=hcl 1 _ (by omega) rfl
   have c2:=hcl 2 _ (by omega) rfl
   have c3:=hcl 3 _ (by omega) rfl
   simp only [Nat.add_zero,SlP.v] at c0 c1 c2 c3
   have hcn:cn≤1000:=HC.out _ (List.mem_of_getElem? hfx)
   have HFX:=hid hfx
   clear hcl hfx
   have HCL:=hid (show cl.length=cn from (RdC.Zw hfin.cols).len)
   have K1:=(H.Za #[.string fnm,.bool fst,.slice cA cn cc,.slice vA vn vc] 210).add (S:=SlR 4 cA cn (Zd cl)) (((H.Za #[.string fnm,.bool fst,.slice cA cn cc,.slice vA vn vc] 210).ro 1 rfl).imp fun w2 h2=>(h2.2 _ (List.mem_of_getElem? HFX.out)).cols)
   obtain ⟨gF,hgF⟩:∃ g,g=wr.heap.size:=⟨_,rfl⟩
   rw [←hgF] at K1
   have F1:=K1.facts
   simp only [zg] at F1
   rw [hgF] at F1
   clear H hfin
   go_upto_region 5 with fail
   rw [←hgF] at F1 ⊢
   have HGF:=hid hgF
   clear hgF c0 c1 c2 c3
   generalize World.alloc _ _=w1 at K1 F1 ⊢
   obtain ⟨d1,h1⟩:∃ z:Bool,(q.toList==([]:List UInt8))=z:=⟨_,rfl⟩
   go_cut [39] (fun v wx=>∃ bb:Bool,v=.bool bb∧Hold Zb none w wx [.ro (SlR 4 cA cn (Zd cl)),.cst gF 210 #[.string fnm,.bool fst,.slice cA cn cc,.slice vA vn vc],.ro (FrsIn ⟨some ⟨b,o,none⟩,fn,fc,fl⟩)])
   case first=>
    go_wp2_with fail
    all_goals (go_meet;exact ⟨_,rfl,K1⟩)
   case rest=>
    obtain ⟨bb,rfl,K2⟩:=hcut
    clear K1 F1 h1
    have F2:=K2.facts
    simp only [zg] at F2
    cases bb
    ·go_wp2_with fail
     go_loopw [43] (fun iv wr=>∃ k:Nat,k≤cn∧iv=.int .i64 k∧Hold Zb none w wr [.ro (SlR 4 cA cn (Zd cl)),.ro (FrsIn ⟨some ⟨b,o,none⟩,fn,fc,fl⟩)]) (fun iv _=>cn - (intOf iv).toNat)
     case atStart=>exact ⟨0,by omega,rfl,K2.pick [0,2] (by decide) rfl⟩
     case round=>
      clear K2 F2
      obtain ⟨k,hk,rfl,H⟩:=hrel
      by_cases hlt2:k<cn
      ·obtain ⟨⟨xnm,xty,xnn,xkey⟩,hcx⟩:=YC HCL.out hlt2
       obtain ⟨b2,o2,rfl,hb2,x0,x1,x2,x3⟩:=(RdC.Zw (H.ro 0 rfl).now).at_ hcx
       simp only at x0 x1 x2 x3
       have K3:=H.Za #[.string xnm,.int .i64 xty,.bool xnn,.bool xkey] 158
       have F3:=K3.facts
       simp only [zg] at F3
       have HCX:=hid hcx
       clear hcx H
       obtain ⟨z,hz⟩:∃ z:Bool,(xnm.toList==nm.toList)=z:=⟨_,rfl⟩
       cases z
       ·go_wp2_with fail
        go_roundw
        case rel=>exact ⟨k+1,by omega,by go_num,K3.drop (List.sublist_cons_self _ _)⟩
        case measure=>simp [intOf];omega
       ·go_wp2_with fail
        go_ret3
        exact ⟨j,k,true,rfl,fun _=>⟨_,_,HFX.out,HCX.out⟩,K3.below⟩
      ·obtain rfl:cn=k:=by omega
       go_wp2_with fail
       go_roundw
       case rel=>exact ⟨(j:Int) - 1,by omega,by omega,rfl,H.drop (List.sublist_cons_self _ _)⟩
       case measure=>simp [intOf]
    ·go_wp2_with fail
     go_roundw
     case rel=>exact ⟨(j:Int) - 1,by omega,by omega,rfl,K2.pick [2] (by decide) rfl⟩
     case measure=>simp [intOf]
  ·go_wp2_with fail
   go_ret3
   exact ⟨0,0,false,rfl,fun h=>(nomatch h),H.below⟩
def Zfn (w:World) (M:Nat→Prop) (l:List Te) (e:Ending) (w' :World):Prop:=∃ (s:Sm) (ok:Bool),e=.returned (.tuple #[.agg #[.string s.nm,.slice s.cols.A s.cols.n s.cols.c],.bool ok])∧s.cols.n≤1000∧(ok=true→∃ x∈l,x.n=s.cols.n)∧Ro w' M (ZK s)∧Below w.heap.size w w'
def Xt (s:ByteArray) (x:Te):Bool:=decide (x.nm=s)
theorem Zg4 {l:List Te} {s:ByteArray} {j:Nat} {x:Te} (h:(l.take j).find? (Xt s)=none) (hx:l[j]? =some x) (hz:(x.nm.toList==s.toList)=false):(l.take (j+1)).find? (Xt s)=none:=by
 have hn:Xt s x=false:=decide_eq_false fun e=>by rw [e] at hz;simp at hz
 rw [List.take_add_one,hx,List.find?_append,h]
 simp [hn]
theorem Zch {l:List Te} {s:ByteArray} {j:Nat} {x:Te} (h:(l.take j).find? (Xt s)=none) (hx:l[j]? =some x) (hz:(x.nm.toList==s.toList)=true):l.find? (Xt s)=some x:=by
 have hn:Xt s x=true:=decide_eq_true (Yr (beq_iff_eq.1 hz))
 have hl:=(List.getElem?_eq_some_iff.1 hx)
 have e:l=l.take j++x::l.drop (j+1):=by
  conv=>lhs;rw [←List.take_append_drop j l,List.drop_eq_getElem_cons hl.1,hl.2]
 rw [e,List.find?_append,h]
 simp [hn]
def Zg7 (w:World) (M:Nat→Prop) (l:List Te) (s0:ByteArray) (e:Ending) (w' :World):Prop:=∃ (s:Sm) (ok:Bool),e=.returned (.tuple #[.agg #[.string s.nm,.slice s.cols.A s.cols.n s.cols.c],.bool ok])∧s.cols.n≤1000∧(ok=true→∃ x∈l,x.n=s.cols.n)∧(l.find? (Xt s0)=none∧ok=false∨∃ x,l.find? (Xt s0)=some x∧ok=true∧s.cols.l=x.cs∧s.nm=x.nm)∧Ro w' M (ZK s)∧Below w.heap.size w w'
set_option maxHeartbeats 8000000 in
set_option maxRecDepth 100000 in
theorem ZaH (M:Nat→Prop) (w:World) (hM:∀ b,M b→b<w.heap.size) (A:Option Addr) (n c:Nat) (l:List Te) (s:ByteArray) (hD:Ro w M (TesIn A n l)) (hn:n≤1000) (hc:∀ x∈l,x.n≤1000):Calls Tryz.prog 72 #[.slice A n c,.string s] w fun e w' =>Zg7 w M l s e w' :=by
 have HLN:=hid (show l.length=n from hD.now.len)
 have HC:=hid hc
 have K0:=((Hold.start M w hM).add (hD.less (by simp [Mut]))).alloc #[.string ⟨#[]⟩,.slice none 0 0] 49
 obtain ⟨gr,hgr⟩:∃ g,g=w.heap.size:=⟨_,rfl⟩
 rw [←hgr] at K0
 clear hD hc
 go_enter Tryz.func72,Tryz.ntmps72
 go_wp2_with fail
 rw [←hgr]
 have HGR:=hid hgr
 clear hgr
 go_loopw [11] (fun iv wr=>∃ j:Nat,j≤n∧iv=.int .i64 j∧Hid ((l.take j).find? (Xt s)=none)∧Hold M none w wr [.blk gr 49 #[.string ⟨#[]⟩,.slice none 0 0],.ro (TesIn A n l)]) (fun iv _=>n - (intOf iv).toNat)
 case atStart=>exact ⟨0,by omega,rfl,hid rfl,K0⟩
 case round=>
  clear K0
  obtain ⟨j,hj,rfl,HP,H⟩:=hrel
  by_cases hlt:j<n
  ·obtain ⟨x,hx⟩:=Z4 HLN.out hlt
   obtain ⟨b,o,rfl,hb,c0,c1,c2,c3,-⟩:=(H.ro 1 rfl).now.at_ hx
   have hxn:x.n≤1000:=HC.out x (List.mem_of_getElem? hx)
   have HX:=hid hx
   clear hx
   have K1:=H.Za #[.string x.nm,.slice x.A x.n x.c,.int .i64 x.nx,.slice x.B x.m x.d] 67
   have F1:=K1.facts
   simp only [zg] at F1
   obtain ⟨z,hz⟩:∃ z:Bool,(x.nm.toList==s.toList)=z:=⟨_,rfl⟩
   clear H
   have HZ:=hid hz
   cases z
   ·have HN:=hid (Zg4 HP.out HX.out HZ.out)
    go_wp2_with fail
    go_roundw
    case rel=>exact ⟨j+1,by omega,by go_num,HN,K1.drop (List.sublist_cons_self _ _)⟩
    case measure=>simp [intOf];omega
   ·have HF:=hid (Zch HP.out HX.out HZ.out)
    obtain ⟨xnm,xA,xn,xc,xcs,xnx,xB,xm,xd,xl⟩:=x
    have hxn:xn≤1000:=hxn
    go_upto_region 6 with fail
    have KA:=(K1.add (S:=ColsIn xA xn xcs) ((K1.ro 2 rfl).imp fun w2 h2=>(h2.2 _ (List.mem_of_getElem? HX.out)).1)).alloc #[.string xnm,.slice xA xn xc] 49
    obtain ⟨g8,hg8⟩:∃ g,g=wr.heap.size+1:=⟨_,rfl⟩
    rw [World.size_alloc,←hg8] at KA
    rw [←hg8]
    have HG8:=hid hg8
    clear hg8
    have FA:=KA.facts
    simp only [zg] at FA
    clear K1 F1 c0 c1 c2 c3
    have KN:=KA.nil 158 4
    have HSL:=hid (show SlR 4 xA xn (Zd xcs) _ from (KN.ro 2 rfl).now)
    clear KA
    go_wp2_with (at_builtin;go_must (refine Yy KN 0 rfl Tryz.WH HSL.out rfl (.const (.slice none 0 0)) (.tmp 23) rfl rfl rfl (WV xcs) (by omega) (by omega) ?_);intro C1 cap1 wA hcA hmA KB;simp only [Nat.zero_add] at hcA ⊢;simp only [Nat.zero_add,List.nil_append,List.set_cons_zero,List.set_cons_succ] at KB;(have KS:=KB.ZC 0 rfl);simp only [List.set_cons_zero] at KS;(have K3:=KS.store 1 rfl 1 (.slice C1 xn cap1));simp only [zl] at K3;(have K4:=(K3.store 4 rfl 0 (.string xnm)).store 4 rfl 1 (.slice C1 xn cap1));simp only [zl] at K4;(have FS:=KS.facts);simp only [zg] at FS;(have F3:=K3.facts);simp only [zg] at F3;(have F4:=K4.facts);simp only [zg] at F4)
    have HR:=hid ((K4.ro 0 rfl).less zm)
    have HB:=hid K4.below
    clear K4 K3 KS KB KN FA
    refine bodyPost_ret (v:=.tuple #[.agg #[.string xnm,.slice C1 xn cap1],.bool true]) ?_ rfl ?_
    ·clear HR HB
     simp [results,Tryz.results72,go_sem,F4]
    ·exact ⟨⟨xnm,⟨C1,xn,cap1,xcs⟩⟩,true,rfl,hxn,fun _=>⟨_,List.mem_of_getElem? HX.out,rfl⟩,.inr ⟨_,HF.out,rfl,rfl,rfl⟩,HR.out.imp fun w2 h2=>⟨h2,fun _ _=>trivial⟩,HB.out⟩
  ·obtain rfl:n=j:=by omega
   have hNO:=HP.out
   rw [List.take_of_length_le (by rw [HLN.out];exact Nat.le_refl _)] at hNO
   have HNO:=hid hNO
   clear hNO
   have K1:=(H.store 0 rfl 0 (.string ⟨#[]⟩)).store 0 rfl 1 (.slice none 0 0)
   simp only [zl] at K1
   have F0:=H.facts
   simp only [zg] at F0
   have F1:=K1.facts
   simp only [zg] at F1
   have HB:=hid K1.below
   clear K1 H
   go_wp2_with fail
   refine bodyPost_ret (v:=.tuple #[.agg #[.string ⟨#[]⟩,.slice none 0 0],.bool false]) ?_ rfl ?_
   ·clear HB
    simp [results,Tryz.results72,go_sem,F1]
   ·exact ⟨⟨⟨#[]⟩,SlP.nil⟩,false,rfl,by simp [SlP.nil],fun h=>(nomatch h),.inl ⟨HNO.out,rfl⟩,fun w2 _ _=>SlP.Zi 4 Col.cells (fun _ _=>True) w2,HB.out⟩
theorem VN (M:Nat→Prop) (w:World) (hM:∀ b,M b→b<w.heap.size) (A:Option Addr) (n c:Nat) (l:List Te) (s:ByteArray) (hD:Ro w M (TesIn A n l)) (hn:n≤1000) (hc:∀ x∈l,x.n≤1000):Calls Tryz.prog 72 #[.slice A n c,.string s] w fun e w' =>Zfn w M l e w' :=
 (ZaH M w hM A n c l s hD hn hc).mono fun e w' ⟨s,ok,h1,h2,h3,_,h4,h5⟩=>⟨s,ok,h1,h2,h3,h4,h5⟩
def ZfD (w:World) (M:Nat→Prop) (fn:Nat) (fl:List Fr) (s:Sm) (e:Ending) (w' :World):Prop:=∃ (A:Option Addr) (c:Nat),e=.returned (.slice A (fn+1) c)∧Ro w' M (FrsIn ⟨A,fn+1,c,fl++[⟨s.nm,false,s.cols,SlP.nil⟩]⟩)∧Below w.heap.size w w'
set_option maxHeartbeats 8000000 in
set_option maxRecDepth 100000 in
theorem Ja (M:Nat→Prop) (w:World) (hM:∀ b,M b→b<w.heap.size) (fA:Option Addr) (fn fc:Nat) (fl:List Fr) (s:Sm) (hf:Ro w M (FrsIn ⟨fA,fn,fc,fl⟩)) (hs:Ro w M (ZK s)) (hn:fn≤1000):Calls Tryz.prog 202 #[.slice fA fn fc,.agg #[.string s.nm,.slice s.cols.A s.cols.n s.cols.c],.slice none 0 0] w fun e w' =>ZfD w M fn fl s e w' :=by
 obtain ⟨snm,⟨cA,cn,cc,cl⟩⟩:=s
 have K0:=(((Hold.start M w hM).add (hs.less (by simp [Mut]))).add (hf.less (by simp [Mut,Hp.foot]))).Za #[.string snm,.slice cA cn cc] 49
 obtain ⟨gs,hgs⟩:∃ g,g=w.heap.size:=⟨_,rfl⟩
 rw [←hgs] at K0
 clear hf hs
 go_enter Tryz.func202,Tryz.ntmps202
 go_upto_region 1 with fail
 rw [←hgs]
 have HGS:=hid hgs
 clear hgs
 generalize World.alloc _ _=w1 at K0 ⊢
 have F0:=K0.facts
 simp only [zg] at F0
 have KN:=K0.nil 210 4
 have HSL:=hid (show SlR 4 fA fn (XQ fl) _ from (KN.ro 2 rfl).now.1)
 go_upto_region 2 with (at_builtin;go_must (refine Yy KN 0 rfl Tryz.WI HSL.out rfl (.const (.slice none 0 0)) (.tmp 8) rfl rfl rfl (Gh fl) (by omega) (by omega) ?_);intro C1 cap1 wA hcA hmA KB;simp only [Nat.zero_add] at hcA ⊢;simp only [Nat.zero_add,List.nil_append,List.set_cons_zero,List.set_cons_succ] at KB)
 clear K0 F0 KN
 have KD:=KB.Za #[.string snm,.bool false,.slice cA cn cc,.slice none 0 0] 210
 have FB:=KB.facts
 simp only [zg] at FB
 have FD:=KD.facts
 simp only [zg] at FD
 have E1:=hid (show SlR 4 (some ⟨wA.heap.size,0,none⟩) 1 [.string snm,.bool false,.slice cA cn cc,.slice none 0 0] _ from ((ZJ (KD.get 0 rfl) rfl:Ro _ _ _).now))
 clear KB
 go_wp2_with (at_builtin;go_must (refine Yy KD 1 rfl Tryz.WI E1.out rfl (.tmp 10) (.tmp 17) rfl rfl rfl (by intro u hu;simp at hu;rcases hu with rfl|rfl|rfl|rfl<;>rfl) (by omega) (by omega) ?_);intro G1 gc1 wB hcB hmB KE;simp only [zl] at KE)
 have KZ:=KE.ZC 1 rfl
 simp only [zl] at KZ
 have hR:Ro _ _ (FrsIn ⟨G1,fn+1,gc1,fl++[⟨snm,false,⟨cA,cn,cc,cl⟩,SlP.nil⟩]⟩):=((KZ.ro 1 rfl).and ((KZ.ro 3 rfl).and (KZ.ro 4 rfl))).imp fun w2 h2=>⟨by
   have h3:=h2.1
   have e:XQ fl++[.string snm,.bool false,.slice cA cn cc,.slice none 0 0]=(fl++[(⟨snm,false,⟨cA,cn,cc,cl⟩,SlP.nil⟩:Fr)]).flatMap Fr.cells:=by simp [XQ,Fr.cells,SlP.v,SlP.nil]
   rw [e] at h3
   exact h3,fun x hx=>by
   have hx:x∈fl++[(⟨snm,false,⟨cA,cn,cc,cl⟩,SlP.nil⟩:Fr)]:=hx
   rcases List.mem_append.1 hx with hx|hx
   ·exact h2.2.1.2 x hx
   ·simp only [List.mem_cons,List.not_mem_nil,or_false] at hx
    subst hx
    exact ⟨h2.2.2,SlP.Zi _ _ _ _⟩⟩
 have HR:=hid (hR.less zm)
 have HB:=hid KZ.below
 clear KZ KE KD hR FD
 go_wp2_with fail
 go_ret
 exact ⟨_,_,rfl,HR.out,HB.out⟩
set_option maxHeartbeats 8000000 in
set_option maxRecDepth 100000 in
theorem VC (d:Nat) (s:SlP Se) (w:World) (hx:Ro w Zb (s.In 11 Se.cells (ZY d))) (hg:∀ z∈s.l,ExGd d z.e) (hn:s.n≤1000) (hcap:s.n≤s.c):Calls Tryz.prog 209 #[.slice s.A s.n s.c] w fun e w' =>YR w e w' :=by
 obtain ⟨A,n,c,l⟩:=s
 have HLN:=hid (show l.length=n from SlP.In.len (s:=⟨A,n,c,l⟩) (k:=11) (cel:=Se.cells) (P:=ZY d) hx.now (by omega) (fun _=>rfl))
 have hn:n≤1000:=hn
 have hcap:n≤c:=hcap
 have HG:=hid (show ∀ z∈l,ExGd d z.e from hg)
 have K0:=(Hold.start Zb w zn).add (hx.less (by simp [Mut]))
 clear hx hg
 go_enter Tryz.func209,Tryz.ntmps209
 rcases Nat.eq_zero_or_pos n with h0|h0
 ·subst h0
  go_wp2_with fail
  go_loopw [9] (fun iv wr=>iv=.int .i64 0∧Hold Zb none w wr []) (fun _ _=>0)
  case atStart=>exact ⟨rfl,K0.drop (List.sublist_cons_self _ _)⟩
  case round=>
   clear K0
   obtain ⟨rfl,K0⟩:=hrel
   go_wp2_with fail
   all_goals (go_ret;exact ⟨_,rfl,K0.below⟩)
 ·obtain ⟨b,o,eA,-,-⟩:=(show Rd _ _ 11 A n (l.flatMap Se.cells) from (K0.ro 0 rfl).now.1).2 h0
  have eA:A=some ⟨b,o,none⟩:=eA
  subst eA
  go_wp2_with fail
  go_loopw [9] (fun iv wr=>∃ j:Nat,j≤n∧iv=.int .i64 j∧Hold Zb none w wr [.ro (SlP.In ⟨some ⟨b,o,none⟩,n,c,l⟩ 11 Se.cells (ZY d))]) (fun iv _=>n - (intOf iv).toNat)
  case atStart=>exact ⟨0,by omega,rfl,K0⟩
  case round=>
   clear K0
   obtain ⟨j,hj,rfl,H⟩:=hrel
   by_cases hlt:j<n
   ·skip
    obtain ⟨⟨xc,xe⟩,xx⟩:=Yg HLN.out (show j<n by omega)
    obtain ⟨xb,xo,xE,-,xh,xin⟩:=SlP.In.at_ (s:=⟨some ⟨b,o,none⟩,n,c,l⟩) (k:=11) (cel:=Se.cells) (P:=ZY d) (H.ro 0 rfl).now (by omega) (fun _=>rfl) xx
    obtain ⟨rfl,rfl⟩:=WO (show some (⟨b,o,none⟩:Addr)=some ⟨xb,xo,none⟩ from xE)
    have x0:=xh 0 _ (by omega) rfl
    have x1:=xh 1 _ (by omega) rfl
    have x2:=xh 2 _ (by omega) rfl
    have x3:=xh 3 _ (by omega) rfl
    have x4:=xh 4 _ (by omega) rfl
    have x5:=xh 5 _ (by omega) rfl
    have x6:=xh 6 _ (by omega) rfl
    have x7:=xh 7 _ (by omega) rfl
    have x8:=xh 8 _ (by omega) rfl
    have x9:=xh 9 _ (by omega) rfl
    have x10:=xh 10 _ (by omega) rfl
    simp only [Nat.add_zero] at x0 x1 x2 x3 x4 x5 x6 x7 x8 x9 x10
    clear xh xE
    obtain ⟨gs,hgs,K0⟩:∃ gs,gs=_∧Hold Zb none w _ [.cst gs 128 #[.string xc,.int .i64 xe.kind,.int .i64 xe.op,.bool xe.nt,.int .i64 xe.v.k,.int .i64 xe.v.i,.string xe.v.s,.string xe.tab,.string xe.nm,.slice xe.A xe.n xe.c,.slice xe.B xe.m xe.d],.ro (SlP.In ⟨some ⟨b,o,none⟩,n,c,l⟩ 11 Se.cells (ZY d))]:=⟨_,rfl,H.Za #[.string xc,.int .i64 xe.kind,.int .i64 xe.op,.bool xe.nt,.int .i64 xe.v.k,.int .i64 xe.v.i,.string xe.v.s,.string xe.tab,.string xe.nm,.slice xe.A xe.n xe.c,.slice xe.B xe.m xe.d] 128⟩
    have F0:=K0.facts
    simp only [zg] at F0
    rw [hgs] at F0
    have hm:=HG.out _ (List.mem_of_getElem? xx)
    have HV:=hid (fun (wv:World) (h:Hold Zb none w wv [.cst gs 128 #[.string xc,.int .i64 xe.kind,.int .i64 xe.op,.bool xe.nt,.int .i64 xe.v.k,.int .i64 xe.v.i,.string xe.v.s,.string xe.tab,.string xe.nm,.slice xe.A xe.n xe.c,.slice xe.B xe.m xe.d],.ro (SlP.In ⟨some ⟨b,o,none⟩,n,c,l⟩ 11 Se.cells (ZY d))])=>Jo d xe wv (((h.ro 1 rfl).imp fun w2 h2=>(show ExIn d xe w2 from h2.2 _ (List.mem_of_getElem? xx))).less zn) hm)
    clear H xin xx hm
    go_upto_region 4 with fail
    rw [←hgs] at F0 ⊢
    have HGS:=hid hgs
    clear hgs x0 x1 x2 x3 x4 x5 x6 x7 x8 x9 x10
    generalize World.alloc _ _=w2 at K0 F0 ⊢
    go_cut [23] (fun v wx=>∃ bb:Bool,v=.bool bb∧Hold Zb none w wx [.cst gs 128 #[.string xc,.int .i64 xe.kind,.int .i64 xe.op,.bool xe.nt,.int .i64 xe.v.k,.int .i64 xe.v.i,.string xe.v.s,.string xe.tab,.string xe.nm,.slice xe.A xe.n xe.c,.slice xe.B xe.m xe.d],.ro (SlP.In ⟨some ⟨b,o,none⟩,n,c,l⟩ 11 Se.cells (ZY d))])
    case first=>
     go_wp2_with (first
      | (go_at_call 160;go_must (refine (ZO _ _).mono ?_);rintro e w1 ⟨r,rfl,b1⟩;replace K0:=K0.call b1;replace F0:=K0.facts;simp only [zg] at F0;clear b1)
      | (go_at_call 207;go_must (refine (HV.out _ K0).mono ?_);rintro e w1 ⟨r,rfl,b1⟩;replace K0:=K0.call b1;replace F0:=K0.facts;simp only [zg] at F0;clear b1))
     all_goals (go_meet;exact ⟨_,rfl,K0⟩)
    case rest=>
     obtain ⟨bb,rfl,K1⟩:=hcut
     clear K0 F0
     cases bb
     ·go_wp2_with fail
      go_loopw [28] (fun iv wr=>∃ k:Nat,k≤j∧iv=.int .i64 k∧Hold Zb none w wr [.cst gs 128 #[.string xc,.int .i64 xe.kind,.int .i64 xe.op,.bool xe.nt,.int .i64 xe.v.k,.int .i64 xe.v.i,.string xe.v.s,.string xe.tab,.string xe.nm,.slice xe.A xe.n xe.c,.slice xe.B xe.m xe.d],.ro (SlP.In ⟨some ⟨b,o,none⟩,n,c,l⟩ 11 Se.cells (ZY d))]) (fun iv _=>j - (intOf iv).toNat)
      case atStart=>exact ⟨0,by omega,rfl,K1⟩
      case round=>
       clear K1
       obtain ⟨k,hk,rfl,H2⟩:=hrel
       by_cases hlt2:k<j
       ·skip
        obtain ⟨⟨yc,ye⟩,yx⟩:=Yg HLN.out (show k<n by omega)
        obtain ⟨yb,yo,yE,-,yh,yin⟩:=SlP.In.at_ (s:=⟨some ⟨b,o,none⟩,n,c,l⟩) (k:=11) (cel:=Se.cells) (P:=ZY d) ((H2.drop (List.sublist_cons_self _ _)).ro 0 rfl).now (by omega) (fun _=>rfl) yx
        obtain ⟨rfl,rfl⟩:=WO (show some (⟨b,o,none⟩:Addr)=some ⟨yb,yo,none⟩ from yE)
        have y0:=yh 0 _ (by omega) rfl
        have y1:=yh 1 _ (by omega) rfl
        have y2:=yh 2 _ (by omega) rfl
        have y3:=yh 3 _ (by omega) rfl
        have y4:=yh 4 _ (by omega) rfl
        have y5:=yh 5 _ (by omega) rfl
        have y6:=yh 6 _ (by omega) rfl
        have y7:=yh 7 _ (by omega) rfl
        have y8:=yh 8 _ (by omega) rfl
        have y9:=yh 9 _ (by omega) rfl
        have y10:=yh 10 _ (by omega) rfl
        simp only [Nat.add_zero] at y0 y1 y2 y3 y4 y5 y6 y7 y8 y9 y10
        clear yh yE
        have K2:=H2.Za #[.string yc,.int .i64 ye.kind,.int .i64 ye.op,.bool ye.nt,.int .i64 ye.v.k,.int .i64 ye.v.i,.string ye.v.s,.string ye.tab,.string ye.nm,.slice ye.A ye.n ye.c,.slice ye.B ye.m ye.d] 128
        have F2:=K2.facts
        simp only [zg] at F2
        clear H2 yin yx
        obtain ⟨bb,hbb⟩:∃ z:Bool,(yc.toList==xc.toList)=z:=⟨_,rfl⟩
        cases bb
        ·go_wp2_with fail
         go_roundw
         case rel=>exact ⟨k+1,by omega,by go_num,K2.drop (List.sublist_cons_self _ _)⟩
         case measure=>simp [intOf];omega
        ·go_wp2_with fail
         go_ret
         exact ⟨_,rfl,K2.below⟩
       ·obtain rfl:j=k:=by omega
        go_wp2_with fail
        go_roundw
        case rel=>exact ⟨j+1,by omega,by go_num,H2.drop (List.sublist_cons_self _ _)⟩
        case measure=>simp [intOf];omega
     ·go_wp2_with fail
      go_ret
      exact ⟨_,rfl,K1.below⟩
   ·obtain rfl:n=j:=by omega
    go_wp2_with fail
    go_ret
    exact ⟨_,rfl,H.below⟩
set_option maxHeartbeats 8000000 in
set_option maxRecDepth 100000 in
theorem Vw (d:Nat) (a:Ac) (w:World) (hx:Ro w Zb (AcIn d a)) (hg:AcGd d a):Calls Tryz.prog 208 #[.agg #[.int .i64 a.kind,.string a.tab,.slice a.rows.A a.rows.n a.rows.c,.slice a.qs.A a.qs.n a.qs.c,.slice a.sets.A a.sets.n a.sets.c,.slice a.wh.A a.wh.n a.wh.c,.string a.text]] w fun e w' =>YR w e w' :=by
 obtain ⟨kind,tab,⟨rA,rn,rc,rl⟩,⟨qA,qn,qc,ql⟩,⟨sA,sn,sc,sl⟩,⟨hA,hn,hc,hl⟩,text⟩:=a
 have HRN:=hid (show rl.length=rn from SlP.In.len (s:=⟨rA,rn,rc,rl⟩) (k:=1) (cel:=fun r:SlP Ex=>[r.v]) (P:=fun r w=>r.In 10 Ex.cells (ExIn d) w) hx.now.1 (by omega) (fun _=>rfl))
 have HQN:=hid (show ql.length=qn from SlP.In.len (s:=⟨qA,qn,qc,ql⟩) (k:=4) (cel:=Qu.cells) (P:=QuIn d) hx.now.2.1 (by omega) (fun _=>rfl))
 have HQL:=hid (show qn≤1 from by have h:ql.length≤1:=hg.q.2.1;have:=HQN.out;omega)
 have hrn:rn≤8:=by have h:rl.length≤8:=hg.r.2.1;have:=HRN.out;omega
 have HQG:=hid (show ∀ q∈ql,∀ w,QuIn d q w→(∀ a∈q.items,ExGd d a)∧(∀ a∈q.wh,ExGd d a)∧q.n≤1000∧q.m≤1000 from fun q hq w hin=>by
  have h:=hg.q.2.2 q hq
  have h6:q.items.length=q.n:=ExsIn.len hin.1
  have h7:q.wh.length=q.m:=ExsIn.len (show ExsIn d q.B q.m q.wh w from hin.2)
  have h8:=h.2.1
  exact ⟨h.2.2.1,h.2.2.2,by omega,by omega⟩)
 have HRG:=hid (show ∀ r∈rl,(∀ x∈r.l,ExGd d x)∧r.l.length≤8 from fun r hr=>⟨(hg.r.2.2 r hr).2.2,(hg.r.2.2 r hr).2.1⟩)
 have K0:=((Hold.start Zb w zn).add (hx.less (by simp [Mut]))).Za #[.int .i64 kind,.string tab,.slice rA rn rc,.slice qA qn qc,.slice sA sn sc,.slice hA hn hc,.string text] 97
 obtain ⟨gx,hgx⟩:∃ g,g=w.heap.size:=⟨_,rfl⟩
 rw [←hgx] at K0
 have F0:=K0.facts
 simp only [zg] at F0
 rw [hgx] at F0
 clear hx hg
 go_enter Tryz.func208,Tryz.ntmps208
 go_upto_region 1 with fail
 rw [←hgx] at F0 ⊢
 have HGX:=hid hgx
 clear hgx
 generalize World.alloc _ _=w1 at K0 F0 ⊢
 obtain ⟨c1,h1⟩:∃ z:Bool,((qn:Int)==1)=z:=⟨_,rfl⟩
 go_cut [25] (fun v wx=>∃ bb:Bool,v=.bool bb∧Hold Zb none w wx [.cst gx 97 #[.int .i64 kind,.string tab,.slice rA rn rc,.slice qA qn qc,.slice sA sn sc,.slice hA hn hc,.string text],.ro (AcIn d ⟨kind,tab,⟨rA,rn,rc,rl⟩,⟨qA,qn,qc,ql⟩,⟨sA,sn,sc,sl⟩,⟨hA,hn,hc,hl⟩,text⟩)])
 case first=>
  go_wp2_with fail
  all_goals (go_meet;exact ⟨_,rfl,K0⟩)
 case rest=>
  obtain ⟨bb,rfl,K1⟩:=hcut
  clear K0 F0 h1
  have K0:=K1
  clear K1
  have F0:=K0.facts
  simp only [zg] at F0
  cases bb
  ·rcases Nat.eq_zero_or_pos rn with h0|h0
   ·subst h0
    go_wp2_with fail
    go_loopw [29] (fun iv wr=>iv=.int .i64 0∧Hold Zb none w wr [.cst gx 97 #[.int .i64 kind,.string tab,.slice rA 0 rc,.slice qA qn qc,.slice sA sn sc,.slice hA hn hc,.string text],.ro (AcIn d ⟨kind,tab,⟨rA,0,rc,rl⟩,⟨qA,qn,qc,ql⟩,⟨sA,sn,sc,sl⟩,⟨hA,hn,hc,hl⟩,text⟩)]) (fun _ _=>0)
    case atStart=>exact ⟨rfl,K0⟩
    case round=>
     clear K0 F0
     obtain ⟨rfl,K0⟩:=hrel
     have F0:=K0.facts
     simp only [zg] at F0
     obtain rfl|rfl:qn=0∨qn=1:=by have:=HQL.out;omega
     ·go_wp2_with fail
      all_goals (go_ret;exact ⟨_,rfl,K0.below⟩)
     ·obtain ⟨q,hq⟩:∃ q,ql[0]? =some q:=Yg HQN.out (by omega)
      obtain ⟨b9,o9,eB,-,hc9,hin9⟩:=SlP.In.at_ (s:=⟨qA,1,qc,ql⟩) (k:=4) (cel:=Qu.cells) (P:=QuIn d) (K0.ro 1 rfl).now.2.1 (by omega) (fun _=>rfl) hq
      have eB:qA=some ⟨b9,o9,none⟩:=eB
      subst eB
      have q0:=hc9 0 _ (by omega) rfl
      have q1:=hc9 1 _ (by omega) rfl
      have q2:=hc9 2 _ (by omega) rfl
      have q3:=hc9 3 _ (by omega) rfl
      simp only [Nat.add_zero,Nat.zero_mul] at q0 q1 q2 q3
      have HVQ:=hid (J2 d q _ (((K0.ro 1 rfl).imp fun w2 h2=>h2.2.1.2 q (List.mem_of_getElem? hq)).less zn) (HQG.out q (List.mem_of_getElem? hq) _ hin9))
      clear hc9 hin9 hq
      go_wp2_with (go_at_call 234;go_must (refine HVQ.out.mono ?_);rintro e w1 ⟨r,rfl,b1⟩;replace K0:=K0.call b1;replace F0:=K0.facts;simp only [zg] at F0;clear b1)
      all_goals (go_ret;exact ⟨_,rfl,K0.below⟩)
   ·obtain ⟨b,o,eA,-,-⟩:=(show Rd _ _ 1 rA rn (rl.flatMap fun r:SlP Ex=>[r.v]) from (K0.ro 1 rfl).now.1.1).2 h0
    subst eA
    go_wp2_with fail
    go_loopw [29] (fun iv wr=>∃ j:Nat,j≤rn∧iv=.int .i64 j∧Hold Zb none w wr [.cst gx 97 #[.int .i64 kind,.string tab,.slice (some ⟨b,o,none⟩) rn rc,.slice qA qn qc,.slice sA sn sc,.slice hA hn hc,.string text],.ro (AcIn d ⟨kind,tab,⟨some ⟨b,o,none⟩,rn,rc,rl⟩,⟨qA,qn,qc,ql⟩,⟨sA,sn,sc,sl⟩,⟨hA,hn,hc,hl⟩,text⟩)]) (fun iv _=>rn - (intOf iv).toNat)
    case atStart=>exact ⟨0,by omega,rfl,K0⟩
    case round=>
     clear K0 F0
     obtain ⟨j,hj,rfl,K0⟩:=hrel
     by_cases hlt:j<rn
     ·obtain ⟨⟨eA,en,ec,el⟩,hr⟩:=Yg HRN.out hlt
      obtain ⟨b9,o9,eB,-,hc9,hin9⟩:=SlP.In.at_ (s:=⟨some ⟨b,o,none⟩,rn,rc,rl⟩) (k:=1) (cel:=fun r:SlP Ex=>[r.v]) (P:=fun r w=>r.In 10 Ex.cells (ExIn d) w) (K0.ro 1 rfl).now.1 (by omega) (fun _=>rfl) hr
      obtain ⟨rfl,rfl⟩:=WO (show some (⟨b,o,none⟩:Addr)=some ⟨b9,o9,none⟩ from eB)
      have q0:=hc9 0 _ (by omega) rfl
      simp only [Nat.add_zero,Nat.mul_one,SlP.v] at q0
      have hml:=List.mem_of_getElem? hr
      have hel:el.length=en:=ExsIn.len (show ExsIn d eA en el _ from hin9)
      have h8:=(HRG.out _ hml).2
      simp only at h8
      have HV:=hid (fun (wv:World) (h:Hold Zb none w wv [.cst gx 97 #[.int .i64 kind,.string tab,.slice (some ⟨b,o,none⟩) rn rc,.slice qA qn qc,.slice sA sn sc,.slice hA hn hc,.string text],.ro (AcIn d ⟨kind,tab,⟨some ⟨b,o,none⟩,rn,rc,rl⟩,⟨qA,qn,qc,ql⟩,⟨sA,sn,sc,sl⟩,⟨hA,hn,hc,hl⟩,text⟩)])=>XL d eA en ec el wv (((h.ro 1 rfl).imp fun w2 h2=>(show ExsIn d eA en el w2 from h2.1.2 _ hml)).less zn) (HRG.out _ hml).1 (by omega))
      have F0:=K0.facts
      simp only [zg] at F0
      clear hc9 hin9 eB hr
      go_upto_region 6 with fail
      go_cut [45] (fun v wx=>∃ bb:Bool,v=.bool bb∧Hold Zb none w wx [.cst gx 97 #[.int .i64 kind,.string tab,.slice (some ⟨b,o,none⟩) rn rc,.slice qA qn qc,.slice sA sn sc,.slice hA hn hc,.string text],.ro (AcIn d ⟨kind,tab,⟨some ⟨b,o,none⟩,rn,rc,rl⟩,⟨qA,qn,qc,ql⟩,⟨sA,sn,sc,sl⟩,⟨hA,hn,hc,hl⟩,text⟩)])
      case first=>
       go_wp2_with (go_at_call 162;go_must (refine (HV.out _ K0).mono ?_);rintro e w1 ⟨r,rfl,b1⟩;replace K0:=K0.call b1;replace F0:=K0.facts;simp only [zg] at F0;clear b1)
       all_goals (go_meet;exact ⟨_,rfl,K0⟩)
      case rest=>
       obtain ⟨bb,rfl,K1⟩:=hcut
       clear K0 F0 q0
       cases bb
       ·go_wp2_with fail
        go_roundw
        case rel=>exact ⟨j+1,by omega,by go_num,K1⟩
        case measure=>simp [intOf];omega
       ·go_wp2_with fail
        go_ret
        exact ⟨_,rfl,K1.below⟩
     ·obtain rfl:rn=j:=by omega
      have F0:=K0.facts
      simp only [zg] at F0
      obtain rfl|rfl:qn=0∨qn=1:=by have:=HQL.out;omega
      ·go_wp2_with fail
       all_goals (go_ret;exact ⟨_,rfl,K0.below⟩)
      ·obtain ⟨q,hq⟩:∃ q,ql[0]? =some q:=Yg HQN.out (by omega)
       obtain ⟨b9,o9,eB,-,hc9,hin9⟩:=SlP.In.at_ (s:=⟨qA,1,qc,ql⟩) (k:=4) (cel:=Qu.cells) (P:=QuIn d) (K0.ro 1 rfl).now.2.1 (by omega) (fun _=>rfl) hq
       have eB:qA=some ⟨b9,o9,none⟩:=eB
       subst eB
       have q0:=hc9 0 _ (by omega) rfl
       have q1:=hc9 1 _ (by omega) rfl
       have q2:=hc9 2 _ (by omega) rfl
       have q3:=hc9 3 _ (by omega) rfl
       simp only [Nat.add_zero,Nat.zero_mul] at q0 q1 q2 q3
       have HVQ:=hid (J2 d q _ (((K0.ro 1 rfl).imp fun w2 h2=>h2.2.1.2 q (List.mem_of_getElem? hq)).less zn) (HQG.out q (List.mem_of_getElem? hq) _ hin9))
       clear hc9 hin9 hq
       go_wp2_with (go_at_call 234;go_must (refine HVQ.out.mono ?_);rintro e w1 ⟨r,rfl,b1⟩;replace K0:=K0.call b1;replace F0:=K0.facts;simp only [zg] at F0;clear b1)
       all_goals (go_ret;exact ⟨_,rfl,K0.below⟩)
  ·go_wp2_with fail
   all_goals (go_ret;exact ⟨_,rfl,K0.below⟩)
def FB (d fn:Nat) (fl:List Fr):Prop:=fn+d≤1000∧∀ f∈fl,f.cols.n≤1000
def TBd (tn:Nat) (tl:List Te):Prop:=tn≤1000∧∀ x∈tl,x.n≤1000
def TY (d:Nat):Prop:=∀ (x:Ex) (fA:Option Addr) (fn fc:Nat) (fl:List Fr) (tA:Option Addr) (tn tc:Nat) (tl:List Te) (w:World) (hx:Ro w Zb (ExIn d x)) (hg:ExGd d x) (hf:Ro w Zb (FrsIn ⟨fA,fn,fc,fl⟩)) (ht:Ro w Zb (TesIn tA tn tl)) (hfb:FB d fn fl) (htb:TBd tn tl),Calls Tryz.prog 164 #[.agg #[.int .i64 x.kind,.int .i64 x.op,.bool x.nt,.int .i64 x.v.k,.int .i64 x.v.i,.string x.v.s,.string x.tab,.string x.nm,.slice x.A x.n x.c,.slice x.B x.m x.d],.slice fA fn fc,.slice tA tn tc] w fun e w' =>QS w e w'
def V6 (w:World) (e:Ending) (w' :World):Prop:=∃ c:Int,e=.returned (.int .i64 c)∧Below w.heap.size w w'
def CO (d:Nat):Prop:=∀ (A:Option Addr) (n c:Nat) (l:List Ex) (fA:Option Addr) (fn fc:Nat) (fl:List Fr) (tA:Option Addr) (tn tc:Nat) (tl:List Te) (w:World) (hx:Ro w Zb (ExsIn d A n l)) (hg:∀ x∈l,ExGd d x) (hf:Ro w Zb (FrsIn ⟨fA,fn,fc,fl⟩)) (ht:Ro w Zb (TesIn tA tn tl)) (hfb:FB d fn fl) (htb:TBd tn tl),Calls Tryz.prog 103 #[.slice A n c,.slice fA fn fc,.slice tA tn tc] w fun e w' =>V6 w e w'
set_option maxHeartbeats 8000000 in
set_option maxRecDepth 100000 in
theorem G5 {d:Nat} (HT:TY d):CO d:=by
 intro A n c l fA fn fc fl tA tn tc tl w hx hg hf ht hfb htb
 have HLN:=hid (show l.length=n from hx.now.len)
 have HG:=hid hg
 have K0:=(((Hold.start Zb w zn).add (ht.less (by simp [Mut]))).add (hf.less (by simp [Mut,Hp.foot]))).add (hx.less (by simp [Mut,Hp.foot]))
 clear hx hg hf ht
 go_enter Tryz.func103,Tryz.ntmps103
 rcases Nat.eq_zero_or_pos n with h0|h0
 ·subst h0
  go_wp2_with fail
  go_ret
  exact ⟨_,rfl,K0.below⟩
 ·have hnz:((n:Int)==0)=false:=by simp;omega
  have hn0:(0:Int)<n:=by omega
  obtain ⟨x,hx⟩:=Yg HLN.out (show 0<n from h0)
  obtain ⟨b,o,rfl,hb,hc,-⟩:=(K0.ro 0 rfl).now.at_ hx
  have hm:=List.mem_of_getElem? hx
  have x0:=hc 0 _ (by omega) rfl
  have x1:=hc 1 _ (by omega) rfl
  have x2:=hc 2 _ (by omega) rfl
  have x3:=hc 3 _ (by omega) rfl
  have x4:=hc 4 _ (by omega) rfl
  have x5:=hc 5 _ (by omega) rfl
  have x6:=hc 6 _ (by omega) rfl
  have x7:=hc 7 _ (by omega) rfl
  have x8:=hc 8 _ (by omega) rfl
  have x9:=hc 9 _ (by omega) rfl
  simp only [Nat.add_zero,Nat.zero_mul] at x0 x1 x2 x3 x4 x5 x6 x7 x8 x9
  clear hc hx
  go_wp2_with fail
  refine (HT x fA fn fc fl tA tn tc tl _ (((K0.ro 0 rfl).imp fun w2 h2=>h2.2 x hm).less zn) (HG.out x hm) ((K0.ro 1 rfl).less zn) ((K0.ro 2 rfl).less zn) hfb htb).mono ?_
  rintro e w1 ⟨t,cd,rfl,b1⟩
  have K1:=K0.call b1
  clear K0 b1 x0 x1 x2 x3 x4 x5 x6 x7 x8 x9
  obtain ⟨z,hz⟩:∃ z:Bool,(cd !=0)=z:=⟨_,rfl⟩
  cases z
  ·go_wp2_with fail
   refine (Qc _ _ _).mono ?_
   rintro e w3 ⟨r,rfl,b3⟩
   have K3:=K1.call b3
   clear K1 b3
   cases r
   ·go_wp2_with fail
    go_ret
    exact ⟨_,rfl,K3.below⟩
   ·go_wp2_with fail
    go_ret
    exact ⟨_,rfl,K3.below⟩
  ·go_wp2_with fail
   go_ret
   exact ⟨_,rfl,K1.below⟩
theorem ExIn.Zbr {d:Nat} {x:Ex} {w:World} (h:ExIn (d+1) x w):ExsIn d x.A x.n x.args w:=⟨h.1,h.2.1⟩
theorem Zel {d:Nat} {x:Ex} {w:World} (h:ExIn (d+1) x w) (h1:x.m=1):∃ (b o:Nat) (q:Qu),x.B=some ⟨b,o,none⟩∧x.sub=[q]∧QuIn d q w:=by
 obtain ⟨b,o,q,e,-,hs,-⟩:=Ud h h1
 exact ⟨b,o,q,e,hs,h.2.2.2 q (by rw [hs];simp)⟩
set_option maxHeartbeats 8000000 in
set_option maxRecDepth 100000 in
theorem Zck {d:Nat} (HT:TY d) (HC:CO d) (x:Ex) (fA:Option Addr) (fn fc:Nat) (fl:List Fr) (tA:Option Addr) (tn tc:Nat) (tl:List Te) (w:World) (hx:Ro w Zb (ExIn (d+1) x)) (hg:ExGd (d+1) x) (hm1:x.m=1) (hf:Ro w Zb (FrsIn ⟨fA,fn,fc,fl⟩)) (ht:Ro w Zb (TesIn tA tn tl)) (hfb:FB (d+1) fn fl) (htb:TBd tn tl):Calls Tryz.prog 210 #[.agg #[.int .i64 x.kind,.int .i64 x.op,.bool x.nt,.int .i64 x.v.k,.int .i64 x.v.i,.string x.v.s,.string x.tab,.string x.nm,.slice x.A x.n x.c,.slice x.B x.m x.d],.slice fA fn fc,.slice tA tn tc] w fun e w' =>QS w e w' :=by
 obtain ⟨b,o,⟨star,qA,qn,qc,qil,src,qB,qm,qd,qwl⟩,eB,hsub,-⟩:=Zel hx.now hm1
 have HQG:=hid (show QuGd d ⟨star,qA,qn,qc,qil,src,qB,qm,qd,qwl⟩ from by
  have h:=hg.2.2.2 ⟨star,qA,qn,qc,qil,src,qB,qm,qd,qwl⟩ (by rw [hsub];simp)
  exact h)
 have HQI:=hid (show ∀ w2,ExIn (d+1) x w2→QuIn d ⟨star,qA,qn,qc,qil,src,qB,qm,qd,qwl⟩ w2 from fun w2 h2=>h2.2.2.2 ⟨star,qA,qn,qc,qil,src,qB,qm,qd,qwl⟩ (by rw [hsub];simp))
 have HFB:=hid hfb
 have HTB:=hid htb
 have HQC:=hid (show ∀ w2,ExIn (d+1) x w2→w2.cell? ⟨b,o,none⟩=some (.bool star)∧w2.cell? ⟨b,o+1,none⟩=some (.slice qA qn qc)∧w2.cell? ⟨b,o+2,none⟩=some (.string src)∧w2.cell? ⟨b,o+3,none⟩=some (.slice qB qm qd) from fun w2 h2=>by
  obtain ⟨b',o',q',e',-,hs',hh⟩:=Ud h2 hm1
  rw [eB] at e'
  obtain ⟨rfl,rfl⟩:=WO e'
  rw [hsub] at hs'
  obtain rfl:=(List.cons.inj hs').1
  exact hh)
 have hfn:fn≤1000:=by have:=hfb.1;omega
 have KS:=((((Hold.start Zb w zn).add (ht.less (by simp [Mut]))).add (hf.less (by simp [Mut,Hp.foot]))).add (hx.less (by simp [Mut,Hp.foot]))).Za #[.int .i64 x.kind,.int .i64 x.op,.bool x.nt,.int .i64 x.v.k,.int .i64 x.v.i,.string x.v.s,.string x.tab,.string x.nm,.slice x.A x.n x.c,.slice x.B x.m x.d] 126
 obtain ⟨gx,hgx⟩:∃ g,g=w.heap.size:=⟨_,rfl⟩
 rw [←hgx] at KS
 rw [hm1,eB] at KS ⊢
 clear hx hg hf ht hfb htb
 go_enter Tryz.func210,Tryz.ntmps210
 go_upto_region 1 with fail
 rw [←hgx]
 have HGX:=hid hgx
 clear hgx
 generalize World.alloc _ _=w1 at KS ⊢
 obtain ⟨q0,q1,q2,q3⟩:=HQC.out _ (KS.ro 1 rfl).now
 have K0:=(KS.add (S:=QuIn d ⟨star,qA,qn,qc,qil,src,qB,qm,qd,qwl⟩) ((KS.ro 1 rfl).imp HQI.out)).Za #[.bool star,.slice qA qn qc,.string src,.slice qB qm qd] 273
 have FS:=KS.facts
 simp only [zg] at FS
 have F0:=K0.facts
 simp only [zg] at F0
 clear KS
 go_wp2_with fail
 obtain ⟨gq,hgq⟩:∃ g,g=w1.heap.size:=⟨_,rfl⟩
 rw [←hgq] at K0 ⊢
 have HGQ:=hid hgq
 clear hgq F0 FS q0 q1 q2 q3
 refine (VN (Mut Zb _) _ K0.Zc tA tn tc tl src (K0.ro 5 rfl) HTB.out.1 HTB.out.2).mono ?_
 rintro e w2 ⟨s,ok,rfl,hsn,hsc,rs,b2⟩
 have K1:=((K0.call b2).add rs).Za #[.string s.nm,.slice s.cols.A s.cols.n s.cols.c] 49
 clear K0 rs b2
 have F1:=K1.facts
 simp only [zg] at F1
 cases ok
 ·go_wp2_with fail
  go_ret2
  exact ⟨_,_,rfl,K1.below⟩
 ·go_wp2_with fail
  obtain ⟨gs,hgs⟩:∃ g,g=w2.heap.size:=⟨_,rfl⟩
  rw [←hgs] at K1 ⊢
  have HGS:=hid hgs
  clear hgs F1
  refine (Ja (Mut Zb _) _ K1.Zc fA fn fc fl s (K1.ro 6 rfl) (K1.ro 1 rfl) hfn).mono ?_
  rintro e w3 ⟨IA,ic,rfl,ri,b3⟩
  have K2:=((K1.call b3).add ri)
  clear K1 ri b3
  have HIB:=hid (show FB d (fn+1) (fl++[(⟨s.nm,false,s.cols,SlP.nil⟩:Fr)]) from ⟨by have:=HFB.out.1;omega,fun f hf=>by
   rcases List.mem_append.1 hf with hf|hf
   ·exact HFB.out.2 f hf
   ·simp only [List.mem_cons,List.not_mem_nil,or_false] at hf
    subst hf
    exact hsn⟩)
  have HIN:=hid (show qil.length=qn from ExsIn.len (K2.ro 4 rfl).now.1)
  have hq8:qn≤8:=by rw [←HIN.out];exact HQG.out.2.1.1
  have F2:=K2.facts
  simp only [zg] at F2
  go_wp2_with fail
  clear F2
  go_loopw [12,37] (fun pv iv wr=>∃ (p:Int) (j:Nat),j≤qn∧pv=.int .i64 p∧iv=.int .i64 j∧Hold Zb none w wr [.ro (FrsIn ⟨IA,fn+1,ic,fl++[⟨s.nm,false,s.cols,SlP.nil⟩]⟩),.cst gq 273 #[.bool star,.slice qA qn qc,.string src,.slice qB qm qd],.ro (QuIn d ⟨star,qA,qn,qc,qil,src,qB,qm,qd,qwl⟩),.cst gx 126 #[.int .i64 x.kind,.int .i64 x.op,.bool x.nt,.int .i64 x.v.k,.int .i64 x.v.i,.string x.v.s,.string x.tab,.string x.nm,.slice x.A x.n x.c,.slice (some ⟨b,o,none⟩) 1 x.d],.ro (TesIn tA tn tl)]) (fun _ iv _=>qn - (intOf iv).toNat)
  case atStart=>exact ⟨1,0,by omega,rfl,rfl,K2.pick [0,3,4,5,8] (by decide) rfl⟩
  case round=>
   clear K2
   obtain ⟨p,j,hj,rfl,rfl,H⟩:=hrel
   by_cases hlt:j<qn
   ·obtain ⟨y,hy⟩:=Yg HIN.out hlt
    obtain ⟨qb,qo,rfl,hb,hc,-⟩:=(show ExsIn d qA qn qil _ from (H.ro 2 rfl).now.1).at_ hy
    have hm:=List.mem_of_getElem? hy
    have x0:=hc 0 _ (by omega) rfl
    have x1:=hc 1 _ (by omega) rfl
    have x2:=hc 2 _ (by omega) rfl
    have x3:=hc 3 _ (by omega) rfl
    have x4:=hc 4 _ (by omega) rfl
    have x5:=hc 5 _ (by omega) rfl
    have x6:=hc 6 _ (by omega) rfl
    have x7:=hc 7 _ (by omega) rfl
    have x8:=hc 8 _ (by omega) rfl
    have x9:=hc 9 _ (by omega) rfl
    simp only [Nat.add_zero] at x0 x1 x2 x3 x4 x5 x6 x7 x8 x9
    clear hc hy
    have K3:=H.Za #[.int .i64 y.kind,.int .i64 y.op,.bool y.nt,.int .i64 y.v.k,.int .i64 y.v.i,.string y.v.s,.string y.tab,.string y.nm,.slice y.A y.n y.c,.slice y.B y.m y.d] 126
    have F3:=K3.facts
    simp only [zg] at F3
    clear H
    go_wp2_with fail
    refine (HT y IA (fn+1) ic (fl++[⟨s.nm,false,s.cols,SlP.nil⟩]) tA tn tc tl _ (((K3.ro 3 rfl).imp fun w2 h2=>h2.1.2 y hm).less zn) (HQG.out.2.2.1 y hm) ((K3.ro 1 rfl).less zn) ((K3.ro 5 rfl).less zn) HIB.out HTB.out).mono ?_
    rintro e w4 ⟨t,cd,rfl,b4⟩
    have K4:=K3.call b4
    clear K3 F3 b4 x0 x1 x2 x3 x4 x5 x6 x7 x8 x9
    obtain ⟨z,hz⟩:∃ z:Bool,(cd !=0)=z:=⟨_,rfl⟩
    cases z
    ·go_wp2_with fail
     go_roundw
     case rel=>exact ⟨t,j+1,by omega,rfl,by go_num,K4.drop (List.sublist_cons_self _ _)⟩
     case measure=>simp [intOf];omega
    ·go_wp2_with fail
     go_ret2
     exact ⟨_,_,rfl,K4.below⟩
   ·obtain rfl:qn=j:=by omega
    have F4:=H.facts
    simp only [zg] at F4
    go_wp2_with fail
    refine (HC qB qm qd qwl IA (fn+1) ic (fl++[⟨s.nm,false,s.cols,SlP.nil⟩]) tA tn tc tl _ (((H.ro 2 rfl).imp fun w2 h2=>(show ExsIn d qB qm qwl w2 from h2.2)).less zn) HQG.out.2.2.2 ((H.ro 0 rfl).less zn) ((H.ro 4 rfl).less zn) HIB.out HTB.out).mono ?_
    rintro e w4 ⟨cd,rfl,b4⟩
    have K4:=H.call b4
    clear H F4 b4
    have F4:=K4.facts
    simp only [zg] at F4
    obtain ⟨z,hz⟩:∃ z:Bool,(cd !=0)=z:=⟨_,rfl⟩
    cases z
    ·obtain ⟨c8,h8⟩:∃ z:Bool,(x.kind==8)=z:=⟨_,rfl⟩
     obtain ⟨c11,h11⟩:∃ z:Bool,(x.kind==11)=z:=⟨_,rfl⟩
     obtain ⟨c12,h12⟩:∃ z:Bool,(x.kind==12)=z:=⟨_,rfl⟩
     obtain ⟨c10,h10⟩:∃ z:Bool,(x.kind==10)=z:=⟨_,rfl⟩
     cases c10
     ·go_wp2_with fail
      all_goals (go_ret2;exact ⟨_,_,rfl,K4.below⟩)
     ·go_wp2_with (go_at_call 165;go_must (refine (Qc _ _ _).mono ?_);rintro e w5 ⟨r,rfl,b5⟩;replace K4:=K4.call b5;clear b5;replace F4:=K4.facts;simp only [zg] at F4)
      all_goals (go_ret2;exact ⟨_,_,rfl,K4.below⟩)
    ·go_wp2_with fail
     go_ret2
     exact ⟨_,_,rfl,K4.below⟩
end Go.Proofs.YtnbbllkbefagmaaGreatDoor

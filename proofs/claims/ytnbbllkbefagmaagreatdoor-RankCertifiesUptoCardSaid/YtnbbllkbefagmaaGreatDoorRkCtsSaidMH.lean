import Derived.Test.YtnbbllkbefagmaaGreatDoorRkCtsSaidMG
import Derived.Test.YtnbbllkbefagmaaGreatDoorRkCtsSaidMC
import Derived.Test.YtnbbllkbefagmaaGreatDoorRkCtsSaidMD
import Derived.Test.YtnbbllkbefagmaaGreatDoorRkCtsSaidMF
namespace Go.Proofs.YtnbbllkbefagmaaGreatDoor
open Go.RowKit
set_option linter.unusedVariables false
set_option linter.unusedSimpArgs false
def ZgR (w:World) (M:Nat→Prop) (nm:ByteArray) (l:List Col) (e:Ending) (w' :World):Prop:=
 ∃ (A:Option Addr) (n c:Nat),e=.returned (.agg #[.string nm,.slice A n c])∧n≤c∧c≤4∧Ro w' M (SlR 4 A n (Zd l))∧Below w.heap.size w w'
set_option maxHeartbeats 4000000 in
theorem Ur (M:Nat→Prop) (w:World) (hM:∀ b,M b→b<w.heap.size) (s:ByteArray):Calls Tryz.prog 14 #[.string s] w fun e w' =>ZgR w M (ZP s).1 (ZP s).2 e w' :=by
 have K0:=(Hold.start M w hM).alloc #[.string ⟨#[]⟩,.slice none 0 0] 49
 go_enter Tryz.func14,Tryz.ntmps14
 go_wp2_with fail
 refine (U4 (Mut M _) _ K0.Zc).mono ?_
 rintro e w1 ⟨g,g0,g1,g2,nl,nt,nu,e1,e2,e3,rfl,b1,r,r0,r1,r2⟩
 have E1:=hid e1;have E2:=hid e2;have E3:=hid e3
 clear e1 e2 e3
 have K1:=((((K0.call b1).add r2).add (r1.less (XF rfl))).add ((r0.less (XF rfl)).less (XF rfl))).JL (((r.less (XF rfl)).less (XF rfl)).less (XF rfl))
 clear b1 r r0 r1 r2 K0
 go_wp2_with fail
 go_loopw [7] (fun i wr=>∃ k:Nat,k≤3∧i=.int .i64 k∧(0<k→(nl.toList==s.toList)=false)∧(1<k→(nt.toList==s.toList)=false)∧(2<k→(nu.toList==s.toList)=false)∧
  Hold M none w wr [.cst g 49 #[.string nl,.slice (some ⟨g0,0,none⟩) 2 2,.string nt,.slice (some ⟨g1,0,none⟩) 4 4,.string nu,.slice (some ⟨g2,0,none⟩) 3 3],.ro (SlR 4 (some ⟨g0,0,none⟩) 2 (Zd Ym)),.ro (SlR 4 (some ⟨g1,0,none⟩) 4 (Zd Yl)),.ro (SlR 4 (some ⟨g2,0,none⟩) 3 (Zd Yb)),.blk w.heap.size 49 #[.string ⟨#[]⟩,.slice none 0 0]]) (fun i _=>3 - (intOf i).toNat)
 case atStart=>exact ⟨0,by omega,rfl,fun h=>absurd h (by omega),fun h=>absurd h (by omega),fun h=>absurd h (by omega),K1⟩
 case round=>
  obtain ⟨k,hk,rfl,q0,q1,q2,H⟩:=hrel
  have F:=H.facts
  simp only [World.size_alloc,factsL,Zm,List.toList_toArray,Nat.reduceAdd,and_true,true_and] at F
  have hc:k=0∨k=1∨k=2∨k=3:=by omega
  rcases hc with rfl|rfl|rfl|rfl
  ·clear q0 q1 q2
   cases ht:(nl.toList==s.toList)
   ·have KN:=H.Za #[.string nl,.slice (some ⟨g0,0,none⟩) 2 2] 49
    go_wp2_with fail
    go_roundw
    case rel=>exact ⟨1,by omega,by go_num,by intros;first|exact ht|trivial,by intros;first|trivial|omega,by intros;first|trivial|omega,KN.drop (List.sublist_cons_self _ _)⟩
    case measure=>simp [intOf]
   ·have HR:Hid (ZP s=(nl,Ym)):=by
     unfold Hid ZP
     have h:=ht
     rw [←E1.out,←E2.out,←E3.out,if_pos h]
    have KN:=((H.store 4 rfl 0 (.string nl)).store 4 rfl 1 (.slice (some ⟨g0,0,none⟩) 2 2)).Za #[.string nl,.slice (some ⟨g0,0,none⟩) 2 2] 49
    go_wp2_with fail
    exact bodyPost_ret (v:=.agg #[.string nl,.slice (some ⟨g0,0,none⟩) 2 2]) (by simp [results,Tryz.results14,go_sem,F]) rfl ⟨some ⟨g0,0,none⟩,2,2,by rw [HR.out],by omega,by omega,by rw [HR.out];exact KN.YM 2 rfl,KN.below⟩
  ·have Q0:=hid (q0 (by omega));clear q0 q1 q2
   cases ht:(nt.toList==s.toList)
   ·have KN:=H.Za #[.string nt,.slice (some ⟨g1,0,none⟩) 4 4] 49
    go_wp2_with fail
    go_roundw
    case rel=>exact ⟨2,by omega,by go_num,by intros;first|exact Q0.out|trivial,by intros;first|exact ht|trivial,by intros;first|trivial|omega,KN.drop (List.sublist_cons_self _ _)⟩
    case measure=>simp [intOf]
   ·have HR:Hid (ZP s=(nt,Yl)):=by
     unfold Hid ZP
     have h:=ht
     rw [←E1.out,←E2.out,←E3.out,if_neg (by rw [Q0.out];simp),if_pos h]
    have KN:=((H.store 4 rfl 0 (.string nt)).store 4 rfl 1 (.slice (some ⟨g1,0,none⟩) 4 4)).Za #[.string nt,.slice (some ⟨g1,0,none⟩) 4 4] 49
    go_wp2_with fail
    exact bodyPost_ret (v:=.agg #[.string nt,.slice (some ⟨g1,0,none⟩) 4 4]) (by simp [results,Tryz.results14,go_sem,F]) rfl ⟨some ⟨g1,0,none⟩,4,4,by rw [HR.out],by omega,by omega,by rw [HR.out];exact KN.YM 3 rfl,KN.below⟩
  ·have Q0:=hid (q0 (by omega));have Q1:=hid (q1 (by omega));clear q0 q1 q2
   cases ht:(nu.toList==s.toList)
   ·have KN:=H.Za #[.string nu,.slice (some ⟨g2,0,none⟩) 3 3] 49
    go_wp2_with fail
    go_roundw
    case rel=>exact ⟨3,by omega,by go_num,by intros;first|exact Q0.out|trivial,by intros;first|exact Q1.out|trivial,by intros;first|exact ht|trivial,KN.drop (List.sublist_cons_self _ _)⟩
    case measure=>simp [intOf]
   ·have HR:Hid (ZP s=(nu,Yb)):=by
     unfold Hid ZP
     have h:=ht
     rw [←E1.out,←E2.out,←E3.out,if_neg (by rw [Q0.out];simp),if_neg (by rw [Q1.out];simp),if_pos h]
    have KN:=((H.store 4 rfl 0 (.string nu)).store 4 rfl 1 (.slice (some ⟨g2,0,none⟩) 3 3)).Za #[.string nu,.slice (some ⟨g2,0,none⟩) 3 3] 49
    go_wp2_with fail
    exact bodyPost_ret (v:=.agg #[.string nu,.slice (some ⟨g2,0,none⟩) 3 3]) (by simp [results,Tryz.results14,go_sem,F]) rfl ⟨some ⟨g2,0,none⟩,3,3,by rw [HR.out],by omega,by omega,by rw [HR.out];exact KN.YM 4 rfl,KN.below⟩
  ·have Q0:=hid (q0 (by omega));have Q1:=hid (q1 (by omega));have Q2:=hid (q2 (by omega));clear q0 q1 q2
   have HR:Hid (ZP s=(⟨#[]⟩,[])):=by
    unfold Hid ZP
    rw [←E1.out,←E2.out,←E3.out,if_neg (by rw [Q0.out];simp),if_neg (by rw [Q1.out];simp),if_neg (by rw [Q2.out];simp)]
   have KN:=(H.store 4 rfl 0 (.string ⟨#[]⟩)).store 4 rfl 1 (.slice none 0 0)
   go_wp2_with fail
   exact bodyPost_ret (v:=.agg #[.string ⟨#[]⟩,.slice none 0 0]) (by simp [results,Tryz.results14,go_sem,F]) rfl ⟨none,0,0,by rw [HR.out],by omega,by omega,by rw [HR.out];exact Qz,KN.below⟩
def QB:Vl:=⟨0,0,⟨#[]⟩⟩
theorem Zfi:(⟨#[]⟩:ByteArray).size≤maxLen:=by unfold maxLen;decide
theorem Q7:QB.ok:=⟨show I64 0 by unfold I64;omega,show I64 0 by unfold I64;omega,Zfi⟩
theorem Jw {w:World} {A:Option Addr} {n:Nat} {l:List Col} (h:ColsIn A n l w):l.length=n:=(RdC.Zw h).len
theorem Wds.ro2 {w:World} {M:Nat→Prop} (h:Wds w) (hM:¬M 1):Ro w M Wds:=fun w2 _ h2=>h.keep (h2 _ h.lt hM)
def ZdH (w:World) (T:Nat) (e:Ending) (w' :World):Prop:=
 ∃ x:Int,e=.returned (.int .i64 x)∧-3≤x∧x≤12∧Tp w' T∧w.grownBy w' (some T)
set_option maxHeartbeats 400000 in
theorem Vd (T:Nat) (w:World) (ht:Tp w T):Calls Tryz.prog 32 #[.pointer (some ⟨T,0,none⟩)] w fun e w' =>ZdH w T e w' :=by
 go_enter Tryz.func32,Tryz.ntmps32
 go_wp2_with fail
 refine (ZQ T 16 _ ht (by omega) (by omega)).mono ?_
 rintro e w1 ⟨r,rfl,r0,r1,t1,g1⟩
 go_wp2
 go_ret
 exact ⟨r - 3,by first|rfl|simp,by omega,by omega,t1,g1⟩
def Xx:List Col→List Vl→Prop
 | [],[]=>True
 | c::cs,v::vs=>Xe c v=0∧Xx cs vs
 | _,_=>False
theorem UY:∀ {cs:List Col} {vs:List Vl},Xx cs vs→vs.length=cs.length
 | [],[],_=>rfl
 | c::cs,v::vs,h=>by simp [UY h.2]
 | [],_::_,h=>h.elim
 | _::_,[],h=>h.elim
theorem JS:∀ {cs:List Col} {vs:List Vl},Xx cs vs→Qd cs vs=0
 | [],[],_=>rfl
 | c::cs,v::vs,h=>by rw [Qd,if_pos h.1];exact JS h.2
 | [],_::_,h=>h.elim
 | _::_,[],h=>h.elim
theorem ZcX {cs:List Col} {vs:List Vl} (h:Xx cs vs):Wh cs vs=0:=by
 unfold Wh;rw [if_pos (UY h)];exact JS h
theorem GR:∀ {cs:List Col} {vs:List Vl} {c:Col} {v:Vl},Xx cs vs→Xe c v=0→Xx (cs++[c]) (vs++[v])
 | [],[],_,_,_,h=>⟨h,trivial⟩
 | c::cs,v::vs,_,_,h,k=>⟨h.1,GR h.2 k⟩
 | [],_::_,_,_,h,_=>h.elim
 | _::_,[],_,_,h,_=>h.elim
theorem X5 {cs:List Col} {vs:List Vl} {k:Nat} {c:Col} {v:Vl} (h:Xx (cs.take k) vs) (hc:cs[k]? =some c) (hv:Xe c v=0):Xx (cs.take (k+1)) (vs++[v]):=by
 rw [List.take_add_one,hc]
 exact GR h hv
def VY (c:Col):Prop:=c.ty=1∨c.ty=2∨c.ty=3
theorem ZbL {c:Col} {k i:Int} {s:ByteArray} (hc:VY c) (h:WY c.ty k i s):Xe c ⟨k,i,s⟩=0∧k=c.ty:=by
 obtain ⟨h1,h2,_⟩:=h
 obtain rfl:=h2 hc
 have h3:(c.ty==0)=false:=by rcases hc with h|h|h<;>rw [h]<;>rfl
 refine ⟨?_,rfl⟩
 unfold Xe
 rw [if_pos h1]
 simp [h3]
theorem Zal {c:Col} (hc:c.ty=1) (i:Int) (s:ByteArray) (j:Int) (h:Xe c ⟨1,i,s⟩=0):Xe c ⟨1,j,s⟩=0:=by
 unfold Xe at h ⊢
 have e:YA 1 j s=YA 1 i s:=by unfold YA;rw [if_neg (by decide),if_pos rfl,if_neg (by decide),if_pos rfl]
 rw [e]
 exact h
theorem QM {c:Col} (hc:c.nn=false):Xe c QB=0:=by
 have e:YA 0 0 ⟨#[]⟩=true:=by decide+kernel
 simp [Xe,QB,e,hc]
def Zgj (w:World) (T:Nat) (cs:List Col) (e:Ending) (w' :World):Prop:=
 ∃ (A:Option Addr) (n c:Nat) (vs:List Vl),e=.returned (.slice A n c)∧n=vs.length∧(∀ v∈vs,v.ok)∧Xx cs vs∧w'.ownsRow w.heap.size 122 3 (.slice A n c) n (YS vs)∧Tp w' T∧w.grownBy w' (some T)
theorem We (l:List Vl) (k i:Int) (s:ByteArray):YS l++(#[Value.int .i64 k,.int .i64 i,.string s]).toList=YS (l++[⟨k,i,s⟩]):=by simp [YS,Vl.cells]
theorem X6 {l:List Vl} {v:Vl} (h:∀ x∈l,x.ok) (hv:v.ok):∀ x∈l++[v],x.ok:=fun x hx=>by
 rcases List.mem_append.1 hx with hx|hx
 ·exact h x hx
 ·simp at hx;subst hx;exact hv
set_option maxHeartbeats 4000000 in
set_option maxRecDepth 100000 in
theorem ZfJ (M:Nat→Prop) (T:Nat) (w:World) (hM:∀ b,M b→b<w.heap.size) (ht:Tp w T) (hMT:∀ b,M b→T≤b) (nm:ByteArray) (A:Option Addr) (n c:Nat) (cs:List Col) (hD:Ro w (Mut M [.tp T]) (ColsIn A n cs)) (hW:Ro w (Mut M [.tp T]) Wds) (hT:1<T)
  (hn:n≤1000) (hok:∀ x∈cs,VY x):Calls Tryz.prog 67 #[.pointer (some ⟨T,0,none⟩),.agg #[.string nm,.slice A n c]] w fun e w' =>Zgj w T cs e w' :=by
 have HL:=hid (Jw hD.now)
 have HOKC:=hid hok
 clear hok
 have K0:=((((Hold.YY M w T hM ht hMT).add hD).add (hW.less (XF rfl))).Za #[.string nm,.slice A n c] 49).nil 122 3
 clear hD hW
 go_enter Tryz.func67,Tryz.ntmps67
 go_wp2_with fail
 go_loopw [5,12] (fun ov iv wr=>∃ (k cap:Nat) (O:Option Addr) (outs:List Vl),k≤n∧iv=.int .i64 k∧ov=.slice O k cap∧Hid (∀ v∈outs,v.ok)∧Hid (Xx (cs.take k) outs)∧Hold M (some T) w wr [.own 122 3 (.slice O k cap) k (YS outs),.cst w.heap.size 49 #[.string nm,.slice A n c],.ro Wds,.ro (ColsIn A n cs),.tp T]) (fun _ iv _=>n - (intOf iv).toNat)
 case atStart=>exact ⟨0,0,none,[],by omega,rfl,rfl,hid (fun v hv=>nomatch hv),hid trivial,K0⟩
 case round=>
  clear K0
  obtain ⟨k,cap,O,outs,hk,rfl,rfl,HO,HF,H⟩:=hrel
  by_cases hlt:k<n
  ·have hd:decide ((k:Int)<(n:Int))=true:=by simp;omega
   have k0:(0:Int)≤(k:Int):=by omega
   have k1:(k:Int)<(n:Int):=by omega
   obtain ⟨⟨xn,xt,xnn,xk⟩,hx⟩:=YC HL.out hlt
   obtain ⟨g,o,rfl,hgb,c0,c1,c2,c3⟩:=(RdC.Zw (H.ro 3 rfl).now).at_ hx
   dsimp only at c0 c1 c2 c3
   have HCO:=hid (HOKC.out _ (List.mem_of_getElem? hx))
   have HX:=hid hx
   clear hx
   have K1:=H.Za #[.string xn,.int .i64 xt,.bool xnn,.bool xk] 158
   obtain ⟨gc,hgc⟩:∃ gc,gc=wr.heap.size:=⟨_,rfl⟩
   rw [←hgc] at K1
   go_wp2_with fail
   rw [←hgc]
   clear hgc
   refine (UB T xt _ (K1.tp_ 5 rfl) (K1.ro 3 rfl).now hT).mono ?_
   rintro e w2 ⟨kk,ii,ss,rfl,hkk,hss,hii,t2,_,g2⟩
   have K2:=(Hold.Zf K1 5 rfl g2 t2)
   obtain ⟨hfit,hkt⟩:=ZbL (c:=⟨xn,xt,xnn,xk⟩) HCO.out hkk
   obtain rfl:kk=xt:=hkt
   clear hkk g2 t2 K1
   have HFIT:=hid hfit
   clear hfit
   have K3:=K2.alloc #[.int .i64 kk,.int .i64 ii,.string ss] 122
   clear K2
   have F3:=K3.facts
   simp only [zg] at F3
   have hssm:ss.size≤maxLen:=by unfold maxLen;omega
   by_cases h1:kk=1
   ·subst h1
    have hb:((1:Int)==1)=true:=rfl
    go_wp2_with fail
    refine (ZZ T 9 _ (K3.tp_ 6 rfl) (by omega) (by omega)).mono ?_
    rintro e w3 ⟨b1,rfl,t3,g3⟩
    obtain ⟨gv,hgv⟩:∃ gv,gv=w2.heap.size:=⟨_,rfl⟩
    have K4:=Hold.Zf K3 6 rfl g3 t3
    clear K3 g3 t3 F3
    rw [←hgv] at K4 ⊢
    clear hgv
    have F4:=K4.facts
    simp only [zg] at F4
    cases b1
    ·go_wp2_with fail
     refine (Vd T _ (K4.tp_ 6 rfl)).mono ?_
     rintro e w4 ⟨y,rfl,y0,y1,t4,g4⟩
     have K5:=(Hold.Zf K4 6 rfl g4 t4).store 0 rfl 1 (.int .i64 y)
     have F5:=(Hold.Zf K4 6 rfl g4 t4).facts
     simp only [factsL,Zm,Nat.reduceAdd,List.toList_toArray,and_true,true_and] at F5
     clear K4 g4 t4 F4
     have hyI:I64 y:=by unfold I64;omega
     cases xnn
     ·skip
      have KN:=K5
      try simp only [zl] at KN
      have FN:=KN.facts
      simp only [zg] at FN
      go_wp2_with fail
      refine (ZZ T 5 _ (KN.tp_ 6 rfl) (by omega) (by omega)).mono ?_
      rintro e w8 ⟨b2,rfl,t8,g8⟩
      have KM:=Hold.Zf KN 6 rfl g8 t8
      clear KN FN g8 t8
      have FM:=KM.facts
      simp only [zg] at FM
      cases b2
      ·skip
       have HFK:=hid (X5 HF.out HX.out (v:=⟨1,y,ss⟩) (Zal rfl ii ss y HFIT.out))
       have HOK:=hid (X6 HO.out (show Vl.ok ⟨1,y,ss⟩ from ⟨by show I64 1;unfold I64;omega,hyI,hssm⟩))
       have HCE:=hid (We outs 1 y ss)
       have KA:=KM
       try simp only [zl] at KA
       have FA:=KA.facts
       simp only [zg] at FA
       go_wp2_with (at_builtin;go_must (refine Zx KA 2 rfl Tryz.XE #[.int .i64 1,.int .i64 y,.string ss] rfl (.tmp 39) (.tmp 41) rfl rfl _ (by first|rfl|simp [World.setCell]) rfl rfl (by intro u hu;simp at hu;rcases hu with rfl|rfl|rfl<;>rfl) (by omega) (by omega) ?_);intro g6 cap6 w6 hc6 hm6 KB;rw [HCE.out] at KB;simp only [zl] at KB;(have FB:=KB.facts);simp only [zg] at FB)
       have KC:=(KB.drop (List.Sublist.cons _ (List.Sublist.cons _ (List.Sublist.refl _))))
       go_roundw
       case rel=>exact ⟨k+1,cap6,some ⟨g6,0,none⟩,outs++[⟨1,y,ss⟩],by omega,by go_num,by first|rfl|trivial,HOK,HFK,KC⟩
       case measure=>simp [intOf];omega
      ·skip
       have HFK:=hid (X5 HF.out HX.out (v:=⟨0,0,⟨#[]⟩⟩) (QM rfl))
       have HOK:=hid (X6 HO.out (show Vl.ok ⟨0,0,⟨#[]⟩⟩ from Q7))
       have HCE:=hid (We outs 0 0 ⟨#[]⟩)
       have KA:=(((KM.store 0 rfl 0 (.int .i64 0)).store 0 rfl 1 (.int .i64 0)).store 0 rfl 2 (.string ⟨#[]⟩))
       try simp only [zl] at KA
       have FA:=KA.facts
       simp only [zg] at FA
       go_wp2_with (at_builtin;go_must (refine Zx KA 2 rfl Tryz.XE #[.int .i64 0,.int .i64 0,.string ⟨#[]⟩] rfl (.tmp 39) (.tmp 41) rfl rfl _ (by first|rfl|simp [World.setCell]) rfl rfl (by intro u hu;simp at hu;rcases hu with rfl|rfl|rfl<;>rfl) (by omega) (by omega) ?_);intro g6 cap6 w6 hc6 hm6 KB;rw [HCE.out] at KB;simp only [zl] at KB;(have FB:=KB.facts);simp only [zg] at FB)
       have KC:=(KB.drop (List.Sublist.cons _ (List.Sublist.cons _ (List.Sublist.refl _))))
       go_roundw
       case rel=>exact ⟨k+1,cap6,some ⟨g6,0,none⟩,outs++[⟨0,0,⟨#[]⟩⟩],by omega,by go_num,by first|rfl|trivial,HOK,HFK,KC⟩
       case measure=>simp [intOf];omega
     ·skip
      have HFK:=hid (X5 HF.out HX.out (v:=⟨1,y,ss⟩) (Zal rfl ii ss y HFIT.out))
      have HOK:=hid (X6 HO.out (show Vl.ok ⟨1,y,ss⟩ from ⟨by show I64 1;unfold I64;omega,hyI,hssm⟩))
      have HCE:=hid (We outs 1 y ss)
      have KA:=K5
      try simp only [zl] at KA
      have FA:=KA.facts
      simp only [zg] at FA
      go_wp2_with (at_builtin;go_must (refine Zx KA 2 rfl Tryz.XE #[.int .i64 1,.int .i64 y,.string ss] rfl (.tmp 39) (.tmp 41) rfl rfl _ (by first|rfl|simp [World.setCell]) rfl rfl (by intro u hu;simp at hu;rcases hu with rfl|rfl|rfl<;>rfl) (by omega) (by omega) ?_);intro g6 cap6 w6 hc6 hm6 KB;rw [HCE.out] at KB;simp only [zl] at KB;(have FB:=KB.facts);simp only [zg] at FB)
      have KC:=(KB.drop (List.Sublist.cons _ (List.Sublist.cons _ (List.Sublist.refl _))))
      go_roundw
      case rel=>exact ⟨k+1,cap6,some ⟨g6,0,none⟩,outs++[⟨1,y,ss⟩],by omega,by go_num,by first|rfl|trivial,HOK,HFK,KC⟩
      case measure=>simp [intOf];omega
    ·skip
     cases xnn
     ·skip
      have KN:=K4
      try simp only [zl] at KN
      have FN:=KN.facts
      simp only [zg] at FN
      go_wp2_with fail
      refine (ZZ T 5 _ (KN.tp_ 6 rfl) (by omega) (by omega)).mono ?_
      rintro e w8 ⟨b2,rfl,t8,g8⟩
      have KM:=Hold.Zf KN 6 rfl g8 t8
      clear KN FN g8 t8
      have FM:=KM.facts
      simp only [zg] at FM
      cases b2
      ·skip
       have HFK:=hid (X5 HF.out HX.out (v:=⟨1,ii,ss⟩) HFIT.out)
       have HOK:=hid (X6 HO.out (show Vl.ok ⟨1,ii,ss⟩ from ⟨by show I64 1;unfold I64;omega,hii,hssm⟩))
       have HCE:=hid (We outs 1 ii ss)
       have KA:=KM
       try simp only [zl] at KA
       have FA:=KA.facts
       simp only [zg] at FA
       go_wp2_with (at_builtin;go_must (refine Zx KA 2 rfl Tryz.XE #[.int .i64 1,.int .i64 ii,.string ss] rfl (.tmp 39) (.tmp 41) rfl rfl _ (by first|rfl|simp [World.setCell]) rfl rfl (by intro u hu;simp at hu;rcases hu with rfl|rfl|rfl<;>rfl) (by omega) (by omega) ?_);intro g6 cap6 w6 hc6 hm6 KB;rw [HCE.out] at KB;simp only [zl] at KB;(have FB:=KB.facts);simp only [zg] at FB)
       have KC:=(KB.drop (List.Sublist.cons _ (List.Sublist.cons _ (List.Sublist.refl _))))
       go_roundw
       case rel=>exact ⟨k+1,cap6,some ⟨g6,0,none⟩,outs++[⟨1,ii,ss⟩],by omega,by go_num,by first|rfl|trivial,HOK,HFK,KC⟩
       case measure=>simp [intOf];omega
      ·skip
       have HFK:=hid (X5 HF.out HX.out (v:=⟨0,0,⟨#[]⟩⟩) (QM rfl))
       have HOK:=hid (X6 HO.out (show Vl.ok ⟨0,0,⟨#[]⟩⟩ from Q7))
       have HCE:=hid (We outs 0 0 ⟨#[]⟩)
       have KA:=(((KM.store 0 rfl 0 (.int .i64 0)).store 0 rfl 1 (.int .i64 0)).store 0 rfl 2 (.string ⟨#[]⟩))
       try simp only [zl] at KA
       have FA:=KA.facts
       simp only [zg] at FA
       go_wp2_with (at_builtin;go_must (refine Zx KA 2 rfl Tryz.XE #[.int .i64 0,.int .i64 0,.string ⟨#[]⟩] rfl (.tmp 39) (.tmp 41) rfl rfl _ (by first|rfl|simp [World.setCell]) rfl rfl (by intro u hu;simp at hu;rcases hu with rfl|rfl|rfl<;>rfl) (by omega) (by omega) ?_);intro g6 cap6 w6 hc6 hm6 KB;rw [HCE.out] at KB;simp only [zl] at KB;(have FB:=KB.facts);simp only [zg] at FB)
       have KC:=(KB.drop (List.Sublist.cons _ (List.Sublist.cons _ (List.Sublist.refl _))))
       go_roundw
       case rel=>exact ⟨k+1,cap6,some ⟨g6,0,none⟩,outs++[⟨0,0,⟨#[]⟩⟩],by omega,by go_num,by first|rfl|trivial,HOK,HFK,KC⟩
       case measure=>simp [intOf];omega
     ·skip
      have HFK:=hid (X5 HF.out HX.out (v:=⟨1,ii,ss⟩) HFIT.out)
      have HOK:=hid (X6 HO.out (show Vl.ok ⟨1,ii,ss⟩ from ⟨by show I64 1;unfold I64;omega,hii,hssm⟩))
      have HCE:=hid (We outs 1 ii ss)
      have KA:=K4
      try simp only [zl] at KA
      have FA:=KA.facts
      simp only [zg] at FA
      go_wp2_with (at_builtin;go_must (refine Zx KA 2 rfl Tryz.XE #[.int .i64 1,.int .i64 ii,.string ss] rfl (.tmp 39) (.tmp 41) rfl rfl _ (by first|rfl|simp [World.setCell]) rfl rfl (by intro u hu;simp at hu;rcases hu with rfl|rfl|rfl<;>rfl) (by omega) (by omega) ?_);intro g6 cap6 w6 hc6 hm6 KB;rw [HCE.out] at KB;simp only [zl] at KB;(have FB:=KB.facts);simp only [zg] at FB)
      have KC:=(KB.drop (List.Sublist.cons _ (List.Sublist.cons _ (List.Sublist.refl _))))
      go_roundw
      case rel=>exact ⟨k+1,cap6,some ⟨g6,0,none⟩,outs++[⟨1,ii,ss⟩],by omega,by go_num,by first|rfl|trivial,HOK,HFK,KC⟩
      case measure=>simp [intOf];omega
   ·have hb:(kk==1)=false:=by simpa using h1
    have hty:I64 kk:=by rcases HCO.out with h|h|h<;>(have h:kk=_:=h;rw [h];unfold I64;omega)
    clear h1
    cases xnn
    ·skip
     have KN:=K3
     try simp only [zl] at KN
     have FN:=KN.facts
     simp only [zg] at FN
     go_wp2_with fail
     refine (ZZ T 5 _ (KN.tp_ 6 rfl) (by omega) (by omega)).mono ?_
     rintro e w8 ⟨b2,rfl,t8,g8⟩
     have KM:=Hold.Zf KN 6 rfl g8 t8
     clear KN FN g8 t8
     have FM:=KM.facts
     simp only [zg] at FM
     cases b2
     ·skip
      have HFK:=hid (X5 HF.out HX.out (v:=⟨kk,ii,ss⟩) HFIT.out)
      have HOK:=hid (X6 HO.out (show Vl.ok ⟨kk,ii,ss⟩ from ⟨hty,hii,hssm⟩))
      have HCE:=hid (We outs kk ii ss)
      have KA:=KM
      try simp only [zl] at KA
      have FA:=KA.facts
      simp only [zg] at FA
      go_wp2_with (at_builtin;go_must (refine Zx KA 2 rfl Tryz.XE #[.int .i64 kk,.int .i64 ii,.string ss] rfl (.tmp 39) (.tmp 41) rfl rfl _ (by first|rfl|simp [World.setCell]) rfl rfl (by intro u hu;simp at hu;rcases hu with rfl|rfl|rfl<;>rfl) (by omega) (by omega) ?_);intro g6 cap6 w6 hc6 hm6 KB;rw [HCE.out] at KB;simp only [zl] at KB;(have FB:=KB.facts);simp only [zg] at FB)
      have KC:=(KB.drop (List.Sublist.cons _ (List.Sublist.cons _ (List.Sublist.refl _))))
      go_roundw
      case rel=>exact ⟨k+1,cap6,some ⟨g6,0,none⟩,outs++[⟨kk,ii,ss⟩],by omega,by go_num,by first|rfl|trivial,HOK,HFK,KC⟩
      case measure=>simp [intOf];omega
     ·skip
      have HFK:=hid (X5 HF.out HX.out (v:=⟨0,0,⟨#[]⟩⟩) (QM rfl))
      have HOK:=hid (X6 HO.out (show Vl.ok ⟨0,0,⟨#[]⟩⟩ from Q7))
      have HCE:=hid (We outs 0 0 ⟨#[]⟩)
      have KA:=(((KM.store 0 rfl 0 (.int .i64 0)).store 0 rfl 1 (.int .i64 0)).store 0 rfl 2 (.string ⟨#[]⟩))
      try simp only [zl] at KA
      have FA:=KA.facts
      simp only [zg] at FA
      go_wp2_with (at_builtin;go_must (refine Zx KA 2 rfl Tryz.XE #[.int .i64 0,.int .i64 0,.string ⟨#[]⟩] rfl (.tmp 39) (.tmp 41) rfl rfl _ (by first|rfl|simp [World.setCell]) rfl rfl (by intro u hu;simp at hu;rcases hu with rfl|rfl|rfl<;>rfl) (by omega) (by omega) ?_);intro g6 cap6 w6 hc6 hm6 KB;rw [HCE.out] at KB;simp only [zl] at KB;(have FB:=KB.facts);simp only [zg] at FB)
      have KC:=(KB.drop (List.Sublist.cons _ (List.Sublist.cons _ (List.Sublist.refl _))))
      go_roundw
      case rel=>exact ⟨k+1,cap6,some ⟨g6,0,none⟩,outs++[⟨0,0,⟨#[]⟩⟩],by omega,by go_num,by first|rfl|trivial,HOK,HFK,KC⟩
      case measure=>simp [intOf];omega
    ·skip
     have HFK:=hid (X5 HF.out HX.out (v:=⟨kk,ii,ss⟩) HFIT.out)
     have HOK:=hid (X6 HO.out (show Vl.ok ⟨kk,ii,ss⟩ from ⟨hty,hii,hssm⟩))
     have HCE:=hid (We outs kk ii ss)
     have KA:=K3
     try simp only [zl] at KA
     have FA:=KA.facts
     simp only [zg] at FA
     go_wp2_with (at_builtin;go_must (refine Zx KA 2 rfl Tryz.XE #[.int .i64 kk,.int .i64 ii,.string ss] rfl (.tmp 39) (.tmp 41) rfl rfl _ (by first|rfl|simp [World.setCell]) rfl rfl (by intro u hu;simp at hu;rcases hu with rfl|rfl|rfl<;>rfl) (by omega) (by omega) ?_);intro g6 cap6 w6 hc6 hm6 KB;rw [HCE.out] at KB;simp only [zl] at KB;(have FB:=KB.facts);simp only [zg] at FB)
     have KC:=(KB.drop (List.Sublist.cons _ (List.Sublist.cons _ (List.Sublist.refl _))))
     go_roundw
     case rel=>exact ⟨k+1,cap6,some ⟨g6,0,none⟩,outs++[⟨kk,ii,ss⟩],by omega,by go_num,by first|rfl|trivial,HOK,HFK,KC⟩
     case measure=>simp [intOf];omega
  ·obtain rfl:k=n:=by omega
   have hd:decide ((k:Int)<(k:Int))=false:=by simp
   have HE:=hid (show Xx cs outs by have h:=HF.out;rwa [List.take_of_length_le (by rw [HL.out];exact Nat.le_refl _)] at h)
   have HN:=hid (show k=outs.length by have:=UY HE.out;have:=HL.out;omega)
   go_wp2_with fail
   go_ret
   exact ⟨O,k,cap,outs,rfl,HN.out,HO.out,HE.out,H.get 0 rfl,H.tp_ 4 rfl,H.grow⟩
end Go.Proofs.YtnbbllkbefagmaaGreatDoor
namespace Go.Proofs.YtnbbllkbefagmaaGreatDoor
open Go.RowKit
set_option linter.unusedVariables false
set_option linter.unusedSimpArgs false
section
variable {P:Program} {M:Nat→Prop} {row:Option Nat} {w0 w1:World} {L:List Hp} {sp:SpW} {F:Act→Prop} {S0:Array Bool}
variable {ops:Array Oper} {o:Oper} {rest:List Oper} {a:Act} {k:Nat}
theorem XW (d:Tmp) (V:Value→World→Prop) (hS:S0.getD k false=false) (hw:Region.wanted o (yielded ops a.tmps)=true) (hd:o.dst=some d) (hsp:sp d=some V)
  (h:∀ w,Hold M row w0 w L→Z5 ops (GW sp) o a w→∃ u,(execOp a.eval o).run P w=.ok (.value u) w∧V u w) (hn:∀ u w,Hold M row w0 w L→V u w→Zn P ops (HC M row w0 w1 L) (GW sp) (RM (Mut M L)) S0 F (k+1) rest (a.put (some d) u)):Zn P ops (HC M row w0 w1 L) (GW sp) (RM (Mut M L)) S0 F k (o::rest) a:=by
 refine Jn hS hw d hd (fun w hC hD=>?_) fun u w hC hu=>hn u w hC.1 ((Zp hsp).1 hu)
 obtain ⟨u,h1,h2⟩:=h w hC.1 hD
 exact ⟨u,w,h1,(Zp hsp).2 h2,hC,RM.refl _ w⟩
end
def IntsSlot (M:Nat→Prop) (n:Nat) (zs:List Int) (u:Value) (w:World):Prop:=∃ g:Nat,u=.slice (some ⟨g,0,none⟩) n n∧zs.length=n∧Ro w M (SlR 1 (some ⟨g,0,none⟩) n (zs.map fun z=>.int .i64 z))
theorem ZeT {M:Nat→Prop} {n:Nat} {zs:List Int} (u:Value) (w w' :World) (hr:RM M w w') (h:IntsSlot M n zs u w):IntsSlot M n zs u w' :=by
 obtain ⟨g,h1,h2,h3⟩:=h
 exact ⟨g,h1,h2,hr.ro h3⟩
def Vv (M:Nat→Prop) (Z:Int→Prop) (u:Value) (w:World):Prop:=∃ (g o:Nat) (z:Int),u=.pointer (some ⟨g,o,none⟩)∧Z z∧Ro w M (fun w=>w.cell? ⟨g,o,none⟩=some (.int .i64 z))
theorem Zcf {M:Nat→Prop} {Z:Int→Prop} (u:Value) (w w' :World) (hr:RM M w w') (h:Vv M Z u w):Vv M Z u w' :=by
 obtain ⟨g,o,z,h1,h2,h3⟩:=h
 exact ⟨g,o,z,h1,h2,hr.ro h3⟩
def XP (Z:Int→Prop) (u:Value) (_:World):Prop:=∃ z:Int,u=.int .i64 z∧Z z
theorem U8 {M:Nat→Prop} {Z:Int→Prop} (u:Value) (w w' :World) (hr:RM M w w') (h:XP Z u w):XP Z u w' :=h
theorem IntsSlot.cell {M:Nat→Prop} {n:Nat} {zs:List Int} {Z:Int→Prop} {g r:Nat} {w:World} (h:IntsSlot M n zs (.slice (some ⟨g,0,none⟩) n n) w) (hZ:∀ z∈zs,Z z) (hr:r<n):Vv M Z (.pointer (some ⟨g,r,none⟩)) w:=by
 obtain ⟨g',e,hl,h3⟩:=h
 obtain rfl:g=g' :=by injection e with e;injection e with e;injection e
 obtain ⟨z,hz⟩:∃ z,zs[r]? =some z:=⟨zs[r]'(by omega),List.getElem?_eq_getElem _⟩
 refine ⟨g,r,z,rfl,hZ z (List.mem_of_getElem? hz),h3.imp fun w2 h2=>?_⟩
 obtain ⟨b,o,e,hb,hc⟩:=h2.2 (by omega)
 obtain ⟨rfl,rfl⟩:g=b∧0=o:=by injection e with e;injection e with e1 e2;exact ⟨e1,e2⟩
 have:=hc r (.int .i64 z) (by rw [List.getElem?_map,hz];rfl)
 simpa using this
end Go.Proofs.YtnbbllkbefagmaaGreatDoor

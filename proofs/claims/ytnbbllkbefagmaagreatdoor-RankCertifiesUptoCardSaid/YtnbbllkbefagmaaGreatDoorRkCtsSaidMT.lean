import Derived.Test.YtnbbllkbefagmaaGreatDoorRkCtsSaidMS
namespace Go.Proofs.YtnbbllkbefagmaaGreatDoor
open Go.RowKit
set_option linter.unusedVariables false
set_option linter.unusedSimpArgs false
theorem Tryz.JR:ElemT Tryz.prog 22 3 1 8 (.int .i64 0):=⟨Tryz.underlying22,by kernel_rfl,rfl,by omega⟩
set_option maxHeartbeats 16000000 in
set_option maxRecDepth 100000 in
theorem ZfY {d:Nat} (HT:TY d) (HC:CO d):TY (d+1):=by
 intro x fA fn fc fl tA tn tc tl w hx hg hf ht hfb htb
 have HG:=hid hg
 have HFB:=hid hfb
 have HTB:=hid htb
 have HLN:=hid (show x.args.length=x.n from ExsIn.len hx.now.Zbr)
 have hn3:x.n≤3:=by rw [←HLN.out];exact hg.2.1.2.1
 have HSB:=hid (show x.sub.length=x.m from by
  have h3:Rd w w.heap.size 4 x.B x.m (YU x.sub):=hx.now.2.2.1
  have:=h3.1
  rw [Qb] at this
  omega)
 have hm1:x.m≤1:=by rw [←HSB.out];exact hg.2.1.2.2
 have K0:=((((Hold.start Zb w zn).add (ht.less (by simp [Mut]))).add (hf.less (by simp [Mut,Hp.foot]))).add (hx.less (by simp [Mut,Hp.foot]))).Za #[.int .i64 x.kind,.int .i64 x.op,.bool x.nt,.int .i64 x.v.k,.int .i64 x.v.i,.string x.v.s,.string x.tab,.string x.nm,.slice x.A x.n x.c,.slice x.B x.m x.d] 126
 obtain ⟨gx,hgx⟩:∃ g,g=w.heap.size:=⟨_,rfl⟩
 rw [←hgx] at K0
 clear hx hg hf ht hfb htb
 go_enter Tryz.func164,Tryz.ntmps164
 go_upto_region 1 with fail
 rw [←hgx]
 have HGX:=hid hgx
 clear hgx
 generalize World.alloc _ _=w1 at K0 ⊢
 have F0:=K0.facts
 simp only [zg] at F0
 go_wp2_with fail
 refine (WS (d+1) x _ ((K0.ro 1 rfl).less zn)).mono ?_
 rintro e w2 ⟨r,rfl,b2⟩
 have K1:=K0.call b2
 clear K0 F0 b2
 have F1:=K1.facts
 simp only [zg] at F1
 cases r
 ·go_wp2_with fail
  go_ret2
  exact ⟨_,_,rfl,K1.below⟩
 ·obtain ⟨c1,h1⟩:∃ z:Bool,(x.kind==1)=z:=⟨_,rfl⟩
  obtain ⟨c2,h2⟩:∃ z:Bool,(x.kind==2)=z:=⟨_,rfl⟩
  cases c1
  ·cases c2
   ·by_cases hm0:0<x.m
    ·have hm0i:(0:Int)<x.m:=by omega
     have hm11:=hid (show x.m=1 by omega)
     go_wp2_with fail
     refine (Zck HT HC x fA fn fc fl tA tn tc tl _ ((K1.ro 1 rfl).less zn) HG.out hm11.out ((K1.ro 2 rfl).less zn) ((K1.ro 3 rfl).less zn) HFB.out HTB.out).mono ?_
     rintro e w3 ⟨t,cd,rfl,b3⟩
     have K2:=K1.call b3
     clear K1 F1 b3
     go_wp2_with fail
     go_ret2
     exact ⟨_,_,rfl,K2.below⟩
    ·have hm0i:¬(0:Int)<x.m:=by omega
     have KN:=K1.nil 3 1
     clear hm1
     go_wp2_with fail
     clear K1 F1
     obtain ⟨kind,op,nt,v,tab,nm,A,n,c,args,B,m,dd,sub⟩:=x
     go_loopw [11,62] (fun ov iv wr=>∃ (j cap:Nat) (O:Option Addr) (outs:List Int),j≤n∧outs.length=j∧iv=.int .i64 j∧ov=.slice O j cap∧Hold Zb none w wr [.own 3 1 (.slice O j cap) j (tyC outs),.cst gx 126 #[.int .i64 kind,.int .i64 op,.bool nt,.int .i64 v.k,.int .i64 v.i,.string v.s,.string tab,.string nm,.slice A n c,.slice B m dd],.ro (ExIn (d+1) ⟨kind,op,nt,v,tab,nm,A,n,c,args,B,m,dd,sub⟩),.ro (FrsIn ⟨fA,fn,fc,fl⟩),.ro (TesIn tA tn tl)]) (fun _ iv _=>n - (intOf iv).toNat)
     case atStart=>exact ⟨0,0,none,[],by omega,rfl,rfl,rfl,KN⟩
     case round=>
      clear KN
      obtain ⟨j,cap,O,outs,hj,hol,rfl,rfl,H⟩:=hrel
      by_cases hlt:j<n
      ·obtain ⟨y,hy⟩:=Yg HLN.out hlt
       obtain ⟨qb,qo,rfl,hb,hc,-⟩:=(show ExsIn d A n args _ from (H.ro 2 rfl).now.Zbr).at_ hy
       have hm:=List.mem_of_getElem? hy
       have x0:=hc 0 _ (by omega) rfl
       have x1:=hc 1 _ (by omega) rfl
       have x2:=hc 2 _ (by omega) rfl
       have x3:=hc 3 _ (by omega) rfl
       have x4:=hc 4 _ (by omega) rfl
       have x5:=hc 5 _ (by omega) rfl
       have x6:=hc 6 _ (by omega) rfl
       have x7:=hc 7 _ (by omega) rfl
       have x8:=hc 8 _ (by omega) rfl
       have x9:=hc 9 _ (by omega) rfl
       simp only [Nat.add_zero] at x0 x1 x2 x3 x4 x5 x6 x7 x8 x9
       clear hc hy
       have K3:=H.Za #[.int .i64 y.kind,.int .i64 y.op,.bool y.nt,.int .i64 y.v.k,.int .i64 y.v.i,.string y.v.s,.string y.tab,.string y.nm,.slice y.A y.n y.c,.slice y.B y.m y.d] 126
       have F3:=K3.facts
       simp only [zg] at F3
       clear H
       have HOL:=hid hol
       clear hol
       go_wp2_with fail
       refine (HT y fA fn fc fl tA tn tc tl _ (((K3.ro 3 rfl).imp fun w2 h2=>h2.2.1 y hm).less zn) (HG.out.2.2.1 y hm) ((K3.ro 4 rfl).less zn) ((K3.ro 5 rfl).less zn) (show FB d fn fl from ⟨by have:=HFB.out.1;omega,HFB.out.2⟩) HTB.out).mono ?_
       rintro e w4 ⟨t,cd,rfl,b4⟩
       have K4:=K3.call b4
       clear K3 F3 b4 x0 x1 x2 x3 x4 x5 x6 x7 x8 x9
       obtain ⟨z,hz⟩:∃ z:Bool,(cd !=0)=z:=⟨_,rfl⟩
       cases z
       ·go_wp2_with (at_builtin;go_must (refine Zx K4 1 rfl Tryz.JR #[.int .i64 t] rfl (.tmp 76) (.tmp 78) rfl rfl _ (by first|rfl|simp) rfl rfl (by intro u hu;simp at hu;rcases hu with rfl;rfl) (by omega) (by omega) ?_);intro gA capA wA hcA hmA KA;rw [show tyC outs++(#[.int .i64 t]:Array Value).toList=tyC (outs++[t]) by simp [tyC]] at KA;simp only [zl] at KA)
        go_roundw
        case rel=>exact ⟨j+1,capA,_,outs++[t],by omega,by simp [HOL.out],by go_num,by first|rfl|trivial,KA.drop (List.sublist_cons_self _ _)⟩
        case measure=>simp [intOf];omega
       ·go_wp2_with fail
        go_ret2
        exact ⟨_,_,rfl,K4.below⟩
      ·obtain rfl:n=j:=by omega
       have KZ:=H.ZC 0 rfl
       simp only [List.set_cons_zero] at KZ
       have F4:=KZ.facts
       simp only [zg] at F4
       go_wp2_with fail
       refine (Zdo ⟨kind,op,nt,v,tab,nm,A,n,c,args,B,m,dd,sub⟩ O n cap outs _ ((KZ.ro 0 rfl).less zn) (by omega)).mono ?_
       rintro e w4 ⟨t,cd,rfl,b4⟩
       have K4:=KZ.call b4
       clear KZ H F4 b4
       go_wp2_with fail
       go_ret2
       exact ⟨_,_,rfl,K4.below⟩
   ·go_wp2_with fail
    refine (ZcL fA fn fc fl x.tab x.nm _ ((K1.ro 2 rfl).less zn) (by have:=HFB.out.1;omega) HFB.out.2).mono ?_
    rintro e w3 ⟨i,k,ok,rfl,hok,b3⟩
    have K2:=K1.call b3
    clear K1 F1 b3
    cases ok
    ·go_wp2_with fail
     go_ret2
     exact ⟨_,_,rfl,K2.below⟩
    ·obtain ⟨⟨fnm,fst,⟨cA,cn,cc,cl⟩,⟨vA,vn,vc,vl⟩⟩,cx,hfi,hck⟩:=hok rfl
     have hfl:fl.length=fn:=FrsIn.len (K2.ro 2 rfl).now
     have hi:i<fn:=by rw [←hfl];exact (List.getElem?_eq_some_iff.1 hfi).1
     obtain ⟨b,o,rfl,hb,hcl,hfin⟩:=FrsIn.at_ (K2.ro 2 rfl).now hfi
     have f2:=hcl 2 _ (by omega) rfl
     simp only [SlP.v] at f2
     obtain ⟨b2,o2,rfl,hb2,-,e1,-,-⟩:=(RdC.Zw (show SlR 4 cA cn (Zd cl) _ from hfin.cols)).at_ hck
     have hcl2:cl.length=cn:=(RdC.Zw (show SlR 4 _ cn (Zd cl) _ from hfin.cols)).len
     have hk:k<cn:=by rw [←hcl2];exact (List.getElem?_eq_some_iff.1 hck).1
     have hii:(i:Int)<fn:=by omega
     have hkk:(k:Int)<cn:=by omega
     have HB:=hid K2.below
     clear hcl hfin hfi hck hfl hcl2 hok
     go_wp2_with fail
     go_ret2
     exact ⟨_,_,rfl,HB.out⟩
  ·go_wp2_with fail
   go_ret2
   exact ⟨_,_,rfl,K1.below⟩
theorem Va:∀ d:Nat,TY d
 | 0=>fun x _ _ _ _ _ _ _ _ _ hx hg=>hg.elim
 | d+1=>ZfY (Va d) (G5 (Va d))
theorem Jh (d:Nat):CO d:=G5 (Va d)
theorem Qx {α:Type} (p:α→Bool) (l:List α) (h:0≤Zr p l):Zr p l<l.length:=by
 have h2:=find_range p l
 rcases l with _|⟨x,l⟩
 ·have:Zr p ([]:List α)=-1:=VD (k:=0) rfl (Nat.le_refl _)
  omega
 ·simp only [List.length_cons] at h2 ⊢
  omega
def ZbU (w:World) (M:Nat→Prop) (e:Ending) (w' :World):Prop:=∃ (A:Option Addr) (n c:Nat) (l:List Int) (cd:Int),e=.returned (.tuple #[.slice A n c,.int .i64 cd])∧n≤1000∧Ro w' M (SlR 1 A n (tyC l))∧Below w.heap.size w w'
set_option maxHeartbeats 16000000 in
set_option maxRecDepth 100000 in
theorem Zci (d:Nat) (M:Nat→Prop) (w:World) (hM:∀ b,M b→b<w.heap.size) (q:Qu) (fA:Option Addr) (fn fc:Nat) (fl:List Fr) (tA:Option Addr) (tn tc:Nat) (tl:List Te) (hx:Ro w M (QuIn d q)) (hg:QuGd d q) (hf:Ro w M (FrsIn ⟨fA,fn,fc,fl⟩)) (ht:Ro w M (TesIn tA tn tl)) (hfb:FB (d+1) fn fl) (htb:TBd tn tl):Calls Tryz.prog 235 #[.agg #[.bool q.star,.slice q.A q.n q.c,.string q.src,.slice q.B q.m q.d],.slice fA fn fc,.slice tA tn tc] w fun e w' =>ZbU w M e w' :=by
 obtain ⟨star,qA,qn,qc,qil,src,qB,qm,qd,qwl⟩:=q
 have HQG:=hid hg
 have HFB:=hid hfb
 have HTB:=hid htb
 have hfn:fn≤1000:=by have:=hfb.1;omega
 have K0:=((((Hold.start M w hM).add (ht.less (by simp [Mut]))).add (hf.less (by simp [Mut,Hp.foot]))).add (hx.less (by simp [Mut,Hp.foot]))).Za #[.bool star,.slice qA qn qc,.string src,.slice qB qm qd] 273
 obtain ⟨gq,hgq⟩:∃ g,g=w.heap.size:=⟨_,rfl⟩
 rw [←hgq] at K0
 clear hx hg hf ht hfb htb
 go_enter Tryz.func235,Tryz.ntmps235
 go_upto_region 1 with fail
 rw [←hgq]
 have HGX:=hid hgq
 clear hgq
 generalize World.alloc _ _=w1 at K0 ⊢
 have F0:=K0.facts
 simp only [zg] at F0
 go_wp2_with fail
 clear F0
 refine (VN (Mut M _) _ K0.Zc tA tn tc tl src (K0.ro 3 rfl) HTB.out.1 HTB.out.2).mono ?_
 rintro e w2 ⟨s,ok,rfl,hsn,hsc,rs,b2⟩
 have K1:=((K0.call b2).add rs).Za #[.string s.nm,.slice s.cols.A s.cols.n s.cols.c] 49
 clear K0 rs b2
 have F1:=K1.facts
 simp only [zg] at F1
 cases ok
 ·go_wp2_with fail
  go_ret2
  exact ⟨none,0,0,[],_,rfl,by omega,fun w2 _ _=>ZR 1 w2,K1.below⟩
 ·go_wp2_with fail
  obtain ⟨gs,hgs⟩:∃ g,g=w2.heap.size:=⟨_,rfl⟩
  rw [←hgs] at K1 ⊢
  have HGS:=hid hgs
  clear hgs F1
  refine (Ja (Mut M _) _ K1.Zc fA fn fc fl s (K1.ro 4 rfl) (K1.ro 1 rfl) hfn).mono ?_
  rintro e w3 ⟨IA,ic,rfl,ri,b3⟩
  have K2:=((K1.call b3).add ri)
  clear K1 ri b3
  have HIB:=hid (show FB d (fn+1) (fl++[(⟨s.nm,false,s.cols,SlP.nil⟩:Fr)]) from ⟨by have:=HFB.out.1;omega,fun f hf=>by
   rcases List.mem_append.1 hf with hf|hf
   ·exact HFB.out.2 f hf
   ·simp only [List.mem_cons,List.not_mem_nil,or_false] at hf
    subst hf
    exact hsn⟩)
  have HIN:=hid (show qil.length=qn from ExsIn.len (show ExsIn d qA qn qil _ from (K2.ro 4 rfl).now.1))
  have hq8:qn≤8:=by rw [←HIN.out];exact HQG.out.2.1.1
  obtain ⟨snm,⟨cA,cn,cc,cl⟩⟩:=s
  have hsn:cn≤1000:=hsn
  have K3:Hold M none w _ [.own 3 1 (.slice none 0 0) 0 (tyC []),.cst gs 49 #[.string snm,.slice cA cn cc],.ro (SlR 4 cA cn (Zd cl)),.cst gq 273 #[.bool star,.slice qA qn qc,.string src,.slice qB qm qd],.ro (QuIn d ⟨star,qA,qn,qc,qil,src,qB,qm,qd,qwl⟩),.ro (FrsIn ⟨IA,fn+1,ic,fl++[⟨snm,false,⟨cA,cn,cc,cl⟩,SlP.nil⟩]⟩),.ro (TesIn tA tn tl)]:=((K2.add (S:=SlR 4 cA cn (Zd cl)) ((K2.ro 2 rfl).imp fun w2 h2=>h2.1)).nil 3 1).pick [0,3,1,5,6,2,8] (by decide) rfl
  have HCL:=hid (show cl.length=cn from (RdC.Zw (K3.ro 2 rfl).now).len)
  clear K2
  have F3:=K3.facts
  simp only [zg] at F3
  go_upto_if 32 with (fail)
  go_cut [11] (fun v wx=>∃ (j cap:Nat) (O:Option Addr) (outs:List Int),v=.slice O j cap∧j≤1000∧Hold M none w wx [.own 3 1 (.slice O j cap) j (tyC outs),.cst gq 273 #[.bool star,.slice qA qn qc,.string src,.slice qB qm qd],.ro (QuIn d ⟨star,qA,qn,qc,qil,src,qB,qm,qd,qwl⟩),.ro (FrsIn ⟨IA,fn+1,ic,fl++[⟨snm,false,⟨cA,cn,cc,cl⟩,SlP.nil⟩]⟩),.ro (TesIn tA tn tl)])
  case first=>
   cases star
   ·go_wp2_with fail
    clear F3
    go_loopw [11,49] (fun ov iv wr=>∃ (j cap:Nat) (O:Option Addr) (outs:List Int),j≤qn∧iv=.int .i64 j∧ov=.slice O j cap∧Hold M none w wr [.own 3 1 (.slice O j cap) j (tyC outs),.cst gs 49 #[.string snm,.slice cA cn cc],.ro (SlR 4 cA cn (Zd cl)),.cst gq 273 #[.bool false,.slice qA qn qc,.string src,.slice qB qm qd],.ro (QuIn d ⟨false,qA,qn,qc,qil,src,qB,qm,qd,qwl⟩),.ro (FrsIn ⟨IA,fn+1,ic,fl++[⟨snm,false,⟨cA,cn,cc,cl⟩,SlP.nil⟩]⟩),.ro (TesIn tA tn tl)]) (fun _ iv _=>qn - (intOf iv).toNat)
    case atStart=>exact ⟨0,0,none,[],by omega,rfl,rfl,K3⟩
    case round=>
     clear K3
     obtain ⟨j,cap,O,outs,hj,rfl,rfl,H⟩:=hrel
     by_cases hlt:j<qn
     ·obtain ⟨y,hy⟩:=Yg HIN.out hlt
      obtain ⟨qb,qo,rfl,hb,hc,-⟩:=(show ExsIn d qA qn qil _ from (H.ro 4 rfl).now.1).at_ hy
      have hm:=List.mem_of_getElem? hy
      have x0:=hc 0 _ (by omega) rfl
      have x1:=hc 1 _ (by omega) rfl
      have x2:=hc 2 _ (by omega) rfl
      have x3:=hc 3 _ (by omega) rfl
      have x4:=hc 4 _ (by omega) rfl
      have x5:=hc 5 _ (by omega) rfl
      have x6:=hc 6 _ (by omega) rfl
      have x7:=hc 7 _ (by omega) rfl
      have x8:=hc 8 _ (by omega) rfl
      have x9:=hc 9 _ (by omega) rfl
      simp only [Nat.add_zero] at x0 x1 x2 x3 x4 x5 x6 x7 x8 x9
      clear hc hy
      have K3:=H.Za #[.int .i64 y.kind,.int .i64 y.op,.bool y.nt,.int .i64 y.v.k,.int .i64 y.v.i,.string y.v.s,.string y.tab,.string y.nm,.slice y.A y.n y.c,.slice y.B y.m y.d] 126
      have F3:=K3.facts
      simp only [zg] at F3
      clear H
      go_wp2_with fail
      refine (Va d y IA (fn+1) ic (fl++[⟨snm,false,⟨cA,cn,cc,cl⟩,SlP.nil⟩]) tA tn tc tl _ (((K3.ro 5 rfl).imp fun w2 h2=>h2.1.2 y hm).less zn) (HQG.out.2.2.1 y hm) ((K3.ro 6 rfl).less zn) ((K3.ro 7 rfl).less zn) HIB.out HTB.out).mono ?_
      rintro e w4 ⟨t,cd,rfl,b4⟩
      have K4:=K3.call b4
      clear K3 F3 b4 x0 x1 x2 x3 x4 x5 x6 x7 x8 x9
      obtain ⟨z,hz⟩:∃ z:Bool,(cd !=0)=z:=⟨_,rfl⟩
      cases z
      ·go_wp2_with (at_builtin;go_must (refine Zx K4 1 rfl Tryz.JR #[.int .i64 t] rfl (.tmp 63) (.tmp 65) rfl rfl _ (by first|rfl|simp) rfl rfl (by intro u hu;simp at hu;rcases hu with rfl;rfl) (by omega) (by omega) ?_);intro gA capA wA hcA hmA KA;rw [show tyC outs++(#[.int .i64 t]:Array Value).toList=tyC (outs++[t]) by simp [tyC]] at KA;simp only [zl] at KA)
       go_roundw
       case rel=>exact ⟨j+1,capA,_,outs++[t],by omega,by go_num,by first|rfl|trivial,KA.drop (List.sublist_cons_self _ _)⟩
       case measure=>simp [intOf];omega
      ·go_wp2_with fail
       go_ret2
       exact ⟨none,0,0,[],_,rfl,by omega,fun w2 _ _=>ZR 1 w2,K4.below⟩
     ·obtain rfl:qn=j:=by omega
      go_wp2_with fail
      go_meet
      exact ⟨_,_,_,_,rfl,by omega,H.pick [0,3,4,5,6] (by decide) rfl⟩
   ·go_wp2_with fail
    clear F3
    go_loopw [11,36] (fun ov iv wr=>∃ (j cap:Nat) (O:Option Addr) (outs:List Int),j≤cn∧iv=.int .i64 j∧ov=.slice O j cap∧Hold M none w wr [.own 3 1 (.slice O j cap) j (tyC outs),.cst gs 49 #[.string snm,.slice cA cn cc],.ro (SlR 4 cA cn (Zd cl)),.cst gq 273 #[.bool true,.slice qA qn qc,.string src,.slice qB qm qd],.ro (QuIn d ⟨true,qA,qn,qc,qil,src,qB,qm,qd,qwl⟩),.ro (FrsIn ⟨IA,fn+1,ic,fl++[⟨snm,false,⟨cA,cn,cc,cl⟩,SlP.nil⟩]⟩),.ro (TesIn tA tn tl)]) (fun _ iv _=>cn - (intOf iv).toNat)
    case atStart=>exact ⟨0,0,none,[],by omega,rfl,rfl,K3⟩
    case round=>
     clear K3
     obtain ⟨j,cap,O,outs,hj,rfl,rfl,H⟩:=hrel
     by_cases hlt:j<cn
     ·obtain ⟨⟨xnm,xty,xnn,xkey⟩,hcx⟩:=YC HCL.out hlt
      obtain ⟨b2,o2,rfl,hb2,x0,x1,x2,x3⟩:=(RdC.Zw (H.ro 2 rfl).now).at_ hcx
      simp only at x0 x1 x2 x3
      clear hcx
      have K4:=H.Za #[.string xnm,.int .i64 xty,.bool xnn,.bool xkey] 158
      have F4:=K4.facts
      simp only [zg] at F4
      clear H
      go_wp2_with (at_builtin;go_must (refine Zx K4 1 rfl Tryz.JR #[.int .i64 xty] rfl (.tmp 40) (.tmp 43) rfl rfl _ (by first|rfl|simp) rfl rfl (by intro u hu;simp at hu;rcases hu with rfl;rfl) (by omega) (by omega) ?_);intro gA capA wA hcA hmA KA;rw [show tyC outs++(#[.int .i64 xty]:Array Value).toList=tyC (outs++[xty]) by simp [tyC]] at KA;simp only [zl] at KA)
      go_roundw
      case rel=>exact ⟨j+1,capA,_,outs++[xty],by omega,by go_num,by first|rfl|trivial,KA.drop (List.sublist_cons_self _ _)⟩
      case measure=>simp [intOf];omega
     ·obtain rfl:cn=j:=by omega
      go_wp2_with fail
      go_meet
      exact ⟨_,_,_,_,rfl,by omega,H.pick [0,3,4,5,6] (by decide) rfl⟩
  case rest=>
   obtain ⟨j,cap,O,outs,rfl,hj,K4⟩:=hcut
   clear K3 F3
   have KZ:=K4.ZC 0 rfl
   simp only [List.set_cons_zero] at KZ
   have FZ:=KZ.facts
   simp only [zg] at FZ
   clear K4
   go_wp2_with fail
   refine (Jh d qB qm qd qwl IA (fn+1) ic (fl++[⟨snm,false,⟨cA,cn,cc,cl⟩,SlP.nil⟩]) tA tn tc tl _ (((KZ.ro 2 rfl).imp fun w2 h2=>(show ExsIn d qB qm qwl w2 from h2.2)).less zn) HQG.out.2.2.2 ((KZ.ro 3 rfl).less zn) ((KZ.ro 4 rfl).less zn) HIB.out HTB.out).mono ?_
   rintro e w4 ⟨cd,rfl,b4⟩
   have K5:=KZ.call b4
   have HR:=hid ((K5.ro 0 rfl).less zm)
   have HB:=hid K5.below
   clear KZ FZ b4 K5
   obtain ⟨z,hz⟩:∃ z:Bool,(cd !=0)=z:=⟨_,rfl⟩
   cases z
   ·go_wp2_with fail
    go_ret2
    exact ⟨O,j,cap,outs,_,rfl,hj,HR.out,HB.out⟩
   ·go_wp2_with fail
    go_ret2
    exact ⟨none,0,0,[],_,rfl,by omega,fun w2 _ _=>ZR 1 w2,HB.out⟩
def Vm (kind:Int) (sn:Nat) (w:World) (e:Ending) (w' :World):Prop:=∃ b:Bool,e=.returned (.bool b)∧Below w.heap.size w w' ∧(b=true→kind=5→sn=1)
set_option maxHeartbeats 16000000 in
set_option maxRecDepth 100000 in
theorem Zdz (d:Nat) (tab:ByteArray) (rA:Option Addr) (rn rc:Nat) (rl:List (SlP Ex)) (qA:Option Addr) (qn qc:Nat) (ql:List Qu) (sA:Option Addr) (sn sc:Nat) (sl:List Se) (hA:Option Addr) (hn hc:Nat) (hl:List Ex) (text:ByteArray) (w:World) (hx:Ro w Zb (AcIn d ⟨1,tab,⟨rA,rn,rc,rl⟩,⟨qA,qn,qc,ql⟩,⟨sA,sn,sc,sl⟩,⟨hA,hn,hc,hl⟩,text⟩)) (hg:AcGd d ⟨1,tab,⟨rA,rn,rc,rl⟩,⟨qA,qn,qc,ql⟩,⟨sA,sn,sc,sl⟩,⟨hA,hn,hc,hl⟩,text⟩):Calls Tryz.prog 163 #[.agg #[.int .i64 1,.string tab,.slice rA rn rc,.slice qA qn qc,.slice sA sn sc,.slice hA hn hc,.string text]] w fun e w' =>Vm 1 sn w e w' :=by
 have HHN:=hid (show hn≤1000 from by
  have h:hl.length=hn:=ExsIn.len (show ExsIn d hA hn hl w from hx.now.2.2.2)
  have h2:hl.length≤1:=hg.h.2.1
  omega)
 have HSN:=hid (show sn≤1000 from by
  have h:sl.length=sn:=SlP.In.len (s:=⟨sA,sn,sc,sl⟩) (k:=11) (cel:=Se.cells) (P:=ZY d) hx.now.2.2.1 (by omega) (fun _=>rfl)
  have h2:sl.length≤8:=hg.s.2.1
  omega)
 have HRQ:=hid (show rn≤8∧qn≤1 from by
  have h1:rl.length=rn:=SlP.In.len (s:=⟨rA,rn,rc,rl⟩) (k:=1) (cel:=fun r:SlP Ex=>[r.v]) (P:=fun r w=>r.In 10 Ex.cells (ExIn d) w) hx.now.1 (by omega) (fun _=>rfl)
  have h2:ql.length=qn:=SlP.In.len (s:=⟨qA,qn,qc,ql⟩) (k:=4) (cel:=Qu.cells) (P:=QuIn d) hx.now.2.1 (by omega) (fun _=>rfl)
  have h3:rl.length≤8:=hg.r.2.1
  have h4:ql.length≤1:=hg.q.2.1
  omega)
 have HG:=hid hg
 have K0:=((Hold.start Zb w zn).add (hx.less (by simp [Mut]))).Za #[.int .i64 1,.string tab,.slice rA rn rc,.slice qA qn qc,.slice sA sn sc,.slice hA hn hc,.string text] 97
 obtain ⟨gx,hgx⟩:∃ g,g=w.heap.size:=⟨_,rfl⟩
 rw [←hgx] at K0
 have F0:=K0.facts
 simp only [zg] at F0
 rw [hgx] at F0
 clear hx hg
 go_enter Tryz.func163,Tryz.ntmps163
 go_upto_region 1 with fail
 rw [←hgx] at F0 ⊢
 have HGX:=hid hgx
 clear hgx
 generalize World.alloc _ _=w1 at K0 F0 ⊢
 have HW:=hid (fun (wv:World) (h:Hold Zb none w wv [.cst gx 97 #[.int .i64 1,.string tab,.slice rA rn rc,.slice qA qn qc,.slice sA sn sc,.slice hA hn hc,.string text],.ro (AcIn d ⟨1,tab,⟨rA,rn,rc,rl⟩,⟨qA,qn,qc,ql⟩,⟨sA,sn,sc,sl⟩,⟨hA,hn,hc,hl⟩,text⟩)])=>XL d hA hn hc hl wv (((h.ro 1 rfl).imp fun w2 h2=>(show ExsIn d hA hn hl w2 from h2.2.2.2)).less zn) HG.out.h.2.2 HHN.out)
 have HI:=hid (fun (wv:World) (h:Hold Zb none w wv [.cst gx 97 #[.int .i64 1,.string tab,.slice rA rn rc,.slice qA qn qc,.slice sA sn sc,.slice hA hn hc,.string text],.ro (AcIn d ⟨1,tab,⟨rA,rn,rc,rl⟩,⟨qA,qn,qc,ql⟩,⟨sA,sn,sc,sl⟩,⟨hA,hn,hc,hl⟩,text⟩)])=>Vw d ⟨1,tab,⟨rA,rn,rc,rl⟩,⟨qA,qn,qc,ql⟩,⟨sA,sn,sc,sl⟩,⟨hA,hn,hc,hl⟩,text⟩ wv ((h.ro 1 rfl).less zn) HG.out)
 have HS:=hid (fun (wv:World) (h:Hold Zb none w wv [.cst gx 97 #[.int .i64 1,.string tab,.slice rA rn rc,.slice qA qn qc,.slice sA sn sc,.slice hA hn hc,.string text],.ro (AcIn d ⟨1,tab,⟨rA,rn,rc,rl⟩,⟨qA,qn,qc,ql⟩,⟨sA,sn,sc,sl⟩,⟨hA,hn,hc,hl⟩,text⟩)])=>VC d ⟨sA,sn,sc,sl⟩ wv (((h.ro 1 rfl).imp fun w2 h2=>h2.2.2.1).less zn) HG.out.s.2.2 HSN.out HG.out.s.1.1)
 go_cut [35] (fun v wx=>∃ bb:Bool,v=.bool bb∧Hold Zb none w wx [.cst gx 97 #[.int .i64 1,.string tab,.slice rA rn rc,.slice qA qn qc,.slice sA sn sc,.slice hA hn hc,.string text],.ro (AcIn d ⟨1,tab,⟨rA,rn,rc,rl⟩,⟨qA,qn,qc,ql⟩,⟨sA,sn,sc,sl⟩,⟨hA,hn,hc,hl⟩,text⟩)])
 case first=>
  obtain ⟨cs,hcs⟩:∃ z:Bool,decide ((0:Int)<(sn:Int))=z:=⟨_,rfl⟩
  have hcs2:decide (0<sn)=cs:=by rw [←hcs];simp
  obtain ⟨ch,hch⟩:∃ z:Bool,decide ((0:Int)<(hn:Int))=z:=⟨_,rfl⟩
  have hch2:decide (0<hn)=ch:=by rw [←hch];simp
  go_wp2_with (first
    | (go_at_call 160;go_must (refine (ZO _ _).mono ?_);rintro e w1 ⟨r,rfl,b1⟩;replace K0:=K0.call b1;replace F0:=K0.facts;simp only [zg] at F0;clear b1)
    | (go_at_call 182;go_must (refine (ZU _ _ _ _).mono ?_);rintro e w1 ⟨r,rfl,b1⟩;replace K0:=K0.call b1;replace F0:=K0.facts;simp only [zg] at F0;clear b1)
    | (go_at_call 162;go_must (refine (HW.out _ K0).mono ?_);rintro e w1 ⟨r,rfl,b1⟩;replace K0:=K0.call b1;replace F0:=K0.facts;simp only [zg] at F0;clear b1)
    | (go_at_call 208;go_must (refine (HI.out _ K0).mono ?_);rintro e w1 ⟨r,rfl,b1⟩;replace K0:=K0.call b1;replace F0:=K0.facts;simp only [zg] at F0;clear b1)
    | (go_at_call 209;go_must (refine (HS.out _ K0).mono ?_);rintro e w1 ⟨r,rfl,b1⟩;replace K0:=K0.call b1;replace F0:=K0.facts;simp only [zg] at F0;clear b1))
  all_goals (go_meet;exact ⟨_,rfl,K0⟩)
 case rest=>
  obtain ⟨bb,rfl,K1⟩:=hcut
  clear K0 F0
  have K0:=K1
  clear K1
  have F0:=K0.facts
  simp only [zg] at F0
  cases bb
  ·go_upto_region 3 with fail
   go_cut [80] (fun v wx=>∃ bb:Bool,v=.bool bb∧Hold Zb none w wx [.cst gx 97 #[.int .i64 1,.string tab,.slice rA rn rc,.slice qA qn qc,.slice sA sn sc,.slice hA hn hc,.string text],.ro (AcIn d ⟨1,tab,⟨rA,rn,rc,rl⟩,⟨qA,qn,qc,ql⟩,⟨sA,sn,sc,sl⟩,⟨hA,hn,hc,hl⟩,text⟩)])
   case first=>
    obtain ⟨cs,hcs⟩:∃ z:Bool,decide ((0:Int)<(sn:Int))=z:=⟨_,rfl⟩
    have hcs2:decide (0<sn)=cs:=by rw [←hcs];simp
    obtain ⟨ch,hch⟩:∃ z:Bool,decide ((0:Int)<(hn:Int))=z:=⟨_,rfl⟩
    have hch2:decide (0<hn)=ch:=by rw [←hch];simp
    go_wp2_with (first
      | (go_at_call 160;go_must (refine (ZO _ _).mono ?_);rintro e w1 ⟨r,rfl,b1⟩;replace K0:=K0.call b1;replace F0:=K0.facts;simp only [zg] at F0;clear b1)
      | (go_at_call 182;go_must (refine (ZU _ _ _ _).mono ?_);rintro e w1 ⟨r,rfl,b1⟩;replace K0:=K0.call b1;replace F0:=K0.facts;simp only [zg] at F0;clear b1)
      | (go_at_call 162;go_must (refine (HW.out _ K0).mono ?_);rintro e w1 ⟨r,rfl,b1⟩;replace K0:=K0.call b1;replace F0:=K0.facts;simp only [zg] at F0;clear b1)
      | (go_at_call 208;go_must (refine (HI.out _ K0).mono ?_);rintro e w1 ⟨r,rfl,b1⟩;replace K0:=K0.call b1;replace F0:=K0.facts;simp only [zg] at F0;clear b1)
      | (go_at_call 209;go_must (refine (HS.out _ K0).mono ?_);rintro e w1 ⟨r,rfl,b1⟩;replace K0:=K0.call b1;replace F0:=K0.facts;simp only [zg] at F0;clear b1))
    all_goals (go_meet;exact ⟨_,rfl,K0⟩)
   case rest=>
    obtain ⟨bb,rfl,K1⟩:=hcut
    clear K0 F0
    have K0:=K1
    clear K1
    have F0:=K0.facts
    simp only [zg] at F0
    cases bb
    ·go_upto_region 5 with fail
     go_cut [90] (fun v wx=>∃ bb:Bool,v=.bool bb∧Hold Zb none w wx [.cst gx 97 #[.int .i64 1,.string tab,.slice rA rn rc,.slice qA qn qc,.slice sA sn sc,.slice hA hn hc,.string text],.ro (AcIn d ⟨1,tab,⟨rA,rn,rc,rl⟩,⟨qA,qn,qc,ql⟩,⟨sA,sn,sc,sl⟩,⟨hA,hn,hc,hl⟩,text⟩)])
     case first=>
      obtain ⟨cs,hcs⟩:∃ z:Bool,decide ((0:Int)<(sn:Int))=z:=⟨_,rfl⟩
      have hcs2:decide (0<sn)=cs:=by rw [←hcs];simp
      obtain ⟨ch,hch⟩:∃ z:Bool,decide ((0:Int)<(hn:Int))=z:=⟨_,rfl⟩
      have hch2:decide (0<hn)=ch:=by rw [←hch];simp
      go_wp2_with (first
        | (go_at_call 160;go_must (refine (ZO _ _).mono ?_);rintro e w1 ⟨r,rfl,b1⟩;replace K0:=K0.call b1;replace F0:=K0.facts;simp only [zg] at F0;clear b1)
        | (go_at_call 182;go_must (refine (ZU _ _ _ _).mono ?_);rintro e w1 ⟨r,rfl,b1⟩;replace K0:=K0.call b1;replace F0:=K0.facts;simp only [zg] at F0;clear b1)
        | (go_at_call 162;go_must (refine (HW.out _ K0).mono ?_);rintro e w1 ⟨r,rfl,b1⟩;replace K0:=K0.call b1;replace F0:=K0.facts;simp only [zg] at F0;clear b1)
        | (go_at_call 208;go_must (refine (HI.out _ K0).mono ?_);rintro e w1 ⟨r,rfl,b1⟩;replace K0:=K0.call b1;replace F0:=K0.facts;simp only [zg] at F0;clear b1)
        | (go_at_call 209;go_must (refine (HS.out _ K0).mono ?_);rintro e w1 ⟨r,rfl,b1⟩;replace K0:=K0.call b1;replace F0:=K0.facts;simp only [zg] at F0;clear b1))
      all_goals (go_meet;exact ⟨_,rfl,K0⟩)
     case rest=>
      obtain ⟨bb,rfl,K1⟩:=hcut
      clear K0 F0
      have K0:=K1
      clear K1
      have F0:=K0.facts
      simp only [zg] at F0
      cases bb
      ·go_wp2_with (first
         | (go_at_call 160;go_must (refine (ZO _ _).mono ?_);rintro e w1 ⟨r,rfl,b1⟩;replace K0:=K0.call b1;replace F0:=K0.facts;simp only [zg] at F0;clear b1)
         | (go_at_call 182;go_must (refine (ZU _ _ _ _).mono ?_);rintro e w1 ⟨r,rfl,b1⟩;replace K0:=K0.call b1;replace F0:=K0.facts;simp only [zg] at F0;clear b1)
         | (go_at_call 162;go_must (refine (HW.out _ K0).mono ?_);rintro e w1 ⟨r,rfl,b1⟩;replace K0:=K0.call b1;replace F0:=K0.facts;simp only [zg] at F0;clear b1)
         | (go_at_call 208;go_must (refine (HI.out _ K0).mono ?_);rintro e w1 ⟨r,rfl,b1⟩;replace K0:=K0.call b1;replace F0:=K0.facts;simp only [zg] at F0;clear b1)
         | (go_at_call 209;go_must (refine (HS.out _ K0).mono ?_);rintro e w1 ⟨r,rfl,b1⟩;replace K0:=K0.call b1;replace F0:=K0.facts;simp only [zg] at F0;clear b1))
       all_goals (go_ret;exact ⟨_,rfl,K0.below,fun _ h=>absurd h (by decide)⟩)
      ·go_wp2_with fail
       all_goals (go_ret;exact ⟨_,rfl,K0.below,fun _ h=>absurd h (by decide)⟩)
    ·go_wp2_with fail
     all_goals (go_ret;exact ⟨_,rfl,K0.below,fun _ h=>absurd h (by decide)⟩)
  ·go_wp2_with fail
   all_goals (go_ret;exact ⟨_,rfl,K0.below,fun _ h=>absurd h (by decide)⟩)
set_option maxHeartbeats 16000000 in
set_option maxRecDepth 100000 in
theorem Zek (d:Nat) (tab:ByteArray) (rA:Option Addr) (rn rc:Nat) (rl:List (SlP Ex)) (qA:Option Addr) (qn qc:Nat) (ql:List Qu) (sA:Option Addr) (sn sc:Nat) (sl:List Se) (hA:Option Addr) (hn hc:Nat) (hl:List Ex) (text:ByteArray) (w:World) (hx:Ro w Zb (AcIn d ⟨2,tab,⟨rA,rn,rc,rl⟩,⟨qA,qn,qc,ql⟩,⟨sA,sn,sc,sl⟩,⟨hA,hn,hc,hl⟩,text⟩)) (hg:AcGd d ⟨2,tab,⟨rA,rn,rc,rl⟩,⟨qA,qn,qc,ql⟩,⟨sA,sn,sc,sl⟩,⟨hA,hn,hc,hl⟩,text⟩):Calls Tryz.prog 163 #[.agg #[.int .i64 2,.string tab,.slice rA rn rc,.slice qA qn qc,.slice sA sn sc,.slice hA hn hc,.string text]] w fun e w' =>Vm 2 sn w e w' :=by
 have HHN:=hid (show hn≤1000 from by
  have h:hl.length=hn:=ExsIn.len (show ExsIn d hA hn hl w from hx.now.2.2.2)
  have h2:hl.length≤1:=hg.h.2.1
  omega)
 have HSN:=hid (show sn≤1000 from by
  have h:sl.length=sn:=SlP.In.len (s:=⟨sA,sn,sc,sl⟩) (k:=11) (cel:=Se.cells) (P:=ZY d) hx.now.2.2.1 (by omega) (fun _=>rfl)
  have h2:sl.length≤8:=hg.s.2.1
  omega)
 have HRQ:=hid (show rn≤8∧qn≤1 from by
  have h1:rl.length=rn:=SlP.In.len (s:=⟨rA,rn,rc,rl⟩) (k:=1) (cel:=fun r:SlP Ex=>[r.v]) (P:=fun r w=>r.In 10 Ex.cells (ExIn d) w) hx.now.1 (by omega) (fun _=>rfl)
  have h2:ql.length=qn:=SlP.In.len (s:=⟨qA,qn,qc,ql⟩) (k:=4) (cel:=Qu.cells) (P:=QuIn d) hx.now.2.1 (by omega) (fun _=>rfl)
  have h3:rl.length≤8:=hg.r.2.1
  have h4:ql.length≤1:=hg.q.2.1
  omega)
 have HG:=hid hg
 have K0:=((Hold.start Zb w zn).add (hx.less (by simp [Mut]))).Za #[.int .i64 2,.string tab,.slice rA rn rc,.slice qA qn qc,.slice sA sn sc,.slice hA hn hc,.string text] 97
 obtain ⟨gx,hgx⟩:∃ g,g=w.heap.size:=⟨_,rfl⟩
 rw [←hgx] at K0
 have F0:=K0.facts
 simp only [zg] at F0
 rw [hgx] at F0
 clear hx hg
 go_enter Tryz.func163,Tryz.ntmps163
 go_upto_region 1 with fail
 rw [←hgx] at F0 ⊢
 have HGX:=hid hgx
 clear hgx
 generalize World.alloc _ _=w1 at K0 F0 ⊢
 have HW:=hid (fun (wv:World) (h:Hold Zb none w wv [.cst gx 97 #[.int .i64 2,.string tab,.slice rA rn rc,.slice qA qn qc,.slice sA sn sc,.slice hA hn hc,.string text],.ro (AcIn d ⟨2,tab,⟨rA,rn,rc,rl⟩,⟨qA,qn,qc,ql⟩,⟨sA,sn,sc,sl⟩,⟨hA,hn,hc,hl⟩,text⟩)])=>XL d hA hn hc hl wv (((h.ro 1 rfl).imp fun w2 h2=>(show ExsIn d hA hn hl w2 from h2.2.2.2)).less zn) HG.out.h.2.2 HHN.out)
 have HI:=hid (fun (wv:World) (h:Hold Zb none w wv [.cst gx 97 #[.int .i64 2,.string tab,.slice rA rn rc,.slice qA qn qc,.slice sA sn sc,.slice hA hn hc,.string text],.ro (AcIn d ⟨2,tab,⟨rA,rn,rc,rl⟩,⟨qA,qn,qc,ql⟩,⟨sA,sn,sc,sl⟩,⟨hA,hn,hc,hl⟩,text⟩)])=>Vw d ⟨2,tab,⟨rA,rn,rc,rl⟩,⟨qA,qn,qc,ql⟩,⟨sA,sn,sc,sl⟩,⟨hA,hn,hc,hl⟩,text⟩ wv ((h.ro 1 rfl).less zn) HG.out)
 have HS:=hid (fun (wv:World) (h:Hold Zb none w wv [.cst gx 97 #[.int .i64 2,.string tab,.slice rA rn rc,.slice qA qn qc,.slice sA sn sc,.slice hA hn hc,.string text],.ro (AcIn d ⟨2,tab,⟨rA,rn,rc,rl⟩,⟨qA,qn,qc,ql⟩,⟨sA,sn,sc,sl⟩,⟨hA,hn,hc,hl⟩,text⟩)])=>VC d ⟨sA,sn,sc,sl⟩ wv (((h.ro 1 rfl).imp fun w2 h2=>h2.2.2.1).less zn) HG.out.s.2.2 HSN.out HG.out.s.1.1)
 go_cut [35] (fun v wx=>∃ bb:Bool,v=.bool bb∧Hold Zb none w wx [.cst gx 97 #[.int .i64 2,.string tab,.slice rA rn rc,.slice qA qn qc,.slice sA sn sc,.slice hA hn hc,.string text],.ro (AcIn d ⟨2,tab,⟨rA,rn,rc,rl⟩,⟨qA,qn,qc,ql⟩,⟨sA,sn,sc,sl⟩,⟨hA,hn,hc,hl⟩,text⟩)])
 case first=>
  have hw0:IntKind.i64.wrap ((rn:Int)+(qn:Int))=(rn:Int)+(qn:Int):=IntWalk.i64_in _ (by have:=HRQ.out;omega)
  obtain ⟨cr,hcr⟩:∃ z:Bool,decide ((0:Int)<(rn:Int)+(qn:Int))=z:=⟨_,rfl⟩
  obtain ⟨cs,hcs⟩:∃ z:Bool,decide ((0:Int)<(sn:Int))=z:=⟨_,rfl⟩
  have hcs2:decide (0<sn)=cs:=by rw [←hcs];simp
  obtain ⟨ch,hch⟩:∃ z:Bool,decide ((0:Int)<(hn:Int))=z:=⟨_,rfl⟩
  have hch2:decide (0<hn)=ch:=by rw [←hch];simp
  go_wp2_with (first
    | (go_at_call 160;go_must (refine (ZO _ _).mono ?_);rintro e w1 ⟨r,rfl,b1⟩;replace K0:=K0.call b1;replace F0:=K0.facts;simp only [zg] at F0;clear b1)
    | (go_at_call 182;go_must (refine (ZU _ _ _ _).mono ?_);rintro e w1 ⟨r,rfl,b1⟩;replace K0:=K0.call b1;replace F0:=K0.facts;simp only [zg] at F0;clear b1)
    | (go_at_call 162;go_must (refine (HW.out _ K0).mono ?_);rintro e w1 ⟨r,rfl,b1⟩;replace K0:=K0.call b1;replace F0:=K0.facts;simp only [zg] at F0;clear b1)
    | (go_at_call 208;go_must (refine (HI.out _ K0).mono ?_);rintro e w1 ⟨r,rfl,b1⟩;replace K0:=K0.call b1;replace F0:=K0.facts;simp only [zg] at F0;clear b1)
    | (go_at_call 209;go_must (refine (HS.out _ K0).mono ?_);rintro e w1 ⟨r,rfl,b1⟩;replace K0:=K0.call b1;replace F0:=K0.facts;simp only [zg] at F0;clear b1))
  all_goals (go_meet;exact ⟨_,rfl,K0⟩)
 case rest=>
  obtain ⟨bb,rfl,K1⟩:=hcut
  clear K0 F0
  have K0:=K1
  clear K1
  have F0:=K0.facts
  simp only [zg] at F0
  cases bb
  ·go_upto_region 3 with fail
   go_cut [80] (fun v wx=>∃ bb:Bool,v=.bool bb∧Hold Zb none w wx [.cst gx 97 #[.int .i64 2,.string tab,.slice rA rn rc,.slice qA qn qc,.slice sA sn sc,.slice hA hn hc,.string text],.ro (AcIn d ⟨2,tab,⟨rA,rn,rc,rl⟩,⟨qA,qn,qc,ql⟩,⟨sA,sn,sc,sl⟩,⟨hA,hn,hc,hl⟩,text⟩)])
   case first=>
    have hw0:IntKind.i64.wrap ((rn:Int)+(qn:Int))=(rn:Int)+(qn:Int):=IntWalk.i64_in _ (by have:=HRQ.out;omega)
    obtain ⟨cr,hcr⟩:∃ z:Bool,decide ((0:Int)<(rn:Int)+(qn:Int))=z:=⟨_,rfl⟩
    obtain ⟨cs,hcs⟩:∃ z:Bool,decide ((0:Int)<(sn:Int))=z:=⟨_,rfl⟩
    have hcs2:decide (0<sn)=cs:=by rw [←hcs];simp
    obtain ⟨ch,hch⟩:∃ z:Bool,decide ((0:Int)<(hn:Int))=z:=⟨_,rfl⟩
    have hch2:decide (0<hn)=ch:=by rw [←hch];simp
    go_wp2_with (first
      | (go_at_call 160;go_must (refine (ZO _ _).mono ?_);rintro e w1 ⟨r,rfl,b1⟩;replace K0:=K0.call b1;replace F0:=K0.facts;simp only [zg] at F0;clear b1)
      | (go_at_call 182;go_must (refine (ZU _ _ _ _).mono ?_);rintro e w1 ⟨r,rfl,b1⟩;replace K0:=K0.call b1;replace F0:=K0.facts;simp only [zg] at F0;clear b1)
      | (go_at_call 162;go_must (refine (HW.out _ K0).mono ?_);rintro e w1 ⟨r,rfl,b1⟩;replace K0:=K0.call b1;replace F0:=K0.facts;simp only [zg] at F0;clear b1)
      | (go_at_call 208;go_must (refine (HI.out _ K0).mono ?_);rintro e w1 ⟨r,rfl,b1⟩;replace K0:=K0.call b1;replace F0:=K0.facts;simp only [zg] at F0;clear b1)
      | (go_at_call 209;go_must (refine (HS.out _ K0).mono ?_);rintro e w1 ⟨r,rfl,b1⟩;replace K0:=K0.call b1;replace F0:=K0.facts;simp only [zg] at F0;clear b1))
    all_goals (go_meet;exact ⟨_,rfl,K0⟩)
   case rest=>
    obtain ⟨bb,rfl,K1⟩:=hcut
    clear K0 F0
    have K0:=K1
    clear K1
    have F0:=K0.facts
    simp only [zg] at F0
    cases bb
    ·go_upto_region 5 with fail
     go_cut [90] (fun v wx=>∃ bb:Bool,v=.bool bb∧Hold Zb none w wx [.cst gx 97 #[.int .i64 2,.string tab,.slice rA rn rc,.slice qA qn qc,.slice sA sn sc,.slice hA hn hc,.string text],.ro (AcIn d ⟨2,tab,⟨rA,rn,rc,rl⟩,⟨qA,qn,qc,ql⟩,⟨sA,sn,sc,sl⟩,⟨hA,hn,hc,hl⟩,text⟩)])
     case first=>
      have hw0:IntKind.i64.wrap ((rn:Int)+(qn:Int))=(rn:Int)+(qn:Int):=IntWalk.i64_in _ (by have:=HRQ.out;omega)
      obtain ⟨cr,hcr⟩:∃ z:Bool,decide ((0:Int)<(rn:Int)+(qn:Int))=z:=⟨_,rfl⟩
      obtain ⟨cs,hcs⟩:∃ z:Bool,decide ((0:Int)<(sn:Int))=z:=⟨_,rfl⟩
      have hcs2:decide (0<sn)=cs:=by rw [←hcs];simp
      obtain ⟨ch,hch⟩:∃ z:Bool,decide ((0:Int)<(hn:Int))=z:=⟨_,rfl⟩
      have hch2:decide (0<hn)=ch:=by rw [←hch];simp
      go_wp2_with (first
        | (go_at_call 160;go_must (refine (ZO _ _).mono ?_);rintro e w1 ⟨r,rfl,b1⟩;replace K0:=K0.call b1;replace F0:=K0.facts;simp only [zg] at F0;clear b1)
        | (go_at_call 182;go_must (refine (ZU _ _ _ _).mono ?_);rintro e w1 ⟨r,rfl,b1⟩;replace K0:=K0.call b1;replace F0:=K0.facts;simp only [zg] at F0;clear b1)
        | (go_at_call 162;go_must (refine (HW.out _ K0).mono ?_);rintro e w1 ⟨r,rfl,b1⟩;replace K0:=K0.call b1;replace F0:=K0.facts;simp only [zg] at F0;clear b1)
        | (go_at_call 208;go_must (refine (HI.out _ K0).mono ?_);rintro e w1 ⟨r,rfl,b1⟩;replace K0:=K0.call b1;replace F0:=K0.facts;simp only [zg] at F0;clear b1)
        | (go_at_call 209;go_must (refine (HS.out _ K0).mono ?_);rintro e w1 ⟨r,rfl,b1⟩;replace K0:=K0.call b1;replace F0:=K0.facts;simp only [zg] at F0;clear b1))
      all_goals (go_meet;exact ⟨_,rfl,K0⟩)
     case rest=>
      obtain ⟨bb,rfl,K1⟩:=hcut
      clear K0 F0
      have K0:=K1
      clear K1
      have F0:=K0.facts
      simp only [zg] at F0
      cases bb
      ·go_wp2_with (first
         | (go_at_call 160;go_must (refine (ZO _ _).mono ?_);rintro e w1 ⟨r,rfl,b1⟩;replace K0:=K0.call b1;replace F0:=K0.facts;simp only [zg] at F0;clear b1)
         | (go_at_call 182;go_must (refine (ZU _ _ _ _).mono ?_);rintro e w1 ⟨r,rfl,b1⟩;replace K0:=K0.call b1;replace F0:=K0.facts;simp only [zg] at F0;clear b1)
         | (go_at_call 162;go_must (refine (HW.out _ K0).mono ?_);rintro e w1 ⟨r,rfl,b1⟩;replace K0:=K0.call b1;replace F0:=K0.facts;simp only [zg] at F0;clear b1)
         | (go_at_call 208;go_must (refine (HI.out _ K0).mono ?_);rintro e w1 ⟨r,rfl,b1⟩;replace K0:=K0.call b1;replace F0:=K0.facts;simp only [zg] at F0;clear b1)
         | (go_at_call 209;go_must (refine (HS.out _ K0).mono ?_);rintro e w1 ⟨r,rfl,b1⟩;replace K0:=K0.call b1;replace F0:=K0.facts;simp only [zg] at F0;clear b1))
       all_goals (go_ret;exact ⟨_,rfl,K0.below,fun _ h=>absurd h (by decide)⟩)
      ·go_wp2_with fail
       all_goals (go_ret;exact ⟨_,rfl,K0.below,fun _ h=>absurd h (by decide)⟩)
    ·go_wp2_with fail
     all_goals (go_ret;exact ⟨_,rfl,K0.below,fun _ h=>absurd h (by decide)⟩)
  ·go_wp2_with fail
   all_goals (go_ret;exact ⟨_,rfl,K0.below,fun _ h=>absurd h (by decide)⟩)
set_option maxHeartbeats 16000000 in
set_option maxRecDepth 100000 in
theorem ZeS (d:Nat) (tab:ByteArray) (rA:Option Addr) (rn rc:Nat) (rl:List (SlP Ex)) (qA:Option Addr) (qn qc:Nat) (ql:List Qu) (sA:Option Addr) (sn sc:Nat) (sl:List Se) (hA:Option Addr) (hn hc:Nat) (hl:List Ex) (text:ByteArray) (w:World) (hx:Ro w Zb (AcIn d ⟨3,tab,⟨rA,rn,rc,rl⟩,⟨qA,qn,qc,ql⟩,⟨sA,sn,sc,sl⟩,⟨hA,hn,hc,hl⟩,text⟩)) (hg:AcGd d ⟨3,tab,⟨rA,rn,rc,rl⟩,⟨qA,qn,qc,ql⟩,⟨sA,sn,sc,sl⟩,⟨hA,hn,hc,hl⟩,text⟩):Calls Tryz.prog 163 #[.agg #[.int .i64 3,.string tab,.slice rA rn rc,.slice qA qn qc,.slice sA sn sc,.slice hA hn hc,.string text]] w fun e w' =>Vm 3 sn w e w' :=by
 have HHN:=hid (show hn≤1000 from by
  have h:hl.length=hn:=ExsIn.len (show ExsIn d hA hn hl w from hx.now.2.2.2)
  have h2:hl.length≤1:=hg.h.2.1
  omega)
 have HSN:=hid (show sn≤1000 from by
  have h:sl.length=sn:=SlP.In.len (s:=⟨sA,sn,sc,sl⟩) (k:=11) (cel:=Se.cells) (P:=ZY d) hx.now.2.2.1 (by omega) (fun _=>rfl)
  have h2:sl.length≤8:=hg.s.2.1
  omega)
 have HRQ:=hid (show rn≤8∧qn≤1 from by
  have h1:rl.length=rn:=SlP.In.len (s:=⟨rA,rn,rc,rl⟩) (k:=1) (cel:=fun r:SlP Ex=>[r.v]) (P:=fun r w=>r.In 10 Ex.cells (ExIn d) w) hx.now.1 (by omega) (fun _=>rfl)
  have h2:ql.length=qn:=SlP.In.len (s:=⟨qA,qn,qc,ql⟩) (k:=4) (cel:=Qu.cells) (P:=QuIn d) hx.now.2.1 (by omega) (fun _=>rfl)
  have h3:rl.length≤8:=hg.r.2.1
  have h4:ql.length≤1:=hg.q.2.1
  omega)
 have HG:=hid hg
 have K0:=((Hold.start Zb w zn).add (hx.less (by simp [Mut]))).Za #[.int .i64 3,.string tab,.slice rA rn rc,.slice qA qn qc,.slice sA sn sc,.slice hA hn hc,.string text] 97
 obtain ⟨gx,hgx⟩:∃ g,g=w.heap.size:=⟨_,rfl⟩
 rw [←hgx] at K0
 have F0:=K0.facts
 simp only [zg] at F0
 rw [hgx] at F0
 clear hx hg
 go_enter Tryz.func163,Tryz.ntmps163
 go_upto_region 1 with fail
 rw [←hgx] at F0 ⊢
 have HGX:=hid hgx
 clear hgx
 generalize World.alloc _ _=w1 at K0 F0 ⊢
 have HW:=hid (fun (wv:World) (h:Hold Zb none w wv [.cst gx 97 #[.int .i64 3,.string tab,.slice rA rn rc,.slice qA qn qc,.slice sA sn sc,.slice hA hn hc,.string text],.ro (AcIn d ⟨3,tab,⟨rA,rn,rc,rl⟩,⟨qA,qn,qc,ql⟩,⟨sA,sn,sc,sl⟩,⟨hA,hn,hc,hl⟩,text⟩)])=>XL d hA hn hc hl wv (((h.ro 1 rfl).imp fun w2 h2=>(show ExsIn d hA hn hl w2 from h2.2.2.2)).less zn) HG.out.h.2.2 HHN.out)
 have HI:=hid (fun (wv:World) (h:Hold Zb none w wv [.cst gx 97 #[.int .i64 3,.string tab,.slice rA rn rc,.slice qA qn qc,.slice sA sn sc,.slice hA hn hc,.string text],.ro (AcIn d ⟨3,tab,⟨rA,rn,rc,rl⟩,⟨qA,qn,qc,ql⟩,⟨sA,sn,sc,sl⟩,⟨hA,hn,hc,hl⟩,text⟩)])=>Vw d ⟨3,tab,⟨rA,rn,rc,rl⟩,⟨qA,qn,qc,ql⟩,⟨sA,sn,sc,sl⟩,⟨hA,hn,hc,hl⟩,text⟩ wv ((h.ro 1 rfl).less zn) HG.out)
 have HS:=hid (fun (wv:World) (h:Hold Zb none w wv [.cst gx 97 #[.int .i64 3,.string tab,.slice rA rn rc,.slice qA qn qc,.slice sA sn sc,.slice hA hn hc,.string text],.ro (AcIn d ⟨3,tab,⟨rA,rn,rc,rl⟩,⟨qA,qn,qc,ql⟩,⟨sA,sn,sc,sl⟩,⟨hA,hn,hc,hl⟩,text⟩)])=>VC d ⟨sA,sn,sc,sl⟩ wv (((h.ro 1 rfl).imp fun w2 h2=>h2.2.2.1).less zn) HG.out.s.2.2 HSN.out HG.out.s.1.1)
 go_cut [35] (fun v wx=>∃ bb:Bool,v=.bool bb∧Hold Zb none w wx [.cst gx 97 #[.int .i64 3,.string tab,.slice rA rn rc,.slice qA qn qc,.slice sA sn sc,.slice hA hn hc,.string text],.ro (AcIn d ⟨3,tab,⟨rA,rn,rc,rl⟩,⟨qA,qn,qc,ql⟩,⟨sA,sn,sc,sl⟩,⟨hA,hn,hc,hl⟩,text⟩)])
 case first=>
  have hw0:IntKind.i64.wrap ((rn:Int)+(qn:Int))=(rn:Int)+(qn:Int):=IntWalk.i64_in _ (by have:=HRQ.out;omega)
  obtain ⟨cr,hcr⟩:∃ z:Bool,decide ((0:Int)<(rn:Int)+(qn:Int))=z:=⟨_,rfl⟩
  obtain ⟨cs,hcs⟩:∃ z:Bool,decide ((0:Int)<(sn:Int))=z:=⟨_,rfl⟩
  have hcs2:decide (0<sn)=cs:=by rw [←hcs];simp
  obtain ⟨ch,hch⟩:∃ z:Bool,decide ((0:Int)<(hn:Int))=z:=⟨_,rfl⟩
  have hch2:decide (0<hn)=ch:=by rw [←hch];simp
  go_wp2_with (first
    | (go_at_call 160;go_must (refine (ZO _ _).mono ?_);rintro e w1 ⟨r,rfl,b1⟩;replace K0:=K0.call b1;replace F0:=K0.facts;simp only [zg] at F0;clear b1)
    | (go_at_call 182;go_must (refine (ZU _ _ _ _).mono ?_);rintro e w1 ⟨r,rfl,b1⟩;replace K0:=K0.call b1;replace F0:=K0.facts;simp only [zg] at F0;clear b1)
    | (go_at_call 162;go_must (refine (HW.out _ K0).mono ?_);rintro e w1 ⟨r,rfl,b1⟩;replace K0:=K0.call b1;replace F0:=K0.facts;simp only [zg] at F0;clear b1)
    | (go_at_call 208;go_must (refine (HI.out _ K0).mono ?_);rintro e w1 ⟨r,rfl,b1⟩;replace K0:=K0.call b1;replace F0:=K0.facts;simp only [zg] at F0;clear b1)
    | (go_at_call 209;go_must (refine (HS.out _ K0).mono ?_);rintro e w1 ⟨r,rfl,b1⟩;replace K0:=K0.call b1;replace F0:=K0.facts;simp only [zg] at F0;clear b1))
  all_goals (go_meet;exact ⟨_,rfl,K0⟩)
 case rest=>
  obtain ⟨bb,rfl,K1⟩:=hcut
  clear K0 F0
  have K0:=K1
  clear K1
  have F0:=K0.facts
  simp only [zg] at F0
  cases bb
  ·go_upto_region 3 with fail
   go_cut [80] (fun v wx=>∃ bb:Bool,v=.bool bb∧Hold Zb none w wx [.cst gx 97 #[.int .i64 3,.string tab,.slice rA rn rc,.slice qA qn qc,.slice sA sn sc,.slice hA hn hc,.string text],.ro (AcIn d ⟨3,tab,⟨rA,rn,rc,rl⟩,⟨qA,qn,qc,ql⟩,⟨sA,sn,sc,sl⟩,⟨hA,hn,hc,hl⟩,text⟩)])
   case first=>
    have hw0:IntKind.i64.wrap ((rn:Int)+(qn:Int))=(rn:Int)+(qn:Int):=IntWalk.i64_in _ (by have:=HRQ.out;omega)
    obtain ⟨cr,hcr⟩:∃ z:Bool,decide ((0:Int)<(rn:Int)+(qn:Int))=z:=⟨_,rfl⟩
    obtain ⟨cs,hcs⟩:∃ z:Bool,decide ((0:Int)<(sn:Int))=z:=⟨_,rfl⟩
    have hcs2:decide (0<sn)=cs:=by rw [←hcs];simp
    obtain ⟨ch,hch⟩:∃ z:Bool,decide ((0:Int)<(hn:Int))=z:=⟨_,rfl⟩
    have hch2:decide (0<hn)=ch:=by rw [←hch];simp
    go_wp2_with (first
      | (go_at_call 160;go_must (refine (ZO _ _).mono ?_);rintro e w1 ⟨r,rfl,b1⟩;replace K0:=K0.call b1;replace F0:=K0.facts;simp only [zg] at F0;clear b1)
      | (go_at_call 182;go_must (refine (ZU _ _ _ _).mono ?_);rintro e w1 ⟨r,rfl,b1⟩;replace K0:=K0.call b1;replace F0:=K0.facts;simp only [zg] at F0;clear b1)
      | (go_at_call 162;go_must (refine (HW.out _ K0).mono ?_);rintro e w1 ⟨r,rfl,b1⟩;replace K0:=K0.call b1;replace F0:=K0.facts;simp only [zg] at F0;clear b1)
      | (go_at_call 208;go_must (refine (HI.out _ K0).mono ?_);rintro e w1 ⟨r,rfl,b1⟩;replace K0:=K0.call b1;replace F0:=K0.facts;simp only [zg] at F0;clear b1)
      | (go_at_call 209;go_must (refine (HS.out _ K0).mono ?_);rintro e w1 ⟨r,rfl,b1⟩;replace K0:=K0.call b1;replace F0:=K0.facts;simp only [zg] at F0;clear b1))
    all_goals (go_meet;exact ⟨_,rfl,K0⟩)
   case rest=>
    obtain ⟨bb,rfl,K1⟩:=hcut
    clear K0 F0
    have K0:=K1
    clear K1
    have F0:=K0.facts
    simp only [zg] at F0
    cases bb
    ·go_upto_region 5 with fail
     go_cut [90] (fun v wx=>∃ bb:Bool,v=.bool bb∧Hold Zb none w wx [.cst gx 97 #[.int .i64 3,.string tab,.slice rA rn rc,.slice qA qn qc,.slice sA sn sc,.slice hA hn hc,.string text],.ro (AcIn d ⟨3,tab,⟨rA,rn,rc,rl⟩,⟨qA,qn,qc,ql⟩,⟨sA,sn,sc,sl⟩,⟨hA,hn,hc,hl⟩,text⟩)])
     case first=>
      have hw0:IntKind.i64.wrap ((rn:Int)+(qn:Int))=(rn:Int)+(qn:Int):=IntWalk.i64_in _ (by have:=HRQ.out;omega)
      obtain ⟨cr,hcr⟩:∃ z:Bool,decide ((0:Int)<(rn:Int)+(qn:Int))=z:=⟨_,rfl⟩
      obtain ⟨cs,hcs⟩:∃ z:Bool,decide ((0:Int)<(sn:Int))=z:=⟨_,rfl⟩
      have hcs2:decide (0<sn)=cs:=by rw [←hcs];simp
      obtain ⟨ch,hch⟩:∃ z:Bool,decide ((0:Int)<(hn:Int))=z:=⟨_,rfl⟩
      have hch2:decide (0<hn)=ch:=by rw [←hch];simp
      go_wp2_with (first
        | (go_at_call 160;go_must (refine (ZO _ _).mono ?_);rintro e w1 ⟨r,rfl,b1⟩;replace K0:=K0.call b1;replace F0:=K0.facts;simp only [zg] at F0;clear b1)
        | (go_at_call 182;go_must (refine (ZU _ _ _ _).mono ?_);rintro e w1 ⟨r,rfl,b1⟩;replace K0:=K0.call b1;replace F0:=K0.facts;simp only [zg] at F0;clear b1)
        | (go_at_call 162;go_must (refine (HW.out _ K0).mono ?_);rintro e w1 ⟨r,rfl,b1⟩;replace K0:=K0.call b1;replace F0:=K0.facts;simp only [zg] at F0;clear b1)
        | (go_at_call 208;go_must (refine (HI.out _ K0).mono ?_);rintro e w1 ⟨r,rfl,b1⟩;replace K0:=K0.call b1;replace F0:=K0.facts;simp only [zg] at F0;clear b1)
        | (go_at_call 209;go_must (refine (HS.out _ K0).mono ?_);rintro e w1 ⟨r,rfl,b1⟩;replace K0:=K0.call b1;replace F0:=K0.facts;simp only [zg] at F0;clear b1))
      all_goals (go_meet;exact ⟨_,rfl,K0⟩)
     case rest=>
      obtain ⟨bb,rfl,K1⟩:=hcut
      clear K0 F0
      have K0:=K1
      clear K1
      have F0:=K0.facts
      simp only [zg] at F0
      cases bb
      ·go_wp2_with (first
         | (go_at_call 160;go_must (refine (ZO _ _).mono ?_);rintro e w1 ⟨r,rfl,b1⟩;replace K0:=K0.call b1;replace F0:=K0.facts;simp only [zg] at F0;clear b1)
         | (go_at_call 182;go_must (refine (ZU _ _ _ _).mono ?_);rintro e w1 ⟨r,rfl,b1⟩;replace K0:=K0.call b1;replace F0:=K0.facts;simp only [zg] at F0;clear b1)
         | (go_at_call 162;go_must (refine (HW.out _ K0).mono ?_);rintro e w1 ⟨r,rfl,b1⟩;replace K0:=K0.call b1;replace F0:=K0.facts;simp only [zg] at F0;clear b1)
         | (go_at_call 208;go_must (refine (HI.out _ K0).mono ?_);rintro e w1 ⟨r,rfl,b1⟩;replace K0:=K0.call b1;replace F0:=K0.facts;simp only [zg] at F0;clear b1)
         | (go_at_call 209;go_must (refine (HS.out _ K0).mono ?_);rintro e w1 ⟨r,rfl,b1⟩;replace K0:=K0.call b1;replace F0:=K0.facts;simp only [zg] at F0;clear b1))
       all_goals (go_ret;exact ⟨_,rfl,K0.below,fun _ h=>absurd h (by decide)⟩)
      ·go_wp2_with fail
       all_goals (go_ret;exact ⟨_,rfl,K0.below,fun _ h=>absurd h (by decide)⟩)
    ·go_wp2_with fail
     all_goals (go_ret;exact ⟨_,rfl,K0.below,fun _ h=>absurd h (by decide)⟩)
  ·go_wp2_with fail
   all_goals (go_ret;exact ⟨_,rfl,K0.below,fun _ h=>absurd h (by decide)⟩)
end Go.Proofs.YtnbbllkbefagmaaGreatDoor

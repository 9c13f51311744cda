import Derived.Test.YtnmnkbnmollpmaaGreatDoorBdDscSaidMX
import Derived.Test.YtnmnkbnmollpmaaGreatDoorBdDscSaidMV
set_option linter.unusedVariables false
set_option linter.unusedSimpArgs false
set_option maxHeartbeats 64000000
set_option maxRecDepth 100000
namespace Go.Proofs.YtnmnkbnmollpmaaGreatDoor
section
open Go.RowKit
def FB (d fn:Nat) (fl:List Fr):Prop:=fn+d≤1000∧∀ f∈fl,f.cols.n≤1000
def J7 (x:Ex):Prop:=x.m=0∧((x.kind=1∧x.n=0)∨(x.kind=2∧x.n=0)∨(x.kind=5∧x.n=2∧x.op=10)∨(x.kind=7∧x.n=3))
theorem Ux (x:Ex) (w:World) (h:J7 x):Calls Tryz.prog 135 #[.agg #[.int .i64 x.kind,.int .i64 x.op,.bool x.nt,.int .i64 x.v.k,.int .i64 x.v.i,.string x.v.s,.string x.tab,.string x.nm,.slice x.A x.n x.c,.slice x.B x.m x.d]] w fun e w' =>e=.returned (.bool true)∧Below w.heap.size w w' :=by
 obtain ⟨kind,op,nt,v,tab,nm,A,n,c,args,B,m,dd,sub⟩:=x
 obtain ⟨rfl,h⟩:m=0∧((kind=1∧n=0)∨(kind=2∧n=0)∨(kind=5∧n=2∧op=10)∨(kind=7∧n=3)):=h
 have K0:=(Hold.start Zc w zn).Za #[.int .i64 kind,.int .i64 op,.bool nt,.int .i64 v.k,.int .i64 v.i,.string v.s,.string tab,.string nm,.slice A n c,.slice B 0 dd] 34
 rcases h with ⟨rfl,rfl⟩|⟨rfl,rfl⟩|⟨rfl,rfl,rfl⟩|⟨rfl,rfl⟩
 all_goals
  dsimp only at K0 ⊢
  go_enter Tryz.func135,Tryz.ntmps135
  go_upto_region 1 with fail
  have F0:=K0.facts
  simp only [zg] at F0
  have HB:=hid K0.below
  generalize World.alloc _ _=w1 at K0 F0 HB ⊢
  clear K0
  go_wp2_with fail
  go_ret
  exact ⟨rfl,HB.out⟩
theorem Zkw (fA:Option Addr) (fc:Nat) (f:Fr) (nm:ByteArray) (k0:Nat) (w:World) (hx:Ro w Zc (FrsIn ⟨fA,1,fc,[f]⟩)) (hs:f.strict=false) (hc:f.cols.n≤1000) (hk:Ze (named nm) f.cols.l=k0):Calls Tryz.prog 136 #[.slice fA 1 fc,.string ⟨#[]⟩,.string nm] w fun e w' =>e=.returned (.tuple #[.int .i64 0,.int .i64 k0,.bool true])∧Below w.heap.size w w' :=by
 obtain ⟨fnm,fst,⟨cA,cn,cc,cl⟩,⟨vA,vn,vc,vl⟩⟩:=f
 obtain rfl:fst=false:=hs
 have hc:cn≤1000:=hc
 have HK:=hid (show Ze (named nm) cl=k0 from hk)
 have K0:=(Hold.start Zc w zn).add (hx.less (by simp [Mut]))
 clear hx hk
 go_enter Tryz.func136,Tryz.ntmps136
 go_upto_region 1 with fail
 go_wp2_with fail
 go_loopw [9] (fun iv wr=>iv=.int .i64 0∧Hold Zc none w wr [.ro (FrsIn ⟨fA,1,fc,[⟨fnm,false,⟨cA,cn,cc,cl⟩,⟨vA,vn,vc,vl⟩⟩]⟩)]) (fun iv _=>0)
 case atStart=>exact ⟨rfl,K0⟩
 case round=>
  clear K0
  obtain ⟨rfl,H⟩:=hrel
  obtain ⟨b,o,rfl,hb,hcl,hfin⟩:=FrsIn.at_ (H.ro 0 rfl).now (show [(⟨fnm,false,⟨cA,cn,cc,cl⟩,⟨vA,vn,vc,vl⟩⟩:Fr)][0]? =some _ from rfl)
  have c0:=hcl 0 _ (by omega) rfl
  have c1:=hcl 1 _ (by omega) rfl
  have c2:=hcl 2 _ (by omega) rfl
  have c3:=hcl 3 _ (by omega) rfl
  simp only [Nat.add_zero,Nat.zero_mul,SlP.v] at c0 c1 c2 c3
  clear hcl
  have HCL:=hid (show cl.length=cn from (RdC.ZW hfin.cols).len)
  have K1:=(H.Za #[.string fnm,.bool false,.slice cA cn cc,.slice vA vn vc] 231).add (S:=SlR 4 cA cn (Zf cl)) (((H.Za #[.string fnm,.bool false,.slice cA cn cc,.slice vA vn vc] 231).ro 1 rfl).imp fun w2 h2=>(h2.2 _ (Kl)).cols)
  obtain ⟨gF,hgF⟩:∃ g,g=wr.heap.size:=⟨_,rfl⟩
  rw [←hgF] at K1
  have F1:=K1.facts
  simp only [zg] at F1
  rw [hgF] at F1
  clear H hfin
  go_upto_region 5 with fail
  rw [←hgF] at F1 ⊢
  have HGF:=hid hgF
  clear hgF c0 c1 c2 c3
  generalize World.alloc _ _=w1 at K1 F1 ⊢
  go_wp2_with fail
  go_loopw [43] (fun iv wr=>∃ k:Nat,k≤cn∧iv=.int .i64 k∧Hid (Ze (named nm) cl=Zy (named nm) k (cl.drop k))∧Hold Zc none w wr [.ro (SlR 4 cA cn (Zf cl)),.ro (FrsIn ⟨some ⟨b,o,none⟩,1,fc,[⟨fnm,false,⟨cA,cn,cc,cl⟩,⟨vA,vn,vc,vl⟩⟩]⟩)]) (fun iv _=>cn - (intOf iv).toNat)
  case atStart=>exact ⟨0,by omega,rfl,hid rfl,K1.pick [0,2] (by decide) rfl⟩
  case round=>
   clear K1 F1
   obtain ⟨k,hk,rfl,HP,H⟩:=hrel
   by_cases hlt2:k<cn
   ·obtain ⟨⟨xnm,xty,xnn,xkey⟩,hcx⟩:=X4 HCL.out hlt2
    obtain ⟨b2,o2,rfl,hb2,x0,x1,x2,x3⟩:=(RdC.ZW (H.ro 0 rfl).now).at_ hcx
    simp only at x0 x1 x2 x3
    have K3:=H.Za #[.string xnm,.int .i64 xty,.bool xnn,.bool xkey] 124
    have F3:=K3.facts
    simp only [zg] at F3
    have HCX:=hid hcx
    clear hcx H
    obtain ⟨z,hz⟩:∃ z:Bool,(xnm.toList==nm.toList)=z:=⟨_,rfl⟩
    have HZ:=hid hz
    cases z
    ·have HP2:=hid (XZ HP.out HCX.out HZ.out)
     go_wp2_with fail
     go_roundw
     case rel=>exact ⟨k+1,by omega,by go_num,HP2,K3.drop (Kb _ _)⟩
     case measure=>simp [intOf];omega
    ·have HNM:=hid (show k=k0 from by
      have h:=Ww HP.out HCX.out HZ.out
      rw [HK.out] at h
      omega)
     go_wp2_with fail
     go_ret3
     exact ⟨by rw [HNM.out];rfl,K3.below⟩
   ·exfalso
    obtain rfl:cn=k:=by omega
    have h1:=XY HP.out (by rw [HCL.out];exact Kg _)
    rw [HK.out] at h1
    omega
def EvX (d:Nat) (fl:List Fr) (x:Ex) (v:Vl):Prop:=∀ (fA:Option Addr) (fc:Nat) (tA:Option Addr) (tn tc:Nat) (w:World),Ro w Zc (ExIn d x)→Ro w Zc (FrsIn ⟨fA,fl.length,fc,fl⟩)→Calls Tryz.prog 89 #[.agg #[.int .i64 x.kind,.int .i64 x.op,.bool x.nt,.int .i64 x.v.k,.int .i64 x.v.i,.string x.v.s,.string x.tab,.string x.nm,.slice x.A x.n x.c,.slice x.B x.m x.d],.slice fA fl.length fc,.slice tA tn tc] w fun e w' =>ExR w v e w'
theorem QX (d:Nat) (fl:List Fr) (v:Vl):EvX d fl (ZF v) v:=by
 intro fA fc tA tn tc w hx hf
 obtain ⟨vk,vi,vs⟩:=v
 have K0:=(Hold.start Zc w zn).Za #[.int .i64 1,.int .i64 0,.bool false,.int .i64 vk,.int .i64 vi,.string vs,.string ⟨#[]⟩,.string ⟨#[]⟩,.slice none 0 0,.slice none 0 0] 34|>.alloc #[.int .i64 0,.int .i64 0,.string ⟨#[]⟩] 30
 simp only [World.size_alloc] at K0
 obtain ⟨g1,hg1⟩:∃ g,g=w.heap.size:=⟨_,rfl⟩
 obtain ⟨g2,hg2⟩:∃ g,g=g1+1:=⟨_,rfl⟩
 rw [←hg1,←hg2] at K0
 clear hx hf
 dsimp only [ZF]
 go_enter Tryz.func89,Tryz.ntmps89
 go_upto_region 1 with fail
 rw [←hg1,←hg2]
 clear hg1 hg2
 generalize World.alloc _ _=w1 at K0 ⊢
 have F0:=K0.facts
 simp only [zg] at F0
 go_wp2_with fail
 refine (Ux (ZF ⟨vk,vi,vs⟩) _ ⟨rfl,.inl ⟨rfl,rfl⟩⟩).mono ?_
 rintro e w2 ⟨rfl,b2⟩
 have K1:=K0.call b2
 clear K0 F0 b2
 have F1:=K1.facts
 simp only [zg] at F1
 have KZ:=((K1.store 0 rfl 0 (.int .i64 vk)).store 0 rfl 1 (.int .i64 vi)).store 0 rfl 2 (.string vs)
 simp only [zl] at KZ
 have FZ:=KZ.facts
 simp only [zg] at FZ
 have HB:=hid KZ.below
 clear KZ
 go_wp2_with fail
 refine Lh (v:=.tuple #[.agg #[.int .i64 vk,.int .i64 vi,.string vs],.int .i64 0]) ?_ rfl ?_
 ·clear HB
  simp [results,Tryz.results89,go_sem,FZ]
 ·exact ⟨rfl,HB.out⟩
theorem ZgZ (d:Nat) (f:Fr) (nm:ByteArray) (k:Nat) (v:Vl) (hs:f.strict=false) (hc:f.cols.n≤1000) (hk:Ze (named nm) f.cols.l=k) (hv:f.vals.l[k]? =some v):EvX d [f] (ZU ⟨#[]⟩ nm) v:=by
 intro fA fc tA tn tc w hx hf
 obtain ⟨fnm,fst,⟨cA,cn,cc,cl⟩,⟨vA,vn,vc,vl⟩⟩:=f
 obtain ⟨vk,vi,vs⟩:=v
 have HR:=hid (KJ hs (KJ hc hk))
 have HV:=hid (show vl[k]? =some ⟨vk,vi,vs⟩ from hv)
 have K0:=((Hold.start Zc w zn).add (hf.less (by simp [Mut]))).Za #[.int .i64 2,.int .i64 0,.bool false,.int .i64 0,.int .i64 0,.string ⟨#[]⟩,.string ⟨#[]⟩,.string nm,.slice none 0 0,.slice none 0 0] 34|>.alloc #[.int .i64 0,.int .i64 0,.string ⟨#[]⟩] 30
 simp only [World.size_alloc] at K0
 obtain ⟨g1,hg1⟩:∃ g,g=w.heap.size:=⟨_,rfl⟩
 obtain ⟨g2,hg2⟩:∃ g,g=g1+1:=⟨_,rfl⟩
 rw [←hg1,←hg2] at K0
 clear hx hf hs hc hk hv
 dsimp only [ZU,vlZ,List.length_singleton] at K0 ⊢
 go_enter Tryz.func89,Tryz.ntmps89
 go_upto_region 1 with fail
 rw [←hg1,←hg2]
 clear hg1 hg2
 generalize World.alloc _ _=w1 at K0 ⊢
 have F0:=K0.facts
 simp only [zg] at F0
 go_wp2_with fail
 refine (Ux (ZU ⟨#[]⟩ nm) _ ⟨rfl,.inr (.inl ⟨rfl,rfl⟩)⟩).mono ?_
 rintro e w2 ⟨rfl,b2⟩
 have K1:=K0.call b2
 clear K0 F0 b2
 have F1:=K1.facts
 simp only [zg] at F1
 go_wp2_with fail
 refine (Zkw fA fc _ nm k _ ((K1.ro 2 rfl).less zn) HR.out.1 HR.out.2.1 HR.out.2.2).mono ?_
 rintro e w3 ⟨rfl,b3⟩
 have K2:=K1.call b3
 clear K1 F1 b3
 obtain ⟨b,o,rfl,hb,hcl,hfin⟩:=FrsIn.at_ (K2.ro 2 rfl).now (show [(⟨fnm,fst,⟨cA,cn,cc,cl⟩,⟨vA,vn,vc,vl⟩⟩:Fr)][0]? =some _ from rfl)
 have c3:=hcl 3 _ (by omega) rfl
 simp only [Nat.add_zero,Nat.zero_mul,SlP.v] at c3
 have hvl:vl.length=vn:=SlP.In.len (s:=⟨vA,vn,vc,vl⟩) (k:=3) (cel:=Vl.cells) (P:=fun _ _=>True) hfin.2 (by omega) (fun _=>rfl)
 have hkn:k<vn:=by rw [←hvl];exact (Kc.1 HV.out).1
 obtain ⟨b2,o2,e2,hb2,hc2,-⟩:=SlP.In.at_ (s:=⟨vA,vn,vc,vl⟩) (k:=3) (cel:=Vl.cells) (P:=fun _ _=>True) hfin.2 (by omega) (fun _=>rfl) HV.out
 obtain rfl:vA=some ⟨b2,o2,none⟩:=e2
 have q0:=hc2 0 _ (by omega) rfl
 have q1:=hc2 1 _ (by omega) rfl
 have q2:=hc2 2 _ (by omega) rfl
 simp only [Nat.add_zero] at q0 q1 q2
 have k0:(0:Int)≤(k:Int):=by omega
 have k1:(k:Int)<(vn:Int):=by omega
 have k2:decide ((k:Int)≥(vn:Int))=false:=by simp;omega
 have k3:decide ((vn:Int)≤(k:Int))=false:=by simp;omega
 clear hcl hfin hvl hc2
 have F2:=K2.facts
 simp only [zg] at F2
 have KZ:=((K2.store 0 rfl 0 (.int .i64 vk)).store 0 rfl 1 (.int .i64 vi)).store 0 rfl 2 (.string vs)
 simp only [zl] at KZ
 have FZ:=KZ.facts
 simp only [zg] at FZ
 have HB:=hid KZ.below
 clear KZ K2
 go_wp2_with fail
 refine Lh (v:=.tuple #[.agg #[.int .i64 vk,.int .i64 vi,.string vs],.int .i64 0]) ?_ rfl ?_
 ·clear HB
  simp [results,Tryz.results89,go_sem,FZ]
 ·exact ⟨rfl,HB.out⟩
theorem Za8 (d:Nat) (fl:List Fr) (x:Ex) (vs:List Vl) (v:Vl) (hk:x.kind=5∨x.kind=7) (hsh:J7 x) (hn:x.args.length=x.n) (hl:vs.length=x.n) (ha:∀ (j:Nat) (a:Ex) (u:Vl),x.args[j]? =some a→vs[j]? =some u→EvX d fl a u)
  (hop:∀ (L:Option Addr) (lc:Nat) (w:World),Ro w Zc (VlsIn L x.n vs)→Calls Tryz.prog 138 #[.agg #[.int .i64 x.kind,.int .i64 x.op,.bool x.nt,.int .i64 x.v.k,.int .i64 x.v.i,.string x.v.s,.string x.tab,.string x.nm,.slice x.A x.n x.c,.slice x.B x.m x.d],.slice L x.n lc] w fun e w' =>ExR w v e w'):EvX (d+1) fl x v:=by
 intro fA fc tA tn tc w hx hf
 obtain ⟨kind,op,nt,⟨vk,vi,vsx⟩,tab,nm,A,n,c,args,B,m,dd,sub⟩:=x
 obtain rfl:m=0:=hsh.1
 have HN:=hid (show args.length=n from hn)
 have HL:=hid (show vs.length=n from hl)
 have hn3:n≤3:=by have h:=hsh.2;dsimp only at h;omega
 have hkk:kind=5∨kind=7:=hk
 have hz1:(kind==1)=false:=by rcases hkk with rfl|rfl<;>rfl
 have hz2:(kind==2)=false:=by rcases hkk with rfl|rfl<;>rfl
 have HS:=hid hsh
 have HA:=hid ha
 have HO:=hid hop
 have K0:=(((Hold.start Zc w zn).add (hf.less (by simp [Mut]))).add (hx.less (by simp [Mut,Hp.foot]))).Za #[.int .i64 kind,.int .i64 op,.bool nt,.int .i64 vk,.int .i64 vi,.string vsx,.string tab,.string nm,.slice A n c,.slice B 0 dd] 34|>.alloc #[.int .i64 0,.int .i64 0,.string ⟨#[]⟩] 30
 simp only [World.size_alloc] at K0
 obtain ⟨g1,hg1⟩:∃ g,g=w.heap.size:=⟨_,rfl⟩
 obtain ⟨g2,hg2⟩:∃ g,g=g1+1:=⟨_,rfl⟩
 rw [←hg1,←hg2] at K0
 clear hx hf hk hkk hsh hn hl ha hop
 dsimp only
 go_enter Tryz.func89,Tryz.ntmps89
 go_upto_region 1 with fail
 rw [←hg1,←hg2]
 clear hg1 hg2
 generalize World.alloc _ _=w1 at K0 ⊢
 have F0:=K0.facts
 simp only [zg] at F0
 go_wp2_with fail
 refine (Ux _ _ HS.out).mono ?_
 rintro e w2 ⟨rfl,b2⟩
 have K1:=(K0.call b2).nil 30 3
 clear K0 F0 b2
 have F1:=K1.facts
 simp only [zg] at F1
 go_wp2_with fail
 clear F1
 go_loopw [11,71] (fun ov iv wr=>∃ (j cap:Nat) (O:Option Addr),j≤n∧iv=.int .i64 j∧ov=.slice O j cap∧Hold Zc none w wr [.own 30 3 (.slice O j cap) j (ZH (vs.take j)),.blk g2 30 #[.int .i64 0,.int .i64 0,.string ⟨#[]⟩],.cst g1 34 #[.int .i64 kind,.int .i64 op,.bool nt,.int .i64 vk,.int .i64 vi,.string vsx,.string tab,.string nm,.slice A n c,.slice B 0 dd],.ro (ExIn (d+1) ⟨kind,op,nt,⟨vk,vi,vsx⟩,tab,nm,A,n,c,args,B,0,dd,sub⟩),.ro (FrsIn ⟨fA,fl.length,fc,fl⟩)]) (fun _ iv _=>n - (intOf iv).toNat)
 case atStart=>exact ⟨0,0,none,by omega,rfl,rfl,K1⟩
 case round=>
  clear K1
  obtain ⟨j,cap,O,hj,rfl,rfl,H⟩:=hrel
  by_cases hlt:j<n
  ·obtain ⟨y,hy⟩:=Q9 HN.out hlt
   obtain ⟨u,hu⟩:=Q9 HL.out hlt
   obtain ⟨qb,qo,rfl,hb,hc,-⟩:=(show ExsIn d A n args _ from (ExIn.succ.1 (H.ro 3 rfl).now).1).at_ hy
   have hm:=Ka hy
   have x0:=hc 0 _ (by omega) rfl
   have x1:=hc 1 _ (by omega) rfl
   have x2:=hc 2 _ (by omega) rfl
   have x3:=hc 3 _ (by omega) rfl
   have x4:=hc 4 _ (by omega) rfl
   have x5:=hc 5 _ (by omega) rfl
   have x6:=hc 6 _ (by omega) rfl
   have x7:=hc 7 _ (by omega) rfl
   have x8:=hc 8 _ (by omega) rfl
   have x9:=hc 9 _ (by omega) rfl
   simp only [Nat.add_zero] at x0 x1 x2 x3 x4 x5 x6 x7 x8 x9
   have HEV:=hid (HA.out j y u hy hu)
   have HU:=hid hu
   clear hc hy hu
   have K3:=H.Za #[.int .i64 y.kind,.int .i64 y.op,.bool y.nt,.int .i64 y.v.k,.int .i64 y.v.i,.string y.v.s,.string y.tab,.string y.nm,.slice y.A y.n y.c,.slice y.B y.m y.d] 34
   have F3:=K3.facts
   simp only [zg] at F3
   clear H
   go_wp2_with fail
   refine (HEV.out fA fc tA tn tc _ (((K3.ro 4 rfl).imp fun w2 h2=>(ExIn.succ.1 h2).1.2 y hm).less zn) ((K3.ro 5 rfl).less zn)).mono ?_
   rintro e w4 ⟨rfl,b4⟩
   have K4:=(K3.call b4).Za #[.int .i64 u.k,.int .i64 u.i,.string u.s] 30
   clear K3 F3 b4 x0 x1 x2 x3 x4 x5 x6 x7 x8 x9 hm
   have F4:=K4.facts
   simp only [zg] at F4
   obtain ⟨uk,ui,us⟩:=u
   dsimp only at K4 F4 HEV ⊢
   go_wp2_with (at_builtin;go_must (refine ZJ K4 2 rfl Tryz.Xz #[.int .i64 uk,.int .i64 ui,.string us] rfl (.tmp 86) (.tmp 88) rfl rfl _ (by first|rfl|simp) rfl rfl (by intro u hu;simp at hu;rcases hu with rfl|rfl|rfl<;>rfl) (by omega) (by omega) ?_);intro gA capA wA hcA hmA KA;rw [show ZH (vs.take j)++(#[.int .i64 uk,.int .i64 ui,.string us]:Array Value).toList=ZH (vs.take (j+1)) by rw [Kq,HU.out];simp [ZH,Vl.cells]] at KA;simp only [zl] at KA)
   go_roundw
   case rel=>exact ⟨j+1,capA,_,by omega,by go_num,by first|rfl|trivial,KA.drop ((Kb _ _).cons _)⟩
   case measure=>simp [intOf];omega
  ·obtain rfl:n=j:=by omega
   rw [Kh (by rw [HL.out];exact Kg _)] at H
   have KS:=H.Zq 0 rfl
   simp only [List.set_cons_zero] at KS
   clear H
   have FS:=KS.facts
   simp only [zg] at FS
   go_wp2_with fail
   refine (HO.out O cap _ ((KS.ro 0 rfl).less zn)).mono ?_
   rintro e w5 ⟨rfl,b5⟩
   have K5:=KS.call b5
   clear KS FS b5
   obtain ⟨rk,ri,rs⟩:=v
   dsimp only at HO ⊢
   have F5:=K5.facts
   simp only [zg] at F5
   have KZ:=((K5.store 1 rfl 0 (.int .i64 rk)).store 1 rfl 1 (.int .i64 ri)).store 1 rfl 2 (.string rs)
   simp only [zl] at KZ
   have FZ:=KZ.facts
   simp only [zg] at FZ
   have HB:=hid KZ.below
   clear KZ K5
   go_wp2_with fail
   refine Lh (v:=.tuple #[.agg #[.int .i64 rk,.int .i64 ri,.string rs],.int .i64 0]) ?_ rfl ?_
   ·clear HB
    simp [results,Tryz.results89,go_sem,FZ]
   ·exact ⟨rfl,HB.out⟩
theorem Zg0 (d:Nat) (fl:List Fr) (g:Nat) (a b:Ex) (p q:Int) (ha:EvX d fl a (nV p)) (hb:EvX d fl b (nV q)) (h1:I64 p) (h2:I64 q) (hf:fit (p - q)=true):EvX (d+1) fl (opE 5 10 false g 2 [a,b]) (nV (p - q)):=
 Za8 d fl _ [nV p,nV q] _ (.inl rfl) ⟨rfl,.inr (.inr (.inl ⟨rfl,rfl,rfl⟩))⟩ rfl rfl (fun j x u hx hu=>by
  replace hx:([a,b]:List Ex)[j]? =some x:=hx
  rcases j with _|_|j
  ·obtain rfl:a=x:=Kz hx
   obtain rfl:nV p=u:=Kz hu
   exact ha
  ·obtain rfl:b=x:=Kz hx
   obtain rfl:nV q=u:=Kz hu
   exact hb
  ·simp at hx) (fun L lc w hl=>Zkk false vlZ _ _ _ _ _ _ _ _ L lc p q w hl h1 h2 hf)
theorem ZgY (d:Nat) (fl:List Fr) (g:Nat) (a b c:Ex) (p lo hi:Int) (ha:EvX d fl a (nV p)) (hb:EvX d fl b (nV lo)) (hc:EvX d fl c (nV hi)):EvX (d+1) fl (opE 7 0 false g 3 [a,b,c]) (tvB (decide (lo≤p)&&decide (p≤hi))):=
 Za8 d fl _ [nV p,nV lo,nV hi] _ (.inr rfl) ⟨rfl,.inr (.inr (.inr ⟨rfl,rfl⟩))⟩ rfl rfl (fun j x u hx hu=>by
  replace hx:([a,b,c]:List Ex)[j]? =some x:=hx
  rcases j with _|_|_|j
  ·obtain rfl:a=x:=Kz hx
   obtain rfl:nV p=u:=Kz hu
   exact ha
  ·obtain rfl:b=x:=Kz hx
   obtain rfl:nV lo=u:=Kz hu
   exact hb
  ·obtain rfl:c=x:=Kz hx
   obtain rfl:nV hi=u:=Kz hu
   exact hc
  ·simp at hx) (fun L lc w hl=>Zkl 0 false vlZ _ _ _ _ _ _ _ _ L lc p lo hi w hl)
def TrX (d:Nat) (fl:List Fr) (l:List Ex) (b:Bool):Prop:=l=[]∧b=true∨∃ x,l=[x]∧EvX d fl x (tvB b)
theorem Zdz (d:Nat) (fl:List Fr) (A:Option Addr) (n c:Nat) (l:List Ex) (r:Bool) (h:TrX d fl l r) (fA:Option Addr) (fc:Nat) (tA:Option Addr) (tn tc:Nat) (w:World) (hx:Ro w Zc (ExsIn d A n l)) (hf:Ro w Zc (FrsIn ⟨fA,fl.length,fc,fl⟩)):Calls Tryz.prog 48 #[.slice A n c,.slice fA fl.length fc,.slice tA tn tc] w fun e w' =>e=.returned (.tuple #[.bool r,.int .i64 0])∧Below w.heap.size w w' :=by
 have HLN:=hid (show l.length=n from hx.now.len)
 have K0:=((Hold.start Zc w zn).add (hf.less (by simp [Mut]))).add (hx.less (by simp [Mut,Hp.foot]))
 clear hx hf
 rcases h with ⟨rfl,rfl⟩|⟨x,rfl,hev⟩
 ·obtain rfl:0=n:=HLN.out
  go_enter Tryz.func48,Tryz.ntmps48
  go_wp2_with fail
  go_ret2
  exact ⟨rfl,K0.below⟩
 ·obtain rfl:1=n:=HLN.out
  have HEV:=hid hev
  clear hev
  obtain ⟨b,o,rfl,hb,hc,-⟩:=(K0.ro 0 rfl).now.at_ (show [x][0]? =some x from rfl)
  have x0:=hc 0 _ (by omega) rfl
  have x1:=hc 1 _ (by omega) rfl
  have x2:=hc 2 _ (by omega) rfl
  have x3:=hc 3 _ (by omega) rfl
  have x4:=hc 4 _ (by omega) rfl
  have x5:=hc 5 _ (by omega) rfl
  have x6:=hc 6 _ (by omega) rfl
  have x7:=hc 7 _ (by omega) rfl
  have x8:=hc 8 _ (by omega) rfl
  have x9:=hc 9 _ (by omega) rfl
  simp only [Nat.add_zero,Nat.zero_mul] at x0 x1 x2 x3 x4 x5 x6 x7 x8 x9
  clear hc
  go_enter Tryz.func48,Tryz.ntmps48
  go_wp2_with fail
  refine (HEV.out fA fc tA tn tc _ (((K0.ro 0 rfl).imp fun w2 h2=>h2.2 x (by simp)).less zn) ((K0.ro 1 rfl).less zn)).mono ?_
  rintro e w1 ⟨rfl,b1⟩
  have K1:=(K0.call b1).Za #[.int .i64 2,.int .i64 (bif r then 1 else 0),.string ⟨#[]⟩] 30
  clear K0 b1 x0 x1 x2 x3 x4 x5 x6 x7 x8 x9
  have F1:=K1.facts
  simp only [zg] at F1
  have e2:(tvB r)=⟨2,bif r then 1 else 0,⟨#[]⟩⟩:=rfl
  simp only [e2]
  obtain ⟨ti,hti⟩:∃ z:Int,(bif r then 1 else 0)=z:=⟨_,rfl⟩
  rw [hti] at K1 F1 ⊢
  have HTI:=hid hti
  clear hti e2
  go_wp2_with fail
  refine (Ju 2 ti ⟨#[]⟩ (Lc _) _).mono ?_
  rintro e w3 ⟨rfl,b3⟩
  have hlv:lvB 2 ti ⟨#[]⟩=true:=by rw [←HTI.out];cases r<;>decide+kernel
  rw [hlv]
  have K2:=K1.call b3
  clear K1 F1 b3 hlv
  have F2:=K2.facts
  simp only [zg] at F2
  go_wp2_with fail
  refine (Zke 2 ti ⟨#[]⟩ _).mono ?_
  rintro e w4 ⟨rfl,b4⟩
  have hlv:GV 2 ti ⟨#[]⟩=r:=by rw [←HTI.out];cases r<;>decide+kernel
  rw [hlv]
  have K3:=K2.call b4
  clear K2 F2 b4 hlv
  go_wp2_with fail
  go_ret2
  exact ⟨rfl,K3.below⟩
def VX (d:Nat) (x:Ex):Prop:=∀ (w:World),Ro w Zc (ExIn d x)→Calls Tryz.prog 168 #[.agg #[.int .i64 x.kind,.int .i64 x.op,.bool x.nt,.int .i64 x.v.k,.int .i64 x.v.i,.string x.v.s,.string x.tab,.string x.nm,.slice x.A x.n x.c,.slice x.B x.m x.d]] w fun e w' =>e=.returned (.bool true)∧Below w.heap.size w w'
theorem ZdD {d:Nat} (A:Option Addr) (n c:Nat) (l:List Ex) (w:World) (hx:Ro w Zc (ExsIn d A n l)) (h:∀ x∈l,VX d x) (hn:n≤1000):Calls Tryz.prog 131 #[.slice A n c] w fun e w' =>e=.returned (.bool true)∧Below w.heap.size w w' :=by
 have HLN:=hid (show l.length=n from hx.now.len)
 have K0:=(Hold.start Zc w zn).add (hx.less (by simp [Mut]))
 have HH:=hid h
 clear hx h
 go_enter Tryz.func131,Tryz.ntmps131
 go_wp2_with fail
 go_loopw [7] (fun iv wr=>∃ j:Nat,j≤n∧iv=.int .i64 j∧Hold Zc none w wr [.ro (ExsIn d A n l)]) (fun iv _=>n - (intOf iv).toNat)
 case atStart=>exact ⟨0,by omega,rfl,K0⟩
 case round=>
  clear K0
  obtain ⟨j,hj,rfl,H⟩:=hrel
  by_cases hlt:j<n
  ·obtain ⟨x,hx⟩:∃ c,l[j]? =some c:=⟨l[j]'(by rw [HLN.out];exact hlt),Ky _⟩
   have hm:=Ka hx
   obtain ⟨b,o,rfl,hb2,hc,-⟩:=(H.ro 0 rfl).now.at_ hx
   have x0:=hc 0 _ (by omega) rfl
   have x1:=hc 1 _ (by omega) rfl
   have x2:=hc 2 _ (by omega) rfl
   have x3:=hc 3 _ (by omega) rfl
   have x4:=hc 4 _ (by omega) rfl
   have x5:=hc 5 _ (by omega) rfl
   have x6:=hc 6 _ (by omega) rfl
   have x7:=hc 7 _ (by omega) rfl
   have x8:=hc 8 _ (by omega) rfl
   have x9:=hc 9 _ (by omega) rfl
   simp only [Nat.add_zero] at x0 x1 x2 x3 x4 x5 x6 x7 x8 x9
   clear hc hx
   have K2:=H.Za #[.int .i64 x.kind,.int .i64 x.op,.bool x.nt,.int .i64 x.v.k,.int .i64 x.v.i,.string x.v.s,.string x.tab,.string x.nm,.slice x.A x.n x.c,.slice x.B x.m x.d] 34
   have F2:=K2.facts
   simp only [zg] at F2
   clear H
   go_wp2_with fail
   refine (HH.out x hm _ (((K2.ro 1 rfl).imp fun w2 h2=>h2.2 x hm).less zn)).mono ?_
   rintro e w3 ⟨rfl,b3⟩
   have K3:=K2.call b3
   clear K2 F2 b3 x0 x1 x2 x3 x4 x5 x6 x7 x8 x9
   go_wp2_with fail
   go_roundw
   case rel=>exact ⟨j+1,by omega,by go_num,K3.drop (Kb _ _)⟩
   case measure=>simp [intOf];omega
  ·obtain rfl:n=j:=by omega
   have HB:=hid H.below
   go_wp2_with fail
   go_ret
   exact ⟨rfl,HB.out⟩
theorem Zkt (x:Ex) (w:World) (h1:x.v=vlZ) (h2:x.tab=⟨#[]⟩) (h3:x.nm=⟨#[]⟩):Calls Tryz.prog 201 #[.agg #[.int .i64 x.kind,.int .i64 x.op,.bool x.nt,.int .i64 x.v.k,.int .i64 x.v.i,.string x.v.s,.string x.tab,.string x.nm,.slice x.A x.n x.c,.slice x.B x.m x.d]] w fun e w' =>e=.returned (.bool true)∧Below w.heap.size w w' :=by
 obtain ⟨kind,op,nt,v,tab,nm,A,n,c,args,B,m,dd,sub⟩:=x
 obtain rfl:v=vlZ:=h1
 obtain rfl:tab=⟨#[]⟩:=h2
 obtain rfl:nm=⟨#[]⟩:=h3
 have K0:=(Hold.start Zc w zn).Za #[.int .i64 kind,.int .i64 op,.bool nt,.int .i64 0,.int .i64 0,.string ⟨#[]⟩,.string ⟨#[]⟩,.string ⟨#[]⟩,.slice A n c,.slice B m dd] 34
 dsimp only [vlZ]
 have F0:=K0.facts
 simp only [zg] at F0
 go_enter Tryz.func201,Tryz.ntmps201
 go_upto_region 1 with fail
 generalize World.alloc _ _=w1 at K0 F0 ⊢
 go_wp2_with fail
 go_ret
 exact ⟨rfl,K0.below⟩
theorem JP (d:Nat) (n:Int) (h0:0≤n):VX d (ZF (nV n)):=by
 intro w hx
 clear hx
 have K0:=(Hold.start Zc w zn).Za #[.int .i64 1,.int .i64 0,.bool false,.int .i64 1,.int .i64 n,.string ⟨#[]⟩,.string ⟨#[]⟩,.string ⟨#[]⟩,.slice none 0 0,.slice none 0 0] 34
 have hv:Z7 1 n ⟨#[]⟩=true:=by unfold Z7;rw [Lf (by decide),Lg rfl];decide+kernel
 have HV:=hid hv
 have h1:decide (n≥0)=true:=by simpa using h0
 have h2:decide (0≤n)=true:=by simpa using h0
 clear hv
 dsimp only [ZF,nV]
 go_enter Tryz.func168,Tryz.ntmps168
 go_upto_region 1 with fail
 have F0:=K0.facts
 simp only [zg] at F0
 generalize World.alloc _ _=w1 at K0 F0 ⊢
 go_wp2_with fail
 refine (Ux (ZF (nV n)) _ ⟨rfl,.inl ⟨rfl,rfl⟩⟩).mono ?_
 rintro e w2 ⟨rfl,b2⟩
 have K1:=K0.call b2
 clear K0 F0 b2
 have F1:=K1.facts
 simp only [zg] at F1
 go_wp2_with fail
 refine (ZcW 1 n ⟨#[]⟩ _).mono ?_
 rintro e w3 ⟨rfl,rfl⟩
 rw [HV.out]
 have K2:=K1.Za #[.int .i64 1,.int .i64 n,.string ⟨#[]⟩] 30
 clear K1 F1
 have F2:=K2.facts
 simp only [zg] at F2
 go_wp2_with fail
 go_ret
 exact ⟨rfl,K2.below⟩
theorem ZdH (d:Nat) (nm:ByteArray) (hn:Yf nm=true):VX d (ZU ⟨#[]⟩ nm):=by
 intro w hx
 clear hx
 have K0:=(Hold.start Zc w zn).Za #[.int .i64 2,.int .i64 0,.bool false,.int .i64 0,.int .i64 0,.string ⟨#[]⟩,.string ⟨#[]⟩,.string nm,.slice none 0 0,.slice none 0 0] 34
 have HV:=hid hn
 clear hn
 dsimp only [ZU,vlZ]
 go_enter Tryz.func168,Tryz.ntmps168
 go_upto_region 1 with fail
 have F0:=K0.facts
 simp only [zg] at F0
 generalize World.alloc _ _=w1 at K0 F0 ⊢
 go_wp2_with fail
 refine (Ux (ZU ⟨#[]⟩ nm) _ ⟨rfl,.inr (.inl ⟨rfl,rfl⟩)⟩).mono ?_
 rintro e w2 ⟨rfl,b2⟩
 have K1:=K0.call b2
 clear K0 F0 b2
 have F1:=K1.facts
 simp only [zg] at F1
 go_wp2_with fail
 refine (JA nm _).mono ?_
 rintro e w3 ⟨rfl,rfl⟩
 rw [HV.out]
 go_wp2_with fail
 go_ret
 exact ⟨rfl,K1.below⟩
theorem ZdI (d:Nat) (kind op:Int) (g k:Nat) (l:List Ex) (h:(kind=5∧op=10∧k=2)∨(kind=7∧op=0∧k=3)) (ha:∀ x∈l,VX d x):VX (d+1) (opE kind op false g k l):=by
 intro w hx
 have HSH:=hid (show J7 (opE kind op false g k l) from ⟨rfl,by
  rcases h with ⟨rfl,rfl,rfl⟩|⟨rfl,rfl,rfl⟩
  ·exact .inr (.inr (.inl ⟨rfl,rfl,rfl⟩))
  ·exact .inr (.inr (.inr ⟨rfl,rfl⟩))⟩)
 have hk:k≤3:=by omega
 have HA:=hid ha
 have K0:=((Hold.start Zc w zn).add (hx.less (by simp [Mut]))).Za #[.int .i64 kind,.int .i64 op,.bool false,.int .i64 0,.int .i64 0,.string ⟨#[]⟩,.string ⟨#[]⟩,.string ⟨#[]⟩,.slice (some ⟨g,0,none⟩) k k,.slice none 0 0] 34
 clear hx ha
 dsimp only [opE,vlZ]
 rcases h with ⟨rfl,rfl,rfl⟩|⟨rfl,rfl,rfl⟩
 all_goals
  go_enter Tryz.func168,Tryz.ntmps168
  go_upto_region 1 with fail
  have F0:=K0.facts
  simp only [zg] at F0
  generalize World.alloc _ _=w1 at K0 F0 ⊢
  go_wp2_with fail
  refine (Ux _ _ HSH.out).mono ?_
  rintro e w2 ⟨rfl,b2⟩
  have K1:=K0.call b2
  clear K0 F0 b2
  have F1:=K1.facts
  simp only [zg] at F1
  go_wp2_with fail
  refine (Zkt (opE _ _ false g _ l) _ rfl rfl rfl).mono ?_
  rintro e w3 ⟨rfl,b3⟩
  have K2:=K1.call b3
  clear K1 F1 b3
  have F2:=K2.facts
  simp only [zg] at F2
  go_wp2_with fail
  refine (ZdD _ _ _ l _ (((K2.ro 1 rfl).imp fun w2 h2=>(ExIn.succ.1 h2).1).less zn) HA.out (by first|decide|simp [opE])).mono ?_
  rintro e w4 ⟨rfl,b4⟩
  have K3:=K2.call b4
  clear K2 F2 b4
  have F3:=K3.facts
  simp only [zg] at F3
  go_wp2_with fail
  go_loopw [101] (fun iv wr=>iv=.int .i64 0∧Hold Zc none w wr []) (fun _ _=>0)
  case atStart=>exact ⟨rfl,K3.pick [] (by decide) rfl⟩
  case round=>
   clear K3 F3
   obtain ⟨rfl,K4⟩:=hrel
   go_wp2_with fail
   go_ret
   exact ⟨rfl,K4.below⟩
theorem Zmk (d:Nat) (g c:Nat) (nm:ByteArray) (x:Ex) (w:World) (hx:Ro w Zc (SlP.In ⟨some ⟨g,0,none⟩,1,c,[⟨nm,x⟩]⟩ 11 Se.cells (Yq d))) (hv:VX d x) (hn:Yf nm=true) (hc:1≤c):Calls Tryz.prog 133 #[.slice (some ⟨g,0,none⟩) 1 c] w fun e w' =>e=.returned (.bool true)∧Below w.heap.size w w' :=by
 have K0:=(Hold.start Zc w zn).add (hx.less (by simp [Mut]))
 have HV:=hid hv
 have HN:=hid hn
 clear hx hv hn
 go_enter Tryz.func133,Tryz.ntmps133
 go_wp2_with fail
 go_loopw [9] (fun iv wr=>∃ j:Nat,j≤1∧iv=.int .i64 j∧Hold Zc none w wr [.ro (SlP.In ⟨some ⟨g,0,none⟩,1,c,[⟨nm,x⟩]⟩ 11 Se.cells (Yq d))]) (fun iv _=>1 - (intOf iv).toNat)
 case atStart=>exact ⟨0,by omega,rfl,K0⟩
 case round=>
  clear K0
  obtain ⟨j,hj,rfl,H⟩:=hrel
  obtain rfl|rfl:j=0∨j=1:=by omega
  ·obtain ⟨xb,xo,xE,-,xh,xin⟩:=SlP.In.at_ (s:=⟨some ⟨g,0,none⟩,1,c,[⟨nm,x⟩]⟩) (k:=11) (cel:=Se.cells) (P:=Yq d) (H.ro 0 rfl).now (by omega) (fun _=>rfl) (show ([⟨nm,x⟩]:List Se)[0]? =some _ from rfl)
   obtain ⟨rfl,rfl⟩:=Gd (show some (⟨g,0,none⟩:Addr)=some ⟨xb,xo,none⟩ from xE)
   have x0:=xh 0 _ (by omega) rfl
   have x1:=xh 1 _ (by omega) rfl
   have x2:=xh 2 _ (by omega) rfl
   have x3:=xh 3 _ (by omega) rfl
   have x4:=xh 4 _ (by omega) rfl
   have x5:=xh 5 _ (by omega) rfl
   have x6:=xh 6 _ (by omega) rfl
   have x7:=xh 7 _ (by omega) rfl
   have x8:=xh 8 _ (by omega) rfl
   have x9:=xh 9 _ (by omega) rfl
   have x10:=xh 10 _ (by omega) rfl
   simp only [Nat.add_zero,Nat.zero_mul] at x0 x1 x2 x3 x4 x5 x6 x7 x8 x9 x10
   clear xh xE xin
   have K1:=H.Za #[.string nm,.int .i64 x.kind,.int .i64 x.op,.bool x.nt,.int .i64 x.v.k,.int .i64 x.v.i,.string x.v.s,.string x.tab,.string x.nm,.slice x.A x.n x.c,.slice x.B x.m x.d] 39
   have F1:=K1.facts
   simp only [zg] at F1
   go_upto_region 4 with fail
   clear x0 x1 x2 x3 x4 x5 x6 x7 x8 x9 x10 H
   generalize World.alloc _ _=w2 at K1 F1 ⊢
   go_wp2_with fail
   refine (JA nm _).mono ?_
   rintro e w3 ⟨rfl,rfl⟩
   rw [HN.out]
   go_wp2_with fail
   refine (HV.out _ (((K1.ro 1 rfl).imp fun w2 h2=>(show ExIn d x w2 from h2.2 _ (Kl))).less zn)).mono ?_
   rintro e w4 ⟨rfl,b4⟩
   have K2:=K1.call b4
   clear K1 F1 b4
   have F2:=K2.facts
   simp only [zg] at F2
   go_wp2_with fail
   go_loopw [28] (fun iv wr=>iv=.int .i64 0∧Hold Zc none w wr [.ro (SlP.In ⟨some ⟨g,0,none⟩,1,c,[⟨nm,x⟩]⟩ 11 Se.cells (Yq d))]) (fun _ _=>0)
   case atStart=>exact ⟨rfl,K2.pick [1] (by decide) rfl⟩
   case round=>
    clear K2 F2
    obtain ⟨rfl,H2⟩:=hrel
    go_wp2_with fail
    go_roundw
    case rel=>exact ⟨1,by omega,by go_num,H2⟩
    case measure=>simp [intOf]
  ·go_wp2_with fail
   go_ret
   exact ⟨rfl,H.below⟩
structure UpA (d:Nat) (a:Ac) (nm:ByteArray) (x:Ex):Prop where
 kind:a.kind=2
 tab:Yf a.tab=true
 ne:a.tab.toList≠[]
 rows:a.rows.n=0
 qs:a.qs.n=0
 sets:∃ g c,1≤c∧a.sets=⟨some ⟨g,0,none⟩,1,c,[⟨nm,x⟩]⟩
 vx:VX d x
 name:Yf nm=true
 wh:a.wh.n≤1
 wv:∀ y∈a.wh.l,VX d y
 text:a.text=⟨#[]⟩
theorem Zmf (d:Nat) (a:Ac) (nm:ByteArray) (x:Ex) (w:World) (hx:Ro w Zc (AcIn d a)) (h:UpA d a nm x):Calls Tryz.prog 88 #[.agg #[.int .i64 a.kind,.string a.tab,.slice a.rows.A a.rows.n a.rows.c,.slice a.qs.A a.qs.n a.qs.c,.slice a.sets.A a.sets.n a.sets.c,.slice a.wh.A a.wh.n a.wh.c,.string a.text]] w fun e w' =>e=.returned (.bool true)∧Below w.heap.size w w' :=by
 obtain ⟨kind,tab,⟨rA,rn,rc,rl⟩,⟨qA,qn,qc,ql⟩,⟨sA,sn,sc,sl⟩,⟨hA,hn,hc,hl⟩,text⟩:=a
 obtain ⟨h1,h2,h2n,h3,h4,⟨g,c,hc1,h5⟩,h6,h7,h8,h9,h10⟩:=h
 obtain rfl:kind=2:=h1
 obtain rfl:rn=0:=h3
 obtain rfl:qn=0:=h4
 obtain rfl:text=⟨#[]⟩:=h10
 obtain ⟨rfl,rfl,rfl,rfl⟩:sA=some ⟨g,0,none⟩∧sn=1∧sc=c∧sl=[⟨nm,x⟩]:=by
  simp only [SlP.mk.injEq] at h5
  exact h5
 have hh:hn≤1:=h8
 have HT:=hid (show Yf tab=true from h2)
 have ht:(tab.toList==([]:List UInt8))=false:=beq_eq_false_iff_ne.2 h2n
 have ht2:(tab.toList !=([]:List UInt8))=true:=by simpa using h2n
 have HS:=hid (KJ h6 (KJ h7 hc1))
 have HW:=hid (show ∀ y∈hl,VX d y from h9)
 have K0:=((Hold.start Zc w zn).add (hx.less (by simp [Mut]))).Za #[.int .i64 2,.string tab,.slice rA 0 rc,.slice qA 0 qc,.slice (some ⟨g,0,none⟩) 1 sc,.slice hA hn hc,.string ⟨#[]⟩] 44
 clear hx h5 h2 h2n h6 h7 h8 h9
 dsimp only
 go_enter Tryz.func88,Tryz.ntmps88
 go_upto_region 1 with fail
 have F0:=K0.facts
 simp only [zg] at F0
 generalize World.alloc _ _=w1 at K0 F0 ⊢
 have hh1:decide ((hn:Int) > 1)=false:=by simp;omega
 have hh2:decide (1<hn)=false:=by simp;omega
 have hh3:decide ((1:Int)<(hn:Int))=false:=by simp;omega
 go_wp2_with fail
 refine (JA tab _).mono ?_
 rintro e w3 ⟨rfl,rfl⟩
 rw [HT.out]
 go_wp2_with fail
 refine (ZdD hA hn hc hl _ (((K0.ro 1 rfl).imp fun w2 h2=>(show ExsIn d hA hn hl w2 from h2.2.2.2)).less zn) HW.out (by omega)).mono ?_
 rintro e w4 ⟨rfl,b4⟩
 have K1:=K0.call b4
 clear K0 F0 b4
 have F1:=K1.facts
 simp only [zg] at F1
 go_wp2_with fail
 refine (Zmk d g sc nm x _ (((K1.ro 1 rfl).imp fun w2 h2=>h2.2.2.1).less zn) HS.out.1 HS.out.2.1 HS.out.2.2).mono ?_
 rintro e w5 ⟨rfl,b5⟩
 have K2:=K1.call b5
 clear K1 F1 b5
 go_wp2_with fail
 go_ret
 exact ⟨rfl,K2.below⟩
theorem ZkD (d:Nat) (a:Ac) (nm:ByteArray) (x:Ex) (w:World) (hx:Ro w Zc (AcIn d a)) (h:UpA d a nm x):Calls Tryz.prog 44 #[.agg #[.int .i64 a.kind,.string a.tab,.slice a.rows.A a.rows.n a.rows.c,.slice a.qs.A a.qs.n a.qs.c,.slice a.sets.A a.sets.n a.sets.c,.slice a.wh.A a.wh.n a.wh.c,.string a.text]] w fun e w' =>e=.returned (.bool true)∧Below w.heap.size w w' :=by
 have h1:a.kind=2:=h.kind
 have HG:=hid h
 have K0:=((Hold.start Zc w zn).add (hx.less (by simp [Mut]))).Za #[.int .i64 a.kind,.string a.tab,.slice a.rows.A a.rows.n a.rows.c,.slice a.qs.A a.qs.n a.qs.c,.slice a.sets.A a.sets.n a.sets.c,.slice a.wh.A a.wh.n a.wh.c,.string a.text] 44
 clear hx h
 have h2:decide (a.kind≥1)=true:=by simp;omega
 have h3:decide (a.kind≤3)=true:=by simp;omega
 have h4:decide (1≤a.kind)=true:=by simp;omega
 clear h1
 go_enter Tryz.func44,Tryz.ntmps44
 go_upto_region 1 with fail
 have F0:=K0.facts
 simp only [zg] at F0
 generalize World.alloc _ _=w1 at K0 F0 ⊢
 go_wp2_with fail
 refine (Zmf d a nm x _ ((K0.ro 1 rfl).less zn) HG.out).mono ?_
 rintro e w3 ⟨rfl,b3⟩
 have K1:=K0.call b3
 clear K0 F0 b3
 go_wp2_with fail
 go_ret
 exact ⟨rfl,K1.below⟩
end
end Go.Proofs.YtnmnkbnmollpmaaGreatDoor

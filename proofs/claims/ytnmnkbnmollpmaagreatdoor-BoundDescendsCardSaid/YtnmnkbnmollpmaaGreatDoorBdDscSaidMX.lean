import Derived.Test.YtnmnkbnmollpmaaGreatDoorBdDscSaidMR
import Derived.Test.YtnmnkbnmollpmaaGreatDoorBdDscSaidMU
set_option linter.unusedVariables false
set_option linter.unusedSimpArgs false
set_option maxHeartbeats 64000000
set_option maxRecDepth 100000
namespace Go.Proofs.YtnmnkbnmollpmaaGreatDoor
section
open Go.RowKit
def Zej (fl:List Fr) (nm:ByteArray) (w:World) (e:Ending) (w' :World):Prop:=∃ (i k:Nat) (ok:Bool),e=.returned (.tuple #[.int .i64 i,.int .i64 k,.bool ok])∧(ok=true→∃ f c,fl[i]? =some f∧f.cols.l[k]? =some c∧c.name=nm)∧Below w.heap.size w w'
theorem ZmE (fA:Option Addr) (fn fc:Nat) (fl:List Fr) (q nm:ByteArray) (w:World) (hx:Ro w Zc (FrsIn ⟨fA,fn,fc,fl⟩)) (hn:fn≤1000) (hc:∀ f∈fl,f.cols.n≤1000):Calls Tryz.prog 136 #[.slice fA fn fc,.string q,.string nm] w fun e w' =>Zej fl nm w e w' :=by
 have HLN:=hid (show fl.length=fn from FrsIn.len hx.now)
 have HC:=hid hc
 have K0:=(Hold.start Zc w zn).add (hx.less (by simp [Mut]))
 clear hx hc
 go_enter Tryz.func136,Tryz.ntmps136
 go_upto_region 1 with fail
 have hw0:IntKind.i64.wrap ((fn:Int) - 1)=(fn:Int) - 1:=IntWalk.i64_in _ (by omega)
 go_wp2_with fail
 go_loopw [9] (fun iv wr=>∃ (i:Int),-1≤i∧i<fn∧iv=.int .i64 i∧Hold Zc none w wr [.ro (FrsIn ⟨fA,fn,fc,fl⟩)]) (fun iv _=>(intOf iv+1).toNat)
 case atStart=>exact ⟨_,by omega,by omega,rfl,K0⟩
 case round=>
  clear K0 hw0
  obtain ⟨i,hi,hi2,rfl,H⟩:=hrel
  by_cases hlt:0≤i
  ·obtain ⟨j,rfl⟩:∃ j:Nat,i=(j:Int):=⟨i.toNat,by omega⟩
   have hj:j<fn:=by omega
   have hwi:IntKind.i64.wrap ((j:Int) - 1)=(j:Int) - 1:=IntWalk.i64_in _ (by omega)
   obtain ⟨⟨fnm,fst,⟨cA,cn,cc,cl⟩,⟨vA,vn,vc,vl⟩⟩,hfx⟩:=Q9 HLN.out hj
   obtain ⟨b,o,rfl,hb,hcl,hfin⟩:=FrsIn.at_ (H.ro 0 rfl).now hfx
   have c0:=hcl 0 _ (by omega) rfl
   have c1:=hcl 1 _ (by omega) rfl
   have c2:=hcl 2 _ (by omega) rfl
   have c3:=hcl 3 _ (by omega) rfl
   simp only [Nat.add_zero,SlP.v] at c0 c1 c2 c3
   have hcn:cn≤1000:=HC.out _ (Ka hfx)
   have HFX:=hid hfx
   clear hcl hfx
   have HCL:=hid (show cl.length=cn from (RdC.ZW hfin.cols).len)
   have K1:=(H.Za #[.string fnm,.bool fst,.slice cA cn cc,.slice vA vn vc] 231).add (S:=SlR 4 cA cn (Zf cl)) (((H.Za #[.string fnm,.bool fst,.slice cA cn cc,.slice vA vn vc] 231).ro 1 rfl).imp fun w2 h2=>(h2.2 _ (Ka HFX.out)).cols)
   obtain ⟨gF,hgF⟩:∃ g,g=wr.heap.size:=⟨_,rfl⟩
   rw [←hgF] at K1
   have F1:=K1.facts
   simp only [zg] at F1
   rw [hgF] at F1
   clear H hfin
   go_upto_region 5 with fail
   rw [←hgF] at F1 ⊢
   have HGF:=hid hgF
   clear hgF c0 c1 c2 c3
   generalize World.alloc _ _=w1 at K1 F1 ⊢
   obtain ⟨d1,h1⟩:∃ z:Bool,(q.toList==([]:List UInt8))=z:=⟨_,rfl⟩
   go_cut [39] (fun v wx=>∃ bb:Bool,v=.bool bb∧Hold Zc none w wx [.ro (SlR 4 cA cn (Zf cl)),.cst gF 231 #[.string fnm,.bool fst,.slice cA cn cc,.slice vA vn vc],.ro (FrsIn ⟨some ⟨b,o,none⟩,fn,fc,fl⟩)])
   case first=>
    go_wp2_with fail
    all_goals (go_meet;exact ⟨_,rfl,K1⟩)
   case rest=>
    obtain ⟨bb,rfl,K2⟩:=hcut
    clear K1 F1 h1
    have F2:=K2.facts
    simp only [zg] at F2
    cases bb
    ·go_wp2_with fail
     go_loopw [43] (fun iv wr=>∃ k:Nat,k≤cn∧iv=.int .i64 k∧Hold Zc none w wr [.ro (SlR 4 cA cn (Zf cl)),.ro (FrsIn ⟨some ⟨b,o,none⟩,fn,fc,fl⟩)]) (fun iv _=>cn - (intOf iv).toNat)
     case atStart=>exact ⟨0,by omega,rfl,K2.pick [0,2] (by decide) rfl⟩
     case round=>
      clear K2 F2
      obtain ⟨k,hk,rfl,H⟩:=hrel
      by_cases hlt2:k<cn
      ·obtain ⟨⟨xnm,xty,xnn,xkey⟩,hcx⟩:=X4 HCL.out hlt2
       obtain ⟨b2,o2,rfl,hb2,x0,x1,x2,x3⟩:=(RdC.ZW (H.ro 0 rfl).now).at_ hcx
       simp only at x0 x1 x2 x3
       have K3:=H.Za #[.string xnm,.int .i64 xty,.bool xnn,.bool xkey] 124
       have F3:=K3.facts
       simp only [zg] at F3
       have HCX:=hid hcx
       clear hcx H
       obtain ⟨z,hz⟩:∃ z:Bool,(xnm.toList==nm.toList)=z:=⟨_,rfl⟩
       cases z
       ·go_wp2_with fail
        go_roundw
        case rel=>exact ⟨k+1,by omega,by go_num,K3.drop (Kb _ _)⟩
        case measure=>simp [intOf];omega
       ·have HNM:=hid (show xnm=nm from Yc (beq_iff_eq.1 hz))
        go_wp2_with fail
        go_ret3
        exact ⟨j,k,true,rfl,fun _=>⟨_,_,HFX.out,HCX.out,HNM.out⟩,K3.below⟩
      ·obtain rfl:cn=k:=by omega
       go_wp2_with fail
       go_roundw
       case rel=>exact ⟨(j:Int) - 1,by omega,by omega,rfl,H.drop (Kb _ _)⟩
       case measure=>simp [intOf]
    ·go_wp2_with fail
     go_roundw
     case rel=>exact ⟨(j:Int) - 1,by omega,by omega,rfl,K2.pick [2] (by decide) rfl⟩
     case measure=>simp [intOf]
  ·go_wp2_with fail
   go_ret3
   exact ⟨0,0,false,rfl,fun h=>(nomatch h),H.below⟩
def Y8 (s:ByteArray) (x:Te):Bool:=decide (x.nm=s)
theorem ZiL {l:List Te} {s:ByteArray} {j:Nat} {x:Te} (h:(l.take j).find? (Y8 s)=none) (hx:l[j]? =some x) (hz:(x.nm.toList==s.toList)=false):(l.take (j+1)).find? (Y8 s)=none:=by
 have hn:Y8 s x=false:=decide_eq_false fun e=>by rw [e] at hz;simp at hz
 rw [Kq,hx,List.find?_append,h]
 simp [hn]
theorem ZiK {l:List Te} {s:ByteArray} {j:Nat} {x:Te} (h:(l.take j).find? (Y8 s)=none) (hx:l[j]? =some x) (hz:(x.nm.toList==s.toList)=true):l.find? (Y8 s)=some x:=by
 have hn:Y8 s x=true:=decide_eq_true (Yc (beq_iff_eq.1 hz))
 have hl:=(Kc.1 hx)
 have e:l=l.take j++x::l.drop (j+1):=by
  conv=>lhs;rw [←List.take_append_drop j l,Le hl.1,hl.2]
 rw [e,List.find?_append,h]
 simp [hn]
def Zes (w:World) (M:Nat→Prop) (l:List Te) (s0:ByteArray) (e:Ending) (w' :World):Prop:=∃ (s:Sm) (ok:Bool),e=.returned (.tuple #[.agg #[.string s.nm,.slice s.cols.A s.cols.n s.cols.c],.bool ok])∧s.cols.n≤1000∧(ok=true→∃ x∈l,x.n=s.cols.n)∧(l.find? (Y8 s0)=none∧ok=false∨∃ x,l.find? (Y8 s0)=some x∧ok=true∧s.cols.l=x.cs∧s.nm=x.nm)∧Ro w' M (J8 s)∧Below w.heap.size w w'
theorem ZcQ (M:Nat→Prop) (w:World) (hM:∀ b,M b→b<w.heap.size) (A:Option Addr) (n c:Nat) (l:List Te) (s:ByteArray) (hD:Ro w M (TesIn A n l)) (hn:n≤1000) (hc:∀ x∈l,x.n≤1000):Calls Tryz.prog 64 #[.slice A n c,.string s] w fun e w' =>Zes w M l s e w' :=by
 have HLN:=hid (show l.length=n from hD.now.len)
 have HC:=hid hc
 have K0:=((Hold.start M w hM).add (hD.less (by simp [Mut]))).alloc #[.string ⟨#[]⟩,.slice none 0 0] 66
 obtain ⟨gr,hgr⟩:∃ g,g=w.heap.size:=⟨_,rfl⟩
 rw [←hgr] at K0
 clear hD hc
 go_enter Tryz.func64,Tryz.ntmps64
 go_wp2_with fail
 rw [←hgr]
 have HGR:=hid hgr
 clear hgr
 go_loopw [11] (fun iv wr=>∃ j:Nat,j≤n∧iv=.int .i64 j∧Hid ((l.take j).find? (Y8 s)=none)∧Hold M none w wr [.blk gr 66 #[.string ⟨#[]⟩,.slice none 0 0],.ro (TesIn A n l)]) (fun iv _=>n - (intOf iv).toNat)
 case atStart=>exact ⟨0,by omega,rfl,hid rfl,K0⟩
 case round=>
  clear K0
  obtain ⟨j,hj,rfl,HP,H⟩:=hrel
  by_cases hlt:j<n
  ·obtain ⟨x,hx⟩:=Zl HLN.out hlt
   obtain ⟨b,o,rfl,hb,c0,c1,c2,c3,-⟩:=(H.ro 1 rfl).now.at_ hx
   have hxn:x.n≤1000:=HC.out x (Ka hx)
   have HX:=hid hx
   clear hx
   have K1:=H.Za #[.string x.nm,.slice x.A x.n x.c,.int .i64 x.nx,.slice x.B x.m x.d] 69
   have F1:=K1.facts
   simp only [zg] at F1
   obtain ⟨z,hz⟩:∃ z:Bool,(x.nm.toList==s.toList)=z:=⟨_,rfl⟩
   clear H
   have HZ:=hid hz
   cases z
   ·have HN:=hid (ZiL HP.out HX.out HZ.out)
    go_wp2_with fail
    go_roundw
    case rel=>exact ⟨j+1,by omega,by go_num,HN,K1.drop (Kb _ _)⟩
    case measure=>simp [intOf];omega
   ·have HF:=hid (ZiK HP.out HX.out HZ.out)
    obtain ⟨xnm,xA,xn,xc,xcs,xnx,xB,xm,xd,xl⟩:=x
    have hxn:xn≤1000:=hxn
    go_upto_region 6 with fail
    have KA:=(K1.add (S:=ColsIn xA xn xcs) ((K1.ro 2 rfl).imp fun w2 h2=>(h2.2 _ (Ka HX.out)).1)).alloc #[.string xnm,.slice xA xn xc] 66
    obtain ⟨g8,hg8⟩:∃ g,g=wr.heap.size+1:=⟨_,rfl⟩
    rw [KP,←hg8] at KA
    rw [←hg8]
    have HG8:=hid hg8
    clear hg8
    have FA:=KA.facts
    simp only [zg] at FA
    clear K1 F1 c0 c1 c2 c3
    have KN:=KA.nil 124 4
    have HSL:=hid (show SlR 4 xA xn (Zf xcs) _ from (KN.ro 2 rfl).now)
    clear KA
    go_wp2_with (at_builtin;go_must (refine ZX KN 0 rfl Tryz.U6 HSL.out rfl (.const (.slice none 0 0)) (.tmp 23) rfl rfl rfl (Ji xcs) (by omega) (by omega) ?_);intro C1 cap1 wA hcA hmA KB;simp only [Nat.zero_add] at hcA ⊢;simp only [Nat.zero_add,List.nil_append,List.set_cons_zero,List.set_cons_succ] at KB;(have KS:=KB.Zq 0 rfl);simp only [List.set_cons_zero] at KS;(have K3:=KS.store 1 rfl 1 (.slice C1 xn cap1));simp only [zl] at K3;(have K4:=(K3.store 4 rfl 0 (.string xnm)).store 4 rfl 1 (.slice C1 xn cap1));simp only [zl] at K4;(have FS:=KS.facts);simp only [zg] at FS;(have F3:=K3.facts);simp only [zg] at F3;(have F4:=K4.facts);simp only [zg] at F4)
    have HR:=hid ((K4.ro 0 rfl).less zm)
    have HB:=hid K4.below
    clear K4 K3 KS KB KN FA
    refine Lh (v:=.tuple #[.agg #[.string xnm,.slice C1 xn cap1],.bool true]) ?_ rfl ?_
    ·clear HR HB
     simp [results,Tryz.results64,go_sem,F4]
    ·exact ⟨⟨xnm,⟨C1,xn,cap1,xcs⟩⟩,true,rfl,hxn,fun _=>⟨_,Ka HX.out,rfl⟩,.inr ⟨_,HF.out,rfl,rfl,rfl⟩,HR.out.imp fun w2 h2=>⟨h2,fun _ _=>trivial⟩,HB.out⟩
  ·obtain rfl:n=j:=by omega
   have hNO:=HP.out
   rw [Kh (by rw [HLN.out];exact Kg _)] at hNO
   have HNO:=hid hNO
   clear hNO
   have K1:=(H.store 0 rfl 0 (.string ⟨#[]⟩)).store 0 rfl 1 (.slice none 0 0)
   simp only [zl] at K1
   have F0:=H.facts
   simp only [zg] at F0
   have F1:=K1.facts
   simp only [zg] at F1
   have HB:=hid K1.below
   clear K1 H
   go_wp2_with fail
   refine Lh (v:=.tuple #[.agg #[.string ⟨#[]⟩,.slice none 0 0],.bool false]) ?_ rfl ?_
   ·clear HB
    simp [results,Tryz.results64,go_sem,F1]
   ·exact ⟨⟨⟨#[]⟩,SlP.nil⟩,false,rfl,by simp [SlP.nil],fun h=>(nomatch h),.inl ⟨HNO.out,rfl⟩,fun w2 _ _=>SlP.YM 4 Col.cells (fun _ _=>True) w2,HB.out⟩
def Zec (w:World) (M:Nat→Prop) (fn:Nat) (fl:List Fr) (s:Sm) (V:SlP Vl) (e:Ending) (w' :World):Prop:=∃ (A:Option Addr) (c:Nat),e=.returned (.slice A (fn+1) c)∧Ro w' M (FrsIn ⟨A,fn+1,c,fl++[⟨s.nm,false,s.cols,V⟩]⟩)∧Below w.heap.size w w'
theorem Zkd (M:Nat→Prop) (w:World) (hM:∀ b,M b→b<w.heap.size) (fA:Option Addr) (fn fc:Nat) (fl:List Fr) (s:Sm) (V:SlP Vl) (hV:Ro w M (V.In 3 Vl.cells (fun _ _=>True))) (hf:Ro w M (FrsIn ⟨fA,fn,fc,fl⟩)) (hs:Ro w M (J8 s)) (hn:fn≤1000):Calls Tryz.prog 91 #[.slice fA fn fc,.agg #[.string s.nm,.slice s.cols.A s.cols.n s.cols.c],.slice V.A V.n V.c] w fun e w' =>Zec w M fn fl s V e w' :=by
 obtain ⟨snm,⟨cA,cn,cc,cl⟩⟩:=s
 obtain ⟨vA,vn,vc,vl⟩:=V
 have K0:=((((Hold.start M w hM).add (hV.less (by simp [Mut]))).add (hs.less (by simp [Mut,Hp.foot]))).add (hf.less (by simp [Mut,Hp.foot]))).Za #[.string snm,.slice cA cn cc] 66
 obtain ⟨gs,hgs⟩:∃ g,g=w.heap.size:=⟨_,rfl⟩
 rw [←hgs] at K0
 clear hf hs hV
 go_enter Tryz.func91,Tryz.ntmps91
 go_upto_region 1 with fail
 rw [←hgs]
 have HGS:=hid hgs
 clear hgs
 generalize World.alloc _ _=w1 at K0 ⊢
 have F0:=K0.facts
 simp only [zg] at F0
 have KN:=K0.nil 231 4
 have HSL:=hid (show SlR 4 fA fn (Qc fl) _ from (KN.ro 2 rfl).now.1)
 go_upto_region 2 with (at_builtin;go_must (refine ZX KN 0 rfl Tryz.Za4 HSL.out rfl (.const (.slice none 0 0)) (.tmp 8) rfl rfl rfl (ZiY fl) (by omega) (by omega) ?_);intro C1 cap1 wA hcA hmA KB;simp only [Nat.zero_add] at hcA ⊢;simp only [Nat.zero_add,List.nil_append,List.set_cons_zero,List.set_cons_succ] at KB)
 clear K0 F0 KN
 have KD:=KB.Za #[.string snm,.bool false,.slice cA cn cc,.slice vA vn vc] 231
 have FB:=KB.facts
 simp only [zg] at FB
 have FD:=KD.facts
 simp only [zg] at FD
 have E1:=hid (show SlR 4 (some ⟨wA.heap.size,0,none⟩) 1 [.string snm,.bool false,.slice cA cn cc,.slice vA vn vc] _ from ((ZO (KD.get 0 rfl) rfl:Ro _ _ _).now))
 clear KB
 go_wp2_with (at_builtin;go_must (refine ZX KD 1 rfl Tryz.Za4 E1.out rfl (.tmp 10) (.tmp 17) rfl rfl rfl (by intro u hu;simp at hu;rcases hu with rfl|rfl|rfl|rfl<;>rfl) (by omega) (by omega) ?_);intro G1 gc1 wB hcB hmB KE;simp only [zl] at KE)
 have KZ:=KE.Zq 1 rfl
 simp only [zl] at KZ
 have hR:Ro _ _ (FrsIn ⟨G1,fn+1,gc1,fl++[⟨snm,false,⟨cA,cn,cc,cl⟩,⟨vA,vn,vc,vl⟩⟩]⟩):=((KZ.ro 1 rfl).and ((KZ.ro 3 rfl).and ((KZ.ro 4 rfl).and (KZ.ro 5 rfl)))).imp fun w2 h2=>⟨by
   have h3:=h2.1
   have e:Qc fl++[.string snm,.bool false,.slice cA cn cc,.slice vA vn vc]=(fl++[(⟨snm,false,⟨cA,cn,cc,cl⟩,⟨vA,vn,vc,vl⟩⟩:Fr)]).flatMap Fr.cells:=by simp [Qc,Fr.cells,SlP.v]
   rw [e] at h3
   exact h3,fun x hx=>by
   have hx:x∈fl++[(⟨snm,false,⟨cA,cn,cc,cl⟩,⟨vA,vn,vc,vl⟩⟩:Fr)]:=hx
   rcases Kk.1 hx with hx|hx
   ·exact h2.2.1.2 x hx
   ·simp only [List.mem_cons,List.not_mem_nil,or_false] at hx
    subst hx
    exact ⟨h2.2.2.1,h2.2.2.2⟩⟩
 have HR:=hid (hR.less zm)
 have HB:=hid KZ.below
 clear KZ KE KD hR FD
 go_wp2_with fail
 go_ret
 exact ⟨_,_,rfl,HR.out,HB.out⟩
def Wz (l:List Tb) (k:Nat):Bool:=match l[k]? with
 | none=>true
 | some t=>Zh t.nm t.cs t.nx t.rs&&(k==0||match l[k - 1]? with|some p=>Op.bytesLess p.nm.toList t.nm.toList|none=>false)
def Y2 (l:List Tb):Bool:=decide (l.length≤6)&&(List.range l.length).all (Wz l)
theorem ZlB {l:List Tb} (h:6<l.length):Y2 l=false:=by
 unfold Y2;rw [decide_eq_false (by omega)];rfl
theorem zH {l:List Tb} {k:Nat} (hk:k<l.length) (h:Wz l k=false):Y2 l=false:=by
 unfold Y2
 rw [List.all_eq_false.2 ⟨k,Ku.2 hk,by rw [h];simp⟩,Bool.and_false]
theorem Zdk {l:List Tb} {n:Nat} (hn:l.length=n) (h6:n≤6) (h:(List.range n).all (Wz l)=true):Y2 l=true:=by
 unfold Y2
 rw [hn,h,decide_eq_true h6];rfl
theorem Qn {p:Nat→Bool} {k:Nat} (h:(List.range k).all p=true) (hk:p k=true):(List.range (k+1)).all p=true:=by
 rw [List.range_succ,List.all_append,h];simp [hk]
theorem Zdh {l:List Tb} {k:Nat} {t:Tb} (h:l[k]? =some t) (hb:Zh t.nm t.cs t.nx t.rs=false):Wz l k=false:=by unfold Wz;rw [h];simp [hb]
theorem Zdi {l:List Tb} {t:Tb} (h:l[0]? =some t) (hb:Zh t.nm t.cs t.nx t.rs=true):Wz l 0=true:=by unfold Wz;rw [h];simp [hb]
theorem JD {l:List Tb} {j:Nat} {t p:Tb} (h:l[j+1]? =some t) (hp:l[j]? =some p) (hb:Zh t.nm t.cs t.nx t.rs=true):Wz l (j+1)=Op.bytesLess p.nm.toList t.nm.toList:=by
 unfold Wz
 rw [h,show j+1 - 1=j from rfl,hp]
 simp [hb]
theorem XE {l:List Te} {k:Nat} {x:Te} (h:l[k]? =some x):(l.map Te.tb)[k]? =some x.tb:=by rw [KQ,h];rfl
theorem ZcS (M:Nat→Prop) (w:World) (hM:∀ b,M b→b<w.heap.size) (A:Option Addr) (n c:Nat) (l:List Te) (hL:Ro w M (TesIn A n l)) (hok:∀ x∈l,x.ok∧TbM x.tb) (hn:n≤4611686018427387904):
  Calls Tryz.prog 29 #[.slice A n c] w fun e w' =>e=.returned (.bool (Y2 (l.map Te.tb)))∧Below w.heap.size w w' :=by
 have HL:=hid hL.now.len
 have HOK:=hid hok
 have K0:=(Hold.start M w hM).add (hL.less (by simp [Mut]))
 clear hok hL
 go_enter Tryz.func29,Tryz.ntmps29
 by_cases h6:6<n
 ·have hb:decide ((n:Int) > 6)=true:=by simp;omega
  have hb' :decide (6<n)=true:=by simp;omega
  have HN:=hid (ZlB (l:=l.map Te.tb) (by rw [Kj,HL.out];exact h6))
  clear h6
  go_wp2_with fail
  go_ret
  exact ⟨by rw [HN.out]<;>rfl,K0.below⟩
 have hb:decide ((n:Int) > 6)=false:=by simp;omega
 have hb' :decide (6<n)=false:=by simp;omega
 go_wp2_with fail
 clear hb hb'
 go_loopw [9] (fun iv wr=>∃ (k:Nat),k≤n∧iv=.int .i64 k∧Hid ((List.range k).all (Wz (l.map Te.tb))=true)∧Hold M none w wr [.ro (TesIn A n l)]) (fun iv _=>n - (intOf iv).toNat)
 case atStart=>exact ⟨0,by omega,rfl,hid rfl,K0⟩
 case round=>
  clear K0
  obtain ⟨k,hk,rfl,HR,H⟩:=hrel
  by_cases hlt:k<n
  ·have hdd:decide ((k:Int)<(n:Int))=true:=by simp;omega
   have i0:(0:Int)≤(k:Int):=by omega
   have i1:(k:Int)<(n:Int):=by omega
   obtain ⟨x,hx⟩:=Zl HL.out hlt
   have HXT:=hid (XE hx)
   have HXO:=hid (HOK.out x (Ka hx)).1
   have HXM:=hid (HOK.out x (Ka hx)).2
   have hxr:Ro wr _ (YA x):=(H.ro 0 rfl).imp fun w2 h2=>h2.2 x (Ka hx)
   have HXB:=hid (show x.n≤9223372036854775807∧x.m≤4611686018427387904 from ⟨KI HXO.out.nc HXO.out.c,by
    have h1:=HXM.out.rs
    have h2:x.l.length=x.m:=hxr.now.2.len
    have h3:x.tb.rs.length=x.l.length:=Kj ..
    omega⟩)
   obtain ⟨g,o,rfl,hgb,c0,c1,c2,c3,-⟩:=(H.ro 0 rfl).now.at_ hx
   have HIX:=hid hx
   clear hx
   obtain ⟨VB,hVB⟩:∃ VB,Zh x.nm x.cs x.nx (x.l.map Rw.row)=VB:=⟨_,rfl⟩
   have HVB:=hid hVB
   clear hVB
   go_wp2_with fail
   clear c0 c1 c2 c3 hgb hxr
   obtain ⟨KL,hKL,KN⟩:=H.name
   have HF:Hid (∀ wv,Hold M none w wv KL→wv.cell? ⟨g,o+k * 4,none⟩=some (.string x.nm)∧wv.cell? ⟨g,o+k * 4+1,none⟩=some (.slice x.A x.n x.c)∧wv.cell? ⟨g,o+k * 4+2,none⟩=some (.int .i64 x.nx)∧wv.cell? ⟨g,o+k * 4+3,none⟩=some (.slice x.B x.m x.d)∧g<wv.heap.size):=hid fun wv HC=>by
    rw [hKL] at HC
    obtain ⟨g',o',e',hl,e0,e1,e2,e3,-⟩:=(HC.ro 0 rfl).now.at_ HIX.out
    obtain ⟨rfl,rfl⟩:g=g' ∧o=o' :=by injection e' with e';injection e' with a1 a2;exact ⟨a1,a2⟩
    exact ⟨e0,e1,e2,e3,hl⟩
   have HX:Hid (∀ wv,Hold M none w wv KL→Ro wv (Mut M KL) (YA x)):=hid fun wv HC=>by
    rw [hKL] at HC ⊢
    exact (HC.ro 0 rfl).imp fun w2 h2=>h2.2 x (Ka HIX.out)
   have HKL:=hid hKL
   have HKN:=KN
   obtain rfl|rfl:VB=false∨VB=true:=by cases VB<;>simp
   ·skip
    have HN:=hid (zH (by rw [Kj,HL.out];exact hlt) (Zdh HXT.out HVB.out))
    clear hKL H
    refine Lj (by kernel_rfl) ?_
    refine Zn 26 39 (KL) (spL [(16,IsV (.bool false))]) (by kernel_rfl) (by kernel_rfl) (by kernel_rfl) rfl ?_ (KN.drew) ?_
    ·exact Zd Yu (Zm _)
    simp only [zd,zp,List.getElem_toArray,List.getElem_cons_zero,List.getElem_cons_succ]
    repeat (refine' dv rfl rfl rfl (fun wv HC=>?_) ?_;rotate_left;(focus (obtain ⟨f0,f1,f2,f3,f4⟩:=HF.out _ HC;go_simp<;>rfl;done));simp only [zp])
    refine Zi 16 (IsV (.bool false)) (f:=57) (args:=#[.agg #[.string x.nm,.slice x.A x.n x.c,.int .i64 x.nx,.slice x.B x.m x.d]]) rfl rfl rfl rfl (fun wv=>?_) (fun wv HC hrm hD=>?_) ?_
    ·go_simp<;>rfl
    ·refine (VV _ wv HC.Zb x.nm x.A x.n x.c x.cs x.nx x.B x.m x.d x.l ((HX.out _ HC).imp fun w h=>h.1) ((HX.out _ HC).imp fun w h=>h.2) HXB.out.1 HXB.out.2 HXO.out.l HXM.out.nm HXM.out.cs).mono ?_
     rintro e w5 ⟨rfl,b5⟩
     exact ⟨_,rfl,by rw [HVB.out];rfl,HC.call b5,RM.below b5⟩
    rintro u_ wx HCx rfl
    clear HCx
    simp only [zp]
    repeat (first|(refine dw_skip rfl rfl rfl ?_;simp only [zp])|(refine' dv rfl rfl rfl (fun wv HC=>?_) ?_;rotate_left;(focus (go_simp<;>rfl;done));simp only [zp]))
    refine Zk ?_
    rintro wx9 HX9
    rintro _hrm _HG
    clear _hrm _HG
    rw [HKL.out] at HX9
    go_wp2_with fail
    go_ret
    exact ⟨by rw [HN.out]<;>rfl,HX9.below⟩
   ·skip
    have HVT:=hid HVB.out
    cases k with
    | zero=>
     have hz:decide (((0:Nat):Int) > 0)=false:=by decide
     (try simp only [Nat.zero_mul,Nat.add_zero] at HF)
     have HN:=hid (Qn HR.out (Zdi HXT.out HVT.out))
     clear hKL H
     refine Lj (by kernel_rfl) ?_
     refine Zn 26 39 (KL) (spL [(16,IsV (.bool true))]) (by kernel_rfl) (by kernel_rfl) (by kernel_rfl) rfl ?_ (KN.drew) ?_
     ·exact Zd Yu (Zm _)
     simp only [zd,zp,List.getElem_toArray,List.getElem_cons_zero,List.getElem_cons_succ]
     repeat (refine' dv rfl rfl rfl (fun wv HC=>?_) ?_;rotate_left;(focus (obtain ⟨f0,f1,f2,f3,f4⟩:=HF.out _ HC;go_simp<;>rfl;done));simp only [zp])
     refine Zi 16 (IsV (.bool true)) (f:=57) (args:=#[.agg #[.string x.nm,.slice x.A x.n x.c,.int .i64 x.nx,.slice x.B x.m x.d]]) rfl rfl rfl rfl (fun wv=>?_) (fun wv HC hrm hD=>?_) ?_
     ·go_simp<;>rfl
     ·refine (VV _ wv HC.Zb x.nm x.A x.n x.c x.cs x.nx x.B x.m x.d x.l ((HX.out _ HC).imp fun w h=>h.1) ((HX.out _ HC).imp fun w h=>h.2) HXB.out.1 HXB.out.2 HXO.out.l HXM.out.nm HXM.out.cs).mono ?_
      rintro e w5 ⟨rfl,b5⟩
      exact ⟨_,rfl,by rw [HVB.out];rfl,HC.call b5,RM.below b5⟩
     rintro u_ wx HCx rfl
     clear HCx
     simp only [zp]
     repeat (first|(refine dw_skip rfl rfl rfl ?_;simp only [zp])|(refine' dv rfl rfl rfl (fun wv HC=>?_) ?_;rotate_left;(focus (go_simp<;>rfl;done));simp only [zp]))
     refine Zk ?_
     rintro wx9 HX9
     rintro _hrm _HG
     clear _hrm _HG
     rw [HKL.out] at HX9
     go_wp2_with fail
     go_roundw
     case rel=>exact ⟨0+1,by omega,by go_num,HN,HX9⟩
     case measure=>simp [intOf];omega
    | succ j=>
     have hz:decide (((j+1:Nat):Int) > 0)=true:=by simp<;>omega
     have hz2:decide ((j:Int)+1 > 0)=true:=by simp<;>omega
     have s1:IntKind.i64.wrap (((j+1:Nat):Int) - 1)=(j:Int):=by rw [Kn];omega
     have s2:IntKind.i64.wrap ((j:Int)+1 - 1)=(j:Int):=by rw [Kn];omega
     have s3:IntKind.i64.wrap (j:Int)=(j:Int):=by rw [Kn];omega
     have j2:(0:Int)≤(j:Int):=by omega
     have j3:(j:Int)<(n:Int):=by omega
     have i2:(0:Int)≤(j:Int)+1:=by omega
     have i3:(j:Int)+1<(n:Int):=by omega
     obtain ⟨y,hy⟩:=Zl HL.out (show j<n by omega)
     have HYT:=hid (XE hy)
     have HIY:=hid hy
     clear hy
     have HP:Hid (∀ wv,Hold M none w wv KL→wv.cell? ⟨g,o+j * 4,none⟩=some (.string y.nm)∧g<wv.heap.size):=hid fun wv HC=>by
      rw [hKL] at HC
      obtain ⟨g',o',e',hl,e0,-⟩:=(HC.ro 0 rfl).now.at_ HIY.out
      obtain ⟨rfl,rfl⟩:g=g' ∧o=o' :=by injection e' with e';injection e' with a1 a2;exact ⟨a1,a2⟩
      exact ⟨e0,hl⟩
     clear hKL H
     cases hlt3:Op.bytesLess y.nm.toList x.nm.toList with
     | true=>
      have HN:=hid (Qn HR.out ((JD HXT.out HYT.out HVT.out).trans hlt3))
      refine Lj (by kernel_rfl) ?_
      refine Zn 26 39 (KL) (spL [(16,IsV (.bool true))]) (by kernel_rfl) (by kernel_rfl) (by kernel_rfl) rfl ?_ (KN.drew) ?_
      ·exact Zd Yu (Zm _)
      simp only [zd,zp,List.getElem_toArray,List.getElem_cons_zero,List.getElem_cons_succ]
      repeat (refine' dv rfl rfl rfl (fun wv HC=>?_) ?_;rotate_left;(focus (obtain ⟨f0,f1,f2,f3,f4⟩:=HF.out _ HC;go_simp<;>rfl;done));simp only [zp])
      refine Zi 16 (IsV (.bool true)) (f:=57) (args:=#[.agg #[.string x.nm,.slice x.A x.n x.c,.int .i64 x.nx,.slice x.B x.m x.d]]) rfl rfl rfl rfl (fun wv=>?_) (fun wv HC hrm hD=>?_) ?_
      ·go_simp<;>rfl
      ·refine (VV _ wv HC.Zb x.nm x.A x.n x.c x.cs x.nx x.B x.m x.d x.l ((HX.out _ HC).imp fun w h=>h.1) ((HX.out _ HC).imp fun w h=>h.2) HXB.out.1 HXB.out.2 HXO.out.l HXM.out.nm HXM.out.cs).mono ?_
       rintro e w5 ⟨rfl,b5⟩
       exact ⟨_,rfl,by rw [HVB.out];rfl,HC.call b5,RM.below b5⟩
      rintro u_ wx HCx rfl
      clear HCx
      simp only [zp]
      repeat (refine' dv rfl rfl rfl (fun wv HC=>?_) ?_;rotate_left;(focus (obtain ⟨f0,f1,f2,f3,f4⟩:=HF.out _ HC;obtain ⟨p0,p1⟩:=HP.out _ HC;go_simp<;>rfl;done));simp only [zp])
      refine Zk ?_
      rintro wx9 HX9
      rintro _hrm _HG
      clear _hrm _HG
      rw [HKL.out] at HX9
      go_wp2_with fail
      go_roundw
      case rel=>exact ⟨(j+1)+1,by omega,by go_num,HN,HX9⟩
      case measure=>simp [intOf];omega
     | false=>
      have HN:=hid (zH (by rw [Kj,HL.out];exact hlt) ((JD HXT.out HYT.out HVT.out).trans hlt3))
      refine Lj (by kernel_rfl) ?_
      refine Zn 26 39 (KL) (spL [(16,IsV (.bool true))]) (by kernel_rfl) (by kernel_rfl) (by kernel_rfl) rfl ?_ (KN.drew) ?_
      ·exact Zd Yu (Zm _)
      simp only [zd,zp,List.getElem_toArray,List.getElem_cons_zero,List.getElem_cons_succ]
      repeat (refine' dv rfl rfl rfl (fun wv HC=>?_) ?_;rotate_left;(focus (obtain ⟨f0,f1,f2,f3,f4⟩:=HF.out _ HC;go_simp<;>rfl;done));simp only [zp])
      refine Zi 16 (IsV (.bool true)) (f:=57) (args:=#[.agg #[.string x.nm,.slice x.A x.n x.c,.int .i64 x.nx,.slice x.B x.m x.d]]) rfl rfl rfl rfl (fun wv=>?_) (fun wv HC hrm hD=>?_) ?_
      ·go_simp<;>rfl
      ·refine (VV _ wv HC.Zb x.nm x.A x.n x.c x.cs x.nx x.B x.m x.d x.l ((HX.out _ HC).imp fun w h=>h.1) ((HX.out _ HC).imp fun w h=>h.2) HXB.out.1 HXB.out.2 HXO.out.l HXM.out.nm HXM.out.cs).mono ?_
       rintro e w5 ⟨rfl,b5⟩
       exact ⟨_,rfl,by rw [HVB.out];rfl,HC.call b5,RM.below b5⟩
      rintro u_ wx HCx rfl
      clear HCx
      simp only [zp]
      repeat (refine' dv rfl rfl rfl (fun wv HC=>?_) ?_;rotate_left;(focus (obtain ⟨f0,f1,f2,f3,f4⟩:=HF.out _ HC;obtain ⟨p0,p1⟩:=HP.out _ HC;go_simp<;>rfl;done));simp only [zp])
      refine Zk ?_
      rintro wx9 HX9
      rintro _hrm _HG
      clear _hrm _HG
      rw [HKL.out] at HX9
      go_wp2_with fail
      go_ret
      exact ⟨by rw [HN.out]<;>rfl,HX9.below⟩
  ·obtain rfl:k=n:=by omega
   have hdd:decide ((k:Int)<(k:Int))=false:=by simp
   have HN:=hid (Zdk (by rw [Kj];exact HL.out) (by omega) HR.out)
   go_wp2_with fail
   go_ret
   exact ⟨by rw [HN.out]<;>rfl,H.below⟩
end
section
open Go.RowKit Go.Shelf
attribute [local go_sem] Oper.semAt_some
set_option linter.unusedVariables false
set_option linter.unusedSimpArgs false
def Xj {α:Type} (f:Nat→α) (k:Nat):List α:=(List.range k).map f
theorem zR {α:Type} (f:Nat→α) (k:Nat):Xj f (k+1)=Xj f k++[f k]:=by simp [Xj,List.range_succ]
theorem ZdC {α:Type} (f:Nat→α) (k:Nat):(Xj f k).length=k:=by simp [Xj]
def KpB (n₀ Bs:Nat) (A B:World):Prop:=Below n₀ A B∧B.heap[Bs]? =A.heap[Bs]?
theorem KpB.trans {n₀ Bs:Nat} {A B C:World} (h:KpB n₀ Bs A B) (k:KpB n₀ Bs B C):KpB n₀ Bs A C:=⟨h.1.trans k.1,k.2.trans h.2⟩
def teZ:Te:=⟨⟨#[]⟩,none,0,0,[],0,none,0,0,[]⟩
def Uj (tl:List Te) (len k:Nat):Nat × Te:=(len - 1 - k,tl[len - 1 - k]?.getD teZ)
theorem ZeW (F:Fence) (n:Nat) (h8:F.fn 82) (hro:F.round=none) (hn:1≤n) (l Bs n₀ b off len cap:Nat) (tl:List Te) {α:Type} (ix:α→Nat) (te:α→Te) (f:Nat→α) (hf:∀ k,k<len→ix (f k)=len - 1 - k∧te (f k)=tl[len - 1 - k]?.getD teZ) (hl:len≤1000) (hb:b<n₀) (J Jx:List α→World→Prop)
  (hY:∀ pre x W,J pre W→pre.length<len→YieldAt F (n - 1) Tryz.prog l #[.int .i64 (ix x:Int),.agg #[.string (te x).nm,.slice (te x).A (te x).n (te x).c,.int .i64 (te x).nx,.slice (te x).B (te x).m (te x).d]] W fun e W' =>
   (e=.returned (.bool true)∧J (pre++[x]) W' ∧KpB n₀ Bs W W')∨(e=.returned (.bool false)∧Jx (pre++[x]) W'))
  (W:World) (hBs:Blk W Bs 49 #[.slice (some ⟨b,off,none⟩) len cap]) (hc:∀ j,j<len→W.cell? ⟨b,off+j * 4,none⟩=some (.string (tl[j]?.getD teZ).nm)∧W.cell? ⟨b,off+j * 4+1,none⟩=some (.slice (tl[j]?.getD teZ).A (tl[j]?.getD teZ).n (tl[j]?.getD teZ).c)∧W.cell? ⟨b,off+j * 4+2,none⟩=some (.int .i64 (tl[j]?.getD teZ).nx)∧W.cell? ⟨b,off+j * 4+3,none⟩=some (.slice (tl[j]?.getD teZ).B (tl[j]?.getD teZ).m (tl[j]?.getD teZ).d)) (h0:J [] W):
  CallsIn F n Tryz.prog 82 #[.func (.yield l) #[] #[],.pointer (some ⟨Bs,0,none⟩)] W fun e W' =>(∃ v,e=.returned v)∧
   ((∃ ys,ys=Xj f len∧J ys W')∨(∃ pre,(∃ k,k≤len∧pre=Xj f k)∧Jx pre W')):=by
 refine callsIn_of_wp Tryz.func82 rfl h8 ?_ hro
 simp only [Tryz.ntmps82,List.size_toArray,List.length_cons,List.length_nil,Nat.reduceAdd,Nat.reduceSub,Array.replicate_succ,Array.replicate_zero,List.push_toArray,List.append_toArray,List.nil_append,List.cons_append]
 have hBs0:=hBs.cell 0
 gi_wp2
 gi_loopw [3] (fun i wr=>∃ k:Nat,k≤len∧i=.int .i64 ((len:Int) - 1 - k)∧J (Xj f k) wr∧KpB n₀ Bs W wr)
  (fun i _=>(intOf i+1).toNat)
 case atStart=>exact ⟨0,Lc _,by first|rfl|go_num,h0,Below.refl _ _,rfl⟩
 case round=>
  obtain ⟨k,hk,rfl,hJs,hnx⟩:=hrel
  have hBs' :wr.cell? ⟨Bs,0,none⟩=some (.slice (some ⟨b,off,none⟩) len cap):=(show Blk wr Bs 49 #[.slice (some ⟨b,off,none⟩) len cap] from hnx.2.trans hBs).cell 0
  by_cases hlt:k<len
  ·obtain ⟨j,hj⟩:∃ j:Nat,j=len - 1 - k:=⟨_,rfl⟩
   have hji:(len:Int) - 1 - k=(j:Int):=by omega
   rw [hji]
   obtain ⟨fn,tmps,assign,body,hy,hR⟩:=hY _ (f k) wr hJs (by rw [ZdC];exact hlt)
   obtain ⟨c0,c1,c2,c3⟩:=hc j (by omega)
   have d0:=(hnx.1.cell (p:=⟨b,off+j * 4,none⟩) hb).trans c0
   have d1:=(hnx.1.cell (p:=⟨b,off+j * 4+1,none⟩) hb).trans c1
   have d2:=(hnx.1.cell (p:=⟨b,off+j * 4+2,none⟩) hb).trans c2
   have d3:=(hnx.1.cell (p:=⟨b,off+j * 4+3,none⟩) hb).trans c3
   clear c0 c1 c2 c3
   rw [(hf k hlt).1,(hf k hlt).2] at hy
   simp only [←hj] at hy
   have HJ:=hid hj
   have hw:IntKind.i64.wrap ((j:Int) - 1)=(j:Int) - 1:=by rw [Kn];omega
   have HK:=hid hlt
   have hjl:j<len:=by omega
   clear hj hji hlt hk
   gi_wp2
   refine hR.mono ?_
   rintro e W3 (⟨rfl,hJ3,hk3⟩|⟨rfl,hJx3⟩)
   ·gi_wp2
    go_roundw
    case rel=>exact ⟨k+1,by have:=HK.out;omega,by rw [show (j:Int) - 1=(len:Int) - 1 - ((k+1:Nat):Int) by have:=HJ.out;have:=HK.out;omega],by rw [zR];exact hJ3,hnx.trans hk3⟩
    case measure=>simp [intOf]
   ·gi_wp2
    refine Lh (results_none rfl _ _ _) rfl ?_
    exact ⟨⟨_,rfl⟩,.inr ⟨_,⟨k+1,by have:=HK.out;omega,(zR _ _).symm⟩,hJx3⟩⟩
  ·obtain rfl:k=len:=by omega
   gi_wp2
   go_end0
   exact ⟨⟨_,rfl⟩,.inl ⟨_,rfl,hJs⟩⟩
theorem KpB.put {n₀ Bs:Nat} {w:World} (hn:n₀≤w.heap.size) (hB:Bs<w.heap.size) (W:World) (l:Nat) (o o' :Obj) (hl:w.heap.size≤l) (h:W.heap[l]? =some o) (h1:o.isCells=false) (h2:o.isWalk=false):KpB n₀ Bs W (W.putObj l o'):=
 ⟨belowK_b hn W l o o' hl h h1 h2,(grownBy_putObj' W l o').block Bs (by have:=(KG.1 h).1;omega) (by intro e;injection e with e;omega)⟩
theorem ZeY (F:Fence) (n:Nat) (h8:F.fn 82) (hro:F.round=none) (hn:1≤n) (Bs n₀ b off len cap:Nat) (tl:List Te) {α:Type} (ix:α→Nat) (te:α→Te) (f:Nat→α) (hf:∀ k,k<len→ix (f k)=len - 1 - k∧te (f k)=tl[len - 1 - k]?.getD teZ) (hl:len≤1000) (hb:b<n₀) (w:World) (hBl:Bs<w.heap.size) (hn₀:n₀≤w.heap.size) (hBs:Blk w Bs 49 #[.slice (some ⟨b,off,none⟩) len cap]) (hc:∀ j,j<len→w.cell? ⟨b,off+j * 4,none⟩=some (.string (tl[j]?.getD teZ).nm)∧w.cell? ⟨b,off+j * 4+1,none⟩=some (.slice (tl[j]?.getD teZ).A (tl[j]?.getD teZ).n (tl[j]?.getD teZ).c)∧w.cell? ⟨b,off+j * 4+2,none⟩=some (.int .i64 (tl[j]?.getD teZ).nx)∧w.cell? ⟨b,off+j * 4+3,none⟩=some (.slice (tl[j]?.getD teZ).B (tl[j]?.getD teZ).m (tl[j]?.getD teZ).d)):
  SeqStopsK F n Tryz.prog 82 #[.pointer (some ⟨Bs,0,none⟩)] (fun x:α=>#[Value.int .i64 (ix x:Int),.agg #[.string (te x).nm,.slice (te x).A (te x).n (te x).c,.int .i64 (te x).nx,.slice (te x).B (te x).m (te x).d]]) (KpB n₀ Bs) (fun ys=>ys=Xj f len) (fun pre=>∃ k,k≤len∧pre=Xj f k) len w:=fun l J Jx W hW _ _ hY h0=>
 ZeW F n h8 hro hn l Bs n₀ b off len cap tl ix te f hf hl hb J Jx hY W ((hW.block Bs hBl).trans hBs) (fun j hj=>by
  obtain ⟨c0,c1,c2,c3⟩:=hc j hj
  have hbw:b<w.heap.size:=by omega
  exact ⟨(hW.cell (p:=⟨b,_,none⟩) hbw).trans c0,(hW.cell (p:=⟨b,_,none⟩) hbw).trans c1,(hW.cell (p:=⟨b,_,none⟩) hbw).trans c2,(hW.cell (p:=⟨b,_,none⟩) hbw).trans c3⟩) h0
theorem ZeX (F:Fence) (n:Nat) (h6:F.fn 40) (hro:F.round=none) (A:Option Addr) (len cap:Nat) (w:World):
  CallsIn F n Tryz.prog 40 #[.slice A len cap] w fun e w' =>e=.returned (.func (.func 82) #[] #[.pointer (some ⟨w.heap.size,0,none⟩)])∧w' =w.alloc (.cells #[.slice A len cap] 49):=by
 refine callsIn_of_wp Tryz.func40 rfl h6 ?_ hro
 simp only [Tryz.ntmps40,List.size_toArray,List.length_cons,List.length_nil,Nat.reduceAdd,Nat.reduceSub,Array.replicate_succ,Array.replicate_zero,List.push_toArray,List.append_toArray,List.nil_append,List.cons_append]
 gi_wp2
 go_ret
 exact ⟨rfl,rfl⟩
end
section
open Go.RowKit
end
end Go.Proofs.YtnmnkbnmollpmaaGreatDoor

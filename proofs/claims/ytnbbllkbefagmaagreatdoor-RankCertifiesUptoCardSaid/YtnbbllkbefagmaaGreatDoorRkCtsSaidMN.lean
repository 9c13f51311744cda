import Derived.Test.YtnbbllkbefagmaaGreatDoorRkCtsSaidML
import Derived.Test.YtnbbllkbefagmaaGreatDoorRkCtsSaidMJ
import Derived.Test.YtnbbllkbefagmaaGreatDoorRkCtsSaidMM
import Derived.Test.YtnbbllkbefagmaaGreatDoorRkCtsSaidMH
namespace Go.Proofs.YtnbbllkbefagmaaGreatDoor
open Go.RowKit
set_option linter.unusedVariables false
set_option linter.unusedSimpArgs false
def LsOk {α:Type} (k:Nat) (s:SlP α) (Q:α→Prop):Prop:=(s.n≤s.c∧s.c≤9223372036854775807)∧s.l.length≤k∧∀ x∈s.l,Q x
theorem LsOk.nil {α:Type} (k:Nat) (Q:α→Prop):LsOk k (SlP.nil:SlP α) Q:=⟨⟨Nat.le_refl _,by simp [SlP.nil]⟩,by simp [SlP.nil],fun z hz=>(nomatch hz)⟩
structure AcGd (d:Nat) (a:Ac):Prop where
 k:1≤a.kind∧a.kind≤5
 r:LsOk 8 a.rows (fun r=>LsOk 8 r (ExGd d))
 q:LsOk 1 a.qs (QuGd d)
 s:LsOk 8 a.sets (fun s=>ExGd d s.e)
 h:LsOk 1 a.wh (ExGd d)
theorem addr_eq {b o b2 o2:Nat} (h:some (⟨b,o,none⟩:Addr)=some ⟨b2,o2,none⟩):b=b2∧o=o2:=by
 injection h with h
 injection h with e1 e2
 exact ⟨e1,e2⟩
theorem Q6 {d:Nat} {l:List Ex} {y:Ex} (h:∀ x∈l,ExGd d x) (hy:ExGd d y):∀ x∈l++[y],ExGd d x:=fun x hx=>by
 rcases List.mem_append.1 hx with hx|hx
 ·exact h x hx
 ·simp only [List.mem_cons,List.not_mem_nil,or_false] at hx
  subst hx
  exact hy
def rwE (l:List (SlP Ex)):List Value:=l.flatMap fun r=>[r.v]
theorem Tryz.Zhr:ElemT Tryz.prog 93 37 1 24 (.slice none 0 0):=⟨Tryz.underlying93,by kernel_rfl,rfl,by omega⟩
theorem ZaM (z:Ex):∀ {l:List Ex} {k:Nat},k<l.length→(((((((((((Zl l).set (k * 10) (.int .i64 z.kind)).set (k * 10+1) (.int .i64 z.op)).set (k * 10+2) (.bool z.nt)).set (k * 10+3) (.int .i64 z.v.k)).set (k * 10+4) (.int .i64 z.v.i)).set (k * 10+5) (.string z.v.s)).set (k * 10+6) (.string z.tab)).set (k * 10+7) (.string z.nm)).set (k * 10+8) (.slice z.A z.n z.c)).set (k * 10+9) (.slice z.B z.m z.d))=Zl (l.set k z)
 | [],k,h=>by simp at h
 | x::l,0,h=>by simp [Zl,Ex.cells]
 | x::l,k+1,h=>by
  have ih:=ZaM z (l:=l) (k:=k) (by simpa using h)
  have e:∀ (ys:List Value) (j:Nat) (u:Value),(x.cells++ys).set (j+10) u=x.cells++ys.set j u:=fun ys j u=>by
   rw [List.set_append_right _ _ (by simp [Ex.cells])]
   simp [Ex.cells]
  have e0:Zl (x::l)=x.cells++Zl l:=by simp [Zl]
  have e1:Zl ((x::l).set (k+1) z)=x.cells++Zl (l.set k z):=by simp [Zl]
  rw [e0,e1,show (k+1) * 10=k * 10+10 by omega,e,show k * 10+10+1=(k * 10+1)+10 by omega,e,show k * 10+10+2=(k * 10+2)+10 by omega,e,show k * 10+10+3=(k * 10+3)+10 by omega,e,show k * 10+10+4=(k * 10+4)+10 by omega,e,show k * 10+10+5=(k * 10+5)+10 by omega,e,show k * 10+10+6=(k * 10+6)+10 by omega,e,show k * 10+10+7=(k * 10+7)+10 by omega,e,show k * 10+10+8=(k * 10+8)+10 by omega,e,show k * 10+10+9=(k * 10+9)+10 by omega,e,ih]
def Xq (l:List Se):List Value:=l.flatMap Se.cells
theorem Tryz.Zhk:ElemT Tryz.prog 95 128 11 152 (.agg #[.string ⟨#[]⟩,.int .i64 0,.int .i64 0,.bool false,.int .i64 0,.int .i64 0,.string ⟨#[]⟩,.string ⟨#[]⟩,.string ⟨#[]⟩,.slice none 0 0,.slice none 0 0]):=⟨Tryz.underlying95,by kernel_rfl,rfl,by omega⟩
def Gl (w:World) (T:Nat) (M:Nat→Prop) (d:Nat) (e:Ending) (w' :World):Prop:=∃ a:Ac,e=.returned a.val∧AcGd d a∧Ro w' M (AcIn d a)∧Tp w' T∧w.grownBy w' (some T)
theorem QuIn.le {d d' :Nat} {q:Qu} {w:World} (h:QuIn d q w) (hd:d≤d'):QuIn d' q w:=⟨⟨h.1.1,fun a ha=>(h.1.2 a ha).le hd⟩,h.2.1,fun a ha=>(h.2.2 a ha).le hd⟩
theorem QuGd.le {d d' :Nat} {q:Qu} (h:QuGd d q) (hd:d≤d'):QuGd d' q:=⟨h.1,h.2.1,fun a ha=>(h.2.2.1 a ha).le hd,fun a ha=>(h.2.2.2 a ha).le hd⟩
theorem GA {m:Nat} {p:Pl} (h:PlN (m+1) p) {s:Sm} (hs:s.cols.n≤100) {A:Option Addr} {c:Nat} (hc:p.fr.n+1≤c):PlN m (p.more s A c):=by
 have hn:=h.n
 refine ⟨⟨⟨hc,?_⟩,h.b.t,fun f hf=>?_,h.b.tc⟩,?_,fun _=>trivial⟩
 ·show p.fr.n+1≤100
  omega
 ·rcases List.mem_append.1 hf with hf|hf
  ·exact h.b.fc f hf
  ·simp only [List.mem_singleton] at hf
   subst hf
   exact hs
 ·show p.fr.n+1+m≤90
  omega
set_option maxRecDepth 100000 in
set_option maxHeartbeats 16000000 in
theorem Zbp {n:Nat} (HE:GE n) (M:Nat→Prop) (T:Nat) (w:World) (hM:∀ b,M b→b<w.heap.size) (ht:Tp w T) (hMT:∀ b,M b→T≤b) (p:Pl) (depth:Int) (hp:Ro w (Mut M [.tp T]) (Zg p)) (hW:Ro w (Mut M [.tp T]) Wds) (hT:1<T) (hB:PlN (n+1) p) (hd:depth≤n) (hd2:-100≤depth) (hs:0<p.tb.n):
  Calls Tryz.prog 159 #[.pointer (some ⟨T,0,none⟩),p.val,.int .i64 depth] w fun e w' =>Gl w T M (n+3) e w' :=by
 have HBM:=hid (fun (s:Sm) (hs:s.cols.n≤100) (A:Option Addr) (c:Nat) (hc:p.fr.n+1≤c)=>GA hB hs (A:=A) hc)
 have HB0:=hid hB
 have HBN:=hid (show PlN n p from ⟨hB.b,by have:=hB.n;omega,fun _=>trivial⟩)
 obtain ⟨⟨fA,fn,fc,fl⟩,⟨sA,sn,sc,sl⟩⟩:=p
 have HS:=hid (show 0<sn from hs)
 have KS:=((((Hold.YY M w T hM ht hMT).add hW).add (hp.less (by simp [ZG,Mut,Hp.foot]))).Za #[.slice fA fn fc,.slice sA sn sc] 177).alloc #[.int .i64 0,.string ⟨#[]⟩,.slice none 0 0,.slice none 0 0,.slice none 0 0,.slice none 0 0,.string ⟨#[]⟩] 97
 rw [World.size_alloc] at KS
 obtain ⟨gp,hgp⟩:∃ g,g=w.heap.size:=⟨_,rfl⟩
 rw [←hgp] at KS
 obtain ⟨gr,hgr⟩:∃ g,g=gp+1:=⟨_,rfl⟩
 rw [←hgr] at KS
 have hm90:n≤90∧fn≤90:=by have h1:fn+(n+1)≤90:=hB.n;omega
 have F0:=KS.facts
 simp only [zg] at F0
 rw [hgr,hgp] at F0
 simp only [Pl.val]
 clear hp hW hB hs
 go_enter Tryz.func159,Tryz.ntmps159
 go_wp2_with fail
 rw [←hgp]
 try rw [←hgr]
 have HG:=hid (And.intro hgp hgr)
 clear hgp hgr F0
 refine (Qs (Mut M _) T _ KS.Zc (KS.tp_ 4 rfl) (KS.get 4 rfl).2).mono ?_
 rintro e w1 ⟨tt,rfl,hT1,t1,g1⟩
 have K1:=Hold.Zf KS 4 rfl g1 t1
 clear KS g1 t1
 go_wp2_with fail
 refine (Ur (Mut M _) _ K1.Zc tt).mono ?_
 rintro e w2 ⟨cA,cn,cc,rfl,hcc,hc4,r1,b1⟩
 have hcl:1≤cn∧cn≤4:=by
  have h:=(show Rd w2 w2.heap.size 4 cA cn (Zd (ZP tt).2) from r1.now).1
  have h2:=Jr hT1
  have h3:(Zd (ZP tt).2).length=(ZP tt).2.length * 4:=Yu _ 4 (fun _=>rfl) _
  omega
 obtain ⟨bC,oC,eC,-,-⟩:=(show Rd w2 w2.heap.size 4 cA cn (Zd (ZP tt).2) from r1.now).2 (by omega)
 subst eC
 obtain ⟨snm,hsnm⟩:∃ x,x=(ZP tt).1:=⟨_,rfl⟩
 obtain ⟨cl,hcs⟩:∃ x,x=(ZP tt).2:=⟨_,rfl⟩
 rw [←hcs] at r1
 rw [←hsnm]
 have HLN:=hid (show cl.length=cn from (RdC.Zw r1.now).len)
 have K2:=((K1.call b1).add r1).alloc #[.string snm,.slice (some ⟨bC,oC,none⟩) cn cc] 49
 have F1:=(K1.call b1).facts
 simp only [zg] at F1
 have F2:=K2.facts
 simp only [zg] at F2
 clear K1 hsnm hcs r1 b1
 go_wp2_with fail
 obtain ⟨gs,hgs⟩:∃ g,g=w2.heap.size:=⟨_,rfl⟩
 rw [←hgs] at K2 ⊢
 have HGS:=hid hgs
 clear hgs F1 F2
 refine (UV (Mut M _) _ K2.Zc ⟨⟨fA,fn,fc,fl⟩,⟨sA,sn,sc,sl⟩⟩ ⟨snm,⟨some ⟨bC,oC,none⟩,cn,cc,cl⟩⟩ (K2.ro 4 rfl) ((K2.ro 1 rfl).imp fun w2 h2=>⟨h2,fun _ _=>trivial⟩) (by have:=hm90;show fn≤1000;omega)).mono ?_
 rintro e w5 ⟨A9,c9,rfl,hc9,ro9,hbl9⟩
 have HIN:=hid (HBM.out ⟨snm,⟨some ⟨bC,oC,none⟩,cn,cc,cl⟩⟩ (by show cn≤100;omega) A9 c9 hc9)
 simp only [Pl.val,Pl.more] at *
 obtain ⟨fl2,hfl2⟩:∃ l,l=fl++[(⟨snm,false,⟨some ⟨bC,oC,none⟩,cn,cc,cl⟩,SlP.nil⟩:Fr)]:=⟨_,rfl⟩
 rw [←hfl2] at ro9 HIN
 clear hfl2 HBM
 have K8:=((K2.call hbl9).add ro9).alloc #[.slice A9 (fn+1) c9,.slice sA sn sc] 177
 have F8a:=(K2.call hbl9).facts
 simp only [zg] at F8a
 have F8:=K8.facts
 simp only [zg] at F8
 clear K2 hbl9 ro9
 go_upto_region 3 with fail
 obtain ⟨gi,hgi⟩:∃ g,g=w5.heap.size:=⟨_,rfl⟩
 rw [←hgi] at K8 F8 ⊢
 have HGI:=hid hgi
 clear hgi F8a
 have K9:Hold M (some T) w _ [.blk gi 177 #[.slice A9 (fn+1) c9,.slice sA sn sc],.ro (Zg ⟨⟨A9,fn+1,c9,fl2⟩,⟨sA,sn,sc,sl⟩⟩),.blk gs 49 #[.string snm,.slice (some ⟨bC,oC,none⟩) cn cc],.ro (SlR 4 (some ⟨bC,oC,none⟩) cn (Zd cl)),.blk gr 97 #[.int .i64 0,.string ⟨#[]⟩,.slice none 0 0,.slice none 0 0,.slice none 0 0,.slice none 0 0,.string ⟨#[]⟩],.cst gp 177 #[.slice fA fn fc,.slice sA sn sc],.ro (Zg ⟨⟨fA,fn,fc,fl⟩,⟨sA,sn,sc,sl⟩⟩),.ro Wds,.tp T]:=K8.pick [0,1,2,3,4,5,6,7,8] (by decide) rfl
 obtain ⟨KL,hKL,K6⟩:=K9.name
 have H1:∀ wv:World,Hold M (some T) w wv KL→Blk wv gs 49 #[.string snm,.slice (some ⟨bC,oC,none⟩) cn cc]:=fun wv h=>by rw [hKL] at h;exact h.Zy 2 rfl
 have h4:KL[8]? =some (.tp T):=by rw [hKL];rfl
 have HH1:=hid H1
 have HH4:=hid h4
 have HKL:=hid hKL
 clear hKL H1 h4 K8 K9
 go_wp2_with fail
 clear F8
 refine wp_region_any (by kernel_rfl) ?_
 refine ZH 7 175 (KL) (spL [(25,fun u _=>Z6 3 u),(9,Yf (Mut M KL) (gi+1) 97 #[.int .i64 0,.string ⟨#[]⟩,.slice none 0 0,.slice none 0 0,.slice none 0 0,.slice none 0 0,.string ⟨#[]⟩])]) (by kernel_rfl) (by kernel_rfl) (by kernel_rfl) rfl ?_ (K6.drew) ?_
 ·exact Ze (fun _ _ _ _ h=>h) (Ze Wv (ZF _))
 simp only [zd,Act.put,List.getElem_toArray,List.getElem_cons_zero,List.getElem_cons_succ,zl]
 refine' dv rfl rfl rfl (fun wv HC=>?_) ?_;rotate_left
 · go_simp<;>rfl
 simp only [Act.put,zl]
 refine Yk 3 8 HH4.out 25 rfl rfl rfl rfl (fun wv=>?_) (fun r hr=>?_)
 ·go_simp<;>rfl
 have hwr:IntKind.i64.wrap (1+(r:Int))=1+r:=IntWalk.i64_in _ (by omega)
 iterate 2
  simp only [Act.put,zl]
  refine' dv rfl rfl rfl (fun wv HC=>?_) ?_;rotate_left
  · go_simp<;>rfl
 simp only [Act.put,zl]
 refine' dv rfl rfl rfl (fun wv HC=>?_) ?_;rotate_left
 ·obtain q0:=(HH1.out _ HC).cell 0;go_simp<;>rfl
 simp only [Act.put,zl]
 refine' dv rfl rfl rfl (fun wv HC=>?_) ?_;rotate_left
 · go_simp<;>rfl
 simp only [Act.put,zl]
 refine Ye #[.int .i64 0,.string ⟨#[]⟩,.slice none 0 0,.slice none 0 0,.slice none 0 0,.slice none 0 0,.string ⟨#[]⟩] 97 9 (Yf (Mut M KL) (gi+1) 97 #[.int .i64 0,.string ⟨#[]⟩,.slice none 0 0,.slice none 0 0,.slice none 0 0,.slice none 0 0,.string ⟨#[]⟩]) (fun g=>.pointer (some ⟨g,0,none⟩)) rfl rfl rfl rfl (fun wv=>?_) (fun wv HC hrm hD hro=>?_) ?_
 ·go_simp<;>rfl
 ·exact ⟨_,rfl,by have:=hrm.1;simp only [World.size_alloc,World.size_drew] at this;have:=HGI.out;omega,hro _ HC.Zc⟩
 rintro ga wg HCg hsl
 clear HCg hsl
 simp only [Act.put,zl]
 refine ZE ?_
 rintro wx2 HX
 rintro _hrm HGW
 have hu:Yf (Mut M KL) (gi+1) 97 #[.int .i64 0,.string ⟨#[]⟩,.slice none 0 0,.slice none 0 0,.slice none 0 0,.slice none 0 0,.string ⟨#[]⟩] (.pointer (some ⟨ga,0,none⟩)) wx2:=(Zp (d:=9) rfl).1 (HGW 6 _ rfl (by omega))
 clear HGW
 obtain ⟨ga',e',hg1,hg2⟩:=hu
 obtain rfl:ga=ga' :=by injection e' with e';injection e' with e';injection e'
 clear e'
 have HB:=Hold.WJ K6.drew HX _hrm (by simp only [World.size_alloc,World.size_drew];have:=HGI.out;omega) hg2.now
 rw [HKL.out] at HB
 clear HX _hrm hg2 K6 HH1 HH4 HKL
 have FA:=HB.facts
 simp only [zg] at FA
 have KA:=((((((HB.store 0 rfl 0 (.int .i64 (1+r))).store 0 rfl 1 (.string snm)).store 0 rfl 2 (.slice none 0 0)).store 0 rfl 3 (.slice none 0 0)).store 0 rfl 4 (.slice none 0 0)).store 0 rfl 5 (.slice none 0 0)).store 0 rfl 6 (.string ⟨#[]⟩)
 simp only [zl] at KA
 have F:=KA.facts
 simp only [zg] at F
 clear HB
 go_upto_region 4 with fail
 clear FA
 generalize World.setCell _ _ _=wa at KA F ⊢
 generalize hk:(1+(r:Int))=k at KA F ⊢
 have hk3:k=1∨k=2∨k=3:=by omega
 clear hk hwr
 rcases hk3 with rfl|rfl|rfl
 ·go_wp2_with fail
  refine (ZZ T 4 _ (KA.tp_ 9 rfl) (by omega) (by omega)).mono ?_
  rintro e w3 ⟨b4,rfl,t3,g3⟩
  have K1:=Hold.Zf KA 9 rfl g3 t3
  clear KA F t3 g3
  have F1:=K1.facts
  simp only [zg] at F1
  cases b4
  ·go_wp2_with fail
   refine (ZQ T 3 _ (K1.tp_ 9 rfl) (by omega) (by omega)).mono ?_
   rintro e w3 ⟨r3,rfl,r30,r31,t3,g3⟩
   have KB:=((Hold.Zf K1 9 rfl g3 t3).nil 37 1).add (S:=fun w=>∀ r∈([]:List (SlP Ex)),Z0 (n+3) r w) (fun w2 _ _ s hs=>(nomatch hs))
   have KC:Hold M (some T) w _ [.own 37 1 (.slice none 0 0) 0 (rwE ([]:List (SlP Ex))),.ro (fun w=>∀ r∈([]:List (SlP Ex)),Z0 (n+3) r w),.blk ga 97 #[.int .i64 1,.string snm,.slice none 0 0,.slice none 0 0,.slice none 0 0,.slice none 0 0,.string ⟨#[]⟩],.blk gi 177 #[.slice A9 (fn+1) c9,.slice sA sn sc],.ro (Zg ⟨⟨A9,fn+1,c9,fl2⟩,⟨sA,sn,sc,sl⟩⟩),.blk gs 49 #[.string snm,.slice (some ⟨bC,oC,none⟩) cn cc],.ro (SlR 4 (some ⟨bC,oC,none⟩) cn (Zd cl)),.blk gr 97 #[.int .i64 0,.string ⟨#[]⟩,.slice none 0 0,.slice none 0 0,.slice none 0 0,.slice none 0 0,.string ⟨#[]⟩],.cst gp 177 #[.slice fA fn fc,.slice sA sn sc],.ro (Zg ⟨⟨fA,fn,fc,fl⟩,⟨sA,sn,sc,sl⟩⟩),.ro Wds,.tp T]:=KB.pick [1,0,2,3,4,5,6,7,8,9,10,11] (by decide) rfl
   obtain ⟨i0,hi0⟩:∃ i0:Nat,1+r3=i0:=⟨(1+r3).toNat,by omega⟩
   have hi03:i0≤3:=by omega
   have hwi0:IntKind.i64.wrap (1+r3)=i0:=by rw [hi0];exact IntWalk.i64_in _ (by omega)
   have HI0:=hid hi0
   clear K1 KB F1 t3 g3 hi0
   go_wp2_with fail
   go_loopw [10] (fun iv wr=>∃ (i k cap:Nat) (O:Option Addr) (rs:List (SlP Ex)),iv=.int .i64 i∧k+i≤3∧(∀ r∈rs,LsOk 8 r (ExGd (n+3)))∧Hold M (some T) w wr [.own 37 1 (.slice O k cap) k (rwE rs),.ro (fun w=>∀ r∈rs,Z0 (n+3) r w),.blk ga 97 #[.int .i64 1,.string snm,.slice O k cap,.slice none 0 0,.slice none 0 0,.slice none 0 0,.string ⟨#[]⟩],.blk gi 177 #[.slice A9 (fn+1) c9,.slice sA sn sc],.ro (Zg ⟨⟨A9,fn+1,c9,fl2⟩,⟨sA,sn,sc,sl⟩⟩),.blk gs 49 #[.string snm,.slice (some ⟨bC,oC,none⟩) cn cc],.ro (SlR 4 (some ⟨bC,oC,none⟩) cn (Zd cl)),.blk gr 97 #[.int .i64 0,.string ⟨#[]⟩,.slice none 0 0,.slice none 0 0,.slice none 0 0,.slice none 0 0,.string ⟨#[]⟩],.cst gp 177 #[.slice fA fn fc,.slice sA sn sc],.ro (Zg ⟨⟨fA,fn,fc,fl⟩,⟨sA,sn,sc,sl⟩⟩),.ro Wds,.tp T]) (fun iv _=>(intOf iv).toNat)
   case atStart=>exact ⟨i0,0,0,none,[],rfl,by omega,fun s hs=>(nomatch hs),KC⟩
   case round=>
    clear KC
    obtain ⟨i,k,cap,O,rs,rfl,hki,hrs,H⟩:=hrel
    by_cases hi:0<i
    ·have hii:(0:Int)<(i:Int):=by omega
     have hwi:IntKind.i64.wrap ((i:Int) - 1)=((i - 1:Nat):Int):=by rw [show ((i - 1:Nat):Int)=(i:Int) - 1 by omega];exact IntWalk.i64_in _ (by omega)
     have F:=H.facts
     simp only [zg] at F
     have K2:Hold M (some T) w _ [.own 126 10 (.slice none 0 0) 0 (Zl ([]:List Ex)),.ro (fun w=>∀ x∈([]:List Ex),ExIn (n+3) x w),.own 37 1 (.slice O k cap) k (rwE rs),.ro (fun w=>∀ r∈rs,Z0 (n+3) r w),.blk ga 97 #[.int .i64 1,.string snm,.slice O k cap,.slice none 0 0,.slice none 0 0,.slice none 0 0,.string ⟨#[]⟩],.blk gi 177 #[.slice A9 (fn+1) c9,.slice sA sn sc],.ro (Zg ⟨⟨A9,fn+1,c9,fl2⟩,⟨sA,sn,sc,sl⟩⟩),.blk gs 49 #[.string snm,.slice (some ⟨bC,oC,none⟩) cn cc],.ro (SlR 4 (some ⟨bC,oC,none⟩) cn (Zd cl)),.blk gr 97 #[.int .i64 0,.string ⟨#[]⟩,.slice none 0 0,.slice none 0 0,.slice none 0 0,.slice none 0 0,.string ⟨#[]⟩],.cst gp 177 #[.slice fA fn fc,.slice sA sn sc],.ro (Zg ⟨⟨fA,fn,fc,fl⟩,⟨sA,sn,sc,sl⟩⟩),.ro Wds,.tp T]:=((H.nil 126 10).add (S:=fun w=>∀ x∈([]:List Ex),ExIn (n+3) x w) (fun w2 _ _ s hs=>(nomatch hs))).pick [1,0,2,3,4,5,6,7,8,9,10,11,12,13] (by decide) rfl
     clear H
     go_wp2_with fail
     clear F
     go_loopw [11,54] (fun rv jv wr=>∃ (j cap2:Nat) (O2:Option Addr) (outs:List Ex),j≤cn∧rv=.slice O2 j cap2∧jv=.int .i64 j∧(∀ x∈outs,ExGd (n+3) x)∧Hold M (some T) w wr [.own 126 10 (.slice O2 j cap2) j (Zl outs),.ro (fun w=>∀ x∈outs,ExIn (n+3) x w),.own 37 1 (.slice O k cap) k (rwE rs),.ro (fun w=>∀ r∈rs,Z0 (n+3) r w),.blk ga 97 #[.int .i64 1,.string snm,.slice O k cap,.slice none 0 0,.slice none 0 0,.slice none 0 0,.string ⟨#[]⟩],.blk gi 177 #[.slice A9 (fn+1) c9,.slice sA sn sc],.ro (Zg ⟨⟨A9,fn+1,c9,fl2⟩,⟨sA,sn,sc,sl⟩⟩),.blk gs 49 #[.string snm,.slice (some ⟨bC,oC,none⟩) cn cc],.ro (SlR 4 (some ⟨bC,oC,none⟩) cn (Zd cl)),.blk gr 97 #[.int .i64 0,.string ⟨#[]⟩,.slice none 0 0,.slice none 0 0,.slice none 0 0,.slice none 0 0,.string ⟨#[]⟩],.cst gp 177 #[.slice fA fn fc,.slice sA sn sc],.ro (Zg ⟨⟨fA,fn,fc,fl⟩,⟨sA,sn,sc,sl⟩⟩),.ro Wds,.tp T]) (fun _ jv _=>cn - (intOf jv).toNat)
     case atStart=>exact ⟨0,0,none,[],by omega,rfl,rfl,fun x hx=>(nomatch hx),K2⟩
     case round=>
      clear K2
      obtain ⟨j,cap2,O2,outs,hj,rfl,rfl,hgd,H⟩:=hrel
      by_cases hlt:j<cn
      ·obtain ⟨⟨ynm,yty,ynn,ykey⟩,hc⟩:=YC HLN.out hlt
       obtain ⟨b2',o2',hcA,hb2,x0,x1,x2,x3⟩:=(RdC.Zw (H.ro 8 rfl).now).at_ hc
       obtain ⟨rfl,rfl⟩:=addr_eq hcA
       clear hcA
       simp only at x0 x1 x2 x3
       clear hc
       obtain ⟨gk,hgk,K3⟩:∃ gk,gk=_∧Hold M (some T) w _ [.cst gk 158 #[.string ynm,.int .i64 yty,.bool ynn,.bool ykey],.own 126 10 (.slice O2 j cap2) j (Zl outs),.ro (fun w=>∀ x∈outs,ExIn (n+3) x w),.own 37 1 (.slice O k cap) k (rwE rs),.ro (fun w=>∀ r∈rs,Z0 (n+3) r w),.blk ga 97 #[.int .i64 1,.string snm,.slice O k cap,.slice none 0 0,.slice none 0 0,.slice none 0 0,.string ⟨#[]⟩],.blk gi 177 #[.slice A9 (fn+1) c9,.slice sA sn sc],.ro (Zg ⟨⟨A9,fn+1,c9,fl2⟩,⟨sA,sn,sc,sl⟩⟩),.blk gs 49 #[.string snm,.slice (some ⟨bC,oC,none⟩) cn cc],.ro (SlR 4 (some ⟨bC,oC,none⟩) cn (Zd cl)),.blk gr 97 #[.int .i64 0,.string ⟨#[]⟩,.slice none 0 0,.slice none 0 0,.slice none 0 0,.slice none 0 0,.string ⟨#[]⟩],.cst gp 177 #[.slice fA fn fc,.slice sA sn sc],.ro (Zg ⟨⟨fA,fn,fc,fl⟩,⟨sA,sn,sc,sl⟩⟩),.ro Wds,.tp T]:=⟨_,rfl,H.Za #[.string ynm,.int .i64 yty,.bool ynn,.bool ykey] 158⟩
       have F3:=K3.facts
       simp only [zg] at F3
       rw [hgk] at F3
       clear H
       go_upto_region 16 with fail
       rw [←hgk] at F3 ⊢
       have HGK:=hid hgk
       clear hgk
       go_cut [63] (fun v wx=>∃ bb:Bool,v=.bool bb∧Hold M (some T) w wx [.cst gk 158 #[.string ynm,.int .i64 yty,.bool ynn,.bool ykey],.own 126 10 (.slice O2 j cap2) j (Zl outs),.ro (fun w=>∀ x∈outs,ExIn (n+3) x w),.own 37 1 (.slice O k cap) k (rwE rs),.ro (fun w=>∀ r∈rs,Z0 (n+3) r w),.blk ga 97 #[.int .i64 1,.string snm,.slice O k cap,.slice none 0 0,.slice none 0 0,.slice none 0 0,.string ⟨#[]⟩],.blk gi 177 #[.slice A9 (fn+1) c9,.slice sA sn sc],.ro (Zg ⟨⟨A9,fn+1,c9,fl2⟩,⟨sA,sn,sc,sl⟩⟩),.blk gs 49 #[.string snm,.slice (some ⟨bC,oC,none⟩) cn cc],.ro (SlR 4 (some ⟨bC,oC,none⟩) cn (Zd cl)),.blk gr 97 #[.int .i64 0,.string ⟨#[]⟩,.slice none 0 0,.slice none 0 0,.slice none 0 0,.slice none 0 0,.string ⟨#[]⟩],.cst gp 177 #[.slice fA fn fc,.slice sA sn sc],.ro (Zg ⟨⟨fA,fn,fc,fl⟩,⟨sA,sn,sc,sl⟩⟩),.ro Wds,.tp T])
       case first=>
        cases ykey
        ·go_wp2_with fail
         refine (ZZ T 3 _ (K3.tp_ 14 rfl) (by omega) (by omega)).mono ?_
         rintro e w7 ⟨b7,rfl,t7,g7⟩
         have K4:=Hold.Zf K3 14 rfl g7 t7
         go_wp2_with fail
         go_meet
         exact ⟨b7,rfl,K4⟩
        ·go_wp2_with fail
         go_meet
         exact ⟨true,rfl,K3⟩
       case rest=>
        obtain ⟨bb,rfl,K4⟩:=hcut
        clear K3 F3 x0 x1 x2 x3
        have F4:=K4.facts
        simp only [zg] at F4
        cases bb
        ·go_wp2_with fail
         refine (HE (Mut M _) T _ K4.Zc (K4.tp_ 14 rfl) (K4.get 14 rfl).2 ⟨⟨fA,fn,fc,fl⟩,⟨sA,sn,sc,sl⟩⟩ yty depth ((K4.ro 12 rfl).less (Zj (i:=14) rfl)) ((K4.ro 13 rfl).less (Zj (i:=14) rfl)) hT HBN.out hd hd2).mono ?_
         rintro e w8 ⟨y,rfl,hy,ry,t8,g8⟩
         have K6:=(Hold.Zf K4 14 rfl g8 t8).add ry
         have HYO:=hid hy
         clear K4 F4 g8 t8 ry hy
         rw [show y.val=.agg #[.int .i64 y.kind,.int .i64 y.op,.bool y.nt,.int .i64 y.v.k,.int .i64 y.v.i,.string y.v.s,.string y.tab,.string y.nm,.slice y.A y.n y.c,.slice y.B y.m y.d] from rfl]
         have F6:=K6.facts
         simp only [zg] at F6
         go_wp2_with (at_builtin;go_must (refine Zx K6 2 rfl Tryz.Ve #[.int .i64 y.kind,.int .i64 y.op,.bool y.nt,.int .i64 y.v.k,.int .i64 y.v.i,.string y.v.s,.string y.tab,.string y.nm,.slice y.A y.n y.c,.slice y.B y.m y.d] rfl (.tmp 83) (.tmp 90) rfl rfl _ (by first|rfl|simp) rfl rfl (by intro u hu;simp at hu;rcases hu with rfl|rfl|rfl|rfl|rfl|rfl|rfl|rfl|rfl|rfl<;>rfl) (by omega) (by omega) ?_);intro gA capA wA hcA hmA KA;rw [show Zl outs++(#[.int .i64 y.kind,.int .i64 y.op,.bool y.nt,.int .i64 y.v.k,.int .i64 y.v.i,.string y.v.s,.string y.tab,.string y.nm,.slice y.A y.n y.c,.slice y.B y.m y.d]:Array Value).toList=Zl (outs++[y]) by simp [Zl,Ex.cells]] at KA;simp only [zl] at KA;have FA:=KA.facts;simp only [zg] at FA)
         clear F6
         have KN:=(KA.add (S:=fun w=>∀ x∈outs++[y],ExIn (n+3) x w) (((KA.ro 3 rfl).and (KA.ro 0 rfl)).imp fun w2 h2 x hx=>by
          rcases List.mem_append.1 hx with hx|hx
          ·exact h2.1 x hx
          ·simp only [List.mem_cons,List.not_mem_nil,or_false] at hx
           subst hx
           exact h2.2.le (by omega)))
         go_roundw
         case rel=>exact ⟨j+1,capA,_,outs++[y],by omega,by first|rfl|trivial,by go_num,Q6 hgd (HYO.out.le (by omega)),KN.pick [3,0,5,6,7,8,9,10,11,12,13,14,15,16] (by decide) rfl⟩
         case measure=>simp [intOf];omega
        ·go_wp2_with fail
         refine (UB T yty _ (K4.tp_ 14 rfl) (K4.ro 13 rfl).now hT).mono ?_
         rintro e w8 ⟨vk,vi,vs,rfl,hv,hvs,hvi,t8,-,g8⟩
         have K5:=Hold.Zf K4 14 rfl g8 t8
         have HVK:=hid (Jy hv)
         clear K4 F4 g8 t8
         go_wp2_with fail
         refine (WZ _ ⟨vk,vi,vs⟩).mono ?_
         rintro e w9 ⟨rfl,b9⟩
         have K6:=(K5.call b9).add (S:=ExIn 1 (Zz ⟨vk,vi,vs⟩)) (fun w2 _ _=>WB _ _)
         have HYO:=hid (Wu ⟨vk,vi,vs⟩ HVK.out hvi)
         clear K5 b9
         generalize Zz ⟨vk,vi,vs⟩=y at *
         rw [show y.val=.agg #[.int .i64 y.kind,.int .i64 y.op,.bool y.nt,.int .i64 y.v.k,.int .i64 y.v.i,.string y.v.s,.string y.tab,.string y.nm,.slice y.A y.n y.c,.slice y.B y.m y.d] from rfl]
         have F6:=K6.facts
         simp only [zg] at F6
         go_upto_region 18 with (at_builtin;go_must (refine Zx K6 2 rfl Tryz.Ve #[.int .i64 y.kind,.int .i64 y.op,.bool y.nt,.int .i64 y.v.k,.int .i64 y.v.i,.string y.v.s,.string y.tab,.string y.nm,.slice y.A y.n y.c,.slice y.B y.m y.d] rfl (.tmp 64) (.tmp 70) rfl rfl _ (by first|rfl|simp) rfl rfl (by intro u hu;simp at hu;rcases hu with rfl|rfl|rfl|rfl|rfl|rfl|rfl|rfl|rfl|rfl<;>rfl) (by omega) (by omega) ?_);intro gA capA wA hcA hmA KA;rw [show Zl outs++(#[.int .i64 y.kind,.int .i64 y.op,.bool y.nt,.int .i64 y.v.k,.int .i64 y.v.i,.string y.v.s,.string y.tab,.string y.nm,.slice y.A y.n y.c,.slice y.B y.m y.d]:Array Value).toList=Zl (outs++[y]) by simp [Zl,Ex.cells]] at KA;simp only [zl] at KA;have FA:=KA.facts;simp only [zg] at FA)
         clear F6
         have KN:=(KA.add (S:=fun w=>∀ x∈outs++[y],ExIn (n+3) x w) (((KA.ro 3 rfl).and (KA.ro 0 rfl)).imp fun w2 h2 x hx=>by
          rcases List.mem_append.1 hx with hx|hx
          ·exact h2.1 x hx
          ·simp only [List.mem_cons,List.not_mem_nil,or_false] at hx
           subst hx
           exact h2.2.le (by omega)))
         by_cases hty:yty=1
         ·subst hty
          go_wp2_with fail
          refine (Vd T _ (KA.tp_ 15 rfl)).mono ?_
          rintro e wS ⟨zz,rfl,zz0,zz1,tS,gS⟩
          have KB:=Hold.Zf KA 15 rfl gS tS
          clear KA FA gS tS KN
          go_wp2_with fail
          refine (XG _ _ KB.Zc zz (by omega)).mono ?_
          rintro e wN ⟨z,rfl,hz,rz,bN⟩
          have HZO:=hid (Xw hz (by omega) (by omega))
          have KC:=(KB.call bN).add rz
          clear KB bN rz hz
          rw [show z.val=.agg #[.int .i64 z.kind,.int .i64 z.op,.bool z.nt,.int .i64 z.v.k,.int .i64 z.v.i,.string z.v.s,.string z.tab,.string z.nm,.slice z.A z.n z.c,.slice z.B z.m z.d] from rfl]
          have hol:outs.length=j:=by
           have h:=(KC.get 3 rfl).1
           rw [X8] at h
           simp at h
           omega
          have HXK:=hid (show (outs++[y])[j]? =some y by rw [List.getElem?_append_right (by omega),hol];simp)
          have hwj:IntKind.i64.wrap (((j+1:Nat):Int) - 1)=j:=by rw [show ((j+1:Nat):Int) - 1=j by omega];exact IntWalk.i64_in _ (by omega)
          have hwj2:IntKind.i64.wrap ((j:Int)+1 - 1)=j:=by rw [show (j:Int)+1 - 1=j by omega];exact IntWalk.i64_in _ (by omega)
          have ho:=KC.get 3 rfl
          have q0:_=some (Value.int .i64 y.kind):=(ho.cellAt (j * 10) (by omega)).trans (flat_get Ex.cells 10 (fun _=>rfl) (outs++[y]) j 0 y (by omega) HXK.out)
          have q1:_=some (Value.int .i64 y.op):=(ho.cellAt (j * 10+1) (by omega)).trans (flat_get Ex.cells 10 (fun _=>rfl) (outs++[y]) j 1 y (by omega) HXK.out)
          have q2:_=some (Value.bool y.nt):=(ho.cellAt (j * 10+2) (by omega)).trans (flat_get Ex.cells 10 (fun _=>rfl) (outs++[y]) j 2 y (by omega) HXK.out)
          have q3:_=some (Value.int .i64 y.v.k):=(ho.cellAt (j * 10+3) (by omega)).trans (flat_get Ex.cells 10 (fun _=>rfl) (outs++[y]) j 3 y (by omega) HXK.out)
          have q4:_=some (Value.int .i64 y.v.i):=(ho.cellAt (j * 10+4) (by omega)).trans (flat_get Ex.cells 10 (fun _=>rfl) (outs++[y]) j 4 y (by omega) HXK.out)
          have q5:_=some (Value.string y.v.s):=(ho.cellAt (j * 10+5) (by omega)).trans (flat_get Ex.cells 10 (fun _=>rfl) (outs++[y]) j 5 y (by omega) HXK.out)
          have q6:_=some (Value.string y.tab):=(ho.cellAt (j * 10+6) (by omega)).trans (flat_get Ex.cells 10 (fun _=>rfl) (outs++[y]) j 6 y (by omega) HXK.out)
          have q7:_=some (Value.string y.nm):=(ho.cellAt (j * 10+7) (by omega)).trans (flat_get Ex.cells 10 (fun _=>rfl) (outs++[y]) j 7 y (by omega) HXK.out)
          have q8:_=some (Value.slice y.A y.n y.c):=(ho.cellAt (j * 10+8) (by omega)).trans (flat_get Ex.cells 10 (fun _=>rfl) (outs++[y]) j 8 y (by omega) HXK.out)
          have q9:_=some (Value.slice y.B y.m y.d):=(ho.cellAt (j * 10+9) (by omega)).trans (flat_get Ex.cells 10 (fun _=>rfl) (outs++[y]) j 9 y (by omega) HXK.out)
          have z0:=ho.frozenAt (j * 10)
          have z1:=ho.frozenAt (j * 10+1)
          have z2:=ho.frozenAt (j * 10+2)
          have z3:=ho.frozenAt (j * 10+3)
          have z4:=ho.frozenAt (j * 10+4)
          have z5:=ho.frozenAt (j * 10+5)
          have z6:=ho.frozenAt (j * 10+6)
          have z7:=ho.frozenAt (j * 10+7)
          have z8:=ho.frozenAt (j * 10+8)
          have z9:=ho.frozenAt (j * 10+9)
          have gl:=(ho.lt gA rfl).2
          clear ho
          have KP0:=KC.XT 3 rfl (j * 10) (.int .i64 z.kind)
          simp only [zl] at KP0
          have KP1:=KP0.XT 3 rfl (j * 10+1) (.int .i64 z.op)
          simp only [zl] at KP1
          have KP2:=KP1.XT 3 rfl (j * 10+2) (.bool z.nt)
          simp only [zl] at KP2
          have KP3:=KP2.XT 3 rfl (j * 10+3) (.int .i64 z.v.k)
          simp only [zl] at KP3
          have KP4:=KP3.XT 3 rfl (j * 10+4) (.int .i64 z.v.i)
          simp only [zl] at KP4
          have KP5:=KP4.XT 3 rfl (j * 10+5) (.string z.v.s)
          simp only [zl] at KP5
          have KP6:=KP5.XT 3 rfl (j * 10+6) (.string z.tab)
          simp only [zl] at KP6
          have KP7:=KP6.XT 3 rfl (j * 10+7) (.string z.nm)
          simp only [zl] at KP7
          have KP8:=KP7.XT 3 rfl (j * 10+8) (.slice z.A z.n z.c)
          simp only [zl] at KP8
          have KP9:=KP8.XT 3 rfl (j * 10+9) (.slice z.B z.m z.d)
          simp only [zl] at KP9
          have e1:_=some (Value.int .i64 y.op):=((KP0.get 3 rfl).cellAt (j * 10+1) (by omega)).trans ((List.getElem?_set_ne (by omega)).trans (flat_get Ex.cells 10 (fun _=>rfl) (outs++[y]) j 1 y (by omega) HXK.out))
          have y1_:=(KP0.get 3 rfl).frozenAt (j * 10+1)
          have e2:_=some (Value.bool y.nt):=((KP1.get 3 rfl).cellAt (j * 10+2) (by omega)).trans ((List.getElem?_set_ne (by omega)).trans ((List.getElem?_set_ne (by omega)).trans (flat_get Ex.cells 10 (fun _=>rfl) (outs++[y]) j 2 y (by omega) HXK.out)))
          have y2_:=(KP1.get 3 rfl).frozenAt (j * 10+2)
          have e3:_=some (Value.int .i64 y.v.k):=((KP2.get 3 rfl).cellAt (j * 10+3) (by omega)).trans ((List.getElem?_set_ne (by omega)).trans ((List.getElem?_set_ne (by omega)).trans ((List.getElem?_set_ne (by omega)).trans (flat_get Ex.cells 10 (fun _=>rfl) (outs++[y]) j 3 y (by omega) HXK.out))))
          have y3_:=(KP2.get 3 rfl).frozenAt (j * 10+3)
          have e4:_=some (Value.int .i64 y.v.i):=((KP3.get 3 rfl).cellAt (j * 10+4) (by omega)).trans ((List.getElem?_set_ne (by omega)).trans ((List.getElem?_set_ne (by omega)).trans ((List.getElem?_set_ne (by omega)).trans ((List.getElem?_set_ne (by omega)).trans (flat_get Ex.cells 10 (fun _=>rfl) (outs++[y]) j 4 y (by omega) HXK.out)))))
          have y4_:=(KP3.get 3 rfl).frozenAt (j * 10+4)
          have e5:_=some (Value.string y.v.s):=((KP4.get 3 rfl).cellAt (j * 10+5) (by omega)).trans ((List.getElem?_set_ne (by omega)).trans ((List.getElem?_set_ne (by omega)).trans ((List.getElem?_set_ne (by omega)).trans ((List.getElem?_set_ne (by omega)).trans ((List.getElem?_set_ne (by omega)).trans (flat_get Ex.cells 10 (fun _=>rfl) (outs++[y]) j 5 y (by omega) HXK.out))))))
          have y5_:=(KP4.get 3 rfl).frozenAt (j * 10+5)
          have e6:_=some (Value.string y.tab):=((KP5.get 3 rfl).cellAt (j * 10+6) (by omega)).trans ((List.getElem?_set_ne (by omega)).trans ((List.getElem?_set_ne (by omega)).trans ((List.getElem?_set_ne (by omega)).trans ((List.getElem?_set_ne (by omega)).trans ((List.getElem?_set_ne (by omega)).trans ((List.getElem?_set_ne (by omega)).trans (flat_get Ex.cells 10 (fun _=>rfl) (outs++[y]) j 6 y (by omega) HXK.out)))))))
          have y6_:=(KP5.get 3 rfl).frozenAt (j * 10+6)
          have e7:_=some (Value.string y.nm):=((KP6.get 3 rfl).cellAt (j * 10+7) (by omega)).trans ((List.getElem?_set_ne (by omega)).trans ((List.getElem?_set_ne (by omega)).trans ((List.getElem?_set_ne (by omega)).trans ((List.getElem?_set_ne (by omega)).trans ((List.getElem?_set_ne (by omega)).trans ((List.getElem?_set_ne (by omega)).trans ((List.getElem?_set_ne (by omega)).trans (flat_get Ex.cells 10 (fun _=>rfl) (outs++[y]) j 7 y (by omega) HXK.out))))))))
          have y7_:=(KP6.get 3 rfl).frozenAt (j * 10+7)
          have e8:_=some (Value.slice y.A y.n y.c):=((KP7.get 3 rfl).cellAt (j * 10+8) (by omega)).trans ((List.getElem?_set_ne (by omega)).trans ((List.getElem?_set_ne (by omega)).trans ((List.getElem?_set_ne (by omega)).trans ((List.getElem?_set_ne (by omega)).trans ((List.getElem?_set_ne (by omega)).trans ((List.getElem?_set_ne (by omega)).trans ((List.getElem?_set_ne (by omega)).trans ((List.getElem?_set_ne (by omega)).trans (flat_get Ex.cells 10 (fun _=>rfl) (outs++[y]) j 8 y (by omega) HXK.out)))))))))
          have y8_:=(KP7.get 3 rfl).frozenAt (j * 10+8)
          have e9:_=some (Value.slice y.B y.m y.d):=((KP8.get 3 rfl).cellAt (j * 10+9) (by omega)).trans ((List.getElem?_set_ne (by omega)).trans ((List.getElem?_set_ne (by omega)).trans ((List.getElem?_set_ne (by omega)).trans ((List.getElem?_set_ne (by omega)).trans ((List.getElem?_set_ne (by omega)).trans ((List.getElem?_set_ne (by omega)).trans ((List.getElem?_set_ne (by omega)).trans ((List.getElem?_set_ne (by omega)).trans ((List.getElem?_set_ne (by omega)).trans (flat_get Ex.cells 10 (fun _=>rfl) (outs++[y]) j 9 y (by omega) HXK.out))))))))))
          have y9_:=(KP8.get 3 rfl).frozenAt (j * 10+9)
          clear KP0 KP1 KP2 KP3 KP4 KP5 KP6 KP7 KP8
          rw [ZaM z (show j<(outs++[y]).length by simp;omega),show (outs++[y]).set j z=outs++[z] by rw [List.set_append_right _ _ (by omega),hol];simp] at KP9
          have KZ2:=KP9.add (S:=fun w=>∀ x∈outs++[z],ExIn (n+3) x w) (((KP9.ro 4 rfl).and (KP9.ro 0 rfl)).imp fun w2 h2 x hx=>by
           rcases List.mem_append.1 hx with hx|hx
           ·exact h2.1 x hx
           ·simp only [List.mem_cons,List.not_mem_nil,or_false] at hx
            subst hx
            exact h2.2.le (by omega))
          clear KP9
          go_wp2_with fail
          go_roundw
          case rel=>exact ⟨j+1,capA,_,outs++[z],by omega,by first|rfl|trivial,by go_num,Q6 hgd (HZO.out.le (by omega)),KZ2.pick [4,0,6,7,8,9,10,11,12,13,14,15,16,17] (by decide) rfl⟩
          case measure=>simp [intOf];omega
         ·have htb:(yty==1)=false:=by simpa using hty
          go_wp2_with fail
          go_roundw
          case rel=>exact ⟨j+1,capA,_,outs++[y],by omega,by first|rfl|trivial,by go_num,Q6 hgd (HYO.out.le (by omega)),KN.pick [3,0,5,6,7,8,9,10,11,12,13,14,15,16] (by decide) rfl⟩
          case measure=>simp [intOf];omega
      ·obtain rfl:cn=j:=by omega
       have hcap:=Yx (H.get 0 rfl)
       have hlen:=(H.get 0 rfl).1
       rw [X8] at hlen
       have KS:=H.ZC 0 rfl
       simp only [List.set_cons_zero] at KS
       have F:=KS.facts
       simp only [zg] at F
       clear H
       go_wp2_with (at_builtin;go_must (refine Zx KS 2 rfl Tryz.Zhr #[.slice O2 cn cap2] rfl (.tmp 94) (.tmp 96) rfl rfl _ (by first|rfl|simp) rfl rfl (by intro u hu;simp at hu;rcases hu with rfl;rfl) (by omega) (by omega) ?_);intro gA capA wA hcA hmA KA;rw [show rwE rs++(#[.slice O2 cn cap2]:Array Value).toList=rwE (rs++[⟨O2,cn,cap2,outs⟩]) by simp [rwE,SlP.v]] at KA;simp only [zl] at KA;have FA:=KA.facts;simp only [zg] at FA)
       have KB:=KA.store 4 rfl 2 (.slice (some ⟨gA,0,none⟩) (k+1) capA)
       simp only [zl] at KB
       have KC:=KB.add (S:=fun w=>∀ r∈rs++[(⟨O2,cn,cap2,outs⟩:SlP Ex)],Z0 (n+3) r w) (((KB.ro 3 rfl).and ((KB.ro 0 rfl).and (KB.ro 1 rfl))).imp fun w2 h2 r hr=>by
        rcases List.mem_append.1 hr with hr|hr
        ·exact h2.1 r hr
        ·simp only [List.mem_cons,List.not_mem_nil,or_false] at hr
         subst hr
         exact ⟨h2.2.1,h2.2.2⟩)
       go_roundw
       case rel=>
        refine ⟨i - 1,k+1,capA,_,rs++[⟨O2,cn,cap2,outs⟩],by first|rfl|(rw [hwi];go_num),by omega,fun r hr=>?_,KC.pick [3,0,5,6,7,8,9,10,11,12,13,14] (by decide) rfl⟩
        rcases List.mem_append.1 hr with hr|hr
        ·exact hrs r hr
        ·simp only [List.mem_cons,List.not_mem_nil,or_false] at hr
         subst hr
         exact ⟨⟨hcap.1,hcap.2.1⟩,by show outs.length≤8;omega,hgd⟩
       case measure=>simp [intOf];omega
    ·obtain rfl:i=0:=by omega
     have F5:=H.facts
     simp only [zg] at F5
     have K7:=(((((((H.store 7 rfl 0 (.int .i64 1)).store 7 rfl 1 (.string snm)).store 7 rfl 2 (.slice O k cap)).store 7 rfl 3 (.slice none 0 0)).store 7 rfl 4 (.slice none 0 0)).store 7 rfl 5 (.slice none 0 0)).store 7 rfl 6 (.string ⟨#[]⟩))
     simp only [zl] at K7
     have F7:=K7.facts
     simp only [zg] at F7
     have hcap:=Yx (H.get 0 rfl)
     have hlen:=(H.get 0 rfl).1
     rw [show (rwE rs).length=rs.length * 1 from Yu (fun r:SlP Ex=>[r.v]) 1 (fun _=>rfl) rs] at hlen
     have KZ:=K7.ZC 0 rfl
     simp only [zl] at KZ
     have hR:Ro _ _ (AcIn (n+3) ⟨1,snm,⟨O,k,cap,rs⟩,SlP.nil,SlP.nil,SlP.nil,⟨#[]⟩⟩):=((KZ.ro 0 rfl).and (KZ.ro 1 rfl)).imp fun w2 h2=>⟨⟨h2.1,h2.2⟩,SlP.Zi _ _ _ w2,SlP.Zi _ _ _ w2,SlP.Zi _ _ _ w2⟩
     have HR:=hid (hR.less zm)
     have HT:=hid (And.intro (KZ.tp_ 11 rfl) KZ.grow)
     have HGD:=hid (show AcGd (n+3) ⟨1,snm,⟨O,k,cap,rs⟩,SlP.nil,SlP.nil,SlP.nil,⟨#[]⟩⟩ from ⟨⟨by simp,by simp⟩,⟨⟨hcap.1,hcap.2.1⟩,by show rs.length≤8;omega,hrs⟩,LsOk.nil _ _,LsOk.nil _ _,LsOk.nil _ _⟩)
     clear H K7 KZ hR
     go_wp2_with fail
     refine bodyPost_ret (v:=.agg #[.int .i64 1,.string snm,.slice O k cap,.slice none 0 0,.slice none 0 0,.slice none 0 0,.string ⟨#[]⟩]) ?_ rfl ?_
     ·clear HT HR HGD
      simp [results,Tryz.results159,go_sem,F7]
     ·exact ⟨⟨1,snm,⟨O,k,cap,rs⟩,SlP.nil,SlP.nil,SlP.nil,⟨#[]⟩⟩,rfl,HGD.out,HR.out,HT.out.1,HT.out.2⟩
  ·go_wp2_with fail
   refine (Ze1 HE (Mut M _) T _ K1.Zc (K1.tp_ 9 rfl) (K1.get 9 rfl).2 ⟨⟨fA,fn,fc,fl⟩,⟨sA,sn,sc,sl⟩⟩ ⟨snm,⟨some ⟨bC,oC,none⟩,cn,cc,cl⟩⟩ depth ((K1.ro 7 rfl).less (Zj (i:=9) rfl)) (((K1.ro 4 rfl).imp fun w2 h2=>⟨h2,fun _ _=>trivial⟩).less (Zj (i:=9) rfl)) hcl ((K1.ro 8 rfl).less (Zj (i:=9) rfl)) hT HB0.out hd hd2 HS.out).mono ?_
   rintro e wq ⟨q,rfl,hq,rq,t8,g8⟩
   have K2:=((Hold.Zf K1 9 rfl g8 t8).add rq).Za #[.bool q.star,.slice q.A q.n q.c,.string q.src,.slice q.B q.m q.d] 273
   clear K1 F1 g8 t8 rq
   have F2:=K2.facts
   simp only [zg] at F2
   have K3:=K2.store 2 rfl 3 (.slice (some ⟨wq.heap.size,0,none⟩) 1 1)
   simp only [zl] at K3
   clear K2
   have F5:=K3.facts
   simp only [zg] at F5
   have K7:=(((((((K3.store 7 rfl 0 (.int .i64 1)).store 7 rfl 1 (.string snm)).store 7 rfl 2 (.slice none 0 0)).store 7 rfl 3 (.slice (some ⟨wq.heap.size,0,none⟩) 1 1)).store 7 rfl 4 (.slice none 0 0)).store 7 rfl 5 (.slice none 0 0)).store 7 rfl 6 (.string ⟨#[]⟩))
   simp only [zl] at K7
   have F7:=K7.facts
   simp only [zg] at F7
   have KZ:=K7
   have hR:Ro _ _ (AcIn (n+3) ⟨1,snm,SlP.nil,⟨some ⟨wq.heap.size,0,none⟩,1,1,[q]⟩,SlP.nil,SlP.nil,⟨#[]⟩⟩):=((ZJ (KZ.get 0 rfl) rfl:Ro _ _ (SlR 4 (some ⟨wq.heap.size,0,none⟩) 1 [.bool q.star,.slice q.A q.n q.c,.string q.src,.slice q.B q.m q.d])).and (KZ.ro 1 rfl)).imp fun w2 h2=>⟨SlP.Zi _ _ _ w2,⟨h2.1,fun z hz=>by
    simp only [List.mem_cons,List.not_mem_nil,or_false] at hz
    subst hz
    exact h2.2⟩,SlP.Zi _ _ _ w2,SlP.Zi _ _ _ w2⟩
   have HR:=hid (hR.less zm)
   have HT:=hid (And.intro (KZ.tp_ 11 rfl) KZ.grow)
   have HGD:=hid (show AcGd (n+3) ⟨1,snm,SlP.nil,⟨some ⟨wq.heap.size,0,none⟩,1,1,[q]⟩,SlP.nil,SlP.nil,⟨#[]⟩⟩ from ⟨⟨by simp,by simp⟩,LsOk.nil _ _,⟨⟨Nat.le_refl _,by simp⟩,by simp,fun z hz=>by
    simp only [List.mem_cons,List.not_mem_nil,or_false] at hz
    subst hz
    exact hq⟩,LsOk.nil _ _,LsOk.nil _ _⟩)
   clear K3 K7 KZ hR
   go_wp2_with fail
   refine bodyPost_ret (v:=.agg #[.int .i64 1,.string snm,.slice none 0 0,.slice (some ⟨wq.heap.size,0,none⟩) 1 1,.slice none 0 0,.slice none 0 0,.string ⟨#[]⟩]) ?_ rfl ?_
   ·clear HT HR HGD
    simp [results,Tryz.results159,go_sem,F7]
   ·exact ⟨⟨1,snm,SlP.nil,⟨some ⟨wq.heap.size,0,none⟩,1,1,[q]⟩,SlP.nil,SlP.nil,⟨#[]⟩⟩,rfl,HGD.out,HR.out,HT.out.1,HT.out.2⟩
 ·go_wp2_with fail
  refine (ZQ T cn _ (KA.tp_ 9 rfl) (by omega) (by omega)).mono ?_
  rintro e w3 ⟨f,rfl,f0,f1,t3,g3⟩
  have KB:=((Hold.Zf KA 9 rfl g3 t3).nil 128 11).add (S:=fun w=>∀ s∈([]:List Se),ExIn (n+3) s.e w) (fun w2 _ _ s hs=>(nomatch hs))
  have KC:Hold M (some T) w _ [.own 128 11 (.slice none 0 0) 0 (Xq ([]:List Se)),.ro (fun w=>∀ s∈([]:List Se),ExIn (n+3) s.e w),.blk ga 97 #[.int .i64 2,.string snm,.slice none 0 0,.slice none 0 0,.slice none 0 0,.slice none 0 0,.string ⟨#[]⟩],.blk gi 177 #[.slice A9 (fn+1) c9,.slice sA sn sc],.ro (Zg ⟨⟨A9,fn+1,c9,fl2⟩,⟨sA,sn,sc,sl⟩⟩),.blk gs 49 #[.string snm,.slice (some ⟨bC,oC,none⟩) cn cc],.ro (SlR 4 (some ⟨bC,oC,none⟩) cn (Zd cl)),.blk gr 97 #[.int .i64 0,.string ⟨#[]⟩,.slice none 0 0,.slice none 0 0,.slice none 0 0,.slice none 0 0,.string ⟨#[]⟩],.cst gp 177 #[.slice fA fn fc,.slice sA sn sc],.ro (Zg ⟨⟨fA,fn,fc,fl⟩,⟨sA,sn,sc,sl⟩⟩),.ro Wds,.tp T]:=KB.pick [1,0,2,3,4,5,6,7,8,9,10,11] (by decide) rfl
  clear KA KB F t3 g3
  go_wp2_with fail
  go_loopw [15] (fun iv wr=>∃ (i cap:Nat) (O:Option Addr) (outs:List Se),i≤2∧iv=.int .i64 i∧(∀ s∈outs,ExGd (n+3) s.e)∧Hold M (some T) w wr [.own 128 11 (.slice O i cap) i (Xq outs),.ro (fun w=>∀ s∈outs,ExIn (n+3) s.e w),.blk ga 97 #[.int .i64 2,.string snm,.slice none 0 0,.slice none 0 0,.slice O i cap,.slice none 0 0,.string ⟨#[]⟩],.blk gi 177 #[.slice A9 (fn+1) c9,.slice sA sn sc],.ro (Zg ⟨⟨A9,fn+1,c9,fl2⟩,⟨sA,sn,sc,sl⟩⟩),.blk gs 49 #[.string snm,.slice (some ⟨bC,oC,none⟩) cn cc],.ro (SlR 4 (some ⟨bC,oC,none⟩) cn (Zd cl)),.blk gr 97 #[.int .i64 0,.string ⟨#[]⟩,.slice none 0 0,.slice none 0 0,.slice none 0 0,.slice none 0 0,.string ⟨#[]⟩],.cst gp 177 #[.slice fA fn fc,.slice sA sn sc],.ro (Zg ⟨⟨fA,fn,fc,fl⟩,⟨sA,sn,sc,sl⟩⟩),.ro Wds,.tp T]) (fun iv _=>2 - (intOf iv).toNat)
  case atStart=>exact ⟨0,0,none,[],by omega,rfl,fun s hs=>(nomatch hs),KC⟩
  case round=>
   clear KC
   obtain ⟨i,cap,O,outs,hi,rfl,hgd,H⟩:=hrel
   have F:=H.facts
   simp only [zg] at F
   go_wp2_with fail
   refine (ZQ T 2 _ (H.tp_ 11 rfl) (by omega) (by omega)).mono ?_
   rintro e w4 ⟨r2,rfl,q0,q1,t4,g4⟩
   have K1:=Hold.Zf H 11 rfl g4 t4
   have hw2:IntKind.i64.wrap (1+r2)=1+r2:=IntWalk.i64_in _ (by omega)
   clear H g4 t4 F
   have F:=K1.facts
   simp only [zg] at F
   by_cases hA:(i:Int)<1+r2
   ·by_cases hB:(i:Int)<cn
    ·have hi2:i<2:=by omega
     have hicn:i<cn:=by omega
     clear q0 q1
     go_upto_region 29 with fail
     obtain ⟨KM,hKM,K6⟩:=K1.name
     obtain ⟨Ha,hHa⟩:∃ m,m=w4.heap.size:=⟨_,rfl⟩
     have H1:∀ wv:World,Hold M (some T) w wv KM→Blk wv gs 49 #[.string snm,.slice (some ⟨bC,oC,none⟩) cn cc]:=fun wv h=>by rw [hKM] at h;exact h.Zy 5 rfl
     have H2:∀ wv:World,Hold M (some T) w wv KM→SlR 4 (some ⟨bC,oC,none⟩) cn (Zd cl) wv:=fun wv h=>by rw [hKM] at h;exact (h.ro 6 rfl).now
     have HH1:=hid H1
     have HH2:=hid H2
     have HKM:=hid hKM
     have HHa:=hid hHa
     clear hKM H1 H2 K1 hHa
     obtain ⟨f',rfl⟩:=Int.eq_ofNat_of_zero_le f0
     have hwq:IntKind.i64.wrap ((f' :Int)+(i:Int))=(f' :Int)+(i:Int):=IntWalk.i64_in _ (by omega)
     have hql:(f' +i) % cn<cn:=Nat.mod_lt _ (by omega)
     obtain ⟨q,hq⟩:∃ q,q=(f' +i) % cn:=⟨_,rfl⟩
     obtain ⟨⟨ynm,yty,ynn,ykey⟩,hy⟩:=YC HLN.out (show q<cn by omega)
     have HY:=hid hy
     clear hy
     have hcn0:¬cn=0:=by omega
     have hwt:((f' :Int)+(i:Int)).tmod (cn:Int)=(q:Int):=by rw [hq,←Int.natCast_add];exact (Int.ofNat_tmod _ _).symm
     have hqcn:q<cn:=by omega
     clear hql hq
     go_wp2_with fail
     clear F hA hB
     refine wp_region_any (by kernel_rfl) ?_
     refine ZH 12 175 (KM) (spL [(16,Yf (Mut M KM) Ha 158 #[.string ⟨#[]⟩,.int .i64 0,.bool false,.bool false])]) (by kernel_rfl) (by kernel_rfl) (by kernel_rfl) rfl ?_ (K6.drew) ?_
     ·exact Ze Wv (ZF _)
     simp only [zd,Act.put,List.getElem_toArray,List.getElem_cons_zero,List.getElem_cons_succ,zl]
     refine' dv rfl rfl rfl (fun wv HC=>?_) ?_;rotate_left
     · go_simp<;>rfl
     simp only [Act.put,zl]
     refine' dv rfl rfl rfl (fun wv HC=>?_) ?_;rotate_left
     ·obtain q1:=(HH1.out _ HC).cell 1;go_simp<;>rfl
     iterate 4
      simp only [Act.put,zl]
      refine' dv rfl rfl rfl (fun wv HC=>?_) ?_;rotate_left
      · go_simp<;>rfl
     simp only [Act.put,zl]
     refine' dv rfl rfl rfl (fun wv HC=>?_) ?_;rotate_left
     ·obtain q1:=(HH1.out _ HC).cell 1;go_simp<;>rfl
     iterate 3
      simp only [Act.put,zl]
      refine' dv rfl rfl rfl (fun wv HC=>?_) ?_;rotate_left
      · go_simp<;>rfl
     simp only [Act.put,zl]
     refine' dv rfl rfl rfl (fun wv HC=>?_) ?_;rotate_left
     ·obtain ⟨b2',o2',hcA,hb2,x0,x1,x2,x3⟩:=(RdC.Zw (HH2.out _ HC)).at_ HY.out;obtain ⟨rfl,rfl⟩:=addr_eq hcA;clear hcA;go_simp<;>rfl
     simp only [Act.put,zl]
     refine Ye #[.string ⟨#[]⟩,.int .i64 0,.bool false,.bool false] 158 16 (Yf (Mut M KM) Ha 158 #[.string ⟨#[]⟩,.int .i64 0,.bool false,.bool false]) (fun g=>.pointer (some ⟨g,0,none⟩)) rfl rfl rfl rfl (fun wv=>?_) (fun wv HC hrm hD hro=>?_) ?_
     ·go_simp<;>rfl
     ·exact ⟨_,rfl,by have:=hrm.1;rw [HHa.out];exact this,hro _ HC.Zc⟩
     rintro gk wg HCg hsl
     clear HCg hsl
     simp only [Act.put,zl]
     refine ZE ?_
     rintro wx2 HX
     rintro _hrm HGW
     have hu:Yf (Mut M KM) Ha 158 #[.string ⟨#[]⟩,.int .i64 0,.bool false,.bool false] (.pointer (some ⟨gk,0,none⟩)) wx2:=(Zp (d:=16) rfl).1 (HGW 11 _ rfl (by omega))
     clear HGW
     obtain ⟨gk',e',hg1,hg2⟩:=hu
     obtain rfl:gk=gk' :=by injection e' with e';injection e' with e';injection e'
     clear e'
     rw [HHa.out] at hg1
     have HB:=Hold.WJ K6.drew HX _hrm hg1 hg2.now
     rw [HKM.out] at HB
     clear HX _hrm hg2 hg1 K6 HH1 HH2 HKM HHa
     have FB:=HB.facts
     simp only [zg] at FB
     have K1:=(((HB.store 0 rfl 0 (.string ynm)).store 0 rfl 1 (.int .i64 yty)).store 0 rfl 2 (.bool ynn)).store 0 rfl 3 (.bool ykey)
     simp only [zl] at K1
     have F1:=K1.facts
     simp only [zg] at F1
     clear HB
     go_upto_region 30 with fail
     clear FB
     generalize World.setCell _ _ _=wb at K1 F1 ⊢
     obtain ⟨KM,hKM,K6⟩:=K1.name
     obtain ⟨Ha,hHa⟩:∃ m,m=wb.heap.size:=⟨_,rfl⟩
     have H1:∀ wv:World,Hold M (some T) w wv KM→Blk wv gk 158 #[.string ynm,.int .i64 yty,.bool ynn,.bool ykey]:=fun wv h=>by rw [hKM] at h;exact h.Zy 0 rfl
     have H2:∀ wv:World,Hold M (some T) w wv KM→Blk wv gi 177 #[.slice A9 (fn+1) c9,.slice sA sn sc]:=fun wv h=>by rw [hKM] at h;exact h.Zy 4 rfl
     have H3:∀ wv:World,Hold M (some T) w wv KM→Ro wv (Mut M KM) (Zg ⟨⟨A9,fn+1,c9,fl2⟩,⟨sA,sn,sc,sl⟩⟩)∧Ro wv (Mut M KM) Wds∧Tp wv T∧∀ b,(Mut M KM) b→T≤b:=fun wv h=>by rw [hKM] at h ⊢;exact ⟨h.ro 5 rfl,h.ro 11 rfl,h.tp_ 12 rfl,(h.get 12 rfl).2⟩
     have h4:KM[12]? =some (.tp T):=by rw [hKM];rfl
     have HH1:=hid H1
     have HH2:=hid H2
     have HH3:=hid H3
     have HH4:=hid h4
     have HKM:=hid hKM
     have HHa:=hid hHa
     clear hKM H1 H2 H3 h4 K1 hHa
     go_wp2_with fail
     clear F1
     refine wp_region_any (by kernel_rfl) ?_
     refine ZH 10 175 (KM) (spL [(139,Zh (Mut M KM) (n+2)),(17,Yf (Mut M KM) Ha 128 XO)]) (by kernel_rfl) (by kernel_rfl) (by kernel_rfl) rfl ?_ (K6.drew) ?_
     ·exact Ze Z7 (Ze Wv (ZF _))
     simp only [zd,Act.put,List.getElem_toArray,List.getElem_cons_zero,List.getElem_cons_succ,zl]
     refine' dv rfl rfl rfl (fun wv HC=>?_) ?_;rotate_left
     · go_simp<;>rfl
     simp only [Act.put,zl]
     refine' dv rfl rfl rfl (fun wv HC=>?_) ?_;rotate_left
     ·obtain q0:=(HH1.out _ HC).cell 0;go_simp<;>rfl
     simp only [Act.put,zl]
     refine' dv rfl rfl rfl (fun wv HC=>?_) ?_;rotate_left
     · go_simp<;>rfl
     simp only [Act.put,zl]
     refine' dv rfl rfl rfl (fun wv HC=>?_) ?_;rotate_left
     ·obtain q0:=(HH2.out _ HC).cell 0;obtain q1:=(HH2.out _ HC).cell 1;go_simp<;>rfl
     simp only [Act.put,zl]
     refine' dv rfl rfl rfl (fun wv HC=>?_) ?_;rotate_left
     · go_simp<;>rfl
     simp only [Act.put,zl]
     refine' dv rfl rfl rfl (fun wv HC=>?_) ?_;rotate_left
     ·obtain q1:=(HH1.out _ HC).cell 1;go_simp<;>rfl
     simp only [Act.put,zl]
     refine' dv rfl rfl rfl (fun wv HC=>?_) ?_;rotate_left
     · go_simp<;>rfl
     simp only [Act.put,zl]
     refine Zq 139 (Zh (Mut M KM) (n+2)) (f:=99) (args:=#[.pointer (some ⟨T,0,none⟩),.agg #[.slice A9 (fn+1) c9,.slice sA sn sc],.int .i64 yty,.int .i64 depth]) rfl rfl rfl rfl (fun wv=>?_) (fun wv HC hrm hD=>?_) ?_
     ·go_simp<;>rfl
     ·obtain ⟨X0,X1,X2,X3⟩:=HH3.out _ HC
      refine (HE (Mut M KM) T wv HC.Zc X2 X3 ⟨⟨A9,fn+1,c9,fl2⟩,⟨sA,sn,sc,sl⟩⟩ yty depth (X0.less (Zj HH4.out)) (X1.less (Zj HH4.out)) hT HIN.out hd hd2).mono ?_
      rintro e w5 ⟨x,rfl,hx,rx,t5,g5⟩
      exact ⟨_,rfl,⟨x,rfl,hx,rx⟩,Hold.Zf HC 12 HH4.out g5 t5,RM.grown g5 (.inr ⟨_,List.mem_of_getElem? HH4.out,rfl⟩)⟩
     rintro u wx HCx ⟨x,rfl,hx,rx⟩
     clear HCx hx rx
     simp only [Act.put,zl]
     rw [show x.val=.agg #[.int .i64 x.kind,.int .i64 x.op,.bool x.nt,.int .i64 x.v.k,.int .i64 x.v.i,.string x.v.s,.string x.tab,.string x.nm,.slice x.A x.n x.c,.slice x.B x.m x.d] from rfl]
     refine' dv rfl rfl rfl (fun wv HC=>?_) ?_;rotate_left
     · go_simp<;>rfl
     simp only [Act.put,zl]
     refine Ye XO 128 17 (Yf (Mut M KM) Ha 128 XO) (fun g=>.pointer (some ⟨g,0,none⟩)) rfl rfl rfl rfl (fun wv=>?_) (fun wv HC hrm hD hro=>?_) ?_
     ·go_simp<;>rfl
     ·exact ⟨_,rfl,by have:=hrm.1;rw [HHa.out];exact this,hro _ HC.Zc⟩
     rintro gx wg HCg hsl
     clear HCg hsl
     simp only [Act.put,zl]
     refine ZE ?_
     rintro wx3 HX
     rintro _hrm HGW
     have hu:Zh (Mut M KM) (n+2) x.val wx3:=(Zp (d:=139) rfl).1 (HGW 7 _ rfl (by omega))
     have hu2:Yf (Mut M KM) Ha 128 XO (.pointer (some ⟨gx,0,none⟩)) wx3:=(Zp (d:=17) rfl).1 (HGW 9 _ rfl (by omega))
     clear HGW
     obtain ⟨gx',e',hg1,hg2⟩:=hu2
     obtain rfl:gx=gx' :=by injection e' with e';injection e' with e';injection e'
     clear e'
     rw [HHa.out] at hg1
     obtain ⟨y,hyv,hyok,hyro⟩:=hu
     have HB:=(Hold.WJ K6.drew HX _hrm hg1 hg2.now).add ((Us hg2.now hyok hyro).less fun b hb=>(ZG.1 hb).elim (fun hf=>Or.inr (by have hf:some gx=some b:=hf;injection hf with hf;exact hf.symm)) Or.inl)
     rw [HKM.out] at HB
     have ev:Value.agg #[.string ynm,.int .i64 x.kind,.int .i64 x.op,.bool x.nt,.int .i64 x.v.k,.int .i64 x.v.i,.string x.v.s,.string x.tab,.string x.nm,.slice x.A x.n x.c,.slice x.B x.m x.d]=.agg #[.string ynm,.int .i64 y.kind,.int .i64 y.op,.bool y.nt,.int .i64 y.v.k,.int .i64 y.v.i,.string y.v.s,.string y.tab,.string y.nm,.slice y.A y.n y.c,.slice y.B y.m y.d]:=by
      have h:=hyv
      simp only [Ex.val,Value.agg.injEq,Array.mk.injEq,List.cons.injEq,and_true,true_and] at h ⊢
      exact h
     rw [ev]
     have HYO:=hid hyok
     clear HX _hrm hg2 hg1 K6 HH1 HH2 HH3 HKM HHa ev hyv hyro hyok
     unfold XO at HB
     have FB:=HB.facts
     simp only [zg] at FB
     have K2:=(((((((((((HB.store 1 rfl 0 (.string ynm)).store 1 rfl 1 (.int .i64 y.kind)).store 1 rfl 2 (.int .i64 y.op)).store 1 rfl 3 (.bool y.nt)).store 1 rfl 4 (.int .i64 y.v.k)).store 1 rfl 5 (.int .i64 y.v.i)).store 1 rfl 6 (.string y.v.s)).store 1 rfl 7 (.string y.tab)).store 1 rfl 8 (.string y.nm)).store 1 rfl 9 (.slice y.A y.n y.c)).store 1 rfl 10 (.slice y.B y.m y.d))
     simp only [zl] at K2
     have F2:=K2.facts
     simp only [zg] at F2
     clear HB
     go_upto_region 31 with fail
     clear FB
     generalize World.setCell _ _ _=wd at K2 F2 ⊢
     go_cut [147] (fun v wx=>∃ bb:Bool,v=.bool bb∧Hold M (some T) w wx [.ro (ExIn (n+2) y),.blk gx 128 #[.string ynm,.int .i64 y.kind,.int .i64 y.op,.bool y.nt,.int .i64 y.v.k,.int .i64 y.v.i,.string y.v.s,.string y.tab,.string y.nm,.slice y.A y.n y.c,.slice y.B y.m y.d],.blk gk 158 #[.string ynm,.int .i64 yty,.bool ynn,.bool ykey],.own 128 11 (.slice O i cap) i (Xq outs),.ro (fun w=>∀ s∈outs,ExIn (n+3) s.e w),.blk ga 97 #[.int .i64 2,.string snm,.slice none 0 0,.slice none 0 0,.slice O i cap,.slice none 0 0,.string ⟨#[]⟩],.blk gi 177 #[.slice A9 (fn+1) c9,.slice sA sn sc],.ro (Zg ⟨⟨A9,fn+1,c9,fl2⟩,⟨sA,sn,sc,sl⟩⟩),.blk gs 49 #[.string snm,.slice (some ⟨bC,oC,none⟩) cn cc],.ro (SlR 4 (some ⟨bC,oC,none⟩) cn (Zd cl)),.blk gr 97 #[.int .i64 0,.string ⟨#[]⟩,.slice none 0 0,.slice none 0 0,.slice none 0 0,.slice none 0 0,.string ⟨#[]⟩],.cst gp 177 #[.slice fA fn fc,.slice sA sn sc],.ro (Zg ⟨⟨fA,fn,fc,fl⟩,⟨sA,sn,sc,sl⟩⟩),.ro Wds,.tp T])
     case first=>
      by_cases hty:yty=1
      ·subst hty
       go_wp2_with fail
       refine (ZZ T 2 _ (K2.tp_ 14 rfl) (by omega) (by omega)).mono ?_
       rintro e w7 ⟨b7,rfl,t7,g7⟩
       have K3:=Hold.Zf K2 14 rfl g7 t7
       go_wp2_with fail
       go_meet
       exact ⟨b7,rfl,K3⟩
      ·have htb:(yty==1)=false:=by simpa using hty
       go_wp2_with fail
       go_meet
       exact ⟨false,rfl,K2⟩
     case rest=>
      obtain ⟨bb,rfl,K3⟩:=hcut
      clear K2 F2
      have F3:=K3.facts
      simp only [zg] at F3
      go_upto_if 147 with (fail)
      go_cut [] (fun wx=>∃ z:Ex,ExGd (n+3) z∧Hold M (some T) w wx [.blk gx 128 #[.string ynm,.int .i64 z.kind,.int .i64 z.op,.bool z.nt,.int .i64 z.v.k,.int .i64 z.v.i,.string z.v.s,.string z.tab,.string z.nm,.slice z.A z.n z.c,.slice z.B z.m z.d],.ro (ExIn (n+3) z),.own 128 11 (.slice O i cap) i (Xq outs),.ro (fun w=>∀ s∈outs,ExIn (n+3) s.e w),.blk ga 97 #[.int .i64 2,.string snm,.slice none 0 0,.slice none 0 0,.slice O i cap,.slice none 0 0,.string ⟨#[]⟩],.blk gi 177 #[.slice A9 (fn+1) c9,.slice sA sn sc],.ro (Zg ⟨⟨A9,fn+1,c9,fl2⟩,⟨sA,sn,sc,sl⟩⟩),.blk gs 49 #[.string snm,.slice (some ⟨bC,oC,none⟩) cn cc],.ro (SlR 4 (some ⟨bC,oC,none⟩) cn (Zd cl)),.blk gr 97 #[.int .i64 0,.string ⟨#[]⟩,.slice none 0 0,.slice none 0 0,.slice none 0 0,.slice none 0 0,.string ⟨#[]⟩],.cst gp 177 #[.slice fA fn fc,.slice sA sn sc],.ro (Zg ⟨⟨fA,fn,fc,fl⟩,⟨sA,sn,sc,sl⟩⟩),.ro Wds,.tp T])
      case first=>
       cases bb
       ·go_wp2_with fail
        go_meet
        exact ⟨y,HYO.out.le (by omega),(K3.add ((K3.ro 0 rfl).imp (S' :=ExIn (n+3) y) fun w2 h2=>h2.le (by omega))).pick [2,0,4,5,6,7,8,9,10,11,12,13,14,15] (by decide) rfl⟩
       ·obtain ⟨KM,hKM,K6⟩:=K3.name
        have H1:∀ wv:World,Hold M (some T) w wv KM→Blk wv gk 158 #[.string ynm,.int .i64 yty,.bool ynn,.bool ykey]:=fun wv h=>by rw [hKM] at h;exact h.Zy 2 rfl
        have h4:KM[14]? =some (.tp T):=by rw [hKM];rfl
        have HH1:=hid H1
        have HH4:=hid h4
        have HKM:=hid hKM
        clear hKM H1 h4 K3
        go_wp2_with fail
        clear F3
        refine wp_region_any (by kernel_rfl) ?_
        refine ZH 9 175 (KM) (spL [(149,fun u _=>Z6 2 u),(153,Zh (Mut M KM) 1),(155,fun u _=>Z6 4 u),(156,Zh (Mut M KM) 2)]) (by kernel_rfl) (by kernel_rfl) (by kernel_rfl) rfl ?_ (K6.drew) ?_
        ·exact Ze (fun _ _ _ _ h=>h) (Ze Z7 (Ze (fun _ _ _ _ h=>h) (Ze Z7 (ZF _))))
        simp only [zd,Act.put,List.getElem_toArray,List.getElem_cons_zero,List.getElem_cons_succ,zl]
        refine' dv rfl rfl rfl (fun wv HC=>?_) ?_;rotate_left
        · go_simp<;>rfl
        simp only [Act.put,zl]
        refine Yk 2 14 HH4.out 149 rfl rfl rfl rfl (fun wv=>?_) (fun r2 hr2=>?_)
        ·go_simp<;>rfl
        have hwr2:IntKind.i64.wrap (9+(r2:Int))=9+r2:=IntWalk.i64_in _ (by omega)
        iterate 2
         simp only [Act.put,zl]
         refine' dv rfl rfl rfl (fun wv HC=>?_) ?_;rotate_left
         · go_simp<;>rfl
        simp only [Act.put,zl]
        refine' dv rfl rfl rfl (fun wv HC=>?_) ?_;rotate_left
        ·obtain q0:=(HH1.out _ HC).cell 0;go_simp<;>rfl
        simp only [Act.put,zl]
        refine Zq 153 (Zh (Mut M KM) 1) (f:=133) (args:=#[.string ⟨#[]⟩,.string ynm]) rfl rfl rfl rfl (fun wv=>?_) (fun wv HC hrm hD=>?_) ?_
        ·go_simp<;>rfl
        ·refine (Xr wv ⟨#[]⟩ ynm).mono ?_
         rintro e w5 ⟨rfl,b5⟩
         exact ⟨_,rfl,⟨_,rfl,Xa _ _,fun w2 _ _=>Xc _ _ w2⟩,HC.call b5,RM.below b5⟩
        rintro u wx HCx ⟨c1,rfl,hx,rx⟩
        clear HCx hx rx
        simp only [Act.put,zl]
        refine' dv rfl rfl rfl (fun wv HC=>?_) ?_;rotate_left
        · go_simp<;>rfl
        simp only [Act.put,zl]
        refine Yk 4 14 HH4.out 155 rfl rfl rfl rfl (fun wv=>?_) (fun r4 hr4=>?_)
        ·go_simp<;>rfl
        simp only [Act.put,zl]
        refine Zq 156 (Zh (Mut M KM) 2) (f:=134) (args:=#[.int .i64 (r4:Int)]) rfl rfl rfl rfl (fun wv=>?_) (fun wv HC hrm hD=>?_) ?_
        ·go_simp<;>rfl
        ·refine (XG (Mut M KM) wv HC.Zc (r4:Int) (by omega)).mono ?_
         rintro e w5 ⟨x,rfl,hx,rx,b5⟩
         exact ⟨_,rfl,⟨x,rfl,Xw hx (by omega) (by omega),rx⟩,HC.call b5,RM.below b5⟩
        rintro u wx HCx ⟨c2,rfl,hx,rx⟩
        clear HCx hx rx
        simp only [Act.put,zl]
        refine ZE ?_
        rintro wx4 HX
        rintro _hrm HGW
        have hu:Zh (Mut M KM) 1 c1.val wx4:=(Zp (d:=153) rfl).1 (HGW 5 _ rfl (by omega))
        have hu2:Zh (Mut M KM) 2 c2.val wx4:=(Zp (d:=156) rfl).1 (HGW 8 _ rfl (by omega))
        clear HGW _hrm
        obtain ⟨z1,hz1,hok1,hro1⟩:=hu
        obtain ⟨z2,hz2,hok2,hro2⟩:=hu2
        rw [HKM.out] at HX hro1 hro2
        rw [hz1,hz2]
        clear hz1 hz2 c1 c2 HH1 HH4 HKM
        rw [show z1.val=.agg #[.int .i64 z1.kind,.int .i64 z1.op,.bool z1.nt,.int .i64 z1.v.k,.int .i64 z1.v.i,.string z1.v.s,.string z1.tab,.string z1.nm,.slice z1.A z1.n z1.c,.slice z1.B z1.m z1.d] from rfl]
        rw [show z2.val=.agg #[.int .i64 z2.kind,.int .i64 z2.op,.bool z2.nt,.int .i64 z2.v.k,.int .i64 z2.v.i,.string z2.v.s,.string z2.tab,.string z2.nm,.slice z2.A z2.n z2.c,.slice z2.B z2.m z2.d] from rfl]
        go_wp2_with fail
        refine (Xj (Mut M _) _ HX.Zc (9+r2) z1 z2 2 (hro1.imp fun w2 h2=>h2.le (by omega)) hro2).mono ?_
        rintro e w8 ⟨g8,rfl,ry,b8⟩
        have hyok:=hid (YE (d:=2) (kind:=5) (op:=9+(r2:Int)) (nt:=false) (g:=g8) (k:=2) (l:=[z1,z2]) (Zo 5 (by decide)) (show I64 _ from ⟨by omega,by omega⟩) (by omega) (fun a ha=>by
         simp only [List.mem_cons,List.not_mem_nil,or_false] at ha
         rcases ha with rfl|rfl
         ·exact hok1.le (by omega)
         ·exact hok2))
        have KB:=((HX.call b8).add ry)
        generalize opE 5 (9+(r2:Int)) false g8 2 [z1,z2]=z at *
        have FB:=KB.facts
        simp only [zg] at FB
        have KC:=((((((((((KB.store 2 rfl 1 (.int .i64 z.kind)).store 2 rfl 2 (.int .i64 z.op)).store 2 rfl 3 (.bool z.nt)).store 2 rfl 4 (.int .i64 z.v.k)).store 2 rfl 5 (.int .i64 z.v.i)).store 2 rfl 6 (.string z.v.s)).store 2 rfl 7 (.string z.tab)).store 2 rfl 8 (.string z.nm)).store 2 rfl 9 (.slice z.A z.n z.c)).store 2 rfl 10 (.slice z.B z.m z.d))
        simp only [zl] at KC
        rw [show z.val=.agg #[.int .i64 z.kind,.int .i64 z.op,.bool z.nt,.int .i64 z.v.k,.int .i64 z.v.i,.string z.v.s,.string z.tab,.string z.nm,.slice z.A z.n z.c,.slice z.B z.m z.d] from rfl]
        clear HX b8 ry hro1 hok1 hro2 hok2
        go_wp2_with fail
        go_meet
        exact ⟨z,hyok.out.le (by omega),(KC.add ((KC.ro 0 rfl).imp (S' :=ExIn (n+3) z) fun w2 h2=>h2.le (by omega))).pick [3,0,5,6,7,8,9,10,11,12,13,14,15,16] (by decide) rfl⟩
      case rest=>
       obtain ⟨z,hz,K5⟩:=hcut
       clear K3 F3 HYO HY
       have F5:=K5.facts
       simp only [zg] at F5
       go_wp2_with (at_builtin;go_must (refine Zx K5 2 rfl Tryz.Zhk #[.string ynm,.int .i64 z.kind,.int .i64 z.op,.bool z.nt,.int .i64 z.v.k,.int .i64 z.v.i,.string z.v.s,.string z.tab,.string z.nm,.slice z.A z.n z.c,.slice z.B z.m z.d] rfl (.tmp 160) (.tmp 162) rfl rfl _ (by first|rfl|simp) rfl rfl (by intro u hu;simp at hu;rcases hu with rfl|rfl|rfl|rfl|rfl|rfl|rfl|rfl|rfl|rfl|rfl<;>rfl) (by omega) (by omega) ?_);intro gA capA wA hcA hmA KA;rw [show Xq outs++(#[.string ynm,.int .i64 z.kind,.int .i64 z.op,.bool z.nt,.int .i64 z.v.k,.int .i64 z.v.i,.string z.v.s,.string z.tab,.string z.nm,.slice z.A z.n z.c,.slice z.B z.m z.d]:Array Value).toList=Xq (outs++[⟨ynm,z⟩]) by simp [Xq,Se.cells,Ex.cells]] at KA;simp only [zl] at KA;have FA:=KA.facts;simp only [zg] at FA)
       have KB:=KA.store 4 rfl 4 (.slice (some ⟨gA,0,none⟩) (i+1) capA)
       simp only [zl] at KB
       have KC:=KB.add (S:=fun w=>∀ s∈outs++[(⟨ynm,z⟩:Se)],ExIn (n+3) s.e w) (((KB.ro 3 rfl).and (KB.ro 1 rfl)).imp fun w2 h2 s hs=>by
        rcases List.mem_append.1 hs with hs|hs
        ·exact h2.1 s hs
        ·simp only [List.mem_cons,List.not_mem_nil,or_false] at hs
         subst hs
         exact h2.2)
       go_roundw
       case rel=>
        refine ⟨i+1,capA,_,outs++[⟨ynm,z⟩],by omega,by go_num,fun s hs=>?_,KC.pick [3,0,5,6,7,8,9,10,11,12,13,14] (by decide) rfl⟩
        rcases List.mem_append.1 hs with hs|hs
        ·exact hgd s hs
        ·simp only [List.mem_cons,List.not_mem_nil,or_false] at hs
         subst hs
         exact hz
       case measure=>simp [intOf];omega
    ·go_wp2_with fail
     refine (ZZ T 4 _ (K1.tp_ 11 rfl) (by omega) (by omega)).mono ?_
     rintro e w7 ⟨b,rfl,t7,g7⟩
     have K4:=Hold.Zf K1 11 rfl g7 t7
     clear K1 F g7 t7
     have F4:=K4.facts
     simp only [zg] at F4
     go_upto_if 167 with (fail)
     go_cut [] (fun wx=>∃ wh:SlP Ex,XR (n+2) wh∧Hold M (some T) w wx [.blk ga 97 #[.int .i64 2,.string snm,.slice none 0 0,.slice none 0 0,.slice O i cap,.slice wh.A wh.n wh.c,.string ⟨#[]⟩],.ro (Z0 (n+2) wh),.own 128 11 (.slice O i cap) i (Xq outs),.ro (fun w=>∀ s∈outs,ExIn (n+3) s.e w),.blk gr 97 #[.int .i64 0,.string ⟨#[]⟩,.slice none 0 0,.slice none 0 0,.slice none 0 0,.slice none 0 0,.string ⟨#[]⟩],.tp T])
     case first=>
      cases b
      ·go_wp2_with fail
       refine (HE (Mut M _) T _ K4.Zc (K4.tp_ 11 rfl) (K4.get 11 rfl).2 ⟨⟨A9,fn+1,c9,fl2⟩,⟨sA,sn,sc,sl⟩⟩ 2 depth ((K4.ro 4 rfl).less (Zj (i:=11) rfl)) ((K4.ro 10 rfl).less (Zj (i:=11) rfl)) hT HIN.out hd hd2).mono ?_
       rintro e w6 ⟨x,rfl,hx,rx,tY,gY⟩
       have K7:=((Hold.Zf K4 11 rfl gY tY).add rx).Za #[.int .i64 x.kind,.int .i64 x.op,.bool x.nt,.int .i64 x.v.k,.int .i64 x.v.i,.string x.v.s,.string x.tab,.string x.nm,.slice x.A x.n x.c,.slice x.B x.m x.d] 126
       rw [show x.val=.agg #[.int .i64 x.kind,.int .i64 x.op,.bool x.nt,.int .i64 x.v.k,.int .i64 x.v.i,.string x.v.s,.string x.tab,.string x.nm,.slice x.A x.n x.c,.slice x.B x.m x.d] from rfl]
       clear F4 K4 rx tY gY
       have F7:=K7.facts
       simp only [zg] at F7
       have K8:=K7.store 4 rfl 5 (.slice (some ⟨w6.heap.size,0,none⟩) 1 1)
       simp only [zl] at K8
       clear K7
       go_wp2_with fail
       go_meet
       exact ⟨⟨some ⟨w6.heap.size,0,none⟩,1,1,[x]⟩,Vn hx,(K8.add (XD (K8.get 0 rfl) rfl (K8.ro 1 rfl))).pick [5,0,3,4,10,14] (by decide) rfl⟩
      ·go_wp2_with fail
       go_meet
       exact ⟨SlP.nil,Vs,(K4.add (S:=Z0 (n+2) SlP.nil) (fun w2 _ _=>SlP.Zi _ _ _ w2)).pick [3,0,1,2,8,12] (by decide) rfl⟩
     case rest=>
      obtain ⟨⟨hA,hN,hC,hl⟩,hwh,K5⟩:=hcut
      clear K4 F4
      simp only at K5
      have F5:=K5.facts
      simp only [zg] at F5
      have K7:=(((((((K5.store 4 rfl 0 (.int .i64 2)).store 4 rfl 1 (.string snm)).store 4 rfl 2 (.slice none 0 0)).store 4 rfl 3 (.slice none 0 0)).store 4 rfl 4 (.slice O i cap)).store 4 rfl 5 (.slice hA hN hC)).store 4 rfl 6 (.string ⟨#[]⟩))
      simp only [zl] at K7
      have F7:=K7.facts
      simp only [zg] at F7
      have hcap:=Yx (K5.get 2 rfl)
      have hlen:=(K5.get 2 rfl).1
      rw [show (Xq outs).length=outs.length * 11 from Yu Se.cells 11 (fun _=>rfl) outs] at hlen
      have KZ:=K7.ZC 2 rfl
      simp only [zl] at KZ
      have hR:Ro _ _ (AcIn (n+3) ⟨2,snm,SlP.nil,SlP.nil,⟨O,i,cap,outs⟩,⟨hA,hN,hC,hl⟩,⟨#[]⟩⟩):=((KZ.ro 1 rfl).and ((KZ.ro 2 rfl).and (KZ.ro 3 rfl))).imp fun w2 h2=>⟨SlP.Zi _ _ _ w2,SlP.Zi _ _ _ w2,⟨h2.2.1,h2.2.2⟩,h2.1.1,fun a ha=>(h2.1.2 a ha).le (by omega)⟩
      have HR:=hid (hR.less zm)
      have HT:=hid (And.intro (KZ.tp_ 5 rfl) KZ.grow)
      have HGD:=hid (show AcGd (n+3) ⟨2,snm,SlP.nil,SlP.nil,⟨O,i,cap,outs⟩,⟨hA,hN,hC,hl⟩,⟨#[]⟩⟩ from ⟨⟨by simp,by simp⟩,LsOk.nil _ _,LsOk.nil _ _,⟨⟨hcap.1,hcap.2.1⟩,by show outs.length≤8;omega,hgd⟩,⟨hwh.1,hwh.2.1,fun a ha=>(hwh.2.2 a ha).le (by omega)⟩⟩)
      clear K5 K7 KZ hR
      go_wp2_with fail
      refine bodyPost_ret (v:=.agg #[.int .i64 2,.string snm,.slice none 0 0,.slice none 0 0,.slice O i cap,.slice hA hN hC,.string ⟨#[]⟩]) ?_ rfl ?_
      ·clear HT HR HGD
       simp [results,Tryz.results159,go_sem,F7]
      ·exact ⟨⟨2,snm,SlP.nil,SlP.nil,⟨O,i,cap,outs⟩,⟨hA,hN,hC,hl⟩,⟨#[]⟩⟩,rfl,HGD.out,HR.out,HT.out.1,HT.out.2⟩
   ·go_wp2_with fail
    refine (ZZ T 4 _ (K1.tp_ 11 rfl) (by omega) (by omega)).mono ?_
    rintro e w7 ⟨b,rfl,t7,g7⟩
    have K4:=Hold.Zf K1 11 rfl g7 t7
    clear K1 F g7 t7
    have F4:=K4.facts
    simp only [zg] at F4
    go_upto_if 167 with (fail)
    go_cut [] (fun wx=>∃ wh:SlP Ex,XR (n+2) wh∧Hold M (some T) w wx [.blk ga 97 #[.int .i64 2,.string snm,.slice none 0 0,.slice none 0 0,.slice O i cap,.slice wh.A wh.n wh.c,.string ⟨#[]⟩],.ro (Z0 (n+2) wh),.own 128 11 (.slice O i cap) i (Xq outs),.ro (fun w=>∀ s∈outs,ExIn (n+3) s.e w),.blk gr 97 #[.int .i64 0,.string ⟨#[]⟩,.slice none 0 0,.slice none 0 0,.slice none 0 0,.slice none 0 0,.string ⟨#[]⟩],.tp T])
    case first=>
     cases b
     ·go_wp2_with fail
      refine (HE (Mut M _) T _ K4.Zc (K4.tp_ 11 rfl) (K4.get 11 rfl).2 ⟨⟨A9,fn+1,c9,fl2⟩,⟨sA,sn,sc,sl⟩⟩ 2 depth ((K4.ro 4 rfl).less (Zj (i:=11) rfl)) ((K4.ro 10 rfl).less (Zj (i:=11) rfl)) hT HIN.out hd hd2).mono ?_
      rintro e w6 ⟨x,rfl,hx,rx,tY,gY⟩
      have K7:=((Hold.Zf K4 11 rfl gY tY).add rx).Za #[.int .i64 x.kind,.int .i64 x.op,.bool x.nt,.int .i64 x.v.k,.int .i64 x.v.i,.string x.v.s,.string x.tab,.string x.nm,.slice x.A x.n x.c,.slice x.B x.m x.d] 126
      rw [show x.val=.agg #[.int .i64 x.kind,.int .i64 x.op,.bool x.nt,.int .i64 x.v.k,.int .i64 x.v.i,.string x.v.s,.string x.tab,.string x.nm,.slice x.A x.n x.c,.slice x.B x.m x.d] from rfl]
      clear F4 K4 rx tY gY
      have F7:=K7.facts
      simp only [zg] at F7
      have K8:=K7.store 4 rfl 5 (.slice (some ⟨w6.heap.size,0,none⟩) 1 1)
      simp only [zl] at K8
      clear K7
      go_wp2_with fail
      go_meet
      exact ⟨⟨some ⟨w6.heap.size,0,none⟩,1,1,[x]⟩,Vn hx,(K8.add (XD (K8.get 0 rfl) rfl (K8.ro 1 rfl))).pick [5,0,3,4,10,14] (by decide) rfl⟩
     ·go_wp2_with fail
      go_meet
      exact ⟨SlP.nil,Vs,(K4.add (S:=Z0 (n+2) SlP.nil) (fun w2 _ _=>SlP.Zi _ _ _ w2)).pick [3,0,1,2,8,12] (by decide) rfl⟩
    case rest=>
     obtain ⟨⟨hA,hN,hC,hl⟩,hwh,K5⟩:=hcut
     clear K4 F4
     simp only at K5
     have F5:=K5.facts
     simp only [zg] at F5
     have K7:=(((((((K5.store 4 rfl 0 (.int .i64 2)).store 4 rfl 1 (.string snm)).store 4 rfl 2 (.slice none 0 0)).store 4 rfl 3 (.slice none 0 0)).store 4 rfl 4 (.slice O i cap)).store 4 rfl 5 (.slice hA hN hC)).store 4 rfl 6 (.string ⟨#[]⟩))
     simp only [zl] at K7
     have F7:=K7.facts
     simp only [zg] at F7
     have hcap:=Yx (K5.get 2 rfl)
     have hlen:=(K5.get 2 rfl).1
     rw [show (Xq outs).length=outs.length * 11 from Yu Se.cells 11 (fun _=>rfl) outs] at hlen
     have KZ:=K7.ZC 2 rfl
     simp only [zl] at KZ
     have hR:Ro _ _ (AcIn (n+3) ⟨2,snm,SlP.nil,SlP.nil,⟨O,i,cap,outs⟩,⟨hA,hN,hC,hl⟩,⟨#[]⟩⟩):=((KZ.ro 1 rfl).and ((KZ.ro 2 rfl).and (KZ.ro 3 rfl))).imp fun w2 h2=>⟨SlP.Zi _ _ _ w2,SlP.Zi _ _ _ w2,⟨h2.2.1,h2.2.2⟩,h2.1.1,fun a ha=>(h2.1.2 a ha).le (by omega)⟩
     have HR:=hid (hR.less zm)
     have HT:=hid (And.intro (KZ.tp_ 5 rfl) KZ.grow)
     have HGD:=hid (show AcGd (n+3) ⟨2,snm,SlP.nil,SlP.nil,⟨O,i,cap,outs⟩,⟨hA,hN,hC,hl⟩,⟨#[]⟩⟩ from ⟨⟨by simp,by simp⟩,LsOk.nil _ _,LsOk.nil _ _,⟨⟨hcap.1,hcap.2.1⟩,by show outs.length≤8;omega,hgd⟩,⟨hwh.1,hwh.2.1,fun a ha=>(hwh.2.2 a ha).le (by omega)⟩⟩)
     clear K5 K7 KZ hR
     go_wp2_with fail
     refine bodyPost_ret (v:=.agg #[.int .i64 2,.string snm,.slice none 0 0,.slice none 0 0,.slice O i cap,.slice hA hN hC,.string ⟨#[]⟩]) ?_ rfl ?_
     ·clear HT HR HGD
      simp [results,Tryz.results159,go_sem,F7]
     ·exact ⟨⟨2,snm,SlP.nil,SlP.nil,⟨O,i,cap,outs⟩,⟨hA,hN,hC,hl⟩,⟨#[]⟩⟩,rfl,HGD.out,HR.out,HT.out.1,HT.out.2⟩
 ·go_wp2_with fail
  refine (ZZ T 4 _ (KA.tp_ 9 rfl) (by omega) (by omega)).mono ?_
  rintro e w7 ⟨b,rfl,t7,g7⟩
  have K4:=Hold.Zf KA 9 rfl g7 t7
  clear KA F g7 t7
  have F4:=K4.facts
  simp only [zg] at F4
  go_upto_if 167 with (fail)
  go_cut [] (fun wx=>∃ wh:SlP Ex,XR (n+2) wh∧Hold M (some T) w wx [.blk ga 97 #[.int .i64 3,.string snm,.slice none 0 0,.slice none 0 0,.slice none 0 0,.slice wh.A wh.n wh.c,.string ⟨#[]⟩],.ro (Z0 (n+2) wh),.blk gr 97 #[.int .i64 0,.string ⟨#[]⟩,.slice none 0 0,.slice none 0 0,.slice none 0 0,.slice none 0 0,.string ⟨#[]⟩],.tp T])
  case first=>
   cases b
   ·go_wp2_with fail
    refine (HE (Mut M _) T _ K4.Zc (K4.tp_ 9 rfl) (K4.get 9 rfl).2 ⟨⟨A9,fn+1,c9,fl2⟩,⟨sA,sn,sc,sl⟩⟩ 2 depth ((K4.ro 2 rfl).less (Zj (i:=9) rfl)) ((K4.ro 8 rfl).less (Zj (i:=9) rfl)) hT HIN.out hd hd2).mono ?_
    rintro e w6 ⟨x,rfl,hx,rx,tY,gY⟩
    have K7:=((Hold.Zf K4 9 rfl gY tY).add rx).Za #[.int .i64 x.kind,.int .i64 x.op,.bool x.nt,.int .i64 x.v.k,.int .i64 x.v.i,.string x.v.s,.string x.tab,.string x.nm,.slice x.A x.n x.c,.slice x.B x.m x.d] 126
    rw [show x.val=.agg #[.int .i64 x.kind,.int .i64 x.op,.bool x.nt,.int .i64 x.v.k,.int .i64 x.v.i,.string x.v.s,.string x.tab,.string x.nm,.slice x.A x.n x.c,.slice x.B x.m x.d] from rfl]
    clear F4 K4 rx tY gY
    have F7:=K7.facts
    simp only [zg] at F7
    have K8:=K7.store 2 rfl 5 (.slice (some ⟨w6.heap.size,0,none⟩) 1 1)
    simp only [zl] at K8
    clear K7
    go_wp2_with fail
    go_meet
    exact ⟨⟨some ⟨w6.heap.size,0,none⟩,1,1,[x]⟩,Vn hx,(K8.add (XD (K8.get 0 rfl) rfl (K8.ro 1 rfl))).pick [3,0,8,12] (by decide) rfl⟩
   ·go_wp2_with fail
    go_meet
    exact ⟨SlP.nil,Vs,(K4.add (S:=Z0 (n+2) SlP.nil) (fun w2 _ _=>SlP.Zi _ _ _ w2)).pick [1,0,6,10] (by decide) rfl⟩
  case rest=>
   obtain ⟨⟨hA,hN,hC,hl⟩,hwh,K5⟩:=hcut
   clear K4 F4
   simp only at K5
   have F5:=K5.facts
   simp only [zg] at F5
   have K7:=(((((((K5.store 2 rfl 0 (.int .i64 3)).store 2 rfl 1 (.string snm)).store 2 rfl 2 (.slice none 0 0)).store 2 rfl 3 (.slice none 0 0)).store 2 rfl 4 (.slice none 0 0)).store 2 rfl 5 (.slice hA hN hC)).store 2 rfl 6 (.string ⟨#[]⟩))
   simp only [zl] at K7
   have F7:=K7.facts
   simp only [zg] at F7
   have KZ:=K7
   have hR:Ro _ _ (AcIn (n+3) ⟨3,snm,SlP.nil,SlP.nil,SlP.nil,⟨hA,hN,hC,hl⟩,⟨#[]⟩⟩):=(KZ.ro 1 rfl).imp fun w2 h2=>⟨SlP.Zi _ _ _ w2,SlP.Zi _ _ _ w2,SlP.Zi _ _ _ w2,h2.1,fun a ha=>(h2.2 a ha).le (by omega)⟩
   have HR:=hid (hR.less zm)
   have HT:=hid (And.intro (KZ.tp_ 3 rfl) KZ.grow)
   have HGD:=hid (show AcGd (n+3) ⟨3,snm,SlP.nil,SlP.nil,SlP.nil,⟨hA,hN,hC,hl⟩,⟨#[]⟩⟩ from ⟨⟨by simp,by simp⟩,LsOk.nil _ _,LsOk.nil _ _,LsOk.nil _ _,⟨hwh.1,hwh.2.1,fun a ha=>(hwh.2.2 a ha).le (by omega)⟩⟩)
   clear K5 K7 KZ hR
   go_wp2_with fail
   refine bodyPost_ret (v:=.agg #[.int .i64 3,.string snm,.slice none 0 0,.slice none 0 0,.slice none 0 0,.slice hA hN hC,.string ⟨#[]⟩]) ?_ rfl ?_
   ·clear HT HR HGD
    simp [results,Tryz.results159,go_sem,F7]
   ·exact ⟨⟨3,snm,SlP.nil,SlP.nil,SlP.nil,⟨hA,hN,hC,hl⟩,⟨#[]⟩⟩,rfl,HGD.out,HR.out,HT.out.1,HT.out.2⟩
end Go.Proofs.YtnbbllkbefagmaaGreatDoor

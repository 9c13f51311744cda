import Derived.Test.YtnmnkbnmollpmaaGreatDoorBdDscSaidMT
import Derived.Test.YtnmnkbnmollpmaaGreatDoorBdDscSaidMR
set_option linter.unusedVariables false
set_option linter.unusedSimpArgs false
set_option maxHeartbeats 64000000
set_option maxRecDepth 100000
namespace Go.Proofs.YtnmnkbnmollpmaaGreatDoor
section
open Go.RowKit
def Vb (d:Nat) (q:Qu):Prop:=(q.n≤q.c∧q.c≤9223372036854775807∧q.m≤q.d∧q.d≤9223372036854775807)∧(q.items.length≤8∧q.wh.length≤1)∧(∀ a∈q.items,Yw d a)∧∀ a∈q.wh,Yw d a
def uEx (_:Ex):Unit:=()
def uQu (_:Qu):Unit:=()
theorem Tryz.ZgA:ElemT Tryz.prog 32 184 4 72 (.agg #[.bool false,.slice none 0 0,.string ⟨#[]⟩,.slice none 0 0]):=⟨Tryz.underlying32,by kernel_rfl,rfl,by omega⟩
theorem X6 {α β:Type} {f:α→β} {k l:List α} (h:k.map f=l.map f):k.length=l.length:=by simpa using congrArg List.length h
def Zg1 (d:Nat) (M:Nat→Prop) (x:Ex) (w:World) (e:Ending) (w' :World):Prop:=∃ y:Ex,e=.returned (.agg #[.int .i64 y.kind,.int .i64 y.op,.bool y.nt,.int .i64 y.v.k,.int .i64 y.v.i,.string y.v.s,.string y.tab,.string y.nm,.slice y.A y.n y.c,.slice y.B y.m y.d])∧Yw d y∧uEx y=uEx x∧Ro w' M (ExIn d y)∧Below w.heap.size w w'
def exE (d:Nat):Prop:=∀ (M:Nat→Prop) (w:World) (hM:∀ b,M b→b<w.heap.size) (x:Ex) (hx:Ro w M (ExIn d x)) (hg:Yw d x),Calls Tryz.prog 211 #[.agg #[.int .i64 x.kind,.int .i64 x.op,.bool x.nt,.int .i64 x.v.k,.int .i64 x.v.i,.string x.v.s,.string x.tab,.string x.nm,.slice x.A x.n x.c,.slice x.B x.m x.d]] w fun e w' =>Zg1 d M x w e w'
def Zjx (d:Nat) (M:Nat→Prop) (x:Qu) (w:World) (e:Ending) (w' :World):Prop:=∃ y:Qu,e=.returned (.agg #[.bool y.star,.slice y.A y.n y.c,.string y.src,.slice y.B y.m y.d])∧Vb d y∧uQu y=uQu x∧Ro w' M (QuIn d y)∧Below w.heap.size w w'
def qyE (d:Nat):Prop:=∀ (M:Nat→Prop) (w:World) (hM:∀ b,M b→b<w.heap.size) (x:Qu) (hx:Ro w M (QuIn d x)) (hg:Vb d x),Calls Tryz.prog 214 #[.agg #[.bool x.star,.slice x.A x.n x.c,.string x.src,.slice x.B x.m x.d]] w fun e w' =>Zjx d M x w e w'
def Za9 (d:Nat) (M:Nat→Prop) (n:Nat) (l:List Ex) (w:World) (e:Ending) (w' :World):Prop:=∃ (B:Option Addr) (q:Nat) (k:List Ex),e=.returned (.slice B n q)∧(n≤q∧q≤9223372036854775807)∧k.map uEx=l.map uEx∧(∀ x∈k,Yw d x)∧Ro w' M (fun w=>SlR 10 B n (k.flatMap Ex.cells) w∧∀ x∈k,ExIn d x w)∧Below w.heap.size w w'
def exL (d:Nat):Prop:=∀ (M:Nat→Prop) (w:World) (hM:∀ b,M b→b<w.heap.size) (A:Option Addr) (n c:Nat) (l:List Ex) (hD:Ro w M (fun w=>SlR 10 A n (l.flatMap Ex.cells) w∧∀ x∈l,ExIn d x w)) (hn:n≤1000) (hg:∀ x∈l,Yw d x),Calls Tryz.prog 210 #[.slice A n c,.func (.func 211) #[] #[]] w fun e w' =>Za9 d M n l w e w'
theorem GH {d:Nat} (HE:exE d):exL d:=by
 intro M w hM A n c l hD hn hg
 have HL:=hid (show l.length=n from by
  have h:=(show Rd _ _ 10 A n (l.flatMap Ex.cells) from hD.now.1).1
  rw [YL Ex.cells 10 (fun _=>rfl)] at h
  omega)
 have HG:=hid hg
 have K0:=(((Hold.start M w hM).add (hD.less (by simp [Mut]))).add (S:=fun w=>∀ x∈([]:List Ex),ExIn d x w) (fun w2 _ _ x hx=>(nomatch hx))).nil 34 10
 clear hD hg
 go_enter Tryz.func210,Tryz.ntmps210
 go_wp2_with fail
 go_loopw [5,10] (fun ov iv wr=>∃ (j cap:Nat) (O:Option Addr) (outs:List Ex),j≤n∧iv=.int .i64 j∧ov=.slice O j cap∧Hid (outs.map uEx=(l.take j).map uEx∧∀ x∈outs,Yw d x)∧Hold M none w wr [.own 34 10 (.slice O j cap) j (outs.flatMap Ex.cells),.ro (fun w=>∀ x∈outs,ExIn d x w),.ro (fun w=>SlR 10 A n (l.flatMap Ex.cells) w∧∀ x∈l,ExIn d x w)]) (fun _ iv _=>n - (intOf iv).toNat)
 case atStart=>exact ⟨0,0,none,[],by omega,rfl,rfl,hid ⟨rfl,fun x hx=>(nomatch hx)⟩,K0⟩
 case round=>
  clear K0
  obtain ⟨j,cap,O,outs,hj,rfl,rfl,HO,H⟩:=hrel
  by_cases hlt:j<n
  ·obtain ⟨x,hx⟩:=Zl HL.out hlt
   obtain ⟨b,o,rfl,hb,hc⟩:=(show ∃ b o,A=some ⟨b,o,none⟩∧b<wr.heap.size∧∀ q u,q<10→(Ex.cells x)[q]? =some u→World.cell? wr ⟨b,o+j * 10+q,none⟩=some u from by
    obtain ⟨b,o,e,hb,hcl⟩:=(show Rd _ _ 10 A n (l.flatMap Ex.cells) from (H.ro 2 rfl).now.1).2 (by omega)
    refine ⟨b,o,e,hb,fun q u hq hu=>?_⟩
    rw [Nat.add_assoc]
    exact hcl _ _ ((flat_get Ex.cells 10 (fun _=>rfl) l j q _ hq hx).trans hu))
   have x0:=hc 0 _ (by omega) rfl
   have x1:=hc 1 _ (by omega) rfl
   have x2:=hc 2 _ (by omega) rfl
   have x3:=hc 3 _ (by omega) rfl
   have x4:=hc 4 _ (by omega) rfl
   have x5:=hc 5 _ (by omega) rfl
   have x6:=hc 6 _ (by omega) rfl
   have x7:=hc 7 _ (by omega) rfl
   have x8:=hc 8 _ (by omega) rfl
   have x9:=hc 9 _ (by omega) rfl
   simp only [Nat.add_zero,Nat.mul_one,SlP.v] at x0 x1 x2 x3 x4 x5 x6 x7 x8 x9
   have hm:=Ka hx
   have HX:=hid hx
   clear hc hx
   have K1:=H.Za #[.int .i64 x.kind,.int .i64 x.op,.bool x.nt,.int .i64 x.v.k,.int .i64 x.v.i,.string x.v.s,.string x.tab,.string x.nm,.slice x.A x.n x.c,.slice x.B x.m x.d] 34
   have F1:=K1.facts
   simp only [zg] at F1
   clear H
   go_wp2_with fail
   clear F1 x0 x1 x2 x3 x4 x5 x6 x7 x8 x9
   refine (HE (Mut M _) _ K1.Zb x (((K1.ro 3 rfl).imp fun w2 h2=>h2.2 x hm)) (HG.out x hm)).mono ?_
   rintro e w2 ⟨y,rfl,hy,hyg,ry,b2⟩
   have HY:=hid (KJ hy hyg)
   have K2:=(K1.call b2).add ry
   clear K1 b2 ry hy hyg
   skip
   go_wp2_with (at_builtin;go_must (refine ZJ K2 2 rfl Tryz.Zgz #[.int .i64 y.kind,.int .i64 y.op,.bool y.nt,.int .i64 y.v.k,.int .i64 y.v.i,.string y.v.s,.string y.tab,.string y.nm,.slice y.A y.n y.c,.slice y.B y.m y.d] rfl (.tmp 14) (.tmp 18) rfl rfl _ (by first|rfl|simp) rfl rfl (by intro u hu;simp at hu;rcases hu with rfl|rfl|rfl|rfl|rfl|rfl|rfl|rfl|rfl|rfl<;>rfl) (by omega) (by omega) ?_);intro gA capA wA hcA hmA KA;simp only [zl] at KA)
   rw [show outs.flatMap Ex.cells++(#[.int .i64 y.kind,.int .i64 y.op,.bool y.nt,.int .i64 y.v.k,.int .i64 y.v.i,.string y.v.s,.string y.tab,.string y.nm,.slice y.A y.n y.c,.slice y.B y.m y.d]:Array Value).toList=(outs++[y]).flatMap Ex.cells from by simp [Ex.cells]] at KA
   have hR:Ro _ _ (fun w=>∀ x∈outs++[y],ExIn d x w):=((KA.ro 3 rfl).and (KA.ro 0 rfl)).imp fun w2 h2 z hz=>by
    rcases Kk.1 hz with hz|hz
    ·exact h2.1 z hz
    ·simp only [List.mem_cons,List.not_mem_nil,or_false] at hz
     subst hz
     exact h2.2
   have KB:=(KA.ZT 3 rfl hR).pick [2,3,4] (by decide) rfl
   simp only [List.set_cons_zero,List.set_cons_succ,List.filterMap_cons,List.filterMap_nil,List.getElem?_cons_zero,List.getElem?_cons_succ] at KB
   go_roundw
   case rel=>exact ⟨j+1,capA,_,outs++[y],by omega,by go_num,by first|rfl|trivial,hid ⟨Ur HO.out.1 HX.out (by first|exact HY.out.2|rfl),fun z hz=>by
    rcases Kk.1 hz with hz|hz
    ·exact HO.out.2 z hz
    ·simp only [List.mem_cons,List.not_mem_nil,or_false] at hz
     subst hz
     exact HY.out.1⟩,KB⟩
   case measure=>simp [intOf];omega
  ·obtain rfl:n=j:=by omega
   have hcap:=ZM (H.get 0 rfl)
   have KZ:=H.Zq 0 rfl
   simp only [List.set_cons_zero] at KZ
   have HRO:=hid (((KZ.ro 0 rfl).and (KZ.ro 1 rfl)).less zm)
   have HB:=hid KZ.below
   clear KZ H
   go_wp2_with fail
   go_ret
   exact ⟨O,cap,outs,rfl,⟨hcap.1,hcap.2.1⟩,by rw [HO.out.1,Kh (by rw [HL.out];exact Kg _)],HO.out.2,HRO.out.imp fun w2 h2=>⟨h2.1,h2.2⟩,HB.out⟩
def Zjz (d:Nat) (M:Nat→Prop) (n:Nat) (l:List Qu) (w:World) (e:Ending) (w' :World):Prop:=∃ (B:Option Addr) (q:Nat) (k:List Qu),e=.returned (.slice B n q)∧(n≤q∧q≤9223372036854775807)∧k.map uQu=l.map uQu∧(∀ x∈k,Vb d x)∧Ro w' M (fun w=>SlR 4 B n (k.flatMap Qu.cells) w∧∀ x∈k,QuIn d x w)∧Below w.heap.size w w'
def qyL (d:Nat):Prop:=∀ (M:Nat→Prop) (w:World) (hM:∀ b,M b→b<w.heap.size) (A:Option Addr) (n c:Nat) (l:List Qu) (hD:Ro w M (fun w=>SlR 4 A n (l.flatMap Qu.cells) w∧∀ x∈l,QuIn d x w)) (hn:n≤1000) (hg:∀ x∈l,Vb d x),Calls Tryz.prog 213 #[.slice A n c,.func (.func 214) #[] #[]] w fun e w' =>Zjz d M n l w e w'
theorem Zcq {d:Nat} (HE:qyE d):qyL d:=by
 intro M w hM A n c l hD hn hg
 have HL:=hid (show l.length=n from by
  have h:=(show Rd _ _ 4 A n (l.flatMap Qu.cells) from hD.now.1).1
  rw [YL Qu.cells 4 (fun _=>rfl)] at h
  omega)
 have HG:=hid hg
 have K0:=(((Hold.start M w hM).add (hD.less (by simp [Mut]))).add (S:=fun w=>∀ x∈([]:List Qu),QuIn d x w) (fun w2 _ _ x hx=>(nomatch hx))).nil 184 4
 clear hD hg
 go_enter Tryz.func213,Tryz.ntmps213
 go_wp2_with fail
 go_loopw [5,10] (fun ov iv wr=>∃ (j cap:Nat) (O:Option Addr) (outs:List Qu),j≤n∧iv=.int .i64 j∧ov=.slice O j cap∧Hid (outs.map uQu=(l.take j).map uQu∧∀ x∈outs,Vb d x)∧Hold M none w wr [.own 184 4 (.slice O j cap) j (outs.flatMap Qu.cells),.ro (fun w=>∀ x∈outs,QuIn d x w),.ro (fun w=>SlR 4 A n (l.flatMap Qu.cells) w∧∀ x∈l,QuIn d x w)]) (fun _ iv _=>n - (intOf iv).toNat)
 case atStart=>exact ⟨0,0,none,[],by omega,rfl,rfl,hid ⟨rfl,fun x hx=>(nomatch hx)⟩,K0⟩
 case round=>
  clear K0
  obtain ⟨j,cap,O,outs,hj,rfl,rfl,HO,H⟩:=hrel
  by_cases hlt:j<n
  ·obtain ⟨x,hx⟩:=Zl HL.out hlt
   obtain ⟨b,o,rfl,hb,hc⟩:=(show ∃ b o,A=some ⟨b,o,none⟩∧b<wr.heap.size∧∀ q u,q<4→(Qu.cells x)[q]? =some u→World.cell? wr ⟨b,o+j * 4+q,none⟩=some u from by
    obtain ⟨b,o,e,hb,hcl⟩:=(show Rd _ _ 4 A n (l.flatMap Qu.cells) from (H.ro 2 rfl).now.1).2 (by omega)
    refine ⟨b,o,e,hb,fun q u hq hu=>?_⟩
    rw [Nat.add_assoc]
    exact hcl _ _ ((flat_get Qu.cells 4 (fun _=>rfl) l j q _ hq hx).trans hu))
   have x0:=hc 0 _ (by omega) rfl
   have x1:=hc 1 _ (by omega) rfl
   have x2:=hc 2 _ (by omega) rfl
   have x3:=hc 3 _ (by omega) rfl
   simp only [Nat.add_zero,Nat.mul_one,SlP.v] at x0 x1 x2 x3
   have hm:=Ka hx
   have HX:=hid hx
   clear hc hx
   have K1:=H.Za #[.bool x.star,.slice x.A x.n x.c,.string x.src,.slice x.B x.m x.d] 184
   have F1:=K1.facts
   simp only [zg] at F1
   clear H
   go_wp2_with fail
   clear F1 x0 x1 x2 x3
   refine (HE (Mut M _) _ K1.Zb x (((K1.ro 3 rfl).imp fun w2 h2=>h2.2 x hm)) (HG.out x hm)).mono ?_
   rintro e w2 ⟨y,rfl,hy,hyg,ry,b2⟩
   have HY:=hid (KJ hy hyg)
   have K2:=(K1.call b2).add ry
   clear K1 b2 ry hy hyg
   skip
   go_wp2_with (at_builtin;go_must (refine ZJ K2 2 rfl Tryz.ZgA #[.bool y.star,.slice y.A y.n y.c,.string y.src,.slice y.B y.m y.d] rfl (.tmp 14) (.tmp 18) rfl rfl _ (by first|rfl|simp) rfl rfl (by intro u hu;simp at hu;rcases hu with rfl|rfl|rfl|rfl<;>rfl) (by omega) (by omega) ?_);intro gA capA wA hcA hmA KA;simp only [zl] at KA)
   rw [show outs.flatMap Qu.cells++(#[.bool y.star,.slice y.A y.n y.c,.string y.src,.slice y.B y.m y.d]:Array Value).toList=(outs++[y]).flatMap Qu.cells from by simp [Qu.cells]] at KA
   have hR:Ro _ _ (fun w=>∀ x∈outs++[y],QuIn d x w):=((KA.ro 3 rfl).and (KA.ro 0 rfl)).imp fun w2 h2 z hz=>by
    rcases Kk.1 hz with hz|hz
    ·exact h2.1 z hz
    ·simp only [List.mem_cons,List.not_mem_nil,or_false] at hz
     subst hz
     exact h2.2
   have KB:=(KA.ZT 3 rfl hR).pick [2,3,4] (by decide) rfl
   simp only [List.set_cons_zero,List.set_cons_succ,List.filterMap_cons,List.filterMap_nil,List.getElem?_cons_zero,List.getElem?_cons_succ] at KB
   go_roundw
   case rel=>exact ⟨j+1,capA,_,outs++[y],by omega,by go_num,by first|rfl|trivial,hid ⟨Ur HO.out.1 HX.out (by first|exact HY.out.2|rfl),fun z hz=>by
    rcases Kk.1 hz with hz|hz
    ·exact HO.out.2 z hz
    ·simp only [List.mem_cons,List.not_mem_nil,or_false] at hz
     subst hz
     exact HY.out.1⟩,KB⟩
   case measure=>simp [intOf];omega
  ·obtain rfl:n=j:=by omega
   have hcap:=ZM (H.get 0 rfl)
   have KZ:=H.Zq 0 rfl
   simp only [List.set_cons_zero] at KZ
   have HRO:=hid (((KZ.ro 0 rfl).and (KZ.ro 1 rfl)).less zm)
   have HB:=hid KZ.below
   clear KZ H
   go_wp2_with fail
   go_ret
   exact ⟨O,cap,outs,rfl,⟨hcap.1,hcap.2.1⟩,by rw [HO.out.1,Kh (by rw [HL.out];exact Kg _)],HO.out.2,HRO.out.imp fun w2 h2=>⟨h2.1,h2.2⟩,HB.out⟩
def ExlC (M:Nat→Prop) (d:Nat) (l:List Ex) (n:Nat) (u:Value) (w:World):Prop:=∃ (B:Option Addr) (q:Nat) (k:List Ex),u=.slice B n q∧(n≤q∧q≤9223372036854775807)∧k.map uEx=l.map uEx∧(∀ x∈k,Yw d x)∧Ro w M (fun w=>SlR 10 B n (k.flatMap Ex.cells) w∧∀ x∈k,ExIn d x w)
theorem ExlC.mono {M:Nat→Prop} {d:Nat} {l:List Ex} {n:Nat} (u:Value) (w w' :World) (hr:RM M w w') (h:ExlC M d l n u w):ExlC M d l n u w' :=by
 obtain ⟨B,q,k,h1,h2,h3,h4,h5⟩:=h
 exact ⟨B,q,k,h1,h2,h3,h4,hr.ro h5⟩
def QulC (M:Nat→Prop) (d:Nat) (l:List Qu) (n:Nat) (u:Value) (w:World):Prop:=∃ (B:Option Addr) (q:Nat) (k:List Qu),u=.slice B n q∧(n≤q∧q≤9223372036854775807)∧k.map uQu=l.map uQu∧(∀ x∈k,Vb d x)∧Ro w M (fun w=>SlR 4 B n (k.flatMap Qu.cells) w∧∀ x∈k,QuIn d x w)
theorem QulC.mono {M:Nat→Prop} {d:Nat} {l:List Qu} {n:Nat} (u:Value) (w w' :World) (hr:RM M w w') (h:QulC M d l n u w):QulC M d l n u w' :=by
 obtain ⟨B,q,k,h1,h2,h3,h4,h5⟩:=h
 exact ⟨B,q,k,h1,h2,h3,h4,hr.ro h5⟩
theorem Zg2 {d:Nat} (HEL:exL d) (HQL:qyL d):exE (d+1):=by
 intro M w hM x hx hg
 obtain ⟨kind,op,nt,v,tab,nm,A,n,c,args,B,m,dd,sub⟩:=x
 have HG:=hid (show Yw (d+1) ⟨kind,op,nt,v,tab,nm,A,n,c,args,B,m,dd,sub⟩ from hg)
 have hn3:n≤3:=by
  have h:=(show Rd _ _ 10 A n (XA args) from hx.now.1).1
  rw [U9] at h
  have h2:args.length≤3:=hg.2.1.2.1
  omega
 have hm1:m≤1:=by
  have h:=(show Rd _ _ 4 B m (Qm sub) from hx.now.2.2.1).1
  rw [Zjt] at h
  have h2:sub.length≤1:=hg.2.1.2.2
  omega
 clear hg
 have K0:=(((Hold.start M w hM).add (hx.less (by simp [Mut]))).alloc #[.int .i64 kind,.int .i64 op,.bool nt,.int .i64 v.k,.int .i64 v.i,.string v.s,.string tab,.string nm,.slice A n c,.slice B m dd] 34).alloc #[.int .i64 0,.int .i64 0,.bool false,.int .i64 0,.int .i64 0,.string ⟨#[]⟩,.string ⟨#[]⟩,.string ⟨#[]⟩,.slice none 0 0,.slice none 0 0] 34
 rw [KP] at K0
 obtain ⟨g1,hg1⟩:∃ g,g=w.heap.size:=⟨_,rfl⟩
 rw [←hg1] at K0
 obtain ⟨g2,hg2⟩:∃ g,g=g1+1:=⟨_,rfl⟩
 rw [←hg2] at K0
 have KB:=K0.pick (L' :=[.blk g1 34 #[.int .i64 kind,.int .i64 op,.bool nt,.int .i64 v.k,.int .i64 v.i,.string v.s,.string tab,.string nm,.slice A n c,.slice B m dd],.blk g2 34 #[.int .i64 0,.int .i64 0,.bool false,.int .i64 0,.int .i64 0,.string ⟨#[]⟩,.string ⟨#[]⟩,.string ⟨#[]⟩,.slice none 0 0,.slice none 0 0],.ro (ExIn (d+1) ⟨kind,op,nt,v,tab,nm,A,n,c,args,B,m,dd,sub⟩)]) [1,0,2] (by decide) rfl
 clear hx K0
 go_enter Tryz.func211,Tryz.ntmps211
 go_upto_region 1 with fail
 rw [←hg1]
 try rw [←hg2]
 have HGX:=hid (KJ hg1 hg2)
 clear hg1 hg2
 generalize World.alloc _ _=w1 at KB ⊢
 obtain ⟨KM,hKM,K6⟩:=KB.name
 have H1:∀ wv:World,Hold M none w wv KM→Blk wv g1 34 #[.int .i64 kind,.int .i64 op,.bool nt,.int .i64 v.k,.int .i64 v.i,.string v.s,.string tab,.string nm,.slice A n c,.slice B m dd]:=fun wv h=>by rw [hKM] at h;exact h.Ym 0 rfl
 have H2:∀ wv:World,Hold M none w wv KM→Ro wv (Mut M KM) (fun w=>SlR 10 A n (args.flatMap Ex.cells) w∧∀ x∈args,ExIn d x w):=fun wv h=>by rw [hKM] at h ⊢;exact (h.ro 2 rfl).imp fun w2 h2=>⟨h2.1,h2.2.1⟩
 have H3:∀ wv:World,Hold M none w wv KM→Ro wv (Mut M KM) (fun w=>SlR 4 B m (sub.flatMap Qu.cells) w∧∀ x∈sub,QuIn d x w):=fun wv h=>by rw [hKM] at h ⊢;exact (h.ro 2 rfl).imp fun w2 h2=>⟨h2.2.2.1,h2.2.2.2⟩
 have HH1:=hid H1
 have HH2:=hid H2
 have HH3:=hid H3
 have HKM:=hid hKM
 clear hKM H1 H2 H3 KB
 refine Lj (by kernel_rfl) ?_
 refine Zn 7 12 (KM) (spL [(5,ExlC (Mut M KM) d args n),(8,QulC (Mut M KM) d sub m)]) (by kernel_rfl) (by kernel_rfl) (by kernel_rfl) rfl ?_ (K6.drew) ?_
 ·exact Zd ExlC.mono (Zd QulC.mono (Zm _))
 simp only [zd,zp,List.getElem_toArray,List.getElem_cons_zero,List.getElem_cons_succ]
 refine' dv rfl rfl rfl (fun wv HC=>?_) ?_;rotate_left
 · go_simp<;>rfl
 simp only [zp]
 refine' dv rfl rfl rfl (fun wv HC=>?_) ?_;rotate_left
 ·have q0:=(HH1.out _ HC).cell 8;go_simp<;>rfl
 simp only [zp]
 refine Zi 5 (ExlC (Mut M KM) d args n) (f:=210) (args:=#[.slice A n c,.func (.func 211) #[] #[]]) rfl rfl rfl rfl (fun wv=>?_) (fun wv HC hrm hD=>?_) ?_
 ·go_simp<;>rfl
 ·refine (HEL (Mut M KM) wv HC.Zb A n c args (HH2.out _ HC) (by omega) HG.out.2.2.1).mono ?_
  rintro e w5 ⟨B0,q0,k0,rfl,hq,hk,hg,rk,b5⟩
  exact ⟨_,rfl,⟨B0,q0,k0,rfl,hq,hk,hg,rk⟩,HC.call b5,RM.below b5⟩
 rintro u wx HCx ⟨B0,q0,k0',rfl,-,-,-,-⟩
 clear HCx
 simp only [zp]
 refine' dv rfl rfl rfl (fun wv HC=>?_) ?_;rotate_left
 · go_simp<;>rfl
 simp only [zp]
 refine' dv rfl rfl rfl (fun wv HC=>?_) ?_;rotate_left
 ·have q0:=(HH1.out _ HC).cell 9;go_simp<;>rfl
 simp only [zp]
 refine Zi 8 (QulC (Mut M KM) d sub m) (f:=213) (args:=#[.slice B m dd,.func (.func 214) #[] #[]]) rfl rfl rfl rfl (fun wv=>?_) (fun wv HC hrm hD=>?_) ?_
 ·go_simp<;>rfl
 ·refine (HQL (Mut M KM) wv HC.Zb B m dd sub (HH3.out _ HC) (by omega) (fun q hq=>HG.out.2.2.2 q hq)).mono ?_
  rintro e w5 ⟨B1,q1,k1,rfl,hq,hk,hg,rk,b5⟩
  exact ⟨_,rfl,⟨B1,q1,k1,rfl,hq,hk,hg,rk⟩,HC.call b5,RM.below b5⟩
 rintro u wx HCx ⟨B1,q1,k1',rfl,-,-,-,-⟩
 clear HCx
 simp only [zp]
 refine' dv rfl rfl rfl (fun wv HC=>?_) ?_;rotate_left
 · go_simp<;>rfl
 simp only [zp]
 refine Zk ?_
 rintro wx3 HX
 rintro _hrm HGW
 have c0:ExlC (Mut M KM) d args n (.slice B0 n q0) wx3:=(Zo (d:=5) rfl).1 (HGW 2 _ rfl (by omega))
 obtain ⟨B0',q0',k0,e0,hq0,hk0,hg0,rk0⟩:=c0
 obtain ⟨rfl,rfl⟩:B0=B0' ∧q0=q0' :=by injection e0 with e1 e2 e3;exact ⟨e1,e3⟩
 clear e0
 have c1:QulC (Mut M KM) d sub m (.slice B1 m q1) wx3:=(Zo (d:=8) rfl).1 (HGW 5 _ rfl (by omega))
 obtain ⟨B1',q1',k1,e1,hq1,hk1,hg1,rk1⟩:=c1
 obtain ⟨rfl,rfl⟩:B1=B1' ∧q1=q1' :=by injection e1 with e1 e2 e3;exact ⟨e1,e3⟩
 clear e1
 clear HGW _hrm
 have K7:=((HX.add rk0).add (rk1.less (by simp [ZL,Hp.foot])))
 rw [HKM.out] at K7
 have F7:=K7.facts
 simp only [zg] at F7
 have K8:=K7.store 2 rfl 8 (.slice B0 n q0)
 simp only [zl] at K8
 have F8:=K8.facts
 simp only [zg] at F8
 have K9:=K8.store 2 rfl 9 (.slice B1 m q1)
 simp only [zl] at K9
 have F9:=K9.facts
 simp only [zg] at F9
 have K10:=((((((((((K9.store 3 rfl 0 (.int .i64 kind)).store 3 rfl 1 (.int .i64 op)).store 3 rfl 2 (.bool nt)).store 3 rfl 3 (.int .i64 v.k)).store 3 rfl 4 (.int .i64 v.i)).store 3 rfl 5 (.string v.s)).store 3 rfl 6 (.string tab)).store 3 rfl 7 (.string nm)).store 3 rfl 8 (.slice B0 n q0)).store 3 rfl 9 (.slice B1 m q1))
 simp only [zl] at K10
 have F10:=K10.facts
 simp only [zg] at F10
 have HR0:=hid ((K10.ro 1 rfl).less zm)
 have HR1:=hid ((K10.ro 0 rfl).less zm)
 have HB:=hid K10.below
 clear K7 K8 K9 K10 HX rk0 rk1 HH1 HH2 HH3 HKM K6
 go_wp2_with fail
 refine Lh (v:=.agg #[.int .i64 kind,.int .i64 op,.bool nt,.int .i64 v.k,.int .i64 v.i,.string v.s,.string tab,.string nm,.slice B0 n q0,.slice B1 m q1]) ?_ rfl ?_
 ·clear HR0 HR1 HB
  simp [results,Tryz.results211,go_sem,F10]
 ·exact ⟨⟨kind,op,nt,v,tab,nm,B0,n,q0,k0,B1,m,q1,k1⟩,rfl,⟨⟨HG.out.1.1,HG.out.1.2.1,HG.out.1.2.2.1,HG.out.1.2.2.2.1,hq0.1,hq0.2,hq1.1,hq1.2⟩,⟨HG.out.2.1.1,by have:=X6 hk0;have:=HG.out.2.1.2.1;simp only at *;omega,by have:=X6 hk1;have:=HG.out.2.1.2.2;simp only at *;omega⟩,hg0,hg1⟩,rfl,(HR0.out.and HR1.out).imp fun w2 h2=>⟨h2.1.1,h2.1.2,h2.2.1,h2.2.2⟩,HB.out⟩
def Qa (d:Nat):Prop:=∀ (M:Nat→Prop) (w:World) (hM:∀ b,M b→b<w.heap.size) (A:Option Addr) (n c:Nat) (l:List Ex) (hD:Ro w M (fun w=>SlR 10 A n (l.flatMap Ex.cells) w∧∀ x∈l,ExIn d x w)) (hn:n≤1000) (hg:∀ x∈l,Yw d x),Calls Tryz.prog 184 #[.slice A n c] w fun e w' =>Za9 d M n l w e w'
theorem Zba {d:Nat} (HEL:exL d):Qa d:=by
 intro M w hM A n c l hD hn hg
 have HG:=hid hg
 have K0:=((Hold.start M w hM).add (hD.less (by simp [Mut])))
 clear hD hg
 go_enter Tryz.func184,Tryz.ntmps184
 go_wp2_with fail
 refine (HEL (Mut M _) _ K0.Zb A n c l (K0.ro 0 rfl) hn HG.out).mono ?_
 rintro e w2 ⟨C,q,k,rfl,hk,hc,hl,rC,b2⟩
 have HB:=hid (K0.call b2).below
 have HC:=hid (rC.less zm)
 clear K0 rC b2
 go_wp2_with fail
 go_ret
 exact ⟨C,q,k,rfl,hk,hc,hl,HC.out,HB.out⟩
theorem Zcp {d:Nat} (HXS:Qa d):qyE d:=by
 intro M w hM x hx hg
 obtain ⟨star,A,n,c,items,src,B,m,dd,wh⟩:=x
 have HG:=hid (show Vb d ⟨star,A,n,c,items,src,B,m,dd,wh⟩ from hg)
 have hn3:n≤8:=by
  have h:=(show Rd _ _ 10 A n (XA items) from hx.now.1.1).1
  rw [U9] at h
  have h2:items.length≤8:=hg.2.1.1
  omega
 have hm1:m≤1:=by
  have h:=(show Rd _ _ 10 B m (XA wh) from hx.now.2.1).1
  rw [U9] at h
  have h2:wh.length≤1:=hg.2.1.2
  omega
 clear hg
 have K0:=(((Hold.start M w hM).add (hx.less (by simp [Mut]))).alloc #[.bool star,.slice A n c,.string src,.slice B m dd] 184).alloc #[.bool false,.slice none 0 0,.string ⟨#[]⟩,.slice none 0 0] 184
 rw [KP] at K0
 obtain ⟨g1,hg1⟩:∃ g,g=w.heap.size:=⟨_,rfl⟩
 rw [←hg1] at K0
 obtain ⟨g2,hg2⟩:∃ g,g=g1+1:=⟨_,rfl⟩
 rw [←hg2] at K0
 have KB:=K0.pick (L' :=[.blk g1 184 #[.bool star,.slice A n c,.string src,.slice B m dd],.blk g2 184 #[.bool false,.slice none 0 0,.string ⟨#[]⟩,.slice none 0 0],.ro (QuIn d ⟨star,A,n,c,items,src,B,m,dd,wh⟩)]) [1,0,2] (by decide) rfl
 clear hx K0
 go_enter Tryz.func214,Tryz.ntmps214
 go_upto_region 1 with fail
 rw [←hg1]
 try rw [←hg2]
 have HGX:=hid (KJ hg1 hg2)
 clear hg1 hg2
 generalize World.alloc _ _=w1 at KB ⊢
 obtain ⟨KM,hKM,K6⟩:=KB.name
 have H1:∀ wv:World,Hold M none w wv KM→Blk wv g1 184 #[.bool star,.slice A n c,.string src,.slice B m dd]:=fun wv h=>by rw [hKM] at h;exact h.Ym 0 rfl
 have H2:∀ wv:World,Hold M none w wv KM→Ro wv (Mut M KM) (fun w=>SlR 10 A n (items.flatMap Ex.cells) w∧∀ x∈items,ExIn d x w):=fun wv h=>by rw [hKM] at h ⊢;exact (h.ro 2 rfl).imp fun w2 h2=>⟨h2.1.1,h2.1.2⟩
 have H3:∀ wv:World,Hold M none w wv KM→Ro wv (Mut M KM) (fun w=>SlR 10 B m (wh.flatMap Ex.cells) w∧∀ x∈wh,ExIn d x w):=fun wv h=>by rw [hKM] at h ⊢;exact (h.ro 2 rfl).imp fun w2 h2=>⟨h2.2.1,h2.2.2⟩
 have HH1:=hid H1
 have HH2:=hid H2
 have HH3:=hid H3
 have HKM:=hid hKM
 clear hKM H1 H2 H3 KB
 refine Lj (by kernel_rfl) ?_
 refine Zn 7 12 (KM) (spL [(5,ExlC (Mut M KM) d items n),(8,ExlC (Mut M KM) d wh m)]) (by kernel_rfl) (by kernel_rfl) (by kernel_rfl) rfl ?_ (K6.drew) ?_
 ·exact Zd ExlC.mono (Zd ExlC.mono (Zm _))
 simp only [zd,zp,List.getElem_toArray,List.getElem_cons_zero,List.getElem_cons_succ]
 refine' dv rfl rfl rfl (fun wv HC=>?_) ?_;rotate_left
 · go_simp<;>rfl
 simp only [zp]
 refine' dv rfl rfl rfl (fun wv HC=>?_) ?_;rotate_left
 ·have q0:=(HH1.out _ HC).cell 1;go_simp<;>rfl
 simp only [zp]
 refine Zi 5 (ExlC (Mut M KM) d items n) (f:=184) (args:=#[.slice A n c]) rfl rfl rfl rfl (fun wv=>?_) (fun wv HC hrm hD=>?_) ?_
 ·go_simp<;>rfl
 ·refine (HXS (Mut M KM) wv HC.Zb A n c items (HH2.out _ HC) (by omega) HG.out.2.2.1).mono ?_
  rintro e w5 ⟨B0,q0,k0,rfl,hq,hk,hg,rk,b5⟩
  exact ⟨_,rfl,⟨B0,q0,k0,rfl,hq,hk,hg,rk⟩,HC.call b5,RM.below b5⟩
 rintro u wx HCx ⟨B0,q0,k0',rfl,-,-,-,-⟩
 clear HCx
 simp only [zp]
 refine' dv rfl rfl rfl (fun wv HC=>?_) ?_;rotate_left
 · go_simp<;>rfl
 simp only [zp]
 refine' dv rfl rfl rfl (fun wv HC=>?_) ?_;rotate_left
 ·have q0:=(HH1.out _ HC).cell 3;go_simp<;>rfl
 simp only [zp]
 refine Zi 8 (ExlC (Mut M KM) d wh m) (f:=184) (args:=#[.slice B m dd]) rfl rfl rfl rfl (fun wv=>?_) (fun wv HC hrm hD=>?_) ?_
 ·go_simp<;>rfl
 ·refine (HXS (Mut M KM) wv HC.Zb B m dd wh (HH3.out _ HC) (by omega) HG.out.2.2.2).mono ?_
  rintro e w5 ⟨B1,q1,k1,rfl,hq,hk,hg,rk,b5⟩
  exact ⟨_,rfl,⟨B1,q1,k1,rfl,hq,hk,hg,rk⟩,HC.call b5,RM.below b5⟩
 rintro u wx HCx ⟨B1,q1,k1',rfl,-,-,-,-⟩
 clear HCx
 simp only [zp]
 refine' dv rfl rfl rfl (fun wv HC=>?_) ?_;rotate_left
 · go_simp<;>rfl
 simp only [zp]
 refine Zk ?_
 rintro wx3 HX
 rintro _hrm HGW
 have c0:ExlC (Mut M KM) d items n (.slice B0 n q0) wx3:=(Zo (d:=5) rfl).1 (HGW 2 _ rfl (by omega))
 obtain ⟨B0',q0',k0,e0,hq0,hk0,hg0,rk0⟩:=c0
 obtain ⟨rfl,rfl⟩:B0=B0' ∧q0=q0' :=by injection e0 with e1 e2 e3;exact ⟨e1,e3⟩
 clear e0
 have c1:ExlC (Mut M KM) d wh m (.slice B1 m q1) wx3:=(Zo (d:=8) rfl).1 (HGW 5 _ rfl (by omega))
 obtain ⟨B1',q1',k1,e1,hq1,hk1,hg1,rk1⟩:=c1
 obtain ⟨rfl,rfl⟩:B1=B1' ∧q1=q1' :=by injection e1 with e1 e2 e3;exact ⟨e1,e3⟩
 clear e1
 clear HGW _hrm
 have K7:=((HX.add rk0).add (rk1.less (by simp [ZL,Hp.foot])))
 rw [HKM.out] at K7
 have F7:=K7.facts
 simp only [zg] at F7
 have K8:=K7.store 2 rfl 1 (.slice B0 n q0)
 simp only [zl] at K8
 have F8:=K8.facts
 simp only [zg] at F8
 have K9:=K8.store 2 rfl 3 (.slice B1 m q1)
 simp only [zl] at K9
 have F9:=K9.facts
 simp only [zg] at F9
 have K10:=((((K9.store 3 rfl 0 (.bool star)).store 3 rfl 1 (.slice B0 n q0)).store 3 rfl 2 (.string src)).store 3 rfl 3 (.slice B1 m q1))
 simp only [zl] at K10
 have F10:=K10.facts
 simp only [zg] at F10
 have HR0:=hid ((K10.ro 1 rfl).less zm)
 have HR1:=hid ((K10.ro 0 rfl).less zm)
 have HB:=hid K10.below
 clear K7 K8 K9 K10 HX rk0 rk1 HH1 HH2 HH3 HKM K6
 go_wp2_with fail
 refine Lh (v:=.agg #[.bool star,.slice B0 n q0,.string src,.slice B1 m q1]) ?_ rfl ?_
 ·clear HR0 HR1 HB
  simp [results,Tryz.results214,go_sem,F10]
 ·exact ⟨⟨star,B0,n,q0,k0,src,B1,m,q1,k1⟩,rfl,⟨⟨hq0.1,hq0.2,hq1.1,hq1.2⟩,⟨by have:=X6 hk0;have:=HG.out.2.1.1;simp only at *;omega,by have:=X6 hk1;have:=HG.out.2.1.2;simp only at *;omega⟩,hg0,hg1⟩,rfl,(HR0.out.and HR1.out).imp fun w2 h2=>⟨⟨h2.1.1,h2.1.2⟩,h2.2.1,h2.2.2⟩,HB.out⟩
theorem QY:∀ d:Nat,exE d
 | 0=>fun M w hM x hx hg=>hg.elim
 | d+1=>Zg2 (GH (QY d)) (Zcq (Zcp (Zba (GH (QY d)))))
theorem Zg3 (d:Nat):exL d:=GH (QY d)
theorem Q3 (d:Nat):Qa d:=Zba (Zg3 d)
theorem Zjy (d:Nat):qyE d:=Zcp (Q3 d)
theorem ZjA (d:Nat):qyL d:=Zcq (Zjy d)
def XI {α:Type} (k:Nat) (s:SlP α) (Q:α→Prop):Prop:=(s.n≤s.c∧s.c≤9223372036854775807)∧s.l.length≤k∧∀ x∈s.l,Q x
structure AcGd (d:Nat) (a:Ac):Prop where
 k:1≤a.kind∧a.kind≤5
 r:XI 8 a.rows (fun r=>XI 8 r (Yw d))
 q:XI 1 a.qs (Vb d)
 s:XI 8 a.sets (fun s=>Yw d s.e)
 h:XI 1 a.wh (Yw d)
theorem Tryz.ZgC:ElemT Tryz.prog 42 31 1 24 (.slice none 0 0):=⟨Tryz.underlying42,by kernel_rfl,rfl,by omega⟩
theorem Tryz.ZgE:ElemT Tryz.prog 40 39 11 152 (.agg #[.string ⟨#[]⟩,.int .i64 0,.int .i64 0,.bool false,.int .i64 0,.int .i64 0,.string ⟨#[]⟩,.string ⟨#[]⟩,.string ⟨#[]⟩,.slice none 0 0,.slice none 0 0]):=⟨Tryz.underlying40,by kernel_rfl,rfl,by omega⟩
theorem QuIn.le {d d' :Nat} {q:Qu} {w:World} (h:QuIn d q w) (hd:d≤d'):QuIn d' q w:=⟨⟨h.1.1,fun a ha=>(h.1.2 a ha).le hd⟩,h.2.1,fun a ha=>(h.2.2 a ha).le hd⟩
def Ud (d:Nat) (s:Se):Prop:=Yw d s.e
def Wn (d:Nat) (r:SlP Ex) (w:World):Prop:=r.In 10 Ex.cells (ExIn d) w
def Uc (d:Nat) (r:SlP Ex):Prop:=XI 8 r (Yw d)
def RwC (r:SlP Ex):List Value:=[r.v]
def uRw (_:SlP Ex):Unit:=()
def fAc (a:Ac):Int × ByteArray × List ByteArray:=(a.kind,a.tab,a.sets.l.map Se.col)
def Zk7 (d:Nat) (M:Nat→Prop) (x:Se) (w:World) (e:Ending) (w' :World):Prop:=∃ y:Se,e=.returned (.agg #[.string y.col,.int .i64 y.e.kind,.int .i64 y.e.op,.bool y.e.nt,.int .i64 y.e.v.k,.int .i64 y.e.v.i,.string y.e.v.s,.string y.e.tab,.string y.e.nm,.slice y.e.A y.e.n y.e.c,.slice y.e.B y.e.m y.e.d])∧Ud d y∧Se.col y=Se.col x∧Ro w' M (Yq d y)∧Below w.heap.size w w'
def seE (d:Nat):Prop:=∀ (M:Nat→Prop) (w:World) (hM:∀ b,M b→b<w.heap.size) (x:Se) (hx:Ro w M (Yq d x)) (hg:Ud d x),Calls Tryz.prog 216 #[.agg #[.string x.col,.int .i64 x.e.kind,.int .i64 x.e.op,.bool x.e.nt,.int .i64 x.e.v.k,.int .i64 x.e.v.i,.string x.e.v.s,.string x.e.tab,.string x.e.nm,.slice x.e.A x.e.n x.e.c,.slice x.e.B x.e.m x.e.d]] w fun e w' =>Zk7 d M x w e w'
def ZkU (d:Nat) (M:Nat→Prop) (x:SlP Ex) (w:World) (e:Ending) (w' :World):Prop:=∃ y:SlP Ex,e=.returned (.slice y.A y.n y.c)∧Uc d y∧uRw y=uRw x∧Ro w' M (Wn d y)∧Below w.heap.size w w'
def rxE (d:Nat):Prop:=∀ (M:Nat→Prop) (w:World) (hM:∀ b,M b→b<w.heap.size) (x:SlP Ex) (hx:Ro w M (Wn d x)) (hg:Uc d x),Calls Tryz.prog 184 #[.slice x.A x.n x.c] w fun e w' =>ZkU d M x w e w'
def Zez (d:Nat) (M:Nat→Prop) (x:Ac) (w:World) (e:Ending) (w' :World):Prop:=∃ y:Ac,e=.returned (.agg #[.int .i64 y.kind,.string y.tab,.slice y.rows.A y.rows.n y.rows.c,.slice y.qs.A y.qs.n y.qs.c,.slice y.sets.A y.sets.n y.sets.c,.slice y.wh.A y.wh.n y.wh.c,.string y.text])∧AcGd d y∧fAc y=fAc x∧Ro w' M (AcIn d y)∧Below w.heap.size w w'
def acE (d:Nat):Prop:=∀ (M:Nat→Prop) (w:World) (hM:∀ b,M b→b<w.heap.size) (x:Ac) (hx:Ro w M (AcIn d x)) (hg:AcGd d x),Calls Tryz.prog 186 #[.agg #[.int .i64 x.kind,.string x.tab,.slice x.rows.A x.rows.n x.rows.c,.slice x.qs.A x.qs.n x.qs.c,.slice x.sets.A x.sets.n x.sets.c,.slice x.wh.A x.wh.n x.wh.c,.string x.text]] w fun e w' =>Zez d M x w e w'
def Zk9 (d:Nat) (M:Nat→Prop) (n:Nat) (l:List Se) (w:World) (e:Ending) (w' :World):Prop:=∃ (B:Option Addr) (q:Nat) (k:List Se),e=.returned (.slice B n q)∧(n≤q∧q≤9223372036854775807)∧k.map Se.col=l.map Se.col∧(∀ x∈k,Ud d x)∧Ro w' M (fun w=>SlR 11 B n (k.flatMap Se.cells) w∧∀ x∈k,Yq d x w)∧Below w.heap.size w w'
def seL (d:Nat):Prop:=∀ (M:Nat→Prop) (w:World) (hM:∀ b,M b→b<w.heap.size) (A:Option Addr) (n c:Nat) (l:List Se) (hD:Ro w M (fun w=>SlR 11 A n (l.flatMap Se.cells) w∧∀ x∈l,Yq d x w)) (hn:n≤1000) (hg:∀ x∈l,Ud d x),Calls Tryz.prog 215 #[.slice A n c,.func (.func 216) #[] #[]] w fun e w' =>Zk9 d M n l w e w'
theorem Zlb {d:Nat} (HE:seE d):seL d:=by
 intro M w hM A n c l hD hn hg
 have HL:=hid (show l.length=n from by
  have h:=(show Rd _ _ 11 A n (l.flatMap Se.cells) from hD.now.1).1
  rw [YL Se.cells 11 (fun _=>rfl)] at h
  omega)
 have HG:=hid hg
 have K0:=(((Hold.start M w hM).add (hD.less (by simp [Mut]))).add (S:=fun w=>∀ x∈([]:List Se),Yq d x w) (fun w2 _ _ x hx=>(nomatch hx))).nil 39 11
 clear hD hg
 go_enter Tryz.func215,Tryz.ntmps215
 go_wp2_with fail
 go_loopw [5,10] (fun ov iv wr=>∃ (j cap:Nat) (O:Option Addr) (outs:List Se),j≤n∧iv=.int .i64 j∧ov=.slice O j cap∧Hid (outs.map Se.col=(l.take j).map Se.col∧∀ x∈outs,Ud d x)∧Hold M none w wr [.own 39 11 (.slice O j cap) j (outs.flatMap Se.cells),.ro (fun w=>∀ x∈outs,Yq d x w),.ro (fun w=>SlR 11 A n (l.flatMap Se.cells) w∧∀ x∈l,Yq d x w)]) (fun _ iv _=>n - (intOf iv).toNat)
 case atStart=>exact ⟨0,0,none,[],by omega,rfl,rfl,hid ⟨rfl,fun x hx=>(nomatch hx)⟩,K0⟩
 case round=>
  clear K0
  obtain ⟨j,cap,O,outs,hj,rfl,rfl,HO,H⟩:=hrel
  by_cases hlt:j<n
  ·obtain ⟨x,hx⟩:=Zl HL.out hlt
   obtain ⟨b,o,rfl,hb,hc⟩:=(show ∃ b o,A=some ⟨b,o,none⟩∧b<wr.heap.size∧∀ q u,q<11→(Se.cells x)[q]? =some u→World.cell? wr ⟨b,o+j * 11+q,none⟩=some u from by
    obtain ⟨b,o,e,hb,hcl⟩:=(show Rd _ _ 11 A n (l.flatMap Se.cells) from (H.ro 2 rfl).now.1).2 (by omega)
    refine ⟨b,o,e,hb,fun q u hq hu=>?_⟩
    rw [Nat.add_assoc]
    exact hcl _ _ ((flat_get Se.cells 11 (fun _=>rfl) l j q _ hq hx).trans hu))
   have x0:=hc 0 _ (by omega) rfl
   have x1:=hc 1 _ (by omega) rfl
   have x2:=hc 2 _ (by omega) rfl
   have x3:=hc 3 _ (by omega) rfl
   have x4:=hc 4 _ (by omega) rfl
   have x5:=hc 5 _ (by omega) rfl
   have x6:=hc 6 _ (by omega) rfl
   have x7:=hc 7 _ (by omega) rfl
   have x8:=hc 8 _ (by omega) rfl
   have x9:=hc 9 _ (by omega) rfl
   have x10:=hc 10 _ (by omega) rfl
   simp only [Nat.add_zero,Nat.mul_one,SlP.v] at x0 x1 x2 x3 x4 x5 x6 x7 x8 x9 x10
   have hm:=Ka hx
   have HX:=hid hx
   clear hc hx
   have K1:=H.Za #[.string x.col,.int .i64 x.e.kind,.int .i64 x.e.op,.bool x.e.nt,.int .i64 x.e.v.k,.int .i64 x.e.v.i,.string x.e.v.s,.string x.e.tab,.string x.e.nm,.slice x.e.A x.e.n x.e.c,.slice x.e.B x.e.m x.e.d] 39
   have F1:=K1.facts
   simp only [zg] at F1
   clear H
   go_wp2_with fail
   clear F1 x0 x1 x2 x3 x4 x5 x6 x7 x8 x9 x10
   refine (HE (Mut M _) _ K1.Zb x (((K1.ro 3 rfl).imp fun w2 h2=>h2.2 x hm)) (HG.out x hm)).mono ?_
   rintro e w2 ⟨y,rfl,hy,hyg,ry,b2⟩
   have HY:=hid (KJ hy hyg)
   have K2:=(K1.call b2).add ry
   clear K1 b2 ry hy hyg
   skip
   go_wp2_with (at_builtin;go_must (refine ZJ K2 2 rfl Tryz.ZgE #[.string y.col,.int .i64 y.e.kind,.int .i64 y.e.op,.bool y.e.nt,.int .i64 y.e.v.k,.int .i64 y.e.v.i,.string y.e.v.s,.string y.e.tab,.string y.e.nm,.slice y.e.A y.e.n y.e.c,.slice y.e.B y.e.m y.e.d] rfl (.tmp 14) (.tmp 18) rfl rfl _ (by first|rfl|simp) rfl rfl (by intro u hu;simp at hu;rcases hu with rfl|rfl|rfl|rfl|rfl|rfl|rfl|rfl|rfl|rfl|rfl<;>rfl) (by omega) (by omega) ?_);intro gA capA wA hcA hmA KA;simp only [zl] at KA)
   rw [show outs.flatMap Se.cells++(#[.string y.col,.int .i64 y.e.kind,.int .i64 y.e.op,.bool y.e.nt,.int .i64 y.e.v.k,.int .i64 y.e.v.i,.string y.e.v.s,.string y.e.tab,.string y.e.nm,.slice y.e.A y.e.n y.e.c,.slice y.e.B y.e.m y.e.d]:Array Value).toList=(outs++[y]).flatMap Se.cells from by simp [Se.cells,Ex.cells]] at KA
   have hR:Ro _ _ (fun w=>∀ x∈outs++[y],Yq d x w):=((KA.ro 3 rfl).and (KA.ro 0 rfl)).imp fun w2 h2 z hz=>by
    rcases Kk.1 hz with hz|hz
    ·exact h2.1 z hz
    ·simp only [List.mem_cons,List.not_mem_nil,or_false] at hz
     subst hz
     exact h2.2
   have KB:=(KA.ZT 3 rfl hR).pick [2,3,4] (by decide) rfl
   simp only [List.set_cons_zero,List.set_cons_succ,List.filterMap_cons,List.filterMap_nil,List.getElem?_cons_zero,List.getElem?_cons_succ] at KB
   go_roundw
   case rel=>exact ⟨j+1,capA,_,outs++[y],by omega,by go_num,by first|rfl|trivial,hid ⟨Ur HO.out.1 HX.out (by first|exact HY.out.2|rfl),fun z hz=>by
    rcases Kk.1 hz with hz|hz
    ·exact HO.out.2 z hz
    ·simp only [List.mem_cons,List.not_mem_nil,or_false] at hz
     subst hz
     exact HY.out.1⟩,KB⟩
   case measure=>simp [intOf];omega
  ·obtain rfl:n=j:=by omega
   have hcap:=ZM (H.get 0 rfl)
   have KZ:=H.Zq 0 rfl
   simp only [List.set_cons_zero] at KZ
   have HRO:=hid (((KZ.ro 0 rfl).and (KZ.ro 1 rfl)).less zm)
   have HB:=hid KZ.below
   clear KZ H
   go_wp2_with fail
   go_ret
   exact ⟨O,cap,outs,rfl,⟨hcap.1,hcap.2.1⟩,by rw [HO.out.1,Kh (by rw [HL.out];exact Kg _)],HO.out.2,HRO.out.imp fun w2 h2=>⟨h2.1,h2.2⟩,HB.out⟩
def ZkW (d:Nat) (M:Nat→Prop) (n:Nat) (l:List (SlP Ex)) (w:World) (e:Ending) (w' :World):Prop:=∃ (B:Option Addr) (q:Nat) (k:List (SlP Ex)),e=.returned (.slice B n q)∧(n≤q∧q≤9223372036854775807)∧k.map uRw=l.map uRw∧(∀ x∈k,Uc d x)∧Ro w' M (fun w=>SlR 1 B n (k.flatMap RwC) w∧∀ x∈k,Wn d x w)∧Below w.heap.size w w'
def rxL (d:Nat):Prop:=∀ (M:Nat→Prop) (w:World) (hM:∀ b,M b→b<w.heap.size) (A:Option Addr) (n c:Nat) (l:List (SlP Ex)) (hD:Ro w M (fun w=>SlR 1 A n (l.flatMap RwC) w∧∀ x∈l,Wn d x w)) (hn:n≤1000) (hg:∀ x∈l,Uc d x),Calls Tryz.prog 212 #[.slice A n c,.func (.func 184) #[] #[]] w fun e w' =>ZkW d M n l w e w'
theorem ZkY {d:Nat} (HE:rxE d):rxL d:=by
 intro M w hM A n c l hD hn hg
 have HL:=hid (show l.length=n from by
  have h:=(show Rd _ _ 1 A n (l.flatMap RwC) from hD.now.1).1
  rw [YL RwC 1 (fun _=>rfl)] at h
  omega)
 have HG:=hid hg
 have K0:=(((Hold.start M w hM).add (hD.less (by simp [Mut]))).add (S:=fun w=>∀ x∈([]:List (SlP Ex)),Wn d x w) (fun w2 _ _ x hx=>(nomatch hx))).nil 31 1
 clear hD hg
 go_enter Tryz.func212,Tryz.ntmps212
 go_wp2_with fail
 go_loopw [5,10] (fun ov iv wr=>∃ (j cap:Nat) (O:Option Addr) (outs:List (SlP Ex)),j≤n∧iv=.int .i64 j∧ov=.slice O j cap∧Hid (outs.map uRw=(l.take j).map uRw∧∀ x∈outs,Uc d x)∧Hold M none w wr [.own 31 1 (.slice O j cap) j (outs.flatMap RwC),.ro (fun w=>∀ x∈outs,Wn d x w),.ro (fun w=>SlR 1 A n (l.flatMap RwC) w∧∀ x∈l,Wn d x w)]) (fun _ iv _=>n - (intOf iv).toNat)
 case atStart=>exact ⟨0,0,none,[],by omega,rfl,rfl,hid ⟨rfl,fun x hx=>(nomatch hx)⟩,K0⟩
 case round=>
  clear K0
  obtain ⟨j,cap,O,outs,hj,rfl,rfl,HO,H⟩:=hrel
  by_cases hlt:j<n
  ·obtain ⟨x,hx⟩:=Zl HL.out hlt
   obtain ⟨b,o,rfl,hb,hc⟩:=(show ∃ b o,A=some ⟨b,o,none⟩∧b<wr.heap.size∧∀ q u,q<1→(RwC x)[q]? =some u→World.cell? wr ⟨b,o+j * 1+q,none⟩=some u from by
    obtain ⟨b,o,e,hb,hcl⟩:=(show Rd _ _ 1 A n (l.flatMap RwC) from (H.ro 2 rfl).now.1).2 (by omega)
    refine ⟨b,o,e,hb,fun q u hq hu=>?_⟩
    rw [Nat.add_assoc]
    exact hcl _ _ ((flat_get RwC 1 (fun _=>rfl) l j q _ hq hx).trans hu))
   have x0:=hc 0 _ (by omega) rfl
   simp only [Nat.add_zero,Nat.mul_one,SlP.v] at x0
   have hm:=Ka hx
   have HX:=hid hx
   clear hc hx
   have K1:=H
   clear H
   have F1:=K1.facts
   simp only [zg] at F1
   go_wp2_with fail
   clear F1 x0
   refine (HE (Mut M _) _ K1.Zb x ((K1.ro 2 rfl).imp fun w2 h2=>h2.2 x hm) (HG.out x hm)).mono ?_
   rintro e w2 ⟨y,rfl,hy,hyg,ry,b2⟩
   have HY:=hid (KJ hy hyg)
   have K2:=(K1.call b2).add ry
   clear K1 b2 ry hy hyg
   skip
   go_wp2_with (at_builtin;go_must (refine ZJ K2 1 rfl Tryz.ZgC #[.slice y.A y.n y.c] rfl (.tmp 14) (.tmp 18) rfl rfl _ (by first|rfl|simp) rfl rfl (by intro u hu;simp at hu;rcases hu with rfl<;>rfl) (by omega) (by omega) ?_);intro gA capA wA hcA hmA KA;simp only [zl] at KA)
   rw [show outs.flatMap RwC++(#[.slice y.A y.n y.c]:Array Value).toList=(outs++[y]).flatMap RwC from by simp [RwC,SlP.v]] at KA
   have hR:Ro _ _ (fun w=>∀ x∈outs++[y],Wn d x w):=((KA.ro 2 rfl).and (KA.ro 0 rfl)).imp fun w2 h2 z hz=>by
    rcases Kk.1 hz with hz|hz
    ·exact h2.1 z hz
    ·simp only [List.mem_cons,List.not_mem_nil,or_false] at hz
     subst hz
     exact h2.2
   have KB:=(KA.ZT 2 rfl hR).pick [1,2,3] (by decide) rfl
   simp only [List.set_cons_zero,List.set_cons_succ,List.filterMap_cons,List.filterMap_nil,List.getElem?_cons_zero,List.getElem?_cons_succ] at KB
   go_roundw
   case rel=>exact ⟨j+1,capA,_,outs++[y],by omega,by go_num,by first|rfl|trivial,hid ⟨Ur HO.out.1 HX.out (by first|exact HY.out.2|rfl),fun z hz=>by
    rcases Kk.1 hz with hz|hz
    ·exact HO.out.2 z hz
    ·simp only [List.mem_cons,List.not_mem_nil,or_false] at hz
     subst hz
     exact HY.out.1⟩,KB⟩
   case measure=>simp [intOf];omega
  ·obtain rfl:n=j:=by omega
   have hcap:=ZM (H.get 0 rfl)
   have KZ:=H.Zq 0 rfl
   simp only [List.set_cons_zero] at KZ
   have HRO:=hid (((KZ.ro 0 rfl).and (KZ.ro 1 rfl)).less zm)
   have HB:=hid KZ.below
   clear KZ H
   go_wp2_with fail
   go_ret
   exact ⟨O,cap,outs,rfl,⟨hcap.1,hcap.2.1⟩,by rw [HO.out.1,Kh (by rw [HL.out];exact Kg _)],HO.out.2,HRO.out.imp fun w2 h2=>⟨h2.1,h2.2⟩,HB.out⟩
def SelC (M:Nat→Prop) (d:Nat) (l:List Se) (n:Nat) (u:Value) (w:World):Prop:=∃ (B:Option Addr) (q:Nat) (k:List Se),u=.slice B n q∧(n≤q∧q≤9223372036854775807)∧k.map Se.col=l.map Se.col∧(∀ x∈k,Ud d x)∧Ro w M (fun w=>SlR 11 B n (k.flatMap Se.cells) w∧∀ x∈k,Yq d x w)
theorem SelC.mono {M:Nat→Prop} {d:Nat} {l:List Se} {n:Nat} (u:Value) (w w' :World) (hr:RM M w w') (h:SelC M d l n u w):SelC M d l n u w' :=by
 obtain ⟨B,q,k,h1,h2,h3,h4,h5⟩:=h
 exact ⟨B,q,k,h1,h2,h3,h4,hr.ro h5⟩
def RwlC (M:Nat→Prop) (d:Nat) (l:List (SlP Ex)) (n:Nat) (u:Value) (w:World):Prop:=∃ (B:Option Addr) (q:Nat) (k:List (SlP Ex)),u=.slice B n q∧(n≤q∧q≤9223372036854775807)∧k.map uRw=l.map uRw∧(∀ x∈k,Uc d x)∧Ro w M (fun w=>SlR 1 B n (k.flatMap RwC) w∧∀ x∈k,Wn d x w)
theorem RwlC.mono {M:Nat→Prop} {d:Nat} {l:List (SlP Ex)} {n:Nat} (u:Value) (w w' :World) (hr:RM M w w') (h:RwlC M d l n u w):RwlC M d l n u w' :=by
 obtain ⟨B,q,k,h1,h2,h3,h4,h5⟩:=h
 exact ⟨B,q,k,h1,h2,h3,h4,hr.ro h5⟩
def ExcC (M:Nat→Prop) (d:Nat) (u:Value) (w:World):Prop:=∃ y:Ex,u=.agg #[.int .i64 y.kind,.int .i64 y.op,.bool y.nt,.int .i64 y.v.k,.int .i64 y.v.i,.string y.v.s,.string y.tab,.string y.nm,.slice y.A y.n y.c,.slice y.B y.m y.d]∧Yw d y∧Ro w M (ExIn d y)
theorem ExcC.mono {M:Nat→Prop} {d:Nat} (u:Value) (w w' :World) (hr:RM M w w') (h:ExcC M d u w):ExcC M d u w' :=by
 obtain ⟨y,h1,h2,h3⟩:=h
 exact ⟨y,h1,h2,hr.ro h3⟩
theorem Zk8 {d:Nat} (HE:exE d):seE d:=by
 intro M w hM x hx hg
 obtain ⟨col,⟨kind,op,nt,v,tab,nm,A,n,c,args,B,m,dd,sub⟩⟩:=x
 have HG:=hid (show Yw d ⟨kind,op,nt,v,tab,nm,A,n,c,args,B,m,dd,sub⟩ from hg)
 have K0:=(((Hold.start M w hM).add (hx.less (by simp [Mut]))).Za #[.string col,.int .i64 kind,.int .i64 op,.bool nt,.int .i64 v.k,.int .i64 v.i,.string v.s,.string tab,.string nm,.slice A n c,.slice B m dd] 39).alloc #[.string ⟨#[]⟩,.int .i64 0,.int .i64 0,.bool false,.int .i64 0,.int .i64 0,.string ⟨#[]⟩,.string ⟨#[]⟩,.string ⟨#[]⟩,.slice none 0 0,.slice none 0 0] 39
 rw [KP] at K0
 obtain ⟨g1,hg1⟩:∃ g,g=w.heap.size:=⟨_,rfl⟩
 rw [←hg1] at K0
 obtain ⟨g2,hg2⟩:∃ g,g=g1+1:=⟨_,rfl⟩
 rw [←hg2] at K0
 clear hx hg
 go_enter Tryz.func216,Tryz.ntmps216
 go_upto_region 1 with fail
 rw [←hg1]
 try rw [←hg2]
 have HGX:=hid (KJ hg1 hg2)
 clear hg1 hg2
 generalize World.alloc _ _=w1 at K0 ⊢
 obtain ⟨KM,hKM,K6⟩:=K0.name
 have H1:∀ wv:World,Hold M none w wv KM→Blk wv g1 39 #[.string col,.int .i64 kind,.int .i64 op,.bool nt,.int .i64 v.k,.int .i64 v.i,.string v.s,.string tab,.string nm,.slice A n c,.slice B m dd]:=fun wv h=>by rw [hKM] at h;exact h.Zg 1 rfl
 have H2:∀ wv:World,Hold M none w wv KM→Ro wv (Mut M KM) (ExIn d ⟨kind,op,nt,v,tab,nm,A,n,c,args,B,m,dd,sub⟩):=fun wv h=>by rw [hKM] at h ⊢;exact h.ro 2 rfl
 have HH1:=hid H1
 have HH2:=hid H2
 have HKM:=hid hKM
 clear hKM H1 H2 K0
 refine Lj (by kernel_rfl) ?_
 refine Zn 5 9 (KM) (spL [(7,ExcC (Mut M KM) d)]) (by kernel_rfl) (by kernel_rfl) (by kernel_rfl) rfl ?_ (K6.drew) ?_
 ·exact Zd ExcC.mono (Zm _)
 simp only [zd,zp,List.getElem_toArray,List.getElem_cons_zero,List.getElem_cons_succ]
 refine' dv rfl rfl rfl (fun wv HC=>?_) ?_;rotate_left
 · go_simp<;>rfl
 simp only [zp]
 refine' dv rfl rfl rfl (fun wv HC=>?_) ?_;rotate_left
 ·have q0:=(HH1.out _ HC).cell 0;go_simp<;>rfl
 simp only [zp]
 refine' dv rfl rfl rfl (fun wv HC=>?_) ?_;rotate_left
 · go_simp<;>rfl
 simp only [zp]
 refine' dv rfl rfl rfl (fun wv HC=>?_) ?_;rotate_left
 ·obtain q1:=(HH1.out _ HC).cell 1;obtain q2:=(HH1.out _ HC).cell 2;obtain q3:=(HH1.out _ HC).cell 3;obtain q4:=(HH1.out _ HC).cell 4;obtain q5:=(HH1.out _ HC).cell 5;obtain q6:=(HH1.out _ HC).cell 6;obtain q7:=(HH1.out _ HC).cell 7;obtain q8:=(HH1.out _ HC).cell 8;obtain q9:=(HH1.out _ HC).cell 9;obtain q10:=(HH1.out _ HC).cell 10;go_simp<;>rfl
 simp only [zp]
 refine Zi 7 (ExcC (Mut M KM) d) (f:=211) (args:=#[.agg #[.int .i64 kind,.int .i64 op,.bool nt,.int .i64 v.k,.int .i64 v.i,.string v.s,.string tab,.string nm,.slice A n c,.slice B m dd]]) rfl rfl rfl rfl (fun wv=>?_) (fun wv HC hrm hD=>?_) ?_
 ·go_simp<;>rfl
 ·refine (HE (Mut M KM) wv HC.Zb ⟨kind,op,nt,v,tab,nm,A,n,c,args,B,m,dd,sub⟩ (HH2.out _ HC) HG.out).mono ?_
  rintro e w5 ⟨y,rfl,hy,-,ry,b5⟩
  exact ⟨_,rfl,⟨y,rfl,hy,ry⟩,HC.call b5,RM.below b5⟩
 rintro u wx HCx ⟨y,rfl,-,-⟩
 clear HCx
 simp only [zp]
 refine Zk ?_
 rintro wx3 HX
 rintro _hrm HGW
 obtain ⟨z,hzy,hz,rz⟩:ExcC (Mut M KM) d (.agg #[.int .i64 y.kind,.int .i64 y.op,.bool y.nt,.int .i64 y.v.k,.int .i64 y.v.i,.string y.v.s,.string y.tab,.string y.nm,.slice y.A y.n y.c,.slice y.B y.m y.d]) wx3:=(Zo (d:=7) rfl).1 (HGW 4 _ rfl (by omega))
 rw [hzy]
 clear HGW _hrm hzy
 have HZ:=hid hz
 have K7:=HX.add rz
 rw [HKM.out] at K7
 have K8:=K7
 have F7:=K7.facts
 simp only [zg] at F7
 have K9:=(((((((((((K7.store 1 rfl 0 (.string col)).store 1 rfl 1 (.int .i64 z.kind)).store 1 rfl 2 (.int .i64 z.op)).store 1 rfl 3 (.bool z.nt)).store 1 rfl 4 (.int .i64 z.v.k)).store 1 rfl 5 (.int .i64 z.v.i)).store 1 rfl 6 (.string z.v.s)).store 1 rfl 7 (.string z.tab)).store 1 rfl 8 (.string z.nm)).store 1 rfl 9 (.slice z.A z.n z.c)).store 1 rfl 10 (.slice z.B z.m z.d))
 simp only [zl] at K9
 have F9:=K9.facts
 simp only [zg] at F9
 have HR:=hid ((K9.ro 0 rfl).less zm)
 have HB:=hid K9.below
 clear K9 K8 K7 HX rz HH1 HH2 HKM K6 hz
 go_wp2_with fail
 refine Lh (v:=.agg #[.string col,.int .i64 z.kind,.int .i64 z.op,.bool z.nt,.int .i64 z.v.k,.int .i64 z.v.i,.string z.v.s,.string z.tab,.string z.nm,.slice z.A z.n z.c,.slice z.B z.m z.d]) ?_ rfl ?_
 ·clear HR HB
  simp [results,Tryz.results216,go_sem,F9]
 ·exact ⟨⟨col,z⟩,rfl,HZ.out,rfl,HR.out,HB.out⟩
theorem ZkV {d:Nat} (HXS:Qa d):rxE d:=by
 intro M w hM x hx hg
 obtain ⟨A,n,c,l⟩:=x
 have hn:l.length=n:=ExsIn.len (show ExsIn d A n l w from hx.now)
 have hl8:l.length≤8:=hg.2.1
 refine (HXS M w hM A n c l (hx.imp fun w2 h2=>h2) (by omega) hg.2.2).mono ?_
 rintro e w' ⟨B,q,k,rfl,hq,hk,hkg,rk,b⟩
 have hkl:=X6 hk
 exact ⟨⟨B,n,q,k⟩,rfl,⟨hq,by simp only;omega,hkg⟩,rfl,rk.imp fun w2 h2=>h2,b⟩
theorem ZeB {d:Nat} (HRW:rxL d) (HQL:qyL d) (HSL:seL d) (HXS:Qa d):acE d:=by
 intro M w hM x hx hg
 obtain ⟨kind,tab,⟨rA,rn,rc,rl⟩,⟨qA,qn,qc,ql⟩,⟨sA,sn,sc,sl⟩,⟨hA,hn_,hc,hl⟩,text⟩:=x
 have HG:=hid (show AcGd d ⟨kind,tab,⟨rA,rn,rc,rl⟩,⟨qA,qn,qc,ql⟩,⟨sA,sn,sc,sl⟩,⟨hA,hn_,hc,hl⟩,text⟩ from hg)
 have hrn:rn≤8:=by
  have h:=SlP.In.len (s:=⟨rA,rn,rc,rl⟩) (k:=1) (cel:=fun r:SlP Ex=>[r.v]) (P:=fun r w=>r.In 10 Ex.cells (ExIn d) w) hx.now.1 (by omega) (fun _=>rfl)
  have h2:rl.length≤8:=hg.r.2.1
  simp only at h;omega
 have hqn:qn≤1:=by
  have h:=SlP.In.len (s:=⟨qA,qn,qc,ql⟩) (k:=4) (cel:=Qu.cells) (P:=QuIn d) hx.now.2.1 (by omega) (fun _=>rfl)
  have h2:ql.length≤1:=hg.q.2.1
  simp only at h;omega
 have hsn:sn≤8:=by
  have h:=SlP.In.len (s:=⟨sA,sn,sc,sl⟩) (k:=11) (cel:=Se.cells) (P:=Yq d) hx.now.2.2.1 (by omega) (fun _=>rfl)
  have h2:sl.length≤8:=hg.s.2.1
  simp only at h;omega
 have hhn:hn_≤1:=by
  have h:=ExsIn.len (show ExsIn d hA hn_ hl w from hx.now.2.2.2)
  have h2:hl.length≤1:=hg.h.2.1
  omega
 clear hg
 have K0:=(((Hold.start M w hM).add (hx.less (by simp [Mut]))).alloc #[.int .i64 kind,.string tab,.slice rA rn rc,.slice qA qn qc,.slice sA sn sc,.slice hA hn_ hc,.string text] 44).alloc #[.int .i64 0,.string ⟨#[]⟩,.slice none 0 0,.slice none 0 0,.slice none 0 0,.slice none 0 0,.string ⟨#[]⟩] 44
 rw [KP] at K0
 obtain ⟨g1,hg1⟩:∃ g,g=w.heap.size:=⟨_,rfl⟩
 rw [←hg1] at K0
 obtain ⟨g2,hg2⟩:∃ g,g=g1+1:=⟨_,rfl⟩
 rw [←hg2] at K0
 have KB:=K0.pick (L' :=[.blk g1 44 #[.int .i64 kind,.string tab,.slice rA rn rc,.slice qA qn qc,.slice sA sn sc,.slice hA hn_ hc,.string text],.blk g2 44 #[.int .i64 0,.string ⟨#[]⟩,.slice none 0 0,.slice none 0 0,.slice none 0 0,.slice none 0 0,.string ⟨#[]⟩],.ro (AcIn d ⟨kind,tab,⟨rA,rn,rc,rl⟩,⟨qA,qn,qc,ql⟩,⟨sA,sn,sc,sl⟩,⟨hA,hn_,hc,hl⟩,text⟩)]) [1,0,2] (by decide) rfl
 clear hx K0
 go_enter Tryz.func186,Tryz.ntmps186
 go_upto_region 1 with fail
 rw [←hg1]
 try rw [←hg2]
 have HGX:=hid (KJ hg1 hg2)
 clear hg1 hg2
 generalize World.alloc _ _=w1 at KB ⊢
 obtain ⟨KM,hKM,K6⟩:=KB.name
 have H1:∀ wv:World,Hold M none w wv KM→Blk wv g1 44 #[.int .i64 kind,.string tab,.slice rA rn rc,.slice qA qn qc,.slice sA sn sc,.slice hA hn_ hc,.string text]:=fun wv h=>by rw [hKM] at h;exact h.Ym 0 rfl
 have H2:∀ wv:World,Hold M none w wv KM→Ro wv (Mut M KM) (fun w=>SlR 1 rA rn (rl.flatMap RwC) w∧∀ x∈rl,Wn d x w):=fun wv h=>by rw [hKM] at h ⊢;exact (h.ro 2 rfl).imp fun w2 h2=>⟨h2.1.1,h2.1.2⟩
 have H3:∀ wv:World,Hold M none w wv KM→Ro wv (Mut M KM) (fun w=>SlR 4 qA qn (ql.flatMap Qu.cells) w∧∀ x∈ql,QuIn d x w):=fun wv h=>by rw [hKM] at h ⊢;exact (h.ro 2 rfl).imp fun w2 h2=>⟨h2.2.1.1,h2.2.1.2⟩
 have H4:∀ wv:World,Hold M none w wv KM→Ro wv (Mut M KM) (fun w=>SlR 11 sA sn (sl.flatMap Se.cells) w∧∀ x∈sl,Yq d x w):=fun wv h=>by rw [hKM] at h ⊢;exact (h.ro 2 rfl).imp fun w2 h2=>⟨h2.2.2.1.1,h2.2.2.1.2⟩
 have H5:∀ wv:World,Hold M none w wv KM→Ro wv (Mut M KM) (fun w=>SlR 10 hA hn_ (hl.flatMap Ex.cells) w∧∀ x∈hl,ExIn d x w):=fun wv h=>by rw [hKM] at h ⊢;exact (h.ro 2 rfl).imp fun w2 h2=>⟨h2.2.2.2.1,h2.2.2.2.2⟩
 have HH1:=hid H1
 have HH2:=hid H2
 have HH3:=hid H3
 have HH4:=hid H4
 have HH5:=hid H5
 have HKM:=hid hKM
 clear hKM H1 H2 H3 H4 H5 KB
 refine Lj (by kernel_rfl) ?_
 refine Zn 13 20 (KM) (spL [(5,RwlC (Mut M KM) d rl rn),(8,QulC (Mut M KM) d ql qn),(11,SelC (Mut M KM) d sl sn),(14,ExlC (Mut M KM) d hl hn_)]) (by kernel_rfl) (by kernel_rfl) (by kernel_rfl) rfl ?_ (K6.drew) ?_
 ·exact Zd RwlC.mono (Zd QulC.mono (Zd SelC.mono (Zd ExlC.mono (Zm _))))
 simp only [zd,zp,List.getElem_toArray,List.getElem_cons_zero,List.getElem_cons_succ]
 refine' dv rfl rfl rfl (fun wv HC=>?_) ?_;rotate_left
 · go_simp<;>rfl
 simp only [zp]
 refine' dv rfl rfl rfl (fun wv HC=>?_) ?_;rotate_left
 ·have q0:=(HH1.out _ HC).cell 2;go_simp<;>rfl
 simp only [zp]
 refine Zi 5 (RwlC (Mut M KM) d rl rn) (f:=212) (args:=#[.slice rA rn rc,.func (.func 184) #[] #[]]) rfl rfl rfl rfl (fun wv=>?_) (fun wv HC hrm hD=>?_) ?_
 ·go_simp<;>rfl
 ·refine (HRW (Mut M KM) wv HC.Zb rA rn rc rl (HH2.out _ HC) (by omega) HG.out.r.2.2).mono ?_
  rintro e w5 ⟨B0,q0,k0,rfl,hq,hk,hg,rk,b5⟩
  exact ⟨_,rfl,⟨B0,q0,k0,rfl,hq,hk,hg,rk⟩,HC.call b5,RM.below b5⟩
 rintro u wx HCx ⟨B0,q0,k0',rfl,-,-,-,-⟩
 clear HCx
 simp only [zp]
 refine' dv rfl rfl rfl (fun wv HC=>?_) ?_;rotate_left
 · go_simp<;>rfl
 simp only [zp]
 refine' dv rfl rfl rfl (fun wv HC=>?_) ?_;rotate_left
 ·have q0:=(HH1.out _ HC).cell 3;go_simp<;>rfl
 simp only [zp]
 refine Zi 8 (QulC (Mut M KM) d ql qn) (f:=213) (args:=#[.slice qA qn qc,.func (.func 214) #[] #[]]) rfl rfl rfl rfl (fun wv=>?_) (fun wv HC hrm hD=>?_) ?_
 ·go_simp<;>rfl
 ·refine (HQL (Mut M KM) wv HC.Zb qA qn qc ql (HH3.out _ HC) (by omega) HG.out.q.2.2).mono ?_
  rintro e w5 ⟨B1,q1,k1,rfl,hq,hk,hg,rk,b5⟩
  exact ⟨_,rfl,⟨B1,q1,k1,rfl,hq,hk,hg,rk⟩,HC.call b5,RM.below b5⟩
 rintro u wx HCx ⟨B1,q1,k1',rfl,-,-,-,-⟩
 clear HCx
 simp only [zp]
 refine' dv rfl rfl rfl (fun wv HC=>?_) ?_;rotate_left
 · go_simp<;>rfl
 simp only [zp]
 refine' dv rfl rfl rfl (fun wv HC=>?_) ?_;rotate_left
 ·have q0:=(HH1.out _ HC).cell 4;go_simp<;>rfl
 simp only [zp]
 refine Zi 11 (SelC (Mut M KM) d sl sn) (f:=215) (args:=#[.slice sA sn sc,.func (.func 216) #[] #[]]) rfl rfl rfl rfl (fun wv=>?_) (fun wv HC hrm hD=>?_) ?_
 ·go_simp<;>rfl
 ·refine (HSL (Mut M KM) wv HC.Zb sA sn sc sl (HH4.out _ HC) (by omega) HG.out.s.2.2).mono ?_
  rintro e w5 ⟨B2,q2,k2,rfl,hq,hk,hg,rk,b5⟩
  exact ⟨_,rfl,⟨B2,q2,k2,rfl,hq,hk,hg,rk⟩,HC.call b5,RM.below b5⟩
 rintro u wx HCx ⟨B2,q2,k2',rfl,-,-,-,-⟩
 clear HCx
 simp only [zp]
 refine' dv rfl rfl rfl (fun wv HC=>?_) ?_;rotate_left
 · go_simp<;>rfl
 simp only [zp]
 refine' dv rfl rfl rfl (fun wv HC=>?_) ?_;rotate_left
 ·have q0:=(HH1.out _ HC).cell 5;go_simp<;>rfl
 simp only [zp]
 refine Zi 14 (ExlC (Mut M KM) d hl hn_) (f:=184) (args:=#[.slice hA hn_ hc]) rfl rfl rfl rfl (fun wv=>?_) (fun wv HC hrm hD=>?_) ?_
 ·go_simp<;>rfl
 ·refine (HXS (Mut M KM) wv HC.Zb hA hn_ hc hl (HH5.out _ HC) (by omega) HG.out.h.2.2).mono ?_
  rintro e w5 ⟨B3,q3,k3,rfl,hq,hk,hg,rk,b5⟩
  exact ⟨_,rfl,⟨B3,q3,k3,rfl,hq,hk,hg,rk⟩,HC.call b5,RM.below b5⟩
 rintro u wx HCx ⟨B3,q3,k3',rfl,-,-,-,-⟩
 clear HCx
 simp only [zp]
 refine' dv rfl rfl rfl (fun wv HC=>?_) ?_;rotate_left
 · go_simp<;>rfl
 simp only [zp]
 refine Zk ?_
 rintro wx3 HX
 rintro _hrm HGW
 have c0:RwlC (Mut M KM) d rl rn (.slice B0 rn q0) wx3:=(Zo (d:=5) rfl).1 (HGW 2 _ rfl (by omega))
 obtain ⟨B0',q0',k0,e0,hq0,hk0,hg0,rk0⟩:=c0
 obtain ⟨rfl,rfl⟩:B0=B0' ∧q0=q0' :=by injection e0 with e1 e2 e3;exact ⟨e1,e3⟩
 clear e0
 have c1:QulC (Mut M KM) d ql qn (.slice B1 qn q1) wx3:=(Zo (d:=8) rfl).1 (HGW 5 _ rfl (by omega))
 obtain ⟨B1',q1',k1,e1,hq1,hk1,hg1,rk1⟩:=c1
 obtain ⟨rfl,rfl⟩:B1=B1' ∧q1=q1' :=by injection e1 with e1 e2 e3;exact ⟨e1,e3⟩
 clear e1
 have c2:SelC (Mut M KM) d sl sn (.slice B2 sn q2) wx3:=(Zo (d:=11) rfl).1 (HGW 8 _ rfl (by omega))
 obtain ⟨B2',q2',k2,e2,hq2,hk2,hg2,rk2⟩:=c2
 obtain ⟨rfl,rfl⟩:B2=B2' ∧q2=q2' :=by injection e2 with e1 e2 e3;exact ⟨e1,e3⟩
 clear e2
 have c3:ExlC (Mut M KM) d hl hn_ (.slice B3 hn_ q3) wx3:=(Zo (d:=14) rfl).1 (HGW 11 _ rfl (by omega))
 obtain ⟨B3',q3',k3,e3,hq3,hk3,hg3,rk3⟩:=c3
 obtain ⟨rfl,rfl⟩:B3=B3' ∧q3=q3' :=by injection e3 with e1 e2 e3;exact ⟨e1,e3⟩
 clear e3
 clear HGW _hrm
 have K7:=((((HX.add rk0).add (rk1.less (by simp [ZL,Hp.foot]))).add (rk2.less (by simp [ZL,Hp.foot]))).add (rk3.less (by simp [ZL,Hp.foot])))
 rw [HKM.out] at K7
 have F7:=K7.facts
 simp only [zg] at F7
 have K8:=K7.store 4 rfl 2 (.slice B0 rn q0)
 simp only [zl] at K8
 have F8:=K8.facts
 simp only [zg] at F8
 have K9:=K8.store 4 rfl 3 (.slice B1 qn q1)
 simp only [zl] at K9
 have F9:=K9.facts
 simp only [zg] at F9
 have K10:=K9.store 4 rfl 4 (.slice B2 sn q2)
 simp only [zl] at K10
 have F10:=K10.facts
 simp only [zg] at F10
 have K11:=K10.store 4 rfl 5 (.slice B3 hn_ q3)
 simp only [zl] at K11
 have F11:=K11.facts
 simp only [zg] at F11
 have K12:=(((((((K11.store 5 rfl 0 (.int .i64 kind)).store 5 rfl 1 (.string tab)).store 5 rfl 2 (.slice B0 rn q0)).store 5 rfl 3 (.slice B1 qn q1)).store 5 rfl 4 (.slice B2 sn q2)).store 5 rfl 5 (.slice B3 hn_ q3)).store 5 rfl 6 (.string text))
 simp only [zl] at K12
 have F12:=K12.facts
 simp only [zg] at F12
 have HR0:=hid ((K12.ro 3 rfl).less zm)
 have HR1:=hid ((K12.ro 2 rfl).less zm)
 have HR2:=hid ((K12.ro 1 rfl).less zm)
 have HR3:=hid ((K12.ro 0 rfl).less zm)
 have HB:=hid K12.below
 clear K7 K8 K9 K10 K11 K12 HX rk0 rk1 rk2 rk3 HH1 HH2 HH3 HH4 HH5 HKM K6
 go_wp2_with fail
 refine Lh (v:=.agg #[.int .i64 kind,.string tab,.slice B0 rn q0,.slice B1 qn q1,.slice B2 sn q2,.slice B3 hn_ q3,.string text]) ?_ rfl ?_
 ·clear HR0 HR1 HR2 HR3 HB
  simp [results,Tryz.results186,go_sem,F12]
 ·exact ⟨⟨kind,tab,⟨B0,rn,q0,k0⟩,⟨B1,qn,q1,k1⟩,⟨B2,sn,q2,k2⟩,⟨B3,hn_,q3,k3⟩,text⟩,rfl,⟨HG.out.k,⟨hq0,by have:=X6 hk0;have:=HG.out.r.2.1;simp only at *;omega,hg0⟩,⟨hq1,by have:=X6 hk1;have:=HG.out.q.2.1;simp only at *;omega,hg1⟩,⟨hq2,by have:=X6 hk2;have:=HG.out.s.2.1;simp only at *;omega,hg2⟩,⟨hq3,by have:=X6 hk3;have:=HG.out.h.2.1;simp only at *;omega,hg3⟩⟩,by simp only [fAc,hk2],((HR0.out.and HR1.out).and (HR2.out.and HR3.out)).imp fun w2 h2=>⟨⟨h2.1.1.1,h2.1.1.2⟩,⟨h2.1.2.1,h2.1.2.2⟩,⟨h2.2.1.1,h2.2.1.2⟩,h2.2.2.1,h2.2.2.2⟩,HB.out⟩
theorem Zla (d:Nat):seL d:=Zlb (Zk8 (QY d))
theorem ZkX (d:Nat):rxL d:=ZkY (ZkV (Q3 d))
theorem ZeA (d:Nat):acE d:=ZeB (ZkX d) (ZjA d) (Zla d) (Q3 d)
theorem Tryz.Zgu:ElemT Tryz.prog 45 44 7 136 (.agg #[.int .i64 0,.string ⟨#[]⟩,.slice none 0 0,.slice none 0 0,.slice none 0 0,.slice none 0 0,.string ⟨#[]⟩]):=⟨Tryz.underlying45,by kernel_rfl,rfl,by omega⟩
def ZeC (d:Nat) (M:Nat→Prop) (n:Nat) (l:List Ac) (w:World) (e:Ending) (w' :World):Prop:=∃ (B:Option Addr) (q:Nat) (k:List Ac),e=.returned (.slice B n q)∧(n≤q∧q≤9223372036854775807)∧k.map fAc=l.map fAc∧(∀ x∈k,AcGd d x)∧Ro w' M (fun w=>SlR 7 B n (k.flatMap Ac.cells) w∧∀ x∈k,AcIn d x w)∧Below w.heap.size w w'
def acL (d:Nat):Prop:=∀ (M:Nat→Prop) (w:World) (hM:∀ b,M b→b<w.heap.size) (A:Option Addr) (n c:Nat) (l:List Ac) (hD:Ro w M (fun w=>SlR 7 A n (l.flatMap Ac.cells) w∧∀ x∈l,AcIn d x w)) (hn:n≤1000) (hg:∀ x∈l,AcGd d x),Calls Tryz.prog 185 #[.slice A n c,.func (.func 186) #[] #[]] w fun e w' =>ZeC d M n l w e w'
theorem ZeE {d:Nat} (HE:acE d):acL d:=by
 intro M w hM A n c l hD hn hg
 have HL:=hid (show l.length=n from by
  have h:=(show Rd _ _ 7 A n (l.flatMap Ac.cells) from hD.now.1).1
  rw [YL Ac.cells 7 (fun _=>rfl)] at h
  omega)
 have HG:=hid hg
 have K0:=(((Hold.start M w hM).add (hD.less (by simp [Mut]))).add (S:=fun w=>∀ x∈([]:List Ac),AcIn d x w) (fun w2 _ _ x hx=>(nomatch hx))).nil 44 7
 clear hD hg
 go_enter Tryz.func185,Tryz.ntmps185
 go_wp2_with fail
 go_loopw [5,10] (fun ov iv wr=>∃ (j cap:Nat) (O:Option Addr) (outs:List Ac),j≤n∧iv=.int .i64 j∧ov=.slice O j cap∧Hid (outs.map fAc=(l.take j).map fAc∧∀ x∈outs,AcGd d x)∧Hold M none w wr [.own 44 7 (.slice O j cap) j (outs.flatMap Ac.cells),.ro (fun w=>∀ x∈outs,AcIn d x w),.ro (fun w=>SlR 7 A n (l.flatMap Ac.cells) w∧∀ x∈l,AcIn d x w)]) (fun _ iv _=>n - (intOf iv).toNat)
 case atStart=>exact ⟨0,0,none,[],by omega,rfl,rfl,hid ⟨rfl,fun x hx=>(nomatch hx)⟩,K0⟩
 case round=>
  clear K0
  obtain ⟨j,cap,O,outs,hj,rfl,rfl,HO,H⟩:=hrel
  by_cases hlt:j<n
  ·obtain ⟨x,hx⟩:=Zl HL.out hlt
   obtain ⟨b,o,rfl,hb,hc⟩:=(show ∃ b o,A=some ⟨b,o,none⟩∧b<wr.heap.size∧∀ q u,q<7→(Ac.cells x)[q]? =some u→World.cell? wr ⟨b,o+j * 7+q,none⟩=some u from by
    obtain ⟨b,o,e,hb,hcl⟩:=(show Rd _ _ 7 A n (l.flatMap Ac.cells) from (H.ro 2 rfl).now.1).2 (by omega)
    refine ⟨b,o,e,hb,fun q u hq hu=>?_⟩
    rw [Nat.add_assoc]
    exact hcl _ _ ((flat_get Ac.cells 7 (fun _=>rfl) l j q _ hq hx).trans hu))
   have x0:=hc 0 _ (by omega) rfl
   have x1:=hc 1 _ (by omega) rfl
   have x2:=hc 2 _ (by omega) rfl
   have x3:=hc 3 _ (by omega) rfl
   have x4:=hc 4 _ (by omega) rfl
   have x5:=hc 5 _ (by omega) rfl
   have x6:=hc 6 _ (by omega) rfl
   simp only [Nat.add_zero,Nat.mul_one,SlP.v] at x0 x1 x2 x3 x4 x5 x6
   have hm:=Ka hx
   have HX:=hid hx
   clear hc hx
   have K1:=H.Za #[.int .i64 x.kind,.string x.tab,.slice x.rows.A x.rows.n x.rows.c,.slice x.qs.A x.qs.n x.qs.c,.slice x.sets.A x.sets.n x.sets.c,.slice x.wh.A x.wh.n x.wh.c,.string x.text] 44
   have F1:=K1.facts
   simp only [zg] at F1
   clear H
   go_wp2_with fail
   clear F1 x0 x1 x2 x3 x4 x5 x6
   refine (HE (Mut M _) _ K1.Zb x (((K1.ro 3 rfl).imp fun w2 h2=>h2.2 x hm)) (HG.out x hm)).mono ?_
   rintro e w2 ⟨y,rfl,hy,hyg,ry,b2⟩
   have HY:=hid (KJ hy hyg)
   have K2:=(K1.call b2).add ry
   clear K1 b2 ry hy hyg
   skip
   go_wp2_with (at_builtin;go_must (refine ZJ K2 2 rfl Tryz.Zgu #[.int .i64 y.kind,.string y.tab,.slice y.rows.A y.rows.n y.rows.c,.slice y.qs.A y.qs.n y.qs.c,.slice y.sets.A y.sets.n y.sets.c,.slice y.wh.A y.wh.n y.wh.c,.string y.text] rfl (.tmp 14) (.tmp 18) rfl rfl _ (by first|rfl|simp) rfl rfl (by intro u hu;simp at hu;rcases hu with rfl|rfl|rfl|rfl|rfl|rfl|rfl<;>rfl) (by omega) (by omega) ?_);intro gA capA wA hcA hmA KA;simp only [zl] at KA)
   rw [show outs.flatMap Ac.cells++(#[.int .i64 y.kind,.string y.tab,.slice y.rows.A y.rows.n y.rows.c,.slice y.qs.A y.qs.n y.qs.c,.slice y.sets.A y.sets.n y.sets.c,.slice y.wh.A y.wh.n y.wh.c,.string y.text]:Array Value).toList=(outs++[y]).flatMap Ac.cells from by simp [Ac.cells,SlP.v]] at KA
   have hR:Ro _ _ (fun w=>∀ x∈outs++[y],AcIn d x w):=((KA.ro 3 rfl).and (KA.ro 0 rfl)).imp fun w2 h2 z hz=>by
    rcases Kk.1 hz with hz|hz
    ·exact h2.1 z hz
    ·simp only [List.mem_cons,List.not_mem_nil,or_false] at hz
     subst hz
     exact h2.2
   have KB:=(KA.ZT 3 rfl hR).pick [2,3,4] (by decide) rfl
   simp only [List.set_cons_zero,List.set_cons_succ,List.filterMap_cons,List.filterMap_nil,List.getElem?_cons_zero,List.getElem?_cons_succ] at KB
   go_roundw
   case rel=>exact ⟨j+1,capA,_,outs++[y],by omega,by go_num,by first|rfl|trivial,hid ⟨Ur HO.out.1 HX.out (by first|exact HY.out.2|rfl),fun z hz=>by
    rcases Kk.1 hz with hz|hz
    ·exact HO.out.2 z hz
    ·simp only [List.mem_cons,List.not_mem_nil,or_false] at hz
     subst hz
     exact HY.out.1⟩,KB⟩
   case measure=>simp [intOf];omega
  ·obtain rfl:n=j:=by omega
   have hcap:=ZM (H.get 0 rfl)
   have KZ:=H.Zq 0 rfl
   simp only [List.set_cons_zero] at KZ
   have HRO:=hid (((KZ.ro 0 rfl).and (KZ.ro 1 rfl)).less zm)
   have HB:=hid KZ.below
   clear KZ H
   go_wp2_with fail
   go_ret
   exact ⟨O,cap,outs,rfl,⟨hcap.1,hcap.2.1⟩,by rw [HO.out.1,Kh (by rw [HL.out];exact Kg _)],HO.out.2,HRO.out.imp fun w2 h2=>⟨h2.1,h2.2⟩,HB.out⟩
theorem ZeD (d:Nat):acL d:=ZeE (ZeA d)
def AclC (M:Nat→Prop) (d:Nat) (l:List Ac) (n:Nat) (u:Value) (w:World):Prop:=∃ (B:Option Addr) (q:Nat) (k:List Ac),u=.slice B n q∧(n≤q∧q≤9223372036854775807)∧k.map fAc=l.map fAc∧(∀ x∈k,AcGd d x)∧Ro w M (fun w=>SlR 7 B n (k.flatMap Ac.cells) w∧∀ x∈k,AcIn d x w)
theorem AclC.mono {M:Nat→Prop} {d:Nat} {l:List Ac} {n:Nat} (u:Value) (w w' :World) (hr:RM M w w') (h:AclC M d l n u w):AclC M d l n u w' :=by
 obtain ⟨B,q,k,h1,h2,h3,h4,h5⟩:=h
 exact ⟨B,q,k,h1,h2,h3,h4,hr.ro h5⟩
def Ub (r:Rk):Prop:=Zal r∧r.tab.size≤maxLen∧r.col.size≤maxLen
structure TgGd (d:Nat) (t:Tg):Prop where
 e:1≤t.event∧t.event≤3
 o:XI 8 t.cols (fun _=>True)
 p:XI 8 t.prec (fun _=>True)
 f:XI 8 t.foll (fun _=>True)
 r:XI 1 t.rank Ub
 h:XI 1 t.cond (Yw d)
 a:XI 4 t.acts (AcGd d)
def ClC (M:Nat→Prop) (k:Nat) (cs:List Value) (n:Nat) (u:Value) (w:World):Prop:=∃ (B:Option Addr) (q:Nat),u=.slice B n q∧(n≤q∧q≤9223372036854775807)∧Ro w M (SlR k B n cs)
theorem ClC.mono {M:Nat→Prop} {k:Nat} {cs:List Value} {n:Nat} (u:Value) (w w' :World) (hr:RM M w w') (h:ClC M k cs n u w):ClC M k cs n u w' :=by
 obtain ⟨B,q,h1,h2,h3⟩:=h
 exact ⟨B,q,h1,h2,hr.ro h3⟩
def TgCp (t t' :Tg):Prop:=t'.name=t.name∧t'.tab=t.tab∧t'.before=t.before∧t'.event=t.event∧t'.each=t.each∧t'.cols.l=t.cols.l∧t'.acts.l.map fAc=t.acts.l.map fAc
def ZlS (d:Nat) (M:Nat→Prop) (x:Tg) (w:World) (e:Ending) (w' :World):Prop:=∃ y:Tg,e=.returned y.val∧TgGd d y∧TgCp x y∧Ro w' M (TgIn d y)∧Below w.heap.size w w'
theorem ZfZ (d:Nat) (M:Nat→Prop) (w:World) (hM:∀ b,M b→b<w.heap.size) (x:Tg) (hx:Ro w M (TgIn d x)) (hg:TgGd d x):Calls Tryz.prog 156 #[x.val] w fun e w' =>ZlS d M x w e w' :=by
 have HXS:=Q3 d
 have HAL_:=ZeD d
 obtain ⟨tn,tt,tb,te,⟨oA,on,oc,ol⟩,tch,⟨pA,pn,pc,pl⟩,⟨qA,qn,qc,ql⟩,⟨rA,rn,rc,rl⟩,⟨kA,kn,kc,kl⟩,⟨aA,an,ac,al⟩⟩:=x
 have HOL:=hid (show ol.length=on from SlP.In.len (s:=⟨oA,on,oc,ol⟩) (k:=1) (cel:=Yg) (P:=fun _ _=>True) hx.now.1 (by omega) (fun _=>rfl))
 have HPL:=hid (show pl.length=pn from SlP.In.len (s:=⟨pA,pn,pc,pl⟩) (k:=1) (cel:=Yg) (P:=fun _ _=>True) hx.now.2.1 (by omega) (fun _=>rfl))
 have HQL:=hid (show ql.length=qn from SlP.In.len (s:=⟨qA,qn,qc,ql⟩) (k:=1) (cel:=Yg) (P:=fun _ _=>True) hx.now.2.2.1 (by omega) (fun _=>rfl))
 have HRL:=hid (show rl.length=rn from SlP.In.len (s:=⟨rA,rn,rc,rl⟩) (k:=4) (cel:=Rk.cells) (P:=fun _ _=>True) hx.now.2.2.2.1 (by omega) (fun _=>rfl))
 have HKL:=hid (show kl.length=kn from ExsIn.len (show ExsIn d kA kn kl w from hx.now.2.2.2.2.1))
 have HAL:=hid (show al.length=an from SlP.In.len (s:=⟨aA,an,ac,al⟩) (k:=7) (cel:=Ac.cells) (P:=AcIn d) hx.now.2.2.2.2.2 (by omega) (fun _=>rfl))
 have hon:on≤8:=by have h2:ol.length≤8:=hg.o.2.1;have:=HOL.out;omega
 have hpn:pn≤8:=by have h2:pl.length≤8:=hg.p.2.1;have:=HPL.out;omega
 have hqn:qn≤8:=by have h2:ql.length≤8:=hg.f.2.1;have:=HQL.out;omega
 have hrn:rn≤1:=by have h2:rl.length≤1:=hg.r.2.1;have:=HRL.out;omega
 have hkn:kn≤1:=by have h2:kl.length≤1:=hg.h.2.1;have:=HKL.out;omega
 have han:an≤4:=by have h2:al.length≤4:=hg.a.2.1;have:=HAL.out;omega
 have HG:=hid hg
 have K0:=(((Hold.start M w hM).add (hx.less (by simp [Mut]))).alloc #[.string tn,.string tt,.bool tb,.int .i64 te,.slice oA on oc,.bool tch,.slice pA pn pc,.slice qA qn qc,.slice rA rn rc,.slice kA kn kc,.slice aA an ac] 48).alloc #[.string ⟨#[]⟩,.string ⟨#[]⟩,.bool false,.int .i64 0,.slice none 0 0,.bool false,.slice none 0 0,.slice none 0 0,.slice none 0 0,.slice none 0 0,.slice none 0 0] 48
 rw [KP] at K0
 obtain ⟨g1,hg1⟩:∃ g,g=w.heap.size:=⟨_,rfl⟩
 rw [←hg1] at K0
 obtain ⟨g2,hg2⟩:∃ g,g=g1+1:=⟨_,rfl⟩
 rw [←hg2] at K0
 have KB:=K0.pick (L' :=[.blk g1 48 #[.string tn,.string tt,.bool tb,.int .i64 te,.slice oA on oc,.bool tch,.slice pA pn pc,.slice qA qn qc,.slice rA rn rc,.slice kA kn kc,.slice aA an ac],.blk g2 48 #[.string ⟨#[]⟩,.string ⟨#[]⟩,.bool false,.int .i64 0,.slice none 0 0,.bool false,.slice none 0 0,.slice none 0 0,.slice none 0 0,.slice none 0 0,.slice none 0 0],.ro (TgIn d ⟨tn,tt,tb,te,⟨oA,on,oc,ol⟩,tch,⟨pA,pn,pc,pl⟩,⟨qA,qn,qc,ql⟩,⟨rA,rn,rc,rl⟩,⟨kA,kn,kc,kl⟩,⟨aA,an,ac,al⟩⟩)]) [1,0,2] (by decide) rfl
 clear hx K0 hg
 simp only [Tg.val]
 go_enter Tryz.func156,Tryz.ntmps156
 go_upto_region 1 with fail
 rw [←hg1]
 try rw [←hg2]
 have HGX:=hid (KJ hg1 hg2)
 clear hg1 hg2
 generalize World.alloc _ _=w1 at KB ⊢
 obtain ⟨KM,hKM,K6⟩:=KB.name
 have H1:∀ wv:World,Hold M none w wv KM→Blk wv g1 48 #[.string tn,.string tt,.bool tb,.int .i64 te,.slice oA on oc,.bool tch,.slice pA pn pc,.slice qA qn qc,.slice rA rn rc,.slice kA kn kc,.slice aA an ac]:=fun wv h=>by rw [hKM] at h;exact h.Ym 0 rfl
 have H2:∀ wv:World,Hold M none w wv KM→Ro wv (Mut M KM) (TgIn d ⟨tn,tt,tb,te,⟨oA,on,oc,ol⟩,tch,⟨pA,pn,pc,pl⟩,⟨qA,qn,qc,ql⟩,⟨rA,rn,rc,rl⟩,⟨kA,kn,kc,kl⟩,⟨aA,an,ac,al⟩⟩):=fun wv h=>by rw [hKM] at h ⊢;exact h.ro 2 rfl
 have HH1:=hid H1
 have HH2:=hid H2
 have HKM:=hid hKM
 clear hKM H1 H2 KB
 refine Lj (by kernel_rfl) ?_
 refine Zn 13 28 (KM) (spL [(5,ClC (Mut M KM) 1 (ol.flatMap Yg) on),(8,ClC (Mut M KM) 1 (pl.flatMap Yg) pn),(11,ClC (Mut M KM) 1 (ql.flatMap Yg) qn),(14,ClC (Mut M KM) 4 (rl.flatMap Rk.cells) rn)]) (by kernel_rfl) (by kernel_rfl) (by kernel_rfl) rfl ?_ (K6.drew) ?_
 ·exact Zd ClC.mono (Zd ClC.mono (Zd ClC.mono (Zd ClC.mono (Zm _))))
 simp only [zd,zp,List.getElem_toArray,List.getElem_cons_zero,List.getElem_cons_succ]
 refine' dv rfl rfl rfl (fun wv HC=>?_) ?_;rotate_left
 · go_simp<;>rfl
 simp only [zp]
 refine' dv rfl rfl rfl (fun wv HC=>?_) ?_;rotate_left
 ·have q0:=(HH1.out _ HC).cell 4;go_simp<;>rfl
 simp only [zp]
 refine Zi 5 (ClC (Mut M KM) 1 (ol.flatMap Yg) on) (f:=182) (args:=#[.slice oA on oc]) rfl rfl rfl rfl (fun wv=>?_) (fun wv HC hrm hD=>?_) ?_
 ·go_simp<;>rfl
 ·refine (Gs (Mut M KM) wv HC.Zb oA on oc ol ((HH2.out _ HC).imp fun w2 h2=>h2.1.1) HOL.out (by omega)).mono ?_
  rintro e w5 ⟨B,n',q,rfl,rfl,hq1,hq2,rk,b5⟩
  exact ⟨_,rfl,⟨B,q,rfl,⟨hq1,hq2⟩,rk⟩,HC.call b5,RM.below b5⟩
 rintro u wx HCx ⟨B0,q0,rfl,-,-⟩
 clear HCx
 simp only [zp]
 refine' dv rfl rfl rfl (fun wv HC=>?_) ?_;rotate_left
 · go_simp<;>rfl
 simp only [zp]
 refine' dv rfl rfl rfl (fun wv HC=>?_) ?_;rotate_left
 ·have q0:=(HH1.out _ HC).cell 6;go_simp<;>rfl
 simp only [zp]
 refine Zi 8 (ClC (Mut M KM) 1 (pl.flatMap Yg) pn) (f:=182) (args:=#[.slice pA pn pc]) rfl rfl rfl rfl (fun wv=>?_) (fun wv HC hrm hD=>?_) ?_
 ·go_simp<;>rfl
 ·refine (Gs (Mut M KM) wv HC.Zb pA pn pc pl ((HH2.out _ HC).imp fun w2 h2=>h2.2.1.1) HPL.out (by omega)).mono ?_
  rintro e w5 ⟨B,n',q,rfl,rfl,hq1,hq2,rk,b5⟩
  exact ⟨_,rfl,⟨B,q,rfl,⟨hq1,hq2⟩,rk⟩,HC.call b5,RM.below b5⟩
 rintro u wx HCx ⟨B1,q1,rfl,-,-⟩
 clear HCx
 simp only [zp]
 refine' dv rfl rfl rfl (fun wv HC=>?_) ?_;rotate_left
 · go_simp<;>rfl
 simp only [zp]
 refine' dv rfl rfl rfl (fun wv HC=>?_) ?_;rotate_left
 ·have q0:=(HH1.out _ HC).cell 7;go_simp<;>rfl
 simp only [zp]
 refine Zi 11 (ClC (Mut M KM) 1 (ql.flatMap Yg) qn) (f:=182) (args:=#[.slice qA qn qc]) rfl rfl rfl rfl (fun wv=>?_) (fun wv HC hrm hD=>?_) ?_
 ·go_simp<;>rfl
 ·refine (Gs (Mut M KM) wv HC.Zb qA qn qc ql ((HH2.out _ HC).imp fun w2 h2=>h2.2.2.1.1) HQL.out (by omega)).mono ?_
  rintro e w5 ⟨B,n',q,rfl,rfl,hq1,hq2,rk,b5⟩
  exact ⟨_,rfl,⟨B,q,rfl,⟨hq1,hq2⟩,rk⟩,HC.call b5,RM.below b5⟩
 rintro u wx HCx ⟨B2,q2,rfl,-,-⟩
 clear HCx
 simp only [zp]
 refine' dv rfl rfl rfl (fun wv HC=>?_) ?_;rotate_left
 · go_simp<;>rfl
 simp only [zp]
 refine' dv rfl rfl rfl (fun wv HC=>?_) ?_;rotate_left
 ·have q0:=(HH1.out _ HC).cell 8;go_simp<;>rfl
 simp only [zp]
 refine Zi 14 (ClC (Mut M KM) 4 (rl.flatMap Rk.cells) rn) (f:=183) (args:=#[.slice rA rn rc]) rfl rfl rfl rfl (fun wv=>?_) (fun wv HC hrm hD=>?_) ?_
 ·go_simp<;>rfl
 ·refine (Zfz (Mut M KM) wv HC.Zb rA rn rc rl ((HH2.out _ HC).imp fun w2 h2=>h2.2.2.2.1.1) HRL.out (by omega)).mono ?_
  rintro e w5 ⟨B,n',q,rfl,rfl,hq1,hq2,rk,b5⟩
  exact ⟨_,rfl,⟨B,q,rfl,⟨hq1,hq2⟩,rk⟩,HC.call b5,RM.below b5⟩
 rintro u wx HCx ⟨B3,q3,rfl,-,-⟩
 clear HCx
 simp only [zp]
 refine' dv rfl rfl rfl (fun wv HC=>?_) ?_;rotate_left
 · go_simp<;>rfl
 simp only [zp]
 refine Zk ?_
 rintro wx3 HX
 rintro _hrm HGW
 obtain ⟨B0',q0',e0,hq0,rk0⟩:ClC (Mut M KM) 1 (ol.flatMap Yg) on (.slice B0 on q0) wx3:=(Zo (d:=5) rfl).1 (HGW 2 _ rfl (by omega))
 obtain ⟨rfl,rfl⟩:B0=B0' ∧q0=q0' :=by injection e0 with e1 e2 e3;exact ⟨e1,e3⟩
 clear e0
 obtain ⟨B1',q1',e1,hq1,rk1⟩:ClC (Mut M KM) 1 (pl.flatMap Yg) pn (.slice B1 pn q1) wx3:=(Zo (d:=8) rfl).1 (HGW 5 _ rfl (by omega))
 obtain ⟨rfl,rfl⟩:B1=B1' ∧q1=q1' :=by injection e1 with e1 e2 e3;exact ⟨e1,e3⟩
 clear e1
 obtain ⟨B2',q2',e2,hq2,rk2⟩:ClC (Mut M KM) 1 (ql.flatMap Yg) qn (.slice B2 qn q2) wx3:=(Zo (d:=11) rfl).1 (HGW 8 _ rfl (by omega))
 obtain ⟨rfl,rfl⟩:B2=B2' ∧q2=q2' :=by injection e2 with e1 e2 e3;exact ⟨e1,e3⟩
 clear e2
 obtain ⟨B3',q3',e3,hq3,rk3⟩:ClC (Mut M KM) 4 (rl.flatMap Rk.cells) rn (.slice B3 rn q3) wx3:=(Zo (d:=14) rfl).1 (HGW 11 _ rfl (by omega))
 obtain ⟨rfl,rfl⟩:B3=B3' ∧q3=q3' :=by injection e3 with e1 e2 e3;exact ⟨e1,e3⟩
 clear e3
 clear HGW _hrm
 have K7:=(((HX.add rk0).add (rk1.less (by simp [ZL,Hp.foot]))).add (rk2.less (by simp [ZL,Hp.foot]))).add (rk3.less (by simp [ZL,Hp.foot]))
 rw [HKM.out] at K7
 have F7:=K7.facts
 simp only [zg] at F7
 have K8:=K7.store 4 rfl 4 (.slice B0 on q0)
 simp only [zl] at K8
 have F8:=K8.facts
 simp only [zg] at F8
 have K9:=K8.store 4 rfl 6 (.slice B1 pn q1)
 simp only [zl] at K9
 have F9:=K9.facts
 simp only [zg] at F9
 have K10:=K9.store 4 rfl 7 (.slice B2 qn q2)
 simp only [zl] at K10
 have F10:=K10.facts
 simp only [zg] at F10
 have K11:=K10.store 4 rfl 8 (.slice B3 rn q3)
 simp only [zl] at K11
 have F11:=K11.facts
 simp only [zg] at F11
 clear HX rk0 rk1 rk2 rk3 HH1 HH2 HKM K6 K7 K8 K9 K10
 go_upto_region 2 with fail
 clear F7 F8 F9 F10 F11
 generalize World.setCell _ _ _=w2 at K11 ⊢
 obtain ⟨KN,hKN,K12⟩:=K11.name
 have H1:∀ wv:World,Hold M none w wv KN→Blk wv g1 48 #[.string tn,.string tt,.bool tb,.int .i64 te,.slice B0 on q0,.bool tch,.slice B1 pn q1,.slice B2 qn q2,.slice B3 rn q3,.slice kA kn kc,.slice aA an ac]:=fun wv h=>by rw [hKN] at h;exact h.Ym 4 rfl
 have H2:∀ wv:World,Hold M none w wv KN→Ro wv (Mut M KN) (TgIn d ⟨tn,tt,tb,te,⟨oA,on,oc,ol⟩,tch,⟨pA,pn,pc,pl⟩,⟨qA,qn,qc,ql⟩,⟨rA,rn,rc,rl⟩,⟨kA,kn,kc,kl⟩,⟨aA,an,ac,al⟩⟩):=fun wv h=>by rw [hKN] at h ⊢;exact h.ro 6 rfl
 have HH1:=hid H1
 have HH2:=hid H2
 have HKN:=hid hKN
 clear hKN H1 H2 K11
 refine Lj (by kernel_rfl) ?_
 refine Zn 7 28 (KN) (spL [(21,ExlC (Mut M KN) d kl kn),(24,AclC (Mut M KN) d al an)]) (by kernel_rfl) (by kernel_rfl) (by kernel_rfl) rfl ?_ (K12.drew) ?_
 ·exact Zd ExlC.mono (Zd AclC.mono (Zm _))
 simp only [zd,zp,List.getElem_toArray,List.getElem_cons_zero,List.getElem_cons_succ]
 refine' dv rfl rfl rfl (fun wv HC=>?_) ?_;rotate_left
 · go_simp<;>rfl
 simp only [zp]
 refine' dv rfl rfl rfl (fun wv HC=>?_) ?_;rotate_left
 ·have q0:=(HH1.out _ HC).cell 9;go_simp<;>rfl
 simp only [zp]
 refine Zi 21 (ExlC (Mut M KN) d kl kn) (f:=184) (args:=#[.slice kA kn kc]) rfl rfl rfl rfl (fun wv=>?_) (fun wv HC hrm hD=>?_) ?_
 ·go_simp<;>rfl
 ·refine (HXS (Mut M KN) wv HC.Zb kA kn kc kl ((HH2.out _ HC).imp fun w2 h2=>⟨h2.2.2.2.2.1.1,h2.2.2.2.2.1.2⟩) (by omega) HG.out.h.2.2).mono ?_
  rintro e w5 ⟨B,q,k,rfl,hq,hk,hg,rk,b5⟩
  exact ⟨_,rfl,⟨B,q,k,rfl,hq,hk,hg,rk⟩,HC.call b5,RM.below b5⟩
 rintro u wx HCx ⟨B4,q4,k4',rfl,-,-,-,-⟩
 clear HCx
 simp only [zp]
 refine' dv rfl rfl rfl (fun wv HC=>?_) ?_;rotate_left
 · go_simp<;>rfl
 simp only [zp]
 refine' dv rfl rfl rfl (fun wv HC=>?_) ?_;rotate_left
 ·have q0:=(HH1.out _ HC).cell 10;go_simp<;>rfl
 simp only [zp]
 refine Zi 24 (AclC (Mut M KN) d al an) (f:=185) (args:=#[.slice aA an ac,.func (.func 186) #[] #[]]) rfl rfl rfl rfl (fun wv=>?_) (fun wv HC hrm hD=>?_) ?_
 ·go_simp<;>rfl
 ·refine (HAL_ (Mut M KN) wv HC.Zb aA an ac al ((HH2.out _ HC).imp fun w2 h2=>⟨h2.2.2.2.2.2.1,h2.2.2.2.2.2.2⟩) (by omega) HG.out.a.2.2).mono ?_
  rintro e w5 ⟨B,q,k,rfl,hq,hk,hg,rk,b5⟩
  exact ⟨_,rfl,⟨B,q,k,rfl,hq,hk,hg,rk⟩,HC.call b5,RM.below b5⟩
 rintro u wx HCx ⟨B5,q5,k5',rfl,-,-,-,-⟩
 clear HCx
 simp only [zp]
 refine' dv rfl rfl rfl (fun wv HC=>?_) ?_;rotate_left
 · go_simp<;>rfl
 simp only [zp]
 refine Zk ?_
 rintro wx4 HX
 rintro _hrm HGW
 obtain ⟨B4',q4',k4,e4,hq4,hk4,hg4,rk4⟩:ExlC (Mut M KN) d kl kn (.slice B4 kn q4) wx4:=(Zo (d:=21) rfl).1 (HGW 2 _ rfl (by omega))
 obtain ⟨rfl,rfl⟩:B4=B4' ∧q4=q4' :=by injection e4 with e1 e2 e3;exact ⟨e1,e3⟩
 obtain ⟨B5',q5',k5,e5,hq5,hk5,hg5,rk5⟩:AclC (Mut M KN) d al an (.slice B5 an q5) wx4:=(Zo (d:=24) rfl).1 (HGW 5 _ rfl (by omega))
 obtain ⟨rfl,rfl⟩:B5=B5' ∧q5=q5' :=by injection e5 with e1 e2 e3;exact ⟨e1,e3⟩
 clear HGW _hrm e4 e5
 have HK:=hid (KJ (KJ hk4 hg4) (KJ hk5 hg5))
 clear hk4 hg4 hk5 hg5
 have K13:=(HX.add rk4).add (rk5.less (by simp [ZL,Hp.foot]))
 rw [HKN.out] at K13
 have F13:=K13.facts
 simp only [zg] at F13
 have K14:=K13.store 6 rfl 9 (.slice B4 kn q4)
 simp only [zl] at K14
 have F14:=K14.facts
 simp only [zg] at F14
 have K15:=K14.store 6 rfl 10 (.slice B5 an q5)
 simp only [zl] at K15
 have F15:=K15.facts
 simp only [zg] at F15
 have K16:=(((((((((((K15.store 7 rfl 0 (.string tn)).store 7 rfl 1 (.string tt)).store 7 rfl 2 (.bool tb)).store 7 rfl 3 (.int .i64 te)).store 7 rfl 4 (.slice B0 on q0)).store 7 rfl 5 (.bool tch)).store 7 rfl 6 (.slice B1 pn q1)).store 7 rfl 7 (.slice B2 qn q2)).store 7 rfl 8 (.slice B3 rn q3)).store 7 rfl 9 (.slice B4 kn q4)).store 7 rfl 10 (.slice B5 an q5))
 simp only [zl] at K16
 have F16:=K16.facts
 simp only [zg] at F16
 have HR0:=hid ((K16.ro 5 rfl).less zm)
 have HR1:=hid ((K16.ro 4 rfl).less zm)
 have HR2:=hid ((K16.ro 3 rfl).less zm)
 have HR3:=hid ((K16.ro 2 rfl).less zm)
 have HR4:=hid ((K16.ro 1 rfl).less zm)
 have HR5:=hid ((K16.ro 0 rfl).less zm)
 have HB:=hid K16.below
 clear K13 K14 K15 K16 HX rk4 rk5 HH1 HH2 HKN K12
 go_wp2_with fail
 refine Lh (v:=.agg #[.string tn,.string tt,.bool tb,.int .i64 te,.slice B0 on q0,.bool tch,.slice B1 pn q1,.slice B2 qn q2,.slice B3 rn q3,.slice B4 kn q4,.slice B5 an q5]) ?_ rfl ?_
 ·clear HR0 HR1 HR2 HR3 HR4 HR5 HB
  simp [results,Tryz.results156,go_sem,F16]
 ·exact ⟨⟨tn,tt,tb,te,⟨B0,on,q0,ol⟩,tch,⟨B1,pn,q1,pl⟩,⟨B2,qn,q2,ql⟩,⟨B3,rn,q3,rl⟩,⟨B4,kn,q4,k4⟩,⟨B5,an,q5,k5⟩⟩,rfl,⟨HG.out.e,⟨hq0,HG.out.o.2.1,HG.out.o.2.2⟩,⟨hq1,HG.out.p.2.1,HG.out.p.2.2⟩,⟨hq2,HG.out.f.2.1,HG.out.f.2.2⟩,⟨hq3,HG.out.r.2.1,HG.out.r.2.2⟩,⟨hq4,by have:=X6 HK.out.1.1;have:=HG.out.h.2.1;simp only at *;omega,HK.out.1.2⟩,⟨hq5,by have:=X6 HK.out.2.1;have:=HG.out.a.2.1;simp only at *;omega,HK.out.2.2⟩⟩,⟨rfl,rfl,rfl,rfl,rfl,rfl,HK.out.2.1⟩,((HR0.out.and HR1.out).and ((HR2.out.and HR3.out).and (HR4.out.and HR5.out))).imp fun w2 h2=>⟨⟨h2.1.1,fun _ _=>trivial⟩,⟨h2.1.2,fun _ _=>trivial⟩,⟨h2.2.1.1,fun _ _=>trivial⟩,⟨h2.2.1.2,fun _ _=>trivial⟩,⟨h2.2.2.1.1,h2.2.2.1.2⟩,⟨h2.2.2.2.1,h2.2.2.2.2⟩⟩,HB.out⟩
theorem UB {α:Type} {l:List α} {j:Nat} {x:α} (hx:l[j]? =some x):l.take (j+1)=l.take j++[x]:=by
 obtain ⟨hl,e⟩:=Kc.1 hx
 rw [List.take_succ_eq_append_getElem hl,e]
structure TgEd (t:Tg):Prop where
 b:t.before=true→TgGd 5 t
 c:t.cols.l.length≤8
 a:t.acts.l.length≤4
 s:∀ a∈t.acts.l,a.sets.l.length≤8
def kTg (t:Tg):Bool × Bool × List ByteArray:=(t.before,t.each,YE t)
theorem Zc4 (t:Tg):YE t=(t.acts.l.map fAc).flatMap fun x=>if x.1=5 then x.2.2 else []:=by
 unfold YE
 rw [List.flatMap_map]
 rfl
theorem TgCp.k {t t' :Tg} (h:TgCp t t'):kTg t' =kTg t:=by
 obtain ⟨_,_,h3,_,h5,_,h7⟩:=h
 unfold kTg
 rw [h3,h5,Zc4,Zc4,h7]
structure Ef where
 tab:ByteArray
 ev:Int
 cols:SlP ByteArray
def Ef.cells (x:Ef):List Value:=[.string x.tab,.int .i64 x.ev,.slice x.cols.A x.cols.n x.cols.c]
def Xm (l:List Ef):List Value:=l.flatMap Ef.cells
theorem Zgn (l:List Ef):(Xm l).length=l.length * 3:=YL _ 3 (fun _=>rfl) l
theorem GA (l:List Ef) (x:Ef):Xm (l++[x])=Xm l++x.cells:=by simp [Xm]
def UH (x:Ef) (w:World):Prop:=StrsIn x.cols.A x.cols.n x.cols.l w
def V7 (l:List Ef) (w:World):Prop:=∀ x∈l,UH x w
def EfsIn (A:Option Addr) (n:Nat) (l:List Ef) (w:World):Prop:=SlR 3 A n (Xm l) w∧V7 l w
theorem EfsIn.len {A:Option Addr} {n:Nat} {l:List Ef} {w:World} (h:EfsIn A n l w):l.length=n:=by
 have:=(show Rd w w.heap.size 3 A n (Xm l) from h.1).1
 rw [Zgn] at this
 omega
theorem EfsIn.at_ {w:World} {A:Option Addr} {n:Nat} {l:List Ef} (h:EfsIn A n l w) {k:Nat} {x:Ef} (hx:l[k]? =some x):
  ∃ b o,A=some ⟨b,o,none⟩∧b<w.heap.size∧w.cell? ⟨b,o+k * 3,none⟩=some (.string x.tab)∧w.cell? ⟨b,o+k * 3+1,none⟩=some (.int .i64 x.ev)∧w.cell? ⟨b,o+k * 3+2,none⟩=some (.slice x.cols.A x.cols.n x.cols.c):=by
 have hk:k<n:=by rw [←h.len];exact (Kc.1 hx).1
 obtain ⟨b,o,e,hb,hc⟩:=(show Rd w w.heap.size 3 A n (Xm l) from h.1).2 (by omega)
 exact ⟨b,o,e,hb,hc _ _ (flat_get Ef.cells 3 (fun _=>rfl) l k 0 x (by omega) hx),hc _ _ (flat_get Ef.cells 3 (fun _=>rfl) l k 1 x (by omega) hx),hc _ _ (flat_get Ef.cells 3 (fun _=>rfl) l k 2 x (by omega) hx)⟩
def efC (u:Tg) (x:Ef):Bool:=!u.before&&decide (x.tab=u.tab)&&decide (x.ev=u.event)&&(decide (u.cols.l=[])||u.cols.l.any fun c=>hasB x.cols.l c)
def EfA (ts:List Tg) (a:Ac) (x:Ef):Prop:=x.tab=a.tab∧x.ev=a.kind∧((a.kind=1∨a.kind=3)∧x.cols.l=[]∨a.kind=2∧∀ s,s∈x.cols.l↔XX ts a s=true)
theorem Zas {α:Type} {l:List α} {f g:α→Bool} (h:∀ x,f x=g x):l.any f=l.any g:=by rw [show f=g from funext h]
theorem Zgp {ts:List Tg} {a:Ac} {x:Ef} (h:EfA ts a x) (u:Tg):efC u x=Vf ts u a:=by
 obtain ⟨h1,h2,h3⟩:=h
 unfold efC Vf
 rw [h1,h2]
 rcases h3 with ⟨h3,h4⟩|⟨h3,h4⟩
 ·have e1:(decide (a.kind=1)||decide (a.kind=2)||decide (a.kind=3))=true:=by rcases h3 with h3|h3<;>simp [h3]
  have e2:decide (a.kind=2)=false:=by rcases h3 with h3|h3<;>simp [h3]
  have e3:(u.cols.l.any fun c=>hasB x.cols.l c)=(u.cols.l.any fun c=>decide (a.kind=2)&&XX ts a c):=Zas fun c=>by rw [h4,e2];rfl
  rw [e1,e3]
  simp [Bool.and_assoc]
 ·have e1:(decide (a.kind=1)||decide (a.kind=2)||decide (a.kind=3))=true:=by simp [h3]
  have e2:decide (a.kind=2)=true:=by simp [h3]
  have e3:(u.cols.l.any fun c=>hasB x.cols.l c)=(u.cols.l.any fun c=>decide (a.kind=2)&&XX ts a c):=Zas fun c=>by
   rw [e2,Bool.true_and]
   exact Bool.eq_iff_iff.2 (Qd.trans (h4 c))
  rw [e1,e3]
  simp [Bool.and_assoc]
theorem Zfm {ts:List Tg} {u:Tg} {a:Ac} (h1:a.kind≠1) (h2:a.kind≠2) (h3:a.kind≠3):Vf ts u a=false:=by
 unfold Vf;simp [h1,h2,h3]
def U0 (a:Ac):Bool:=decide (a.kind=1)||decide (a.kind=2)||decide (a.kind=3)
def VC (ts:List Tg) (l:List Ac) (k:List Ef):Prop:=k.length=(l.filter U0).length∧∀ u,k.any (efC u)=l.any (Vf ts u)
theorem Zgs (ts:List Tg):VC ts [] []:=⟨rfl,fun _=>rfl⟩
theorem Zgt {ts:List Tg} {l:List Ac} {k:List Ef} {j:Nat} {a:Ac} (h:VC ts (l.take j) k) (ha:l[j]? =some a) (h1:a.kind≠1) (h2:a.kind≠2) (h3:a.kind≠3):VC ts (l.take (j+1)) k:=by
 have e:l.take (j+1)=l.take j++[a]:=by rw [Kq,ha];rfl
 refine ⟨?_,fun u=>?_⟩
 ·rw [e,KY,h.1];simp [U0,h1,h2,h3]
 ·rw [e,List.any_append,h.2 u];simp [Zfm h1 h2 h3]
theorem GD {ts:List Tg} {l:List Ac} {k:List Ef} {j:Nat} {a:Ac} {x:Ef} (h:VC ts (l.take j) k) (ha:l[j]? =some a) (hx:EfA ts a x):VC ts (l.take (j+1)) (k++[x]):=by
 have e:l.take (j+1)=l.take j++[a]:=by rw [Kq,ha];rfl
 have hd:U0 a=true:=by
  unfold U0
  rcases hx.2.2 with ⟨h3|h3,_⟩|⟨h3,_⟩<;>simp [h3]
 refine ⟨?_,fun u=>?_⟩
 ·rw [e,KY,List.length_append,List.length_append,h.1];simp [hd]
 ·rw [e,List.any_append,List.any_append,h.2 u];simp [Zgp hx u]
end
end Go.Proofs.YtnmnkbnmollpmaaGreatDoor

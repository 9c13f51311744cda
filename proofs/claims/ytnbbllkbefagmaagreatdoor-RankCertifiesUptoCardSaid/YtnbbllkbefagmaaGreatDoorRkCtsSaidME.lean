import Derived.Test.YtnbbllkbefagmaaGreatDoorRkCtsSaidMD
import Derived.Test.YtnbbllkbefagmaaGreatDoorRkCtsSaidMC
namespace Go.Proofs.YtnbbllkbefagmaaGreatDoor
open Go.RowKit
set_option linter.unusedVariables false
set_option linter.unusedSimpArgs false
theorem zl.{u}:(∀ {α:Type u} {x:α} {xs:List α} {a:α},(x::xs).set 0 a=a::xs)∧(∀ {α:Type u} {x:α} {xs:List α} {i:Nat} {a:α},(x::xs).set (i+1) a=x::xs.set i a)∧∀ {α:Type u} (l:List α) (i:Nat) (a:α),l.toArray.setIfInBounds i a=(l.set i a).toArray:=⟨List.set_cons_zero,List.set_cons_succ,List.setIfInBounds_toArray⟩
theorem zf.{u}:(∀ (w:World) (o:Obj),(w.alloc o).heap.size=w.heap.size+1)∧(∀ w:World,w.drew.heap.size=w.heap.size)∧(∀ {α:Type u} {l:List α},l.toArray.toList=l)∧(∀ p:Prop,(p∧True)=p)∧∀ p:Prop,(True∧p)=p:=⟨World.size_alloc,World.size_drew,List.toList_toArray,and_true,true_and⟩
theorem zd.{u}:(∀ {α:Type u} {a:α} {l:List α} {i:Nat},List.take (i+1) (a::l)=a::List.take i l)∧(∀ {α:Type u} {l:List α},List.take 0 l=[])∧(∀ {α:Type u} {a:α} {l:List α} {i:Nat},List.drop (i+1) (a::l)=List.drop i l)∧∀ {α:Type u} {l:List α},List.drop 0 l=l:=⟨List.take_succ_cons,List.take_zero,List.drop_succ_cons,List.drop_zero⟩
set_option maxHeartbeats 2000000 in
theorem Xr (w:World) (t n:ByteArray):Calls Tryz.prog 133 #[.string t,.string n] w fun e w' =>e=.returned (Zk t n).val∧Below w.heap.size w w' :=by
 have K0:=(Hold.YD w).alloc #[.int .i64 2,.int .i64 0,.bool false,.int .i64 0,.int .i64 0,.string ⟨#[]⟩,.string t,.string n,.slice none 0 0,.slice none 0 0] 126
 have F:=K0.facts
 simp only [zg] at F
 have HB:=hid K0.below
 go_enter Tryz.func133,Tryz.ntmps133
 go_wp2_with fail
 exact bodyPost_ret (v:=(Zk t n).val) (by simp [results,Tryz.results133,go_sem,F,Ex.val,Zk,vlZ]) rfl ⟨rfl,HB.out⟩
set_option maxHeartbeats 2000000 in
theorem WZ (w:World) (v:Vl):Calls Tryz.prog 154 #[.agg #[.int .i64 v.k,.int .i64 v.i,.string v.s]] w fun e w' =>e=.returned (Zz v).val∧Below w.heap.size w w' :=by
 have K0:=((Hold.YD w).Za #[.int .i64 v.k,.int .i64 v.i,.string v.s] 122).alloc #[.int .i64 1,.int .i64 0,.bool false,.int .i64 v.k,.int .i64 v.i,.string v.s,.string ⟨#[]⟩,.string ⟨#[]⟩,.slice none 0 0,.slice none 0 0] 126
 have F:=K0.facts
 simp only [zg] at F
 have HB:=hid K0.below
 go_enter Tryz.func154,Tryz.ntmps154
 go_wp2_with fail
 exact bodyPost_ret (v:=(Zz v).val) (by simp [results,Tryz.results154,go_sem,F,Ex.val,Zz,vlZ]) rfl ⟨rfl,HB.out⟩
set_option maxHeartbeats 4000000 in
theorem Xj (M:Nat→Prop) (w:World) (hM:∀ b,M b→b<w.heap.size) (op:Int) (a b:Ex) (d:Nat) (ha:Ro w M (ExIn d a)) (hb:Ro w M (ExIn d b)):Calls Tryz.prog 132 #[.int .i64 op,.agg #[.int .i64 a.kind,.int .i64 a.op,.bool a.nt,.int .i64 a.v.k,.int .i64 a.v.i,.string a.v.s,.string a.tab,.string a.nm,.slice a.A a.n a.c,.slice a.B a.m a.d],.agg #[.int .i64 b.kind,.int .i64 b.op,.bool b.nt,.int .i64 b.v.k,.int .i64 b.v.i,.string b.v.s,.string b.tab,.string b.nm,.slice b.A b.n b.c,.slice b.B b.m b.d]] w fun e w' =>∃ g:Nat,e=.returned (opE 5 op false g 2 [a,b]).val∧Ro w' M (ExIn (d+1) (opE 5 op false g 2 [a,b]))∧Below w.heap.size w w' :=by
 have K0:=(((((Hold.start M w hM).add (hb.less (by simp [Mut]))).add (ha.less (by simp [Mut,Hp.foot]))).Za #[.int .i64 a.kind,.int .i64 a.op,.bool a.nt,.int .i64 a.v.k,.int .i64 a.v.i,.string a.v.s,.string a.tab,.string a.nm,.slice a.A a.n a.c,.slice a.B a.m a.d] 126).Za #[.int .i64 b.kind,.int .i64 b.op,.bool b.nt,.int .i64 b.v.k,.int .i64 b.v.i,.string b.v.s,.string b.tab,.string b.nm,.slice b.A b.n b.c,.slice b.B b.m b.d] 126).alloc #[.int .i64 5,.int .i64 op,.bool false,.int .i64 0,.int .i64 0,.string ⟨#[]⟩,.string ⟨#[]⟩,.string ⟨#[]⟩,.slice (some ⟨w.heap.size+1+1+1,0,none⟩) 2 2,.slice none 0 0] 126
 simp only [World.size_alloc] at K0
 have K1:=K0.Za #[.int .i64 a.kind,.int .i64 a.op,.bool a.nt,.int .i64 a.v.k,.int .i64 a.v.i,.string a.v.s,.string a.tab,.string a.nm,.slice a.A a.n a.c,.slice a.B a.m a.d,.int .i64 b.kind,.int .i64 b.op,.bool b.nt,.int .i64 b.v.k,.int .i64 b.v.i,.string b.v.s,.string b.tab,.string b.nm,.slice b.A b.n b.c,.slice b.B b.m b.d] 126
 simp only [World.size_alloc] at K1
 have F:=K1.facts
 simp only [zg] at F
 have hr:=XC (d:=d) (l:=[a,b]) (K1.get 0 rfl) rfl (fun x hx=>by
  simp only [List.mem_cons,List.not_mem_nil,or_false] at hx
  rcases hx with rfl|rfl
  ·exact K1.ro 4 rfl
  ·exact K1.ro 5 rfl)
 have HR:=hid (show Ro _ M (ExIn (d+1) (opE 5 op false (w.heap.size+1+1+1) 2 [a,b])) from (hr.less fun b hb=>.inl hb).imp fun w2 h2=>W9 h2)
 have HB:=hid K1.below
 clear K0 K1 hr
 go_enter Tryz.func132,Tryz.ntmps132
 go_wp2_with fail
 exact bodyPost_ret (v:=(opE 5 op false (w.heap.size+1+1+1) 2 [a,b]).val) (by simp [results,Tryz.results132,go_sem,F,Ex.val,opE,vlZ]) rfl ⟨_,rfl,HR.out,HB.out⟩
set_option maxHeartbeats 4000000 in
theorem ze (w:World) (n:Int) (h:0≤n):Calls Tryz.prog 134 #[.int .i64 n] w fun e w' =>e=.returned (Zz ⟨1,n,⟨#[]⟩⟩).val∧Below w.heap.size w w' :=by
 have K0:=(Hold.YD w).alloc #[.int .i64 0,.int .i64 0,.bool false,.int .i64 0,.int .i64 0,.string ⟨#[]⟩,.string ⟨#[]⟩,.string ⟨#[]⟩,.slice none 0 0,.slice none 0 0] 126
 have hd:decide (n<0)=false:=by simp;omega
 have hd2:¬n<0:=by omega
 obtain ⟨g,hg⟩:∃ g,g=w.heap.size:=⟨_,rfl⟩
 rw [←hg] at K0
 go_enter Tryz.func134,Tryz.ntmps134
 go_wp2_with fail
 rw [←hg]
 have HG:=hid hg
 clear hg
 refine (WZ _ ⟨1,n,⟨#[]⟩⟩).mono ?_
 rintro e w1 ⟨rfl,b1⟩
 have K1:=K0.call b1
 clear K0 b1
 have F:=K1.facts
 simp only [zg] at F
 have K2:=((((((((((K1.store 0 rfl 0 (.int .i64 1)).store 0 rfl 1 (.int .i64 0)).store 0 rfl 2 (.bool false)).store 0 rfl 3 (.int .i64 1)).store 0 rfl 4 (.int .i64 n)).store 0 rfl 5 (.string ⟨#[]⟩)).store 0 rfl 6 (.string ⟨#[]⟩)).store 0 rfl 7 (.string ⟨#[]⟩)).store 0 rfl 8 (.slice none 0 0)).store 0 rfl 9 (.slice none 0 0))
 simp only [zl] at K2
 have HB:=hid K2.below
 rw [show (Zz ⟨1,n,⟨#[]⟩⟩).val=.agg #[.int .i64 1,.int .i64 0,.bool false,.int .i64 1,.int .i64 n,.string ⟨#[]⟩,.string ⟨#[]⟩,.string ⟨#[]⟩,.slice none 0 0,.slice none 0 0] from rfl]
 go_wp2_with fail
 exact bodyPost_ret (v:=.agg #[.int .i64 1,.int .i64 0,.bool false,.int .i64 1,.int .i64 n,.string ⟨#[]⟩,.string ⟨#[]⟩,.string ⟨#[]⟩,.slice none 0 0,.slice none 0 0]) (by simp [results,Tryz.results134,go_sem,F]) rfl ⟨rfl,HB.out⟩
set_option maxHeartbeats 4000000 in
theorem Zhb (M:Nat→Prop) (w:World) (hM:∀ b,M b→b<w.heap.size) (n:Int) (h:n<0) (h2:-4611686018427387904≤n):Calls Tryz.prog 134 #[.int .i64 n] w fun e w' =>∃ g:Nat,e=.returned (opE 4 0 false g 1 [Zz ⟨1,-n,⟨#[]⟩⟩]).val∧Ro w' M (ExIn 2 (opE 4 0 false g 1 [Zz ⟨1,-n,⟨#[]⟩⟩]))∧Below w.heap.size w w' :=by
 have K0:=(Hold.start M w hM).alloc #[.int .i64 0,.int .i64 0,.bool false,.int .i64 0,.int .i64 0,.string ⟨#[]⟩,.string ⟨#[]⟩,.string ⟨#[]⟩,.slice none 0 0,.slice none 0 0] 126
 have hd:decide (n<0)=true:=by simp;omega
 have hw:IntKind.i64.wrap (-n)=-n:=by rw [IntKind.wrap_i64];omega
 obtain ⟨g,hg⟩:∃ g,g=w.heap.size:=⟨_,rfl⟩
 rw [←hg] at K0
 go_enter Tryz.func134,Tryz.ntmps134
 go_wp2_with fail
 rw [←hg]
 have HG:=hid hg
 clear hg
 refine (ze _ (-n) (by omega)).mono ?_
 rintro e w1 ⟨rfl,b1⟩
 have KA:=K0.call b1
 have K1:=KA.Za #[.int .i64 1,.int .i64 0,.bool false,.int .i64 1,.int .i64 (-n),.string ⟨#[]⟩,.string ⟨#[]⟩,.string ⟨#[]⟩,.slice none 0 0,.slice none 0 0] 126
 clear KA b1
 obtain ⟨g2,hg2⟩:∃ g,g=w1.heap.size:=⟨_,rfl⟩
 rw [←hg2] at K1
 have F:=K1.facts
 simp only [zg] at F
 have K2:=((((((((((K1.store 1 rfl 0 (.int .i64 4)).store 1 rfl 1 (.int .i64 0)).store 1 rfl 2 (.bool false)).store 1 rfl 3 (.int .i64 0)).store 1 rfl 4 (.int .i64 0)).store 1 rfl 5 (.string ⟨#[]⟩)).store 1 rfl 6 (.string ⟨#[]⟩)).store 1 rfl 7 (.string ⟨#[]⟩)).store 1 rfl 8 (.slice (some ⟨g2,0,none⟩) 1 1)).store 1 rfl 9 (.slice none 0 0))
 simp only [zl] at K2
 clear K1 K0
 have F2:=K2.facts
 simp only [zg] at F2
 have hr:=XC (d:=1) (l:=[Zz ⟨1,-n,⟨#[]⟩⟩]) (K2.get 0 rfl) rfl (fun x hx w2 _ _=>by
  simp only [List.mem_cons,List.not_mem_nil,or_false] at hx
  subst hx
  exact WB _ _)
 have HR:=hid (show Ro _ M (ExIn 2 (opE 4 0 false g2 1 [Zz ⟨1,-n,⟨#[]⟩⟩])) from (hr.less fun b hb=>.inl hb).imp fun w2 h2=>W9 h2)
 have HB:=hid K2.below
 rw [show (Zz ⟨1,-n,⟨#[]⟩⟩).val=.agg #[.int .i64 1,.int .i64 0,.bool false,.int .i64 1,.int .i64 (-n),.string ⟨#[]⟩,.string ⟨#[]⟩,.string ⟨#[]⟩,.slice none 0 0,.slice none 0 0] from rfl]
 clear hr K2
 go_wp2_with fail
 rw [←hg2]
 have HG2:=hid hg2
 clear hg2
 refine bodyPost_ret (v:=(opE 4 0 false g2 1 [Zz ⟨1,-n,⟨#[]⟩⟩]).val) ?_ rfl ⟨_,rfl,HR.out,HB.out⟩
 have HO:(opE 4 0 false g2 1 [Zz ⟨1,-n,⟨#[]⟩⟩]).val=.agg #[.int .i64 4,.int .i64 0,.bool false,.int .i64 0,.int .i64 0,.string ⟨#[]⟩,.string ⟨#[]⟩,.string ⟨#[]⟩,.slice (some ⟨g2,0,none⟩) 1 1,.slice none 0 0]:=rfl
 rw [HO]
 clear HO HR HB
 simp [results,Tryz.results134,go_sem,F2]
theorem XG (M:Nat→Prop) (w:World) (hM:∀ b,M b→b<w.heap.size) (n:Int) (h2:-4611686018427387904≤n):Calls Tryz.prog 134 #[.int .i64 n] w fun e w' =>∃ x:Ex,e=.returned x.val∧Xv x n∧Ro w' M (ExIn 2 x)∧Below w.heap.size w w' :=by
 by_cases h:n<0
 ·refine (Zhb M w hM n h h2).mono ?_
  rintro e w1 ⟨g,rfl,r,b⟩
  exact ⟨_,rfl,.inr ⟨h,g,rfl⟩,r,b⟩
 ·refine (ze w n (by omega)).mono ?_
  rintro e w1 ⟨rfl,b⟩
  exact ⟨_,rfl,.inl ⟨by omega,rfl⟩,fun w2 _ _=>(WB _ _).more,b⟩
set_option maxHeartbeats 4000000 in
theorem JD (M:Nat→Prop) (w:World) (hM:∀ b,M b→b<w.heap.size) (s:ByteArray) (lo hi:Int) (h1:-4611686018427387904≤lo) (h2:-4611686018427387904≤hi):Calls Tryz.prog 135 #[.string s,.int .i64 lo,.int .i64 hi] w fun e w' =>∃ (g:Nat) (x y:Ex),e=.returned (opE 7 0 false g 3 [Zk ⟨#[]⟩ s,x,y]).val∧Xv x lo∧Xv y hi∧Ro w' M (ExIn 3 (opE 7 0 false g 3 [Zk ⟨#[]⟩ s,x,y]))∧Below w.heap.size w w' :=by
 have K0:=(Hold.start M w hM).alloc #[.int .i64 0,.int .i64 0,.bool false,.int .i64 0,.int .i64 0,.string ⟨#[]⟩,.string ⟨#[]⟩,.string ⟨#[]⟩,.slice none 0 0,.slice none 0 0] 126
 obtain ⟨g,hg⟩:∃ g,g=w.heap.size:=⟨_,rfl⟩
 rw [←hg] at K0
 go_enter Tryz.func135,Tryz.ntmps135
 go_wp2_with fail
 rw [←hg]
 have HG:=hid hg
 clear hg
 refine (Xr _ ⟨#[]⟩ s).mono ?_
 rintro e w1 ⟨rfl,b1⟩
 have K1:=K0.call b1
 clear K0 b1
 go_wp2_with fail
 refine (XG _ _ K1.Zc lo h1).mono ?_
 rintro e w2 ⟨x,rfl,hx,rx,b1⟩
 have K2:=(K1.call b1).add rx
 have HX:=hid hx
 clear K1 b1 rx hx
 go_wp2_with fail
 refine (XG _ _ K2.Zc hi h2).mono ?_
 rintro e w3 ⟨y,rfl,hy,ry,b1⟩
 have K3:=((K2.call b1).add ry).perm (L' :=[.blk g 126 #[.int .i64 0,.int .i64 0,.bool false,.int .i64 0,.int .i64 0,.string ⟨#[]⟩,.string ⟨#[]⟩,.string ⟨#[]⟩,.slice none 0 0,.slice none 0 0],.ro (ExIn 2 x),.ro (ExIn 2 y)]) (List.reverse_perm _).symm
 have HY:=hid hy
 clear K2 b1 ry hy
 have K1:=K3.Za #[.int .i64 2,.int .i64 0,.bool false,.int .i64 0,.int .i64 0,.string ⟨#[]⟩,.string ⟨#[]⟩,.string s,.slice none 0 0,.slice none 0 0,.int .i64 x.kind,.int .i64 x.op,.bool x.nt,.int .i64 x.v.k,.int .i64 x.v.i,.string x.v.s,.string x.tab,.string x.nm,.slice x.A x.n x.c,.slice x.B x.m x.d,.int .i64 y.kind,.int .i64 y.op,.bool y.nt,.int .i64 y.v.k,.int .i64 y.v.i,.string y.v.s,.string y.tab,.string y.nm,.slice y.A y.n y.c,.slice y.B y.m y.d] 126
 obtain ⟨g2,hg2⟩:∃ g,g=w3.heap.size:=⟨_,rfl⟩
 rw [←hg2] at K1
 have F:=K1.facts
 simp only [zg] at F
 have K2:=((((((((((K1.store 1 rfl 0 (.int .i64 7)).store 1 rfl 1 (.int .i64 0)).store 1 rfl 2 (.bool false)).store 1 rfl 3 (.int .i64 0)).store 1 rfl 4 (.int .i64 0)).store 1 rfl 5 (.string ⟨#[]⟩)).store 1 rfl 6 (.string ⟨#[]⟩)).store 1 rfl 7 (.string ⟨#[]⟩)).store 1 rfl 8 (.slice (some ⟨g2,0,none⟩) 3 3)).store 1 rfl 9 (.slice none 0 0))
 simp only [zl] at K2
 clear K1 K3
 have F2:=K2.facts
 simp only [zg] at F2
 have hr:=XC (d:=2) (l:=[Zk ⟨#[]⟩ s,x,y]) (K2.get 0 rfl) rfl (fun z hz=>by
  simp only [List.mem_cons,List.not_mem_nil,or_false] at hz
  rcases hz with rfl|rfl|rfl
  ·exact fun w2 _ _=>(Xc _ _ _).more
  ·exact K2.ro 2 rfl
  ·exact K2.ro 3 rfl)
 have HR:=hid (show Ro _ M (ExIn 3 (opE 7 0 false g2 3 [Zk ⟨#[]⟩ s,x,y])) from (hr.less fun b hb=>.inl hb).imp fun w2 h2=>W9 h2)
 have HB:=hid K2.below
 rw [show (Zk ⟨#[]⟩ s).val=.agg #[.int .i64 2,.int .i64 0,.bool false,.int .i64 0,.int .i64 0,.string ⟨#[]⟩,.string ⟨#[]⟩,.string s,.slice none 0 0,.slice none 0 0] from rfl,show x.val=.agg #[.int .i64 x.kind,.int .i64 x.op,.bool x.nt,.int .i64 x.v.k,.int .i64 x.v.i,.string x.v.s,.string x.tab,.string x.nm,.slice x.A x.n x.c,.slice x.B x.m x.d] from rfl,show y.val=.agg #[.int .i64 y.kind,.int .i64 y.op,.bool y.nt,.int .i64 y.v.k,.int .i64 y.v.i,.string y.v.s,.string y.tab,.string y.nm,.slice y.A y.n y.c,.slice y.B y.m y.d] from rfl]
 clear hr K2
 go_wp2_with fail
 rw [←hg2]
 have HG2:=hid hg2
 clear hg2
 refine bodyPost_ret (v:=(opE 7 0 false g2 3 [Zk ⟨#[]⟩ s,x,y]).val) ?_ rfl ⟨_,x,y,rfl,HX.out,HY.out,HR.out,HB.out⟩
 have HO:(opE 7 0 false g2 3 [Zk ⟨#[]⟩ s,x,y]).val=.agg #[.int .i64 7,.int .i64 0,.bool false,.int .i64 0,.int .i64 0,.string ⟨#[]⟩,.string ⟨#[]⟩,.string ⟨#[]⟩,.slice (some ⟨g2,0,none⟩) 3 3,.slice none 0 0]:=rfl
 rw [HO]
 clear HO HR HB HX HY
 simp [results,Tryz.results135,go_sem,F2]
theorem Zaw {L:List Hp} (h:Apart L):∀ (is:List Nat),is.Nodup→Apart (is.filterMap (fun i=>L[i]?))
 | [],_=>trivial
 | i::is,hn=>by
  obtain ⟨h1,h2⟩:=List.nodup_cons.1 hn
  have ih:=Zaw h is h2
  rw [List.filterMap_cons]
  split
  ·exact ih
  ·rename_i a ha
   refine ⟨fun b hb k hk=>?_,ih⟩
   obtain ⟨j,hj,hjk⟩:=List.mem_filterMap.1 hk
   exact h.mem ha hjk (fun e=>h1 (e ▸ hj)) hb
theorem Hold.pick {M:Nat→Prop} {row:Option Nat} {w0 w:World} {L:List Hp} (K:Hold M row w0 w L) (is:List Nat) (hn:is.Nodup) {L' :List Hp} (hL:is.filterMap (fun i=>L[i]?)=L'):Hold M row w0 w L' :=by
 subst hL
 have hmem:∀ a∈is.filterMap (fun i=>L[i]?),a∈L:=fun a ha=>by
  obtain ⟨j,_,hj⟩:=List.mem_filterMap.1 ha
  exact List.mem_of_getElem? hj
 have e:∀ b,Mut M (is.filterMap (fun i=>L[i]?)) b→Mut M L b:=fun b hb=>by
  rcases hb with hb|⟨k,hk,hf⟩
  ·exact .inl hb
  ·exact .inr ⟨k,hmem k hk,hf⟩
 refine ⟨K.grow,K.low,fun k hk=>?_,fun k hk=>K.fresh k (hmem k hk),Zaw K.sep is hn⟩
 exact Hp.YZ (k:=k) (K.sat k (hmem k hk)) (Nat.le_refl _) (fun _ _ _=>rfl) (fun b _ hb=>e b hb) (fun _ _=>rfl) (fun _ _ _ _=>rfl)
structure Pl where
 fr:SlP Fr
 tb:SlP Sm
def Pl.val (p:Pl):Value:=.agg #[.slice p.fr.A p.fr.n p.fr.c,.slice p.tb.A p.tb.n p.tb.c]
def Zg (p:Pl) (w:World):Prop:=FrsIn p.fr w∧SmsIn p.tb w
structure PlB (p:Pl):Prop where
 f:p.fr.n≤p.fr.c∧p.fr.n≤100
 t:p.tb.n≤p.tb.c∧p.tb.n≤100
 fc:∀ f∈p.fr.l,f.cols.n≤100
 tc:∀ s∈p.tb.l,s.cols.n≤100
theorem FrsIn.len {s:SlP Fr} {w:World} (h:FrsIn s w):s.l.length=s.n:=SlP.In.len (s:=s) (k:=4) (cel:=Fr.cells) (P:=FrIn) h (by omega) (fun _=>rfl)
theorem FrsIn.at_ {s:SlP Fr} {w:World} (h:FrsIn s w) {k:Nat} {x:Fr} (hx:s.l[k]? =some x):
  ∃ b o,s.A=some ⟨b,o,none⟩∧b<w.heap.size∧(∀ j u,j<4→x.cells[j]? =some u→w.cell? ⟨b,o+k * 4+j,none⟩=some u)∧FrIn x w:=SlP.In.at_ (s:=s) (k:=4) (cel:=Fr.cells) (P:=FrIn) h (by omega) (fun _=>rfl) hx
theorem FrIn.cols {f:Fr} {w:World} (h:FrIn f w):SlR 4 f.cols.A f.cols.n (Zd f.cols.l) w:=h.1.1
def AllCol (l:List Ex):Prop:=∀ x∈l,∃ t n,x=Zk t n
theorem AllCol.snoc {l:List Ex} (h:AllCol l) (t n:ByteArray):AllCol (l++[Zk t n]):=fun x hx=>by
 rcases List.mem_append.1 hx with hx|hx
 ·exact h x hx
 ·exact ⟨t,n,by simpa using hx⟩
theorem Uv (l:List Ex) (t n:ByteArray):Zl l++(#[.int .i64 2,.int .i64 0,.bool false,.int .i64 0,.int .i64 0,.string ⟨#[]⟩,.string t,.string n,.slice none 0 0,.slice none 0 0]:Array Value).toList=Zl (l++[Zk t n]):=by simp [Zl,Ex.cells,Zk,vlZ]
theorem Yg {α:Type} {l:List α} {n k:Nat} (h:l.length=n) (hk:k<n):∃ c,l[k]? =some c:=⟨l[k]'(by omega),List.getElem?_eq_getElem _⟩
def zeroE:Ex:=⟨0,0,false,vlZ,⟨#[]⟩,⟨#[]⟩,none,0,0,[],none,0,0,[]⟩
def Zgw (w:World) (T:Nat) (e:Ending) (w' :World):Prop:=∃ (x:Ex) (ok:Bool),e=.returned (.tuple #[x.val,.bool ok])∧((ok=false∧x=zeroE)∨∃ t n,x=Zk t n)∧Tp w' T∧w.grownBy w' (some T)
theorem Tryz.Ve:ElemT Tryz.prog 37 126 10 136 (.agg #[.int .i64 0,.int .i64 0,.bool false,.int .i64 0,.int .i64 0,.string ⟨#[]⟩,.string ⟨#[]⟩,.string ⟨#[]⟩,.slice none 0 0,.slice none 0 0]):=⟨Tryz.underlying37,by kernel_rfl,rfl,by omega⟩
set_option maxRecDepth 100000 in
set_option maxHeartbeats 8000000 in
theorem Qn (M:Nat→Prop) (T:Nat) (w:World) (hM:∀ b,M b→b<w.heap.size) (ht:Tp w T) (hMT:∀ b,M b→T≤b) (p:Pl) (want:Int) (hp:Ro w (Mut M [.tp T]) (Zg p)) (hB:PlB p):
  Calls Tryz.prog 153 #[.pointer (some ⟨T,0,none⟩),p.val,.int .i64 want] w fun e w' =>Zgw w T e w' :=by
 obtain ⟨⟨fA,fn,fc,fl⟩,⟨sA,sn,sc,sl⟩⟩:=p
 have hfn:fn≤100:=hB.f.2
 have HFC:=hid hB.fc
 have HL:=hid (show fl.length=fn from FrsIn.len hp.now.1)
 have KS:=(((Hold.YY M w T hM ht hMT).add (hp.imp fun w2 h2=>h2.1)).Za #[.slice fA fn fc,.slice sA sn sc] 177).alloc #[.int .i64 0,.int .i64 0,.bool false,.int .i64 0,.int .i64 0,.string ⟨#[]⟩,.string ⟨#[]⟩,.string ⟨#[]⟩,.slice none 0 0,.slice none 0 0] 126
 rw [World.size_alloc] at KS
 obtain ⟨gp,hgp⟩:∃ g,g=w.heap.size:=⟨_,rfl⟩
 rw [←hgp] at KS
 obtain ⟨gr,hgr⟩:∃ g,g=gp+1:=⟨_,rfl⟩
 rw [←hgr] at KS
 have K0:=(KS.perm (L' :=[.cst gp 177 #[.slice fA fn fc,.slice sA sn sc],.ro (FrsIn ⟨fA,fn,fc,fl⟩),.blk gr 126 #[.int .i64 0,.int .i64 0,.bool false,.int .i64 0,.int .i64 0,.string ⟨#[]⟩,.string ⟨#[]⟩,.string ⟨#[]⟩,.slice none 0 0,.slice none 0 0],.tp T]) (by
  refine (List.Perm.swap _ _ _).trans ?_
  exact ((List.Perm.swap _ _ _).cons _))).nil 126 10
 have F0:=K0.facts
 simp only [zg] at F0
 simp only [Pl.val]
 clear KS hp hB
 go_enter Tryz.func153,Tryz.ntmps153
 go_wp2_with fail
 rw [←hgp]
 try rw [←hgr]
 have HG:=hid (And.intro hgp hgr)
 clear hgp hgr F0
 go_loopw [8,16] (fun ov iv wr=>∃ (j k cap:Nat) (O:Option Addr) (outs:List Ex),j≤fn∧iv=.int .i64 j∧ov=.slice O k cap∧k≤200 * j∧AllCol outs∧Hold M (some T) w wr [.own 126 10 (.slice O k cap) k (Zl outs),.cst gp 177 #[.slice fA fn fc,.slice sA sn sc],.ro (FrsIn ⟨fA,fn,fc,fl⟩),.blk gr 126 #[.int .i64 0,.int .i64 0,.bool false,.int .i64 0,.int .i64 0,.string ⟨#[]⟩,.string ⟨#[]⟩,.string ⟨#[]⟩,.slice none 0 0,.slice none 0 0],.tp T]) (fun _ iv _=>fn - (intOf iv).toNat)
 case atStart=>exact ⟨0,0,0,none,[],by omega,rfl,rfl,by omega,fun x hx=>(nomatch hx),K0⟩
 case round=>
  clear K0
  obtain ⟨j,k,cap,O,outs,hj,rfl,rfl,hkb,hall,H⟩:=hrel
  by_cases hlt:j<fn
  ·obtain ⟨⟨fnm,fst,⟨cA,cn,cc,cl⟩,⟨vA,vn,vc,vl⟩⟩,hc⟩:=Yg HL.out hlt
   obtain ⟨b,o,rfl,hb,hcl,-⟩:=FrsIn.at_ (H.ro 2 rfl).now hc
   have c0:=hcl 0 _ (by omega) rfl
   have c1:=hcl 1 _ (by omega) rfl
   have c2:=hcl 2 _ (by omega) rfl
   have c3:=hcl 3 _ (by omega) rfl
   simp only [Nat.add_zero,SlP.v] at c0 c1 c2 c3
   clear hcl
   have hcn:cn≤100:=HFC.out _ (List.mem_of_getElem? hc)
   have HM:=hid (List.mem_of_getElem? hc)
   clear hc
   have KI:=((H.Za #[.string fnm,.bool fst,.slice cA cn cc,.slice vA vn vc] 210).add (S:=SlR 4 cA cn (Zd cl)) (((H.Za #[.string fnm,.bool fst,.slice cA cn cc,.slice vA vn vc] 210).ro 3 rfl).imp fun w2 h2=>(h2.2 _ HM.out).cols)).pick [2,1,0,3,4,5,6] (by decide) rfl
   obtain ⟨gF,hgF⟩:∃ g,g=wr.heap.size:=⟨_,rfl⟩
   have K1:Hold M (some T) w (wr.alloc (.cells #[.string fnm,.bool fst,.slice cA cn cc,.slice vA vn vc] 210)) [.own 126 10 (.slice O k cap) k (Zl outs),.cst gF 210 #[.string fnm,.bool fst,.slice cA cn cc,.slice vA vn vc],.ro (SlR 4 cA cn (Zd cl)),.cst gp 177 #[.slice (some ⟨b,o,none⟩) fn fc,.slice sA sn sc],.ro (FrsIn ⟨some ⟨b,o,none⟩,fn,fc,fl⟩),.blk gr 126 #[.int .i64 0,.int .i64 0,.bool false,.int .i64 0,.int .i64 0,.string ⟨#[]⟩,.string ⟨#[]⟩,.string ⟨#[]⟩,.slice none 0 0,.slice none 0 0],.tp T]:=by rw [hgF];exact KI
   have F1:=K1.facts
   simp only [zg] at F1
   clear KI H
   have hA:cn=0∨∃ b2 o2,cA=some ⟨b2,o2,none⟩:=by
    rcases Nat.eq_zero_or_pos cn with h0|h0
    ·exact .inl h0
    ·obtain ⟨b2,o2,e,_⟩:=(show Rd _ _ 4 cA cn (Zd cl) from (K1.ro 2 rfl).now).2 h0
     exact .inr ⟨b2,o2,e⟩
   rcases hA with rfl|⟨b2,o2,rfl⟩
   ·go_wp2_with fail
    rw [←hgF]
    have HGF:=hid hgF
    clear hgF F1 c0 c1 c2 c3
    have HCL:=hid (show cl.length=0 from (RdC.Zw (K1.ro 2 rfl).now).len)
    go_loopw [8,24] (fun ov iv wr2=>∃ (j2 k2 cap2:Nat) (O2:Option Addr) (outs2:List Ex),j2≤0∧iv=.int .i64 j2∧ov=.slice O2 k2 cap2∧k2≤200 * j+2 * j2∧AllCol outs2∧Hold M (some T) w wr2 [.own 126 10 (.slice O2 k2 cap2) k2 (Zl outs2),.cst gF 210 #[.string fnm,.bool fst,.slice cA 0 cc,.slice vA vn vc],.ro (SlR 4 cA 0 (Zd cl)),.cst gp 177 #[.slice (some ⟨b,o,none⟩) fn fc,.slice sA sn sc],.ro (FrsIn ⟨some ⟨b,o,none⟩,fn,fc,fl⟩),.blk gr 126 #[.int .i64 0,.int .i64 0,.bool false,.int .i64 0,.int .i64 0,.string ⟨#[]⟩,.string ⟨#[]⟩,.string ⟨#[]⟩,.slice none 0 0,.slice none 0 0],.tp T]) (fun _ iv _=>0 - (intOf iv).toNat)
    case atStart=>exact ⟨0,k,cap,O,outs,by omega,rfl,rfl,by omega,hall,K1⟩
    case round=>
     clear K1
     obtain ⟨j2,k2,cap2,O2,outs2,hj2,rfl,rfl,hkb2,hall2,H⟩:=hrel
     obtain rfl:j2=0:=by omega
     have F:=H.facts
     simp only [zg] at F
     go_wp2_with fail
     go_roundw
     case rel=>exact ⟨j+1,k2,cap2,O2,outs2,by omega,by go_num,by first|rfl|trivial,by omega,hall2,H.pick [0,3,4,5,6] (by decide) rfl⟩
     case measure=>simp [intOf];omega
   ·go_wp2_with fail
    rw [←hgF]
    have HGF:=hid hgF
    clear hgF F1 c0 c1 c2 c3
    have HCL:=hid (show cl.length=cn from (RdC.Zw (K1.ro 2 rfl).now).len)
    go_loopw [8,24] (fun ov iv wr2=>∃ (j2 k2 cap2:Nat) (O2:Option Addr) (outs2:List Ex),j2≤cn∧iv=.int .i64 j2∧ov=.slice O2 k2 cap2∧k2≤200 * j+2 * j2∧AllCol outs2∧Hold M (some T) w wr2 [.own 126 10 (.slice O2 k2 cap2) k2 (Zl outs2),.cst gF 210 #[.string fnm,.bool fst,.slice (some ⟨b2,o2,none⟩) cn cc,.slice vA vn vc],.ro (SlR 4 (some ⟨b2,o2,none⟩) cn (Zd cl)),.cst gp 177 #[.slice (some ⟨b,o,none⟩) fn fc,.slice sA sn sc],.ro (FrsIn ⟨some ⟨b,o,none⟩,fn,fc,fl⟩),.blk gr 126 #[.int .i64 0,.int .i64 0,.bool false,.int .i64 0,.int .i64 0,.string ⟨#[]⟩,.string ⟨#[]⟩,.string ⟨#[]⟩,.slice none 0 0,.slice none 0 0],.tp T]) (fun _ iv _=>cn - (intOf iv).toNat)
    case atStart=>exact ⟨0,k,cap,O,outs,by omega,rfl,rfl,by omega,hall,K1⟩
    case round=>
     clear K1
     obtain ⟨j2,k2,cap2,O2,outs2,hj2,rfl,rfl,hkb2,hall2,H⟩:=hrel
     by_cases hlt2:j2<cn
     ·obtain ⟨⟨xnm,xty,xnn,xkey⟩,hc⟩:=YC HCL.out hlt2
      obtain ⟨b2',o2',hcA,hb2,x0,x1,x2,x3⟩:=(RdC.Zw (H.ro 2 rfl).now).at_ hc
      obtain ⟨rfl,rfl⟩:b2=b2' ∧o2=o2' :=by injection hcA with hcA;injection hcA with e1 e2;exact ⟨e1,e2⟩
      clear hcA
      simp only at x0 x1 x2 x3
      clear hc
      have K2:=H.Za #[.string xnm,.int .i64 xty,.bool xnn,.bool xkey] 158
      have F2:=K2.facts
      simp only [zg] at F2
      clear H
      by_cases hty:xty=want
      ·subst hty
       go_wp2_with fail
       refine (Xr _ fnm xnm).mono ?_
       rintro e w3 ⟨rfl,b3⟩
       have K3:=K2.call b3
       rw [show (Zk fnm xnm).val=.agg #[.int .i64 2,.int .i64 0,.bool false,.int .i64 0,.int .i64 0,.string ⟨#[]⟩,.string fnm,.string xnm,.slice none 0 0,.slice none 0 0] from rfl]
       clear K2 F2 b3
       have F3:=K3.facts
       simp only [zg] at F3
       have hs1:IntKind.i64.wrap ((fn:Int) - 1)=(fn:Int) - 1:=IntWalk.i64_in _ (by omega)
       cases hnf:(!fst)
       ·skip
        go_wp2_with (at_builtin;go_must (refine Zx K3 1 rfl Tryz.Ve #[.int .i64 2,.int .i64 0,.bool false,.int .i64 0,.int .i64 0,.string ⟨#[]⟩,.string fnm,.string xnm,.slice none 0 0,.slice none 0 0] rfl (.tmp 32) (.tmp 38) rfl rfl _ (by first|rfl|simp) rfl rfl (by intro u hu;simp at hu;rcases hu with rfl|rfl|rfl|rfl|rfl|rfl|rfl|rfl|rfl|rfl<;>rfl) (by omega) (by omega) ?_);intro gA capA wA hcA hmA KA;rw [Uv (outs2) fnm xnm] at KA;simp only [zl] at KA;have FA:=KA.facts;simp only [zg] at FA)
        go_roundw
        case rel=>exact ⟨j2+1,k2+1,capA,_,outs2++[Zk fnm xnm],by omega,by go_num,by first|rfl|trivial,by omega,hall2.snoc fnm xnm,KA.drop (List.sublist_cons_self _ _)⟩
        case measure=>simp [intOf];omega
       ·cases hje:((j:Int)==(fn:Int) - 1)
        ·skip
         go_wp2_with (at_builtin;go_must (refine Zx K3 1 rfl Tryz.Ve #[.int .i64 2,.int .i64 0,.bool false,.int .i64 0,.int .i64 0,.string ⟨#[]⟩,.string fnm,.string xnm,.slice none 0 0,.slice none 0 0] rfl (.tmp 32) (.tmp 38) rfl rfl _ (by first|rfl|simp) rfl rfl (by intro u hu;simp at hu;rcases hu with rfl|rfl|rfl|rfl|rfl|rfl|rfl|rfl|rfl|rfl<;>rfl) (by omega) (by omega) ?_);intro gA capA wA hcA hmA KA;rw [Uv (outs2) fnm xnm] at KA;simp only [zl] at KA;have FA:=KA.facts;simp only [zg] at FA)
         go_roundw
         case rel=>exact ⟨j2+1,k2+1,capA,_,outs2++[Zk fnm xnm],by omega,by go_num,by first|rfl|trivial,by omega,hall2.snoc fnm xnm,KA.drop (List.sublist_cons_self _ _)⟩
         case measure=>simp [intOf];omega
        ·skip
         go_wp2_with (at_builtin;go_must (refine Zx K3 1 rfl Tryz.Ve #[.int .i64 2,.int .i64 0,.bool false,.int .i64 0,.int .i64 0,.string ⟨#[]⟩,.string fnm,.string xnm,.slice none 0 0,.slice none 0 0] rfl (.tmp 32) (.tmp 38) rfl rfl _ (by first|rfl|simp) rfl rfl (by intro u hu;simp at hu;rcases hu with rfl|rfl|rfl|rfl|rfl|rfl|rfl|rfl|rfl|rfl<;>rfl) (by omega) (by omega) ?_);intro gA capA wA hcA hmA KA;rw [Uv (outs2) fnm xnm] at KA;simp only [zl] at KA;have FA:=KA.facts;simp only [zg] at FA)
         refine (Xr _ ⟨#[]⟩ xnm).mono ?_
         rintro e w4 ⟨rfl,b4⟩
         have K4:=KA.call b4
         rw [show (Zk ⟨#[]⟩ xnm).val=.agg #[.int .i64 2,.int .i64 0,.bool false,.int .i64 0,.int .i64 0,.string ⟨#[]⟩,.string ⟨#[]⟩,.string xnm,.slice none 0 0,.slice none 0 0] from rfl]
         clear KA FA K3 F3 b4
         go_wp2_with (at_builtin;go_must (refine Zx K4 1 rfl Tryz.Ve #[.int .i64 2,.int .i64 0,.bool false,.int .i64 0,.int .i64 0,.string ⟨#[]⟩,.string ⟨#[]⟩,.string xnm,.slice none 0 0,.slice none 0 0] rfl (.tmp 51) (.tmp 55) rfl rfl _ (by first|rfl|simp) rfl rfl (by intro u hu;simp at hu;rcases hu with rfl|rfl|rfl|rfl|rfl|rfl|rfl|rfl|rfl|rfl<;>rfl) (by omega) (by omega) ?_);intro gB capB wB hcB hmB KB;rw [Uv (outs2++[Zk fnm xnm]) ⟨#[]⟩ xnm] at KB;simp only [zl] at KB;have FB:=KB.facts;simp only [zg] at FB)
         go_roundw
         case rel=>exact ⟨j2+1,k2+1+1,capB,_,outs2++[Zk fnm xnm]++[Zk ⟨#[]⟩ xnm],by omega,by go_num,by first|rfl|trivial,by omega,(hall2.snoc fnm xnm).snoc ⟨#[]⟩ xnm,KB.drop (List.sublist_cons_self _ _)⟩
         case measure=>simp [intOf];omega
      ·have htb:(xty !=want)=true:=by simpa using hty
       go_wp2_with fail
       all_goals first
        | (exfalso;omega)
        | skip
       go_roundw
       case rel=>exact ⟨j2+1,k2,cap2,_,outs2,by omega,by go_num,by first|rfl|trivial,by omega,hall2,K2.drop (List.sublist_cons_self _ _)⟩
       case measure=>simp [intOf];omega
     ·obtain rfl:cn=j2:=by omega
      have F:=H.facts
      simp only [zg] at F
      go_wp2_with fail
      go_roundw
      case rel=>exact ⟨j+1,k2,cap2,O2,outs2,by omega,by go_num,by first|rfl|trivial,by omega,hall2,H.pick [0,3,4,5,6] (by decide) rfl⟩
      case measure=>simp [intOf];omega
  ·obtain rfl:fn=j:=by omega
   by_cases hk0:k=0
   ·subst hk0
    have K5:=H
    have F5:=K5.facts
    simp only [zg] at F5
    have K6:=((((((((((K5.store 3 rfl 0 (.int .i64 0)).store 3 rfl 1 (.int .i64 0)).store 3 rfl 2 (.bool false)).store 3 rfl 3 (.int .i64 0)).store 3 rfl 4 (.int .i64 0)).store 3 rfl 5 (.string ⟨#[]⟩)).store 3 rfl 6 (.string ⟨#[]⟩)).store 3 rfl 7 (.string ⟨#[]⟩)).store 3 rfl 8 (.slice none 0 0)).store 3 rfl 9 (.slice none 0 0))
    simp only [zl] at K6
    have F6:=K6.facts
    simp only [zg] at F6
    have HT:=hid (And.intro (K6.tp_ 4 rfl) K6.grow)
    clear H K5 K6
    go_wp2_with fail
    refine bodyPost_ret (v:=.tuple #[.agg #[.int .i64 0,.int .i64 0,.bool false,.int .i64 0,.int .i64 0,.string ⟨#[]⟩,.string ⟨#[]⟩,.string ⟨#[]⟩,.slice none 0 0,.slice none 0 0],.bool false]) ?_ rfl ?_
    ·clear HT
     simp [results,Tryz.results153,go_sem,F6]
    ·exact ⟨zeroE,false,rfl,.inl ⟨rfl,rfl⟩,HT.out.1,HT.out.2⟩
   ·have hkk:((k:Int)==0)=false:=by simp;omega
    have hlo:Zl outs=Zl outs:=rfl
    have hcap:=Yx (H.get 0 rfl)
    obtain ⟨-,-,h0⟩|⟨go1,rfl,-⟩:=JG (H.get 0 rfl)
    ·omega
    have hlen:outs.length=k:=by
     have h1:=(H.get 0 rfl).1
     rw [X8] at h1
     omega
    go_wp2_with fail
    refine (ZQ T k _ (H.tp_ 4 rfl) (by omega) (by omega)).mono ?_
    rintro e w3 ⟨r,rfl,r0,r1,t3,g3⟩
    have K5:=Hold.Zf H 4 rfl g3 t3
    clear g3 t3
    obtain ⟨r,rfl⟩:=Int.eq_ofNat_of_zero_le r0
    have hrk:r<k:=by omega
    obtain ⟨x,hx⟩:=Yg hlen hrk
    obtain ⟨xt,xn,rfl⟩:=hall x (List.mem_of_getElem? hx)
    have KS:=K5.ZC 0 rfl
    simp only [List.set_cons_zero] at KS
    obtain ⟨b5,o5,e5,hb5,hcl⟩:=(show Rd _ _ 10 (some ⟨go1,0,none⟩) k (Zl outs) from (KS.ro 0 rfl).now).2 (by omega)
    obtain ⟨rfl,rfl⟩:go1=b5∧0=o5:=by injection e5 with e5;injection e5 with x1 x2;exact ⟨x1,x2⟩
    have hcc:∀ q u,q<10→(Zk xt xn).cells[q]? =some u→w3.cell? ⟨go1,r * 10+q,none⟩=some u:=fun q u hq hu=>by
     have:=hcl _ _ ((flat_get Ex.cells 10 (fun _=>rfl) outs r q (Zk xt xn) hq hx).trans hu)
     simpa using this
    have y0:=hcc 0 _ (by omega) rfl
    have y1:=hcc 1 _ (by omega) rfl
    have y2:=hcc 2 _ (by omega) rfl
    have y3:=hcc 3 _ (by omega) rfl
    have y4:=hcc 4 _ (by omega) rfl
    have y5:=hcc 5 _ (by omega) rfl
    have y6:=hcc 6 _ (by omega) rfl
    have y7:=hcc 7 _ (by omega) rfl
    have y8:=hcc 8 _ (by omega) rfl
    have y9:=hcc 9 _ (by omega) rfl
    simp only [Nat.add_zero,Zk,vlZ] at y0 y1 y2 y3 y4 y5 y6 y7 y8 y9
    clear hcc hcl hx
    have FS:=KS.facts
    simp only [zg] at FS
    have K6:=((((((((((KS.store 3 rfl 0 (.int .i64 2)).store 3 rfl 1 (.int .i64 0)).store 3 rfl 2 (.bool false)).store 3 rfl 3 (.int .i64 0)).store 3 rfl 4 (.int .i64 0)).store 3 rfl 5 (.string ⟨#[]⟩)).store 3 rfl 6 (.string xt)).store 3 rfl 7 (.string xn)).store 3 rfl 8 (.slice none 0 0)).store 3 rfl 9 (.slice none 0 0))
    simp only [zl] at K6
    have F6:=K6.facts
    simp only [zg] at F6
    have HT:=hid (And.intro (K6.tp_ 4 rfl) K6.grow)
    clear H K5 K6 KS
    go_wp2_with fail
    refine bodyPost_ret (v:=.tuple #[.agg #[.int .i64 2,.int .i64 0,.bool false,.int .i64 0,.int .i64 0,.string ⟨#[]⟩,.string xt,.string xn,.slice none 0 0,.slice none 0 0],.bool true]) ?_ rfl ?_
    ·clear HT
     simp [results,Tryz.results153,go_sem,F6]
    ·exact ⟨Zk xt xn,true,rfl,.inr ⟨xt,xn,rfl⟩,HT.out.1,HT.out.2⟩
end Go.Proofs.YtnbbllkbefagmaaGreatDoor

import Derived.Test.YtnbbllkbefagmaaGreatDoorEvCntSaidML
import Derived.Test.YtnbbllkbefagmaaGreatDoorEvCntSaidMD
import Derived.Test.YtnbbllkbefagmaaGreatDoorEvCntSaidMN
import Derived.Test.YtnbbllkbefagmaaGreatDoorEvCntSaidMC
import Derived.Test.YtnbbllkbefagmaaGreatDoorEvCntSaidMF
import Derived.Test.YtnbbllkbefagmaaGreatDoorEvCntSaidMM
import Derived.Test.YtnbbllkbefagmaaGreatDoorEvCntSaidMG
import Derived.Test.YtnbbllkbefagmaaGreatDoorEvCntSaidME
import Derived.Test.YtnbbllkbefagmaaGreatDoorEvCntSaidMK
import Derived.Test.YtnbbllkbefagmaaGreatDoorEvCntSaidMI
namespace Go.Proofs.YtnbbllkbefagmaaGreatDoor
open Go.RowKit
set_option linter.unusedVariables false
set_option linter.unusedSimpArgs false
structure El where
 nm:ByteArray
 I:Option Addr
 ni:Nat
 ci:Nat
 D:Option Addr
 nd:Nat
 cd:Nat
 U:Option Addr
 nu:Nat
 cu:Nat
 li:List Rw
 ld:List Rw
 lu:List Pr
def El.cells (x:El):List Value:=[.string x.nm,.slice x.I x.ni x.ci,.slice x.D x.nd x.cd,.slice x.U x.nu x.cu]
def El.val (x:El):Value:=.agg #[.string x.nm,.slice x.I x.ni x.ci,.slice x.D x.nd x.cd,.slice x.U x.nu x.cu]
def El.dl (x:El):Dl:=⟨x.nm,x.li.map Rw.row,x.ld.map Rw.row,x.lu.map Pr.upd⟩
def WS (x:El) (w:World):Prop:=RwsIn x.I x.ni x.li w∧RwsIn x.D x.nd x.ld w∧PrsIn x.U x.nu x.lu w
structure El.good (x:El) (N K:Nat):Prop where
 i:x.ni≤N
 d:x.nd≤N
 u:x.nu≤N
 ci:x.ni≤x.ci∧x.ci≤9223372036854775807
 cd:x.nd≤x.cd∧x.cd≤9223372036854775807
 cu:x.nu≤x.cu∧x.cu≤9223372036854775807
 li:∀ r∈x.li,r.ok∧r.n≤K
 ld:∀ r∈x.ld,r.ok∧r.n≤K
 lu:∀ p∈x.lu,p.ok∧p.on≤K∧p.nn≤K
theorem Zhx {w:World} {M:Nat→Prop} {v:Value} {d:Dl} {N K:Nat} (h:JR w M v d) (h1:d.ins.length≤N) (h2:d.del.length≤N) (h3:d.upd.length≤N) (h4:∀ r∈d.ins,r.2.length≤K) (h5:∀ r∈d.del,r.2.length≤K) (h6:∀ u∈d.upd,u.2.1.length≤K∧u.2.2.length≤K):
  ∃ x:El,v=x.val∧x.dl=d∧x.good N K∧Ro w M (WS x):=by
 obtain ⟨I,ni,ci,D,nd,cd,U,nu,cu,li,ld,lu,rfl,q1,q2,q3,r1,r2,r3,o1,o2,o3,e1,e2,e3⟩:=h
 have l1:li.length=ni:=r1.now.len
 have l2:ld.length=nd:=r2.now.len
 have l3:lu.length=nu:=r3.now.len
 refine ⟨⟨d.nm,I,ni,ci,D,nd,cd,U,nu,cu,li,ld,lu⟩,rfl,by simp only [El.dl,e1,e2,e3],⟨?_,?_,?_,q1,q2,q3,fun r hr=>⟨o1 r hr,?_⟩,fun r hr=>⟨o2 r hr,?_⟩,fun p hp=>⟨o3 p hp,?_,?_⟩⟩,r1.and (r2.and r3)⟩
 ·have:=congrArg List.length e1;rw [List.length_map] at this;show ni≤N;omega
 ·have:=congrArg List.length e2;rw [List.length_map] at this;show nd≤N;omega
 ·have:=congrArg List.length e3;rw [List.length_map] at this;show nu≤N;omega
 ·have a:=h4 r.row (by rw [←e1];exact List.mem_map_of_mem hr)
  have b:r.vs.length=r.n:=(r1.now.2 r hr).len
  simp only [Rw.row] at a;omega
 ·have a:=h5 r.row (by rw [←e2];exact List.mem_map_of_mem hr)
  have b:r.vs.length=r.n:=(r2.now.2 r hr).len
  simp only [Rw.row] at a;omega
 ·have a:=h6 p.upd (by rw [←e3];exact List.mem_map_of_mem hp)
  have b:p.old.length=p.on:=(r3.now.2 p hp).1.len
  simp only [Pr.upd] at a;omega
 ·have a:=h6 p.upd (by rw [←e3];exact List.mem_map_of_mem hp)
  have b:p.new.length=p.nn:=(r3.now.2 p hp).2.len
  simp only [Pr.upd] at a;omega
def Ut (cs:Array Value):Prop:=∀ x:Int,Value.int .i64 x ∉ cs.toList
theorem Q7 {w:World} {Q:Nat→Prop} {A:Option Addr} {n:Nat} {vs:List Vl} (h:Ro w Q (VlsIn A n vs)) {ga:Nat} {t:TypeId} {cs:Array Value} (hg:w.heap[ga]? =some (.cells cs t (0,0))) (hno:Ut cs):Ro w (fun b=>b=ga∨Q b) (VlsIn A n vs):=by
 have hl:vs.length=n:=h.now.len
 exact Ro.Q3 h hg (by
  cases vs with
  | nil=>left;simpa using hl.symm
  | cons v l=>exact .inr ⟨.int .i64 v.k,rfl,hno _⟩)
theorem Zb3 {w:World} {Q:Nat→Prop} {A:Option Addr} {n:Nat} {l:List Rw} (h:Ro w Q (RwsIn A n l)) {ga:Nat} {t:TypeId} {cs:Array Value} (hg:w.heap[ga]? =some (.cells cs t (0,0))) (hno:Ut cs):Ro w (fun b=>b=ga∨Q b) (RwsIn A n l):=by
 have hl:=h.now.len
 have h1:Ro w Q (SlR 2 A n (ZJ l)):=h.imp fun w2 h2=>h2.1
 have k1:=h1.Q3 hg (by
  cases l with
  | nil=>left;simpa using hl.symm
  | cons r l=>exact .inr ⟨.int .i64 r.id,rfl,hno _⟩)
 exact k1.and fun w2 g1 g2 r hr=>Q7 (h.imp fun w2 h2=>h2.2 r hr) hg hno w2 g1 g2
theorem Zhf {w:World} {Q:Nat→Prop} {A:Option Addr} {n:Nat} {l:List Pr} (h:Ro w Q (PrsIn A n l)) {ga:Nat} {t:TypeId} {cs:Array Value} (hg:w.heap[ga]? =some (.cells cs t (0,0))) (hno:Ut cs):Ro w (fun b=>b=ga∨Q b) (PrsIn A n l):=by
 have hl:l.length=n:=h.now.len
 have h1:Ro w Q (SlR 3 A n (ZZ l)):=h.imp fun w2 h2=>h2.1
 have k1:=h1.Q3 hg (by
  cases l with
  | nil=>left;simpa using hl.symm
  | cons r l=>exact .inr ⟨.int .i64 r.id,rfl,hno _⟩)
 exact k1.and fun w2 g1 g2 r hr=>⟨Q7 (h.imp fun w2 h2=>(h2.2 r hr).1) hg hno w2 g1 g2,Q7 (h.imp fun w2 h2=>(h2.2 r hr).2) hg hno w2 g1 g2⟩
theorem Zfd {w:World} {Q:Nat→Prop} {x:El} (h:Ro w Q (WS x)) {ga:Nat} {t:TypeId} {cs:Array Value} (hg:w.heap[ga]? =some (.cells cs t (0,0))) (hno:Ut cs):Ro w (fun b=>b=ga∨Q b) (WS x):=
 (Zb3 (h.imp fun w h=>h.1) hg hno).and ((Zb3 (h.imp fun w h=>h.2.1) hg hno).and (Zhf (h.imp fun w h=>h.2.2) hg hno))
theorem Zfj:Ut #[.string ⟨#[]⟩,.slice none 0 0,.slice none 0 0,.slice none 0 0]:=fun x h=>by simp at h
def Zde (w:World) (M:Nat→Prop) (id:Int) (vs:List Vl) (e:Ending) (w' :World):Prop:=∃ (A:Option Addr) (n c:Nat),e=.returned (.agg #[.int .i64 id,.slice A n c])∧n=vs.length∧n≤c∧c≤9223372036854775807∧Ro w' M (VlsIn A n vs)∧Below w.heap.size w w'
set_option maxHeartbeats 2000000 in
set_option maxRecDepth 100000 in
theorem ZaU (M:Nat→Prop) (w:World) (hM:∀ b,M b→b<w.heap.size) (id:Int) (A:Option Addr) (n c:Nat) (vs:List Vl) (hD:Ro w M (VlsIn A n vs)) (hn:n≤4398046511104):Calls Tryz.prog 127 #[.agg #[.int .i64 id,.slice A n c]] w fun e w' =>Zde w M id vs e w' :=by
 have K0:=((Hold.start M w hM).add (hD.less (by simp [Mut]))).Za #[.int .i64 id,.slice A n c] 124|>.alloc #[.int .i64 0,.slice none 0 0] 124
 simp only [World.size_alloc] at K0
 clear hD
 go_enter Tryz.func127,Tryz.ntmps127
 go_wp2_with fail
 obtain ⟨g1,hg1⟩:∃ g,g=w.heap.size:=⟨_,rfl⟩
 obtain ⟨g2,hg2⟩:∃ g,g=g1+1:=⟨_,rfl⟩
 rw [←hg1,←hg2] at K0 ⊢
 generalize (w.alloc _).alloc _=w1 at K0 ⊢
 have HG:=hid hg1
 clear hg1 hg2
 obtain ⟨KL,hKL,KN⟩:=K0.name
 have HF:Hid (∀ wv,Hold M none w wv KL→(wv.cell? ⟨g1,0,none⟩=some (.int .i64 id)∧wv.cell? ⟨g1,1,none⟩=some (.slice A n c)∧g1<wv.heap.size)∧Ro wv (Mut M KL) (VlsIn A n vs)):=hid fun wv HC=>by
  rw [hKL] at HC ⊢
  have y1:=HC.ZB 1 rfl
  exact ⟨⟨cell_of_row _ _ 0 _ _ _ y1,cell_of_row _ _ 1 _ _ _ y1,Blk.lt y1⟩,HC.ro 2 rfl⟩
 have HKL:=hid hKL
 clear hKL K0
 refine wp_region_any (by kernel_rfl) ?_
 refine Zp 6 9 (KL) (spL [(7,Z0 (Mut M KL) vs)]) (by kernel_rfl) (by kernel_rfl) (by kernel_rfl) rfl ?_ (KN.drew) ?_
 ·exact Ze X6 (Zo _)
 simp only [zd,Act.put,List.getElem_toArray,List.getElem_cons_zero,List.getElem_cons_succ,zl]
 iterate 2
  refine' dv rfl rfl rfl (fun wv HC=>?_) ?_;rotate_left
  · go_simp<;>rfl
  simp only [Act.put,zl]
  refine' dv rfl rfl rfl (fun wv HC=>?_) ?_;rotate_left
  ·obtain ⟨⟨f0,f1,f2⟩,_⟩:=HF.out _ HC;go_simp<;>rfl
  simp only [Act.put,zl]
 refine Zm 7 (Z0 (Mut M KL) vs) (f:=55) (args:=#[.slice A n c]) rfl rfl rfl rfl (fun wv=>?_) (fun wv HC hrm hD=>?_) ?_
 ·go_simp<;>rfl
 ·refine (Xf _ wv HC.Zb A n c vs (HF.out _ HC).2 hn).mono ?_
  rintro e w5 ⟨A5,n5,c5,rfl,h50,h51,h52,h53,b5⟩
  exact ⟨_,rfl,⟨A5,n5,c5,rfl,h50,h51,h52,h53⟩,HC.call b5,RM.below b5⟩
 rintro x_ wx HCx ⟨A5,n5,c5,rfl,-,-,-,-⟩
 simp only [Act.put,zl]
 clear HCx
 refine XT rfl rfl rfl ⟨.agg #[.int .i64 id,.slice A5 n5 c5],fun wv HC=>?_,?_⟩
 ·go_simp<;>rfl
 simp only [Act.put,zl]
 refine Zj ?_
 rintro wx2 HX
 rintro _hrm HGW
 have hb:Z0 (Mut M KL) vs (.slice A5 n5 c5) wx2:=(Zl (d:=7) rfl).1 (HGW 4 _ rfl (by omega))
 clear HGW _hrm
 obtain ⟨A6,n6,c6,e6,k0_,k1_,k2_,k3_⟩:=hb
 obtain ⟨rfl,rfl,rfl⟩:A5=A6∧n5=n6∧c5=c6:=by injection e6 with h1 h2 h3;exact ⟨h1,h2,h3⟩
 clear e6
 have K1:=HX.add k3_
 rw [HKL.out] at K1
 have F1:=K1.facts
 simp only [zg] at F1
 have H0:=hid k0_
 clear HF KN k3_ HX k0_
 have KN:=(K1.store 1 rfl 0 (.int .i64 id)).store 1 rfl 1 (.slice A5 n5 c5)
 have r1:=KN.ZP 0 rfl
 go_wp2_with fail
 exact bodyPost_ret (v:=.agg #[.int .i64 id,.slice A5 n5 c5]) (by simp [results,Tryz.results127,go_sem,F1]) rfl ⟨A5,n5,c5,rfl,H0.out,k1_,k2_,r1,KN.below⟩

def Ww (l:List El):List Value:=l.flatMap El.cells
def JC (A:Option Addr) (n:Nat) (l:List El) (w:World):Prop:=SlR 4 A n (Ww l) w∧∀ x∈l,WS x w
def VX (d:Dl):Bool:=decide (d.ins.length=0∧d.del.length=0∧d.upd.length=0)
def XU (a b:List Tb) (k:Nat):Bool:=((a.zip b).take k).all fun p=>(ZO p.1 p.2).1
def Xe (a b:List Tb) (k:Nat):List Dl:=(((a.zip b).take k).map fun p=>(ZO p.1 p.2).2).filter fun d=>!VX d
def YO (a b:List Tb):Bool × List Dl:=if Y3 a&&Y3 b&&decide (a.length=b.length)&&XU a b a.length then (true,Xe a b a.length) else (false,[])
theorem ZdW {a b:List Tb} (h:Y3 a=false):YO a b=(false,[]):=by unfold YO;rw [h];rfl
theorem Zey {a b:List Tb} (h:Y3 b=false):YO a b=(false,[]):=by unfold YO;rw [h];simp
theorem ZdP {a b:List Tb} (h:a.length≠b.length):YO a b=(false,[]):=by unfold YO;rw [decide_eq_false h];simp
theorem JP {a b:List Tb} {k:Nat} {x y:Tb} (hx:a[k]? =some x) (hy:b[k]? =some y):(a.zip b)[k]? =some (x,y):=List.getElem?_zip_eq_some.2 ⟨hx,hy⟩
theorem Zek {a b:List Tb} {k:Nat} {x y:Tb} (hx:a[k]? =some x) (hy:b[k]? =some y) (h:(ZO x y).1=false):YO a b=(false,[]):=by
 have hk:=(List.getElem?_eq_some_iff.1 hx).1
 have:XU a b a.length=false:=by
  unfold XU
  rw [List.all_eq_false]
  refine ⟨(x,y),?_,by rw [h];simp⟩
  refine List.mem_of_getElem? (i:=k) ?_
  rw [List.getElem?_take,if_pos hk]
  exact JP hx hy
 unfold YO
 rw [this]
 simp
theorem Zgn {a b:List Tb} {k:Nat} {x y:Tb} (hx:a[k]? =some x) (hy:b[k]? =some y) (h:XU a b k=true) (hb:(ZO x y).1=true):XU a b (k+1)=true:=by
 unfold XU at h ⊢
 rw [List.take_add_one,JP hx hy,List.all_append,h]
 simp [hb]
theorem ZaJ {a b:List Tb} {k:Nat} {x y:Tb} (hx:a[k]? =some x) (hy:b[k]? =some y):Xe a b (k+1)=Xe a b k++(if VX (ZO x y).2 then [] else [(ZO x y).2]):=by
 unfold Xe
 rw [List.take_add_one,JP hx hy,List.map_append,List.filter_append]
 congr 1
 cases h:VX (ZO x y).2<;>simp [h]
theorem ZhC {a b:List Tb} {n:Nat} (hn:a.length=n) (ha:Y3 a=true) (hb:Y3 b=true) (hl:a.length=b.length) (h:XU a b n=true):YO a b=(true,Xe a b n):=by
 subst hn
 unfold YO
 rw [ha,hb,decide_eq_true hl,h]
 rfl
theorem Zfo (a b:List Tb):(YO a b).2.length≤a.length:=by
 unfold YO
 split
 ·unfold Xe
  refine Nat.le_trans (List.length_filter_le _ _) ?_
  rw [List.length_map,List.length_take]
  omega
 ·exact Nat.zero_le _
theorem ZaM {l:List Tb} (h:Y3 l=true):∀ t∈l,Zn t.nm t.cs t.nx t.rs=true:=fun t ht=>by
 obtain ⟨j,hj⟩:=List.getElem?_of_mem ht
 cases hb:Zn t.nm t.cs t.nx t.rs with
 | true=>rfl
 | false=>
  have:=JM (List.getElem?_eq_some_iff.1 hj).1 (ZbK hj hb)
  rw [h] at this;cases this
theorem Zb6 {rs l:List Row} {u:Upd} (h:u∈Y6 rs l):∃ r∈l,∃ o,Zr rs r.1=some o∧u=(r.1,o,r.2):=by
 obtain ⟨r,hr,h2⟩:=List.mem_filterMap.1 h
 split at h2
 ·rename_i o ho
  split at h2
  ·cases h2
  ·injection h2 with h2
   exact ⟨r,hr,o,ho,h2.symm⟩
 ·cases h2
theorem ZdO {a b:Tb} (ha:Zn a.nm a.cs a.nx a.rs=true) (hb:Zn b.nm b.cs b.nx b.rs=true):
  (ZO a b).2.ins.length≤100∧(ZO a b).2.del.length≤100∧(ZO a b).2.upd.length≤100∧(∀ r∈(ZO a b).2.ins,r.2.length≤6)∧(∀ r∈(ZO a b).2.del,r.2.length≤6)∧∀ u∈(ZO a b).2.upd,u.2.1.length≤6∧u.2.2.length≤6:=by
 have h1:=(U7 ha).1
 have h2:=(U7 hb).1
 have h3:=Uc ha
 have h4:=Uc hb
 unfold ZO
 split
 ·refine ⟨?_,?_,?_,fun r hr=>?_,fun r hr=>?_,fun u hu=>?_⟩
  ·have:(YK a.rs b.rs).length≤b.rs.length:=List.length_filter_le _ _
   show (YK a.rs b.rs).length≤_
   omega
  ·have:(YK b.rs a.rs).length≤a.rs.length:=List.length_filter_le _ _
   show (YK b.rs a.rs).length≤_
   omega
  ·have:(Y6 a.rs b.rs).length≤b.rs.length:=List.length_filterMap_le _ _
   show (Y6 a.rs b.rs).length≤_
   omega
  ·have:=Ui hb (List.mem_filter.1 (show r∈YK a.rs b.rs from hr)).1;omega
  ·have:=Ui ha (List.mem_filter.1 (show r∈YK b.rs a.rs from hr)).1;omega
  ·obtain ⟨r,hr,o,ho,rfl⟩:=Zb6 hu
   have k1:=Ui hb hr
   have k2:=Ui ha (JN ho)
   dsimp only at k1 k2 ⊢
   omega
 ·refine ⟨?_,?_,?_,fun r hr=>(nomatch hr),fun r hr=>(nomatch hr),fun u hu=>(nomatch hu)⟩<;>exact Nat.zero_le _
def Qs (l:List El) (w:World):Prop:=∀ x∈l,WS x w
theorem Zgl {M:Nat→Prop} {w:World} {rs:List El} {r:El} (h:Ro w M (Qs rs)) (k:Ro w M (WS r)):Ro w M (Qs (rs++[r])):=fun w2 h1 h2 x hx=>by
 rcases List.mem_append.1 hx with hx|hx
 ·exact h w2 h1 h2 x hx
 ·simp at hx;subst hx;exact k w2 h1 h2
theorem ZgW (w:World) (M:Nat→Prop):Ro w M (Qs []):=fun _ _ _ r hr=>nomatch hr
theorem ZgZ (l:List El) (x:El):Ww (l++[x])=Ww l++x.cells:=by simp [Ww]
theorem Zhc {x:El} {w:World} (h:WS x w):VX x.dl=decide (x.ni=0∧x.nd=0∧x.nu=0):=by
 have l1:x.li.length=x.ni:=h.1.len
 have l2:x.ld.length=x.nd:=h.2.1.len
 have l3:x.lu.length=x.nu:=h.2.2.len
 unfold VX
 simp only [El.dl,List.length_map,l1,l2,l3]



theorem VTab.tbm {t:Tb} (h:VTab t):TbM t:=
 ⟨h.sch.nm,h.sch.cs,by have:=h.rows;omega,fun r hr=>by have:=h.len r hr;omega⟩
theorem VTab.ids {x:Te} (h:VTab x.tb):∀ r∈x.l,r.id≠0:=fun r hr=>by
 have h9:=((VS (XM h.val).2.2.2.2.1).2 r.row (List.mem_map_of_mem hr)).1
 have h10:r.row.1=r.id:=rfl
 rw [h10] at h9;omega
theorem ZfX {w:World} {Q:Nat→Prop} {x:Te} (h:Ro w Q (YV x)) (hv:VTab x.tb) {ga:Nat} {t:TypeId} (hg:w.heap[ga]? =some (.cells Xd t (0,0))):Ro w (fun b=>b=ga∨Q b) (YV x):=
 (((h.imp fun w h=>h.1).Zcg hg).less fun b hb=>hb.elim .inr .inl).and (Zf9 (h.imp fun w h=>h.2) hg hv.ids)
structure StOk (S:List Tb):Prop where
 len:S.length=3
 at_:∀ (j:Nat) (t:Tb),S[j]? =some t→t.nm=nm3 j∧t.cs=cs3 j∧VTab t
theorem Sto3.st {N:Nat} {l:List Te} (h:Sto3 N 3 l):StOk (l.map Te.tb):=by
 refine ⟨by rw [List.length_map,h.len],fun j t ht=>?_⟩
 rw [List.getElem?_map] at ht
 cases hx:l[j]? with
 | none=>rw [hx] at ht;cases ht
 | some x=>
  rw [hx] at ht
  obtain rfl:x.tb=t:=by simpa using ht
  exact ⟨(h.at_ j x hx).1,(h.at_ j x hx).2,(h.ok x (List.mem_of_getElem? hx)).2.1⟩
theorem StOk.set {S:List Tb} (h:StOk S) {k:Nat} {a x:Tb} (hk:S[k]? =some a) (hn:x.nm=a.nm) (hc:x.cs=a.cs) (hv:VTab x):StOk (S.set k x):=by
 refine ⟨by rw [List.length_set,h.len],fun j t ht=>?_⟩
 rw [List.getElem?_set] at ht
 split at ht
 ·rename_i hj
  subst hj
  split at ht
  ·injection ht with ht
   subst ht
   exact ⟨hn.trans (h.at_ k a hk).1,hc.trans (h.at_ k a hk).2.1,hv⟩
  ·cases ht
 ·exact h.at_ j t ht
theorem Zh5:Op.bytesLess (nm3 0).toList (nm3 1).toList=true∧Op.bytesLess (nm3 1).toList (nm3 2).toList=true:=by decide+kernel
def El.de (x:El):De:=⟨x.nm,x.I,x.ni,x.ci,x.li,x.D,x.nd,x.cd,x.ld,x.U,x.nu,x.cu,x.lu⟩
theorem Zhm {A:Option Addr} {n:Nat} {l:List El} {w:World} (h:JC A n l w):DesIn A n (l.map El.de) w:=by
 refine ⟨?_,fun x hx=>?_⟩
 ·rw [show Ve (l.map El.de)=Ww l from by unfold Ve Ww;rw [List.flatMap_map];rfl]
  exact h.1
 ·obtain ⟨y,hy,rfl⟩:=List.mem_map.1 hx
  exact h.2 y hy
theorem El.good.deB {x:El} (h:x.good 100 6):DeB x.de:=
 ⟨by have:=h.i;show x.ni≤1000;omega,by have:=h.d;show x.nd≤1000;omega,by have:=h.u;show x.nu≤1000;omega,fun r hr=>by have:=(h.li r hr).2;omega,fun r hr=>by have:=(h.ld r hr).2;omega,fun p hp=>by have:=(h.lu p hp).2;omega⟩
structure DifOk (l:List De):Prop where
 len:l.length≤3
 b:∀ d∈l,DeB d
 uniq:l.Pairwise (fun x y=>x.nm≠y.nm)
 ins:∀ d∈l,∀ r∈d.li.map Rw.row,0<r.2.length
 del:∀ d∈l,∀ r∈d.ld.map Rw.row,0<r.2.length
 upd:∀ d∈l,∀ u∈d.lu.map Pr.upd,0<u.2.1.length∧0<u.2.2.length
 g:∀ d∈l,(∀ r∈d.li,r.ok∧r.n≤6)∧(∀ r∈d.ld,r.ok∧r.n≤6)∧∀ p∈d.lu,p.ok∧p.on≤6∧p.nn≤6
theorem Zfv:nm3 0≠nm3 1∧nm3 0≠nm3 2∧nm3 1≠nm3 2:=by
 have h:=Zh5
 refine ⟨fun e=>?_,fun e=>?_,fun e=>?_⟩
 ·revert h;rw [e];decide+kernel
 ·revert e;decide+kernel
 ·revert e;decide+kernel
theorem StOk.row {S:List Tb} (h:StOk S):∀ t∈S,∀ r∈t.rs,0<r.2.length:=fun t ht r hr=>by
 obtain ⟨j,hj⟩:=List.getElem?_of_mem ht
 obtain ⟨h1,h2,h3⟩:=h.at_ j t hj
 obtain ⟨_,_,_,_,hok,_⟩:=XM h3.val
 have h4:=Vy (Vp hok r hr)
 have h5:=h3.sch.len
 omega
theorem Zfq {a b:Tb} (ha:∀ r∈a.rs,0<r.2.length) (hb:∀ r∈b.rs,0<r.2.length):(∀ r∈(ZO a b).2.ins,0<r.2.length)∧(∀ r∈(ZO a b).2.del,0<r.2.length)∧∀ u∈(ZO a b).2.upd,0<u.2.1.length∧0<u.2.2.length:=by
 unfold ZO
 split
 ·refine ⟨fun r hr=>?_,fun r hr=>?_,fun u hu=>?_⟩
  ·exact hb r (List.mem_filter.1 (show r∈YK a.rs b.rs from hr)).1
  ·exact ha r (List.mem_filter.1 (show r∈YK b.rs a.rs from hr)).1
  ·obtain ⟨r,hr,o,ho,rfl⟩:=Zb6 hu
   exact ⟨ha _ (JN ho),hb r hr⟩
 ·exact ⟨fun r hr=>(nomatch hr),fun r hr=>(nomatch hr),fun u hu=>(nomatch hu)⟩
theorem Zfn {a b:List Tb} {k:Nat} {d:Dl} (h:d∈Xe a b k):∃ p∈a.zip b,d=(ZO p.1 p.2).2:=by
 unfold Xe at h
 obtain ⟨p,hp,e⟩:=List.mem_map.1 (List.mem_filter.1 h).1
 exact ⟨p,List.mem_of_mem_take hp,e.symm⟩
theorem ZbS (a b:List Tb):(YO a b).2=[]∨((YO a b).2=Xe a b a.length∧XU a b a.length=true):=by
 unfold YO
 split
 ·rename_i h
  simp only [Bool.and_eq_true] at h
  exact .inr ⟨rfl,h.2⟩
 ·exact .inl rfl
theorem ZeZ {a b:Tb} (h:(ZO a b).1=true):(ZO a b).2.nm=a.nm:=by
 unfold ZO at h ⊢
 split
 ·rfl
 ·rename_i hn;rw [if_neg hn] at h;cases h
theorem StOk.uniq {S:List Tb} (h:StOk S):(S.map Tb.nm).Pairwise (fun x y=>x≠y):=by
 have hl:=h.len
 match S,hl,h with
 | [a,b,c],_,h=>
  have ha:=(h.at_ 0 a rfl).1
  have hb:=(h.at_ 1 b rfl).1
  have hc:=(h.at_ 2 c rfl).1
  simp only [List.map_cons,List.map_nil,ha,hb,hc]
  have hne:=Zfv
  refine List.Pairwise.cons (fun x hx=>?_) (List.Pairwise.cons (fun x hx=>?_) (List.pairwise_singleton _ _))
  ·simp only [List.mem_cons,List.not_mem_nil,or_false] at hx
   rcases hx with rfl|rfl
   ·exact hne.1
   ·exact hne.2.1
  ·simp only [List.mem_cons,List.not_mem_nil,or_false] at hx
   subst hx
   exact hne.2.2
theorem zip_fst {α β γ:Type} (f:α→γ):∀ (a:List α) (b:List β),((a.zip b).map fun p=>f p.1).Sublist (a.map f)
 | [],_=>by simp
 | _::_,[]=>by simp
 | x::a,y::b=>by
  simp only [List.zip_cons_cons,List.map_cons]
  exact (zip_fst f a b).cons_cons _
theorem Zc8 {a b:List Tb} (ha:StOk a):((YO a b).2.map Dl.nm).Pairwise (fun x y=>x≠y):=by
 rcases ZbS a b with h|⟨h,h2⟩
 ·rw [h];exact List.Pairwise.nil
 ·rw [h]
  refine List.Pairwise.sublist ?_ ha.uniq
  refine List.Sublist.trans ?_ (zip_fst Tb.nm a b)
  unfold Xe
  refine List.Sublist.trans (List.Sublist.map _ List.filter_sublist) ?_
  rw [List.map_map]
  refine List.Sublist.trans ?_ (List.Sublist.map _ (List.take_sublist a.length _))
  have e:List.map (Dl.nm ∘ fun p:Tb × Tb=>(ZO p.1 p.2).2) (List.take a.length (a.zip b))=List.map (fun p:Tb × Tb=>p.1.nm) (List.take a.length (a.zip b)):=List.map_congr_left fun p hp=>by
   unfold XU at h2
   exact ZeZ (List.all_eq_true.1 h2 p hp)
  exact e ▸ List.Sublist.refl _
theorem ZeK {a b:List Tb} {l:List El} (ha:StOk a) (hb:StOk b) (hl:l.map El.dl=(YO a b).2) (hg:∀ x∈l,x.good 100 6):DifOk (l.map El.de):=by
 have key:∀ x∈l,∃ p∈a.zip b,x.dl=(ZO p.1 p.2).2:=fun x hx=>by
  have h1:x.dl∈(YO a b).2:=by rw [←hl];exact List.mem_map_of_mem hx
  rcases ZbS a b with h|⟨h,-⟩
  ·rw [h] at h1;exact (nomatch h1)
  ·rw [h] at h1;exact Zfn h1
 have key2:∀ x∈l,(∀ r∈x.dl.ins,0<r.2.length)∧(∀ r∈x.dl.del,0<r.2.length)∧∀ u∈x.dl.upd,0<u.2.1.length∧0<u.2.2.length:=fun x hx=>by
  obtain ⟨p,hp,e⟩:=key x hx
  rw [e]
  have h1:=List.of_mem_zip (show (p.1,p.2)∈a.zip b from hp)
  exact Zfq (ha.row _ h1.1) (hb.row _ h1.2)
 refine ⟨?_,fun d hd=>?_,?_,fun d hd r hr=>?_,fun d hd r hr=>?_,fun d hd u hu=>?_,fun d hd=>?_⟩
 ·have h1:=congrArg List.length hl
  rw [List.length_map] at h1
  have h2:=Zfo a b
  rw [List.length_map,h1]
  have:=ha.len
  omega
 ·obtain ⟨y,hy,rfl⟩:=List.mem_map.1 hd
  exact (hg y hy).deB
 ·have h1:=Zc8 (b:=b) ha
  rw [←hl,List.map_map,List.pairwise_map] at h1
  rw [List.pairwise_map]
  exact h1.imp fun {x y} h=>h
 ·obtain ⟨y,hy,rfl⟩:=List.mem_map.1 hd
  exact (key2 y hy).1 r hr
 ·obtain ⟨y,hy,rfl⟩:=List.mem_map.1 hd
  exact (key2 y hy).2.1 r hr
 ·obtain ⟨y,hy,rfl⟩:=List.mem_map.1 hd
  exact (key2 y hy).2.2 u hu
 ·obtain ⟨y,hy,rfl⟩:=List.mem_map.1 hd
  exact ⟨(hg y hy).li,(hg y hy).ld,(hg y hy).lu⟩
def U4 (t:Tg) (cs:List Col) (d:De):Int:=
 YD (ZX t.event t.cols.l cs (d.li.map Rw.row) (d.ld.map Rw.row) (d.lu.map Pr.upd)).1.length (ZX t.event t.cols.l cs (d.li.map Rw.row) (d.ld.map Rw.row) (d.lu.map Pr.upd)).2.1.length (ZX t.event t.cols.l cs (d.li.map Rw.row) (d.ld.map Rw.row) (d.lu.map Pr.upd)).2.2.length t.event
def XE (t:Tg) (cs:List Col) (l:List De):Int:=l.foldl (fun a d=>if Yp t.tab d&&!t.before then U4 t cs d else a) 0
theorem Jp {t:Tg} {cs:List Col} {l:List De} {j:Nat} {d:De} (h:l[j]? =some d):XE t cs (l.take (j+1))=if Yp t.tab d&&!t.before then U4 t cs d else XE t cs (l.take j):=by
 unfold XE
 rw [WK h,List.foldl_append]
 rfl
theorem Gs {α:Type} {p:α→Bool} {f:α→Int}:∀ {l:List α} {a:Int},(∀ x∈l,p x=false)→l.foldl (fun a x=>if p x then f x else a) a=a
 | [],_,_=>rfl
 | x::l,a,h=>by
  rw [List.foldl_cons,if_neg (by rw [h x (by simp)];simp)]
  exact Gs fun y hy=>h y (by simp [hy])
theorem ZaO {α:Type} {p:α→Bool} {f:α→Int}:∀ {l:List α} {a:Int},l.Pairwise (fun x y=>p x=true→p y=false)→l.foldl (fun a x=>if p x then f x else a) a=(l.find? p).elim a f
 | [],_,_=>rfl
 | x::l,a,h=>by
  obtain ⟨h1,h2⟩:=List.pairwise_cons.1 h
  rw [List.foldl_cons,List.find?_cons]
  cases hp:p x with
  | true=>
   simp only [if_true]
   exact Gs fun y hy=>h1 y hy hp
  | false=>
   simp only [Bool.false_eq_true,if_false]
   exact ZaO h2
theorem ZaZ {s:ByteArray} {x:De} (h:Yp s x=true):x.nm=s:=Xt (beq_iff_eq.1 h)
theorem Zfl {t:Tg} {cs:List Col} {l:List De} (h:DifOk l):XE t cs l=if t.before then 0 else (l.find? (Yp t.tab)).elim 0 (U4 t cs):=by
 unfold XE
 cases hb:t.before with
 | true=>
  simp only [Bool.not_true,Bool.and_false,if_true]
  exact Gs (p:=fun _=>false) (f:=U4 t cs) fun _ _=>rfl
 | false=>
  simp only [Bool.not_false,Bool.and_true,Bool.false_eq_true,if_false]
  exact ZaO (p:=Yp t.tab) (f:=U4 t cs) (h.uniq.imp fun {x y} hn hx=>by
   cases hy:Yp t.tab y with
   | false=>rfl
   | true=>exact absurd ((ZaZ hx).trans (ZaZ hy).symm) hn)
theorem Zcz {tl:List Te} (h:StOk (tl.map Te.tb)) {s:ByteArray} (hs:Wi s):∃ y,tl.find? (Yb s)=some y∧y.cs=(ZA s).2:=by
 have hl:tl.length=3:=by have:=h.len;rwa [List.length_map] at this
 match tl,hl,h with
 | [a,b,c],_,h=>
  obtain ⟨ha,ha2,-⟩:=h.at_ 0 a.tb rfl
  obtain ⟨hb,hb2,-⟩:=h.at_ 1 b.tb rfl
  obtain ⟨hc,hc2,-⟩:=h.at_ 2 c.tb rfl
  have ha:a.nm=nm3 0:=ha
  have hb:b.nm=nm3 1:=hb
  have hc:c.nm=nm3 2:=hc
  have ha2:a.cs=cs3 0:=ha2
  have hb2:b.cs=cs3 1:=hb2
  have hc2:c.cs=cs3 2:=hc2
  rcases hs with rfl|rfl|rfl
  ·have e0:Yb ⟨#[116]⟩ a=false:=by unfold Yb;rw [ha];decide+kernel
   have e1:Yb ⟨#[116]⟩ b=true:=by unfold Yb;rw [hb];decide+kernel
   exact ⟨b,by simp only [List.find?_cons,e0,e1],by rw [hb2];kernel_rfl⟩
  ·have e0:Yb ⟨#[117]⟩ a=false:=by unfold Yb;rw [ha];decide+kernel
   have e1:Yb ⟨#[117]⟩ b=false:=by unfold Yb;rw [hb];decide+kernel
   have e2:Yb ⟨#[117]⟩ c=true:=by unfold Yb;rw [hc];decide+kernel
   exact ⟨c,by simp only [List.find?_cons,e0,e1,e2],by rw [hc2];kernel_rfl⟩
  ·have e0:Yb ⟨#[108,111,103]⟩ a=true:=by unfold Yb;rw [ha];decide+kernel
   exact ⟨a,by simp only [List.find?_cons,e0],by rw [ha2];kernel_rfl⟩
def Vq (t:Tg) (n:Int):Int:=if t.each then n else min n 1
theorem Zh1 {t:Tg} (he:1≤t.event∧t.event≤3) (cs:List Col) (ins del:List Row) (upd:List Upd):((WC t (ZX t.event t.cols.l cs ins del upd)).length:Int)=Vq t (YD (ZX t.event t.cols.l cs ins del upd).1.length (ZX t.event t.cols.l cs ins del upd).2.1.length (ZX t.event t.cols.l cs ins del upd).2.2.length t.event):=by
 unfold WC Vq
 cases t.each with
 | true=>
  simp only [if_true,List.length_append,List.length_map]
  unfold ZX YD
  rcases (show t.event=1∨t.event=2∨t.event=3 by omega) with h|h|h
  ·rw [h];simp
  ·rw [h];simp
  ·rw [h];simp
 | false=>
  simp only [Bool.false_eq_true,if_false]
  split
  ·simp only [List.length_cons,List.length_nil];omega
  ·simp only [List.length_nil]
   have:0≤YD (ZX t.event t.cols.l cs ins del upd).1.length (ZX t.event t.cols.l cs ins del upd).2.1.length (ZX t.event t.cols.l cs ins del upd).2.2.length t.event:=by
    unfold YD
    split
    ·omega
    ·split
     ·omega
     ·split<;>omega
   omega
theorem ZdN {tl:List Te} {l:List De} {t:Tg} (ht:StOk (tl.map Te.tb)) (hs:Wi t.tab) (he:1≤t.event∧t.event≤3) (h:DifOk l):((Yh tl l t).length:Int)=Vq t (XE t (ZA t.tab).2 l):=by
 obtain ⟨y,hy,hc⟩:=Zcz ht hs
 rw [Zfl h]
 unfold Yh
 rw [hy]
 have h0:Vq t 0=0:=by unfold Vq;split<;>rfl
 cases hd:l.find? (Yp t.tab) with
 | none=>
  simp only [List.length_nil]
  cases t.before<;>simp [h0]
 | some d=>
  simp only
  cases hb:t.before with
  | true=>simp [h0]
  | false=>
   simp only [Bool.false_eq_true,if_false]
   rw [Zh1 he,hc]
   rfl
def UY (t:Tg) (s:Sh):Prop:=if t.each then (0<s.2.2.1↔t.event≠1)∧(0<s.2.2.2↔t.event≠3) else s.2=(0,0,0)
theorem ZgO {t:Tg} (he:1≤t.event∧t.event≤3) {cs:List Col} {ins del:List Row} {upd:List Upd} (hi:∀ r∈ins,0<r.2.length) (hd:∀ r∈del,0<r.2.length) (hu:∀ u∈upd,0<u.2.1.length∧0<u.2.2.length):∀ s∈WC t (ZX t.event t.cols.l cs ins del upd),s.1=t.name∧UY t s:=fun s hs=>by
 unfold WC at hs
 unfold UY
 cases hb:t.each with
 | true=>
  rw [hb] at hs
  simp only [if_true] at hs ⊢
  rcases (show t.event=1∨t.event=2∨t.event=3 by omega) with h|h|h
  ·rw [h] at hs ⊢
   simp only [ZX,if_true,List.map_nil,List.append_nil] at hs
   obtain ⟨r,hr,rfl⟩:=List.mem_map.1 hs
   have:=hi r hr
   exact ⟨rfl,by simp [X7],by simp [X7,this]⟩
  ·rw [h] at hs ⊢
   simp only [ZX,show ((2:Int)=1)=False by simp,show ((2:Int)=3)=False by simp,if_false,if_true,List.map_nil,List.nil_append] at hs
   obtain ⟨u,hu2,rfl⟩:=List.mem_map.1 hs
   have:=hu u (List.mem_filter.1 hu2).1
   exact ⟨rfl,by simp [VY,this.1],by simp [VY,this.2]⟩
  ·rw [h] at hs ⊢
   simp only [ZX,show ((3:Int)=1)=False by simp,if_false,if_true,List.map_nil,List.nil_append,List.append_nil] at hs
   obtain ⟨r,hr,rfl⟩:=List.mem_map.1 hs
   have:=hd r hr
   exact ⟨rfl,by simp [WO,this],by simp [WO]⟩
 | false=>
  rw [hb] at hs
  simp only [Bool.false_eq_true,if_false] at hs ⊢
  split at hs
  ·simp only [List.mem_cons,List.not_mem_nil,or_false] at hs
   subst hs
   exact ⟨rfl,rfl⟩
  ·exact (nomatch hs)
theorem ZaP {tl:List Te} {l:List De} (h:DifOk l) {t:Tg} (he:1≤t.event∧t.event≤3):∀ s∈Yh tl l t,s.1=t.name∧UY t s:=fun s hs=>by
 unfold Yh at hs
 split at hs
 ·rename_i d y hd hy
  have hm:=List.mem_of_find?_eq_some hd
  split at hs
  ·exact (nomatch hs)
  ·exact ZgO he (h.ins d hm) (h.del d hm) (h.upd d hm) s hs
 ·exact (nomatch hs)
def Wh (s:ByteArray) (x:Sh):Bool:=x.1.toList==s.toList
theorem ZdS {gl:List Tg} {f:Tg→List Sh} (hf:∀ t∈gl,∀ s∈f t,s.1=t.name) {nm:ByteArray} (h:∀ t∈gl,t.name≠nm):(gl.flatMap f).filter (Wh nm)=[]:=by
 rw [List.filter_eq_nil_iff]
 intro s hs hn
 obtain ⟨t,ht,hst⟩:=List.mem_flatMap.1 hs
 exact h t ht ((hf t ht s hst).symm.trans (Xt (beq_iff_eq.1 hn)))
theorem zY {f:Tg→List Sh}:∀ {gl:List Tg},(∀ t∈gl,∀ s∈f t,s.1=t.name)→gl.Pairwise (fun a b=>a.name≠b.name)→∀ x∈gl,(gl.flatMap f).filter (Wh x.name)=f x
 | [],_,_,x,hx=>nomatch hx
 | t::gl,hf,hp,x,hx=>by
  obtain ⟨h1,h2⟩:=List.pairwise_cons.1 hp
  rw [List.flatMap_cons,List.filter_append]
  rcases List.mem_cons.1 hx with rfl|hx
  ·rw [ZdS (fun t ht=>hf t (by simp [ht])) (fun t ht=>(h1 t ht).symm),List.append_nil]
   exact List.filter_eq_self.2 fun s hs=>by
    show (s.1.toList==x.name.toList)=true
    rw [hf x (by simp) s hs];simp
  ·rw [zY (fun t ht=>hf t (by simp [ht])) h2 x hx]
   rw [List.filter_eq_nil_iff.2,List.nil_append]
   intro s hs hn
   exact h1 x hx ((hf t (by simp) s hs).symm.trans (Xt (beq_iff_eq.1 hn)))
set_option maxHeartbeats 1000000 in
theorem ZhT (w:World) (s:ByteArray) (I:Option Addr) (ni ci:Nat) (D:Option Addr) (nd cd:Nat) (U:Option Addr) (nu cu:Nat) (b1:ni≤2000) (b2:nd≤2000) (b3:nu≤2000):Calls Tryz.prog 71 #[.agg #[.string s,.slice I ni ci,.slice D nd cd,.slice U nu cu]] w fun e' w' =>e' =.returned (.bool (decide (ni=0∧nd=0∧nu=0)))∧Below w.heap.size w w' :=by
 have K0:=(Hold.XP w).Za #[.string s,.slice I ni ci,.slice D nd cd,.slice U nu cu] 44
 have F0:=K0.facts
 simp only [zg] at F0
 cases hE:decide (ni=0∧nd=0∧nu=0) with
 | true=>
  have h:=of_decide_eq_true hE
  have e1:((ni:Int)+(nd:Int)+(nu:Int)==0)=true:=by simp;omega
  clear hE h
  go_enter Tryz.func71,Tryz.ntmps71
  go_wp2_with fail
  go_ret
  exact ⟨by first|rfl|simp,K0.below⟩
 | false=>
  have h:=of_decide_eq_false hE
  have e1:((ni:Int)+(nd:Int)+(nu:Int)==0)=false:=by rw [beq_eq_false_iff_ne];omega
  clear hE h
  go_enter Tryz.func71,Tryz.ntmps71
  go_wp2_with fail
  go_ret
  exact ⟨by first|rfl|simp,K0.below⟩


set_option maxHeartbeats 4000000 in
set_option maxRecDepth 100000 in
theorem ZhO (w:World) (nm:ByteArray) (A:Option Addr) (n c:Nat) (cs:List Col) (nm2:ByteArray) (B:Option Addr) (m d:Nat) (ds:List Col) (hD:ColsIn A n cs w) (hE:ColsIn B m ds w) (hn:n≤4398046511104):
  Calls Tryz.prog 126 #[.agg #[.string nm,.slice A n c],.agg #[.string nm2,.slice B m d]] w fun e w' =>e=.returned (.bool (decide (nm=nm2∧cs=ds)))∧Below w.heap.size w w' :=by
 have HL:=hid (show cs.length=n from WR hD)
 have HK:=hid (show ds.length=m from WR hE)
 have K0:=((((Hold.start Zc w (fun b hb=>hb.elim)).add (Rd.ro hE (Nat.le_refl _) (by simp [Mut,Zc]):Ro w _ (ColsIn B m ds))).add (Rd.ro hD (Nat.le_refl _) (by simp [Mut,Zc,Hp.foot]):Ro w _ (ColsIn A n cs))).Za #[.string nm,.slice A n c] 49).Za #[.string nm2,.slice B m d] 49
 rw [World.size_alloc] at K0
 have F0:=K0.facts
 simp only [zg] at F0
 clear hD hE
 by_cases hi:nm=nm2
 ·subst hi
  have h1:(nm.toList==nm.toList)=true:=by simp
  have h1' :(nm.toList !=nm.toList)=false:=by simp
  by_cases hnm:n=m
  ·subst hnm
   have hb:((n:Int) !=(n:Int))=false:=by simp
   go_enter Tryz.func126,Tryz.ntmps126
   go_wp2_with fail
   obtain ⟨g2,hg2⟩:∃ g,g=w.heap.size:=⟨_,rfl⟩
   obtain ⟨g3,hg3⟩:∃ g,g=g2+1:=⟨_,rfl⟩
   rw [←hg2,←hg3] at K0 ⊢
   clear F0
   generalize (w.alloc _).alloc _=w1 at K0 ⊢
   have HG:=hid hg2
   clear hg2 hg3
   go_loopw [23] (fun iv wr=>∃ (k:Nat),k≤n∧iv=.int .i64 k∧Hid (cs.take k=ds.take k)∧Hold Zc none w wr [.cst g3 49 #[.string nm,.slice B n d],.cst g2 49 #[.string nm,.slice A n c],.ro (ColsIn A n cs),.ro (ColsIn B n ds)]) (fun iv _=>n - (intOf iv).toNat)
   case atStart=>exact ⟨0,by omega,rfl,hid (by simp),K0⟩
   case round=>
    clear K0
    obtain ⟨k,hk,rfl,HTK,H⟩:=hrel
    have F:=H.facts
    simp only [zg] at F
    by_cases hlt:k<n
    ·have hd:decide ((k:Int)<(n:Int))=true:=by simp;omega
     have i0:(0:Int)≤(k:Int):=by omega
     have i1:(k:Int)<(n:Int):=by omega
     obtain ⟨x,hx⟩:=Zq HL.out hlt
     obtain ⟨y,hy⟩:=Zq HK.out hlt
     obtain ⟨g,o,rfl,hbx,x0,x1,x2,x3⟩:=(RdC.Zy (H.ro 2 rfl).now).at_ hx
     obtain ⟨g',o',rfl,hby,y0,y1,y2,y3⟩:=(RdC.Zy (H.ro 3 rfl).now).at_ hy
     have HX:=hid hx;have HY:=hid hy;clear hx hy
     by_cases h0:x.name=y.name
     ·have e0:(x.name.toList==y.name.toList)=true:=by simp [h0]
      by_cases h1:x.ty=y.ty
      ·have e1:(x.ty==y.ty)=true:=by simp [h1]
       by_cases h2:x.nn=y.nn
       ·have e2:(x.nn==y.nn)=true:=by simp [h2]
        by_cases h3:x.key=y.key
        ·have e3:(x.key==y.key)=true:=by simp [h3]
         have HXY:=hid (show x=y by cases x;cases y;simp_all)
         clear h0 h1 h2 h3
         go_wp2_with fail
         go_quiet (fail)
         have HZ:=H.drewN nq
         go_wp2_with fail
         go_roundw
         case rel=>exact ⟨k+1,by omega,by go_num,hid (ZaH HX.out HY.out HTK.out HXY.out),HZ⟩
         case measure=>simp [intOf];omega
        ·have e3:(x.key==y.key)=false:=by simpa using h3
         have HN:=hid (show decide (nm=nm∧cs=ds)=false from by rw [decide_eq_false_iff_not];rintro ⟨_,h⟩;exact Uv HX.out HY.out (by intro h;exact h3 (by rw [h])) h)
         clear h0 h1 h2 h3
         go_wp2_with fail
         go_quiet (fail)
         have HZ:=H.drewN nq
         go_wp2_with fail
         go_ret
         exact ⟨by rw [HN.out]<;>rfl,HZ.below⟩
       ·have e2:(x.nn==y.nn)=false:=by simpa using h2
        have HN:=hid (show decide (nm=nm∧cs=ds)=false from by rw [decide_eq_false_iff_not];rintro ⟨_,h⟩;exact Uv HX.out HY.out (by intro h;exact h2 (by rw [h])) h)
        clear h0 h1 h2
        go_wp2_with fail
        go_quiet (fail)
        have HZ:=H.drewN nq
        go_wp2_with fail
        go_ret
        exact ⟨by rw [HN.out]<;>rfl,HZ.below⟩
      ·have e1:(x.ty==y.ty)=false:=by simpa using h1
       have HN:=hid (show decide (nm=nm∧cs=ds)=false from by rw [decide_eq_false_iff_not];rintro ⟨_,h⟩;exact Uv HX.out HY.out (by intro h;exact h1 (by rw [h])) h)
       clear h0 h1
       go_wp2_with fail
       go_quiet (fail)
       have HZ:=H.drewN nq
       go_wp2_with fail
       go_ret
       exact ⟨by rw [HN.out]<;>rfl,HZ.below⟩
     ·have e0:(x.name.toList==y.name.toList)=false:=by rw [beq_eq_false_iff_ne];exact fun h=>h0 (Xt h)
      have HN:=hid (show decide (nm=nm∧cs=ds)=false from by rw [decide_eq_false_iff_not];rintro ⟨_,h⟩;exact Uv HX.out HY.out (by intro h;exact h0 (by rw [h])) h)
      clear h0
      go_wp2_with fail
      go_quiet (fail)
      have HZ:=H.drewN nq
      go_wp2_with fail
      go_ret
      exact ⟨by rw [HN.out]<;>rfl,HZ.below⟩
    ·obtain rfl:n=k:=by omega
     have hd:decide ((n:Int)<(n:Int))=false:=by simp
     have HE:=hid (show cs=ds from by
      have h:=HTK.out
      rw [List.take_of_length_le (by rw [HL.out];exact Nat.le_refl _),List.take_of_length_le (by rw [HK.out];exact Nat.le_refl _)] at h
      simp [h])
     go_wp2_with fail
     go_ret
     exact ⟨congrArg (fun b=>Ending.returned (Value.bool b)) (a₁:=true) (by simp [HE.out]),H.below⟩
  ·have hb:((n:Int) !=(m:Int))=true:=by simp;omega
   have HB:=hid (show ¬cs=ds from by rintro rfl;have:=HL.out;have:=HK.out;omega)
   go_enter Tryz.func126,Tryz.ntmps126
   go_wp2_with fail
   go_ret
   exact ⟨congrArg (fun b=>Ending.returned (Value.bool b)) (a₁:=false) (by simp [HB.out]),K0.below⟩
 ·have h1:(nm.toList==nm2.toList)=false:=by rw [beq_eq_false_iff_ne];exact fun h=>hi (Xt h)
  have h1' :(nm.toList !=nm2.toList)=true:=by rw [bne_iff_ne];exact fun h=>hi (Xt h)
  have HB:=hid (show decide (nm=nm2∧cs=ds)=false by simp [hi])
  clear hi
  go_enter Tryz.func126,Tryz.ntmps126
  go_wp2_with fail
  go_ret
  exact ⟨by rw [HB.out]<;>rfl,K0.below⟩
set_option maxHeartbeats 8000000 in
set_option maxRecDepth 100000 in
theorem ZhH (M:Nat→Prop) (w:World) (hM:∀ b,M b→b<w.heap.size) (va vb:Value) (a b:Tb) (hTa:Y2 w M va a) (hTb:Y2 w M vb b) (hsa:a.nm.size≤maxLen) (hca:∀ x∈a.cs,x.name.size≤maxLen) (hra:a.rs.length≤4398046511104) (hsb:b.nm.size≤maxLen) (hcb:∀ x∈b.cs,x.name.size≤maxLen) (hrb:b.rs.length≤4398046511104):
  Calls Tryz.prog 70 #[va,vb] w fun e w' =>ZgE w M (ZO a b) e w' :=by
 obtain ⟨aA,an,ac,aB,am,ad,la,rfl,a1,a2,a3,a4,a5,a6,a7,a8⟩:=hTa
 obtain ⟨bA,bn,bc,bB,bm,bd,lb,rfl,b1,b2,b3,b4,b5,b6,b7,b8⟩:=hTb
 have HAL:=hid (show la.length=am from a6.now.len)
 have HBL:=hid (show lb.length=bm from b6.now.len)
 have HAR:=hid a8
 have HBR:=hid b8
 have HAO:=hid a7
 have HBO:=hid b7
 have HAE:=hid a6.now
 have HBE:=hid b6.now
 have HAC:=hid (show a.cs.length=an from WR a5.now)
 have ham:am≤4398046511104:=by have:=HAL.out;have h:=congrArg List.length a8;rw [List.length_map] at h;omega
 have hbm:bm≤4398046511104:=by have:=HBL.out;have h:=congrArg List.length b8;rw [List.length_map] at h;omega
 have K0:=(((((((Hold.start M w hM).add (b6.less (by simp [Mut]))).add (b5.less (by simp [Mut,Hp.foot]))).add (a6.less (by simp [Mut,Hp.foot]))).add (a5.less (by simp [Mut,Hp.foot]))).Za #[.string a.nm,.slice aA an ac,.int .i64 a.nx,.slice aB am ad] 67).Za #[.string b.nm,.slice bA bn bc,.int .i64 b.nx,.slice bB bm bd] 67).alloc #[.string ⟨#[]⟩,.slice none 0 0,.slice none 0 0,.slice none 0 0] 44
 simp only [World.size_alloc] at K0
 have F0:=K0.facts
 simp only [zg] at F0
 clear a5 a6 a7 a8 b5 b6 b7 b8
 go_enter Tryz.func70,Tryz.ntmps70
 go_wp2_with fail
 obtain ⟨g2,hg2⟩:∃ g,g=w.heap.size:=⟨_,rfl⟩
 obtain ⟨g3,hg3⟩:∃ g,g=g2+1:=⟨_,rfl⟩
 obtain ⟨g4,hg4⟩:∃ g,g=g3+1:=⟨_,rfl⟩
 rw [←hg2,←hg3,←hg4] at K0 ⊢
 clear F0
 generalize ((w.alloc _).alloc _).alloc _=w1 at K0 ⊢
 have HGX:=hid hg2
 clear hg2 hg3 hg4
 have hv:=Vu _ _ K0.Zb a.nm aA an ac a.cs a.nx aB am ad la (K0.ro 3 rfl) (K0.ro 4 rfl) (by omega) (by omega) HAO.out hsa hca
 rw [HAR.out] at hv
 refine hv.mono ?_
 clear hv
 rintro e w2 ⟨rfl,b1_⟩
 have K1:=K0.call b1_
 clear K0 b1_
 have F1:=K1.facts
 simp only [zg] at F1
 cases hva:Zn a.nm a.cs a.nx a.rs
 ·have HN:=hid (Zfh (b:=b) hva)
  clear hva
  have KN:=(((K1.store 0 rfl 0 (.string ⟨#[]⟩)).store 0 rfl 1 (.slice none 0 0)).store 0 rfl 2 (.slice none 0 0)).store 0 rfl 3 (.slice none 0 0)
  go_wp2_with fail
  exact bodyPost_ret (v:=.tuple #[.agg #[.string ⟨#[]⟩,.slice none 0 0,.slice none 0 0,.slice none 0 0],.bool false]) (by simp [results,Tryz.results70,go_sem,F1]) rfl ⟨_,by rw [HN.out],by rw [HN.out];exact Uu,KN.below⟩
 have HVA:=hid hva
 clear hva
 go_wp2_with fail
 have hv:=Vu _ _ K1.Zb b.nm bA bn bc b.cs b.nx bB bm bd lb (K1.ro 5 rfl) (K1.ro 6 rfl) (by omega) (by omega) HBO.out hsb hcb
 rw [HBR.out] at hv
 refine hv.mono ?_
 clear hv
 rintro e w3 ⟨rfl,b1_⟩
 have K2:=K1.call b1_
 clear K1 b1_ F1
 have F2:=K2.facts
 simp only [zg] at F2
 cases hvb:Zn b.nm b.cs b.nx b.rs
 ·have HN:=hid (ZdC (a:=a) hvb)
  clear hvb
  have KN:=(((K2.store 0 rfl 0 (.string ⟨#[]⟩)).store 0 rfl 1 (.slice none 0 0)).store 0 rfl 2 (.slice none 0 0)).store 0 rfl 3 (.slice none 0 0)
  go_wp2_with fail
  exact bodyPost_ret (v:=.tuple #[.agg #[.string ⟨#[]⟩,.slice none 0 0,.slice none 0 0,.slice none 0 0],.bool false]) (by simp [results,Tryz.results70,go_sem,F2]) rfl ⟨_,by rw [HN.out],by rw [HN.out];exact Uu,KN.below⟩
 have HVB:=hid hvb
 clear hvb hsa hca hsb hcb
 have han6:an≤6:=by have:=Uc HVA.out;have:=HAC.out;omega
 have ham1:am≤100:=by have:=(U7 HVA.out).1;have h:=congrArg List.length HAR.out;rw [List.length_map] at h;have:=HAL.out;omega
 have hbm1:bm≤100:=by have:=(U7 HVB.out).1;have h:=congrArg List.length HBR.out;rw [List.length_map] at h;have:=HBL.out;omega
 have HSA:=hid (J4 HAE.out (by rw [HAR.out];exact HVA.out))
 have HSB:=hid (J4 HBE.out (by rw [HBR.out];exact HVB.out))
 clear ham hbm hra hrb
 go_wp2_with fail
 refine (ZhO _ a.nm aA an ac a.cs b.nm bA bn bc b.cs (K2.ro 3 rfl).now (K2.ro 5 rfl).now (by omega)).mono ?_
 rintro e w4 ⟨rfl,b1_⟩
 have K3:=K2.call b1_
 clear K2 b1_ F2
 have F3:=K3.facts
 simp only [zg] at F3
 cases hss:decide (a.nm=b.nm∧a.cs=b.cs)
 ·have HN:=hid (Zg0 hss)
  clear hss
  have KN:=(((K3.store 0 rfl 0 (.string ⟨#[]⟩)).store 0 rfl 1 (.slice none 0 0)).store 0 rfl 2 (.slice none 0 0)).store 0 rfl 3 (.slice none 0 0)
  go_wp2_with fail
  exact bodyPost_ret (v:=.tuple #[.agg #[.string ⟨#[]⟩,.slice none 0 0,.slice none 0 0,.slice none 0 0],.bool false]) (by simp [results,Tryz.results70,go_sem,F3]) rfl ⟨_,by rw [HN.out],by rw [HN.out];exact Uu,KN.below⟩
 have HEQ:=hid (of_decide_eq_true hss)
 clear hss
 by_cases hnx:b.nx<a.nx
 ·have hd:decide (b.nx<a.nx)=true:=by simpa using hnx
  have HN:=hid (Zg2 hnx)
  clear hnx
  have KN:=(((K3.store 0 rfl 0 (.string ⟨#[]⟩)).store 0 rfl 1 (.slice none 0 0)).store 0 rfl 2 (.slice none 0 0)).store 0 rfl 3 (.slice none 0 0)
  go_wp2_with fail
  exact bodyPost_ret (v:=.tuple #[.agg #[.string ⟨#[]⟩,.slice none 0 0,.slice none 0 0,.slice none 0 0],.bool false]) (by simp [results,Tryz.results70,go_sem,F3]) rfl ⟨_,by rw [HN.out],by rw [HN.out];exact Uu,KN.below⟩
 have hd:decide (b.nx<a.nx)=false:=by simpa using hnx
 have HST:=hid (RSt.zero HVA.out HVB.out HEQ.out (show a.nx≤b.nx by omega))
 clear hnx
 have K4:=K3.alloc #[.string a.nm,.slice none 0 0,.slice none 0 0,.slice none 0 0] 44
 go_wp2_with fail
 obtain ⟨g6,hg6⟩:∃ g,g=w4.heap.size:=⟨_,rfl⟩
 rw [←hg6] at K4 ⊢
 have HG6:=hid hg6
 clear hg6 hd F3 K3
 generalize World.alloc w4 _=w5 at K4 ⊢
 have K6:=((((((K4.add (show Ro _ _ (YI []) from fun _ _ _ r hr=>nomatch hr)).add (V3 _ _)).add (V3 _ _)).nil 115 3).nil 124 2).nil 124 2)
 clear K4
 go_loopw [46] (fun iv wr=>∃ (j ni ci nu cu:Nat) (I U:Option Addr) (li:List Rw) (lu:List Pr),j≤bm∧iv=.int .i64 j∧ni≤j∧nu≤j∧Hid (RSt a b j 0 li [] lu)∧Hold M none w wr [.own 124 2 (.slice I ni ci) ni (ZJ li),.own 124 2 (.slice none 0 0) 0 (ZJ []),.own 115 3 (.slice U nu cu) nu (ZZ lu),.ro (YT li),.ro (YT []),.ro (YI lu),.blk g6 44 #[.string a.nm,.slice I ni ci,.slice none 0 0,.slice U nu cu],.blk g4 44 #[.string ⟨#[]⟩,.slice none 0 0,.slice none 0 0,.slice none 0 0],.cst g3 67 #[.string b.nm,.slice bA bn bc,.int .i64 b.nx,.slice bB bm bd],.cst g2 67 #[.string a.nm,.slice aA an ac,.int .i64 a.nx,.slice aB am ad],.ro (ColsIn aA an a.cs),.ro (RwsIn aB am la),.ro (ColsIn bA bn b.cs),.ro (RwsIn bB bm lb)]) (fun iv _=>bm - (intOf iv).toNat)
 case atStart=>exact ⟨0,0,0,0,0,none,none,[],[],by omega,rfl,by omega,by omega,HST,K6⟩
 case round=>
  clear K6 HST
  obtain ⟨j,ni,ci,nu,cu,I,U,li,lu,hj,rfl,hni,hnu,HBS,H⟩:=hrel
  by_cases hlt:j<bm
  ·have hd:decide ((j:Int)<(bm:Int))=true:=by simp;omega
   have j0:(0:Int)≤(j:Int):=by omega
   have j1:(j:Int)<(bm:Int):=by omega
   obtain ⟨r,hr⟩:=Zq HBL.out hlt
   obtain ⟨bb,bo,rfl,hbb,c0,c1,_⟩:=(H.ro 13 rfl).now.at_ hr
   have HRR:=hid (show b.rs[j]? =some r.row by rw [←HBR.out,List.getElem?_map,hr];rfl)
   have HRO:=hid (HBO.out r (List.mem_of_getElem? hr))
   have hrn6:=HSB.out r (List.mem_of_getElem? hr)
   have hxr:Ro wr _ (VlsIn r.A r.n r.vs):=(H.ro 13 rfl).imp fun w2 h2=>h2.2 r (List.mem_of_getElem? hr)
   obtain ⟨rid,rA,rn,rc,rvs⟩:=r
   dsimp only at *
   clear hr
   have K1:=(H.add hxr).Za #[.int .i64 rid,.slice rA rn rc] 124
   clear H hxr
   obtain ⟨g8,hg8⟩:∃ g,g=wr.heap.size:=⟨_,rfl⟩
   rw [←hg8] at K1
   have F1:=K1.facts
   simp only [zg] at F1
   go_wp2_with fail
   rw [←hg8]
   have HG8:=hid hg8
   clear hg8 c0 c1
   have hg:=QK _ _ K1.Zb (.string a.nm) (.slice aA an ac) (.int .i64 a.nx) aB am ad la rid (K1.ro 13 rfl) (by omega) (fun r hr=>by have:=HSA.out r hr;omega)
   rw [HAR.out] at hg
   refine hg.mono ?_
   clear hg
   rintro e w6 ⟨Ag,ng,cg,rfl,hng,hgc1,hgc2,rg,bg⟩
   have K2:=K1.call bg
   clear K1 bg F1
   have F2:=K2.facts
   simp only [zg] at F2
   cases hgt:Zr a.rs rid with
   | none=>
    have HGG:=hid hgt
    simp only [Option.isSome_none]
    clear rg hng hgc1 hgc2 hgt
    by_cases hrn:rid<a.nx
    ·have hd3:decide (rid<a.nx)=true:=by simpa using hrn
     have HN:=hid (HBS.out.bad HRR.out HGG.out hrn)
     clear hrn
     have KN:=(((K2.store 9 rfl 0 (.string ⟨#[]⟩)).store 9 rfl 1 (.slice none 0 0)).store 9 rfl 2 (.slice none 0 0)).store 9 rfl 3 (.slice none 0 0)
     go_wp2_with fail
     exact bodyPost_ret (v:=.tuple #[.agg #[.string ⟨#[]⟩,.slice none 0 0,.slice none 0 0,.slice none 0 0],.bool false]) (by simp [results,Tryz.results70,go_sem,F2]) rfl ⟨_,by rw [HN.out],by rw [HN.out];exact Uu,KN.below⟩
    ·have hd3:decide (rid<a.nx)=false:=by simpa using hrn
     have HRN:=hid (show a.nx≤rid by omega)
     clear hrn
     obtain ⟨KL,hKL,KN⟩:=K2.name
     have HF:Hid (∀ wv,Hold M none w wv KL→(wv.cell? ⟨g6,1,none⟩=some (.slice I ni ci)∧g6<wv.heap.size)∧wv.cell? ⟨g8,0,none⟩=some (.int .i64 rid)∧wv.cell? ⟨g8,1,none⟩=some (.slice rA rn rc)∧g8<wv.heap.size):=hid fun wv HC=>by
      rw [hKL] at HC
      have y1:=HC.ZF 8 rfl
      have y2:=HC.ZB 0 rfl
      exact ⟨⟨cell_of_row _ _ 1 _ _ _ y1,Blk.lt y1⟩,cell_of_row _ _ 0 _ _ _ y2,cell_of_row _ _ 1 _ _ _ y2,Blk.lt y2⟩
     have HRX:Hid (∀ wv,Hold M none w wv KL→Ro wv (Mut M KL) (VlsIn rA rn rvs)):=hid fun wv HC=>by
      rw [hKL] at HC ⊢
      exact HC.ro 1 rfl
     have HKL:=hid hKL
     clear hKL K2
     go_wp2_with fail
     refine wp_region_any (by kernel_rfl) ?_
     refine Zp 5 119 (KL) (spL [(72,Yx (Mut M KL) rid rvs),(73,Yw (Mut M KL) rid rvs)]) (by kernel_rfl) (by kernel_rfl) (by kernel_rfl) rfl ?_ (KN.drew) ?_
     ·exact Ze Vz (Ze Vf (Zo _))
     simp only [zd,Act.put,List.getElem_toArray,List.getElem_cons_zero,List.getElem_cons_succ,zl]
     refine' dv rfl rfl rfl (fun wv HC=>?_) ?_;rotate_left
     · go_simp<;>rfl
     iterate 2
      simp only [Act.put,zl]
      refine' dv rfl rfl rfl (fun wv HC=>?_) ?_;rotate_left
      ·obtain ⟨⟨f0,f1⟩,f2,f3,f4⟩:=HF.out _ HC;go_simp<;>rfl
     simp only [Act.put,zl]
     refine Zm 72 (Yx (Mut M KL) rid rvs) (f:=127) (args:=#[.agg #[.int .i64 rid,.slice rA rn rc]]) rfl rfl rfl rfl (fun wv=>?_) (fun wv HC hrm hD=>?_) ?_
     ·go_simp<;>rfl
     ·refine (ZaU _ wv HC.Zb rid rA rn rc rvs (HRX.out _ HC) (by omega)).mono ?_
      rintro e w5 ⟨A5,n5,c5,rfl,h50,h51,h52,h53,b5⟩
      exact ⟨_,rfl,⟨A5,n5,c5,rfl,h50,h51,h52,h53⟩,HC.call b5,RM.below b5⟩
     rintro x_ wx HCx ⟨A5,n5,c5,rfl,-,-,-,-⟩
     clear HCx
     simp only [Act.put,zl]
     refine Ye #[.int .i64 rid,.slice A5 n5 c5] 124 73 (Yw (Mut M KL) rid rvs) (fun g=>.slice (some ⟨g,0,none⟩) 1 1) rfl rfl rfl rfl (fun wv=>?_) (fun wv HC _hrm hD hro=>?_) ?_
     ·go_simp<;>rfl
     ·have hsl:Yx (Mut M KL) rid rvs (.agg #[.int .i64 rid,.slice A5 n5 c5]) wv:=ZM hD 3 rfl (by kernel_rfl) rfl rfl
      obtain ⟨A6,n6,c6,e6,h1,h2,h3,h4⟩:=hsl
      obtain ⟨rfl,rfl,rfl⟩:A5=A6∧n5=n6∧c5=c6:=by
       injection e6 with e6
       simp at e6
       exact e6
      exact ⟨_,A5,n5,c5,rfl,h1,h2,h3,h4.step (by simp) (fun b hb _=>Below.heap_alloc wv _ b hb) (fun _ _ h=>h),ZL (hro _ HC.Zb) rfl⟩
     rintro gn wg HCg hsl
     simp only [Act.put,zl]
     clear hsl HCg
     refine Zj ?_
     rintro wx2 HX
     rintro _hrm HGW
     have hb2:Yw (Mut M KL) rid rvs (.slice (some ⟨gn,0,none⟩) 1 1) wx2:=(Zl (d:=73) rfl).1 (HGW 4 _ rfl (by omega))
     clear HGW _hrm
     obtain ⟨gq,A6,n6,c6,e6,k0_,k1_,k2_,k3_,k4_⟩:=hb2
     obtain rfl:gn=gq:=by injection e6 with e6;injection e6 with e6;injection e6
     clear e6
     rw [HKL.out] at HX k3_
     have k5:=hid k4_.now
     have HK0:=hid (And.intro k0_ (And.intro k1_ k2_))
     clear k4_ k0_ k1_ k2_ HF HRX KN
     have HRS:=hid (show ZJ li++[.int .i64 rid,.slice A6 n6 c6]=ZJ (li++[⟨rid,A6,n6,c6,rvs⟩]) from WH _ _ _ _ _ _)
     have KA:=HX.add k3_
     clear HX k3_
     have FKA:=KA.facts
     simp only [zg] at FKA
     go_wp2_with (at_builtin;go_must (refine ZW KA 3 rfl Tryz.WE k5.out rfl (.tmp 70) (.tmp 73) rfl rfl rfl (by intro z hz;simp at hz;rcases hz with rfl|rfl<;>rfl) (by omega) (by omega) ?_);intro C' cap' w6 hc6 hm6 KB;rw [HRS.out] at KB;simp only [zl] at KB;(have F3:=KB.facts);simp only [zg] at F3)
     have KD:=KB.store 9 rfl 1 (.slice C' (ni+1) cap')
     have KE:=(KD.Yy 6 rfl (Wl (r:=⟨rid,A6,n6,c6,rvs⟩) (KD.ro 6 rfl) (KD.ro 0 rfl))).drop (List.sublist_cons_self _ _)
     clear KB KD FKA k5
     have HBN:=hid (HBS.out.Zio HRR.out HGG.out HRN.out (y:=⟨rid,A6,n6,c6,rvs⟩) rfl ⟨HRO.out.id,HK0.out.2.1,HK0.out.2.2,HRO.out.vs⟩)
     have KZ:=KE.drop (List.Sublist.cons _ (List.sublist_cons_self _ _))
     go_roundw
     case rel=>exact ⟨j+1,ni+1,cap',nu,cu,C',U,_,lu,by omega,by first|rfl|go_num,by omega,by omega,HBN,KZ⟩
     case measure=>simp [intOf];omega
   | some o=>
    rw [hgt] at rg hng
    simp only [Option.getD_some] at rg hng
    have HGG:=hid hgt
    have HGC:=hid (And.intro hng (And.intro hgc1 hgc2))
    have HGO:=hid (show ∀ v∈o,v.ok from fun v hv=>by
     have h1:=JN hgt
     rw [←HAR.out] at h1
     obtain ⟨z,hz,hzr⟩:=List.mem_map.1 h1
     have h2:z.vs=o:=congrArg Prod.snd hzr
     exact (HAO.out z hz).vs v (by rw [h2];exact hv))
    simp only [Option.isSome_some]
    have hng6:ng≤9223372036854775807:=by omega
    clear hgt hng hgc1 hgc2
    have K3:=K2.add rg
    clear K2 rg F2
    have F3:=K3.facts
    simp only [zg] at F3
    go_wp2_with fail
    refine (Gy _ _ K3.Zb Ag ng cg o rA rn rc rvs (K3.ro 0 rfl) (K3.ro 2 rfl) (by omega) (by omega)).mono ?_
    rintro e w7 ⟨⟨r0,rfl,hr0⟩,b7⟩
    have K6:=K3.call b7
    clear K3 b7 F3
    have F6:=K6.facts
    simp only [zg] at F6
    by_cases hov:o=rvs
    ·obtain rfl:r0=0:=hr0.2 hov
     have HBN:=hid (HBS.out.same HRR.out HGG.out hov)
     clear hr0 hov
     have KZ:=K6.drop (List.Sublist.cons _ (List.Sublist.cons _ (List.sublist_cons_self _ _)))
     go_wp2_with fail
     go_roundw
     case rel=>exact ⟨j+1,ni,ci,nu,cu,I,U,li,lu,by omega,by first|rfl|go_num,by omega,by omega,HBN,KZ⟩
     case measure=>simp [intOf];omega
    ·have hrz:(r0 !=0)=true:=by simpa using fun h=>hov (hr0.1 h)
     have HNE:=hid hov
     clear hr0 hov
     obtain ⟨KL,hKL,KN⟩:=K6.name
     have HF:Hid (∀ wv,Hold M none w wv KL→(wv.cell? ⟨g6,3,none⟩=some (.slice U nu cu)∧g6<wv.heap.size)∧wv.cell? ⟨g8,0,none⟩=some (.int .i64 rid)∧wv.cell? ⟨g8,1,none⟩=some (.slice rA rn rc)∧g8<wv.heap.size):=hid fun wv HC=>by
      rw [hKL] at HC
      have y1:=HC.ZF 9 rfl
      have y2:=HC.ZB 1 rfl
      exact ⟨⟨cell_of_row _ _ 3 _ _ _ y1,Blk.lt y1⟩,cell_of_row _ _ 0 _ _ _ y2,cell_of_row _ _ 1 _ _ _ y2,Blk.lt y2⟩
     have HRX:Hid (∀ wv,Hold M none w wv KL→Ro wv (Mut M KL) (VlsIn Ag ng o)∧Ro wv (Mut M KL) (VlsIn rA rn rvs)):=hid fun wv HC=>by
      rw [hKL] at HC ⊢
      exact ⟨HC.ro 0 rfl,HC.ro 2 rfl⟩
     have HKL:=hid hKL
     clear hKL K6
     go_wp2_with fail
     refine wp_region_any (by kernel_rfl) ?_
     refine Zp 10 119 (KL) (spL [(88,Z0 (Mut M KL) rvs),(89,Y7 (Mut M KL) (rid,o,rvs)),(90,Xb (Mut M KL) [(rid,o,rvs)])]) (by kernel_rfl) (by kernel_rfl) (by kernel_rfl) rfl ?_ (KN.drew) ?_
     ·exact Ze X6 (Ze V9 (Ze QJ (Zo _)))
     simp only [zd,Act.put,List.getElem_toArray,List.getElem_cons_zero,List.getElem_cons_succ,zl]
     iterate 2
      refine' dv rfl rfl rfl (fun wv HC=>?_) ?_;rotate_left
      · go_simp<;>rfl
      simp only [Act.put,zl]
      refine' dv rfl rfl rfl (fun wv HC=>?_) ?_;rotate_left
      ·obtain ⟨⟨f0,f1⟩,f2,f3,f4⟩:=HF.out _ HC;go_simp<;>rfl
      simp only [Act.put,zl]
     iterate 2
      refine' dv rfl rfl rfl (fun wv HC=>?_) ?_;rotate_left
      · go_simp<;>rfl
      simp only [Act.put,zl]
     refine' dv rfl rfl rfl (fun wv HC=>?_) ?_;rotate_left
     ·obtain ⟨⟨f0,f1⟩,f2,f3,f4⟩:=HF.out _ HC;go_simp<;>rfl
     simp only [Act.put,zl]
     refine Zm 88 (Z0 (Mut M KL) rvs) (f:=55) (args:=#[.slice rA rn rc]) rfl rfl rfl rfl (fun wv=>?_) (fun wv HC hrm hD=>?_) ?_
     ·go_simp<;>rfl
     ·refine (Xf _ wv HC.Zb rA rn rc rvs (HRX.out _ HC).2 (by omega)).mono ?_
      rintro e w5 ⟨A5,n5,c5,rfl,h50,h51,h52,h53,b5⟩
      exact ⟨_,rfl,⟨A5,n5,c5,rfl,h50,h51,h52,h53⟩,HC.call b5,RM.below b5⟩
     rintro x_ wx HCx ⟨A94,n94,c94,rfl,-,-,-,-⟩
     clear HCx
     simp only [Act.put,zl]
     refine WA 89 (Y7 (Mut M KL) (rid,o,rvs)) rfl rfl rfl rfl (.agg #[.int .i64 rid,.slice Ag ng cg,.slice A94 n94 c94]) (fun wv HC=>?_) (fun wv HC hD=>?_) ?_
     ·go_simp<;>rfl
     ·have hb:Z0 (Mut M KL) rvs (.slice A94 n94 c94) wv:=ZM hD 7 rfl (by kernel_rfl) rfl rfl
      exact JW HRO.out.id HGO.out HRO.out.vs ⟨Ag,ng,cg,rfl,HGC.out.1,HGC.out.2.1,HGC.out.2.2,(HRX.out _ HC).1⟩ hb
     simp only [Act.put,zl]
     refine Ye #[.int .i64 rid,.slice Ag ng cg,.slice A94 n94 c94] 115 90 (Xb (Mut M KL) [(rid,o,rvs)]) (fun g=>.slice (some ⟨g,0,none⟩) 1 1) rfl rfl rfl rfl (fun wv=>?_) (fun wv HC _hrm hD hro=>?_) ?_
     ·go_simp<;>rfl
     ·have hrr:=RM.alloc (Mut M KL) wv (.cells #[.int .i64 rid,.slice Ag ng cg,.slice A94 n94 c94] 115)
      have h0:Y7 (Mut M KL) (rid,o,rvs) (.agg #[.int .i64 rid,.slice Ag ng cg,.slice A94 n94 c94]) wv:=ZM hD 8 rfl (by kernel_rfl) rfl rfl
      replace h0:=V9 _ _ _ hrr h0
      exact JD (hro _ HC.Zb) (fun i j k e1=>Value.agg.inj e1) h0
     rintro g96 wg HCg hsl
     simp only [Act.put,zl]
     clear hsl HCg
     refine Zj ?_
     rintro wx5 HX5
     rintro _hrm HGW
     have hb2:Xb (Mut M KL) [(rid,o,rvs)] (.slice (some ⟨g96,0,none⟩) 1 1) wx5:=(Zl (d:=90) rfl).1 (HGW 9 _ rfl (by omega))
     clear HGW _hrm
     obtain ⟨Aq,nq,cq,pq,heq,-,-,hpm,hpok,hpr⟩:=hb2
     obtain ⟨rfl,rfl,rfl⟩:some ⟨g96,0,none⟩=Aq∧1=nq∧1=cq:=by injection heq with h1 h2 h3;exact ⟨h1,h2,h3⟩
     clear heq
     obtain ⟨pr,rfl,hpu⟩:∃ pr,pq=[pr]∧pr.upd=(rid,o,rvs):=by
      obtain ⟨pr,h1,h2⟩:=List.map_eq_singleton_iff.1 hpm
      exact ⟨pr,h1,h2⟩
     rw [HKL.out] at HX5 hpr
     have HPE:=hid (show ZZ lu++ZZ [pr]=ZZ (lu++[pr]) by simp [ZZ])
     have KA:=HX5.add (hpr.imp fun w h=>(h.2:YI [pr] w))
     have k5:=hid ((hpr.imp fun w h=>h.1).now)
     have HBN:=hid (HBS.out.turn HRR.out HGG.out HNE.out hpu (hpok pr (List.mem_singleton.2 rfl)))
     clear HX5 hpr hpm hpok hpu HF HRX KN
     have FKA:=KA.facts
     simp only [zg] at FKA
     go_wp2_with (at_builtin;go_must (refine ZW KA 6 rfl Tryz.Q5 k5.out rfl (.tmp 82) (.tmp 90) rfl rfl rfl (Ga _) (by omega) (by omega) ?_);intro C' cap' w6 hc6 hm6 KB;rw [HPE.out] at KB;simp only [zl] at KB;(have FB:=KB.facts);simp only [zg] at FB)
     have KD:=KB.store 10 rfl 3 (.slice C' (nu+1) cap')
     have KZ:=(KD.Yy 9 rfl (Ju (KD.ro 9 rfl) (KD.ro 0 rfl))).drop (List.Sublist.cons _ (List.Sublist.cons _ (List.Sublist.cons _ (List.sublist_cons_self _ _))))
     clear KB KD FKA k5
     go_roundw
     case rel=>exact ⟨j+1,ni,ci,nu+1,cap',I,C',li,_,by omega,by first|rfl|go_num,by omega,by omega,HBN,KZ⟩
     case measure=>simp [intOf];omega
  ·obtain rfl:j=bm:=by omega
   have hd:decide ((j:Int)<(j:Int))=false:=by simp
   have HBJ:=hid (show b.rs.length≤j by rw [←HBR.out,List.length_map,HBL.out];exact Nat.le_refl _)
   clear hlt
   have F1:=H.facts
   simp only [zg] at F1
   go_wp2_with fail
   clear F1
   go_loopw [97] (fun iv wr=>∃ (k nd cd:Nat) (D:Option Addr) (ld:List Rw),k≤am∧iv=.int .i64 k∧nd≤k∧Hid (RSt a b j k li ld lu)∧Hold M none w wr [.own 124 2 (.slice I ni ci) ni (ZJ li),.own 124 2 (.slice D nd cd) nd (ZJ ld),.own 115 3 (.slice U nu cu) nu (ZZ lu),.ro (YT li),.ro (YT ld),.ro (YI lu),.blk g6 44 #[.string a.nm,.slice I ni ci,.slice D nd cd,.slice U nu cu],.blk g4 44 #[.string ⟨#[]⟩,.slice none 0 0,.slice none 0 0,.slice none 0 0],.cst g3 67 #[.string b.nm,.slice bA bn bc,.int .i64 b.nx,.slice bB j bd],.cst g2 67 #[.string a.nm,.slice aA an ac,.int .i64 a.nx,.slice aB am ad],.ro (ColsIn aA an a.cs),.ro (RwsIn aB am la),.ro (ColsIn bA bn b.cs),.ro (RwsIn bB j lb)]) (fun iv _=>am - (intOf iv).toNat)
   case atStart=>exact ⟨0,0,0,none,[],by omega,rfl,by omega,HBS,H⟩
   case round=>
    clear H HBS
    obtain ⟨k,nd,cd,D,ld,hk,rfl,hnd,HBS,H⟩:=hrel
    by_cases hlt:k<am
    ·have hd5:decide ((k:Int)<(am:Int))=true:=by simp;omega
     have k0:(0:Int)≤(k:Int):=by omega
     have k1:(k:Int)<(am:Int):=by omega
     obtain ⟨x,hx⟩:=Zq HAL.out hlt
     have HXX:=hid (show a.rs[k]? =some x.row by rw [←HAR.out,List.getElem?_map,hx];rfl)
     have HXO:=hid (HAO.out x (List.mem_of_getElem? hx))
     have hxn6:=HSA.out x (List.mem_of_getElem? hx)
     obtain ⟨bx,ox,rfl,hbx',x0,x1,_⟩:=(H.ro 11 rfl).now.at_ hx
     have hxx:Ro wr _ (VlsIn x.A x.n x.vs):=(H.ro 11 rfl).imp fun w2 h2=>h2.2 x (List.mem_of_getElem? hx)
     clear hx
     obtain ⟨xid,xA,xn,xc,xvs⟩:=x
     dsimp only at *
     have K1:=(H.add hxx).Za #[.int .i64 xid,.slice xA xn xc] 124
     clear H hxx
     obtain ⟨gx,hgx⟩:∃ g,g=wr.heap.size:=⟨_,rfl⟩
     rw [←hgx] at K1
     have F1:=K1.facts
     simp only [zg] at F1
     go_wp2_with fail
     rw [←hgx]
     have HGX2:=hid hgx
     clear hgx x0 x1
     have hg:=QK _ _ K1.Zb (.string b.nm) (.slice bA bn bc) (.int .i64 b.nx) bB j bd lb xid (K1.ro 15 rfl) (by omega) (fun r hr=>by have:=HSB.out r hr;omega)
     rw [HBR.out] at hg
     refine hg.mono ?_
     clear hg
     rintro e w6 ⟨Ag,ng,cg,rfl,-,-,-,-,bg⟩
     have K2:=K1.call bg
     clear K1 bg F1
     have F2:=K2.facts
     simp only [zg] at F2
     cases hgt:Zr b.rs xid with
     | none=>
      have HGG:=hid hgt
      simp only [Option.isSome_none]
      clear hgt
      obtain ⟨KL,hKL,KN⟩:=K2.name
      have HF:Hid (∀ wv,Hold M none w wv KL→(wv.cell? ⟨g6,2,none⟩=some (.slice D nd cd)∧g6<wv.heap.size)∧wv.cell? ⟨gx,0,none⟩=some (.int .i64 xid)∧wv.cell? ⟨gx,1,none⟩=some (.slice xA xn xc)∧gx<wv.heap.size):=hid fun wv HC=>by
       rw [hKL] at HC
       have y1:=HC.ZF 8 rfl
       have y2:=HC.ZB 0 rfl
       exact ⟨⟨cell_of_row _ _ 2 _ _ _ y1,Blk.lt y1⟩,cell_of_row _ _ 0 _ _ _ y2,cell_of_row _ _ 1 _ _ _ y2,Blk.lt y2⟩
      have HRX:Hid (∀ wv,Hold M none w wv KL→Ro wv (Mut M KL) (VlsIn xA xn xvs)):=hid fun wv HC=>by
       rw [hKL] at HC ⊢
       exact HC.ro 1 rfl
      have HKL:=hid hKL
      clear hKL K2
      go_wp2_with fail
      refine wp_region_any (by kernel_rfl) ?_
      refine Zp 5 119 (KL) (spL [(113,Yx (Mut M KL) xid xvs),(114,Yw (Mut M KL) xid xvs)]) (by kernel_rfl) (by kernel_rfl) (by kernel_rfl) rfl ?_ (KN.drew) ?_
      ·exact Ze Vz (Ze Vf (Zo _))
      simp only [zd,Act.put,List.getElem_toArray,List.getElem_cons_zero,List.getElem_cons_succ,zl]
      refine' dv rfl rfl rfl (fun wv HC=>?_) ?_;rotate_left
      · go_simp<;>rfl
      iterate 2
       simp only [Act.put,zl]
       refine' dv rfl rfl rfl (fun wv HC=>?_) ?_;rotate_left
       ·obtain ⟨⟨f0,f1⟩,f2,f3,f4⟩:=HF.out _ HC;go_simp<;>rfl
      simp only [Act.put,zl]
      refine Zm 113 (Yx (Mut M KL) xid xvs) (f:=127) (args:=#[.agg #[.int .i64 xid,.slice xA xn xc]]) rfl rfl rfl rfl (fun wv=>?_) (fun wv HC hrm hD=>?_) ?_
      ·go_simp<;>rfl
      ·refine (ZaU _ wv HC.Zb xid xA xn xc xvs (HRX.out _ HC) (by omega)).mono ?_
       rintro e w5 ⟨A5,n5,c5,rfl,h50,h51,h52,h53,b5⟩
       exact ⟨_,rfl,⟨A5,n5,c5,rfl,h50,h51,h52,h53⟩,HC.call b5,RM.below b5⟩
      rintro x_ wx HCx ⟨A5,n5,c5,rfl,-,-,-,-⟩
      clear HCx
      simp only [Act.put,zl]
      refine Ye #[.int .i64 xid,.slice A5 n5 c5] 124 114 (Yw (Mut M KL) xid xvs) (fun g=>.slice (some ⟨g,0,none⟩) 1 1) rfl rfl rfl rfl (fun wv=>?_) (fun wv HC _hrm hD hro=>?_) ?_
      ·go_simp<;>rfl
      ·have hsl:Yx (Mut M KL) xid xvs (.agg #[.int .i64 xid,.slice A5 n5 c5]) wv:=ZM hD 3 rfl (by kernel_rfl) rfl rfl
       obtain ⟨A6,n6,c6,e6,h1,h2,h3,h4⟩:=hsl
       obtain ⟨rfl,rfl,rfl⟩:A5=A6∧n5=n6∧c5=c6:=by
        injection e6 with e6
        simp at e6
        exact e6
       exact ⟨_,A5,n5,c5,rfl,h1,h2,h3,h4.step (by simp) (fun b hb _=>Below.heap_alloc wv _ b hb) (fun _ _ h=>h),ZL (hro _ HC.Zb) rfl⟩
      rintro gn wg HCg hsl
      simp only [Act.put,zl]
      clear hsl HCg
      refine Zj ?_
      rintro wx2 HX
      rintro _hrm HGW
      have hb2:Yw (Mut M KL) xid xvs (.slice (some ⟨gn,0,none⟩) 1 1) wx2:=(Zl (d:=114) rfl).1 (HGW 4 _ rfl (by omega))
      clear HGW _hrm
      obtain ⟨gq,A6,n6,c6,e6,k0_,k1_,k2_,k3_,k4_⟩:=hb2
      obtain rfl:gn=gq:=by injection e6 with e6;injection e6 with e6;injection e6
      clear e6
      rw [HKL.out] at HX k3_
      have k5:=hid k4_.now
      have HK0:=hid (And.intro k0_ (And.intro k1_ k2_))
      clear k4_ k0_ k1_ k2_ HF HRX KN
      have HRS:=hid (show ZJ ld++[.int .i64 xid,.slice A6 n6 c6]=ZJ (ld++[⟨xid,A6,n6,c6,xvs⟩]) from WH _ _ _ _ _ _)
      have KA:=HX.add k3_
      clear HX k3_
      have FKA:=KA.facts
      simp only [zg] at FKA
      go_wp2_with (at_builtin;go_must (refine ZW KA 4 rfl Tryz.WE k5.out rfl (.tmp 111) (.tmp 114) rfl rfl rfl (by intro z hz;simp at hz;rcases hz with rfl|rfl<;>rfl) (by omega) (by omega) ?_);intro C' cap' w6 hc6 hm6 KB;rw [HRS.out] at KB;simp only [zl] at KB;(have F3:=KB.facts);simp only [zg] at F3)
      have KD:=KB.store 9 rfl 2 (.slice C' (nd+1) cap')
      have KE:=(KD.Yy 7 rfl (Wl (r:=⟨xid,A6,n6,c6,xvs⟩) (KD.ro 7 rfl) (KD.ro 0 rfl))).drop (List.sublist_cons_self _ _)
      clear KB KD FKA k5
      have HBN:=hid (HBS.out.left HXX.out HGG.out (y:=⟨xid,A6,n6,c6,xvs⟩) rfl ⟨HXO.out.id,HK0.out.2.1,HK0.out.2.2,HXO.out.vs⟩)
      have KZ:=KE.drop (List.Sublist.cons _ (List.sublist_cons_self _ _))
      go_roundw
      case rel=>exact ⟨k+1,nd+1,cap',C',_,by omega,by first|rfl|go_num,by omega,HBN,KZ⟩
      case measure=>simp [intOf];omega
     | some v=>
      have HBN:=hid (HBS.out.keep HXX.out hgt)
      simp only [Option.isSome_some]
      clear hgt
      have KZ:=K2.drop (List.Sublist.cons _ (List.sublist_cons_self _ _))
      go_wp2_with fail
      go_roundw
      case rel=>exact ⟨k+1,nd,cd,D,ld,by omega,by first|rfl|go_num,by omega,HBN,KZ⟩
      case measure=>simp [intOf];omega
    ·obtain rfl:k=am:=by omega
     have hd5:decide ((k:Int)<(k:Int))=false:=by simp
     have HFIN:=hid (HBS.out.fin HBJ.out (by rw [←HAR.out,List.length_map,HAL.out];exact Nat.le_refl _))
     have F:=H.facts
     simp only [zg] at F
     obtain ⟨hi1,hi2,_⟩:=ZR (H.get 0 rfl)
     obtain ⟨hd1,hd2,_⟩:=ZR (H.get 1 rfl)
     obtain ⟨hu1,hu2,_⟩:=ZR (H.get 2 rfl)
     have KS:=H.Zu 0 rfl
     simp only [zl] at KS
     have KS2:=KS.Zu 1 rfl
     simp only [zl] at KS2
     have KS3:=KS2.Zu 2 rfl
     simp only [zl] at KS3
     have KN:=(((KS3.store 7 rfl 0 (.string a.nm)).store 7 rfl 1 (.slice I ni ci)).store 7 rfl 2 (.slice D nd cd)).store 7 rfl 3 (.slice U nu cu)
     have r1:=(KN.ZP 0 rfl).and (KN.ZP 3 rfl)
     have r2:=(KN.ZP 1 rfl).and (KN.ZP 4 rfl)
     have r3:=(KN.ZP 2 rfl).and (KN.ZP 5 rfl)
     have NK:=H.nes
     simp only [XG,neF,and_true,true_and] at NK
     clear KS KS2 KS3 H
     go_wp2_with fail
     exact bodyPost_ret (v:=.tuple #[.agg #[.string a.nm,.slice I ni ci,.slice D nd cd,.slice U nu cu],.bool true]) (by simp [results,Tryz.results70,go_sem,F,NK]) rfl ⟨_,by rw [HFIN.out],by rw [HFIN.out];exact ⟨I,ni,ci,D,nd,cd,U,nu,cu,li,ld,lu,rfl,⟨hi1,hi2⟩,⟨hd1,hd2⟩,⟨hu1,hu2⟩,r1,r2,r3,HBS.out.ok1,HBS.out.ok2,HBS.out.ok3,rfl,rfl,rfl⟩,KN.below⟩
def ZfP (w:World) (M:Nat→Prop) (E:Bool × List Dl) (e:Ending) (w' :World):Prop:=∃ (A:Option Addr) (n c:Nat) (l:List El),e=.returned (.tuple #[.slice A n c,.bool E.1])∧n≤c∧c≤9223372036854775807∧l.map El.dl=E.2∧(∀ x∈l,x.good 100 6)∧Ro w' M (JC A n l)∧Below w.heap.size w w'
def Ux (M:Nat→Prop) (T:Bool × Dl) (u:Value) (w:World):Prop:=∃ z:El,u=.tuple #[z.val,.bool T.1]∧z.dl=T.2∧z.good 100 6∧Ro w M (WS z)
theorem Zdp {M:Nat→Prop} {T:Bool × Dl} (u:Value) (w w' :World) (hr:RM M w w') (h:Ux M T u w):Ux M T u w' :=by
 obtain ⟨z,h1,h2,h3,h4⟩:=h
 exact ⟨z,h1,h2,h3,hr.ro h4⟩
theorem Qw (w:World) (M:Nat→Prop):Ro w M (JC none 0 []):=fun _ _ _=>⟨⟨rfl,fun h=>absurd h (Nat.lt_irrefl 0)⟩,fun x hx=>(nomatch hx)⟩
theorem Tryz.Zil:ElemT Tryz.prog 30 44 4 88 (.agg #[.string ⟨#[]⟩,.slice none 0 0,.slice none 0 0,.slice none 0 0]):=⟨Tryz.underlying30,by kernel_rfl,rfl,by omega⟩
set_option maxHeartbeats 16000000 in
set_option maxRecDepth 100000 in
theorem Ze9 (M:Nat→Prop) (w:World) (hM:∀ b,M b→b<w.heap.size) (A:Option Addr) (n c:Nat) (l:List Te) (B:Option Addr) (m d:Nat) (k:List Te) (hl:Ro w M (TesIn A n l)) (hk:Ro w M (TesIn B m k)) (hokl:∀ x∈l,x.ok∧TbM x.tb) (hokk:∀ x∈k,x.ok∧TbM x.tb) (hn:n≤1000) (hm:m≤1000):
  Calls Tryz.prog 25 #[.slice A n c,.slice B m d] w fun e w' =>ZfP w M (YO (l.map Te.tb) (k.map Te.tb)) e w' :=by
 have HOL:=hid hokl
 have HOK:=hid hokk
 have HLL:=hid hl.now.len
 have HLK:=hid hk.now.len
 have K0:=((Hold.start M w hM).add (hk.less (by simp [Mut]))).add (hl.less (by simp [Mut,Hp.foot]))
 obtain ⟨E,hE⟩:∃ E,E=YO (l.map Te.tb) (k.map Te.tb):=⟨_,rfl⟩
 rw [←hE]
 have HE:=hid hE
 clear hl hk hokl hokk hE
 go_enter Tryz.func25,Tryz.ntmps25
 go_wp2_with fail
 refine (Zbp _ _ K0.Zb A n c l (K0.ro 0 rfl) HOL.out (by omega)).mono ?_
 cases hv1:Y3 (l.map Te.tb) with
 | false=>
  have hz:E=(false,[]):=by rw [HE.out];exact ZdW hv1
  subst hz
  rintro e w1 ⟨rfl,b1⟩
  have HB:=hid (K0.call b1).below
  clear K0 b1 hv1 HE
  go_wp2_with fail
  (try simp only [Exit.inBlock,Exit.then])
  refine bodyPost_ret (results_tmp2 rfl _ _ _) rfl ?_
  exact ⟨none,0,0,[],rfl,by omega,by omega,rfl,fun x hx=>(nomatch hx),Qw _ _,HB.out⟩
 | true=>
  rintro e w1 ⟨rfl,b1⟩
  have K1:=K0.call b1
  clear K0 b1
  have HV1:=hid hv1
  clear hv1
  go_wp2_with fail
  refine (Zbp _ _ K1.Zb B m d k (K1.ro 1 rfl) HOK.out (by omega)).mono ?_
  cases hv2:Y3 (k.map Te.tb) with
  | false=>
   have hz:E=(false,[]):=by rw [HE.out];exact Zey hv2
   subst hz
   rintro e w2 ⟨rfl,b1⟩
   have HB:=hid (K1.call b1).below
   clear K1 b1 hv2 HE
   go_wp2_with fail
   (try simp only [Exit.inBlock,Exit.then])
   refine bodyPost_ret (results_tmp2 rfl _ _ _) rfl ?_
   exact ⟨none,0,0,[],rfl,by omega,by omega,rfl,fun x hx=>(nomatch hx),Qw _ _,HB.out⟩
  | true=>
   rintro e w2 ⟨rfl,b1⟩
   have K2:=K1.call b1
   clear K1 b1
   have HV2:=hid hv2
   clear hv2
   by_cases hnm:n=m
   ·subst hnm
    have hb:((n:Int) !=(n:Int))=false:=by simp
    have hb1:((n:Int)==(n:Int))=true:=by simp
    have hb2:decide ((n:Int)=(n:Int))=true:=by simp
    have K3:=(K2.add (ZgW _ _)).nil 44 4
    clear K2
    go_wp2_with fail
    go_loopw [4,5,6,27] (fun r4 r5 ov iv wr=>∃ (i q cap:Nat) (O:Option Addr) (outs:List El),i≤n∧q≤i∧r4=.slice none 0 0∧r5=.bool false∧iv=.int .i64 i∧ov=.slice O q cap∧Hid (XU (l.map Te.tb) (k.map Te.tb) i=true∧outs.map El.dl=Xe (l.map Te.tb) (k.map Te.tb) i∧∀ x∈outs,x.good 100 6)∧Hold M none w wr [.own 44 4 (.slice O q cap) q (Ww outs),.ro (Qs outs),.ro (TesIn A n l),.ro (TesIn B n k)]) (fun _ _ _ iv _=>n - (intOf iv).toNat)
    case atStart=>exact ⟨0,0,0,none,[],by omega,by omega,rfl,rfl,rfl,rfl,hid ⟨rfl,rfl,fun x hx=>(nomatch hx)⟩,K3⟩
    case round=>
     clear K3
     obtain ⟨i,q,cap,O,outs,hi,hq,rfl,rfl,rfl,rfl,HS,H⟩:=hrel
     by_cases hlt:i<n
     ·have hd:decide ((i:Int)<(n:Int))=true:=by simp;omega
      have i0:(0:Int)≤(i:Int):=by omega
      have i1:(i:Int)<(n:Int):=by omega
      obtain ⟨x,hx⟩:=Zq HLL.out hlt
      obtain ⟨y,hy⟩:=Zq HLK.out hlt
      have HX1:=hid hx
      have HY1:=hid hy
      have HXO:=hid (HOL.out x (List.mem_of_getElem? hx))
      have HYO:=hid (HOK.out y (List.mem_of_getElem? hy))
      obtain ⟨gA,oA,hA,-,-,-,-,-,-⟩:=(H.ro 2 rfl).now.at_ hx
      obtain ⟨gB,oB,hB,-,-,-,-,-,-⟩:=(H.ro 3 rfl).now.at_ hy
      subst hA hB
      clear hx hy
      obtain ⟨T,hT⟩:∃ T,T=ZO x.tb y.tb:=⟨_,rfl⟩
      have HT:=hid hT
      have HTS:=hid (show T.2.ins.length≤100∧T.2.del.length≤100∧T.2.upd.length≤100∧(∀ r∈T.2.ins,r.2.length≤6)∧(∀ r∈T.2.del,r.2.length≤6)∧∀ u∈T.2.upd,u.2.1.length≤6∧u.2.2.length≤6 by
       rw [hT]
       exact ZdO (ZaM HV1.out _ (List.mem_map_of_mem (List.mem_of_getElem? HX1.out))) (ZaM HV2.out _ (List.mem_map_of_mem (List.mem_of_getElem? HY1.out))))
      clear hT
      go_wp2_with fail
      obtain ⟨KL,hKL,KN⟩:=H.name
      have HF:Hid (∀ wv,Hold M none w wv KL→(wv.cell? ⟨gA,oA+i * 4,none⟩=some (.string x.nm)∧wv.cell? ⟨gA,oA+i * 4+1,none⟩=some (.slice x.A x.n x.c)∧wv.cell? ⟨gA,oA+i * 4+2,none⟩=some (.int .i64 x.nx)∧wv.cell? ⟨gA,oA+i * 4+3,none⟩=some (.slice x.B x.m x.d)∧gA<wv.heap.size)∧wv.cell? ⟨gB,oB+i * 4,none⟩=some (.string y.nm)∧wv.cell? ⟨gB,oB+i * 4+1,none⟩=some (.slice y.A y.n y.c)∧wv.cell? ⟨gB,oB+i * 4+2,none⟩=some (.int .i64 y.nx)∧wv.cell? ⟨gB,oB+i * 4+3,none⟩=some (.slice y.B y.m y.d)∧gB<wv.heap.size):=hid fun wv HC=>by
       rw [hKL] at HC
       obtain ⟨b1,o1,e,hb1,d0,d1,d2,d3,-⟩:=(HC.ro 2 rfl).now.at_ HX1.out
       injection e with e
       injection e with e1 e2
       subst e1 e2
       obtain ⟨b1,o1,e,hb2,c0,c1,c2,c3,-⟩:=(HC.ro 3 rfl).now.at_ HY1.out
       injection e with e
       injection e with e1 e2
       subst e1 e2
       exact ⟨⟨d0,d1,d2,d3,hb1⟩,c0,c1,c2,c3,hb2⟩
      have HX:Hid (∀ wv,Hold M none w wv KL→Ro wv (Mut M KL) (YV x)∧Ro wv (Mut M KL) (YV y)):=hid fun wv HC=>by
       rw [hKL] at HC ⊢
       exact ⟨(HC.ro 2 rfl).imp fun w2 h2=>h2.2 x (List.mem_of_getElem? HX1.out),(HC.ro 3 rfl).imp fun w2 h2=>h2.2 y (List.mem_of_getElem? HY1.out)⟩
      have HKL:=hid hKL
      clear hKL H
      obtain ⟨Hb,hHb⟩:∃ Hb,Hb=wr.drew.heap.size:=⟨_,rfl⟩
      have HHb:=hid hHb
      clear hHb
      refine wp_region_any (by kernel_rfl) ?_
      refine Jb [11] 13 53 (KL) (spL [(39,Ux (Mut M KL) T),(8,Z6 (Mut M KL) Hb 44 #[.string ⟨#[]⟩,.slice none 0 0,.slice none 0 0,.slice none 0 0])]) (by kernel_rfl) (fun _ d _ _ _ h=>by cases d<;>exact h) (by kernel_rfl) (by kernel_rfl) rfl ?_ (KN.drew) ?_
      ·exact Ze Zdp (Ze XY (Zo _))
      simp only [zd,Act.put,List.getElem_toArray,List.getElem_cons_zero,List.getElem_cons_succ,zl]
      repeat (first|(refine dw_skip rfl rfl rfl ?_;simp only [Act.put,zl])|(refine' dv rfl rfl rfl (fun wv HC=>?_) ?_;rotate_left;(focus (obtain ⟨⟨f0,f1,f2,f3,f4⟩,q0,q1,q2,q3,q4⟩:=HF.out _ HC;go_simp<;>rfl;done));simp only [Act.put,zl]))
      refine Zm 39 (Ux (Mut M KL) T) (f:=70) (args:=#[.agg #[.string x.nm,.slice x.A x.n x.c,.int .i64 x.nx,.slice x.B x.m x.d],.agg #[.string y.nm,.slice y.A y.n y.c,.int .i64 y.nx,.slice y.B y.m y.d]]) rfl rfl rfl rfl (fun wv=>?_) (fun wv HC hrm hD=>?_) ?_
      ·go_simp<;>rfl
      ·obtain ⟨x1,x2⟩:=HX.out _ HC
       have hk:=ZhH _ wv HC.Zb _ _ x.tb y.tb (Ja HXO.out.1 x1) (Ja HYO.out.1 x2) HXO.out.2.nm HXO.out.2.cs HXO.out.2.rs HYO.out.2.nm HYO.out.2.cs HYO.out.2.rs
       rw [←HT.out] at hk
       refine hk.mono ?_
       rintro e w5 ⟨v5,rfl,hd5,b5⟩
       obtain ⟨z,rfl,hz,hzg,rz⟩:=Zhx hd5 HTS.out.1 HTS.out.2.1 HTS.out.2.2.1 HTS.out.2.2.2.1 HTS.out.2.2.2.2.1 HTS.out.2.2.2.2.2
       exact ⟨_,rfl,⟨z,rfl,hz,hzg,rz⟩,HC.call b5,RM.below b5⟩
      rintro u_ wx HCx ⟨z,rfl,-,-,-⟩
      clear HCx
      have hzv:z.val=.agg #[.string z.nm,.slice z.I z.ni z.ci,.slice z.D z.nd z.cd,.slice z.U z.nu z.cu]:=rfl
      rw [hzv]
      clear hzv
      simp only [Act.put,zl]
      repeat (first|(refine dw_skip rfl rfl rfl ?_;simp only [Act.put,zl])|(refine' dv rfl rfl rfl (fun wv HC=>?_) ?_;rotate_left;(focus (go_simp<;>rfl;done));simp only [Act.put,zl]))
      refine Ye #[.string ⟨#[]⟩,.slice none 0 0,.slice none 0 0,.slice none 0 0] 44 8 (Z6 (Mut M KL) Hb 44 #[.string ⟨#[]⟩,.slice none 0 0,.slice none 0 0,.slice none 0 0]) (fun g=>.pointer (some ⟨g,0,none⟩)) rfl rfl rfl rfl (fun wv=>?_) (fun wv HC hrm hD hro=>?_) ?_
      ·go_simp<;>rfl
      ·exact ⟨_,rfl,by have:=hrm.1;rw [HHb.out];exact this,hro _ HC.Zb⟩
      rintro gb wg HCg hsl
      simp only [Act.put,zl]
      clear hsl HCg
      refine Zj ?_
      rintro wxb HY
      rintro _hrm HGW
      have hap:Ux (Mut M KL) T (.tuple #[.agg #[.string z.nm,.slice z.I z.ni z.ci,.slice z.D z.nd z.cd,.slice z.U z.nu z.cu],.bool T.1]) wxb:=(Zl (d:=39) rfl).1 (HGW 8 _ rfl (by omega))
      have hns:Z6 (Mut M KL) Hb 44 #[.string ⟨#[]⟩,.slice none 0 0,.slice none 0 0,.slice none 0 0] (.pointer (some ⟨gb,0,none⟩)) wxb:=(Zl (d:=8) rfl).1 (HGW 12 _ rfl (by omega))
      clear HGW
      obtain ⟨g7,hg7,hgH,hgB⟩:=hns
      obtain rfl:gb=g7:=by injection hg7 with hg7;injection hg7 with hg7;injection hg7
      clear hg7
      rw [HHb.out] at hgH
      have HB:=Hold.We KN.drew HY _hrm hgH hgB.now
      have hgn:=hgB.now
      obtain ⟨z2,e2,hz,hzg,rz⟩:=hap
      have ev:Value.agg #[.string z.nm,.slice z.I z.ni z.ci,.slice z.D z.nd z.cd,.slice z.U z.nu z.cu]=.agg #[.string z2.nm,.slice z2.I z2.ni z2.ci,.slice z2.D z2.nd z2.cd,.slice z2.U z2.nu z2.cu]:=by
       have h:=e2
       simp only [El.val,Value.tuple.injEq,Array.mk.injEq,List.cons.injEq,and_true] at h
       exact h
      rw [ev]
      clear ev e2
      have HZ:=hid (And.intro hz hzg)
      have K4:=HB.add ((Zfd rz hgn Zfj).less fun b hb=>(ZI.1 hb).elim (fun hf=>Or.inl (by have hf:some gb=some b:=hf;injection hf with hf;exact hf.symm)) Or.inr)
      clear rz hz hzg hgn hgB hgH HY _hrm HHb KN HF HX HB z
      rw [HKL.out] at K4
      clear HKL
      clear KL
      have FB:=K4.facts
      simp only [zg] at FB
      have K5:=((((K4.store 1 rfl 0 (.string z2.nm)).store 1 rfl 1 (.slice z2.I z2.ni z2.ci)).store 1 rfl 2 (.slice z2.D z2.nd z2.cd)).store 1 rfl 3 (.slice z2.U z2.nu z2.cu)).Zcb 1 rfl
      simp only [zl] at K5
      cases hT1:T.1 with
      | false=>
       have hz:E=(false,[]):=by rw [HE.out];exact Zek (Xg HX1.out) (Xg HY1.out) (by rw [←HT.out];exact hT1)
       subst hz
       have HB:=hid K5.below
       clear HE hT1
       go_wp2_with fail
       (try simp only [Exit.inBlock,Exit.then])
       refine bodyPost_ret (results_tmp2 rfl _ _ _) rfl ?_
       exact ⟨none,0,0,[],rfl,by omega,by omega,rfl,fun x hx=>(nomatch hx),Qw _ _,HB.out⟩
      | true=>
       have HOKN:=hid (Zgn (Xg HX1.out) (Xg HY1.out) HS.out.1 (by rw [←HT.out];exact hT1))
       have HEM:=hid (show VX (ZO x.tb y.tb).2=decide (z2.ni=0∧z2.nd=0∧z2.nu=0) by rw [←HT.out,←HZ.out.1];exact Zhc (K5.ro 0 rfl).now)
       clear hT1
       go_wp2_with fail
       clear FB K4
       generalize World.setCell _ _ _=w7 at K5 ⊢
       refine (ZhT w7 z2.nm z2.I z2.ni z2.ci z2.D z2.nd z2.cd z2.U z2.nu z2.cu (by have:=HZ.out.2.i;omega) (by have:=HZ.out.2.d;omega) (by have:=HZ.out.2.u;omega)).mono ?_
       cases hEm:decide (z2.ni=0∧z2.nd=0∧z2.nu=0) with
       | true=>
        rintro e w8 ⟨rfl,b8⟩
        have K6:=(K5.call b8).drop (.cons _ (List.sublist_cons_self _ _))
        have HA2:=hid (show outs.map El.dl=Xe (l.map Te.tb) (k.map Te.tb) (i+1) by rw [ZaJ (Xg HX1.out) (Xg HY1.out),HEM.out,hEm,if_pos rfl,List.append_nil];exact HS.out.2.1)
        clear K5 b8 hEm
        go_wp2_with fail
        go_roundw
        case rel=>exact ⟨i+1,q,cap,O,outs,by omega,by omega,rfl,rfl,by first|rfl|go_num,rfl,hid ⟨HOKN.out,HA2.out,HS.out.2.2⟩,K6⟩
        case measure=>simp [intOf]<;>omega
       | false=>
        rintro e w8 ⟨rfl,b8⟩
        have K6:=K5.call b8
        have HA2:=hid (show (outs++[z2]).map El.dl=Xe (l.map Te.tb) (k.map Te.tb) (i+1) by rw [ZaJ (Xg HX1.out) (Xg HY1.out),HEM.out,hEm,if_neg (by simp),List.map_append,HS.out.2.1,←HT.out,←HZ.out.1];rfl)
        clear K5 b8 hEm
        have FB:=K6.facts
        simp only [zg] at FB
        have e9:Ww outs++(#[.string z2.nm,.slice z2.I z2.ni z2.ci,.slice z2.D z2.nd z2.cd,.slice z2.U z2.nu z2.cu]).toList=Ww (outs++[z2]):=(ZgZ outs z2).symm
        have HE9:=hid e9
        clear e9
        go_wp2_with (at_builtin;go_must (refine ZH K6 2 rfl Tryz.Zil #[.string z2.nm,.slice z2.I z2.ni z2.ci,.slice z2.D z2.nd z2.cd,.slice z2.U z2.nu z2.cu] rfl (.tmp 47) (.tmp 49) rfl rfl _ (by first|rfl|simp) rfl rfl (by intro u hu;simp at hu;rcases hu with rfl|rfl|rfl|rfl<;>rfl) (by omega) (by omega) ?_);intro g9 cap9 w9 hc9 hm9 KB;rw [HE9.out] at KB;simp only [zl] at KB)
        have KC0:=KB.Yy 3 rfl (Zgl (r:=z2) (KB.ro 3 rfl) (KB.ro 0 rfl))
        simp only [zl] at KC0
        have KC:=KC0.drop (.cons _ (List.sublist_cons_self _ _))
        go_roundw
        case rel=>exact ⟨i+1,q+1,cap9,_,outs++[z2],by omega,by omega,rfl,rfl,by first|rfl|go_num,rfl,hid ⟨HOKN.out,HA2.out,fun x hx=>by
         rcases List.mem_append.1 hx with hx|hx
         ·exact HS.out.2.2 x hx
         ·simp at hx;subst hx;exact HZ.out.2⟩,KC⟩
        case measure=>simp [intOf]<;>omega
     ·obtain rfl:i=n:=by omega
      have hd:decide ((i:Int)<(i:Int))=false:=by simp
      have hz:E=(true,Xe (l.map Te.tb) (k.map Te.tb) i):=by rw [HE.out];exact ZhC (by rw [List.length_map];exact HLL.out) HV1.out HV2.out (by rw [List.length_map,List.length_map,HLL.out,HLK.out]) HS.out.1
      subst hz
      have hcap:=ZR (H.get 0 rfl)
      have KS:=H.Zu 0 rfl
      simp only [List.set_cons_zero] at KS
      have r1:=(KS.ZP 0 rfl).and (KS.ZP 1 rfl)
      have HG:=hid KS.below
      clear H HE KS
      go_wp2_with fail
      (try simp only [Exit.inBlock,Exit.then])
      refine bodyPost_ret (results_tmp2 rfl _ _ _) rfl ?_
      exact ⟨O,q,cap,outs,rfl,hcap.1,hcap.2.1,HS.out.2.1,HS.out.2.2,r1,HG.out⟩
   ·have hb:((n:Int) !=(m:Int))=true:=by simp;omega
    have hb1:((n:Int)==(m:Int))=false:=by rw [beq_eq_false_iff_ne];omega
    have hb2:decide ((n:Int)=(m:Int))=false:=by rw [decide_eq_false_iff_not];omega
    have hz:E=(false,[]):=by rw [HE.out];exact ZdP (by rw [List.length_map,List.length_map,HLL.out,HLK.out];exact hnm)
    subst hz
    have HB:=hid K2.below
    clear K2 HE hnm
    go_wp2_with fail
    (try simp only [Exit.inBlock,Exit.then])
    refine bodyPost_ret (results_tmp2 rfl _ _ _) rfl ?_
    exact ⟨none,0,0,[],rfl,by omega,by omega,rfl,fun x hx=>(nomatch hx),Qw _ _,HB.out⟩
def Ap3 (M:Nat→Prop) (t:Tb) (u:Value) (w:World):Prop:=∃ (ins:List (List Vl)) (dels:List Int) (us:List Upd),QP M (YR t.nm t.cs t.nx t.rs ins dels us) u w∧ins.length≤3
theorem Za2 {M:Nat→Prop} {t:Tb} (u:Value) (w w' :World) (hr:RM M w w') (h:Ap3 M t u w):Ap3 M t u w' :=by
 obtain ⟨i,d,s,h1,h2⟩:=h
 exact ⟨i,d,s,ZeG _ _ _ hr h1,h2⟩
theorem ZgT {α:Type} (a b:List α) (i:Nat) (v:α):(a++b).set (a.length+i) v=a++b.set i v:=by
 rw [List.set_append_right _ _ (by omega)];congr 2;omega
theorem ZaY:∀ {l:List Te} {k:Nat} {x:Te} (y:Te),l[k]? =some x→((((ZK l).set (k * 4) (.string y.nm)).set (k * 4+1) (.slice y.A y.n y.c)).set (k * 4+2) (.int .i64 y.nx)).set (k * 4+3) (.slice y.B y.m y.d)=ZK (l.set k y)
 | [],k,x,y,h=>by simp at h
 | z::l,0,x,y,h=>by simp [ZK,Te.cells]
 | z::l,k+1,x,y,h=>by
  have ih:=ZaY (l:=l) (k:=k) (x:=x) y (by simpa using h)
  have e:ZK (z::l)=z.cells++ZK l:=by simp [ZK]
  have hl:z.cells.length=4:=rfl
  have c:∀ (b:List Value) (j:Nat) (v:Value),(z.cells++b).set ((k+1) * 4+j) v=z.cells++b.set (k * 4+j) v:=fun b j v=>by
   rw [show (k+1) * 4+j=z.cells.length+(k * 4+j) by rw [hl];omega];exact ZgT _ _ _ _
  have c0:∀ (b:List Value) (v:Value),(z.cells++b).set ((k+1) * 4) v=z.cells++b.set (k * 4) v:=fun b v=>c b 0 v
  rw [e,c0,c,c,c,ih]
  simp [ZK]
theorem Zg8 {M:Nat→Prop} {w:World} {l:List Te} {k:Nat} {y:Te} (h:Ro w M (WV l)) (hy:Ro w M (YV y)):Ro w M (WV (l.set k y)):=fun w2 h1 h2 x hx=>by
 rcases List.mem_or_eq_of_mem_set hx with hx|rfl
 ·exact h w2 h1 h2 x hx
 ·exact hy w2 h1 h2
def UM (M:Nat→Prop) (u:Value) (w:World):Prop:=∃ (ins:List (List Vl)) (dels:List Int) (us:List Upd),V4 M ins dels us u w∧ins.length≤3∧dels.length≤2000∧us.length≤2000
theorem Zdd {M:Nat→Prop} (u:Value) (w w' :World) (hr:RM M w w') (h:UM M u w):UM M u w' :=by
 obtain ⟨i,d,s,h1,h2⟩:=h
 exact ⟨i,d,s,ZfT _ _ _ hr h1,h2⟩
def Zes (w:World) (T:Nat) (M:Nat→Prop) (e:Ending) (w' :World):Prop:=∃ (A:Option Addr) (c:Nat) (l:List Te) (D:Option Addr) (n d:Nat) (dl:List De),e=.returned (.tuple #[.slice A 3 c,.slice D n d])∧(3≤c∧c≤9223372036854775807)∧(n≤d∧d≤9223372036854775807)∧(∀ x∈l,x.ok)∧StOk (l.map Te.tb)∧DifOk dl∧Ro w' M (TesIn A 3 l)∧Ro w' M (DesIn D n dl)∧Tp w' T∧w.grownBy w' (some T)
structure MidOk (k:List Te):Prop where
 len:k.length=3
 ok:∀ x∈k,x.ok
 st:StOk (k.map Te.tb)
theorem MidOk.set {k:List Te} (h:MidOk k) {j:Nat} {x y:Te} (hx:k[j]? =some x) (hy:y.ok) (hn:y.tb.nm=x.tb.nm) (hc:y.tb.cs=x.tb.cs) (hv:VTab y.tb):MidOk (k.set j y):=
 ⟨by rw [List.length_set,h.len],fun z hz=>(List.mem_or_eq_of_mem_set hz).elim (fun hz=>h.ok z hz) (fun e=>e ▸ hy),by rw [List.map_set];exact h.st.set (Xg hx) hn hc hv⟩
set_option maxHeartbeats 16000000 in
set_option maxRecDepth 100000 in
theorem Zct (M:Nat→Prop) (T:Nat) (w:World) (hM:∀ b,M b→b<w.heap.size) (ht:Tp w T) (hMT:∀ b,M b→T≤b) (hW:Ro w (Mut M [.tp T]) Wds) (hw:1<T):Calls Tryz.prog 10 #[.pointer (some ⟨T,0,none⟩)] w fun e w' =>Zes w T M e w' :=by
 have K0:=(Hold.Y5 M w T hM ht hMT).add hW
 clear hW
 go_enter Tryz.func10,Tryz.ntmps10
 go_wp2_with fail
 refine (ZeY (Mut M _) T _ K0.Zb (K0.tp_ 1 rfl) (K0.get 1 rfl).2 5 (by omega) ((K0.ro 0 rfl).less (YS (i:=1) rfl)) hw).mono ?_
 rintro e w1 ⟨A,c,l,rfl,hc1,hc2,hS,rT,t1,g1⟩
 have HS:=hid hS
 have HC12:=hid (And.intro hc1 hc2)
 have K1:=(Hold.Zf K0 1 rfl g1 t1).add rT
 clear K0 t1 g1 rT hS
 have K2:=K1.GZ #[] 67 4 0 (by unfold maxLen;omega) rfl
 have hr:=hid (show SlR 4 A 3 (ZK l) _ from (K2.ro 1 rfl).now.1)
 clear K1
 go_wp2_with (at_builtin;go_must (refine ZW K2 0 rfl Tryz.WF hr.out rfl (.tmp 13) (.tmp 14) rfl rfl rfl (Jo l) (by omega) (by omega) ?_);intro C' cap' w2 hcc hmm K3;simp only [Nat.zero_add,List.nil_append,List.set_cons_zero] at K3)
 obtain ⟨g,rfl⟩:∃ g,C' =some ⟨g,0,none⟩:=by
  rcases U5 (K3.get 0 rfl) with ⟨-,h0,-⟩|⟨g,h,-⟩
  ·omega
  ·exact ⟨g,h⟩
 have K4:=(K3.add (S:=WV l) ((K3.ro 1 rfl).imp fun w2 h2=>h2.2)).pick [1,0,2,3,4] (by decide) rfl
 simp only [List.filterMap_cons,List.filterMap_nil,List.getElem?_cons_zero,List.getElem?_cons_succ] at K4
 clear K2 K3 hr
 go_wp2_with fail
 go_loopw [18] (fun iv wr=>∃ (j:Nat) (k:List Te),j≤3∧iv=.int .i64 j∧Hid (MidOk k)∧Hold M (some T) w wr [.own 67 4 (.slice (some ⟨g,0,none⟩) 3 cap') 3 (ZK k),.ro (WV k),.ro (TesIn A 3 l),.ro Wds,.tp T]) (fun iv _=>3 - (intOf iv).toNat)
 case atStart=>exact ⟨0,l,by omega,rfl,hid ⟨HS.out.len,fun x hx=>(HS.out.ok x hx).1,HS.out.st⟩,K4⟩
 case round=>
  clear K4
  obtain ⟨k,q,hk,rfl,HM,K3⟩:=hrel
  by_cases hlt:k<3
  ·have hd:decide ((k:Int)<3)=true:=by simp;omega
   have k0:(0:Int)≤(k:Int):=by omega
   have k1:(k:Int)<3:=by omega
   obtain ⟨x,hx⟩:=Zq HM.out.len hlt
   have HXK:=hid hx
   have HXO:=hid (HM.out.ok x (List.mem_of_getElem? hx))
   have HXV:=hid (HM.out.st.at_ k x.tb (Xg hx)).2.2
   clear hx
   go_upto_region 6 with fail
   obtain ⟨KL,hKL,KN⟩:=K3.name
   have HF:Hid (∀ wv,Hold M (some T) w wv KL→wv.cell? ⟨g,k * 4,none⟩=some (.string x.nm)∧wv.cell? ⟨g,k * 4+1,none⟩=some (.slice x.A x.n x.c)∧wv.cell? ⟨g,k * 4+2,none⟩=some (.int .i64 x.nx)∧wv.cell? ⟨g,k * 4+3,none⟩=some (.slice x.B x.m x.d)∧g<wv.heap.size):=hid fun wv HC=>by
    rw [hKL] at HC
    have ho:=HC.get 0 rfl
    exact ⟨(ho.cellAt _ (by omega)).trans (flat_get Te.cells 4 (fun _=>rfl) q k 0 x (by omega) HXK.out),(ho.cellAt _ (by omega)).trans (flat_get Te.cells 4 (fun _=>rfl) q k 1 x (by omega) HXK.out),(ho.cellAt _ (by omega)).trans (flat_get Te.cells 4 (fun _=>rfl) q k 2 x (by omega) HXK.out),(ho.cellAt _ (by omega)).trans (flat_get Te.cells 4 (fun _=>rfl) q k 3 x (by omega) HXK.out),(ho.lt g rfl).2⟩
   have HX:Hid (∀ wv,Hold M (some T) w wv KL→Y2 wv (Mut M KL) (.agg #[.string x.nm,.slice x.A x.n x.c,.int .i64 x.nx,.slice x.B x.m x.d]) x.tb∧Tp wv T∧(∀ b,Mut M KL b→T≤b)∧Ro wv (Mut M KL) Wds):=hid fun wv HC=>by
    rw [hKL] at HC ⊢
    exact ⟨Ja HXO.out ((HC.ro 1 rfl).imp fun w2 h2=>h2 x (List.mem_of_getElem? HXK.out)),HC.tp_ 4 rfl,(HC.get 4 rfl).2,HC.ro 3 rfl⟩
   have HTP:=hid (show KL[4]? =some (.tp T) by rw [hKL];rfl)
   have HKL:=hid hKL
   clear hKL K3
   obtain ⟨Hb,hHb⟩:∃ Hb,Hb=wr.drew.heap.size:=⟨_,rfl⟩
   have HHb:=hid hHb
   clear hHb
   refine wp_region_any (by kernel_rfl) ?_
   refine Jb [13] 15 50 (KL) (spL [(31,UM (Mut M KL)),(32,Ap3 (Mut M KL) x.tb),(21,Ap3 (Mut M KL) x.tb),(7,Z6 (Mut M KL) Hb 67 #[.string ⟨#[]⟩,.slice none 0 0,.int .i64 0,.slice none 0 0])]) (by kernel_rfl) (fun _ d _ _ _ h=>by cases d<;>exact h) (by kernel_rfl) (by kernel_rfl) rfl ?_ (KN.drew) ?_
   ·exact Ze Zdd (Ze Za2 (Ze Za2 (Ze XY (Zo _))))
   simp only [zd,Act.put,List.getElem_toArray,List.getElem_cons_zero,List.getElem_cons_succ,zl]
   repeat (first|(refine dw_skip rfl rfl rfl ?_;simp only [Act.put,zl])|(refine' dv rfl rfl rfl (fun wv HC=>?_) ?_;rotate_left;(focus (obtain ⟨f0,f1,f2,f3,f4⟩:=HF.out _ HC;go_simp<;>rfl;done));simp only [Act.put,zl]))
   refine Zm 31 (UM (Mut M KL)) (f:=24) (args:=#[.pointer (some ⟨T,0,none⟩),.agg #[.string x.nm,.slice x.A x.n x.c,.int .i64 x.nx,.slice x.B x.m x.d]]) rfl rfl rfl rfl (fun wv=>?_) (fun wv HC hrm hD=>?_) ?_
   ·go_simp<;>rfl
   ·refine (Zgz (Mut M KL) T wv HC.Zb (HX.out _ HC).2.1 (HX.out _ HC).2.2.1 _ x.tb (ZeO (HX.out _ HC).1 (YS (i:=4) HTP.out)) HXV.out ((HX.out _ HC).2.2.2.less (YS (i:=4) HTP.out)) hw).mono ?_
    rintro e w5 ⟨v5,i5,d5,u5,rfl,hc5,hb1,hb2,hb3,t5,g5'⟩
    have hvr:=HXV.out.rows
    exact ⟨_,rfl,⟨i5,d5,u5,hc5,hb1,by omega,by omega⟩,Hold.Zf HC 4 HTP.out g5' t5,RM.grown g5' (.inr ⟨_,List.mem_of_getElem? (i:=4) HTP.out,rfl⟩)⟩
   rintro s34 wx HCx hs34
   clear HCx hs34
   simp only [Act.put,zl]
   refine Zm 32 (Ap3 (Mut M KL) x.tb) (f:=23) (args:=#[.agg #[.string x.nm,.slice x.A x.n x.c,.int .i64 x.nx,.slice x.B x.m x.d],s34]) rfl rfl rfl rfl (fun wv=>?_) (fun wv HC hrm hD=>?_) ?_
   ·go_simp<;>rfl
   ·have hsl:UM (Mut M KL) s34 wv:=ZM hD 9 rfl (by kernel_rfl) rfl rfl
    obtain ⟨i5,d5,u5,h5,hb1,hb2,hb3⟩:=hsl
    have hvr:=HXV.out.rows
    refine (Zhq _ wv HC.Zb _ _ x.tb i5 d5 u5 (HX.out _ HC).1 h5 HXV.out.sch.nm HXV.out.sch.cs (by omega) (fun r hr=>by have:=HXV.out.len r hr;omega) (by omega) (by omega) (by omega)).mono ?_
    rintro e w6 ⟨u6,rfl,hv6,b6⟩
    exact ⟨_,rfl,⟨i5,d5,u5,hv6,hb1⟩,HC.call b6,RM.below b6⟩
   rintro u_ wx HCx ⟨i5,d5,u5,⟨v5,rfl,hv5⟩,hb1⟩
   obtain ⟨y,rfl,-,-,-⟩:=UR hv5
   obtain ⟨e5,he5⟩:∃ e5,e5=(YR x.tb.nm x.tb.cs x.tb.nx x.tb.rs i5 d5 u5).1:=⟨_,rfl⟩
   rw [←he5]
   clear HCx hv5 he5 hb1 i5 d5 u5
   have hyv:y.val=.agg #[.string y.nm,.slice y.A y.n y.c,.int .i64 y.nx,.slice y.B y.m y.d]:=rfl
   rw [hyv]
   clear hyv
   simp only [Act.put,zl]
   refine WA 21 (Ap3 (Mut M KL) x.tb) rfl rfl rfl rfl (.tuple #[.agg #[.string y.nm,.slice y.A y.n y.c,.int .i64 y.nx,.slice y.B y.m y.d],.int .i64 e5]) (fun wv HC=>?_) (fun wv HC hD=>?_) ?_
   ·go_simp<;>rfl
   ·exact ZM hD 10 rfl (by kernel_rfl) rfl rfl
   iterate 2
    simp only [Act.put,zl]
    refine' dv rfl rfl rfl (fun wv HC=>?_) ?_;rotate_left
    · go_simp<;>rfl
   simp only [Act.put,zl]
   refine Ye #[.string ⟨#[]⟩,.slice none 0 0,.int .i64 0,.slice none 0 0] 67 7 (Z6 (Mut M KL) Hb 67 #[.string ⟨#[]⟩,.slice none 0 0,.int .i64 0,.slice none 0 0]) (fun g=>.pointer (some ⟨g,0,none⟩)) rfl rfl rfl rfl (fun wv=>?_) (fun wv HC hrm hD hro=>?_) ?_
   ·go_simp<;>rfl
   ·exact ⟨_,rfl,by have:=hrm.1;rw [HHb.out];exact this,hro _ HC.Zb⟩
   rintro gb wg HCg hsl
   simp only [Act.put,zl]
   clear hsl HCg
   refine Zj ?_
   rintro wxb HY
   rintro _hrm HGW
   have hap:Ap3 (Mut M KL) x.tb (.tuple #[.agg #[.string y.nm,.slice y.A y.n y.c,.int .i64 y.nx,.slice y.B y.m y.d],.int .i64 e5]) wxb:=(Zl (d:=21) rfl).1 (HGW 11 _ rfl (by omega))
   have hns:Z6 (Mut M KL) Hb 67 #[.string ⟨#[]⟩,.slice none 0 0,.int .i64 0,.slice none 0 0] (.pointer (some ⟨gb,0,none⟩)) wxb:=(Zl (d:=7) rfl).1 (HGW 14 _ rfl (by omega))
   clear HGW
   obtain ⟨g7,hg7,hgH,hgB⟩:=hns
   obtain rfl:gb=g7:=by injection hg7 with hg7;injection hg7 with hg7;injection hg7
   clear hg7
   rw [HHb.out] at hgH
   have HB:=Hold.We KN.drew HY _hrm hgH hgB.now
   have hgn:=hgB.now
   obtain ⟨i6,d6,u6,⟨v6,hv6,TT⟩,hi6⟩:=hap
   obtain ⟨E6,hE6⟩:∃ E6:Int × Tb,E6=YR x.tb.nm x.tb.cs x.tb.nx x.tb.rs i6 d6 u6:=⟨_,rfl⟩
   rw [←hE6] at hv6 TT
   obtain ⟨e6,T6⟩:=E6
   dsimp only at hv6 TT
   obtain ⟨rfl,rfl⟩:_=v6∧e5=e6:=by injection hv6 with hv6;simpa using hv6
   clear hv6
   obtain ⟨y2,ev,rfl,hyo,ry⟩:=UR TT
   have ev:Value.agg #[.string y.nm,.slice y.A y.n y.c,.int .i64 y.nx,.slice y.B y.m y.d]=.agg #[.string y2.nm,.slice y2.A y2.n y2.c,.int .i64 y2.nx,.slice y2.B y2.m y2.d]:=ev
   rw [ev]
   clear ev TT hgH HY _hrm HHb KN HF HX hgB
   by_cases h0:e5=0
   ·subst h0
    have hap:=ZcC hE6.symm
    have HY2:=hid (show y2.ok∧VTab y2.tb∧zT x.tb y2.tb from ⟨hyo,hap.Zik HXV.out,hap.later⟩)
    have HM2:=hid (HM.out.set HXK.out HY2.out.1 HY2.out.2.2.1 HY2.out.2.2.2.1 HY2.out.2.1)
    clear hap hE6 hyo
    have K3:=HB.add ((ZfX ry HY2.out.2.1 hgn).less fun b hb=>(ZI.1 hb).elim (fun hf=>Or.inl (by have hf:some gb=some b:=hf;injection hf with hf;exact hf.symm)) Or.inr)
    clear ry hgn
    rw [HKL.out] at K3
    clear HB HKL HTP
    have K4:=(((K3.store 1 rfl 0 (.string y2.nm)).store 1 rfl 1 (.slice y2.A y2.n y2.c)).store 1 rfl 2 (.int .i64 y2.nx)).store 1 rfl 3 (.slice y2.B y2.m y2.d)
    simp only [zl] at K4
    have FB:=K3.facts
    simp only [zg] at FB
    go_upto_region 8 with fail
    generalize World.setCell _ _ _=w12 at K4 ⊢
    clear FB K3
    have FC:=K4.facts
    simp only [zg] at FC
    have ho:=K4.get 2 rfl
    have q0:_=some (Value.string x.nm):=(ho.cellAt (k * 4) (by omega)).trans (flat_get Te.cells 4 (fun _=>rfl) q k 0 x (by omega) HXK.out)
    have q1:_=some (Value.slice x.A x.n x.c):=(ho.cellAt (k * 4+1) (by omega)).trans (flat_get Te.cells 4 (fun _=>rfl) q k 1 x (by omega) HXK.out)
    have q2:_=some (Value.int .i64 x.nx):=(ho.cellAt (k * 4+2) (by omega)).trans (flat_get Te.cells 4 (fun _=>rfl) q k 2 x (by omega) HXK.out)
    have q3:_=some (Value.slice x.B x.m x.d):=(ho.cellAt (k * 4+3) (by omega)).trans (flat_get Te.cells 4 (fun _=>rfl) q k 3 x (by omega) HXK.out)
    have z0:=ho.frozenAt (k * 4)
    have z1:=ho.frozenAt (k * 4+1)
    have z2:=ho.frozenAt (k * 4+2)
    have z3:=ho.frozenAt (k * 4+3)
    have gl:=(ho.lt g rfl).2
    have gne:=K4.Zir 1 2 rfl rfl (by omega) rfl rfl
    clear ho
    have KA1:=K4.Y0 2 rfl (k * 4) (.string y2.nm)
    have KA2:=KA1.Y0 2 rfl (k * 4+1) (.slice y2.A y2.n y2.c)
    have KA3:=KA2.Y0 2 rfl (k * 4+2) (.int .i64 y2.nx)
    have K8:=KA3.Y0 2 rfl (k * 4+3) (.slice y2.B y2.m y2.d)
    simp only [zl] at KA1
    simp only [zl] at KA2
    simp only [zl] at KA3
    simp only [zl] at K8
    have e1:_=some (Value.slice x.A x.n x.c):=((KA1.get 2 rfl).cellAt (k * 4+1) (by omega)).trans ((List.getElem?_set_ne (by omega)).trans (flat_get Te.cells 4 (fun _=>rfl) q k 1 x (by omega) HXK.out))
    have e2:_=some (Value.int .i64 x.nx):=((KA2.get 2 rfl).cellAt (k * 4+2) (by omega)).trans ((List.getElem?_set_ne (by omega)).trans ((List.getElem?_set_ne (by omega)).trans (flat_get Te.cells 4 (fun _=>rfl) q k 2 x (by omega) HXK.out)))
    have e3:_=some (Value.slice x.B x.m x.d):=((KA3.get 2 rfl).cellAt (k * 4+3) (by omega)).trans ((List.getElem?_set_ne (by omega)).trans ((List.getElem?_set_ne (by omega)).trans ((List.getElem?_set_ne (by omega)).trans (flat_get Te.cells 4 (fun _=>rfl) q k 3 x (by omega) HXK.out))))
    have y1:=(KA1.get 2 rfl).frozenAt (k * 4+1)
    have y2_:=(KA2.get 2 rfl).frozenAt (k * 4+2)
    have y3:=(KA3.get 2 rfl).frozenAt (k * 4+3)
    clear KA1 KA2 KA3
    rw [ZaY y2 HXK.out] at K8
    have K9:=(K8.add (Zg8 (k:=k) (K8.ro 3 rfl) (K8.ro 0 rfl))).pick [3,0,5,6,7] (by decide) rfl
    simp only [List.filterMap_cons,List.filterMap_nil,List.getElem?_cons_zero,List.getElem?_cons_succ] at K9
    clear K8
    go_wp2_with fail
    iterate 4 (try simp only [Result.andThen_ok,e1,y1,e2,y2_,e3,y3,Bool.false_eq_true,if_false])
    go_wp2_with fail
    go_roundw
    case rel=>exact ⟨k+1,q.set k y2,by omega,by go_num,HM2,K9⟩
    case measure=>simp [intOf];omega
   ·have hb0:(e5==0)=false:=by simpa using h0
    have hb1:decide (e5=0)=false:=by simpa using h0
    clear hE6 hyo ry hgn
    rw [HKL.out] at HB
    have FB:=HB.facts
    simp only [zg] at FB
    have K4:=(((HB.store 0 rfl 0 (.string y2.nm)).store 0 rfl 1 (.slice y2.A y2.n y2.c)).store 0 rfl 2 (.int .i64 y2.nx)).store 0 rfl 3 (.slice y2.B y2.m y2.d)
    simp only [zl] at K4
    have K9:=K4.pick [1,2,3,4,5] (by decide) rfl
    simp only [List.filterMap_cons,List.filterMap_nil,List.getElem?_cons_zero,List.getElem?_cons_succ] at K9
    clear HB K4
    go_wp2_with fail
    go_roundw
    case rel=>exact ⟨k+1,q,by omega,by go_num,HM,K9⟩
    case measure=>simp [intOf];omega
  ·obtain rfl:k=3:=by omega
   have hcap:=ZR (K3.get 0 rfl)
   have HCAP:=hid hcap
   have KZ:=K3.Zu 0 rfl
   simp only [zl] at KZ
   have hT:Ro _ _ (TesIn (some ⟨g,0,none⟩) 3 q):=((KZ.ro 0 rfl).and (KZ.ro 1 rfl)).imp fun w2 h2=>⟨h2.1,h2.2⟩
   have K4:=(KZ.add hT).pick [0,3,4,5] (by decide) rfl
   simp only [List.filterMap_cons,List.filterMap_nil,List.getElem?_cons_zero,List.getElem?_cons_succ] at K4
   clear KZ K3 hT hcap hlt
   have HVL:=hid (show ∀ x∈l,x.ok∧TbM x.tb from fun x hx=>⟨(HS.out.ok x hx).1,(HS.out.ok x hx).2.1.tbm⟩)
   have HVQ:=hid (show ∀ x∈q,x.ok∧TbM x.tb from fun x hx=>⟨HM.out.ok x hx,by
    obtain ⟨i,hi⟩:=List.getElem?_of_mem hx
    exact (HM.out.st.at_ i x.tb (Xg hi)).2.2.tbm⟩)
   go_wp2_with fail
   refine (Ze9 (Mut M _) _ K4.Zb A 3 c l (some ⟨g,0,none⟩) 3 cap' q (K4.ro 1 rfl) (K4.ro 0 rfl) HVL.out HVQ.out (by omega) (by omega)).mono ?_
   rintro e w3 ⟨D,n,d,dl,rfl,hn1,hn2,hdl,hg,rD,b3⟩
   have HD:=hid (ZeK HS.out.st HM.out.st hdl hg)
   have K5:=(K4.call b3).add (rD.imp fun w2 h2=>Zhm h2)
   have HN:=hid (And.intro hn1 hn2)
   clear K4 b3 rD hdl hg hn1 hn2
   have rT:=K5.ZP 1 rfl
   have rD:=K5.ZP 0 rfl
   have ht9:=K5.tp_ 4 rfl
   have hgr:=K5.grow
   go_wp2_with fail
   go_ret2
   exact ⟨some ⟨g,0,none⟩,cap',q,D,n,d,dl.map El.de,rfl,⟨HCAP.out.1,HCAP.out.2.1⟩,HN.out,HM.out.ok,HM.out.st,HD.out,rT,rD,ht9,hgr⟩
end Go.Proofs.YtnbbllkbefagmaaGreatDoor

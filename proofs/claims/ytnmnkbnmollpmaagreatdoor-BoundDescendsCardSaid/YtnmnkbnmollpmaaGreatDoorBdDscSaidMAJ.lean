import Derived.Test.YtnmnkbnmollpmaaGreatDoorBdDscSaidMAH
set_option linter.unusedVariables false
set_option linter.unusedSimpArgs false
set_option maxHeartbeats 64000000
set_option maxRecDepth 100000
namespace Go.Proofs.YtnmnkbnmollpmaaGreatDoor
section
open Go.RowKit
structure UpB (d:Nat) (a:Ac) (nm:ByteArray) (x:Ex) (p q t:Tb) (k:Nat) (b:Bool) (v:Vl):Prop where
 up:UpA d a nm x
 nms:p.nm≠a.tab∧q.nm≠a.tab∧t.nm=a.tab
 lim:∀ y∈[p,q,t],TbM y∧y.cs.length≤100∧y.rs.length≤100∧∀ r∈y.rs,r.2.length≤6
 col:Ze (named nm) t.cs=k
 len:∀ r∈t.rs,k<r.2.length
 val:v.ok
 same:UO d t.cs t.rs a.wh.l x b v
 tab:Zh t.nm t.cs t.nx t.rs=true
 set:SetOk t.cs k v
theorem Qz {l:List Te} {P Q T:Tb} (h:l.map Te.tb=[P,Q,T]):∃ p q t:Te,l=[p,q,t]∧p.tb=P∧q.tb=Q∧t.tb=T:=by
 match l,h with
 | [p,q,t],h=>
  simp only [List.map_cons,List.map_nil,List.cons.injEq,and_true] at h
  exact ⟨p,q,t,rfl,h.1,h.2.1,h.2.2⟩
theorem JK {y:Te} {w:World} (h:YA y w) (hok:y.ok) (hl:TbM y.tb∧y.tb.cs.length≤100∧y.tb.rs.length≤100∧∀ r∈y.tb.rs,r.2.length≤6):Uf y∧y.n≤100∧y.m≤100∧∀ r∈y.l,r.n≤6:=by
 have h1:y.cs.length=y.n:=(RdC.ZW (show SlR 4 y.A y.n (Zf y.cs) w from h.1)).len
 have h2:y.l.length=y.m:=h.2.len
 have h3:y.cs.length≤100:=hl.2.1
 have h4:(y.l.map Rw.row).length≤100:=hl.2.2.1
 rw [Kj] at h4
 have h5:∀ r∈y.l,r.n≤6:=fun r hr=>by
  have:=hl.2.2.2 r.row (Ko hr)
  have h6:r.vs.length=r.n:=(h.2.2 r hr).len
  have h7:r.vs.length≤6:=this
  omega
 exact ⟨⟨by omega,by omega,fun r hr=>⟨hok.l r hr,by have:=h5 r hr;omega⟩⟩,by omega,by omega,h5⟩
theorem UpB.t {d:Nat} {a:Ac} {nm:ByteArray} {x:Ex} {p q t:Te} {k:Nat} {b:Bool} {v:Vl} (h:UpB d a nm x p.tb q.tb t.tb k b v) (hok:∀ y∈[p,q,t],y.ok) {A:Option Addr} {n:Nat} {w:World} (ht:TesIn A n [p,q,t] w):UpT d a nm x p q t k b v:=by
 have hs:∀ y∈[p,q,t],Uf y∧y.n≤100∧y.m≤100∧∀ r∈y.l,r.n≤6:=fun y hy=>JK (ht.2 y hy) (hok y hy) (h.lim y.tb (by
  simp only [List.mem_cons,List.not_mem_nil,or_false] at hy ⊢
  rcases hy with rfl|rfl|rfl
  ·exact .inl rfl
  ·exact .inr (.inl rfl)
  ·exact .inr (.inr rfl)))
 have hm:∀ y∈[p,q,t],TbM y.tb:=fun y hy=>(h.lim y.tb (by
  simp only [List.mem_cons,List.not_mem_nil,or_false] at hy ⊢
  rcases hy with rfl|rfl|rfl
  ·exact .inl rfl
  ·exact .inr (.inl rfl)
  ·exact .inr (.inr rfl))).1
 exact ⟨h.up,h.nms,fun y hy=>⟨(hs y hy).1,hm y hy,by have:=(hs y hy).2.1;omega,by have:=(hs y hy).2.2.1;omega⟩,hok,h.col,fun r hr=>⟨h.len r.row (List.mem_map_of_mem hr),by have:=(hs t (by simp)).2.2.2 r hr;omega⟩,h.val,h.same,h.tab,h.set⟩
theorem ZcP (M:Nat→Prop) (w:World) (hM:∀ b,M b→b<w.heap.size) (d:Nat) (a:Ac) (nm:ByteArray) (x:Ex) (P Q T:Tb) (k:Nat) (b:Bool) (v:Vl) (tA:Option Addr) (n tc:Nat) (l:List Te) (gA:Option Addr) (gn gc:Nat) (gl:List Tg) (oA:Option Addr) (on oc:Nat) (eA:Option Addr) (en ec:Nat) (el:List Te)
  (hu:UpB d a nm x P Q T k b v) (hl:l.map Te.tb=[P,Q,T]) (hok:∀ y∈l,y.ok) (ha:Ro w M (AcIn d a)) (ht:Ro w M (TesIn tA n l)) (hg:Ro w M (SlR 11 gA gn (gl.flatMap Tg.cells))) (hb:∀ z∈gl,z.before=false) (hgn:gn≤1000) (he:Ro w M (TesIn eA en el)) (hen:en≤900):
  Calls Tryz.prog 11 #[.slice tA n tc,.slice gA gn gc,.slice oA on oc,.agg #[.int .i64 a.kind,.string a.tab,.slice a.rows.A a.rows.n a.rows.c,.slice a.qs.A a.qs.n a.qs.c,.slice a.sets.A a.sets.n a.sets.c,.slice a.wh.A a.wh.n a.wh.c,.string a.text],.slice none 0 0,.slice eA en ec,.slice none 0 0] w fun e w' =>J6 w M [P,Q,if b then Z5 k v T else T] (if b then T.rs.length else 0) e w' :=by
 obtain ⟨p,q,t,rfl,rfl,rfl,rfl⟩:=Qz hl
 obtain rfl:3=n:=ht.now.len
 have hm:t.tb.rs.length=t.m:=by
  show (t.l.map Rw.row).length=t.m
  rw [Kj]
  exact (ht.now.2 t (by simp)).2.len
 rw [hm]
 exact Zkz M w hM d a nm x p q t k b v tA tc gA gn gc gl oA on oc eA en ec el (hu.t hok ht.now) ha ht hg hb hgn he hen
def UJ (M:Nat→Prop) (dn:ByteArray) (u:Value) (w:World):Prop:=∃ (I:Option Addr) (ci:Nat) (D:Option Addr) (cd:Nat) (U:Option Addr) (nu cu:Nat) (ps:List Pr),u=.agg #[.string dn,.slice I 0 ci,.slice D 0 cd,.slice U nu cu]∧nu≤100∧(∀ p∈ps,I64 p.id∧(∀ v∈p.old,v.ok)∧(∀ v∈p.new,v.ok)∧p.on≤1000∧p.nn≤1000)∧Ro w M (PrsIn U nu ps)
theorem Zin {M:Nat→Prop} {dn:ByteArray} (u:Value) (w w' :World) (hr:RM M w w') (h:UJ M dn u w):UJ M dn u w' :=by
 obtain ⟨I,ci,D,cd,U,nu,cu,ps,h1,h2,h3,h4⟩:=h
 exact ⟨I,ci,D,cd,U,nu,cu,ps,h1,h2,h3,hr.ro h4⟩
theorem Zjq {w:World} {U V:Option Addr} {n m:Nat} {ps qs:List Pr} (hp:PrsIn U n ps w) (hq:PrsIn V m qs w) (he:ps.map Pr.upd=qs.map Pr.upd) (hm:m≤100) (hk:∀ p∈qs,p.ok∧p.on≤6∧p.nn≤6):n≤100∧∀ p∈ps,I64 p.id∧(∀ v∈p.old,v.ok)∧(∀ v∈p.new,v.ok)∧p.on≤1000∧p.nn≤1000:=by
 have h1:ps.length=n:=hp.len
 have h2:qs.length=m:=hq.len
 have h3:ps.length=qs.length:=by have h:=congrArg List.length he;simpa using h
 refine ⟨by omega,fun p hpm=>?_⟩
 have h4:p.upd∈qs.map Pr.upd:=by rw [←he];exact Ko hpm
 obtain ⟨q,hqm,hqe⟩:=Kt.1 h4
 obtain ⟨e1,e2,e3⟩:q.id=p.id∧q.old=p.old∧q.new=p.new:=by
  have h5:=congrArg Prod.fst hqe
  have h6:=congrArg (fun z=>z.2.1) hqe
  have h7:=congrArg (fun z=>z.2.2) hqe
  exact ⟨h5,h6,h7⟩
 have h8:=hk q hqm
 have a1:=(hp.2 p hpm).1.len
 have a2:=(hp.2 p hpm).2.len
 have b1:=(hq.2 q hqm).1.len
 have b2:=(hq.2 q hqm).2.len
 rw [e2] at b1
 rw [e3] at b2
 have o:=h8.1
 exact ⟨e1 ▸ o.id,e2 ▸ o.old,e3 ▸ o.new,by omega,by omega⟩
def UT (M:Nat→Prop) (u:Value) (w:World):Prop:=∃ (A:Option Addr) (c:Nat) (l:List Te),u=.slice A 2 c∧Ro w M (TesIn A 2 l)
theorem ZlW {M:Nat→Prop} (u:Value) (w w' :World) (hr:RM M w w') (h:UT M u w):UT M u w' :=by
 obtain ⟨A,c,l,h1,h2⟩:=h
 exact ⟨A,c,l,h1,hr.ro h2⟩
theorem Zg6 (d:Nat) (w:World) (M:Nat→Prop):Ro w M (ExsIn d none 0 []):=by
 cases d<;>exact fun _ _ _=>⟨ZG _ _,fun x hx=>nomatch hx⟩
theorem Zhv (w:World) (M:Nat→Prop):Ro w M (FrsIn ⟨none,0,0,[]⟩):=fun _ _ _=>⟨ZG _ _,fun x hx=>nomatch hx⟩
def Zee (w:World) (M:Nat→Prop) (ts:List Tb) (e:Ending) (w' :World):Prop:=∃ (A:Option Addr) (n c:Nat) (l:List Te),e=.returned (.tuple #[.slice A n c,.slice none 0 0,.slice none 0 0,.int .i64 0])∧n≤c∧c≤9223372036854775807∧l.map Te.tb=ts∧(∀ x∈l,x.ok)∧Ro w' M (TesIn A n l)∧Below w.heap.size w w'
theorem Zkf (M:Nat→Prop) (w:World) (hM:∀ b,M b→b<w.heap.size) (d:Nat) (gA:Option Addr) (gc:Nat) (nm tab:ByteArray) (rA:Option Addr) (rn rc:Nat) (rl:List Rk) (ga:Nat) (a:Ac) (col:ByteArray) (x:Ex) (P Q T:Tb) (k:Nat) (b:Bool) (v:Vl) (tA:Option Addr) (tn tc:Nat) (l:List Te) (oA:Option Addr) (on oc:Nat) (A:Option Addr) (n c:Nat) (y:El)
  (hu:UpB d a col x P Q T k b v) (htab:a.tab=tab) (hl:l.map Te.tb=[P,Q,T]) (hok:∀ z∈l,z.ok) (hG:Ro w M (TgsIn d gA 1 [stT nm tab rA rn rc rl ga a])) (hT:Ro w M (TesIn tA tn l)) (hD:Ro w M (ElsIn A n [y])) (hy:V9 tab [y]):
  Calls Tryz.prog 69 #[.slice tA tn tc,.slice gA 1 gc,.slice oA on oc,.slice A n c,.agg #[.string nm,.int .i64 0,.slice none 0 0,.slice none 0 0],.slice none 0 0] w fun e w' =>Zee w M [P,Q,if b then Z5 k v T else T] e w' :=by
 have HU:=hid hu
 have HY:=hid hy
 have HOK:=hid hok
 have HL:=hid hl
 obtain ⟨RT,hRT⟩:∃ RT,RT=[P,Q,if b then Z5 k v T else T]:=⟨_,rfl⟩
 rw [←hRT]
 have HRT:=hid hRT
 have HTB:=hid htab
 obtain ⟨j0,hj1,hj2,hj3,hj4⟩:=info_parts Tryz.XL.hi
 have hl3:l.length=tn:=hT.now.len
 have hl4:l.length=3:=by have h:=congrArg List.length hl;simpa using h
 have htn:tn≤1000:=by omega
 have HTN:=hid (show ∀ z∈l,z.n≤1000∧Uf z from fun z hz=>by
  have h1:z.tb∈[P,Q,T]:=by rw [←hl];exact Ko hz
  have h2:=JK (hT.now.2 z hz) (hok z hz) (hu.lim _ h1)
  exact ⟨by have:=h2.2.1;omega,h2.1⟩)
 have HFU:=hid (show ∃ u,l.find? (Y8 tab)=some u∧u∈l from by
  obtain ⟨p,q,t,rfl,rfl,rfl,rfl⟩:=Qz hl
  have h3:Y8 tab t=true:=decide_eq_true (show t.nm=tab from hu.nms.2.2.trans htab)
  have h4:([p,q,t].find? (Y8 tab)).isSome=true:=List.find?_isSome.2 ⟨t,by simp,h3⟩
  obtain ⟨u,hu⟩:=Option.isSome_iff_exists.1 h4
  exact ⟨u,hu,List.mem_of_find?_eq_some hu⟩)
 have K0:=(((((Hold.start M w hM).add (hD.less (by simp [Mut]))).add (hT.less (by simp [Mut,Hp.foot]))).add (hG.less (by simp [Mut,Hp.foot])))).Za #[.string nm,.int .i64 0,.slice none 0 0,.slice none 0 0] 157
 obtain ⟨g10,hg10⟩:∃ g,g=w.heap.size:=⟨_,rfl⟩
 rw [←hg10] at K0
 clear hD hT hG hu hy hok hl hRT htab hl3 hl4
 go_enter Tryz.func69,Tryz.ntmps69
 go_upto_region 1 with fail
 rw [←hg10]
 clear hg10
 generalize World.alloc _ _=w1 at K0 ⊢
 have F0:=K0.facts
 simp only [zg] at F0
 go_wp2_with fail
 refine (ZkK (Mut M _) _ K0.Zb d gA gc nm tab rA rn rc rl ga a (K0.ro 1 rfl)).mono ?_
 rintro e w2 ⟨rfl,b2⟩
 have hv:(stT nm tab rA rn rc rl ga a).val=.agg #[.string nm,.string tab,.bool false,.int .i64 2,.slice none 0 0,.bool false,.slice none 0 0,.slice none 0 0,.slice rA rn rc,.slice none 0 0,.slice (some ⟨ga,0,none⟩) 1 1]:=rfl
 rw [hv]
 clear hv
 have K1:=(K0.call b2).Za #[.string nm,.string tab,.bool false,.int .i64 2,.slice none 0 0,.bool false,.slice none 0 0,.slice none 0 0,.slice rA rn rc,.slice none 0 0,.slice (some ⟨ga,0,none⟩) 1 1] 48
 clear K0 F0 b2
 have F1:=K1.facts
 simp only [zg] at F1
 go_wp2_with fail
 refine (ZcQ (Mut M _) _ K1.Zb tA tn tc l tab (K1.ro 3 rfl) htn (fun z hz=>(HTN.out z hz).1)).mono ?_
 rintro e w3 ⟨⟨snm,⟨cA,cn,cc,cl⟩⟩,ok,rfl,hsn,-,hsf,rs,b3⟩
 have hsn:cn≤1000:=hsn
 obtain rfl:ok=true:=by
  obtain ⟨u,hu1,hu2⟩:=HFU.out
  rcases hsf with ⟨h1,h2⟩|⟨y,h1,h2,-⟩
  ·rw [hu1] at h1;cases h1
  ·exact h2
 have K2:=((K1.call b3).add rs).Za #[.string snm,.slice cA cn cc] 66
 clear K1 F1 b3 rs hsf
 have F2:=K2.facts
 simp only [zg] at F2
 go_wp2_with fail
 refine (Zcy (Mut M _) _ K2.Zb A n c [y] tab (K2.ro 6 rfl) HY.out).mono ?_
 rintro e w4 ⟨y2,rfl,hfx,b4⟩
 obtain rfl:y2=y:=by
  rcases hfx with ⟨h,-⟩|h
  ·cases h
  ·injection h with h;exact h.symm
 obtain ⟨xn,I,ni,ci,D,nd,cd,U,nu,cu,li,ld,lu⟩:=y2
 obtain ⟨rfl,rfl,rfl,hnu,hgd⟩:xn=tab∧ni=0∧nd=0∧0<nu∧El.good ⟨xn,I,ni,ci,D,nd,cd,U,nu,cu,li,ld,lu⟩ 100 6:=by
  rcases HY.out with h|⟨y,h,h0,h1,h2,h3,h4⟩
  ·cases h
  ·injection h with h;subst h;exact ⟨h0,h1,h2,h3,h4⟩
 have hnu2:nu≤100:=hgd.u
 have HGD:=hid hgd
 have K3:=(K2.call b4).Za #[.string xn,.slice I 0 ci,.slice D 0 cd,.slice U nu cu] 103
 clear K2 F2 b4 hfx hgd
 have rE:=(K3.ro 7 rfl).imp fun w2 h2=>h2.2 (⟨xn,I,0,ci,D,0,cd,U,nu,cu,li,ld,lu⟩:El) Kl
 have K4:=K3.add rE
 clear K3 rE
 have F4:=K4.facts
 simp only [zg] at F4
 go_wp2_with fail
 refine (Zj9 _ (stT nm xn rA rn rc rl ga a) snm cA cn cc none 0 0 none 0 0 rfl).mono ?_
 rintro e w5 ⟨rfl,b5⟩
 have K5:=K4.call b5
 clear K4 F4 b5
 have F5:=K5.facts
 simp only [zg] at F5
 go_wp2_with fail
 clear F5
 obtain ⟨KL,hKL,KN⟩:=K5.name
 have HF:Hid (∀ wv,Hold M none w wv KL→Blk wv w2.heap.size 48 #[.string nm,.string xn,.bool false,.int .i64 2,.slice none 0 0,.bool false,.slice none 0 0,.slice none 0 0,.slice rA rn rc,.slice none 0 0,.slice (some ⟨ga,0,none⟩) 1 1]∧Blk wv w3.heap.size 66 #[.string snm,.slice cA cn cc]∧Blk wv w4.heap.size 103 #[.string xn,.slice I 0 ci,.slice D 0 cd,.slice U nu cu]∧Ro wv (Mut M KL) (Wm ⟨xn,I,0,ci,D,0,cd,U,nu,cu,li,ld,lu⟩)∧Ro wv (Mut M KL) (J8 ⟨snm,⟨cA,cn,cc,cl⟩⟩)):=hid fun wv HC=>by
  rw [hKL] at HC ⊢
  exact ⟨HC.Zg 4 rfl,HC.Zg 2 rfl,HC.Zg 1 rfl,HC.ro 0 rfl,HC.ro 3 rfl⟩
 have HKL:=hid hKL
 clear hKL K5
 refine Lj (by kernel_rfl) ?_
 refine Zn 7 137 (KL) (spL [(78,UJ (Mut M KL) xn),(79,UT (Mut M KL))]) (by kernel_rfl) (by kernel_rfl) (by kernel_rfl) rfl ?_ (KN.drew) ?_
 ·exact Zd Zin (Zd ZlW (Zm _))
 simp only [zd,zp,List.getElem_toArray,List.getElem_cons_zero,List.getElem_cons_succ]
 repeat (refine' dv rfl rfl rfl (fun wv HC=>?_) ?_;rotate_left;(focus (have q0:=(HF.out _ HC).1.cell 0;have q1:=(HF.out _ HC).1.cell 1;have q2:=(HF.out _ HC).1.cell 2;have q3:=(HF.out _ HC).1.cell 3;have q4:=(HF.out _ HC).1.cell 4;have q5:=(HF.out _ HC).1.cell 5;have q6:=(HF.out _ HC).1.cell 6;have q7:=(HF.out _ HC).1.cell 7;have q8:=(HF.out _ HC).1.cell 8;have q9:=(HF.out _ HC).1.cell 9;have q10:=(HF.out _ HC).1.cell 10;have s0:=(HF.out _ HC).2.1.cell 0;have s1:=(HF.out _ HC).2.1.cell 1;have d0:=(HF.out _ HC).2.2.1.cell 0;have d1:=(HF.out _ HC).2.2.1.cell 1;have d2:=(HF.out _ HC).2.2.1.cell 2;have d3:=(HF.out _ HC).2.2.1.cell 3;go_simp<;>rfl;done));simp only [zp])
 refine Zi 78 (UJ (Mut M KL) xn) (f:=66) (args:=#[.agg #[.string nm,.string xn,.bool false,.int .i64 2,.slice none 0 0,.bool false,.slice none 0 0,.slice none 0 0,.slice rA rn rc,.slice none 0 0,.slice (some ⟨ga,0,none⟩) 1 1],.agg #[.string snm,.slice cA cn cc],.agg #[.string xn,.slice I 0 ci,.slice D 0 cd,.slice U nu cu]]) rfl rfl rfl rfl (fun wv=>?_) (fun wv HC hrm hD=>?_) ?_
 ·go_simp<;>rfl
 ·refine (ZcI (Mut M KL) wv HC.Zb (stT nm xn rA rn rc rl ga a) snm cA cn cc cl xn I 0 ci li D 0 cd ld U nu cu lu WW ((HF.out _ HC).2.2.2.2.imp fun w2 h2=>h2.1) ((HF.out _ HC).2.2.2.1.imp fun w2 h2=>h2.1) ((HF.out _ HC).2.2.2.1.imp fun w2 h2=>h2.2.1) ((HF.out _ HC).2.2.2.1.imp fun w2 h2=>h2.2.2) (Lc _) hsn (Lc _) (Lc _) (by omega) ⟨HGD.out.li,HGD.out.ld⟩ HGD.out.lu).mono ?_
  rintro e w6 ⟨I2,ni2,ci2,li2,D2,nd2,cd2,ld2,U2,nu2,cu2,lu2,rfl,he,-,-,-,ri,rd,ru,b6⟩
  rw [show Yn (stT nm xn rA rn rc rl ga a).event (stT nm xn rA rn rc rl ga a).cols.l cl (li.map Rw.row) (ld.map Rw.row) (lu.map Pr.upd)=([],[],lu.map Pr.upd) from Zb5 _ _ _ _] at he
  obtain ⟨e1,e2,e3⟩:li2.map Rw.row=[]∧ld2.map Rw.row=[]∧lu2.map Pr.upd=lu.map Pr.upd:=by
   injection he with h1 h2
   injection h2 with h2 h3
   exact ⟨h1,h2,h3⟩
  obtain rfl:li2=[]:=List.map_eq_nil_iff.1 e1
  obtain rfl:ld2=[]:=List.map_eq_nil_iff.1 e2
  obtain rfl:0=ni2:=ri.now.len
  obtain rfl:0=nd2:=rd.now.len
  have hps:=Zjq ru.now ((HF.out _ (HC.call b6)).2.2.2.1.now.2.2) e3 hnu2 HGD.out.lu
  exact ⟨_,rfl,⟨I2,ci2,D2,cd2,U2,nu2,cu2,lu2,rfl,hps.1,hps.2,ru⟩,HC.call b6,RM.below b6⟩
 rintro u wx HCx ⟨I2,ci2,D2,cd2,U2,nu2,cu2,ps,rfl,hnu3,hps,rps⟩
 clear HCx rps
 simp only [zp]
 refine Zi 79 (UT (Mut M KL)) (f:=106) (args:=#[.agg #[.string nm,.string xn,.bool false,.int .i64 2,.slice none 0 0,.bool false,.slice none 0 0,.slice none 0 0,.slice rA rn rc,.slice none 0 0,.slice (some ⟨ga,0,none⟩) 1 1],.agg #[.string snm,.slice cA cn cc],.agg #[.string xn,.slice I2 0 ci2,.slice D2 0 cd2,.slice U2 nu2 cu2]]) rfl rfl rfl rfl (fun wv=>?_) (fun wv HC hrm hD=>?_) ?_
 ·go_simp<;>rfl
 ·have hM2:UJ (Mut M KL) xn (.agg #[.string xn,.slice I2 0 ci2,.slice D2 0 cd2,.slice U2 nu2 cu2]) wv:=ZI hD 5 rfl (by kernel_rfl) rfl rfl
  obtain ⟨I3,ci3,D3,cd3,U3,nu3,cu3,qs,hu3,hn3,hqs,rqs⟩:=hM2
  iterate 2
   injection hu3 with hu3
  simp only [List.cons.injEq,Value.slice.injEq,true_and,and_true] at hu3
  obtain ⟨⟨rfl,rfl⟩,⟨rfl,rfl⟩,rfl,rfl,rfl⟩:=hu3
  refine (ZkM (Mut M KL) wv HC.Zb (stT nm xn rA rn rc rl ga a) snm cA cn cc cl xn I2 0 ci2 D2 0 cd2 U2 nu2 cu2 qs ((HF.out _ HC).2.2.2.2.imp fun w2 h2=>h2.1) rqs hsn (by omega) hqs ⟨rfl,rfl,rfl⟩).mono ?_
  rintro e w6 ⟨A6,c6,l6,rfl,r6,b6⟩
  exact ⟨_,rfl,⟨A6,c6,l6,rfl,r6⟩,HC.call b6,RM.below b6⟩
 rintro u wx HCx ⟨A6,c6,l6,rfl,r6⟩
 clear HCx r6
 simp only [zp]
 refine Zk ?_
 rintro wx2 HX
 rintro _hrm HG
 have hu:UT (Mut M KL) (.slice A6 2 c6) wx2:=(Zo (d:=79) rfl).1 (HG 6 _ rfl (by omega))
 clear HG _hrm
 obtain ⟨A7,c7,l7,hy1,r7⟩:=hu
 injection hy1 with hy1 hy2 hy3
 subst hy1 hy3
 rw [HKL.out] at HX r7
 have K6:=HX.add r7
 clear HX r7 HF HKL KN
 have F6:=K6.facts
 simp only [zg] at F6
 go_wp2_with fail
 refine ((Jt (Mut M _) _ K6.Zb tA tn tc l (fun z hz=>(HTN.out z hz).2) (K6.ro 8 rfl) (by omega)).mono fun e w' h=>TesOwn.ret K6.Zb h).mono ?_
 rintro e w7 ⟨CA,n4,c4,l4,rfl,h1,h2,h3,h4,r4,b4⟩
 have HL4:=hid (KJ h1 (KJ h2 (KJ h3 h4)))
 have K7:=(K6.call b4).add r4
 clear K6 F6 h1 h2 h3 h4 r4 b4
 have F7:=K7.facts
 simp only [zg] at F7
 go_wp2_with (at_builtin;go_must (refine WA rfl (.const (.slice none 0 0)) (.tmp 82) 22 rfl 3 j0 _ Tryz.underlying22 hj1 hj2 none 0 rfl rfl ?_))
 try go_wp2_with fail
 clear F7
 obtain ⟨KL,hKL,KN⟩:=K7.name
 have HF:Hid (∀ wv,Hold M none w wv KL→Blk wv w2.heap.size 48 #[.string nm,.string xn,.bool false,.int .i64 2,.slice none 0 0,.bool false,.slice none 0 0,.slice none 0 0,.slice rA rn rc,.slice none 0 0,.slice (some ⟨ga,0,none⟩) 1 1]∧Ro wv (Mut M KL) (TesIn tA tn l)∧Ro wv (Mut M KL) (TesIn A6 2 l7)):=hid fun wv HC=>by
  rw [hKL] at HC ⊢
  exact ⟨HC.Zg 6 rfl,HC.ro 9 rfl,HC.ro 1 rfl⟩
 have HKL:=hid hKL
 clear hKL K7
 refine Lj (by kernel_rfl) ?_
 refine V3 [9] 10 137 (KL) (spL [(90,VG (Mut M KL) (tn+2) (l++l7)),(91,IsV (.tuple #[.bool true,.int .i64 0])),(84,IsV (.tuple #[.bool true,.int .i64 0]))]) (by kernel_rfl) (fun _ d _ _ _ h=>by cases d<;>exact h) (by kernel_rfl) (by kernel_rfl) rfl ?_ (KN.drew) ?_
 ·exact Zd Zdt (Zd Yu (Zd Yu (Zm _)))
 simp only [zd,zp,List.getElem_toArray,List.getElem_cons_zero,List.getElem_cons_succ]
 repeat (refine' dv rfl rfl rfl (fun wv HC=>?_) ?_;rotate_left;(focus (have q9:=(HF.out _ HC).1.cell 9;go_simp<;>rfl;done));simp only [zp])
 refine Zi 90 (VG (Mut M KL) (tn+2) (l++l7)) (f:=22) (args:=#[.slice tA tn tc,.slice A6 2 c6]) rfl rfl rfl rfl (fun wv=>?_) (fun wv HC hrm hD=>?_) ?_
 ·go_simp<;>rfl
 ·refine (Zcr (Mut M KL) wv HC.Zb tA tn tc l A6 2 c6 l7 (HF.out _ HC).2.1 (HF.out _ HC).2.2 htn (by omega)).mono ?_
  rintro e w9 ⟨C,c5,rfl,r5,b5⟩
  exact ⟨_,rfl,⟨C,c5,rfl,r5⟩,HC.call b5,RM.below b5⟩
 rintro u wx HCx ⟨C,c5,rfl,-⟩
 clear HCx
 simp only [zp]
 refine Zi 91 (IsV (.tuple #[.bool true,.int .i64 0])) (f:=48) (args:=#[.slice none 0 0,.slice none 0 0,.slice C (tn+2) c5]) rfl rfl rfl rfl (fun wv=>?_) (fun wv HC hrm hD=>?_) ?_
 ·go_simp<;>rfl
 ·refine (Zdz d [] none 0 0 [] true (.inl ⟨rfl,rfl⟩) none 0 C (tn+2) c5 wv (Zg6 d _ _) (Zhv _ _)).mono ?_
  rintro e w9 ⟨rfl,b5⟩
  exact ⟨_,rfl,rfl,HC.call b5,RM.below b5⟩
 rintro u wx HCx hu
 obtain rfl:u=(.tuple #[.bool true,.int .i64 0]):=hu
 clear HCx
 simp only [zp]
 refine YI 84 (IsV (.tuple #[.bool true,.int .i64 0])) rfl rfl rfl rfl (.tuple #[.bool true,.int .i64 0]) (fun wv HC=>?_) (fun wv HC hD=>?_) ?_
 ·go_simp<;>rfl
 ·rfl
 simp only [zp]
 repeat (refine' dv rfl rfl rfl (fun wv HC=>?_) ?_;rotate_left;(focus (go_simp<;>rfl;done));simp only [zp])
 refine Zk ?_
 rintro wx3 HX
 rintro _hrm HG
 clear HG _hrm HF
 rw [HKL.out] at HX
 clear HKL KN
 have F8:=HX.facts
 simp only [zg] at F8
 go_upto_region 16 with fail
 clear F8
 have K8:Hold M none w _ [.ro (TesIn CA n4 l4),.ro (TesIn A6 2 l7),.cst w2.heap.size 48 #[.string nm,.string xn,.bool false,.int .i64 2,.slice none 0 0,.bool false,.slice none 0 0,.slice none 0 0,.slice rA rn rc,.slice none 0 0,.slice (some ⟨ga,0,none⟩) 1 1],.ro (TgsIn d gA 1 [(stT nm xn rA rn rc rl ga a)])]:=HX.pick [0,1,6,8] (by decide) rfl
 clear HX
 have F8:=K8.facts
 simp only [zg] at F8
 go_wp2_with fail
 clear F8
 go_loopw [5,24,27,104] (fun pv tv ev iv wr=>∃ (j n8 c8:Nat) (A8:Option Addr) (l8:List Te),j≤1∧iv=.int .i64 j∧pv=.slice none 0 0∧ev=.slice none 0 0∧tv=.slice A8 n8 c8∧Hid (n8≤c8∧c8≤9223372036854775807∧(∀ x∈l8,x.ok)∧(j=0→l8.map Te.tb=[P,Q,T])∧(j=1→l8.map Te.tb=RT))∧Hold M none w wr [.ro (TesIn A8 n8 l8),.ro (TesIn A6 2 l7),.cst w2.heap.size 48 #[.string nm,.string xn,.bool false,.int .i64 2,.slice none 0 0,.bool false,.slice none 0 0,.slice none 0 0,.slice rA rn rc,.slice none 0 0,.slice (some ⟨ga,0,none⟩) 1 1],.ro (TgsIn d gA 1 [(stT nm xn rA rn rc rl ga a)])]) (fun _ _ _ iv _=>1 - (intOf iv).toNat)
 case atStart=>
  refine ⟨0,n4,c4,CA,l4,by omega,rfl,rfl,rfl,rfl,hid ⟨HL4.out.1,HL4.out.2.1,HL4.out.2.2.2,fun _=>?_,fun h=>absurd h (by decide)⟩,K8⟩
  rw [HL4.out.2.2.1]
  exact HL.out
 case round=>
  clear K8
  obtain ⟨j,n8,c8,A8,l8,hj,rfl,rfl,rfl,rfl,HZ,H⟩:=hrel
  obtain rfl|rfl:j=0∨j=1:=by omega
  ·have htg:(stT nm xn rA rn rc rl ga a).acts.In 7 Ac.cells (AcIn d) _:=((H.ro 3 rfl).now.2 _ Kl).2.2.2.2.2
   obtain ⟨b0,o0,hb0,hb,hc,-⟩:=htg.at_ (by omega) (fun _=>rfl) (show (stT nm xn rA rn rc rl ga a).acts.l[0]? =some a from rfl)
   obtain ⟨rfl,rfl⟩:ga=b0∧0=o0:=by
    injection hb0 with h
    injection h with h1 h2
    exact ⟨h1,h2⟩
   have hk:a.kind=2:=HU.out.up.kind
   have x0:=hc 0 _ (by omega) rfl
   have x1:=hc 1 _ (by omega) rfl
   have x2:=hc 2 _ (by omega) rfl
   have x3:=hc 3 _ (by omega) rfl
   have x4:=hc 4 _ (by omega) rfl
   have x5:=hc 5 _ (by omega) rfl
   have x6:=hc 6 _ (by omega) rfl
   rw [hk] at x0
   simp only [Nat.zero_mul,Nat.add_zero,Nat.zero_add,SlP.v] at x0 x1 x2 x3 x4 x5 x6
   clear hc htg hb0
   have K1:=H.Za #[.int .i64 2,.string a.tab,.slice a.rows.A a.rows.n a.rows.c,.slice a.qs.A a.qs.n a.qs.c,.slice a.sets.A a.sets.n a.sets.c,.slice a.wh.A a.wh.n a.wh.c,.string a.text] 44
   have F1:=K1.facts
   simp only [zg] at F1
   have hrun:Calls Tryz.prog 11 #[.slice A8 n8 c8,.slice gA 1 gc,.slice oA on oc,.agg #[.int .i64 a.kind,.string a.tab,.slice a.rows.A a.rows.n a.rows.c,.slice a.qs.A a.qs.n a.qs.c,.slice a.sets.A a.sets.n a.sets.c,.slice a.wh.A a.wh.n a.wh.c,.string a.text],.slice none 0 0,.slice A6 2 c6,.slice none 0 0] _ fun e w' =>J6 _ (Mut M _) [P,Q,if b then Z5 k v T else T] (if b then T.rs.length else 0) e w' :=ZcP (Mut M _) _ K1.Zb d a col x P Q T k b v A8 n8 c8 l8 gA 1 gc [(stT nm xn rA rn rc rl ga a)] oA on oc A6 2 c6 l7 HU.out (HZ.out.2.2.2.1 rfl) HZ.out.2.2.1 ((K1.ro 4 rfl).imp fun w2 h2=>((h2.2 _ Kl).2.2.2.2.2).2 a Kl) (K1.ro 1 rfl) ((K1.ro 4 rfl).imp fun w2 h2=>h2.1) (fun z hz=>by
    simp only [List.mem_cons,List.not_mem_nil,or_false] at hz
    subst hz
    rfl) (by omega) (K1.ro 2 rfl) (by omega)
   rw [hk,←HRT.out] at hrun
   have HRUN:=hid hrun
   clear hrun hk H
   go_wp2_with (first|(go_at_call 11;go_must (refine HRUN.out.mono ?_);rintro e w9 ⟨A9,n9,c9,l9,rfl,h1,h2,h3,h4,r9,b9⟩;(have HL9:=hid (KJ h1 (KJ h2 (KJ h3 h4))));(have K2:=(K1.call b9).add r9);clear h1 h2 h3 h4 r9 b9;(have F2:=K2.facts);simp only [zg] at F2)|(at_builtin;go_must (refine WA rfl (.tmp 130) (.tmp 131) 22 rfl 3 j0 _ Tryz.underlying22 hj1 hj2 none 0 rfl rfl ?_)))
   try go_wp2_with fail
   go_roundw
   case rel=>exact ⟨1,n9,c9,A9,l9,by omega,rfl,rfl,rfl,rfl,hid ⟨HL9.out.1,HL9.out.2.1,HL9.out.2.2.2,fun h=>absurd h (by decide),fun _=>HL9.out.2.2.1⟩,K2.pick [0,3,4,5] (by decide) rfl⟩
   case measure=>simp [intOf]
  ·have HR:=hid ((H.ro 0 rfl).less zm)
   have HB:=hid H.below
   have HZ2:=hid (KJ HZ.out.1 (KJ HZ.out.2.1 (KJ (HZ.out.2.2.2.2 rfl) HZ.out.2.2.1)))
   clear H HZ
   go_wp2_with fail
   refine Lh (v:=.tuple #[.slice A8 n8 c8,.slice none 0 0,.slice none 0 0,.int .i64 0]) ?_ rfl ?_
   ·clear HR HB HZ2
    simp [results,Tryz.results69,go_sem]
   ·exact ⟨A8,n8,c8,l8,rfl,HZ2.out.1,HZ2.out.2.1,HZ2.out.2.2.1,HZ2.out.2.2.2,HR.out,HB.out⟩
theorem ZkQ (w:World):Calls Tryz.prog 32 #[.slice none 0 0] w fun e w' =>e=.returned (.bool true)∧Below w.heap.size w w' :=by
 have K0:=Hold.start Zc w zn
 go_enter Tryz.func32,Tryz.ntmps32
 go_wp2_with fail
 go_loopw [9] (fun i wr=>i=.int .i64 0∧Hold Zc none w wr []) (fun _ _=>0)
 case atStart=>exact ⟨rfl,K0⟩
 case round=>
  obtain ⟨rfl,H⟩:=hrel
  go_wp2_with fail
  go_ret
  exact ⟨rfl,H.below⟩
theorem Zfe:(madeCells (Value.bool false).cells (1 * 1)).toList=[.bool false]:=by
 simp [madeCells,Value.cells]
theorem Tryz.ZhR:(Tryz.prog.info? 4).map (fun i=>(i.zero,i.size,i.bytes))=some (some (.bool false),1,1):=by kernel_rfl
theorem Zkb (w:World):
  Calls Tryz.prog 102 #[.int .i64 1] w fun e w' =>e=.returned (.slice (some ⟨w.heap.size,0,none⟩) 1 1)∧w'.ownsRow w.heap.size 4 1 (.slice (some ⟨w.heap.size,0,none⟩) 1 1) 1 [.bool true]∧w.grownBy w' none:=by
 have K0:=(Hold.start (fun _=>False) w (fun _ h=>h.elim)).nil 4 1
 obtain ⟨i0,hi1,hi2,hi3,hi4⟩:=info_parts Tryz.ZhR
 go_enter Tryz.func102,Tryz.ntmps102
 go_wp2_with (at_make;refine wpList_make_full w rfl (.tmp 5) (.tmp 5) 199 rfl w.heap.size 4 i0 (.bool false) 1 Tryz.underlying199 hi1 hi2 hi3 .i64 .i64 1 1 1 rfl rfl rfl rfl (by rw [hi4];omega) (by unfold maxLen;omega) (Kg _) ?_;intro w1 ho1 hg1)
 rw [Zfe] at ho1
 have K1:=Hold.append K0 0 rfl ho1 hg1 (.inr (Kg _)) (ho1.lt _ rfl).2
 simp only [List.set_cons_zero] at K1
 clear ho1 hg1 hi1 hi2 hi3 hi4
 go_loopw [9] (fun i wr=>∃ (k:Nat) (b:Bool),k≤1∧i=.int .i64 k∧Hid (k=1→b=true)∧Hold (fun _=>False) none w wr [.own 4 1 (.slice (some ⟨w.heap.size,0,none⟩) 1 1) 1 [.bool b]]) (fun i _=>1 - (intOf i).toNat)
 case atStart=>exact ⟨0,false,by omega,rfl,hid (fun h=>absurd h (by decide)),K1⟩
 case round=>
  obtain ⟨k,b,hk,rfl,HB,H⟩:=hrel
  obtain rfl|rfl:k=0∨k=1:=by omega
  ·have hc:wr.cell? ⟨w.heap.size,0,none⟩=some (.bool b):=((H.get 0 rfl).cellAt 0 (by omega))
   have hf:wr.frozen? ⟨w.heap.size,0,none⟩=false:=(H.get 0 rfl).frozenAt 0
   have HS:=H.Vr 0 rfl 0 (.bool true)
   simp only [List.set_cons_zero] at HS
   go_wp2_with fail
   go_roundw
   case rel=>exact ⟨1,true,by omega,rfl,hid (fun _=>rfl),HS⟩
   case measure=>simp [intOf]
  ·obtain rfl:b=true:=HB.out rfl
   go_wp2_with fail
   go_ret
   exact ⟨rfl,H.get 0 rfl,H.grow⟩
theorem Zka (M:Nat→Prop) (w:World) (hM:∀ b,M b→b<w.heap.size) (A:Option Addr) (c:Nat) (g:Nat) (hF:Ro w M (SlR 1 (some ⟨g,0,none⟩) 1 [.bool true])):
  Calls Tryz.prog 103 #[.slice A 1 c,.slice (some ⟨g,0,none⟩) 1 1,.slice none 0 0,.int .i64 0] w fun e w' =>e=.returned (.bool true)∧Below w.heap.size w w' :=by
 have K0:=(Hold.start M w hM).add (hF.less (by simp [Mut]))
 clear hF
 go_enter Tryz.func103,Tryz.ntmps103
 go_wp2_with fail
 go_loopw [12] (fun j wr=>∃ k:Nat,k≤1∧j=.int .i64 k∧Hold M none w wr [.ro (SlR 1 (some ⟨g,0,none⟩) 1 [.bool true])]) (fun j _=>1 - (intOf j).toNat)
 case atStart=>exact ⟨0,by omega,rfl,K0⟩
 case round=>
  obtain ⟨k,hk,rfl,H⟩:=hrel
  obtain ⟨g',o',ho,hb,hc⟩:=(show Rd _ _ 1 (some ⟨g,0,none⟩) 1 [.bool true] from (H.ro 0 rfl).now).2 (by omega)
  obtain ⟨rfl,rfl⟩:g=g' ∧0=o' :=by injection ho with ho;injection ho with a1 a2;exact ⟨a1,a2⟩
  have z0:=hc 0 _ rfl
  clear ho hc
  obtain rfl|rfl:k=0∨k=1:=by omega
  ·go_wp2_with fail
   go_quiet (fail)
   go_wp2_with fail
   go_roundw
   case rel=>exact ⟨1,by omega,rfl,by first|exact H|exact H.drew|exact H.drewN _⟩
   case measure=>simp [intOf]
  ·go_wp2_with fail
   go_ret
   exact ⟨rfl,H.below⟩
def Zeg (w:World) (M:Nat→Prop) (e:Ending) (w' :World):Prop:=∃ (C:Option Addr) (c:Nat),e=.returned (.slice C 1 c)∧Ro w' M (SlR 1 C 1 [.int .i64 0])∧Below w.heap.size w w'
theorem Zj1 (M:Nat→Prop) (w:World) (hM:∀ b,M b→b<w.heap.size) (A:Option Addr) (c:Nat):
  Calls Tryz.prog 67 #[.slice A 1 c,.slice none 0 0] w fun e w' =>Zeg w M e w' :=by
 have K0:=(Hold.start M w hM).nil 4 1
 go_enter Tryz.func67,Tryz.ntmps67
 go_wp2_with fail
 refine (Zkb w).mono ?_
 rintro e w1 ⟨rfl,ho1,hg1⟩
 have K1:=Hold.append K0 0 rfl ho1 hg1 (.inr (Kg _)) (ho1.lt _ rfl).2
 simp only [List.set_cons_zero] at K1
 have K2:=K1.Zq 0 rfl
 simp only [List.set_cons_zero] at K2
 have K3:Hold M none w w1 [.own 3 1 (.slice none 0 0) 0 [],.ro (SlR 1 (some ⟨w.heap.size,0,none⟩) 1 [.bool true])]:=K2.nil 3 1
 clear ho1 hg1 K1 K2
 obtain ⟨G,hG⟩:∃ G:Nat,G=w.heap.size:=⟨_,rfl⟩
 rw [←hG] at K3 ⊢
 have HG:=hid hG;clear hG
 go_wp2_with fail
 go_loopw [5,13] (fun out i wr=>∃ (k cap:Nat) (C:Option Addr) (xs:List Value),k≤1∧i=.int .i64 k∧out=.slice C k cap∧Hid ((k=0→xs=[])∧(k=1→xs=[.int .i64 0]))∧Hold M none w wr [.own 3 1 (.slice C k cap) k xs,.ro (SlR 1 (some ⟨G,0,none⟩) 1 [.bool true])]) (fun _ i _=>1 - (intOf i).toNat)
 case atStart=>exact ⟨0,0,none,[],by omega,rfl,rfl,hid ⟨fun _=>rfl,fun h=>absurd h (by decide)⟩,K3⟩
 case round=>
  obtain ⟨k,cap,C,xs,hk,rfl,rfl,HX,H⟩:=hrel
  obtain rfl|rfl:k=0∨k=1:=by omega
  ·obtain rfl:xs=[]:=HX.out.1 rfl
   clear K3
   go_wp2_with fail
   refine (Zka (Mut M _) wr H.Zb A c G (H.ro 1 rfl)).mono ?_
   rintro e w4 ⟨rfl,b4⟩
   have K4:=H.call b4
   have HOWN:=hid (K4.get 0 rfl)
   have HB:=hid K4.grow.size
   clear b4 H
   go_wp2_with (at_builtin;go_must (refine Zaa w4 #[.int .i64 0] rfl (.tmp 21) (.tmp 23) 22 rfl w.heap.size 3 1 8 _ Tryz.underlying22 Tryz.XL.hi rfl (by omega) (.slice C 0 cap) 0 [] rfl HOWN.out w4.heap.size (by simp) rfl rfl (by intro u hu;simp at hu;subst hu;rfl) (by omega) (by omega) HB.out ?_);intro g' cap' w' ho hg hdj hl';have KA:=Hold.append (K4.Za #[.int .i64 0] 3) 1 rfl ho hg hdj hl')
   go_roundw
   case rel=>exact ⟨1,cap',some ⟨g',0,none⟩,_,by omega,rfl,rfl,hid ⟨fun h=>absurd h (by decide),fun _=>rfl⟩,KA.drop (Kb _ _)⟩
   case measure=>simp [intOf]
  ·obtain rfl:xs=[.int .i64 0]:=HX.out.2 rfl
   have KS:=H.Zq 0 rfl
   go_wp2_with fail
   go_ret
   exact ⟨C,cap,rfl,KS.ZN 0 rfl,KS.below⟩
theorem ZjQ (w:World):Calls Tryz.prog 68 #[.int .i64 1,.slice none 0 0] w fun e w' =>e=.returned (.tuple #[.int .i64 0,.slice none 0 0])∧Below w.heap.size w w' :=by
 have K0:=Hold.start Zc w zn
 obtain ⟨j0,hj1,hj2,hj3,hj4⟩:=info_parts Tryz.XL.hi
 go_enter Tryz.func68,Tryz.ntmps68
 go_wp2_with (at_builtin;go_must (refine WA rfl (.const (.slice none 0 0)) (.tmp 14) 22 rfl 3 j0 _ Tryz.underlying22 hj1 hj2 none 0 rfl rfl ?_))
 refine Lh (v:=.tuple #[.int .i64 0,.slice none 0 0]) ?_ rfl ?_
 ·simp [results,Tryz.results68,go_sem]
 ·exact ⟨rfl,K0.below⟩
def VD (M:Nat→Prop) (ts:List Tb) (u:Value) (w:World):Prop:=∃ (A:Option Addr) (n c:Nat) (l:List Te),u=.tuple #[.slice A n c,.slice none 0 0,.slice none 0 0,.int .i64 0]∧n≤c∧c≤9223372036854775807∧l.map Te.tb=ts∧(∀ x∈l,x.ok)∧Ro w M (TesIn A n l)
theorem ZbT {M:Nat→Prop} {ts:List Tb} (u:Value) (w w' :World) (hr:RM M w w') (h:VD M ts u w):VD M ts u w' :=by
 obtain ⟨A,n,c,l,h1,h2,h3,h4,h5,h6⟩:=h
 exact ⟨A,n,c,l,h1,h2,h3,h4,h5,hr.ro h6⟩
def Zek (w:World) (M:Nat→Prop) (ts:List Tb) (F R:Nat) (e:Ending) (w' :World):Prop:=∃ (A:Option Addr) (n c:Nat) (l:List Te),e=.returned (.tuple #[.agg #[.slice A n c,.int .i64 F,.int .i64 R,.slice none 0 0,.slice none 0 0],.int .i64 0])∧n≤c∧c≤9223372036854775807∧l.map Te.tb=ts∧(∀ x∈l,x.ok)∧Ro w' M (TesIn A n l)∧Below w.heap.size w w'
theorem Zkx (M:Nat→Prop) (w:World) (hM:∀ b,M b→b<w.heap.size) (d:Nat) (gA:Option Addr) (gc:Nat) (nm tab:ByteArray) (rA:Option Addr) (rn rc:Nat) (rl:List Rk) (ga:Nat) (a:Ac) (col:ByteArray) (x:Ex) (P Q T:Tb) (k:Nat) (b:Bool) (v:Vl) (tA:Option Addr) (tn tc:Nat) (l:List Te) (A:Option Addr) (n c:Nat) (y:El) (I:Option Addr) (ic:Nat) (F R:Nat)
  (hu:UpB d a col x P Q T k b v) (htab:a.tab=tab) (hl:l.map Te.tb=[P,Q,T]) (hok:∀ z∈l,z.ok) (hG:Ro w M (TgsIn d gA 1 [stT nm tab rA rn rc rl ga a])) (hT:Ro w M (TesIn tA tn l)) (hD:Ro w M (ElsIn A n [y])) (hy:V9 tab [y]) (hI:Ro w M (SlR 4 I 1 [.string nm,.int .i64 0,.slice none 0 0,.slice none 0 0])) (hic:1≤ic∧ic≤9223372036854775807) (hF:F<10000):
  Calls Tryz.prog 34 #[.agg #[.slice tA tn tc,.int .i64 F,.int .i64 R,.slice none 0 0,.slice none 0 0],.slice gA 1 gc,.slice none 0 0,.slice A n c,.slice I 1 ic,.int .i64 10000] w fun e w' =>Zek w M [P,Q,if b then Z5 k v T else T] (F+1) R e w' :=by
 have HU:=hid hu
 have HY:=hid hy
 have HOK:=hid hok
 have HL:=hid hl
 have HTB:=hid htab
 obtain ⟨RT,hRT⟩:∃ RT,RT=[P,Q,if b then Z5 k v T else T]:=⟨_,rfl⟩
 rw [←hRT]
 have HRT:=hid hRT
 obtain ⟨j0,hj1,hj2,hj3,hj4⟩:=info_parts Tryz.XL.hi
 obtain ⟨i0,hi1,hi2,hi3,hi4⟩:=info_parts Tryz.WK.hi
 have K0:=(((((((Hold.start M w hM).add (hT.less (by simp [Mut]))).add (hD.less (by simp [Mut,Hp.foot]))).add (hG.less (by simp [Mut,Hp.foot]))).add (hI.less (by simp [Mut,Hp.foot])))).alloc #[.slice tA tn tc,.int .i64 F,.int .i64 R,.slice none 0 0,.slice none 0 0] 58).alloc #[.slice none 0 0,.int .i64 0,.int .i64 0,.slice none 0 0,.slice none 0 0] 58
 simp only [World.size_alloc] at K0
 obtain ⟨g6,hg6⟩:∃ g,g=w.heap.size:=⟨_,rfl⟩
 rw [←hg6] at K0
 obtain ⟨g12,hg12⟩:∃ g,g=g6+1:=⟨_,rfl⟩
 rw [←hg12] at K0
 clear hT hD hG hI hu hy hok hl hRT htab
 go_enter Tryz.func34,Tryz.ntmps34
 go_wp2_with fail
 rw [←hg6,←hg12]
 clear hg6 hg12
 go_loopw [4] (fun iv wr=>∃ (j:Nat) (J:Option Addr) (jc:Nat) (A8:Option Addr) (n8 c8:Nat) (l8:List Te) (F8:Nat),j≤1∧iv=.slice J j jc∧Hid ((j=1→J=I∧jc=ic∧A8=tA∧n8=tn∧c8=tc∧l8=l∧F8=F)∧(j=0→F8=F+1∧n8≤c8∧c8≤9223372036854775807∧l8.map Te.tb=RT∧∀ z∈l8,z.ok))∧Hold M none w wr [.blk g12 58 #[.slice none 0 0,.int .i64 0,.int .i64 0,.slice none 0 0,.slice none 0 0],.blk g6 58 #[.slice A8 n8 c8,.int .i64 F8,.int .i64 R,.slice none 0 0,.slice none 0 0],.ro (SlR 4 I 1 [.string nm,.int .i64 0,.slice none 0 0,.slice none 0 0]),.ro (TgsIn d gA 1 [stT nm tab rA rn rc rl ga a]),.ro (ElsIn A n [y]),.ro (TesIn A8 n8 l8)]) (fun iv _=>match iv with|.slice _ n _=>n|_=>0)
 case atStart=>exact ⟨1,I,ic,tA,tn,tc,l,F,by omega,rfl,hid ⟨fun _=>⟨rfl,rfl,rfl,rfl,rfl,rfl,rfl⟩,fun h=>absurd h (by decide)⟩,K0⟩
 case round=>
  clear K0
  obtain ⟨j,J,jc,A8,n8,c8,l8,F8,hj,rfl,HJ,H⟩:=hrel
  obtain rfl|rfl:j=0∨j=1:=by omega
  ·obtain ⟨hF8,h1,h2,h3,h4⟩:=HJ.out.2 rfl
   have HF8:=hid hF8
   clear hF8
   have KZ:=((((H.store 0 rfl 0 (.slice A8 n8 c8)).store 0 rfl 1 (.int .i64 F8)).store 0 rfl 2 (.int .i64 R)).store 0 rfl 3 (.slice none 0 0)).store 0 rfl 4 (.slice none 0 0)
   simp only [zl] at KZ
   have F0:=H.facts
   simp only [zg] at F0
   have FZ:=KZ.facts
   simp only [zg] at FZ
   have HB:=hid KZ.below
   have HR:=hid ((KZ.ro 5 rfl).less zm)
   clear KZ H
   go_wp2_with fail
   refine Lh (v:=.tuple #[.agg #[.slice A8 n8 c8,.int .i64 F8,.int .i64 R,.slice none 0 0,.slice none 0 0],.int .i64 0]) ?_ rfl ?_
   ·clear HB HR
    simp [results,Tryz.results34,go_sem,FZ]
   ·exact ⟨A8,n8,c8,l8,by rw [HF8.out],h1,h2,h3,h4,HR.out,HB.out⟩
  ·obtain ⟨rfl,rfl,rfl,rfl,rfl,rfl,rfl⟩:=HJ.out.1 rfl
   have hne:((F8:Int)==10000)=false:=by rw [beq_eq_false_iff_ne];omega
   have hw1:IntKind.i64.wrap ((F8:Int)+1)=((F8+1:Nat):Int):=by rw [Kn];omega
   have F0:=H.facts
   simp only [zg] at F0
   go_wp2_with fail
   refine (Zj1 (Mut M _) _ H.Zb J jc).mono ?_
   rintro e w2 ⟨C,cc,rfl,rC,b2⟩
   have K1:=(H.call b2).add rC
   clear H F0 b2 rC
   have F1:=K1.facts
   simp only [zg] at F1
   go_wp2_with fail
   refine (ZjQ _).mono ?_
   rintro e w3 ⟨rfl,b3⟩
   have K2:=K1.call b3
   clear K1 F1 b3
   obtain ⟨gC,oC,rfl,hgC,hC⟩:=(show Rd _ _ 1 C 1 [.int .i64 0] from (K2.ro 0 rfl).now).2 (by omega)
   have hc0:=hC 0 _ rfl
   simp only [Nat.add_zero] at hc0
   clear hC
   have F2:=K2.facts
   simp only [zg] at F2
   go_wp2_with fail
   clear F2 hc0 hgC
   obtain ⟨gI,oI,hIe⟩:∃ gI oI,J=some ⟨gI,oI,none⟩:=by
    obtain ⟨gI,oI,h,-⟩:=(show Rd _ _ 4 J 1 _ from (K2.ro 3 rfl).now).2 (by omega)
    exact ⟨gI,oI,h⟩
   subst hIe
   obtain ⟨KL,hKL,KN⟩:=K2.name
   have HF:Hid (∀ wv,Hold M none w wv KL→Blk wv g6 58 #[.slice A8 n8 c8,.int .i64 F8,.int .i64 R,.slice none 0 0,.slice none 0 0]∧(∀ j u,([.string nm,.int .i64 0,.slice none 0 0,.slice none 0 0]:List Value)[j]? =some u→wv.cell? ⟨gI,oI+j,none⟩=some u)∧Ro wv (Mut M KL) (TgsIn d gA 1 [stT nm tab rA rn rc rl ga a])∧Ro wv (Mut M KL) (ElsIn A n [y])∧Ro wv (Mut M KL) (TesIn A8 n8 l8)):=hid fun wv HC=>by
    rw [hKL] at HC ⊢
    refine ⟨HC.get 2 rfl,fun j u hj=>?_,HC.ro 4 rfl,HC.ro 5 rfl,HC.ro 6 rfl⟩
    obtain ⟨g',o',h,-,h2⟩:=(show Rd _ _ 4 (some ⟨gI,oI,none⟩) 1 _ from (HC.ro 3 rfl).now).2 (by omega)
    obtain ⟨rfl,rfl⟩:gI=g' ∧oI=o' :=by injection h with h;injection h with a1 a2;exact ⟨a1,a2⟩
    exact h2 j u hj
   have HKL:=hid hKL
   clear hKL K2
   refine Lj (by kernel_rfl) ?_
   refine V3 [12,13,14,15] 16 97 (KL) (spL [(65,VD (Mut M KL) RT),(54,VD (Mut M KL) RT)]) (by kernel_rfl) (fun _ d _ _ _ h=>by cases d<;>exact h) (by kernel_rfl) (by kernel_rfl) rfl ?_ (KN.drew) ?_
   ·exact Zd ZbT (Zd ZbT (Zm _))
   simp only [zd,zp,List.getElem_toArray,List.getElem_cons_zero,List.getElem_cons_succ]
   repeat (refine' dv rfl rfl rfl (fun wv HC=>?_) ?_;rotate_left;(focus (have q0:=(HF.out _ HC).1.cell 0;have i0:=(HF.out _ HC).2.1 0 _ rfl;have i1:=(HF.out _ HC).2.1 1 _ rfl;have i2:=(HF.out _ HC).2.1 2 _ rfl;have i3:=(HF.out _ HC).2.1 3 _ rfl;simp only [Nat.add_zero] at i0;go_simp<;>rfl;done));simp only [zp])
   refine Zi 65 (VD (Mut M KL) RT) (f:=69) (args:=#[.slice A8 n8 c8,.slice gA 1 gc,.slice none 0 0,.slice A n c,.agg #[.string nm,.int .i64 0,.slice none 0 0,.slice none 0 0],.slice none 0 0]) rfl rfl rfl rfl (fun wv=>?_) (fun wv HC hrm hD=>?_) ?_
   ·go_simp<;>rfl
   ·have hit:=Zkf (Mut M KL) wv HC.Zb d gA gc nm tab rA rn rc rl ga a col x P Q T k b v A8 n8 c8 l8 none 0 0 A n c y HU.out HTB.out HL.out HOK.out (HF.out _ HC).2.2.1 (HF.out _ HC).2.2.2.2 (HF.out _ HC).2.2.2.1 HY.out
    rw [←HRT.out] at hit
    refine hit.mono ?_
    rintro e w9 ⟨A9,n9,c9,l9,rfl,h1,h2,h3,h4,r9,b9⟩
    exact ⟨_,rfl,⟨A9,n9,c9,l9,rfl,h1,h2,h3,h4,r9⟩,HC.call b9,RM.below b9⟩
   rintro u wx HCx ⟨A9,n9,c9,l9,rfl,-⟩
   clear HCx
   simp only [zp]
   refine YI 54 (VD (Mut M KL) RT) rfl rfl rfl rfl (.tuple #[.slice A9 n9 c9,.slice none 0 0,.slice none 0 0,.int .i64 0]) (fun wv HC=>?_) (fun wv HC hD=>?_) ?_
   ·go_simp<;>rfl
   ·exact ZI hD 10 rfl (by kernel_rfl) rfl rfl
   simp only [zp]
   repeat (refine' dv rfl rfl rfl (fun wv HC=>?_) ?_;rotate_left;(focus (go_simp<;>rfl;done));simp only [zp])
   refine Zk ?_
   rintro wx3 HX
   rintro _hrm HG
   have hit:VD (Mut M KL) RT (.tuple #[.slice A9 n9 c9,.slice none 0 0,.slice none 0 0,.int .i64 0]) wx3:=(Zo (d:=54) rfl).1 (HG 11 _ rfl (by omega))
   clear HG _hrm HF
   obtain ⟨A10,n10,c10,l10,e2,h1,h2,h3,h4,r10⟩:=hit
   iterate 2
    injection e2 with e2
   simp only [List.cons.injEq,Value.slice.injEq,true_and,and_true] at e2
   obtain ⟨rfl,rfl,rfl⟩:=e2
   rw [HKL.out] at HX r10
   have HNEW:=hid (KJ h1 (KJ h2 (KJ h3 h4)))
   have K3:=HX.add r10
   clear HX r10 HKL KN h1 h2 h3 h4
   have F3:=K3.facts
   simp only [zg] at F3
   have K4:=(((K3.store 3 rfl 0 (.slice A9 n9 c9)).store 3 rfl 4 (.slice none 0 0)).store 3 rfl 3 (.slice none 0 0)).store 3 rfl 1 (.int .i64 (F8+1:Nat))
   simp only [zl] at K4
   go_wp2_with (at_builtin;go_must (refine WA rfl (.tmp 77) (.tmp 78) 22 rfl 3 j0 _ Tryz.underlying22 hj1 hj2 none 0 rfl rfl ?_))
   clear F3 K3
   obtain ⟨KL,hKL,KN⟩:=K4.name
   have HKL:=hid hKL
   clear hKL K4
   refine Lj (by kernel_rfl) ?_
   refine Zn 9 97 (KL) (spL [(90,IsV (.slice none 0 0)),(95,IsV (.slice none 0 0))]) (by kernel_rfl) (by kernel_rfl) (by kernel_rfl) rfl ?_ (KN.drew) ?_
   ·exact Zd Yu (Zd Yu (Zm _))
   simp only [zd,zp,List.getElem_toArray,List.getElem_cons_zero,List.getElem_cons_succ]
   repeat (refine' dv rfl rfl rfl (fun wv HC=>?_) ?_;rotate_left;(focus (go_simp<;>rfl;done));simp only [zp])
   refine Gz Tryz.WK 90 rfl rfl rfl rfl (.const (.slice none 0 0)) (.tmp 89) rfl rfl (A:=some ⟨gI,oI,none⟩) (c:=jc) rfl ?_
   simp only [zp]
   repeat (refine' dv rfl rfl rfl (fun wv HC=>?_) ?_;rotate_left;(focus (go_simp<;>rfl;done));simp only [zp])
   refine Gz Tryz.WK 95 rfl rfl rfl rfl (.tmp 90) (.tmp 94) rfl rfl (A:=_) (c:=_) rfl ?_
   simp only [zp]
   refine Zk ?_
   rintro wx4 HX
   rintro _hrm HG
   clear HG _hrm
   rw [HKL.out] at HX
   clear HKL KN
   go_wp2_with fail
   go_roundw
   case rel=>exact ⟨0,none,0,A9,n9,c9,l10,F8+1,by omega,rfl,hid ⟨fun h=>absurd h (by decide),fun _=>⟨rfl,HNEW.out.1,HNEW.out.2.1,HNEW.out.2.2.1,HNEW.out.2.2.2⟩⟩,HX.pick [2,3,4,5,6,0] (by decide) rfl⟩
   case measure=>exact Nat.zero_lt_one
def QK (tab:ByteArray) (p:Prop) (L:List Dl):Prop:=(p→∃ d:Dl,L=[d]∧d.nm=tab∧d.ins=[]∧d.del=[]∧d.upd≠[])∧(¬p→L=[])
theorem Uu {tab:ByteArray} {p:Prop} {L:List Dl} {A:Option Addr} {n:Nat} {l:List El} {w:World} (h:QK tab p L) (hl:l.map El.dl=L) (hg:∀ x∈l,x.good 100 6) (hin:ElsIn A n l w):V9 tab l∧(p→∃ y,l=[y])∧(¬p→l=[]):=by
 rcases Classical.em p with hp|hp
 ·obtain ⟨d,rfl,h1,h2,h3,h4⟩:=h.1 hp
  match l,hl with
  | [y],hl=>
   have hy:y.dl=d:=by simpa using hl
   have g:=hg y (by simp)
   have hi:=hin.2 y (by simp)
   have e1:y.nm=tab:=by rw [←h1,←hy];rfl
   have e2:y.li.map Rw.row=[]:=by rw [←h2,←hy];rfl
   have e3:y.ld.map Rw.row=[]:=by rw [←h3,←hy];rfl
   have e4:y.lu.map Pr.upd≠[]:=by rw [←hy] at h4;exact h4
   have k1:y.li.length=y.ni:=hi.1.len
   have k2:y.ld.length=y.nd:=hi.2.1.len
   have k3:y.lu.length=y.nu:=hi.2.2.len
   have m1:=congrArg List.length e2
   have m2:=congrArg List.length e3
   simp only [List.length_map,List.length_nil] at m1 m2
   have m3:y.lu.length≠0:=fun h=>e4 (by rw [List.eq_nil_of_length_eq_zero h];rfl)
   exact ⟨.inr ⟨y,rfl,e1,by omega,by omega,by omega,g⟩,fun _=>⟨y,rfl⟩,fun h=>absurd hp h⟩
 ·obtain rfl:=h.2 hp
  obtain rfl:l=[]:=List.map_eq_nil_iff.1 hl
  exact ⟨.inl rfl,fun h=>absurd h hp,fun _=>rfl⟩
structure StepsB (d:Nat) (a:Ac) (col:ByteArray) (x:Ex) (P Q:Tb) (tab:ByteArray) (S:Nat→Tb) (N:Nat) (k:Nat) (b:Nat→Bool) (v:Nat→Vl):Prop where
 up:∀ i,i<N→UpB d a col x P Q (S i) k (b i) (v i)
 nxt:∀ i,i<N→S (i+1)=if b i then Z5 k (v i) (S i) else S i
 lim:∀ i,i≤N→∀ y∈[P,Q,S i],TbM y∧y.cs.length≤100
 tb:a.tab=tab
 nms:∀ i,i≤N→P.nm≠tab∧Q.nm≠tab∧(S i).nm=tab
 del:∀ i,i<N→∃ L,Y6 [P,Q,S i] [P,Q,S (i+1)]=(true,L)∧QK tab (i+1<N) L
 num:N<10000
def Zei (w:World) (M:Nat→Prop) (ts:List Tb) (N:Nat) (e:Ending) (w' :World):Prop:=∃ (A:Option Addr) (n c:Nat) (l:List Te),e=.returned (.tuple #[.agg #[.slice A n c,.int .i64 N,.int .i64 N,.slice none 0 0,.slice none 0 0],.int .i64 0])∧n≤c∧c≤9223372036854775807∧l.map Te.tb=ts∧(∀ x∈l,x.ok)∧Ro w' M (TesIn A n l)∧Below w.heap.size w w'
theorem Zku (M:Nat→Prop) (w:World) (hM:∀ b,M b→b<w.heap.size) (d:Nat) (gA:Option Addr) (gc:Nat) (nm tab:ByteArray) (rA:Option Addr) (rn rc:Nat) (rl:List Rk) (ga:Nat) (a:Ac) (col:ByteArray) (x:Ex) (P Q:Tb) (S:Nat→Tb) (N:Nat) (k:Nat) (b:Nat→Bool) (v:Nat→Vl) (oA:Option Addr) (on oc:Nat) (lo:List Te) (tA:Option Addr) (tn tc:Nat) (l:List Te) (L0:List Dl)
  (hs:StepsB d a col x P Q tab S N k b v) (hl:l.map Te.tb=[P,Q,S 0]) (hok:∀ z∈l,z.ok) (hO:Ro w M (TesIn oA on lo)) (hon:on≤1000) (hoo:∀ z∈lo,z.ok∧TbM z.tb) (hG:Ro w M (TgsIn d gA 1 [stT nm tab rA rn rc rl ga a])) (hT:Ro w M (TesIn tA tn l)) (htl:∀ z∈l,Uf z)
  (h0:Y6 (lo.map Te.tb) [P,Q,S 0]=(true,L0)) (hd0:QK tab (0<N) L0):
  Calls Tryz.prog 13 #[.slice oA on oc,.slice tA tn tc,.slice gA 1 gc,.slice none 0 0,.slice none 0 0,.int .i64 10000] w fun e w' =>Zei w M [P,Q,S N] N e w' :=by
 have HS:=hid hs
 have HL:=hid hl
 have HOK:=hid hok
 have HTL:=hid htl
 have HOO:=hid hoo
 have H0:=hid h0
 have HD0:=hid hd0
 obtain ⟨j0,hj1,hj2,hj3,hj4⟩:=info_parts Tryz.XL.hi
 have hl3:l.length=tn:=hT.now.len
 have hl4:l.length=3:=by have h:=congrArg List.length hl;simpa using h
 have hlim0:∀ z∈l,z.ok∧TbM z.tb:=fun z hz=>⟨hok z hz,(hs.lim 0 (Lc _) z.tb (by rw [←hl];exact Ko hz)).1⟩
 have HLIM0:=hid hlim0
 have K0:=(((((Hold.start M w hM).add (hG.less (by simp [Mut]))).add (hT.less (by simp [Mut,Hp.foot]))).add (hO.less (by simp [Mut,Hp.foot])))).alloc #[.slice none 0 0,.int .i64 0,.int .i64 0,.slice none 0 0,.slice none 0 0] 58
 obtain ⟨g12,hg12⟩:∃ g,g=w.heap.size:=⟨_,rfl⟩
 rw [←hg12] at K0
 clear hs hl hok htl hoo h0 hd0 hO hG hT hlim0
 go_enter Tryz.func13,Tryz.ntmps13
 go_wp2_with fail
 rw [←hg12]
 clear hg12
 refine (zi (Mut M _) _ K0.Zb oA on oc lo tA tn tc l (K0.ro 1 rfl) (K0.ro 2 rfl) HOO.out HLIM0.out hon (by omega)).mono ?_
 rw [HL.out,H0.out]
 rintro e w1 ⟨dA,dn,dc,el,rfl,hd1,hd2,hd3,hd4,rD,b1⟩
 have HEL:=hid (KJ (show el.map El.dl=L0 from hd3) hd4)
 have K1:=(K0.call b1).add rD
 clear K0 hd1 hd2 hd3 hd4 rD b1
 have F1:=K1.facts
 simp only [zg] at F1
 go_wp2_with fail
 refine (ZkQ _).mono ?_
 rintro e w2 ⟨rfl,b2⟩
 have K2:=K1.call b2
 clear K1 F1 b2
 have F2:=K2.facts
 simp only [zg] at F2
 go_wp2_with fail
 refine ((Jt (Mut M _) _ K2.Zb tA tn tc l HTL.out (K2.ro 3 rfl) (by omega)).mono fun e w' h=>TesOwn.ret K2.Zb h).mono ?_
 rintro e w3 ⟨CA,n4,c4,l4,rfl,h1,h2,h3,h4,r4,b4⟩
 have HL4:=hid (KJ h1 (KJ h2 (KJ h3 h4)))
 have K3:=(K2.call b4).add r4
 clear K2 F2 h1 h2 h3 h4 r4 b4
 have F3:=K3.facts
 simp only [zg] at F3
 obtain ⟨g16,hg16⟩:∃ g,g=w3.heap.size:=⟨_,rfl⟩
 go_wp2_with (at_builtin;go_must (refine WA rfl (.const (.slice none 0 0)) (.tmp 40) 22 rfl 3 j0 _ Tryz.underlying22 hj1 hj2 none 0 rfl rfl ?_))
 have K4:=K3.alloc #[.slice CA n4 c4,.int .i64 0,.int .i64 0,.slice none 0 0,.slice none 0 0] 58
 rw [←hg16] at K4 ⊢
 clear K3 F3 hg16
 go_loopw [14] (fun dv wr=>∃ (i:Nat) (dA:Option Addr) (dn dc:Nat) (el:List El) (A8:Option Addr) (n8 c8:Nat) (l8:List Te),i≤N∧dv=.slice dA dn dc∧Hid (V9 tab el∧(i<N→∃ y,el=[y])∧(¬i<N→el=[])∧n8≤c8∧c8≤9223372036854775807∧l8.map Te.tb=[P,Q,S i]∧∀ z∈l8,z.ok)∧Hold M none w wr [.blk g16 58 #[.slice A8 n8 c8,.int .i64 i,.int .i64 i,.slice none 0 0,.slice none 0 0],.blk g12 58 #[.slice none 0 0,.int .i64 0,.int .i64 0,.slice none 0 0,.slice none 0 0],.ro (TgsIn d gA 1 [stT nm tab rA rn rc rl ga a]),.ro (TesIn A8 n8 l8),.ro (ElsIn dA dn el)]) (fun _ wr=>match wr.cell? ⟨g16,1,none⟩ with|some (.int _ i)=>N - i.toNat|_=>0)
 case atStart=>exact ⟨0,dA,dn,dc,el,CA,n4,c4,l4,Lc _,rfl,hid ⟨(Uu HD0.out HEL.out.1 HEL.out.2 (K4.ro 2 rfl).now).1,(Uu HD0.out HEL.out.1 HEL.out.2 (K4.ro 2 rfl).now).2.1,(Uu HD0.out HEL.out.1 HEL.out.2 (K4.ro 2 rfl).now).2.2,HL4.out.1,HL4.out.2.1,HL4.out.2.2.1.trans HL.out,HL4.out.2.2.2⟩,K4.pick [0,3,6,1,2] (by decide) rfl⟩
 case round=>
  clear K4 HEL HL4
  obtain ⟨i,dA,dn,dc,el,A8,n8,c8,l8,hi,rfl,HX,H⟩:=hrel
  obtain ⟨p,q,t,hl8,hp,hq,ht⟩:=Qz HX.out.2.2.2.2.2.1
  subst hl8
  obtain rfl:3=n8:=(H.ro 3 rfl).now.len
  have hnm:=HS.out.nms i hi
  rw [←hp,←hq,←ht] at hnm
  have hli:=HS.out.lim i hi
  rw [←hp,←hq,←ht] at hli
  have hyn:∀ y∈[p,q,t],y.n≤1000:=fun y hy=>by
   have h1:y.tb∈[p.tb,q.tb,t.tb]:=by
    rw [show [p.tb,q.tb,t.tb]=[p,q,t].map Te.tb from rfl]
    exact Ko hy
   have h2:y.cs.length=y.n:=(RdC.ZW (show SlR 4 y.A y.n (Zf y.cs) _ from ((H.ro 3 rfl).now.2 y hy).1)).len
   have h3:y.cs.length≤100:=(hli y.tb h1).2
   omega
  have HCUR:=hid (KJ hp (KJ hq ht))
  clear hp hq ht hli
  have F0:=H.facts
  simp only [zg] at F0
  have HM0:=hid (show _=some (Value.int .i64 (i:Int)) from (show Blk _ g16 58 _ from H.get 0 rfl).cell 1)
  go_wp2_with fail
  refine (Zkg (Mut M _) _ H.Zb d gA gc nm tab rA rn rc rl ga a A8 c8 p q t dA dn dc el (H.ro 2 rfl) (H.ro 3 rfl) (H.ro 4 rfl) HX.out.1 hnm hyn).mono ?_
  by_cases hlt:i<N
  ·obtain ⟨y,rfl⟩:=HX.out.2.1 hlt
   rintro e w2 ⟨J,jc,rfl,hj1',hj2',rJ,b2⟩
   rw [Lf (List.cons_ne_nil _ _)] at hj1' rJ ⊢
   rw [Lf (List.cons_ne_nil _ _)] at rJ
   have K1:=(H.call b2).add rJ
   clear H F0 b2 rJ
   have F1:=K1.facts
   simp only [zg] at F1
   go_wp2_with fail
   have hr:=Zkx (Mut M _) _ K1.Zb d gA gc nm tab rA rn rc rl ga a col x P Q (S i) k (b i) (v i) A8 3 c8 [p,q,t] dA dn dc y J jc i i (HS.out.up i hlt) HS.out.tb HX.out.2.2.2.2.2.1 HX.out.2.2.2.2.2.2 (K1.ro 3 rfl) (K1.ro 4 rfl) (K1.ro 5 rfl) HX.out.1 (K1.ro 0 rfl) ⟨hj1',hj2'⟩ (by have:=HS.out.num;omega)
   rw [←HS.out.nxt i hlt] at hr
   obtain ⟨i1,hi1⟩:∃ i1,i1=i+1:=⟨_,rfl⟩
   rw [←hi1] at hr
   have HI:=hid hi1
   have hw1:IntKind.i64.wrap ((i:Int)+1)=(i1:Int):=by have:=HS.out.num;rw [Kn];omega
   clear hi1
   refine hr.mono ?_
   clear hr
   rintro e w3 ⟨A9,n9,c9,l9,rfl,h1,h2,h3,h4,r9,b9⟩
   have HNEW:=hid (KJ h1 (KJ h2 (KJ h3 h4)))
   have K2:=(K1.call b9).add r9
   clear K1 F1 b9 r9 h1 h2 h3 h4
   have K3:=((((K2.store 2 rfl 0 (.slice A9 n9 c9)).store 2 rfl 1 (.int .i64 i1)).store 2 rfl 2 (.int .i64 i)).store 2 rfl 3 (.slice none 0 0)).store 2 rfl 4 (.slice none 0 0)
   simp only [zl] at K3
   have K4:=K3.store 2 rfl 2 (.int .i64 i1)
   simp only [zl] at K4
   have F2:=K2.facts
   simp only [zg] at F2
   have F3:=K3.facts
   simp only [zg] at F3
   have F4:=K4.facts
   simp only [zg] at F4
   go_wp2_with fail
   refine (zi (Mut M _) _ K4.Zb A8 3 c8 [p,q,t] A9 n9 c9 l9 (K4.ro 5 rfl) (K4.ro 0 rfl) (fun z hz=>⟨HX.out.2.2.2.2.2.2 z hz,(HS.out.lim i hi z.tb (by rw [←HX.out.2.2.2.2.2.1];exact Ko hz)).1⟩) (fun z hz=>⟨HNEW.out.2.2.2 z hz,(HS.out.lim i1 (by have:=HI.out;omega) z.tb (by rw [←HNEW.out.2.2.1];exact Ko hz)).1⟩) (by omega) (by
    have e1:l9.length=n9:=(K4.ro 0 rfl).now.len
    have e2:=congrArg List.length HNEW.out.2.2.1
    simp only [List.length_map,List.length_cons,List.length_nil] at e2
    omega)).mono ?_
   obtain ⟨L,hL1,hL2⟩:=HS.out.del i hlt
   rw [←HI.out] at hL1 hL2
   rw [HX.out.2.2.2.2.2.1,HNEW.out.2.2.1,hL1]
   have HL2:=hid hL2
   clear hL1 hL2
   rintro e w5 ⟨eA,en,ec,el2,rfl,hd1,hd2,hd3,hd4,rD,b5⟩
   have HEL:=hid (KJ (show el2.map El.dl=L from hd3) hd4)
   have K5:=(K4.call b5).add rD
   have hin:=(K5.ro 0 rfl).now
   clear K2 K3 K4 F2 F3 hd1 hd2 hd3 hd4 rD b5
   have F5:=K5.facts
   simp only [zg] at F5
   go_wp2_with fail
   go_roundw
   case rel=>exact ⟨i1,eA,en,ec,el2,A9,n9,c9,l9,by have:=HI.out;omega,rfl,hid ⟨(Uu HL2.out HEL.out.1 HEL.out.2 hin).1,(Uu HL2.out HEL.out.1 HEL.out.2 hin).2.1,(Uu HL2.out HEL.out.1 HEL.out.2 hin).2.2,HNEW.out.1,HNEW.out.2.1,HNEW.out.2.2.1,HNEW.out.2.2.2⟩,K5.pick [3,4,5,1,0] (by decide) rfl⟩
   case measure=>
    have hi1:=HI.out
    have e1:=HM0.out
    have e2:_=some (Value.int .i64 (i1:Int)):=(show Blk _ g16 58 _ from K5.get 3 rfl).cell 1
    simp only [e1,e2,Int.toNat_natCast]
    omega
  ·obtain rfl:=HX.out.2.2.1 hlt
   obtain rfl:i=N:=by omega
   rintro e w2 ⟨J,jc,rfl,hj1',hj2',rJ,b2⟩
   rw [Lg rfl] at hj1' rJ ⊢
   have K1:=H.call b2
   clear H F0 b2 rJ
   have KZ:=((((K1.store 1 rfl 0 (.slice A8 3 c8)).store 1 rfl 1 (.int .i64 i)).store 1 rfl 2 (.int .i64 i)).store 1 rfl 3 (.slice none 0 0)).store 1 rfl 4 (.slice none 0 0)
   simp only [zl] at KZ
   have F1:=K1.facts
   simp only [zg] at F1
   have FZ:=KZ.facts
   simp only [zg] at FZ
   have HB:=hid KZ.below
   have HR:=hid ((KZ.ro 3 rfl).less zm)
   clear KZ K1
   go_wp2_with fail
   refine Lh (v:=.tuple #[.agg #[.slice A8 3 c8,.int .i64 i,.int .i64 i,.slice none 0 0,.slice none 0 0],.int .i64 0]) ?_ rfl ?_
   ·clear HB HR
    simp [results,Tryz.results13,go_sem,FZ]
   ·exact ⟨A8,3,c8,[p,q,t],rfl,HX.out.2.2.2.1,HX.out.2.2.2.2.1,HX.out.2.2.2.2.2.1,HX.out.2.2.2.2.2.2,HR.out,HB.out⟩
def VL (g:Nat):Ex:=opE 5 10 false g 2 [ZU ⟨#[]⟩ nmN,ZF (nV 1)]
def QP (g:Nat) (lo hi:Int):Ex:=opE 7 0 false g 3 [ZU ⟨#[]⟩ nmN,ZF (nV lo),ZF (nV hi)]
structure DownAc (lo hi:Int) (a:Ac) (x:Ex):Prop where
 kind:a.kind=2
 tab:a.tab=nmU
 rows:a.rows.n=0
 qs:a.qs.n=0
 ex:∃ g,x=VL g
 sets:∃ g c,1≤c∧a.sets=⟨some ⟨g,0,none⟩,1,c,[⟨nmN,x⟩]⟩
 wh:a.wh.n=1∧∃ g,a.wh.l=[QP g lo hi]
 text:a.text=⟨#[]⟩
theorem GL {p:Int} (hp:-1000≤p∧p≤1000):Z9 ⟨nmN,1,true,false⟩ (nV p)=0∧(nV p).ok:=by
 have h1:I64 p:=by constructor<;>omega
 refine ⟨?_,ZiP h1⟩
 unfold Z9
 have h2:Z7 (nV p).k (nV p).i (nV p).s=true:=by
  simp [Z7,nV]
 rw [h2]
 rfl
theorem zx {p:Int} (hp:-1000≤p∧p≤1000):SetOk Y3 1 (nV p):=⟨⟨_,rfl,(GL hp).1⟩,.inr (by decide+kernel)⟩
theorem Zmb {P Q U:Tb} {lo hi p:Int} {a:Ac} {x:Ex} (d:Nat) (h:DownAc lo hi a x) (hb:0≤lo∧0≤hi) (hp:-900≤p∧p≤1000) (hu:VTab U) (hc:U.cs=Y3) (hnm:P.nm≠nmU∧Q.nm≠nmU∧U.nm=nmU) (hlim:∀ y∈[P,Q,U],TbM y∧y.cs.length≤100∧y.rs.length≤100∧∀ r∈y.rs,r.2.length≤6) (hlen:∀ r∈U.rs,r.2.length=3) (hall:∀ r∈U.rs,r.2[1]? =some (nV p)):
  UpB (d+1) a nmN x P Q U 1 (decide (lo≤p)&&decide (p≤hi)) (nV (p - 1)):=by
 obtain ⟨g,hx⟩:=h.ex
 obtain ⟨hwn,g2,hwl⟩:=h.wh
 have hI:I64 p:=by constructor<;>omega
 refine ⟨⟨h.kind,by rw [h.tab];decide+kernel,by rw [h.tab];decide+kernel,h.rows,h.qs,h.sets,?_,by decide+kernel,by omega,?_,h.text⟩,by rw [h.tab];exact hnm,hlim,by rw [hc];decide+kernel,fun r hr=>by rw [hlen r hr];omega,(GL (by omega)).2,?_,hu.val,by rw [hc];exact zx (by omega)⟩
 ·rw [hx]
  exact ZdI d 5 10 g 2 _ (.inl ⟨rfl,rfl,rfl⟩) fun y hy=>by
   simp only [List.mem_cons,List.not_mem_nil,or_false] at hy
   rcases hy with rfl|rfl
   ·exact ZdH d nmN (by decide+kernel)
   ·exact JP d 1 (by decide)
 ·rw [hwl]
  intro y hy
  simp only [List.mem_cons,List.not_mem_nil,or_false] at hy
  subst hy
  exact ZdI d 7 0 g2 3 _ (.inr ⟨rfl,rfl,rfl⟩) fun y hy=>by
   simp only [List.mem_cons,List.not_mem_nil,or_false] at hy
   rcases hy with rfl|rfl|rfl
   ·exact ZdH d nmN (by decide+kernel)
   ·exact JP d lo hb.1
   ·exact JP d hi hb.2
 ·intro r hr f hf
  obtain ⟨f1,f2,f3,f4⟩:=hf
  have hcol:EvX d [f] (ZU ⟨#[]⟩ nmN) (nV p):=ZgZ d f nmN 1 (nV p) f1 f2 (by rw [f3,hc];decide+kernel) (by rw [f4];exact hall r hr)
  refine ⟨.inr ⟨_,hwl,ZgY d [f] g2 _ _ _ p lo hi hcol (QX d [f] (nV lo)) (QX d [f] (nV hi))⟩,fun _=>?_⟩
  rw [hx]
  exact Zg0 d [f] g _ _ p 1 hcol (QX d [f] (nV 1)) hI (by constructor<;>decide) (by simp [fit];omega)
def ZP (U:Tb) (lo hi:Int) (i:Nat):Tb:=Z5 1 (nV (hi - (min i (hi - lo+1).toNat:Nat))) U
theorem U1 {U:Tb} {lo hi:Int} (h:VTab U) (hc:U.cs=Y3) (hb:0≤lo∧lo≤hi∧hi≤100) (i:Nat):SetOk U.cs 1 (nV (hi - (min i (hi - lo+1).toNat:Nat))):=by
 rw [hc]
 exact zx (by omega)
theorem Zlz {P Q U:Tb} {lo hi:Int} {a:Ac} {x:Ex} (d:Nat) (h:DownAc lo hi a x) (hb:0≤lo∧lo≤hi∧hi≤100) (hst:StOk [P,Q,U]) (hlim:∀ y∈[P,Q,U],TbM y∧y.cs.length≤100∧y.rs.length≤100∧∀ r∈y.rs,r.2.length≤6) (hne:U.rs≠[]):
  StepsB (d+1) a nmN x P Q nmU (ZP U lo hi) ((hi - lo+1).toNat+1) 1 (fun i=>decide (i<(hi - lo+1).toNat)) (fun i=>nV (hi - i - 1)):=by
 obtain ⟨W,hW⟩:∃ W:Nat,W=(hi - lo+1).toNat:=⟨_,rfl⟩
 have hWi:(W:Int)=hi - lo+1:=by omega
 have hU:=hst.at_ 2 U rfl
 have hP:=hst.at_ 0 P rfl
 have hQ:=hst.at_ 1 Q rfl
 have hc:U.cs=Y3:=hU.2.1
 have hnU:U.nm=nmU:=hU.1
 have hnP:P.nm≠nmU:=by rw [hP.1];decide+kernel
 have hnQ:Q.nm≠nmU:=by rw [hQ.1];decide+kernel
 have hv:VTab U:=hU.2.2
 have hlen:∀ r∈U.rs,r.2.length=3:=fun r hr=>by
  obtain ⟨_,_,_,_,hok,_⟩:=XU hv.val
  have h1:=WN (Vp hok r hr)
  rw [hc] at h1
  exact h1
 have hasc:(U.rs.map (·.1)).Pairwise (·<·):=Uy hv.val
 have hset:=fun i=>U1 hv hc hb i
 have hvS:∀ i,VTab (ZP U lo hi i):=fun i=>hv.set (hset i)
 have hstS:∀ i,StOk [P,Q,ZP U lo hi i]:=fun i=>hst.set (k:=2) rfl (x:=ZP U lo hi i) rfl rfl (hvS i)
 have hlimS:∀ i,∀ y∈[P,Q,ZP U lo hi i],TbM y∧y.cs.length≤100∧y.rs.length≤100∧∀ r∈y.rs,r.2.length≤6:=fun i y hy=>by
  simp only [List.mem_cons,List.not_mem_nil,or_false] at hy
  rcases hy with rfl|rfl|rfl
  ·exact hlim _ (by simp)
  ·exact hlim _ (by simp)
  ·have h1:=hlim U (by simp)
   have hm:=h1.1
   refine ⟨⟨hm.nm,hm.cs,by show (U.rs.map _).length≤_;rw [Kj];exact hm.rs,fun r hr=>by
    obtain ⟨z,hz,rfl⟩:=Kt.1 hr
    show (z.2.set 1 _).length≤_
    rw [List.length_set]
    exact hm.row z hz⟩,h1.2.1,by show (U.rs.map _).length≤_;rw [Kj];exact h1.2.2.1,fun r hr=>?_⟩
   obtain ⟨z,hz,rfl⟩:=Kt.1 hr
   show (z.2.set 1 _).length≤6
   rw [List.length_set]
   exact h1.2.2.2 z hz
 rw [←hW]
 refine ⟨fun i hi2=>?_,fun i hi2=>?_,fun i hi2 y hy=>⟨(hlimS i y hy).1,(hlimS i y hy).2.1⟩,h.tab,fun i hi2=>⟨hnP,hnQ,hnU⟩,fun i hi2=>?_,by omega⟩
 ·have hmin:min i W=i:=by omega
  have e1:ZP U lo hi i=Z5 1 (nV (hi - i)) U:=by unfold ZP;rw [←hW,hmin]
  have e2:=Zmb (P:=P) (Q:=Q) (U:=ZP U lo hi i) (p:=hi - i) d h ⟨hb.1,by omega⟩ (by omega) (hvS i) hc ⟨hnP,hnQ,hnU⟩ (hlimS i) (fun r hr=>by
   obtain ⟨z,hz,rfl⟩:=Kt.1 hr
   show (z.2.set 1 _).length=3
   rw [List.length_set]
   exact hlen z hz) (fun r hr=>by
   rw [e1] at hr
   obtain ⟨z,hz,rfl⟩:=Kt.1 hr
   show (z.2.set 1 (nV (hi - i)))[1]? =_
   rw [List.getElem?_set_self (by rw [hlen z hz];omega)])
  have e3:(decide (lo≤hi - (i:Int))&&decide (hi - (i:Int)≤hi))=decide (i<W):=by
   by_cases hlt:i<W
   ·rw [decide_eq_true (show lo≤hi - (i:Int) by omega),decide_eq_true (show hi - (i:Int)≤hi by omega),decide_eq_true hlt];rfl
   ·rw [decide_eq_false (show ¬lo≤hi - (i:Int) by omega),decide_eq_false hlt];rfl
  rw [e3] at e2
  exact e2
 ·by_cases hlt:i<W
  ·rw [decide_eq_true hlt,Lg rfl]
   unfold ZP
   rw [←hW,Zld,show min (i+1) W=i+1 by omega]
   congr 2
   omega
  ·rw [decide_eq_false hlt,Lf (by decide)]
   unfold ZP
   rw [←hW,show min (i+1) W=min i W by omega]
 ·have hbet:=Ze5 hv.val (hset i) (hset (i+1))
  have hd:=ZaV (hstS i) (hstS (i+1)) hbet
  refine ⟨_,hd,fun hm=>?_,fun hm=>?_⟩
  ·have hne2:nV (hi - (min i (hi - lo+1).toNat:Nat))≠nV (hi - (min (i+1) (hi - lo+1).toNat:Nat)):=fun e=>by
    have e5:=congrArg Vl.i e
    simp only [nV] at e5
    omega
   have ht:=Zl6 (k:=1) hasc (fun r hr=>by rw [hlen r hr];omega) hne2 hne
   refine ⟨_,Lf ?_,hnU,rfl,rfl,ht⟩
   simp only [Y7,List.length_nil,true_and,decide_eq_true_eq]
   exact fun h0=>ht (List.eq_nil_of_length_eq_zero h0)
  ·have hee:ZP U lo hi (i+1)=ZP U lo hi i:=by
    unfold ZP
    rw [←hW,show min (i+1) W=min i W by omega]
   obtain ⟨f1,f2,f3,f4⟩:=Gj (hvS i).val (hvS i).val (LaterOk.refl _)
   have hb2:Zw (ZP U lo hi i) (ZP U lo hi (i+1))=(true,_):=hbet
   rw [hee,f1] at hb2
   injection hb2 with _ hb2
   rw [←hb2,if_pos (by simp [Y7,f2,f3,f4])]
theorem Zhg {P Q U:Tb} {lo hi:Int} (hb:0≤lo∧lo≤hi∧hi≤100) (hst:StOk [P,Q,U]):∃ L,Y6 [P,Q,U] [P,Q,ZP U lo hi 0]=(true,L)∧(L=[]∨U.rs≠[]∧∃ d:Dl,L=[d]∧d.nm=nmU∧d.ins=[]∧d.del=[]∧d.upd≠[]):=by
 have hU:=hst.at_ 2 U rfl
 have hset:=U1 hU.2.2 hU.2.1 hb 0
 have hbet:=Ze6 hU.2.2.val hset
 have hd:=ZaV hst (hst.set (k:=2) rfl (x:=ZP U lo hi 0) rfl rfl (hU.2.2.set hset)) hbet
 refine ⟨_,hd,?_⟩
 obtain ⟨X,hX⟩:∃ X,X=YF U.rs (U.rs.map (setR 1 (nV (hi - (min 0 (hi - lo+1).toNat:Nat))))):=⟨_,rfl⟩
 rw [←hX]
 by_cases h0:X=[]
 ·left
  rw [h0,if_pos (by simp [Y7])]
 ·right
  refine ⟨fun hu=>h0 (by rw [hX,hu];rfl),_,Lf ?_,hU.1,rfl,rfl,h0⟩
  simp only [Y7,List.length_nil,true_and,decide_eq_true_eq]
  exact fun h1=>h0 (List.eq_nil_of_length_eq_zero h1)
theorem Zgf (U:Tb) {lo hi:Int}:ZP U lo hi 0=Z5 1 (nV hi) U:=by simp [ZP]
theorem Zge (U:Tb) {lo hi:Int} (h:lo≤hi):ZP U lo hi ((hi - lo+1).toNat+1)=Z5 1 (nV (lo - 1)) U:=by
 unfold ZP
 rw [show hi - ((min ((hi - lo+1).toNat+1) (hi - lo+1).toNat:Nat):Int)=lo - 1 by omega]
theorem Jd {P Q U:Tb} (hst:StOk [P,Q,U]):∀ y∈[P,Q,U],TbM y∧y.cs.length≤100∧y.rs.length≤100∧∀ r∈y.rs,r.2.length≤6:=fun y hy=>by
 obtain ⟨j,hj⟩:=List.getElem?_of_mem hy
 have h:=(hst.at_ j y hj).2.2
 have h1:=Uz h.val
 exact ⟨h.tbm,by omega,h.rows,fun r hr=>by have:=h.len r hr;omega⟩
theorem ZlA {d:Nat} {a:Ac} {col:ByteArray} {x:Ex} {P Q U:Tb} {lo hi:Int} {k:Nat} {b:Nat→Bool} {v:Nat→Vl} (hb:0≤lo∧lo≤hi∧hi≤100) (ha:a.tab=nmU) (hst:StOk [P,Q,U]):StepsB d a col x P Q nmU (ZP U lo hi) 0 k b v:=by
 have hP:=hst.at_ 0 P rfl
 have hQ:=hst.at_ 1 Q rfl
 have hU:=hst.at_ 2 U rfl
 have hset:=U1 hU.2.2 hU.2.1 hb 0
 have hst2:StOk [P,Q,ZP U lo hi 0]:=hst.set (k:=2) rfl (x:=ZP U lo hi 0) rfl rfl (hU.2.2.set hset)
 refine ⟨fun i hi=>absurd hi (by omega),fun i hi=>absurd hi (by omega),fun i hi=>?_,ha,fun i hi=>⟨by rw [hP.1];decide+kernel,by rw [hQ.1];decide+kernel,hU.1⟩,fun i hi=>absurd hi (by omega),by omega⟩
 obtain rfl:i=0:=by omega
 exact fun y hy=>⟨(Jd hst2 y hy).1,(Jd hst2 y hy).2.1⟩
end
end Go.Proofs.YtnmnkbnmollpmaaGreatDoor

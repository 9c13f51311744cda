import Derived.Test.YtnbbllkbefagmaaGreatDoorEvCntSaidMC
import Derived.Test.YtnbbllkbefagmaaGreatDoorEvCntSaidMG
import Derived.Test.YtnbbllkbefagmaaGreatDoorEvCntSaidMD
import Derived.Deep.DeepCutAuto
import Derived.Test.YtnbbllkbefagmaaGreatDoorEvCntSaidMF
import Derived.Test.YtnbbllkbefagmaaGreatDoorEvCntSaidML
import Derived.Deep.LoopGhost
import Derived.Deep.CutRange
import Derived.Test.YtnbbllkbefagmaaGreatDoorEvCntSaidME
import Derived.Deep.RegionHeld3
import Derived.WalkSpells
import Derived.Test.YtnbbllkbefagmaaGreatDoorEvCntSaidMK
import Derived.Test.YtnbbllkbefagmaaGreatDoorEvCntSaidMI
import Derived.Shelf.SlGeneric
import Derived.Shelf.SlSortCmp.NoneTotal
import Derived.Ground.SlsfProg
import Derived.Test.YtnbbllkbefagmaaGreatDoorProg
import Derived.Test.YtnbbllkbefagmaaGreatDoorEvCntSaidMA
import Derived.Shelf.SlSortCmp.QuietGrown
import Derived.Sort.Statements
import Derived.Shelf.SlSortCmp.Insertion
import Derived.Laws.CopyOwn
import Derived.OrdersHeld
namespace Go.Proofs.YtnbbllkbefagmaaGreatDoor
open Go.RowKit
set_option linter.unusedVariables false
set_option linter.unusedSimpArgs false
def XH (M:Nat→Prop) (l:List Vl) (u:Value) (w:World):Prop:=∃ (C:Option Addr) (c:Nat),u=.slice C l.length c∧l.length≤c∧c≤9223372036854775807∧Ro w M (VlsIn C l.length l)
theorem JA {M:Nat→Prop} {l:List Vl} (u:Value) (w w' :World) (hr:RM M w w') (h:XH M l u w):XH M l u w' :=by
 obtain ⟨C,c,h1,h2,h3,h4⟩:=h
 exact ⟨C,c,h1,h2,h3,hr.ro h4⟩
def Zer (w:World) (M:Nat→Prop) (r:Rw) (e:Ending) (w' :World):Prop:=∃ (C:Option Addr) (c:Nat),e=.returned (.agg #[.int .i64 r.id,.slice C r.vs.length c])∧r.vs.length≤c∧c≤9223372036854775807∧Ro w' M (VlsIn C r.vs.length r.vs)∧Below w.heap.size w w'
set_option maxHeartbeats 8000000 in
set_option maxRecDepth 100000 in
theorem ZhF (M:Nat→Prop) (w:World) (hM:∀ b,M b→b<w.heap.size) (r:Rw) (hr:Ro w M (VlsIn r.A r.n r.vs)) (hn:r.n≤4398046511104):Calls Tryz.prog 172 #[.agg #[.int .i64 r.id,.slice r.A r.n r.c]] w fun e w' =>Zer w M r e w' :=by
 obtain ⟨id,A,n,c,vs⟩:=r
 have hn:n≤4398046511104:=hn
 have K0:=(((Hold.start M w hM).add (hr.less (by simp [Mut]))).Za #[.int .i64 id,.slice A n c] 124).alloc #[.int .i64 0,.slice none 0 0] 124
 rw [World.size_alloc] at K0
 obtain ⟨gx,hgx⟩:∃ g,g=w.heap.size:=⟨_,rfl⟩
 rw [←hgx] at K0
 obtain ⟨gr,hgr⟩:∃ g,g=gx+1:=⟨_,rfl⟩
 rw [←hgr] at K0
 clear hr
 go_enter Tryz.func172,Tryz.ntmps172
 go_upto_region 1 with fail
 rw [←hgx]
 try rw [←hgr]
 have HGX:=hid (And.intro hgx hgr)
 clear hgx hgr
 generalize World.alloc _ _=w1 at K0 ⊢
 obtain ⟨KM,hKM,K6⟩:=K0.name
 have H1:∀ wv:World,Hold M none w wv KM→Blk wv gx 124 #[.int .i64 id,.slice A n c]:=fun wv h=>by rw [hKM] at h;exact h.ZB 1 rfl
 have H2:∀ wv:World,Hold M none w wv KM→Ro wv (Mut M KM) (VlsIn A n vs):=fun wv h=>by rw [hKM] at h ⊢;exact h.ro 2 rfl
 have HH1:=hid H1
 have HH2:=hid H2
 have HKM:=hid hKM
 clear hKM H1 H2 K0
 refine wp_region_any (by kernel_rfl) ?_
 refine Zp 6 9 (KM) (spL [(7,XH (Mut M KM) vs)]) (by kernel_rfl) (by kernel_rfl) (by kernel_rfl) rfl ?_ (K6.drew) ?_
 ·exact Ze JA (Zo _)
 simp only [zd,Act.put,List.getElem_toArray,List.getElem_cons_zero,List.getElem_cons_succ,zl]
 refine' dv rfl rfl rfl (fun wv HC=>?_) ?_;rotate_left
 · go_simp<;>rfl
 simp only [Act.put,zl]
 refine' dv rfl rfl rfl (fun wv HC=>?_) ?_;rotate_left
 ·have q0:=(HH1.out _ HC).cell 0;go_simp<;>rfl
 simp only [Act.put,zl]
 refine' dv rfl rfl rfl (fun wv HC=>?_) ?_;rotate_left
 · go_simp<;>rfl
 simp only [Act.put,zl]
 refine' dv rfl rfl rfl (fun wv HC=>?_) ?_;rotate_left
 ·have q0:=(HH1.out _ HC).cell 1;go_simp<;>rfl
 simp only [Act.put,zl]
 refine Zm 7 (XH (Mut M KM) vs) (f:=174) (args:=#[.slice A n c]) rfl rfl rfl rfl (fun wv=>?_) (fun wv HC hrm hD=>?_) ?_
 ·go_simp<;>rfl
 ·refine (Q6 (Mut M KM) wv HC.Zb A n c vs (HH2.out _ HC) hn).mono ?_
  rintro e w5 ⟨C,q,cap,rfl,hq,hqc,hcap,rC,b5⟩
  subst hq
  exact ⟨_,rfl,⟨C,cap,rfl,hqc,hcap,rC⟩,HC.call b5,RM.below b5⟩
 rintro u wx HCx ⟨C,cap,rfl,hc1,hc2,rC⟩
 clear HCx rC
 simp only [Act.put,zl]
 refine' dv rfl rfl rfl (fun wv HC=>?_) ?_;rotate_left
 · go_simp<;>rfl
 simp only [Act.put,zl]
 refine Zj ?_
 rintro wx3 HX
 rintro _hrm HGW
 have h1:XH (Mut M KM) vs (.slice C vs.length cap) wx3:=(Zl (d:=7) rfl).1 (HGW 4 _ rfl (by omega))
 clear HGW _hrm
 obtain ⟨C',cap',e',-,-,rC⟩:=h1
 obtain ⟨rfl,rfl⟩:C=C' ∧cap=cap' :=by injection e' with e1 e2 e3;exact ⟨e1,e3⟩
 have K7:=HX.add rC
 rw [HKM.out] at K7
 have K8:=(K7.store 1 rfl 0 (.int .i64 id)).store 1 rfl 1 (.slice C vs.length cap)
 simp only [zl] at K8
 have F7:=K7.facts
 simp only [zg] at F7
 have F8:=K8.facts
 simp only [zg] at F8
 have HR:=hid ((K8.ro 0 rfl).less zm)
 have HB:=hid K8.below
 clear K8 K7 HX rC HH1 HH2 HKM K6 e'
 go_wp2_with fail
 refine bodyPost_ret (v:=.agg #[.int .i64 id,.slice C vs.length cap]) ?_ rfl ?_
 ·clear HR HB
  simp [results,Tryz.results172,go_sem,F8]
 ·exact ⟨C,cap,rfl,hc1,hc2,HR.out,HB.out⟩
def ZeE (w:World) (M:Nat→Prop) (r:Pr) (e:Ending) (w' :World):Prop:=∃ (C:Option Addr) (c:Nat) (D:Option Addr) (d:Nat),e=.returned (.agg #[.int .i64 r.id,.slice C r.old.length c,.slice D r.new.length d])∧(r.old.length≤c∧c≤9223372036854775807)∧(r.new.length≤d∧d≤9223372036854775807)∧Ro w' M (VlsIn C r.old.length r.old)∧Ro w' M (VlsIn D r.new.length r.new)∧Below w.heap.size w w'
set_option maxHeartbeats 8000000 in
set_option maxRecDepth 100000 in
theorem Zc0 (M:Nat→Prop) (w:World) (hM:∀ b,M b→b<w.heap.size) (r:Pr) (hr:Ro w M (VlsIn r.oA r.on r.old)) (hr2:Ro w M (VlsIn r.nA r.nn r.new)) (hn:r.on≤4398046511104) (hn2:r.nn≤4398046511104):Calls Tryz.prog 115 #[.agg #[.int .i64 r.id,.slice r.oA r.on r.oc,.slice r.nA r.nn r.nc]] w fun e w' =>ZeE w M r e w' :=by
 obtain ⟨id,oA,on,oc,old,nA,nn,nc,new⟩:=r
 have hn:on≤4398046511104:=hn
 have hn2:nn≤4398046511104:=hn2
 have K0:=((((Hold.start M w hM).add (hr2.less (by simp [Mut]))).add (hr.less (by simp [Mut,Hp.foot]))).Za #[.int .i64 id,.slice oA on oc,.slice nA nn nc] 115).alloc #[.int .i64 0,.slice none 0 0,.slice none 0 0] 115
 rw [World.size_alloc] at K0
 obtain ⟨gx,hgx⟩:∃ g,g=w.heap.size:=⟨_,rfl⟩
 rw [←hgx] at K0
 obtain ⟨gr,hgr⟩:∃ g,g=gx+1:=⟨_,rfl⟩
 rw [←hgr] at K0
 clear hr hr2
 go_enter Tryz.func115,Tryz.ntmps115
 go_upto_region 1 with fail
 rw [←hgx]
 try rw [←hgr]
 have HGX:=hid (And.intro hgx hgr)
 clear hgx hgr
 generalize World.alloc _ _=w1 at K0 ⊢
 obtain ⟨KM,hKM,K6⟩:=K0.name
 have H1:∀ wv:World,Hold M none w wv KM→Blk wv gx 115 #[.int .i64 id,.slice oA on oc,.slice nA nn nc]:=fun wv h=>by rw [hKM] at h;exact h.ZB 1 rfl
 have H2:∀ wv:World,Hold M none w wv KM→Ro wv (Mut M KM) (VlsIn oA on old):=fun wv h=>by rw [hKM] at h ⊢;exact h.ro 2 rfl
 have H3:∀ wv:World,Hold M none w wv KM→Ro wv (Mut M KM) (VlsIn nA nn new):=fun wv h=>by rw [hKM] at h ⊢;exact h.ro 3 rfl
 have HH1:=hid H1
 have HH2:=hid H2
 have HH3:=hid H3
 have HKM:=hid hKM
 clear hKM H1 H2 H3 K0
 refine wp_region_any (by kernel_rfl) ?_
 refine Zp 9 12 (KM) (spL [(7,XH (Mut M KM) old),(10,XH (Mut M KM) new)]) (by kernel_rfl) (by kernel_rfl) (by kernel_rfl) rfl ?_ (K6.drew) ?_
 ·exact Ze JA (Ze JA (Zo _))
 simp only [zd,Act.put,List.getElem_toArray,List.getElem_cons_zero,List.getElem_cons_succ,zl]
 refine' dv rfl rfl rfl (fun wv HC=>?_) ?_;rotate_left
 · go_simp<;>rfl
 simp only [Act.put,zl]
 refine' dv rfl rfl rfl (fun wv HC=>?_) ?_;rotate_left
 ·have q0:=(HH1.out _ HC).cell 0;go_simp<;>rfl
 simp only [Act.put,zl]
 refine' dv rfl rfl rfl (fun wv HC=>?_) ?_;rotate_left
 · go_simp<;>rfl
 simp only [Act.put,zl]
 refine' dv rfl rfl rfl (fun wv HC=>?_) ?_;rotate_left
 ·have q0:=(HH1.out _ HC).cell 1;go_simp<;>rfl
 simp only [Act.put,zl]
 refine Zm 7 (XH (Mut M KM) old) (f:=174) (args:=#[.slice oA on oc]) rfl rfl rfl rfl (fun wv=>?_) (fun wv HC hrm hD=>?_) ?_
 ·go_simp<;>rfl
 ·refine (Q6 (Mut M KM) wv HC.Zb oA on oc old (HH2.out _ HC) hn).mono ?_
  rintro e w5 ⟨C,q,cap,rfl,hq,hqc,hcap,rC,b5⟩
  subst hq
  exact ⟨_,rfl,⟨C,cap,rfl,hqc,hcap,rC⟩,HC.call b5,RM.below b5⟩
 rintro u wx HCx ⟨C,cap,rfl,hc1,hc2,rC⟩
 clear HCx rC
 simp only [Act.put,zl]
 refine' dv rfl rfl rfl (fun wv HC=>?_) ?_;rotate_left
 · go_simp<;>rfl
 simp only [Act.put,zl]
 refine' dv rfl rfl rfl (fun wv HC=>?_) ?_;rotate_left
 ·have q0:=(HH1.out _ HC).cell 2;go_simp<;>rfl
 simp only [Act.put,zl]
 refine Zm 10 (XH (Mut M KM) new) (f:=174) (args:=#[.slice nA nn nc]) rfl rfl rfl rfl (fun wv=>?_) (fun wv HC hrm hD=>?_) ?_
 ·go_simp<;>rfl
 ·refine (Q6 (Mut M KM) wv HC.Zb nA nn nc new (HH3.out _ HC) hn2).mono ?_
  rintro e w5 ⟨D,q,dap,rfl,hq,hqc,hcap,rC,b5⟩
  subst hq
  exact ⟨_,rfl,⟨D,dap,rfl,hqc,hcap,rC⟩,HC.call b5,RM.below b5⟩
 rintro u wx HCx ⟨D,dap,rfl,hd1,hd2,rC⟩
 clear HCx rC
 simp only [Act.put,zl]
 refine' dv rfl rfl rfl (fun wv HC=>?_) ?_;rotate_left
 · go_simp<;>rfl
 simp only [Act.put,zl]
 refine Zj ?_
 rintro wx3 HX
 rintro _hrm HGW
 have h1:XH (Mut M KM) old (.slice C old.length cap) wx3:=(Zl (d:=7) rfl).1 (HGW 4 _ rfl (by omega))
 have h2:XH (Mut M KM) new (.slice D new.length dap) wx3:=(Zl (d:=10) rfl).1 (HGW 7 _ rfl (by omega))
 clear HGW _hrm
 obtain ⟨C',cap',e',-,-,rC⟩:=h1
 obtain ⟨rfl,rfl⟩:C=C' ∧cap=cap' :=by injection e' with e1 e2 e3;exact ⟨e1,e3⟩
 obtain ⟨D',dap',e2',-,-,rD⟩:=h2
 obtain ⟨rfl,rfl⟩:D=D' ∧dap=dap' :=by injection e2' with e1 e2 e3;exact ⟨e1,e3⟩
 have K7:=(HX.add rC).add (rD.less (by simp [ZI,Hp.foot]))
 rw [HKM.out] at K7
 have K8:=((K7.store 2 rfl 0 (.int .i64 id)).store 2 rfl 1 (.slice C old.length cap)).store 2 rfl 2 (.slice D new.length dap)
 simp only [zl] at K8
 have F7:=K7.facts
 simp only [zg] at F7
 have F8:=K8.facts
 simp only [zg] at F8
 have HR:=hid ((K8.ro 1 rfl).less zm)
 have HR2:=hid ((K8.ro 0 rfl).less zm)
 have HB:=hid K8.below
 clear K8 K7 HX rC rD HH1 HH2 HH3 HKM K6 e' e2'
 go_wp2_with fail
 refine bodyPost_ret (v:=.agg #[.int .i64 id,.slice C old.length cap,.slice D new.length dap]) ?_ rfl ?_
 ·clear HR HR2 HB
  simp [results,Tryz.results115,go_sem,F8]
 ·exact ⟨C,cap,D,dap,rfl,⟨hc1,hc2⟩,⟨hd1,hd2⟩,HR.out,HR2.out,HB.out⟩
def Qq (l:List Rw):Prop:=∀ x∈l,x.n=x.vs.length
def Zbd (w:World) (M:Nat→Prop) (l:List Rw) (e:Ending) (w' :World):Prop:=∃ (A:Option Addr) (n c:Nat) (k:List Rw),e=.returned (.slice A n c)∧k.map Rw.row=l.map Rw.row∧(n≤c∧c≤9223372036854775807)∧Qq k∧Ro w' M (RwsIn A n k)∧Below w.heap.size w w'
theorem ZeV {l:List Rw} {x:Rw} (h:Qq l) (hx:x.n=x.vs.length):Qq (l++[x]):=fun y hy=>by
 rcases List.mem_append.1 hy with hy|hy
 ·exact h y hy
 ·simp only [List.mem_cons,List.not_mem_nil,or_false] at hy
  subst hy
  exact hx
theorem Zeg {α β:Type} {f:α→β} {l:List α} {k:List α} {j:Nat} {x y:α} (h:k.map f=(l.take j).map f) (hx:l[j]? =some x) (hy:f y=f x):(k++[y]).map f=(l.take (j+1)).map f:=by
 obtain ⟨hl,e⟩:=List.getElem?_eq_some_iff.1 hx
 rw [List.take_succ_eq_append_getElem hl,List.map_append,List.map_append,h,e]
 simp [hy]
set_option maxHeartbeats 8000000 in
set_option maxRecDepth 100000 in
theorem ZfN (M:Nat→Prop) (w:World) (hM:∀ b,M b→b<w.heap.size) (A:Option Addr) (n c:Nat) (l:List Rw) (hD:Ro w M (RwsIn A n l)) (hn:n≤1000000) (hr:∀ x∈l,x.n≤4398046511104):Calls Tryz.prog 171 #[.slice A n c,.func (.func 172) #[] #[]] w fun e w' =>Zbd w M l e w' :=by
 have HL:=hid hD.now.len
 have HR:=hid hr
 have K0:=(((Hold.start M w hM).add (hD.less (by simp [Mut]))).add (S:=YT []) (fun w2 _ _ x hx=>(nomatch hx))).nil 124 2
 clear hD hr
 go_enter Tryz.func171,Tryz.ntmps171
 go_wp2_with fail
 go_loopw [5,10] (fun ov iv wr=>∃ (j cap:Nat) (O:Option Addr) (outs:List Rw),j≤n∧iv=.int .i64 j∧ov=.slice O j cap∧Hid (outs.map Rw.row=(l.take j).map Rw.row∧Qq outs)∧Hold M none w wr [.own 124 2 (.slice O j cap) j (ZJ outs),.ro (YT outs),.ro (RwsIn A n l)]) (fun _ iv _=>n - (intOf iv).toNat)
 case atStart=>exact ⟨0,0,none,[],by omega,rfl,rfl,hid ⟨rfl,fun x hx=>(nomatch hx)⟩,K0⟩
 case round=>
  clear K0
  obtain ⟨j,cap,O,outs,hj,rfl,rfl,HO,H⟩:=hrel
  by_cases hlt:j<n
  ·obtain ⟨x,hx⟩:=Zq HL.out hlt
   obtain ⟨b,o,rfl,hb,c0,c1,-⟩:=(H.ro 2 rfl).now.at_ hx
   have hm:=List.mem_of_getElem? hx
   have HX:=hid hx
   clear hx
   have K1:=H.Za #[.int .i64 x.id,.slice x.A x.n x.c] 124
   have F1:=K1.facts
   simp only [zg] at F1
   clear H
   go_wp2_with fail
   clear F1 c0 c1
   refine (ZhF (Mut M _) _ K1.Zb x ((K1.ro 3 rfl).imp fun w2 h2=>h2.2 x hm) (HR.out x hm)).mono ?_
   rintro e w2 ⟨C,cc,rfl,hc1,hc2,rC,b2⟩
   have K2:=(K1.call b2).add rC
   clear K1 b2 rC
   obtain ⟨cn,hcn⟩:∃ k,k=x.vs.length:=⟨_,rfl⟩
   rw [←hcn] at K2 hc1 ⊢
   have HCN:=hid hcn
   clear hcn
   go_wp2_with (at_builtin;go_must (refine ZH K2 2 rfl Tryz.WE #[.int .i64 x.id,.slice C cn cc] rfl (.tmp 14) (.tmp 18) rfl rfl _ (by first|rfl|simp) rfl rfl (by intro u hu;simp at hu;rcases hu with rfl|rfl<;>rfl) (by omega) (by omega) ?_);intro gA capA wA hcA hmA KA;simp only [zl] at KA)
   rw [show ZJ outs++(#[.int .i64 x.id,.slice C cn cc]:Array Value).toList=ZJ (outs++[⟨x.id,C,cn,cc,x.vs⟩]) from (ZeQ outs ⟨x.id,C,cn,cc,x.vs⟩).symm] at KA
   have KB:=(KA.Yy 3 rfl (Wl (r:=⟨x.id,C,cn,cc,x.vs⟩) (KA.ro 3 rfl) (KA.ro 0 rfl))).drop (List.Sublist.cons _ (List.sublist_cons_self _ _))
   simp only [zl] at KB
   go_roundw
   case rel=>exact ⟨j+1,capA,_,outs++[⟨x.id,C,cn,cc,x.vs⟩],by omega,by go_num,by first|rfl|trivial,hid ⟨Zeg HO.out.1 HX.out rfl,ZeV HO.out.2 HCN.out⟩,KB⟩
   case measure=>simp [intOf];omega
  ·obtain rfl:n=j:=by omega
   have hcap:=ZR (H.get 0 rfl)
   have KZ:=H.Zu 0 rfl
   simp only [List.set_cons_zero] at KZ
   have hR:Ro _ _ (RwsIn O n outs):=((KZ.ro 0 rfl).and (KZ.ro 1 rfl)).imp fun w2 h2=>⟨h2.1,h2.2⟩
   have HRO:=hid (hR.less zm)
   have HB:=hid KZ.below
   clear KZ H hR
   go_wp2_with fail
   go_ret
   exact ⟨O,n,cap,outs,rfl,by rw [HO.out.1,List.take_of_length_le (by rw [HL.out];exact Nat.le_refl _)],⟨hcap.1,hcap.2.1⟩,HO.out.2,HRO.out,HB.out⟩
set_option maxHeartbeats 8000000 in
theorem Zas (M:Nat→Prop) (w:World) (hM:∀ b,M b→b<w.heap.size) (A:Option Addr) (n c:Nat) (l:List Rw) (hD:Ro w M (RwsIn A n l)) (hn:n≤1000000) (hr:∀ x∈l,x.n≤4398046511104):Calls Tryz.prog 113 #[.slice A n c] w fun e w' =>Zbd w M l e w' :=by
 have HR:=hid hr
 have K0:=((Hold.start M w hM).add (hD.less (by simp [Mut])))
 clear hD hr
 go_enter Tryz.func113,Tryz.ntmps113
 go_wp2_with fail
 refine (ZfN (Mut M _) _ K0.Zb A n c l (K0.ro 0 rfl) hn HR.out).mono ?_
 rintro e w2 ⟨C,q,cap,k,rfl,hk,hc,hl,rC,b2⟩
 have HB:=hid (K0.call b2).below
 have HC:=hid (rC.less zm)
 clear K0 rC b2
 go_wp2_with fail
 go_ret
 exact ⟨C,q,cap,k,rfl,hk,hc,hl,HC.out,HB.out⟩
structure Itm where
 tr:ByteArray
 row:Int
 oA:Option Addr
 on:Nat
 oc:Nat
 nA:Option Addr
 nn:Nat
 nc:Nat
def Itm.cells (x:Itm):List Value:=[.string x.tr,.int .i64 x.row,.slice x.oA x.on x.oc,.slice x.nA x.nn x.nc]
def ZV (l:List Itm):List Value:=l.flatMap Itm.cells
theorem JB (l:List Itm):(ZV l).length=l.length * 4:=Yu _ 4 (fun _=>rfl) l
theorem QI (l:List Itm) (x:Itm):ZV (l++[x])=ZV l++x.cells:=by simp [ZV]
abbrev Sh:=ByteArray × Int × Nat × Nat
def Itm.sh (x:Itm):Sh:=(x.tr,x.row,x.on,x.nn)
def X7 (nm:ByteArray) (r:Row):Sh:=(nm,r.1,0,r.2.length)
def WO (nm:ByteArray) (r:Row):Sh:=(nm,r.1,r.2.length,0)
def VY (nm:ByteArray) (p:Upd):Sh:=(nm,p.1,p.2.1.length,p.2.2.length)
theorem QD {A:Option Addr} {n:Nat} {l:List Vl} {w:World} (h:VlsIn A n l w):l.length=n:=by
 have:=(show Rd w w.heap.size 3 A n (Z5 l) from h).1
 rw [JQ] at this
 omega
theorem Jy {α β γ:Type} {f:α→γ} {g:β→γ} {l:List α} {k:List β} {p:List γ} {j:Nat} {x:α} {y:β} (h:k.map g=p++(l.take j).map f) (hx:l[j]? =some x) (hy:g y=f x):(k++[y]).map g=p++(l.take (j+1)).map f:=by
 obtain ⟨hl,e⟩:=List.getElem?_eq_some_iff.1 hx
 rw [List.take_succ_eq_append_getElem hl,List.map_append,List.map_append,h,e]
 simp [hy]
def ZaT (w:World) (M:Nat→Prop) (s:List Sh) (e:Ending) (w' :World):Prop:=∃ (A:Option Addr) (n c:Nat) (l:List Itm),e=.returned (.slice A n c)∧l.map Itm.sh=s∧(n≤c∧c≤9223372036854775807)∧Ro w' M (SlR 4 A n (ZV l))∧Below w.heap.size w w'
theorem Tryz.Qa:ElemT Tryz.prog 33 53 4 72 (.agg #[.string ⟨#[]⟩,.int .i64 0,.slice none 0 0,.slice none 0 0]):=⟨Tryz.underlying33,by kernel_rfl,rfl,by omega⟩
set_option maxHeartbeats 8000000 in
set_option maxRecDepth 100000 in
theorem ZeU (M:Nat→Prop) (w:World) (hM:∀ b,M b→b<w.heap.size) (t:Tg) (dn:ByteArray) (I:Option Addr) (ni ci:Nat) (li:List Rw) (D:Option Addr) (nd cd:Nat) (ld:List Rw) (U:Option Addr) (nu cu:Nat) (lu:List Pr) (hI:Ro w M (RwsIn I ni li)) (hD:Ro w M (RwsIn D nd ld)) (hU:Ro w M (PrsIn U nu lu)) (h1:ni≤1000000) (h2:nd≤1000000) (h3:nu≤1000000):Calls Tryz.prog 50 #[t.val,.agg #[.string dn,.slice I ni ci,.slice D nd cd,.slice U nu cu]] w fun e w' =>ZaT w M (li.map (X7 t.name ∘ Rw.row)++ld.map (WO t.name ∘ Rw.row)++lu.map (VY t.name ∘ Pr.upd)) e w' :=by
 obtain ⟨tn,tt,tb,te,⟨oA,on,oc,ol⟩,tch,⟨pA,pn,pc,pl⟩,⟨qA,qn,qc,ql⟩,⟨rA,rn,rc,rl⟩,⟨kA,kn,kc,kl⟩,⟨aA,an,ac,al⟩⟩:=t
 have HL0:=hid (show li.length=ni from hI.now.len)
 have HL1:=hid (show ld.length=nd from hD.now.len)
 have HL2:=hid (show lu.length=nu from hU.now.len)
 have KS:=((((((Hold.start M w hM).add (hU.less (by simp [Mut]))).add (hD.less (by simp [Mut,Hp.foot]))).add (hI.less (by simp [Mut,Hp.foot]))).Za #[.string tn,.string tt,.bool tb,.int .i64 te,.slice oA on oc,.bool tch,.slice pA pn pc,.slice qA qn qc,.slice rA rn rc,.slice kA kn kc,.slice aA an ac] 40).Za #[.string dn,.slice I ni ci,.slice D nd cd,.slice U nu cu] 44).nil 53 4
 rw [World.size_alloc] at KS
 obtain ⟨gt,hgt⟩:∃ g,g=w.heap.size:=⟨_,rfl⟩
 rw [←hgt] at KS
 obtain ⟨gd,hgd⟩:∃ g,g=gt+1:=⟨_,rfl⟩
 rw [←hgd] at KS
 clear hI hD hU
 simp only [Tg.val]
 go_enter Tryz.func50,Tryz.ntmps50
 go_upto_region 1 with fail
 rw [←hgt]
 try rw [←hgd]
 have HG:=hid (And.intro hgt hgd)
 clear hgt hgd
 generalize World.alloc _ _=w1 at KS ⊢
 obtain ⟨O0,hO0⟩:∃ O:Option Addr,O=none:=⟨_,rfl⟩
 have K0:Hold M none w w1 [.own 53 4 (.slice none 0 0) 0 (ZV []),.cst gd 44 #[.string dn,.slice I ni ci,.slice D nd cd,.slice U nu cu],.cst gt 40 #[.string tn,.string tt,.bool tb,.int .i64 te,.slice oA on oc,.bool tch,.slice pA pn pc,.slice qA qn qc,.slice rA rn rc,.slice kA kn kc,.slice aA an ac],.ro (RwsIn I ni li),.ro (RwsIn D nd ld),.ro (PrsIn U nu lu)]:=KS
 clear KS hO0
 have F0:=K0.facts
 simp only [zg] at F0
 go_wp2_with fail
 clear F0
 go_loopw [5,15] (fun ov iv wr=>∃ (j cap:Nat) (O:Option Addr) (outs:List Itm),j≤ni∧iv=.int .i64 j∧ov=.slice O (j) cap∧Hid (outs.map Itm.sh=[]++(li.take j).map (X7 tn ∘ Rw.row))∧Hold M none w wr [.own 53 4 (.slice O (j) cap) (j) (ZV outs),.cst gd 44 #[.string dn,.slice I ni ci,.slice D nd cd,.slice U nu cu],.cst gt 40 #[.string tn,.string tt,.bool tb,.int .i64 te,.slice oA on oc,.bool tch,.slice pA pn pc,.slice qA qn qc,.slice rA rn rc,.slice kA kn kc,.slice aA an ac],.ro (RwsIn I ni li),.ro (RwsIn D nd ld),.ro (PrsIn U nu lu)]) (fun _ iv _=>ni - (intOf iv).toNat)
 case atStart=>exact ⟨0,0,none,[],by omega,rfl,rfl,hid rfl,K0⟩
 case round=>
  clear K0
  obtain ⟨j,cap,O,outs,hj,rfl,rfl,HO,H⟩:=hrel
  by_cases hlt:j<ni
  ·obtain ⟨x,hx⟩:=Zq HL0.out hlt
   obtain ⟨b,o,rfl,hb,c0,c1,hv⟩:=(H.ro 3 rfl).now.at_ hx
   have hxn:x.n=x.vs.length:=(QD hv).symm
   have HXN:=hid hxn
   have HX:=hid hx
   clear hx hxn hv
   have K1:=H.Za #[.int .i64 x.id,.slice x.A x.n x.c] 124
   have F1:=K1.facts
   simp only [zg] at F1
   clear H
   go_wp2_with (at_builtin;go_must (refine ZH K1 1 rfl Tryz.Qa #[.string tn,.int .i64 x.id,.slice none 0 0,.slice x.A x.n x.c] rfl (.tmp 19) (.tmp 27) rfl rfl (wr.heap.size+1) (by first|rfl|simp) rfl rfl (by intro u hu;simp at hu;rcases hu with rfl|rfl|rfl|rfl<;>rfl) (by omega) (by omega) ?_);intro gA capA wA hcA hmA KA;simp only [zl] at KA)
   rw [show ZV outs++(#[.string tn,.int .i64 x.id,.slice none 0 0,.slice x.A x.n x.c]:Array Value).toList=ZV (outs++[⟨tn,x.id,none,0,0,x.A,x.n,x.c⟩]) from (QI outs ⟨tn,x.id,none,0,0,x.A,x.n,x.c⟩).symm] at KA
   have KB:=KA.drop (List.sublist_cons_self _ _)
   go_roundw
   case rel=>exact ⟨j+1,capA,_,outs++[⟨tn,x.id,none,0,0,x.A,x.n,x.c⟩],by omega,by go_num,by first|rfl|trivial,hid (Jy HO.out HX.out (by simp only [Function.comp,Itm.sh,Rw.row,X7];rw [HXN.out])),KB⟩
   case measure=>simp [intOf];omega
  ·obtain rfl:ni=j:=by omega
   have F4:=H.facts
   simp only [zg] at F4
   go_wp2_with fail
   clear F4
   have HE0:=hid (show outs.map Itm.sh=li.map (X7 tn ∘ Rw.row) from by
    rw [HO.out,List.take_of_length_le (by rw [HL0.out];exact Nat.le_refl _)]<;>simp only [List.nil_append,List.append_assoc])
   clear HO
   go_loopw [5,33] (fun ov iv wr=>∃ (j cap:Nat) (O:Option Addr) (outs:List Itm),j≤nd∧iv=.int .i64 j∧ov=.slice O (ni+j) cap∧Hid (outs.map Itm.sh=li.map (X7 tn ∘ Rw.row)++(ld.take j).map (WO tn ∘ Rw.row))∧Hold M none w wr [.own 53 4 (.slice O (ni+j) cap) (ni+j) (ZV outs),.cst gd 44 #[.string dn,.slice I ni ci,.slice D nd cd,.slice U nu cu],.cst gt 40 #[.string tn,.string tt,.bool tb,.int .i64 te,.slice oA on oc,.bool tch,.slice pA pn pc,.slice qA qn qc,.slice rA rn rc,.slice kA kn kc,.slice aA an ac],.ro (RwsIn I ni li),.ro (RwsIn D nd ld),.ro (PrsIn U nu lu)]) (fun _ iv _=>nd - (intOf iv).toNat)
   case atStart=>exact ⟨0,cap,O,outs,by omega,rfl,rfl,hid (by rw [HE0.out];simp),H⟩
   case round=>
    clear H HE0
    obtain ⟨j,cap,O,outs,hj,rfl,rfl,HO,H⟩:=hrel
    by_cases hlt:j<nd
    ·obtain ⟨x,hx⟩:=Zq HL1.out hlt
     obtain ⟨b,o,rfl,hb,c0,c1,hv⟩:=(H.ro 4 rfl).now.at_ hx
     have hxn:x.n=x.vs.length:=(QD hv).symm
     have HXN:=hid hxn
     have HX:=hid hx
     clear hx hxn hv
     have K1:=H.Za #[.int .i64 x.id,.slice x.A x.n x.c] 124
     have F1:=K1.facts
     simp only [zg] at F1
     clear H
     go_wp2_with (at_builtin;go_must (refine ZH K1 1 rfl Tryz.Qa #[.string tn,.int .i64 x.id,.slice x.A x.n x.c,.slice none 0 0] rfl (.tmp 37) (.tmp 45) rfl rfl (wr.heap.size+1) (by first|rfl|simp) rfl rfl (by intro u hu;simp at hu;rcases hu with rfl|rfl|rfl|rfl<;>rfl) (by omega) (by omega) ?_);intro gA capA wA hcA hmA KA;simp only [zl] at KA)
     rw [show ZV outs++(#[.string tn,.int .i64 x.id,.slice x.A x.n x.c,.slice none 0 0]:Array Value).toList=ZV (outs++[⟨tn,x.id,x.A,x.n,x.c,none,0,0⟩]) from (QI outs ⟨tn,x.id,x.A,x.n,x.c,none,0,0⟩).symm] at KA
     have KB:=KA.drop (List.sublist_cons_self _ _)
     go_roundw
     case rel=>exact ⟨j+1,capA,_,outs++[⟨tn,x.id,x.A,x.n,x.c,none,0,0⟩],by omega,by go_num,by first|rfl|trivial,hid (Jy HO.out HX.out (by simp only [Function.comp,Itm.sh,Rw.row,WO];rw [HXN.out])),KB⟩
     case measure=>simp [intOf];omega
    ·obtain rfl:nd=j:=by omega
     have F4:=H.facts
     simp only [zg] at F4
     go_wp2_with fail
     clear F4
     have HE1:=hid (show outs.map Itm.sh=li.map (X7 tn ∘ Rw.row)++ld.map (WO tn ∘ Rw.row) from by
      rw [HO.out,List.take_of_length_le (by rw [HL1.out];exact Nat.le_refl _)]<;>simp only [List.nil_append,List.append_assoc])
     clear HO
     go_loopw [5,51] (fun ov iv wr=>∃ (j cap:Nat) (O:Option Addr) (outs:List Itm),j≤nu∧iv=.int .i64 j∧ov=.slice O (ni+nd+j) cap∧Hid (outs.map Itm.sh=li.map (X7 tn ∘ Rw.row)++ld.map (WO tn ∘ Rw.row)++(lu.take j).map (VY tn ∘ Pr.upd))∧Hold M none w wr [.own 53 4 (.slice O (ni+nd+j) cap) (ni+nd+j) (ZV outs),.cst gd 44 #[.string dn,.slice I ni ci,.slice D nd cd,.slice U nu cu],.cst gt 40 #[.string tn,.string tt,.bool tb,.int .i64 te,.slice oA on oc,.bool tch,.slice pA pn pc,.slice qA qn qc,.slice rA rn rc,.slice kA kn kc,.slice aA an ac],.ro (RwsIn I ni li),.ro (RwsIn D nd ld),.ro (PrsIn U nu lu)]) (fun _ iv _=>nu - (intOf iv).toNat)
     case atStart=>exact ⟨0,cap,O,outs,by omega,rfl,rfl,hid (by rw [HE1.out];simp),H⟩
     case round=>
      clear H HE1
      obtain ⟨j,cap,O,outs,hj,rfl,rfl,HO,H⟩:=hrel
      by_cases hlt:j<nu
      ·obtain ⟨x,hx⟩:=Zq HL2.out hlt
       obtain ⟨b,o,rfl,hb,c0,c1,c2,hv,hv2⟩:=(H.ro 5 rfl).now.at_ hx
       have hxn:x.on=x.old.length∧x.nn=x.new.length:=⟨(QD hv).symm,(QD hv2).symm⟩
       have HXN:=hid hxn
       have HX:=hid hx
       clear hx hxn hv hv2
       have K1:=H.Za #[.int .i64 x.id,.slice x.oA x.on x.oc,.slice x.nA x.nn x.nc] 115
       have F1:=K1.facts
       simp only [zg] at F1
       clear H
       go_wp2_with (at_builtin;go_must (refine ZH K1 1 rfl Tryz.Qa #[.string tn,.int .i64 x.id,.slice x.oA x.on x.oc,.slice x.nA x.nn x.nc] rfl (.tmp 55) (.tmp 65) rfl rfl (wr.heap.size+1) (by first|rfl|simp) rfl rfl (by intro u hu;simp at hu;rcases hu with rfl|rfl|rfl|rfl<;>rfl) (by omega) (by omega) ?_);intro gA capA wA hcA hmA KA;simp only [zl] at KA)
       rw [show ZV outs++(#[.string tn,.int .i64 x.id,.slice x.oA x.on x.oc,.slice x.nA x.nn x.nc]:Array Value).toList=ZV (outs++[⟨tn,x.id,x.oA,x.on,x.oc,x.nA,x.nn,x.nc⟩]) from (QI outs ⟨tn,x.id,x.oA,x.on,x.oc,x.nA,x.nn,x.nc⟩).symm] at KA
       have KB:=KA.drop (List.sublist_cons_self _ _)
       go_roundw
       case rel=>exact ⟨j+1,capA,_,outs++[⟨tn,x.id,x.oA,x.on,x.oc,x.nA,x.nn,x.nc⟩],by omega,by go_num,by first|rfl|trivial,hid (Jy HO.out HX.out (by simp only [Function.comp,Itm.sh,Pr.upd,VY];rw [HXN.out.1,HXN.out.2])),KB⟩
       case measure=>simp [intOf];omega
      ·obtain rfl:nu=j:=by omega
       have hcap:=ZR (H.get 0 rfl)
       have KZ:=H.Zu 0 rfl
       simp only [List.set_cons_zero] at KZ
       have HR:=hid ((KZ.ro 0 rfl).less zm)
       have HB:=hid KZ.below
       clear KZ H
       go_wp2_with fail
       go_ret
       exact ⟨O,ni+nd+nu,cap,outs,rfl,by
        rw [HO.out,List.take_of_length_le (by rw [HL2.out];exact Nat.le_refl _)]
        simp only [List.append_assoc],⟨hcap.1,hcap.2.1⟩,HR.out,HB.out⟩
def YZ (i:Nat) (u:Upd):Bool:=match u.2.1[i]?,u.2.2[i]? with
 | some a,some b=>decide (a≠b)
 | _,_=>false
theorem zI {i:Nat} {u:Upd} (h:u.2.1.length≤i):YZ i u=false:=by unfold YZ;rw [List.getElem?_eq_none h]
theorem Zao {i:Nat} {u:Upd} (h:u.2.2.length≤i):YZ i u=false:=by
 unfold YZ;rw [List.getElem?_eq_none h]
 split<;>simp_all
theorem zw {i:Nat} {u:Upd} {a b:Vl} (h1:u.2.1[i]? =some a) (h2:u.2.2[i]? =some b):YZ i u=decide (a≠b):=by unfold YZ;rw [h1,h2]
def Yn (l:List ByteArray):List Value:=l.map Value.string
def StrsTx (A:Option Addr) (n:Nat) (l:List ByteArray):World→Prop:=SlR 1 A n (Yn l)
theorem StrsTx.len {w:World} {A:Option Addr} {n:Nat} {l:List ByteArray} (h:StrsTx A n l w):l.length=n:=by
 have:=(show Rd w w.heap.size 1 A n (Yn l) from h).1
 rw [Yn,List.length_map] at this
 omega
theorem StrsTx.at_ {w:World} {A:Option Addr} {n:Nat} {l:List ByteArray} (h:StrsTx A n l w) {k:Nat} {x:ByteArray} (hx:l[k]? =some x):∃ b o,A=some ⟨b,o,none⟩∧b<w.heap.size∧w.cell? ⟨b,o+k,none⟩=some (.string x):=by
 have hk:k<n:=by rw [←h.len];exact (List.getElem?_eq_some_iff.1 hx).1
 obtain ⟨b,o,e,hb,hc⟩:=(show Rd w w.heap.size 1 A n (Yn l) from h).2 (by omega)
 exact ⟨b,o,e,hb,hc k _ (by rw [Yn,List.getElem?_map,hx];rfl)⟩
set_option maxHeartbeats 4000000 in
set_option maxRecDepth 100000 in
theorem Zd4 (M:Nat→Prop) (w:World) (hM:∀ b,M b→b<w.heap.size) (x:Pr) (k:Nat) (h1:Ro w M (VlsIn x.oA x.on x.old)) (h2:Ro w M (VlsIn x.nA x.nn x.new)):
  Calls Tryz.prog 54 #[.agg #[.int .i64 x.id,.slice x.oA x.on x.oc,.slice x.nA x.nn x.nc],.int .i64 k] w fun e w' =>e=.returned (.bool (YZ k x.upd))∧Below w.heap.size w w' :=by
 obtain ⟨xid,xA,xn,xc,xo,yA,yn,yc,yo⟩:=x
 dsimp only [Pr.upd] at *
 have K0:=((Hold.start M w hM).add (h2.less (by simp [Mut]))).add (h1.less (by simp [Mut,Hp.foot]))|>.Za #[.int .i64 xid,.slice xA xn xc,.slice yA yn yc] 115
 have F0:=K0.facts
 simp only [zg] at F0
 clear h1 h2
 have k0:(0:Int)≤(k:Int):=by omega
 go_enter Tryz.func54,Tryz.ntmps54
 go_wp2_with fail
 obtain ⟨gx,hgx⟩:∃ gx,gx=w.heap.size:=⟨_,rfl⟩
 rw [←hgx] at K0 F0 ⊢
 clear hgx
 generalize w.alloc _=w3 at K0 F0 ⊢
 have hv1:VlsIn xA xn xo w3:=(K0.ro 1 rfl).now
 have hv2:VlsIn yA yn yo w3:=(K0.ro 2 rfl).now
 by_cases hk1:k<xn
 ·have e1:decide ((k:Int)<(xn:Int))=true:=by simp;omega
  have e1' :decide (k<xn)=true:=by simp;omega
  have j1:(k:Int)<(xn:Int):=by omega
  by_cases hk2:k<yn
  ·have e2:decide ((k:Int)<(yn:Int))=true:=by simp;omega
   have e2' :decide (k<yn)=true:=by simp;omega
   have j2:(k:Int)<(yn:Int):=by omega
   obtain ⟨a,ha⟩:=Zq hv1.len hk1
   obtain ⟨b,hb⟩:=Zq hv2.len hk2
   obtain ⟨ga,oa,rfl,hga,a0,a1,a2⟩:=hv1.at_ ha
   obtain ⟨gb,ob,rfl,hgb,b0,b1,b2⟩:=hv2.at_ hb
   have HAB:=hid (show YZ k (xid,xo,yo)=decide (a≠b) from zw ha hb)
   clear ha hb hv1 hv2
   by_cases h0:a.k=b.k
   ·have q0:(a.k==b.k)=true:=by simp [h0]
    have q0' :(a.k !=b.k)=false:=by simp [h0]
    by_cases h1:a.i=b.i
    ·have q1:(a.i==b.i)=true:=by simp [h1]
     by_cases h2:a.s=b.s
     ·have q2:(a.s.toList==b.s.toList)=true:=by simp [h2]
      have HD:=hid (show YZ k (xid,xo,yo)=false by rw [HAB.out];simpa using GU h0 h1 h2)
      clear h0 h1 h2 hk1 hk2
      go_quiet (fail)
      go_wp2_with fail
      go_ret
      exact ⟨by rw [HD.out]<;>rfl,(K0.drewN nq).below⟩
     ·have q2:(a.s.toList==b.s.toList)=false:=by rw [beq_eq_false_iff_ne];exact fun h=>h2 (Xt h)
      have HD:=hid (show YZ k (xid,xo,yo)=true by rw [HAB.out];simpa using fun h=>h2 (by rw [h]))
      clear h0 h1 h2 hk1 hk2
      go_quiet (fail)
      go_wp2_with fail
      go_ret
      exact ⟨by rw [HD.out]<;>rfl,(K0.drewN nq).below⟩
    ·have q1:(a.i==b.i)=false:=by simpa using h1
     have HD:=hid (show YZ k (xid,xo,yo)=true by rw [HAB.out];simpa using fun h=>h1 (by rw [h]))
     clear h0 h1 hk1 hk2
     go_quiet (fail)
     go_wp2_with fail
     go_ret
     exact ⟨by rw [HD.out]<;>rfl,(K0.drewN nq).below⟩
   ·have q0:(a.k==b.k)=false:=by simpa using h0
    have HD:=hid (show YZ k (xid,xo,yo)=true by rw [HAB.out];simpa using fun h=>h0 (by rw [h]))
    clear h0 hk1 hk2
    go_quiet (fail)
    go_wp2_with fail
    go_ret
    exact ⟨by rw [HD.out]<;>rfl,(K0.drewN nq).below⟩
  ·have e2:decide ((k:Int)<(yn:Int))=false:=by simp;omega
   have e2' :decide (k<yn)=false:=by simp;omega
   have HD:=hid (show YZ k (xid,xo,yo)=false from Zao (by have:=hv2.len;dsimp only;omega))
   clear hk1 hk2 hv1 hv2
   go_quiet (fail)
   go_wp2_with fail
   go_ret
   exact ⟨by rw [HD.out]<;>rfl,(K0.drewN nq).below⟩
 ·have e1:decide ((k:Int)<(xn:Int))=false:=by simp;omega
  have e1' :decide (k<xn)=false:=by simp;omega
  have HD:=hid (show YZ k (xid,xo,yo)=false from zI (by have:=hv1.len;dsimp only;omega))
  clear hk1 hv1 hv2
  go_quiet (fail)
  go_wp2_with fail
  go_ret
  exact ⟨by rw [HD.out]<;>rfl,(K0.drewN nq).below⟩
def Yf (cl:List Col) (s:ByteArray) (u:Upd):Bool:=if 0≤Zi (named s) cl then YZ (Zi (named s) cl).toNat u else false
def Uj (gs gp:Nat) (snm:ByteArray) (cA:Option Addr) (cn cc:Nat) (cl:List Col) (p:Pr) (w:World):Prop:=w.heap[gs]? =some (.cells #[.string snm,.slice cA cn cc] 49 (0,0))∧w.heap[gp]? =some (.cells #[.int .i64 p.id,.slice p.oA p.on p.oc,.slice p.nA p.nn p.nc] 115 (0,0))∧SlR 4 cA cn (Zd cl) w∧VlsIn p.oA p.on p.old w∧VlsIn p.nA p.nn p.new w
set_option maxHeartbeats 8000000 in
set_option maxRecDepth 100000 in
theorem Ze5 (w:World) (gs gp:Nat) (snm:ByteArray) (cA:Option Addr) (cn cc:Nat) (cl:List Col) (p:Pr) (s:ByteArray) (hx:Ro w Zc (Uj gs gp snm cA cn cc cl p)) (hn:cn≤1000):Calls Tryz.prog 173 #[.string s,.pointer (some ⟨gs,0,none⟩),.pointer (some ⟨gp,0,none⟩)] w fun e w' =>e=.returned (.bool (Yf cl s p.upd))∧Below w.heap.size w w' :=by
 obtain ⟨id,oA,on,oc,old,nA,nn,nc,new⟩:=p
 dsimp only [Pr.upd] at *
 have K0:=(Hold.start Zc w zn).add (hx.less (by simp [Mut]))
 clear hx
 obtain ⟨q1,q2,q3,hv1,hv2⟩:=(K0.ro 0 rfl).now
 have HQ1:=hid q1
 have HQ2:=hid q2
 have s0:=cell_of_row _ _ 0 _ _ _ q1
 have s1:=cell_of_row _ _ 1 _ _ _ q1
 clear q1 q2 q3
 go_enter Tryz.func173,Tryz.ntmps173
 go_wp2_with fail
 refine (ZbU (Mut Zc _) _ K0.Zb snm cA cn cc cl s ((K0.ro 0 rfl).imp fun w2 h2=>h2.2.2.1) (by omega)).mono ?_
 rintro e w2 ⟨rfl,b2⟩
 have KZ:=K0.call b2
 clear K0 hv1 hv2 s0 s1 HQ1 HQ2
 have K0:=KZ
 clear KZ b2
 obtain ⟨q1,q2,q3,hv1,hv2⟩:=(K0.ro 0 rfl).now
 dsimp only at q2 hv1 hv2
 have p0:=cell_of_row _ _ 0 _ _ _ q2
 have p1:=cell_of_row _ _ 1 _ _ _ q2
 have p2:=cell_of_row _ _ 2 _ _ _ q2
 clear q1 q2 q3
 obtain ⟨kf,hkf⟩:∃ z:Int,Zi (named s) cl=z:=⟨_,rfl⟩
 rw [hkf]
 have HKF:=hid hkf
 clear hkf
 go_upto_region 2 with fail
 by_cases hneg:kf<0
 ·have e0:decide ((0:Int)≤kf)=false:=by simp;omega
  have HD:=hid (show Yf cl s (id,old,new)=false from by unfold Yf;rw [HKF.out,if_neg (by omega)])
  clear hneg hv1 hv2
  go_quiet (fail)
  go_wp2_with fail
  go_ret
  exact ⟨by rw [HD.out]<;>rfl,(K0.drewN nq).below⟩
 ·obtain ⟨k,rfl⟩:∃ k:Nat,kf=(k:Int):=⟨kf.toNat,by omega⟩
  have HDC:=hid (show Yf cl s (id,old,new)=YZ k (id,old,new) from by unfold Yf;rw [HKF.out];simp)
  have k0:(0:Int)≤(k:Int):=by omega
  have k0' :decide ((0:Int)≤(k:Int))=true:=by simp
  clear hneg
  by_cases hk1:k<on
  ·have e1:decide ((k:Int)<(on:Int))=true:=by simp;omega
   have e1' :decide (k<on)=true:=by simp;omega
   have j1:(k:Int)<(on:Int):=by omega
   by_cases hk2:k<nn
   ·have e2:decide ((k:Int)<(nn:Int))=true:=by simp;omega
    have e2' :decide (k<nn)=true:=by simp;omega
    have j2:(k:Int)<(nn:Int):=by omega
    obtain ⟨a,ha⟩:=Zq hv1.len hk1
    obtain ⟨b,hb⟩:=Zq hv2.len hk2
    obtain ⟨ga,oa,rfl,hga,a0,a1,a2⟩:=hv1.at_ ha
    obtain ⟨gb,ob,rfl,hgb,b0,b1,b2⟩:=hv2.at_ hb
    have HAB:=hid (show Yf cl s (id,old,new)=decide (a≠b) from (HDC.out).trans (zw ha hb))
    clear ha hb hv1 hv2 HDC
    by_cases h0:a.k=b.k
    ·have q0:(a.k==b.k)=true:=by simp [h0]
     have q0' :(a.k !=b.k)=false:=by simp [h0]
     by_cases h1:a.i=b.i
     ·have q1:(a.i==b.i)=true:=by simp [h1]
      by_cases h2:a.s=b.s
      ·have q2:(a.s.toList==b.s.toList)=true:=by simp [h2]
       have HD:=hid (show Yf cl s (id,old,new)=false by rw [HAB.out];simpa using GU h0 h1 h2)
       clear h0 h1 h2 hk1 hk2
       go_quiet (fail)
       go_wp2_with fail
       go_ret
       exact ⟨by rw [HD.out]<;>rfl,(K0.drewN nq).below⟩
      ·have q2:(a.s.toList==b.s.toList)=false:=by rw [beq_eq_false_iff_ne];exact fun h=>h2 (Xt h)
       have HD:=hid (show Yf cl s (id,old,new)=true by rw [HAB.out];simpa using fun h=>h2 (by rw [h]))
       clear h0 h1 h2 hk1 hk2
       go_quiet (fail)
       go_wp2_with fail
       go_ret
       exact ⟨by rw [HD.out]<;>rfl,(K0.drewN nq).below⟩
     ·have q1:(a.i==b.i)=false:=by simpa using h1
      have HD:=hid (show Yf cl s (id,old,new)=true by rw [HAB.out];simpa using fun h=>h1 (by rw [h]))
      clear h0 h1 hk1 hk2
      go_quiet (fail)
      go_wp2_with fail
      go_ret
      exact ⟨by rw [HD.out]<;>rfl,(K0.drewN nq).below⟩
    ·have q0:(a.k==b.k)=false:=by simpa using h0
     have HD:=hid (show Yf cl s (id,old,new)=true by rw [HAB.out];simpa using fun h=>h0 (by rw [h]))
     clear h0 hk1 hk2
     go_quiet (fail)
     go_wp2_with fail
     go_ret
     exact ⟨by rw [HD.out]<;>rfl,(K0.drewN nq).below⟩
   ·have e2:decide ((k:Int)<(nn:Int))=false:=by simp;omega
    have e2' :decide (k<nn)=false:=by simp;omega
    have HD:=hid (show Yf cl s (id,old,new)=false from HDC.out.trans (Zao (by have:=hv2.len;dsimp only;omega)))
    clear hk1 hk2 hv1 hv2
    go_quiet (fail)
    go_wp2_with fail
    go_ret
    exact ⟨by rw [HD.out]<;>rfl,(K0.drewN nq).below⟩
  ·have e1:decide ((k:Int)<(on:Int))=false:=by simp;omega
   have e1' :decide (k<on)=false:=by simp;omega
   have HD:=hid (show Yf cl s (id,old,new)=false from HDC.out.trans (zI (by have:=hv1.len;dsimp only;omega)))
   clear hk1 hv1 hv2
   go_quiet (fail)
   go_wp2_with fail
   go_ret
   exact ⟨by rw [HD.out]<;>rfl,(K0.drewN nq).below⟩
set_option maxHeartbeats 8000000 in
set_option maxRecDepth 100000 in
theorem Zhk (w:World) (gs gp:Nat) (snm:ByteArray) (cA:Option Addr) (cn cc:Nat) (cl:List Col) (p:Pr) (A:Option Addr) (n c:Nat) (l:List ByteArray) (hx:Ro w Zc (Uj gs gp snm cA cn cc cl p)) (hl:Ro w Zc (SlR 1 A n (Yn l))) (hn:cn≤1000) (hn2:n≤1000):Calls Tryz.prog 179 #[.slice A n c,.func (.func 173) #[] #[.pointer (some ⟨gs,0,none⟩),.pointer (some ⟨gp,0,none⟩)]] w fun e w' =>(∃ r:Int,e=.returned (.int .i64 r)∧decide (0≤r)=l.any fun s=>Yf cl s p.upd)∧Below w.heap.size w w' :=by
 have HL:=hid (show l.length=n from StrsTx.len hl.now)
 have K0:=((Hold.start Zc w zn).add (hl.less (by simp [Mut]))).add (hx.less (by simp [Mut,Hp.foot]))
 clear hx hl
 go_enter Tryz.func179,Tryz.ntmps179
 go_wp2_with fail
 go_loopw [8] (fun iv wr=>∃ j:Nat,j≤n∧iv=.int .i64 j∧Hid (((l.take j).any fun s=>Yf cl s p.upd)=false)∧Hold Zc none w wr [.ro (Uj gs gp snm cA cn cc cl p),.ro (SlR 1 A n (Yn l))]) (fun iv _=>n - (intOf iv).toNat)
 case atStart=>exact ⟨0,by omega,rfl,hid rfl,K0⟩
 case round=>
  clear K0
  obtain ⟨j,hj,rfl,HP,H⟩:=hrel
  by_cases hlt:j<n
  ·have j0:(0:Int)≤(j:Int):=by omega
   have j1:(j:Int)<(n:Int):=by omega
   obtain ⟨x,hx⟩:=Zq HL.out hlt
   obtain ⟨b,o,rfl,hb,c0⟩:=StrsTx.at_ (H.ro 1 rfl).now hx
   have HX:=hid hx
   clear hx
   go_wp2_with fail
   refine (Ze5 wr gs gp snm cA cn cc cl p x ((H.ro 0 rfl).less zn) hn).mono ?_
   rintro e w2 ⟨rfl,b2⟩
   have K1:=H.call b2
   clear H b2 c0
   obtain ⟨z,hz⟩:∃ z:Bool,Yf cl x p.upd=z:=⟨_,rfl⟩
   rw [hz]
   have HZ:=hid hz
   clear hz
   cases z
   ·go_wp2_with fail
    go_roundw
    case rel=>exact ⟨j+1,by omega,by go_num,hid (by rw [List.take_add_one,HX.out,List.any_append,HP.out];simp [HZ.out]),K1⟩
    case measure=>simp [intOf];omega
   ·go_wp2_with fail
    go_ret
    exact ⟨⟨_,rfl,by rw [show (l.any fun s=>Yf cl s p.upd)=true from List.any_eq_true.2 ⟨x,List.mem_of_getElem? HX.out,HZ.out⟩];simp⟩,K1.below⟩
  ·obtain rfl:n=j:=by omega
   go_wp2_with fail
   go_ret
   exact ⟨⟨_,rfl,by
    have h:=HP.out
    rw [List.take_of_length_le (by rw [HL.out];exact Nat.le_refl _)] at h
    rw [h]
    rfl⟩,H.below⟩
set_option maxHeartbeats 8000000 in
theorem Ze8 (w:World) (gs gp:Nat) (snm:ByteArray) (cA:Option Addr) (cn cc:Nat) (cl:List Col) (p:Pr) (A:Option Addr) (n c:Nat) (l:List ByteArray) (hx:Ro w Zc (Uj gs gp snm cA cn cc cl p)) (hl:Ro w Zc (SlR 1 A n (Yn l))) (hn:cn≤1000) (hn2:n≤1000):Calls Tryz.prog 117 #[.slice A n c,.func (.func 173) #[] #[.pointer (some ⟨gs,0,none⟩),.pointer (some ⟨gp,0,none⟩)]] w fun e w' =>e=.returned (.bool (l.any fun s=>Yf cl s p.upd))∧Below w.heap.size w w' :=by
 go_enter Tryz.func117,Tryz.ntmps117
 go_wp2_with fail
 refine (Zhk w gs gp snm cA cn cc cl p A n c l hx hl hn hn2).mono ?_
 rintro e w2 ⟨⟨r,rfl,hr⟩,b2⟩
 have HR:=hid hr
 clear hr
 go_wp2_with fail
 go_ret
 exact ⟨by rw [←HR.out]<;>rfl,b2⟩
set_option maxHeartbeats 8000000 in
theorem Zgx (w:World) (snm:ByteArray) (cA:Option Addr) (cn cc:Nat) (cl:List Col) (p:Pr) (A:Option Addr) (n c:Nat) (l:List ByteArray) (hC:Ro w Zc (SlR 4 cA cn (Zd cl))) (h1:Ro w Zc (VlsIn p.oA p.on p.old)) (h2:Ro w Zc (VlsIn p.nA p.nn p.new)) (hl:Ro w Zc (SlR 1 A n (Yn l))) (hn:cn≤1000) (hn2:n≤1000):Calls Tryz.prog 114 #[.agg #[.int .i64 p.id,.slice p.oA p.on p.oc,.slice p.nA p.nn p.nc],.slice A n c,.agg #[.string snm,.slice cA cn cc]] w fun e w' =>e=.returned (.bool (l.any fun s=>Yf cl s p.upd))∧Below w.heap.size w w' :=by
 have K0:=((((((Hold.start Zc w zn).add (h2.less (by simp [Mut]))).add (h1.less (by simp [Mut,Hp.foot]))).add (hC.less (by simp [Mut,Hp.foot]))).add (hl.less (by simp [Mut,Hp.foot]))).Za #[.int .i64 p.id,.slice p.oA p.on p.oc,.slice p.nA p.nn p.nc] 115).Za #[.string snm,.slice cA cn cc] 49
 rw [World.size_alloc] at K0
 clear hC h1 h2 hl
 have hD:Ro _ _ (Uj (w.heap.size+1) w.heap.size snm cA cn cc cl p):=((K0.get 0 rfl).and ((K0.get 1 rfl).and ((K0.ro 3 rfl).and ((K0.ro 4 rfl).and (K0.ro 5 rfl))))).imp fun w2 h2=>h2
 go_enter Tryz.func114,Tryz.ntmps114
 go_wp2_with fail
 refine (Ze8 _ _ _ snm cA cn cc cl p A n c l (hD.less zn) ((K0.ro 2 rfl).less zn) hn hn2).mono ?_
 rintro e w2 ⟨rfl,b2⟩
 have HB:=hid (K0.call b2).below
 clear K0 b2 hD
 go_wp2_with fail
 go_ret
 exact ⟨rfl,HB.out⟩
def XL (ol:List ByteArray) (cl:List Col) (u:Upd):Bool:=ol.isEmpty||ol.any fun s=>Yf cl s u
def ZX (ev:Int) (ol:List ByteArray) (cl:List Col) (ins del:List Row) (upd:List Upd):List Row × List Row × List Upd:=
 if ev=1 then (ins,[],[]) else if ev=3 then ([],del,[]) else if ev=2 then ([],[],upd.filter (XL ol cl)) else ([],[],[])
theorem WK {α:Type} {l:List α} {j:Nat} {x:α} (hx:l[j]? =some x):l.take (j+1)=l.take j++[x]:=by
 obtain ⟨hl,e⟩:=List.getElem?_eq_some_iff.1 hx
 rw [List.take_succ_eq_append_getElem hl,e]
def U3 (M:Nat→Prop) (x:Pr) (u:Value) (w:World):Prop:=∃ (C:Option Addr) (c:Nat) (E:Option Addr) (d:Nat),u=.agg #[.int .i64 x.id,.slice C x.old.length c,.slice E x.new.length d]∧(x.old.length≤c∧c≤9223372036854775807)∧(x.new.length≤d∧d≤9223372036854775807)∧Ro w M (VlsIn C x.old.length x.old)∧Ro w M (VlsIn E x.new.length x.new)
theorem ZfV {M:Nat→Prop} {x:Pr} (u:Value) (w w' :World) (hr:RM M w w') (h:U3 M x u w):U3 M x u w' :=by
 obtain ⟨C,c,E,d,h1,h2,h3,h4,h5⟩:=h
 exact ⟨C,c,E,d,h1,h2,h3,hr.ro h4,hr.ro h5⟩
def UD (M:Nat→Prop) (x:Pr) (u:Value) (w:World):Prop:=∃ (g:Nat) (C:Option Addr) (c:Nat) (E:Option Addr) (d:Nat),u=.slice (some ⟨g,0,none⟩) 1 1∧(x.old.length≤c∧c≤9223372036854775807)∧(x.new.length≤d∧d≤9223372036854775807)∧Ro w M (SlR 3 (some ⟨g,0,none⟩) 1 [.int .i64 x.id,.slice C x.old.length c,.slice E x.new.length d])∧Ro w M (VlsIn C x.old.length x.old)∧Ro w M (VlsIn E x.new.length x.new)
theorem Zd8 {M:Nat→Prop} {x:Pr} (u:Value) (w w' :World) (hr:RM M w w') (h:UD M x u w):UD M x u w' :=by
 obtain ⟨g,C,c,E,d,h1,h2,h3,h4,h5,h6⟩:=h
 exact ⟨g,C,c,E,d,h1,h2,h3,hr.ro h4,hr.ro h5,hr.ro h6⟩
def ZaG (w:World) (M:Nat→Prop) (dn:ByteArray) (r:List Row × List Row × List Upd) (e:Ending) (w' :World):Prop:=∃ (I:Option Addr) (ni ci:Nat) (li:List Rw) (D:Option Addr) (nd cd:Nat) (ld:List Rw) (U:Option Addr) (nu cu:Nat) (lu:List Pr),e=.returned (.agg #[.string dn,.slice I ni ci,.slice D nd cd,.slice U nu cu])∧(li.map Rw.row,ld.map Rw.row,lu.map Pr.upd)=r∧(ni≤ci∧ci≤9223372036854775807)∧(nd≤cd∧cd≤9223372036854775807)∧(nu≤cu∧cu≤9223372036854775807)∧Ro w' M (RwsIn I ni li)∧Ro w' M (RwsIn D nd ld)∧Ro w' M (PrsIn U nu lu)∧Below w.heap.size w w'
set_option maxHeartbeats 16000000 in
set_option maxRecDepth 100000 in
theorem Zfx (M:Nat→Prop) (w:World) (hM:∀ b,M b→b<w.heap.size) (t:Tg) (snm:ByteArray) (cA:Option Addr) (cn cc:Nat) (cl:List Col) (dn:ByteArray) (I:Option Addr) (ni ci:Nat) (li:List Rw) (D:Option Addr) (nd cd:Nat) (ld:List Rw) (U:Option Addr) (nu cu:Nat) (lu:List Pr) (hO:Ro w M (SlR 1 t.cols.A t.cols.n (Yn t.cols.l))) (hC:Ro w M (SlR 4 cA cn (Zd cl))) (hI:Ro w M (RwsIn I ni li)) (hD:Ro w M (RwsIn D nd ld)) (hU:Ro w M (PrsIn U nu lu)) (h0:t.cols.n≤1000) (h0c:cn≤1000) (h1:ni≤1000000) (h2:nd≤1000000) (h3:nu≤1000000) (hb:(∀ x∈li,x.n≤4398046511104)∧∀ x∈ld,x.n≤4398046511104) (hbp:∀ x∈lu,x.on≤4398046511104∧x.nn≤4398046511104):Calls Tryz.prog 49 #[t.val,.agg #[.string snm,.slice cA cn cc],.agg #[.string dn,.slice I ni ci,.slice D nd cd,.slice U nu cu]] w fun e w' =>ZaG w M dn (ZX t.event t.cols.l cl (li.map Rw.row) (ld.map Rw.row) (lu.map Pr.upd)) e w' :=by
 obtain ⟨tn,tt,tb,te,⟨oA,on,oc,ol⟩,tch,⟨pA,pn,pc,pl⟩,⟨qA,qn,qc,ql⟩,⟨rA,rn,rc,rl⟩,⟨kA,kn,kc,kl⟩,⟨aA,an,ac,al⟩⟩:=t
 have hon:on≤1000:=h0
 have HB:=hid hb
 have HBP:=hid hbp
 have HLO:=hid (show ol.length=on from StrsTx.len hO.now)
 have HL2:=hid (show lu.length=nu from hU.now.len)
 have KS:=(Hold.start M w hM)|>.add (hU.less (by simp [Mut]))|>.add (hD.less (by simp [Mut,Hp.foot]))|>.add (hI.less (by simp [Mut,Hp.foot]))|>.add (hC.less (by simp [Mut,Hp.foot]))|>.add (hO.less (by simp [Mut,Hp.foot]))|>.Za #[.string tn,.string tt,.bool tb,.int .i64 te,.slice oA on oc,.bool tch,.slice pA pn pc,.slice qA qn qc,.slice rA rn rc,.slice kA kn kc,.slice aA an ac] 40|>.Za #[.string snm,.slice cA cn cc] 49|>.Za #[.string dn,.slice I ni ci,.slice D nd cd,.slice U nu cu] 44|>.alloc #[.string ⟨#[]⟩,.slice none 0 0,.slice none 0 0,.slice none 0 0] 44|>.alloc #[.string dn,.slice none 0 0,.slice none 0 0,.slice none 0 0] 44
 simp only [World.size_alloc] at KS
 obtain ⟨gt,hgt⟩:∃ g,g=w.heap.size:=⟨_,rfl⟩
 rw [←hgt] at KS
 obtain ⟨gs,hgs⟩:∃ g,g=gt+1:=⟨_,rfl⟩
 obtain ⟨gd,hgd⟩:∃ g,g=gs+1:=⟨_,rfl⟩
 obtain ⟨gr,hgr⟩:∃ g,g=gd+1:=⟨_,rfl⟩
 obtain ⟨g7,hg7⟩:∃ g,g=gr+1:=⟨_,rfl⟩
 rw [←hgs,←hgd,←hgr,←hg7] at KS
 have K1:Hold M none w _ [.blk g7 44 #[.string dn,.slice none 0 0,.slice none 0 0,.slice none 0 0],.cst gt 40 #[.string tn,.string tt,.bool tb,.int .i64 te,.slice oA on oc,.bool tch,.slice pA pn pc,.slice qA qn qc,.slice rA rn rc,.slice kA kn kc,.slice aA an ac],.cst gs 49 #[.string snm,.slice cA cn cc],.cst gd 44 #[.string dn,.slice I ni ci,.slice D nd cd,.slice U nu cu],.blk gr 44 #[.string ⟨#[]⟩,.slice none 0 0,.slice none 0 0,.slice none 0 0],.ro (SlR 1 oA on (Yn ol)),.ro (SlR 4 cA cn (Zd cl)),.ro (RwsIn I ni li),.ro (RwsIn D nd ld),.ro (PrsIn U nu lu)]:=KS.pick [0,4,3,2,1,5,6,7,8,9] (by decide) rfl
 clear hO hC hI hD hU KS hb hbp h0
 simp only [Tg.val]
 have F1:=K1.facts
 simp only [zg] at F1
 rw [hg7,hgr,hgd,hgs,hgt] at F1
 go_enter Tryz.func49,Tryz.ntmps49
 go_upto_region 2 with fail
 rw [←hgt,←hgs,←hgd,←hgr,←hg7] at F1 ⊢
 have HG:=hid (And.intro hgt (And.intro hgs (And.intro hgd (And.intro hgr hg7))))
 clear hgt hgs hgd hgr hg7
 generalize World.alloc _ _=w1 at K1 F1 ⊢
 by_cases e1:te=1
 ·subst e1
  go_wp2_with fail
  refine (Zas (Mut M _) _ K1.Zb I ni ci li (K1.ro 7 rfl) (by omega) (HB.out.1)).mono ?_
  rintro e w2 ⟨C,q,cap,k,rfl,hk,hc,hlen,rC,b2⟩
  have HK:=hid (And.intro hk hlen)
  have HCP:=hid hc
  have K2:=(K1.call b2).add rC
  clear K1 F1 b2 rC hk hc hlen
  have K3:=K2.store 1 rfl 1 (.slice C q cap)
  simp only [zl] at K3
  have K4:=(((K3.store 5 rfl 0 (.string dn)).store 5 rfl 1 (.slice C q cap)).store 5 rfl 2 (.slice none 0 0)).store 5 rfl 3 (.slice none 0 0)
  simp only [zl] at K4
  have F2:=K2.facts
  simp only [zg] at F2
  have F3:=K3.facts
  simp only [zg] at F3
  have F4:=K4.facts
  simp only [zg] at F4
  have HR:=hid ((K4.ro 0 rfl).less zm)
  have HBL:=hid K4.below
  clear K2 K3 K4
  go_wp2_with fail
  refine bodyPost_ret (v:=.agg #[.string dn,.slice C q cap,.slice none 0 0,.slice none 0 0]) ?_ rfl ?_
  ·clear HR HBL
   simp [results,Tryz.results49,go_sem,F4]
  ·exact ⟨C,q,cap,k,none,0,0,[],none,0,0,[],rfl,by simp [ZX,HK.out.1],HCP.out,⟨Nat.le_refl _,by simp⟩,⟨Nat.le_refl _,by simp⟩,HR.out,(fun w2 _ _=>⟨ZE 2 w2,fun _ hx=>(nomatch hx)⟩),(fun w2 _ _=>⟨ZE 3 w2,fun _ hx=>(nomatch hx)⟩),HBL.out⟩
 ·have b1:(te==1)=false:=by simpa using e1
  by_cases e3:te=3
  ·subst e3
   go_wp2_with fail
   refine (Zas (Mut M _) _ K1.Zb D nd cd ld (K1.ro 8 rfl) (by omega) (HB.out.2)).mono ?_
   rintro e w2 ⟨C,q,cap,k,rfl,hk,hc,hlen,rC,b2⟩
   have HK:=hid (And.intro hk hlen)
   have HCP:=hid hc
   have K2:=(K1.call b2).add rC
   clear K1 F1 b2 rC hk hc hlen
   have K3:=K2.store 1 rfl 2 (.slice C q cap)
   simp only [zl] at K3
   have K4:=(((K3.store 5 rfl 0 (.string dn)).store 5 rfl 1 (.slice none 0 0)).store 5 rfl 2 (.slice C q cap)).store 5 rfl 3 (.slice none 0 0)
   simp only [zl] at K4
   have F2:=K2.facts
   simp only [zg] at F2
   have F3:=K3.facts
   simp only [zg] at F3
   have F4:=K4.facts
   simp only [zg] at F4
   have HR:=hid ((K4.ro 0 rfl).less zm)
   have HBL:=hid K4.below
   clear K2 K3 K4
   go_wp2_with fail
   refine bodyPost_ret (v:=.agg #[.string dn,.slice none 0 0,.slice C q cap,.slice none 0 0]) ?_ rfl ?_
   ·clear HR HBL
    simp [results,Tryz.results49,go_sem,F4]
   ·exact ⟨none,0,0,[],C,q,cap,k,none,0,0,[],rfl,by simp [ZX,HK.out.1],⟨Nat.le_refl _,by simp⟩,HCP.out,⟨Nat.le_refl _,by simp⟩,(fun w2 _ _=>⟨ZE 2 w2,fun _ hx=>(nomatch hx)⟩),HR.out,(fun w2 _ _=>⟨ZE 3 w2,fun _ hx=>(nomatch hx)⟩),HBL.out⟩
  ·have b3:(te==3)=false:=by simpa using e3
   by_cases e2:te=2
   ·subst e2
    clear e1 e3 b1 b3
    have K2:Hold M none w _ [.blk g7 44 #[.string dn,.slice none 0 0,.slice none 0 0,.slice none 0 0],.cst gt 40 #[.string tn,.string tt,.bool tb,.int .i64 2,.slice oA on oc,.bool tch,.slice pA pn pc,.slice qA qn qc,.slice rA rn rc,.slice kA kn kc,.slice aA an ac],.cst gs 49 #[.string snm,.slice cA cn cc],.cst gd 44 #[.string dn,.slice I ni ci,.slice D nd cd,.slice U nu cu],.blk gr 44 #[.string ⟨#[]⟩,.slice none 0 0,.slice none 0 0,.slice none 0 0],.ro (SlR 1 oA on (Yn ol)),.ro (SlR 4 cA cn (Zd cl)),.ro (RwsIn I ni li),.ro (RwsIn D nd ld),.ro (PrsIn U nu lu),.own 115 3 (.slice none 0 0) 0 (ZZ []),.ro (YI [])]:=((K1.add (S:=YI []) (fun w2 _ _ x hx=>(nomatch hx))).nil 115 3).pick [2,3,4,5,6,7,8,9,10,11,0,1] (by decide) rfl
    clear K1 F1
    have F2:=K2.facts
    simp only [zg] at F2
    go_wp2_with fail
    clear F2
    go_loopw [32] (fun iv wr=>∃ (j k cap:Nat) (O:Option Addr) (outs:List Pr),j≤nu∧k≤j∧iv=.int .i64 j∧Hid (outs.map Pr.upd=((lu.take j).map Pr.upd).filter (XL ol cl))∧Hold M none w wr [.blk g7 44 #[.string dn,.slice none 0 0,.slice none 0 0,.slice O k cap],.cst gt 40 #[.string tn,.string tt,.bool tb,.int .i64 2,.slice oA on oc,.bool tch,.slice pA pn pc,.slice qA qn qc,.slice rA rn rc,.slice kA kn kc,.slice aA an ac],.cst gs 49 #[.string snm,.slice cA cn cc],.cst gd 44 #[.string dn,.slice I ni ci,.slice D nd cd,.slice U nu cu],.blk gr 44 #[.string ⟨#[]⟩,.slice none 0 0,.slice none 0 0,.slice none 0 0],.ro (SlR 1 oA on (Yn ol)),.ro (SlR 4 cA cn (Zd cl)),.ro (RwsIn I ni li),.ro (RwsIn D nd ld),.ro (PrsIn U nu lu),.own 115 3 (.slice O k cap) k (ZZ outs),.ro (YI outs)]) (fun iv _=>nu - (intOf iv).toNat)
    case atStart=>exact ⟨0,0,0,none,[],by omega,by omega,rfl,hid rfl,K2⟩
    case round=>
     clear K2
     obtain ⟨j,k,cap,O,outs,hj,hkj,rfl,HO,H⟩:=hrel
     by_cases hlt:j<nu
     ·obtain ⟨x,hx⟩:=Zq HL2.out hlt
      obtain ⟨bU,oU,rfl,hb,c0,c1,c2,hv,hv2⟩:=(H.ro 9 rfl).now.at_ hx
      have hmx:=List.mem_of_getElem? hx
      have HX:=hid hx
      have hxb:=HBP.out x hmx
      clear hx hv hv2
      have K3:=((H.add (S:=VlsIn x.nA x.nn x.new) ((H.ro 9 rfl).imp fun w2 h2=>(h2.2 x hmx).2)).add (S:=VlsIn x.oA x.on x.old) (((H.ro 9 rfl).imp fun w2 h2=>(h2.2 x hmx).1).less (by simp [ZI,Mut,Hp.foot]))).Za #[.int .i64 x.id,.slice x.oA x.on x.oc,.slice x.nA x.nn x.nc] 115
      obtain ⟨g9,hg9⟩:∃ g,g=wr.heap.size:=⟨_,rfl⟩
      rw [←hg9] at K3
      clear H
      go_upto_region 11 with fail
      rw [←hg9]
      have HG9:=hid hg9
      clear hg9 c0 c1 c2
      generalize World.alloc _ _=w4 at K3 ⊢
      have F3:=K3.facts
      simp only [zg] at F3
      go_cut [46] from 36 to 46 (fun v wx=>v=.bool (XL ol cl x.upd)∧Hold M none w wx (.cst g9 115 #[.int .i64 x.id,.slice x.oA x.on x.oc,.slice x.nA x.nn x.nc]::.ro (VlsIn x.oA x.on x.old)::.ro (VlsIn x.nA x.nn x.new)::[.blk g7 44 #[.string dn,.slice none 0 0,.slice none 0 0,.slice O k cap],.cst gt 40 #[.string tn,.string tt,.bool tb,.int .i64 2,.slice oA on oc,.bool tch,.slice pA pn pc,.slice qA qn qc,.slice rA rn rc,.slice kA kn kc,.slice aA an ac],.cst gs 49 #[.string snm,.slice cA cn cc],.cst gd 44 #[.string dn,.slice I ni ci,.slice D nd cd,.slice (some ⟨bU,oU,none⟩) nu cu],.blk gr 44 #[.string ⟨#[]⟩,.slice none 0 0,.slice none 0 0,.slice none 0 0],.ro (SlR 1 oA on (Yn ol)),.ro (SlR 4 cA cn (Zd cl)),.ro (RwsIn I ni li),.ro (RwsIn D nd ld),.ro (PrsIn (some ⟨bU,oU,none⟩) nu lu),.own 115 3 (.slice O k cap) k (ZZ outs),.ro (YI outs)]))
      case first=>
       by_cases h0:on=0
       ·have h0b:((on:Int)==0)=true:=by simp [h0]
        have HH:=hid (show XL ol cl x.upd=true from by
         have:ol=[]:=List.eq_nil_of_length_eq_zero (by rw [HLO.out,h0])
         rw [this];rfl)
        clear h0
        go_wp2_with fail
        go_meet
        exact ⟨by rw [HH.out],K3⟩
       ·have h0b:((on:Int)==0)=false:=by simp;omega
        have HH:=hid (show XL ol cl x.upd=(ol.any fun s=>Yf cl s x.upd) from by
         have:ol≠[]:=fun h=>h0 (by rw [←HLO.out,h];rfl)
         unfold XL
         rw [show ol.isEmpty=false from by cases ol with|nil=>exact absurd rfl this|cons _ _=>rfl]
         simp)
        clear h0
        go_wp2_with (go_at_call 114;go_must (refine (Zgx _ snm cA cn cc cl x oA on oc ol ((K3.ro 9 rfl).less zn) ((K3.ro 1 rfl).less zn) ((K3.ro 2 rfl).less zn) ((K3.ro 8 rfl).less zn) (by omega) (by omega)).mono ?_);rintro e w5 ⟨rfl,b5⟩;replace K3:=K3.call b5;clear b5)
        go_meet
        exact ⟨by rw [HH.out],K3⟩
      case rest=>
       obtain ⟨rfl,K4⟩:=hcut
       clear K3 F3
       obtain ⟨z,hz⟩:∃ z:Bool,XL ol cl x.upd=z:=⟨_,rfl⟩
       rw [hz]
       have HZ:=hid hz
       clear hz
       cases z
       ·go_wp2_with fail
        go_roundw
        case rel=>exact ⟨j+1,k,cap,O,outs,by omega,by omega,by go_num,hid (by rw [HO.out,WK HX.out,List.map_append,List.filter_append];simp [HZ.out]),K4.drop (((List.sublist_cons_self _ _).cons _).cons _)⟩
        case measure=>simp [intOf];omega
       ·obtain ⟨KM,hKM,K6⟩:=K4.name
        have H1:∀ wv:World,Hold M none w wv KM→Blk wv g9 115 #[.int .i64 x.id,.slice x.oA x.on x.oc,.slice x.nA x.nn x.nc]:=fun wv h=>by rw [hKM] at h;exact h.ZB 0 rfl
        have H2:∀ wv:World,Hold M none w wv KM→Ro wv (Mut M KM) (VlsIn x.oA x.on x.old):=fun wv h=>by rw [hKM] at h ⊢;exact h.ro 1 rfl
        have H3:∀ wv:World,Hold M none w wv KM→Ro wv (Mut M KM) (VlsIn x.nA x.nn x.new):=fun wv h=>by rw [hKM] at h ⊢;exact h.ro 2 rfl
        have H4:∀ wv:World,Hold M none w wv KM→Blk wv g7 44 #[.string dn,.slice none 0 0,.slice none 0 0,.slice O k cap]:=fun wv h=>by rw [hKM] at h;exact h.ZF 3 rfl
        have HH1:=hid H1
        have HH2:=hid H2
        have HH3:=hid H3
        have HH4:=hid H4
        have HKM:=hid hKM
        clear hKM H1 H2 H3 H4 K4
        go_upto_region 12 with fail
        refine wp_region_any (by kernel_rfl) ?_
        refine Zp 5 56 (KM) (spL [(50,U3 (Mut M KM) x),(51,UD (Mut M KM) x)]) (by kernel_rfl) (by kernel_rfl) (by kernel_rfl) rfl ?_ (K6.drew) ?_
        ·exact Ze ZfV (Ze Zd8 (Zo _))
        simp only [zd,Act.put,List.getElem_toArray,List.getElem_cons_zero,List.getElem_cons_succ,zl]
        refine' dv rfl rfl rfl (fun wv HC=>?_) ?_;rotate_left
        · go_simp<;>rfl
        simp only [Act.put,zl]
        refine' dv rfl rfl rfl (fun wv HC=>?_) ?_;rotate_left
        ·have q0:=(HH4.out _ HC).cell 3;go_simp<;>rfl
        simp only [Act.put,zl]
        refine' dv rfl rfl rfl (fun wv HC=>?_) ?_;rotate_left
        ·obtain q0:=(HH1.out _ HC).cell 0;obtain q1:=(HH1.out _ HC).cell 1;obtain q2:=(HH1.out _ HC).cell 2;go_simp<;>rfl
        simp only [Act.put,zl]
        refine Zm 50 (U3 (Mut M KM) x) (f:=115) (args:=#[.agg #[.int .i64 x.id,.slice x.oA x.on x.oc,.slice x.nA x.nn x.nc]]) rfl rfl rfl rfl (fun wv=>?_) (fun wv HC hrm hD=>?_) ?_
        ·go_simp<;>rfl
        ·refine (Zc0 (Mut M KM) wv HC.Zb x (HH2.out _ HC) (HH3.out _ HC) hxb.1 hxb.2).mono ?_
         rintro e w5 ⟨C,c,E,d,rfl,hc,hd,rC,rE,b5⟩
         exact ⟨_,rfl,⟨C,c,E,d,rfl,hc,hd,rC,rE⟩,HC.call b5,RM.below b5⟩
        rintro u wx HCx ⟨C,c,E,d,rfl,hc,hd,rC,rE⟩
        clear HCx rC rE
        simp only [Act.put,zl]
        refine Ye #[.int .i64 x.id,.slice C x.old.length c,.slice E x.new.length d] 115 51 (UD (Mut M KM) x) (fun g=>.slice (some ⟨g,0,none⟩) 1 1) rfl rfl rfl rfl (fun wv=>?_) (fun wv HC hrm hD hro=>?_) ?_
        ·go_simp<;>rfl
        ·have h1:U3 (Mut M KM) x (.agg #[.int .i64 x.id,.slice C x.old.length c,.slice E x.new.length d]) wv:=ZM hD 3 rfl (by kernel_rfl) rfl rfl
         obtain ⟨C',c',E',d',e',hc,hd,rC,rE⟩:=h1
         obtain ⟨rfl,rfl,rfl,rfl⟩:C=C' ∧c=c' ∧E=E' ∧d=d' :=by
          injection e' with e'
          have h1:=congrArg (fun a:Array Value=>a[1]?) e'
          have h2:=congrArg (fun a:Array Value=>a[2]?) e'
          simp only [List.getElem?_toArray,List.getElem?_cons_zero,List.getElem?_cons_succ,Option.some.injEq,Value.slice.injEq] at h1 h2
          exact ⟨h1.1,h1.2.2,h2.1,h2.2.2⟩
         exact ⟨_,C,c,E,d,rfl,hc,hd,ZL (hro _ HC.Zb) rfl,(RM.alloc (Mut M KM) wv _).ro rC,(RM.alloc (Mut M KM) wv _).ro rE⟩
        rintro g51 wg HCg h51
        simp only [Act.put,zl]
        clear HCg h51
        refine Zj ?_
        rintro wx3 HX3
        rintro _hrm HGW
        have h1:UD (Mut M KM) x (.slice (some ⟨g51,0,none⟩) 1 1) wx3:=(Zl (d:=51) rfl).1 (HGW 4 _ rfl (by omega))
        clear HGW _hrm hc hd
        obtain ⟨g',C',c',E',d',e',hc,hd,rG,rC,rE⟩:=h1
        obtain rfl:g51=g' :=by injection e' with e';injection e' with e';injection e'
        have K7:=(HX3.add rC).add (rE.less (by simp [ZI,Hp.foot]))
        have HG:=hid rG.now
        rw [HKM.out] at K7
        clear HX3 rG rC rE HH1 HH2 HH3 HH4 HKM K6 e'
        have F7:=K7.facts
        simp only [zg] at F7
        go_wp2_with (at_builtin;go_must (refine ZW K7 15 rfl Tryz.Q5 HG.out rfl (.tmp 48) (.tmp 51) rfl rfl rfl (by intro u hu;simp at hu;rcases hu with rfl|rfl|rfl<;>rfl) (by omega) (by omega) ?_);intro G1 gc1 wB hcB hmB KE;simp only [zl] at KE;(have FE:=KE.facts);simp only [zg] at FE)
        rw [show ZZ outs++[.int .i64 x.id,.slice C' x.old.length c',.slice E' x.new.length d']=ZZ (outs++[⟨x.id,C',x.old.length,c',x.old,E',x.new.length,d',x.new⟩]) by simp [ZZ,Pr.cells]] at KE
        have hR:Ro _ _ (YI (outs++[⟨x.id,C',x.old.length,c',x.old,E',x.new.length,d',x.new⟩])):=((KE.ro 16 rfl).and ((KE.ro 1 rfl).and (KE.ro 0 rfl))).imp fun w2 h2 y hy=>by
         rcases List.mem_append.1 hy with hy|hy
         ·exact h2.1 y hy
         ·simp only [List.mem_cons,List.not_mem_nil,or_false] at hy
          subst hy
          exact ⟨h2.2.1,h2.2.2⟩
        have KF:=((KE.Yy 16 rfl hR).store 5 rfl 3 (.slice G1 (k+1) gc1)).drop (((((List.sublist_cons_self _ _).cons _).cons _).cons _).cons _)
        simp only [zl] at KF
        go_roundw
        case rel=>exact ⟨j+1,k+1,gc1,G1,outs++[⟨x.id,C',x.old.length,c',x.old,E',x.new.length,d',x.new⟩],by omega,by omega,by go_num,hid (by rw [List.map_append,HO.out,WK HX.out,List.map_append,List.filter_append];simp [show XL ol cl (x.id,x.old,x.new)=true from HZ.out,Pr.upd]),KF⟩
        case measure=>simp [intOf];omega
     ·obtain rfl:nu=j:=by omega
      have hcap:=ZR (H.get 10 rfl)
      have K4:=(((H.store 4 rfl 0 (.string dn)).store 4 rfl 1 (.slice none 0 0)).store 4 rfl 2 (.slice none 0 0)).store 4 rfl 3 (.slice O k cap)
      simp only [zl] at K4
      have F2:=H.facts
      simp only [zg] at F2
      have F4:=K4.facts
      simp only [zg] at F4
      have KZ:=K4.Zu 10 rfl
      simp only [zl] at KZ
      have hR:Ro _ _ (PrsIn O k outs):=((KZ.ro 10 rfl).and (KZ.ro 11 rfl)).imp fun w2 h2=>⟨h2.1,h2.2⟩
      have HR:=hid (hR.less zm)
      have HBL:=hid KZ.below
      clear KZ K4 H hR
      go_wp2_with fail
      refine bodyPost_ret (v:=.agg #[.string dn,.slice none 0 0,.slice none 0 0,.slice O k cap]) ?_ rfl ?_
      ·clear HR HBL
       simp [results,Tryz.results49,go_sem,F4]
      ·exact ⟨none,0,0,[],none,0,0,[],O,k,cap,outs,rfl,by
        have h:=HO.out
        rw [List.take_of_length_le (by rw [HL2.out];exact Nat.le_refl _)] at h
        simp [ZX,h],⟨Nat.le_refl _,by simp⟩,⟨Nat.le_refl _,by simp⟩,⟨hcap.1,hcap.2.1⟩,(fun w2 _ _=>⟨ZE 2 w2,fun _ hx=>(nomatch hx)⟩),(fun w2 _ _=>⟨ZE 2 w2,fun _ hx=>(nomatch hx)⟩),HR.out,HBL.out⟩
   ·have b2:(te==2)=false:=by simpa using e2
    have HM:=hid (show ZX te ol cl (li.map Rw.row) (ld.map Rw.row) (lu.map Pr.upd)=([],[],[]) from by unfold ZX;rw [if_neg e1,if_neg e3,if_neg e2])
    have K4:=(((K1.store 4 rfl 0 (.string dn)).store 4 rfl 1 (.slice none 0 0)).store 4 rfl 2 (.slice none 0 0)).store 4 rfl 3 (.slice none 0 0)
    simp only [zl] at K4
    have F4:=K4.facts
    simp only [zg] at F4
    have HBL:=hid K4.below
    clear K4 K1 e1 e2 e3
    go_wp2_with fail
    refine bodyPost_ret (v:=.agg #[.string dn,.slice none 0 0,.slice none 0 0,.slice none 0 0]) ?_ rfl ?_
    ·clear HBL
     simp [results,Tryz.results49,go_sem,F4]
    ·exact ⟨none,0,0,[],none,0,0,[],none,0,0,[],rfl,by rw [HM.out];rfl,⟨Nat.le_refl _,by simp⟩,⟨Nat.le_refl _,by simp⟩,⟨Nat.le_refl _,by simp⟩,(fun w2 _ _=>⟨ZE 2 w2,fun _ hx=>(nomatch hx)⟩),(fun w2 _ _=>⟨ZE 2 w2,fun _ hx=>(nomatch hx)⟩),(fun w2 _ _=>⟨ZE 3 w2,fun _ hx=>(nomatch hx)⟩),HBL.out⟩
structure De where
 nm:ByteArray
 I:Option Addr
 ni:Nat
 ci:Nat
 li:List Rw
 D:Option Addr
 nd:Nat
 cd:Nat
 ld:List Rw
 U:Option Addr
 nu:Nat
 cu:Nat
 lu:List Pr
def De.cells (x:De):List Value:=[.string x.nm,.slice x.I x.ni x.ci,.slice x.D x.nd x.cd,.slice x.U x.nu x.cu]
def De.val (x:De):Value:=.agg #[.string x.nm,.slice x.I x.ni x.ci,.slice x.D x.nd x.cd,.slice x.U x.nu x.cu]
def Ve (l:List De):List Value:=l.flatMap De.cells
theorem Zh0 (l:List De):(Ve l).length=l.length * 4:=Yu _ 4 (fun _=>rfl) l
def Qr (x:De) (w:World):Prop:=RwsIn x.I x.ni x.li w∧RwsIn x.D x.nd x.ld w∧PrsIn x.U x.nu x.lu w
def DesIn (A:Option Addr) (n:Nat) (l:List De) (w:World):Prop:=SlR 4 A n (Ve l) w∧∀ x∈l,Qr x w
theorem DesIn.len {w:World} {A:Option Addr} {n:Nat} {l:List De} (h:DesIn A n l w):l.length=n:=by
 have:=(show Rd w w.heap.size 4 A n (Ve l) from h.1).1
 rw [Zh0] at this
 omega
theorem DesIn.at_ {w:World} {A:Option Addr} {n:Nat} {l:List De} (h:DesIn A n l w) {k:Nat} {x:De} (hx:l[k]? =some x):
  ∃ b o,A=some ⟨b,o,none⟩∧b<w.heap.size∧w.cell? ⟨b,o+k * 4,none⟩=some (.string x.nm)∧w.cell? ⟨b,o+k * 4+1,none⟩=some (.slice x.I x.ni x.ci)∧w.cell? ⟨b,o+k * 4+2,none⟩=some (.slice x.D x.nd x.cd)∧w.cell? ⟨b,o+k * 4+3,none⟩=some (.slice x.U x.nu x.cu):=by
 have hk:k<n:=by rw [←h.len];exact (List.getElem?_eq_some_iff.1 hx).1
 obtain ⟨b,o,e,hb,hc⟩:=(show Rd w w.heap.size 4 A n (Ve l) from h.1).2 (by omega)
 exact ⟨b,o,e,hb,hc _ _ (flat_get De.cells 4 (fun _=>rfl) l k 0 x (by omega) hx),hc _ _ (flat_get De.cells 4 (fun _=>rfl) l k 1 x (by omega) hx),hc _ _ (flat_get De.cells 4 (fun _=>rfl) l k 2 x (by omega) hx),hc _ _ (flat_get De.cells 4 (fun _=>rfl) l k 3 x (by omega) hx)⟩
def Yp (s:ByteArray) (x:De):Bool:=x.nm.toList==s.toList
set_option maxHeartbeats 2000000 in
theorem Zh4 (w:World) (x:De) (b:Nat) (s:ByteArray) (t:TypeId) (hb:w.heap[b]? =some (.cells #[.string s] t (0,0))):
  Calls Tryz.prog 110 #[x.val,.pointer (some ⟨b,0,none⟩)] w fun e w' =>e=.returned (.bool (Yp s x))∧Below w.heap.size w w' :=by
 have hbl:b<w.heap.size:=Blk.lt (t:=t) (cs:=#[.string s]) hb
 have K0:=((Hold.XP w).GX (g:=b) (t:=t) (cs:=#[.string s]) (fun w2 h1 h2=>(h2 b hbl (by simp [Mut,Zc])).trans hb)).Za #[.string x.nm,.slice x.I x.ni x.ci,.slice x.D x.nd x.cd,.slice x.U x.nu x.cu] 44
 have F0:=K0.facts
 simp only [zg] at F0
 simp only [De.val]
 go_enter Tryz.func110,Tryz.ntmps110
 go_wp2_with fail
 go_ret
 exact ⟨rfl,K0.below⟩
set_option maxHeartbeats 4000000 in
set_option maxRecDepth 100000 in
theorem ZfB (M:Nat→Prop) (w:World) (hM:∀ b,M b→b<w.heap.size) (A:Option Addr) (n c:Nat) (l:List De) (b:Nat) (s:ByteArray) (t:TypeId) (hB:Ro w M (fun w=>w.heap[b]? =some (.cells #[.string s] t (0,0)))) (hD:Ro w M (DesIn A n l)) (hn:n≤1000000):
  Calls Tryz.prog 109 #[.slice A n c,.func (.func 110) #[] #[.pointer (some ⟨b,0,none⟩)]] w fun e w' =>e=.returned (.int .i64 (Zi (Yp s) l))∧Below w.heap.size w w' :=by
 have HL:=hid hD.now.len
 have K0:=(((Hold.start M w hM).add (hB.less (by simp [Mut]))).add (hD.less (by simp [Mut,Hp.foot])))
 go_enter Tryz.func109,Tryz.ntmps109
 go_wp2_with fail
 go_loopw [8] (fun iv wr=>∃ (k:Nat),k≤n∧iv=.int .i64 k∧Hid (Zi (Yp s) l=Z7 (Yp s) k (l.drop k))∧Hold M none w wr [.ro (DesIn A n l),.ro (fun w=>w.heap[b]? =some (.cells #[.string s] t (0,0)))]) (fun iv _=>n - (intOf iv).toNat)
 case atStart=>exact ⟨0,by omega,rfl,hid rfl,K0⟩
 case round=>
  clear K0
  obtain ⟨k,hk,rfl,HC,H⟩:=hrel
  by_cases hlt:k<n
  ·have hd:decide ((k:Int)<(n:Int))=true:=by simp;omega
   have i0:(0:Int)≤(k:Int):=by omega
   have i1:(k:Int)<(n:Int):=by omega
   obtain ⟨x,hx⟩:=Zq HL.out hlt
   obtain ⟨g,o,rfl,hb,c0,c1,c2,c3⟩:=(H.ro 0 rfl).now.at_ hx
   have HX:=hid hx
   clear hx
   go_wp2_with fail
   refine (Zh4 wr x b s t (H.ro 1 rfl).now).mono ?_
   rintro e w1 ⟨rfl,b1⟩
   have K1:=H.call b1
   clear H b1
   cases hz:Yp s x
   ·have HN:=hid (Vv HC.out HX.out hz)
    clear hz
    go_wp2_with fail
    go_roundw
    case rel=>exact ⟨k+1,by omega,by go_num,HN,K1⟩
    case measure=>simp [intOf];omega
   ·have HN:=hid (show Zi (Yp s) l=(k:Int) from VU HC.out HX.out hz)
    clear hz
    go_wp2_with fail
    go_ret
    exact ⟨by rw [HN.out]<;>rfl,K1.below⟩
  ·obtain rfl:n=k:=by omega
   have hd:decide ((n:Int)<(n:Int))=false:=by simp
   have HN:=hid (show Zi (Yp s) l=-1 from WY HC.out (by rw [HL.out];exact Nat.le_refl _))
   go_wp2_with fail
   go_ret
   exact ⟨by rw [HN.out]<;>rfl,H.below⟩
def ZeA (w:World) (l:List De) (s:ByteArray) (e:Ending) (w' :World):Prop:=Below w.heap.size w w' ∧((l.find? (Yp s)=none∧e=.returned (.tuple #[.agg #[.string ⟨#[]⟩,.slice none 0 0,.slice none 0 0,.slice none 0 0],.bool false]))∨∃ x,l.find? (Yp s)=some x∧x∈l∧e=.returned (.tuple #[x.val,.bool true]))
theorem G9 {α:Type} {p:α→Bool} {l:List α} (h:Zi p l=-1):l.find? p=none:=by
 rw [List.find?_eq_none]
 intro x hx hp
 obtain ⟨i,hi⟩:=List.mem_iff_getElem?.1 hx
 have:=(ZbW hp hi).1
 omega
theorem zU {α:Type} {p:α→Bool}:∀ {l:List α} {k:Nat},Zi p l=(k:Int)→∃ x,l[k]? =some x∧l.find? p=some x:=by
 intro l k h
 have hlt:k<l.length:=by
  have h2:=find_range p l
  rcases l with _|⟨x,l⟩
  ·have:Zi p ([]:List α)=-1:=WY (k:=0) rfl (Nat.le_refl _)
   omega
  ·simp only [List.length_cons] at h2 ⊢
   omega
 cases hf:l.find? p with
 | none=>
  exfalso
  have hall:∀ j,j≤l.length→Zi p l=Z7 p j (l.drop j):=by
   intro j hj
   induction j with
   | zero=>rfl
   | succ j ih=>
    have hj' :j<l.length:=by omega
    exact Vv (ih (by omega)) (List.getElem?_eq_getElem hj') (by
     have:=List.find?_eq_none.1 hf l[j] (List.getElem_mem hj')
     simpa using this)
  have:=WY (hall l.length (Nat.le_refl _)) (Nat.le_refl _)
  omega
 | some x=>
  obtain ⟨i,hi,hix,hmin⟩:=List.find?_eq_some_iff_getElem.1 hf|>.2
  have hfi:Zi p l=(i:Int):=by
   have hall:∀ j,j≤i→Zi p l=Z7 p j (l.drop j):=by
    intro j hj
    induction j with
    | zero=>rfl
    | succ j ih=>
     have hj' :j<l.length:=by omega
     exact Vv (ih (by omega)) (List.getElem?_eq_getElem hj') (by
      have:=hmin j (by omega)
      simpa using this)
   exact VU (hall i (Nat.le_refl _)) (List.getElem?_eq_getElem hi) (by rw [hix];exact (List.find?_eq_some_iff_getElem.1 hf).1)
  have:i=k:=by omega
  subst this
  exact ⟨x,by rw [List.getElem?_eq_getElem hi,hix],rfl⟩
set_option maxHeartbeats 4000000 in
set_option maxRecDepth 100000 in
theorem ZeD (M:Nat→Prop) (w:World) (hM:∀ b,M b→b<w.heap.size) (A:Option Addr) (n c:Nat) (l:List De) (s:ByteArray) (hD:Ro w M (DesIn A n l)) (hn:n≤1000000):
  Calls Tryz.prog 47 #[.slice A n c,.string s] w fun e w' =>ZeA w l s e w' :=by
 have K0:=(((Hold.start M w hM).add (hD.less (by simp [Mut]))).Za #[.string s] 9).alloc #[.string ⟨#[]⟩,.slice none 0 0,.slice none 0 0,.slice none 0 0] 44
 simp only [World.size_alloc] at K0
 have HL:=hid hD.now.len
 have hce:=ZfB _ _ K0.Zb A n c l w.heap.size s 9 (K0.get 1 rfl) (K0.ro 2 rfl) hn
 obtain ⟨gr,hgr⟩:∃ g,g=w.heap.size+1:=⟨_,rfl⟩
 rw [←hgr] at K0
 have F0:=K0.facts
 simp only [zg] at F0
 clear hD
 go_enter Tryz.func47,Tryz.ntmps47
 go_wp2_with fail
 refine hce.mono ?_
 rintro e w1 ⟨rfl,b1⟩
 have K1:=K0.call b1
 clear K0 F0 hce b1
 rw [←hgr]
 have HGR:=hid hgr
 clear hgr
 obtain ⟨kf,hkf⟩:∃ z:Int,Zi (Yp s) l=z:=⟨_,rfl⟩
 rw [hkf]
 have hrg:=find_range (Yp s) l
 rw [hkf] at hrg
 by_cases hneg:kf<0
 ·have HF:=hid (G9 (show Zi (Yp s) l=-1 by omega))
  clear hkf hrg
  have F1:=K1.facts
  simp only [zg] at F1
  have K2:=(((K1.store 0 rfl 0 (.string ⟨#[]⟩)).store 0 rfl 1 (.slice none 0 0)).store 0 rfl 2 (.slice none 0 0)).store 0 rfl 3 (.slice none 0 0)
  simp only [zl] at K2
  have F2:=K2.facts
  simp only [zg] at F2
  have HB:=hid K2.below
  clear K1 K2
  go_wp2_with fail
  refine bodyPost_ret (v:=.tuple #[.agg #[.string ⟨#[]⟩,.slice none 0 0,.slice none 0 0,.slice none 0 0],.bool false]) ?_ rfl ?_
  ·clear HB
   simp [results,Tryz.results47,go_sem,F2]
  ·exact ⟨HB.out,.inl ⟨HF.out,rfl⟩⟩
 ·obtain ⟨k,rfl⟩:∃ k:Nat,kf=(k:Int):=⟨kf.toNat,by omega⟩
  obtain ⟨x,hx,hf⟩:=zU hkf
  have HF:=hid (And.intro hf (List.mem_of_getElem? hx))
  have hkn:k<n:=by rw [←HL.out];exact (List.getElem?_eq_some_iff.1 hx).1
  have hki:(k:Int)<(n:Int):=by omega
  have hk0:¬((k:Int)<0):=by omega
  obtain ⟨b,o,rfl,hb,c0,c1,c2,c3⟩:=(K1.ro 2 rfl).now.at_ hx
  clear hkf hrg hneg hx hf
  have F1:=K1.facts
  simp only [zg] at F1
  have K2:=(((K1.store 0 rfl 0 (.string x.nm)).store 0 rfl 1 (.slice x.I x.ni x.ci)).store 0 rfl 2 (.slice x.D x.nd x.cd)).store 0 rfl 3 (.slice x.U x.nu x.cu)
  simp only [zl] at K2
  have F2:=K2.facts
  simp only [zg] at F2
  have HB:=hid K2.below
  clear K1 K2
  go_wp2_with fail
  refine bodyPost_ret (v:=.tuple #[.agg #[.string x.nm,.slice x.I x.ni x.ci,.slice x.D x.nd x.cd,.slice x.U x.nu x.cu],.bool true]) ?_ rfl ?_
  ·clear HB
   simp [results,Tryz.results47,go_sem,F2]
  ·exact ⟨HB.out,.inr ⟨x,HF.out.1,HF.out.2,rfl⟩⟩
def YD (ni nd nu:Nat) (ev:Int):Int:=if ev=1 then ni else if ev=2 then nu else if ev=3 then nd else 0
set_option maxHeartbeats 4000000 in
theorem Zen (w:World) (s:ByteArray) (I:Option Addr) (ni ci:Nat) (D:Option Addr) (nd cd:Nat) (U:Option Addr) (nu cu:Nat) (ev:Int):Calls Tryz.prog 51 #[.agg #[.string s,.slice I ni ci,.slice D nd cd,.slice U nu cu],.int .i64 ev] w fun e w' =>e=.returned (.int .i64 (YD ni nd nu ev))∧Below w.heap.size w w' :=by
 have K0:=(Hold.XP w).Za #[.string s,.slice I ni ci,.slice D nd cd,.slice U nu cu] 44
 have F0:=K0.facts
 simp only [zg] at F0
 go_enter Tryz.func51,Tryz.ntmps51
 by_cases e1:ev=1
 ·subst e1
  go_wp2_with fail
  go_ret
  exact ⟨rfl,K0.below⟩
 ·have b1:(ev==1)=false:=by simpa using e1
  by_cases e2:ev=2
  ·subst e2
   go_wp2_with fail
   go_ret
   exact ⟨rfl,K0.below⟩
  ·have b2:(ev==2)=false:=by simpa using e2
   by_cases e3:ev=3
   ·subst e3
    go_wp2_with fail
    go_ret
    exact ⟨rfl,K0.below⟩
   ·have b3:(ev==3)=false:=by simpa using e3
    have HC:=hid (show YD ni nd nu ev=0 from by unfold YD;rw [if_neg e1,if_neg e2,if_neg e3])
    clear e1 e2 e3
    go_wp2_with fail
    go_ret
    exact ⟨by rw [HC.out]<;>rfl,K0.below⟩
def Yb (s:ByteArray) (x:Te):Bool:=x.nm.toList==s.toList
def ZdF (w:World) (M:Nat→Prop) (nm:ByteArray) (cs:List Col) (e:Ending) (w' :World):Prop:=∃ (C:Option Addr) (q cap:Nat),e=.returned (.tuple #[.agg #[.string nm,.slice C q cap],.bool true])∧q=cs.length∧Ro w' M (ColsIn C q cs)∧Below w.heap.size w w'
set_option maxHeartbeats 2000000 in
theorem ZhI (w:World) (x:Te) (b:Nat) (s:ByteArray) (t:TypeId) (hb:w.heap[b]? =some (.cells #[.string s] t (0,0))):
  Calls Tryz.prog 111 #[.agg #[.string x.nm,.slice x.A x.n x.c,.int .i64 x.nx,.slice x.B x.m x.d],.pointer (some ⟨b,0,none⟩)] w fun e w' =>e=.returned (.bool (Yb s x))∧Below w.heap.size w w' :=by
 have hbl:b<w.heap.size:=Blk.lt (t:=t) (cs:=#[.string s]) hb
 have K0:=((Hold.XP w).GX (g:=b) (t:=t) (cs:=#[.string s]) (fun w2 h1 h2=>(h2 b hbl (by simp [Mut,Zc])).trans hb)).Za #[.string x.nm,.slice x.A x.n x.c,.int .i64 x.nx,.slice x.B x.m x.d] 67
 have F0:=K0.facts
 simp only [zg] at F0
 go_enter Tryz.func111,Tryz.ntmps111
 go_wp2_with fail
 go_ret
 exact ⟨rfl,K0.below⟩
set_option maxHeartbeats 2000000 in
set_option maxRecDepth 100000 in
theorem Zbs (M:Nat→Prop) (w:World) (hM:∀ b,M b→b<w.heap.size) (A:Option Addr) (n c:Nat) (l:List Te) (b:Nat) (s:ByteArray) (t:TypeId) (hB:Ro w M (fun w=>w.heap[b]? =some (.cells #[.string s] t (0,0)))) (hD:Ro w M (TesIn A n l)) (hn:n≤4611686018427387904):
  Calls Tryz.prog 88 #[.slice A n c,.func (.func 111) #[] #[.pointer (some ⟨b,0,none⟩)]] w fun e w' =>e=.returned (.int .i64 (Zi (Yb s) l))∧Below w.heap.size w w' :=by
 have HL:=hid hD.now.len
 have K0:=(((Hold.start M w hM).add (hB.less (by simp [Mut]))).add (hD.less (by simp [Mut,Hp.foot])))
 go_enter Tryz.func88,Tryz.ntmps88
 go_wp2_with fail
 go_loopw [8] (fun iv wr=>∃ (k:Nat),k≤n∧iv=.int .i64 k∧Hid (Zi (Yb s) l=Z7 (Yb s) k (l.drop k))∧Hold M none w wr [.ro (TesIn A n l),.ro (fun w=>w.heap[b]? =some (.cells #[.string s] t (0,0)))]) (fun iv _=>n - (intOf iv).toNat)
 case atStart=>exact ⟨0,by omega,rfl,hid rfl,K0⟩
 case round=>
  clear K0
  obtain ⟨k,hk,rfl,HC,H⟩:=hrel
  by_cases hlt:k<n
  ·have hd:decide ((k:Int)<(n:Int))=true:=by simp;omega
   have i0:(0:Int)≤(k:Int):=by omega
   have i1:(k:Int)<(n:Int):=by omega
   obtain ⟨x,hx⟩:=Zq HL.out hlt
   obtain ⟨g,o,rfl,hb,c0,c1,c2,c3,-⟩:=(H.ro 0 rfl).now.at_ hx
   have HX:=hid hx
   clear hx
   go_wp2_with fail
   refine (ZhI wr x b s t (H.ro 1 rfl).now).mono ?_
   rintro e w1 ⟨rfl,b1⟩
   have K1:=H.call b1
   clear H b1
   cases hz:Yb s x
   ·have HN:=hid (Vv HC.out HX.out hz)
    clear hz
    go_wp2_with fail
    go_roundw
    case rel=>exact ⟨k+1,by omega,by go_num,HN,K1⟩
    case measure=>simp [intOf];omega
   ·have HN:=hid (show Zi (Yb s) l=(k:Int) from VU HC.out HX.out hz)
    clear hz
    go_wp2_with fail
    go_ret
    exact ⟨by rw [HN.out]<;>rfl,K1.below⟩
  ·obtain rfl:n=k:=by omega
   have hd:decide ((n:Int)<(n:Int))=false:=by simp
   have HN:=hid (show Zi (Yb s) l=-1 from WY HC.out (by rw [HL.out];exact Nat.le_refl _))
   go_wp2_with fail
   go_ret
   exact ⟨by rw [HN.out]<;>rfl,H.below⟩
set_option maxHeartbeats 2000000 in
set_option maxRecDepth 100000 in
theorem ZgU (M:Nat→Prop) (w:World) (hM:∀ b,M b→b<w.heap.size) (A:Option Addr) (n c:Nat) (l:List Te) (s:ByteArray) (hD:Ro w M (TesIn A n l)) (hn:n≤4611686018427387904) (hf:Zi (Yb s) l=-1):
  Calls Tryz.prog 48 #[.slice A n c,.string s] w fun e w' =>e=.returned (.tuple #[.agg #[.string ⟨#[]⟩,.slice none 0 0],.bool false])∧Below w.heap.size w w' :=by
 have K0:=(((Hold.start M w hM).add (hD.less (by simp [Mut]))).Za #[.string s] 9).alloc #[.string ⟨#[]⟩,.slice none 0 0] 49
 simp only [World.size_alloc] at K0
 have F0:=K0.facts
 simp only [zg] at F0
 have hce:=Zbs _ _ K0.Zb A n c l w.heap.size s 9 (K0.get 1 rfl) (K0.ro 2 rfl) hn
 rw [hf] at hce
 go_enter Tryz.func48,Tryz.ntmps48
 go_wp2_with fail
 refine hce.mono ?_
 rintro e w1 ⟨rfl,b1⟩
 have K1:=K0.call b1
 clear K0 F0 hce b1
 have F1:=K1.facts
 simp only [zg] at F1
 have K2:=(K1.store 0 rfl 0 (.string ⟨#[]⟩)).store 0 rfl 1 (.slice none 0 0)
 simp only [zl] at K2
 have F2:=K2.facts
 simp only [zg] at F2
 have HB:=hid K2.below
 clear K1 K2
 go_wp2_with fail
 exact bodyPost_ret (v:=.tuple #[.agg #[.string ⟨#[]⟩,.slice none 0 0],.bool false]) (by simp [results,Tryz.results48,go_sem,F2]) rfl ⟨rfl,HB.out⟩
set_option maxHeartbeats 2000000 in
set_option maxRecDepth 100000 in
theorem Zho (M:Nat→Prop) (w:World) (hM:∀ b,M b→b<w.heap.size) (A:Option Addr) (n c:Nat) (l:List Te) (s:ByteArray) (hD:Ro w M (TesIn A n l)) (hn:n≤4611686018427387904) (k:Nat) (x:Te) (hx:l[k]? =some x) (hf:Zi (Yb s) l=(k:Int)) (hxn:x.n≤4398046511104):
  Calls Tryz.prog 48 #[.slice A n c,.string s] w fun e w' =>ZdF w M x.nm x.cs e w' :=by
 have K0:=(((Hold.start M w hM).add (hD.less (by simp [Mut]))).Za #[.string s] 9).alloc #[.string ⟨#[]⟩,.slice none 0 0] 49
 simp only [World.size_alloc] at K0
 have F0:=K0.facts
 simp only [zg] at F0
 have hce:=Zbs _ _ K0.Zb A n c l w.heap.size s 9 (K0.get 1 rfl) (K0.ro 2 rfl) hn
 rw [hf] at hce
 have hkn:k<n:=by rw [←hD.now.len];exact (List.getElem?_eq_some_iff.1 hx).1
 have HX:=hid hx
 clear hx hf
 go_enter Tryz.func48,Tryz.ntmps48
 go_wp2_with fail
 refine hce.mono ?_
 rintro e w1 ⟨rfl,b1⟩
 have KA:=K0.call b1
 clear K0 F0 hce b1 hD
 obtain ⟨b,o,rfl,hb,c0,c1,-,-,-⟩:=(KA.ro 2 rfl).now.at_ HX.out
 have KB:=(KA.add (S:=ColsIn x.A x.n x.cs) ((KA.ro 2 rfl).imp fun w2 h2=>(h2.2 x (List.mem_of_getElem? HX.out)).1)).alloc #[.string x.nm,.slice x.A x.n x.c] 49
 have K1:=KB
 have F1:=K1.facts
 simp only [zg] at F1
 clear KA K1
 obtain ⟨xnm,xA,xn,xc,xcs,xnx,xB,xm,xd,xl⟩:=x
 go_wp2_with fail
 refine (Zht _ _ KB.Zb xA xn xc xcs (KB.ro 1 rfl) hxn).mono ?_
 rintro e w2 ⟨C,q,cap,rfl,hq,hqc,hcap,rC,b2⟩
 have K2:=(KB.call b2).add rC
 clear F1 KB b2 rC c0 c1
 have HQ:=hid hq
 clear hq
 obtain ⟨g,hg⟩:∃ g,g=w1.heap.size:=⟨_,rfl⟩
 rw [←hg] at K2 ⊢
 have HG:=hid hg
 clear hg
 have F2:=K2.facts
 simp only [zg] at F2
 have K3:=K2.store 1 rfl 1 (.slice C q cap)
 simp only [zl] at K3
 have F3:=K3.facts
 simp only [zg] at F3
 have K4:=(K3.store 3 rfl 0 (.string xnm)).store 3 rfl 1 (.slice C q cap)
 simp only [zl] at K4
 have F4:=K4.facts
 simp only [zg] at F4
 have HR:=hid ((K4.ro 0 rfl).less zm)
 have HB:=hid K4.below
 clear K2 K3 K4
 go_wp2_with fail
 refine bodyPost_ret (v:=.tuple #[.agg #[.string xnm,.slice C q cap],.bool true]) ?_ rfl ?_
 ·clear HR HB
  simp [results,Tryz.results48,go_sem,F4]
 ·exact ⟨C,q,cap,rfl,HQ.out,HR.out,HB.out⟩
def QT (A:Option Addr) (n:Nat) (l:List Tg) (w:World):Prop:=SlR 11 A n (l.flatMap Tg.cells) w∧∀ t∈l,SlR 1 t.cols.A t.cols.n (Yn t.cols.l) w
def DeB (x:De):Prop:=x.ni≤1000∧x.nd≤1000∧x.nu≤1000∧(∀ r∈x.li,r.n≤4398046511104)∧(∀ r∈x.ld,r.n≤4398046511104)∧∀ p∈x.lu,p.on≤4398046511104∧p.nn≤4398046511104
def WC (t:Tg) (m:List Row × List Row × List Upd):List Sh:=
 if t.each then m.1.map (X7 t.name)++m.2.1.map (WO t.name)++m.2.2.map (VY t.name) else if 0<YD m.1.length m.2.1.length m.2.2.length t.event then [(t.name,0,0,0)] else []
def Yh (tl:List Te) (l:List De) (t:Tg):List Sh:=
 match l.find? (Yp t.tab),tl.find? (Yb t.tab) with
 | some d,some y=>if t.before then [] else WC t (ZX t.event t.cols.l y.cs (d.li.map Rw.row) (d.ld.map Rw.row) (d.lu.map Pr.upd))
 | _,_=>[]
theorem Qk {tl:List Te} {l:List De} {gl:List Tg} {j:Nat} {outs:List Itm} {t:Tg} (h:outs.map Itm.sh=(gl.take j).flatMap (Yh tl l)) (hx:gl[j]? =some t) (hz:Yh tl l t=[]):outs.map Itm.sh=(gl.take (j+1)).flatMap (Yh tl l):=by
 rw [h,WK hx,List.flatMap_append]
 simp [hz]
theorem Za8 {tl:List Te} {l:List De} {gl:List Tg} {j:Nat} {outs more:List Itm} {t:Tg} (h:outs.map Itm.sh=(gl.take j).flatMap (Yh tl l)) (hx:gl[j]? =some t) (hz:more.map Itm.sh=Yh tl l t):(outs++more).map Itm.sh=(gl.take (j+1)).flatMap (Yh tl l):=by
 rw [List.map_append,h,WK hx,List.flatMap_append,hz]
 simp
theorem Zeu (ev:Int) (ol:List ByteArray) (cl:List Col) (ins del:List Row) (upd:List Upd):(ZX ev ol cl ins del upd).1.length≤ins.length∧(ZX ev ol cl ins del upd).2.1.length≤del.length∧(ZX ev ol cl ins del upd).2.2.length≤upd.length:=by
 unfold ZX
 split
 ·exact ⟨Nat.le_refl _,Nat.zero_le _,Nat.zero_le _⟩
 ·split
  ·exact ⟨Nat.zero_le _,Nat.le_refl _,Nat.zero_le _⟩
  ·split
   ·exact ⟨Nat.zero_le _,Nat.zero_le _,List.length_filter_le _ _⟩
   ·exact ⟨Nat.zero_le _,Nat.zero_le _,Nat.zero_le _⟩
theorem Zh8 (l:List Itm):∀ u∈ZV l,u.oneCell' =true:=fun u hu=>by
 unfold ZV at hu
 rw [List.mem_flatMap] at hu
 obtain ⟨x,_,hx⟩:=hu
 simp only [Itm.cells,List.mem_cons,List.not_mem_nil,or_false] at hx
 rcases hx with rfl|rfl|rfl|rfl<;>rfl
theorem ZfS (M:Nat→Prop) (w:World) (hM:∀ b,M b→b<w.heap.size) (A:Option Addr) (n c:Nat) (l:List De) (s:ByteArray) (hD:Ro w M (DesIn A n l)) (hn:n≤1000000):
  Calls Tryz.prog 47 #[.slice A n c,.string s] w fun e w' =>∃ (d:De) (ok:Bool),e=.returned (.tuple #[d.val,.bool ok])∧(ok=false→l.find? (Yp s)=none)∧(ok=true→l.find? (Yp s)=some d∧d∈l)∧Below w.heap.size w w' :=(ZeD M w hM A n c l s hD hn).mono fun e w' ⟨hb,h⟩=>by
 rcases h with ⟨hf,rfl⟩|⟨x,hf,hm,rfl⟩
 ·exact ⟨⟨⟨#[]⟩,none,0,0,[],none,0,0,[],none,0,0,[]⟩,false,rfl,fun _=>hf,fun h=>(nomatch h),hb⟩
 ·exact ⟨x,true,rfl,fun h=>(nomatch h),fun _=>⟨hf,hm⟩,hb⟩
theorem ZhB (M:Nat→Prop) (w:World) (hM:∀ b,M b→b<w.heap.size) (A:Option Addr) (n c:Nat) (l:List Te) (s:ByteArray) (hD:Ro w M (TesIn A n l)) (hn:n≤4611686018427387904) (hb:∀ x∈l,x.n≤1000):
  Calls Tryz.prog 48 #[.slice A n c,.string s] w fun e w' =>∃ (nm:ByteArray) (C:Option Addr) (q cap:Nat) (ok:Bool) (cs:List Col),e=.returned (.tuple #[.agg #[.string nm,.slice C q cap],.bool ok])∧(ok=false→l.find? (Yb s)=none)∧(ok=true→(l.find? (Yb s)).map Te.cs=some cs)∧q≤1000∧Ro w' M (SlR 4 C q (Zd cs))∧Below w.heap.size w w' :=by
 obtain ⟨kt,hkt⟩:∃ z:Int,Zi (Yb s) l=z:=⟨_,rfl⟩
 have hrg:=find_range (Yb s) l
 by_cases hneg:kt<0
 ·have h1:Zi (Yb s) l=-1:=by omega
  refine (ZgU M w hM A n c l s hD hn h1).mono ?_
  rintro e w3 ⟨rfl,b3⟩
  exact ⟨_,_,_,_,false,[],rfl,fun _=>G9 h1,fun h=>(nomatch h),by omega,fun w2 _ _=>ZE 4 w2,b3⟩
 ·obtain ⟨k,rfl⟩:∃ k:Nat,kt=(k:Int):=⟨kt.toNat,by omega⟩
  obtain ⟨x,hx,hf⟩:=zU hkt
  have hxb:=hb x (List.mem_of_getElem? hx)
  have hl:=(RdC.Zy (show SlR 4 x.A x.n (Zd x.cs) _ from (hD.now.2 x (List.mem_of_getElem? hx)).1)).len
  refine (Zho M w hM A n c l s hD hn k x hx hkt (by omega)).mono ?_
  rintro e w3 ⟨C,q,cap,rfl,hq,rC,b3⟩
  exact ⟨_,C,q,cap,true,x.cs,rfl,fun h=>(nomatch h),fun _=>by rw [hf];rfl,by omega,rC,b3⟩
set_option maxHeartbeats 16000000 in
set_option maxRecDepth 100000 in
theorem ZbC (M:Nat→Prop) (w:World) (hM:∀ b,M b→b<w.heap.size) (gA:Option Addr) (gn gc:Nat) (gl:List Tg) (tA:Option Addr) (tn_ tc:Nat) (tl:List Te) (A:Option Addr) (n c:Nat) (l:List De) (hG:Ro w M (QT gA gn gl)) (hT:Ro w M (TesIn tA tn_ tl)) (hD:Ro w M (DesIn A n l)) (hgn:gn≤1000) (hgb:∀ t∈gl,t.cols.n≤1000) (htn:tn_≤1000) (htb:∀ x∈tl,x.n≤1000) (hn:n≤1000) (hb:∀ x∈l,DeB x):Calls Tryz.prog 11 #[.slice gA gn gc,.slice tA tn_ tc,.slice A n c] w fun e w' =>ZaT w M (gl.flatMap (Yh tl l)) e w' :=by
 have HL:=hid (show gl.length=gn from by
  have h:=(show Rd _ _ 11 gA gn (gl.flatMap Tg.cells) from hG.now.1).1
  rw [Yu Tg.cells 11 (fun _=>rfl)] at h
  omega)
 have HGB:=hid hgb
 have HTB:=hid htb
 have HB:=hid hb
 have K0:=(((Hold.start M w hM).add (hD.less (by simp [Mut]))).add (hT.less (by simp [Mut,Hp.foot]))).add (hG.less (by simp [Mut,Hp.foot]))|>.nil 53 4
 clear hG hT hD hgb htb hb
 go_enter Tryz.func11,Tryz.ntmps11
 go_wp2_with fail
 go_loopw [7,16] (fun ov iv wr=>∃ (j k cap:Nat) (O:Option Addr) (outs:List Itm),j≤gn∧k≤3000 * j∧iv=.int .i64 j∧ov=.slice O k cap∧Hid (outs.map Itm.sh=(gl.take j).flatMap (Yh tl l))∧Hold M none w wr [.own 53 4 (.slice O k cap) k (ZV outs),.ro (QT gA gn gl),.ro (TesIn tA tn_ tl),.ro (DesIn A n l)]) (fun _ iv _=>gn - (intOf iv).toNat)
 case atStart=>exact ⟨0,0,0,none,[],by omega,by omega,rfl,rfl,hid rfl,K0⟩
 case round=>
  clear K0
  obtain ⟨j,k,cap,O,outs,hj,hk,rfl,rfl,HO,H⟩:=hrel
  by_cases hlt:j<gn
  ·skip
   obtain ⟨⟨tn,tt,tb,te,⟨oA,on,oc,ol⟩,tch,⟨pA,pn,pc,pl⟩,⟨qA,qn,qc,ql⟩,⟨rA,rn,rc,rl⟩,⟨kA,kn,kc,kl⟩,⟨aA,an,ac,al⟩⟩,hx⟩:∃ x,gl[j]? =some x:=Zq HL.out hlt
   obtain ⟨b,o,rfl,hb,hcl⟩:=(show ∃ b o,gA=some ⟨b,o,none⟩∧b<wr.heap.size∧∀ q u,q<11→(Tg.cells ⟨tn,tt,tb,te,⟨oA,on,oc,ol⟩,tch,⟨pA,pn,pc,pl⟩,⟨qA,qn,qc,ql⟩,⟨rA,rn,rc,rl⟩,⟨kA,kn,kc,kl⟩,⟨aA,an,ac,al⟩⟩)[q]? =some u→World.cell? wr ⟨b,o+j * 11+q,none⟩=some u from by
    obtain ⟨b,o,e,hb,hcl⟩:=(show Rd _ _ 11 gA gn (gl.flatMap Tg.cells) from (H.ro 1 rfl).now.1).2 (by omega)
    refine ⟨b,o,e,hb,fun q u hq hu=>?_⟩
    rw [Nat.add_assoc]
    exact hcl _ _ ((flat_get Tg.cells 11 (fun _=>rfl) gl j q _ hq hx).trans hu))
   have x0:=hcl 0 _ (by omega) rfl
   have x1:=hcl 1 _ (by omega) rfl
   have x2:=hcl 2 _ (by omega) rfl
   have x3:=hcl 3 _ (by omega) rfl
   have x4:=hcl 4 _ (by omega) rfl
   have x5:=hcl 5 _ (by omega) rfl
   have x6:=hcl 6 _ (by omega) rfl
   have x7:=hcl 7 _ (by omega) rfl
   have x8:=hcl 8 _ (by omega) rfl
   have x9:=hcl 9 _ (by omega) rfl
   have x10:=hcl 10 _ (by omega) rfl
   simp only [Nat.add_zero,SlP.v] at x0 x1 x2 x3 x4 x5 x6 x7 x8 x9 x10
   have hmx:=List.mem_of_getElem? hx
   have hon:on≤1000:=HGB.out _ hmx
   have HX:=hid hx
   clear hcl hx
   have K1:=H.Za #[.string tn,.string tt,.bool tb,.int .i64 te,.slice oA on oc,.bool tch,.slice pA pn pc,.slice qA qn qc,.slice rA rn rc,.slice kA kn kc,.slice aA an ac] 40
   obtain ⟨g9,hg9⟩:∃ g,g=wr.heap.size:=⟨_,rfl⟩
   rw [←hg9] at K1
   clear H
   go_upto_region 5 with fail
   rw [←hg9]
   have HG9:=hid hg9
   clear hg9 x0 x1 x2 x3 x4 x5 x6 x7 x8 x9 x10
   generalize World.alloc _ _=w1 at K1 ⊢
   have F1:=K1.facts
   simp only [zg] at F1
   go_wp2_with fail
   clear F1
   refine (ZfS (Mut M _) _ K1.Zb A n c l tt (K1.ro 4 rfl) (by omega)).mono ?_
   rintro e w2 ⟨d,fd,rfl,hfd1,hfd2,b2⟩
   have K2:=(K1.call b2).alloc #[.string d.nm,.slice d.I d.ni d.ci,.slice d.D d.nd d.cd,.slice d.U d.nu d.cu] 44
   obtain ⟨g10,hg10⟩:∃ g,g=w2.heap.size:=⟨_,rfl⟩
   rw [←hg10] at K2
   clear K1 b2
   have F2:=K2.facts
   simp only [zg] at F2
   rw [hg10] at F2
   simp only [De.val]
   go_upto_region 6 with fail
   rw [←hg10]
   have HG10:=hid hg10
   clear hg10 F2
   generalize World.alloc _ _=w2b at K2 ⊢
   have F2:=K2.facts
   simp only [zg] at F2
   go_wp2_with fail
   clear F2
   refine (ZhB (Mut M _) _ K2.Zb tA tn_ tc tl tt (K2.ro 4 rfl) (by omega) HTB.out).mono ?_
   rintro e w3 ⟨ynm,C3,q3,cap3,kb,ycs,rfl,hk1,hk2,hq3b,r3,b3⟩
   have K3:=((K2.call b3).add r3).Za #[.string ynm,.slice C3 q3 cap3] 49
   clear K2 b3 r3
   obtain ⟨g12,hg12⟩:∃ g,g=w3.heap.size:=⟨_,rfl⟩
   rw [←hg12] at K3
   have F3:=K3.facts
   simp only [zg] at F3
   rw [hg12] at F3
   go_upto_region 7 with fail
   rw [←hg12]
   have HG12:=hid hg12
   clear hg12 F3
   generalize World.alloc _ _=w3b at K3 ⊢
   have F3:=K3.facts
   simp only [zg] at F3
   cases kb
   ·have HT0:=hid (hk1 rfl)
    have HZ:=hid (show Yh tl l ⟨tn,tt,tb,te,⟨oA,on,oc,ol⟩,tch,⟨pA,pn,pc,pl⟩,⟨qA,qn,qc,ql⟩,⟨rA,rn,rc,rl⟩,⟨kA,kn,kc,kl⟩,⟨aA,an,ac,al⟩⟩=[] from by unfold Yh;rw [HT0.out];cases l.find? (Yp tt)<;>rfl)
    clear hfd1 hfd2 hk1 hk2
    cases tb<;>cases fd<;>(go_wp2_with fail;go_roundw;(case rel=>exact ⟨j+1,k,cap,O,outs,by omega,by omega,by go_num,by first|rfl|trivial,hid (Qk HO.out HX.out HZ.out),K3.pick [4,5,6,7] (by decide) rfl⟩);(case measure=>simp [intOf];omega))
   ·have HT1:=hid (hk2 rfl)
    clear hk1 hk2
    cases tb
    ·cases fd
     ·have HZ:=hid (show Yh tl l ⟨tn,tt,false,te,⟨oA,on,oc,ol⟩,tch,⟨pA,pn,pc,pl⟩,⟨qA,qn,qc,ql⟩,⟨rA,rn,rc,rl⟩,⟨kA,kn,kc,kl⟩,⟨aA,an,ac,al⟩⟩=[] from by unfold Yh;rw [hfd1 rfl])
      clear hfd1 hfd2
      (go_wp2_with fail;go_roundw;(case rel=>exact ⟨j+1,k,cap,O,outs,by omega,by omega,by go_num,by first|rfl|trivial,hid (Qk HO.out HX.out HZ.out),K3.pick [4,5,6,7] (by decide) rfl⟩);(case measure=>simp [intOf];omega))
     ·skip
      have HF:=hid (hfd2 rfl)
      have HDB:=hid (HB.out d (hfd2 rfl).2)
      have hdb:=HDB.out
      have hdb1:d.ni≤1000:=hdb.1
      have hdb2:d.nd≤1000:=hdb.2.1
      have hdb3:d.nu≤1000:=hdb.2.2.1
      have hmd:=(hfd2 rfl).2
      have HI:=hid (show Yh tl l ⟨tn,tt,false,te,⟨oA,on,oc,ol⟩,tch,⟨pA,pn,pc,pl⟩,⟨qA,qn,qc,ql⟩,⟨rA,rn,rc,rl⟩,⟨kA,kn,kc,kl⟩,⟨aA,an,ac,al⟩⟩=WC ⟨tn,tt,false,te,⟨oA,on,oc,ol⟩,tch,⟨pA,pn,pc,pl⟩,⟨qA,qn,qc,ql⟩,⟨rA,rn,rc,rl⟩,⟨kA,kn,kc,kl⟩,⟨aA,an,ac,al⟩⟩ (ZX te ol ycs (d.li.map Rw.row) (d.ld.map Rw.row) (d.lu.map Pr.upd)) from by unfold Yh;have h:=HT1.out;revert h;rw [HF.out.1];cases tl.find? (Yb tt) with|none=>intro h;cases h|some y=>intro h;obtain rfl:=(Option.some.inj h);rfl)
      clear hfd1 hfd2
      have K4:=((K3.add (S:=SlR 1 oA on (Yn ol)) ((K3.ro 5 rfl).imp fun w2 h2=>h2.2 _ hmx)).add (S:=Qr d) (((K3.ro 7 rfl).imp fun w2 h2=>h2.2 d hmd).less (by simp [ZI,Mut,Hp.foot])))
      clear K3 F3
      have F4:=K4.facts
      simp only [zg] at F4
      go_wp2_with fail
      clear F4
      refine (Zfx (Mut M _) _ K4.Zb ⟨tn,tt,false,te,⟨oA,on,oc,ol⟩,tch,⟨pA,pn,pc,pl⟩,⟨qA,qn,qc,ql⟩,⟨rA,rn,rc,rl⟩,⟨kA,kn,kc,kl⟩,⟨aA,an,ac,al⟩⟩ ynm C3 q3 cap3 ycs d.nm d.I d.ni d.ci d.li d.D d.nd d.cd d.ld d.U d.nu d.cu d.lu (K4.ro 1 rfl) (K4.ro 3 rfl) ((K4.ro 0 rfl).imp fun w2 h2=>h2.1) ((K4.ro 0 rfl).imp fun w2 h2=>h2.2.1) ((K4.ro 0 rfl).imp fun w2 h2=>h2.2.2) hon hq3b (by omega) (by omega) (by omega) ⟨hdb.2.2.2.1,hdb.2.2.2.2.1⟩ hdb.2.2.2.2.2).mono ?_
      rintro e w4 ⟨I2,ni2,ci2,li2,D2,nd2,cd2,ld2,U2,nu2,cu2,lu2,rfl,hm,hc1,hc2,hc3,rI,rD,rU,b4⟩
      have hl1:li2.length=ni2:=rI.now.len
      have hl2:ld2.length=nd2:=rD.now.len
      have hl3:lu2.length=nu2:=rU.now.len
      have hle:=Zeu te ol ycs (d.li.map Rw.row) (d.ld.map Rw.row) (d.lu.map Pr.upd)
      rw [←hm] at hle
      simp only [List.length_map] at hle
      have hdl:d.li.length=d.ni∧d.ld.length=d.nd∧d.lu.length=d.nu:=⟨(K4.ro 0 rfl).now.1.len,(K4.ro 0 rfl).now.2.1.len,(K4.ro 0 rfl).now.2.2.len⟩
      have hN2:ni2≤1000∧nd2≤1000∧nu2≤1000:=⟨by omega,by omega,by omega⟩
      have HN2:=hid hN2
      have HM:=hid hm
      have HLL:=hid (And.intro hl1 (And.intro hl2 hl3))
      have K5:=((((K4.call b4).add rI).add (rD.less (by simp [ZI,Hp.foot]))).add (rU.less (by simp [ZI,Hp.foot])))
      clear K4 b4 rI rD rU hm hc1 hc2 hc3 hle hdl hl1 hl2 hl3 hN2 hdb
      have F5:=K5.facts
      simp only [zg] at F5
      have K6:=(((K5.store 7 rfl 0 (.string d.nm)).store 7 rfl 1 (.slice I2 ni2 ci2)).store 7 rfl 2 (.slice D2 nd2 cd2)).store 7 rfl 3 (.slice U2 nu2 cu2)
      simp only [zl] at K6
      have F6:=K6.facts
      simp only [zg] at F6
      clear K5
      cases tch
      ·go_wp2_with fail
       clear F5
       refine (Zen _ d.nm I2 ni2 ci2 D2 nd2 cd2 U2 nu2 cu2 te).mono ?_
       rintro e w5 ⟨rfl,b5⟩
       have K7:=K6.call b5
       clear K6 b5 F6
       have F7:=K7.facts
       simp only [zg] at F7
       obtain ⟨cz,hcz⟩:∃ z:Int,YD ni2 nd2 nu2 te=z:=⟨_,rfl⟩
       rw [hcz]
       have HCZ:=hid (show YD (li2.map Rw.row).length (ld2.map Rw.row).length (lu2.map Pr.upd).length te=cz from by rw [List.length_map,List.length_map,List.length_map,HLL.out.1,HLL.out.2.1,HLL.out.2.2];exact hcz)
       clear hcz
       by_cases hpos:0<cz
       ·have hpb:decide (0<cz)=true:=by simpa using hpos
        have HZ:=hid (show Yh tl l ⟨tn,tt,false,te,⟨oA,on,oc,ol⟩,false,⟨pA,pn,pc,pl⟩,⟨qA,qn,qc,ql⟩,⟨rA,rn,rc,rl⟩,⟨kA,kn,kc,kl⟩,⟨aA,an,ac,al⟩⟩=[(tn,0,0,0)] from by rw [HI.out,←HM.out];unfold WC;simp only [Bool.false_eq_true,if_false];rw [HCZ.out,if_pos hpos])
        go_wp2_with (at_builtin;go_must (refine ZH K7 9 rfl Tryz.Qa #[.string tn,.int .i64 0,.slice none 0 0,.slice none 0 0] rfl (.tmp 62) (.tmp 66) rfl rfl _ (by first|rfl|simp) rfl rfl (by intro u hu;simp at hu;rcases hu with rfl|rfl|rfl|rfl<;>rfl) (by omega) (by omega) ?_);intro gA2 capA wA hcA hmA KA;simp only [zl] at KA)
        rw [show ZV outs++(#[.string tn,.int .i64 0,.slice none 0 0,.slice none 0 0]:Array Value).toList=ZV (outs++[⟨tn,0,none,0,0,none,0,0⟩]) from (QI outs ⟨tn,0,none,0,0,none,0,0⟩).symm] at KA
        go_roundw
        case rel=>exact ⟨j+1,k+1,capA,_,outs++[⟨tn,0,none,0,0,none,0,0⟩],by omega,by omega,by go_num,by first|rfl|trivial,hid (Za8 HO.out HX.out (by rw [HZ.out];rfl)),KA.pick [9,10,11,12] (by decide) rfl⟩
        case measure=>simp [intOf];omega
       ·have hpb:decide (0<cz)=false:=by simpa using hpos
        have HZ:=hid (show Yh tl l ⟨tn,tt,false,te,⟨oA,on,oc,ol⟩,false,⟨pA,pn,pc,pl⟩,⟨qA,qn,qc,ql⟩,⟨rA,rn,rc,rl⟩,⟨kA,kn,kc,kl⟩,⟨aA,an,ac,al⟩⟩=[] from by rw [HI.out,←HM.out];unfold WC;simp only [Bool.false_eq_true,if_false];rw [HCZ.out,if_neg hpos])
        go_wp2_with fail
        go_roundw
        case rel=>exact ⟨j+1,k,cap,O,outs,by omega,by omega,by go_num,by first|rfl|trivial,hid (Qk HO.out HX.out HZ.out),K7.pick [9,10,11,12] (by decide) rfl⟩
        case measure=>simp [intOf];omega
      ·go_wp2_with fail
       clear F5
       refine (ZeU (Mut M _) _ K6.Zb ⟨tn,tt,false,te,⟨oA,on,oc,ol⟩,true,⟨pA,pn,pc,pl⟩,⟨qA,qn,qc,ql⟩,⟨rA,rn,rc,rl⟩,⟨kA,kn,kc,kl⟩,⟨aA,an,ac,al⟩⟩ d.nm I2 ni2 ci2 li2 D2 nd2 cd2 ld2 U2 nu2 cu2 lu2 (K6.ro 2 rfl) (K6.ro 1 rfl) (K6.ro 0 rfl) (by have:=HN2.out;omega) (by have:=HN2.out;omega) (by have:=HN2.out;omega)).mono ?_
       rintro e w5 ⟨RA,rn2,rc2,rl2,rfl,hrl,hrc,rR,b5⟩
       have hrn:rl2.length=rn2:=by
        have h:=(show Rd _ _ 4 RA rn2 (ZV rl2) from rR.now).1
        rw [JB] at h
        omega
       have hrb:rn2≤3000:=by
        have h:=congrArg List.length hrl
        simp only [List.length_map,List.length_append] at h
        have h2:=HN2.out
        have h3:=HLL.out
        omega
       have HRL:=hid hrl
       have K7:=(K6.call b5).add rR
       have HSR:=hid rR.now
       clear K6 b5 F6 rR hrl hrc hrn
       have F7:=K7.facts
       simp only [zg] at F7
       have HZ:=hid (show Yh tl l ⟨tn,tt,false,te,⟨oA,on,oc,ol⟩,true,⟨pA,pn,pc,pl⟩,⟨qA,qn,qc,ql⟩,⟨rA,rn,rc,rl⟩,⟨kA,kn,kc,kl⟩,⟨aA,an,ac,al⟩⟩=rl2.map Itm.sh from by rw [HI.out,←HM.out,HRL.out];simp only [WC,if_true,List.map_map])
       go_wp2_with (at_builtin;go_must (refine ZW K7 10 rfl Tryz.Qa HSR.out rfl (.tmp 51) (.tmp 54) rfl rfl rfl (Zh8 rl2) (by omega) (by omega) ?_);intro G1 gc1 wB hcB hmB KE;simp only [zl] at KE)
       rw [show ZV outs++ZV rl2=ZV (outs++rl2) by simp [ZV]] at KE
       go_roundw
       case rel=>exact ⟨j+1,k+rn2,gc1,G1,outs++rl2,by omega,by omega,by go_num,by first|rfl|trivial,hid (Za8 HO.out HX.out HZ.out.symm),KE.pick [10,11,12,13] (by decide) rfl⟩
       case measure=>simp [intOf];omega
    ·have HZ:=hid (show Yh tl l ⟨tn,tt,true,te,⟨oA,on,oc,ol⟩,tch,⟨pA,pn,pc,pl⟩,⟨qA,qn,qc,ql⟩,⟨rA,rn,rc,rl⟩,⟨kA,kn,kc,kl⟩,⟨aA,an,ac,al⟩⟩=[] from by unfold Yh;cases l.find? (Yp tt)<;>cases tl.find? (Yb tt)<;>rfl)
     clear hfd1 hfd2
     cases fd<;>(go_wp2_with fail;go_roundw;(case rel=>exact ⟨j+1,k,cap,O,outs,by omega,by omega,by go_num,by first|rfl|trivial,hid (Qk HO.out HX.out HZ.out),K3.pick [4,5,6,7] (by decide) rfl⟩);(case measure=>simp [intOf];omega))
  ·obtain rfl:gn=j:=by omega
   have hcap:=ZR (H.get 0 rfl)
   have KZ:=H.Zu 0 rfl
   simp only [List.set_cons_zero] at KZ
   have HR:=hid ((KZ.ro 0 rfl).less zm)
   have HBL:=hid KZ.below
   clear KZ H
   go_wp2_with fail
   go_ret
   exact ⟨O,k,cap,outs,rfl,by rw [HO.out,List.take_of_length_le (by rw [HL.out];exact Nat.le_refl _)],⟨hcap.1,hcap.2.1⟩,HR.out,HBL.out⟩
def Jn:ByteArray:=⟨#[97]⟩
def Jk:ByteArray:=⟨#[98]⟩
def Um:Tg:=⟨Jn,YE,false,1,SlP.nil,true,SlP.nil,SlP.nil,SlP.nil,SlP.nil,SlP.nil⟩
def UZ:Tg:=⟨Jk,YE,false,1,SlP.nil,false,SlP.nil,SlP.nil,SlP.nil,SlP.nil,SlP.nil⟩
def YL:Vl:=⟨0,0,⟨#[]⟩⟩
theorem Zg9 (A:Option Addr) (n c g1 g2 g3:Nat):[Um,UZ].flatMap (Yh [⟨YE,A,n,c,Yr,0,none,0,0,[]⟩] [⟨YE,some ⟨g3,0,none⟩,2,2,[⟨4,some ⟨g1,0,none⟩,2,2,[YL,YL]⟩,⟨5,some ⟨g2,0,none⟩,2,2,[YL,YL]⟩],none,0,0,[],none,0,0,[]⟩])=[(Jn,4,0,2),(Jn,5,0,2),(Jk,0,0,0)]:=by kernel_rfl
set_option maxHeartbeats 8000000 in
set_option maxRecDepth 100000 in
theorem ZcI (w:World):Calls Tryz.prog 15 #[] w fun e w' =>e=.returned (.bool true)∧Below w.heap.size w w' :=by
 have K0:=Hold.XP w
 go_enter Tryz.func15,Tryz.ntmps15
 go_wp2_with fail
 refine (Zgb (Mut Zc _) _ K0.Zb).mono ?_
 rintro e w1 ⟨A,n,c,rfl,hnc,hc4,r1,b1⟩
 have hn2:n=2:=by
  have h:=(RdC.Zy r1.now).len
  exact h.symm
 subst hn2
 have K1:=((K0.call b1).add r1).Za #[.string YE,.slice A 2 c] 49
 clear K0 b1 r1
 obtain ⟨g0,hg0⟩:∃ g,g=w1.heap.size:=⟨_,rfl⟩
 rw [←hg0] at K1
 go_upto_region 2 with fail
 rw [←hg0]
 have HG0:=hid hg0
 clear hg0
 generalize World.alloc _ _=w2 at K1 ⊢
 have K6:=(((((K1.Za #[.int .i64 0,.int .i64 0,.string ⟨#[]⟩,.int .i64 0,.int .i64 0,.string ⟨#[]⟩] 122).Za #[.int .i64 0,.int .i64 0,.string ⟨#[]⟩,.int .i64 0,.int .i64 0,.string ⟨#[]⟩] 122).Za #[.int .i64 4,.slice (some ⟨w2.heap.size,0,none⟩) 2 2,.int .i64 5,.slice (some ⟨w2.heap.size+1,0,none⟩) 2 2] 124).Za #[.string ⟨#[108,111,103]⟩,.slice (some ⟨w2.heap.size+1+1,0,none⟩) 2 2,.slice none 0 0,.slice none 0 0] 44).Za #[.string ⟨#[97]⟩,.string ⟨#[108,111,103]⟩,.bool false,.int .i64 1,.slice none 0 0,.bool true,.slice none 0 0,.slice none 0 0,.slice none 0 0,.slice none 0 0,.slice none 0 0,.string ⟨#[98]⟩,.string ⟨#[108,111,103]⟩,.bool false,.int .i64 1,.slice none 0 0,.bool false,.slice none 0 0,.slice none 0 0,.slice none 0 0,.slice none 0 0,.slice none 0 0] 40)
 simp only [World.size_alloc] at K6
 have K7:=K6.Za #[.string YE,.slice A 2 c,.int .i64 0,.slice none 0 0] 67
 simp only [World.size_alloc] at K7
 have K8:=K7.Za #[.string ⟨#[108,111,103]⟩,.slice (some ⟨w2.heap.size+1+1,0,none⟩) 2 2,.slice none 0 0,.slice none 0 0] 44
 simp only [World.size_alloc] at K8
 have F1:=K1.facts
 simp only [zg] at F1
 have F6:=K6.facts
 simp only [zg] at F6
 have F7:=K7.facts
 simp only [zg] at F7
 clear K1 K6 K7
 go_wp2_with fail
 clear F1 F6 F7
 have hv1:Ro _ _ (VlsIn (some ⟨w2.heap.size,0,none⟩) 2 [YL,YL]):=ZL (K8.get 6 rfl) rfl
 have hv2:Ro _ _ (VlsIn (some ⟨w2.heap.size+1,0,none⟩) 2 [YL,YL]):=ZL (K8.get 5 rfl) rfl
 have hrw:Ro _ _ (SlR 2 (some ⟨w2.heap.size+1+1,0,none⟩) 2 (ZJ [⟨4,(some ⟨w2.heap.size,0,none⟩),2,2,[YL,YL]⟩,⟨5,(some ⟨w2.heap.size+1,0,none⟩),2,2,[YL,YL]⟩])):=ZL (K8.get 4 rfl) rfl
 have hG:Ro _ _ (QT (some ⟨w2.heap.size+1+1+1+1,0,none⟩) 2 [Um,UZ]):=(show Ro _ _ (SlR 11 (some ⟨w2.heap.size+1+1+1+1,0,none⟩) 2 ([Um,UZ].flatMap Tg.cells)) from ZL (K8.get 2 rfl) rfl).imp fun w3 h3=>⟨h3,fun t ht=>by
  simp only [List.mem_cons,List.not_mem_nil,or_false] at ht
  rcases ht with rfl|rfl<;>exact ZE 1 w3⟩
 have hT:Ro _ _ (TesIn (some ⟨w2.heap.size+1+1+1+1+1,0,none⟩) 1 [⟨YE,A,2,c,Yr,0,none,0,0,[]⟩]):=((show Ro _ _ (SlR 4 (some ⟨w2.heap.size+1+1+1+1+1,0,none⟩) 1 (ZK [⟨YE,A,2,c,Yr,0,none,0,0,[]⟩])) from ZL (K8.get 1 rfl) rfl).and (K8.ro 8 rfl)).imp fun w3 h3=>⟨h3.1,fun x hx=>by
  simp only [List.mem_cons,List.not_mem_nil,or_false] at hx
  subst hx
  exact ⟨h3.2,ZE 2 w3,fun _ hx=>(nomatch hx)⟩⟩
 have hD:Ro _ _ (DesIn (some ⟨w2.heap.size+1+1+1+1+1+1,0,none⟩) 1 [⟨YE,(some ⟨w2.heap.size+1+1,0,none⟩),2,2,[⟨4,(some ⟨w2.heap.size,0,none⟩),2,2,[YL,YL]⟩,⟨5,(some ⟨w2.heap.size+1,0,none⟩),2,2,[YL,YL]⟩],none,0,0,[],none,0,0,[]⟩]):=((show Ro _ _ (SlR 4 (some ⟨w2.heap.size+1+1+1+1+1+1,0,none⟩) 1 (Ve [⟨YE,(some ⟨w2.heap.size+1+1,0,none⟩),2,2,[⟨4,(some ⟨w2.heap.size,0,none⟩),2,2,[YL,YL]⟩,⟨5,(some ⟨w2.heap.size+1,0,none⟩),2,2,[YL,YL]⟩],none,0,0,[],none,0,0,[]⟩])) from ZL (K8.get 0 rfl) rfl).and (hrw.and (hv1.and hv2))).imp fun w3 h3=>⟨h3.1,fun x hx=>by
  simp only [List.mem_cons,List.not_mem_nil,or_false] at hx
  subst hx
  exact ⟨⟨h3.2.1,fun r hr=>by
   simp only [List.mem_cons,List.not_mem_nil,or_false] at hr
   rcases hr with rfl|rfl
   ·exact h3.2.2.1
   ·exact h3.2.2.2⟩,⟨ZE 2 w3,fun _ hx=>(nomatch hx)⟩,⟨ZE 3 w3,fun _ hx=>(nomatch hx)⟩⟩⟩
 refine (ZbC (Mut Zc _) _ K8.Zb (some ⟨w2.heap.size+1+1+1+1,0,none⟩) 2 2 [Um,UZ] (some ⟨w2.heap.size+1+1+1+1+1,0,none⟩) 1 1 _ (some ⟨w2.heap.size+1+1+1+1+1+1,0,none⟩) 1 1 _ hG hT hD (by omega) (fun t ht=>by
  simp only [List.mem_cons,List.not_mem_nil,or_false] at ht
  rcases ht with rfl|rfl<;>simp [Um,UZ,SlP.nil]) (by omega) (fun x hx=>by
  simp only [List.mem_cons,List.not_mem_nil,or_false] at hx
  subst hx
  simp) (by omega) (fun x hx=>by
  simp only [List.mem_cons,List.not_mem_nil,or_false] at hx
  subst hx
  exact ⟨by simp,by simp,by simp,fun r hr=>by
   simp only [List.mem_cons,List.not_mem_nil,or_false] at hr
   rcases hr with rfl|rfl<;>simp,fun r hr=>(nomatch hr),fun r hr=>(nomatch hr)⟩)).mono ?_
 rintro e w3 ⟨RA,rn,rc,rl,rfl,hrl,-,rR,b3⟩
 rw [Zg9] at hrl
 have HB:=hid (K8.call b3).below
 obtain ⟨i0,i1,i2,rfl⟩:∃ i0 i1 i2,rl=[i0,i1,i2]:=by
  have h:=congrArg List.length hrl
  match rl,h with
  | [i0,i1,i2],_=>exact ⟨i0,i1,i2,rfl⟩
 have hrn:rn=3:=by
  have h:=(show Rd _ _ 4 RA rn (ZV [i0,i1,i2]) from rR.now).1
  rw [JB] at h
  simp at h
  omega
 subst hrn
 obtain ⟨b,o,rfl,-,hc⟩:=(show Rd _ _ 4 RA 3 (ZV [i0,i1,i2]) from rR.now).2 (by omega)
 simp only [List.map_cons,List.map_nil,List.cons.injEq,and_true,Itm.sh,Prod.mk.injEq] at hrl
 have c5:=hc 5 (.int .i64 i1.row) rfl
 have c8:=hc 8 (.string i2.tr) rfl
 have c9:=hc 9 (.int .i64 i2.row) rfl
 rw [hrl.2.1.2.1] at c5
 rw [hrl.2.2.1,show Jk=(⟨#[98]⟩:ByteArray) from rfl] at c8
 rw [hrl.2.2.2.1] at c9
 clear hc hrl K8 b3 rR hv1 hv2 hrw hG hT hD
 go_wp2_with fail
 go_ret
 exact ⟨rfl,HB.out⟩
theorem six {w:World} {g g' :Nat} {t:TypeId} {x y z x' y' z' :Value} (h:Blk w g t #[x,y,z]) (h' :Blk w g' t #[x',y',z']):
  w.cell? ⟨g,0,none⟩=some x∧w.cell? ⟨g,1,none⟩=some y∧w.cell? ⟨g,2,none⟩=some z∧w.cell? ⟨g',0,none⟩=some x' ∧w.cell? ⟨g',1,none⟩=some y' ∧w.cell? ⟨g',2,none⟩=some z' :=⟨h.cell 0,h.cell 1,h.cell 2,h'.cell 0,h'.cell 1,h'.cell 2⟩


def XV (l:List Tb) (k:Nat):Bool:=match l[k]? with
 | none=>true
 | some t=>Zn t.nm t.cs t.nx t.rs&&(k==0||match l[k - 1]? with|some p=>Op.bytesLess p.nm.toList t.nm.toList|none=>false)
def Y3 (l:List Tb):Bool:=decide (l.length≤6)&&(List.range l.length).all (XV l)
theorem Zch {l:List Tb} (h:6<l.length):Y3 l=false:=by
 unfold Y3;rw [decide_eq_false (by omega)];rfl
theorem JM {l:List Tb} {k:Nat} (hk:k<l.length) (h:XV l k=false):Y3 l=false:=by
 unfold Y3
 rw [List.all_eq_false.2 ⟨k,List.mem_range.2 hk,by rw [h];simp⟩,Bool.and_false]
theorem ZgV {l:List Tb} {n:Nat} (hn:l.length=n) (h6:n≤6) (h:(List.range n).all (XV l)=true):Y3 l=true:=by
 unfold Y3
 rw [hn,h,decide_eq_true h6];rfl
theorem Zca {p:Nat→Bool} {k:Nat} (h:(List.range k).all p=true) (hk:p k=true):(List.range (k+1)).all p=true:=by
 rw [List.range_succ,List.all_append,h];simp [hk]
theorem ZbK {l:List Tb} {k:Nat} {t:Tb} (h:l[k]? =some t) (hb:Zn t.nm t.cs t.nx t.rs=false):XV l k=false:=by unfold XV;rw [h];simp [hb]
theorem Zhg {l:List Tb} {t:Tb} (h:l[0]? =some t) (hb:Zn t.nm t.cs t.nx t.rs=true):XV l 0=true:=by unfold XV;rw [h];simp [hb]
theorem Za0 {l:List Tb} {j:Nat} {t p:Tb} (h:l[j+1]? =some t) (hp:l[j]? =some p) (hb:Zn t.nm t.cs t.nx t.rs=true):XV l (j+1)=Op.bytesLess p.nm.toList t.nm.toList:=by
 unfold XV
 rw [h,show j+1 - 1=j from rfl,hp]
 simp [hb]
theorem Xg {l:List Te} {k:Nat} {x:Te} (h:l[k]? =some x):(l.map Te.tb)[k]? =some x.tb:=by rw [List.getElem?_map,h];rfl
set_option maxHeartbeats 8000000 in
set_option maxRecDepth 100000 in
theorem Zbp (M:Nat→Prop) (w:World) (hM:∀ b,M b→b<w.heap.size) (A:Option Addr) (n c:Nat) (l:List Te) (hL:Ro w M (TesIn A n l)) (hok:∀ x∈l,x.ok∧TbM x.tb) (hn:n≤4611686018427387904):
  Calls Tryz.prog 69 #[.slice A n c] w fun e w' =>e=.returned (.bool (Y3 (l.map Te.tb)))∧Below w.heap.size w w' :=by
 have HL:=hid hL.now.len
 have HOK:=hid hok
 have K0:=(Hold.start M w hM).add (hL.less (by simp [Mut]))
 clear hok hL
 go_enter Tryz.func69,Tryz.ntmps69
 by_cases h6:6<n
 ·have hb:decide ((n:Int) > 6)=true:=by simp;omega
  have hb' :decide (6<n)=true:=by simp;omega
  have HN:=hid (Zch (l:=l.map Te.tb) (by rw [List.length_map,HL.out];exact h6))
  clear h6
  go_wp2_with fail
  go_ret
  exact ⟨by rw [HN.out]<;>rfl,K0.below⟩
 have hb:decide ((n:Int) > 6)=false:=by simp;omega
 have hb' :decide (6<n)=false:=by simp;omega
 go_wp2_with fail
 clear hb hb'
 go_loopw [9] (fun iv wr=>∃ (k:Nat),k≤n∧iv=.int .i64 k∧Hid ((List.range k).all (XV (l.map Te.tb))=true)∧Hold M none w wr [.ro (TesIn A n l)]) (fun iv _=>n - (intOf iv).toNat)
 case atStart=>exact ⟨0,by omega,rfl,hid rfl,K0⟩
 case round=>
  clear K0
  obtain ⟨k,hk,rfl,HR,H⟩:=hrel
  by_cases hlt:k<n
  ·have hdd:decide ((k:Int)<(n:Int))=true:=by simp;omega
   have i0:(0:Int)≤(k:Int):=by omega
   have i1:(k:Int)<(n:Int):=by omega
   obtain ⟨x,hx⟩:=Zq HL.out hlt
   have HXT:=hid (Xg hx)
   have HXO:=hid (HOK.out x (List.mem_of_getElem? hx)).1
   have HXM:=hid (HOK.out x (List.mem_of_getElem? hx)).2
   have hxr:Ro wr _ (YV x):=(H.ro 0 rfl).imp fun w2 h2=>h2.2 x (List.mem_of_getElem? hx)
   have HXB:=hid (show x.n≤9223372036854775807∧x.m≤4611686018427387904 from ⟨Nat.le_trans HXO.out.nc HXO.out.c,by
    have h1:=HXM.out.rs
    have h2:x.l.length=x.m:=hxr.now.2.len
    have h3:x.tb.rs.length=x.l.length:=List.length_map ..
    omega⟩)
   obtain ⟨g,o,rfl,hgb,c0,c1,c2,c3,-⟩:=(H.ro 0 rfl).now.at_ hx
   have HIX:=hid hx
   clear hx
   obtain ⟨VB,hVB⟩:∃ VB,Zn x.nm x.cs x.nx (x.l.map Rw.row)=VB:=⟨_,rfl⟩
   have HVB:=hid hVB
   clear hVB
   go_wp2_with fail
   clear c0 c1 c2 c3 hgb hxr
   obtain ⟨KL,hKL,KN⟩:=H.name
   have HF:Hid (∀ wv,Hold M none w wv KL→wv.cell? ⟨g,o+k * 4,none⟩=some (.string x.nm)∧wv.cell? ⟨g,o+k * 4+1,none⟩=some (.slice x.A x.n x.c)∧wv.cell? ⟨g,o+k * 4+2,none⟩=some (.int .i64 x.nx)∧wv.cell? ⟨g,o+k * 4+3,none⟩=some (.slice x.B x.m x.d)∧g<wv.heap.size):=hid fun wv HC=>by
    rw [hKL] at HC
    obtain ⟨g',o',e',hl,e0,e1,e2,e3,-⟩:=(HC.ro 0 rfl).now.at_ HIX.out
    obtain ⟨rfl,rfl⟩:g=g' ∧o=o' :=by injection e' with e';injection e' with a1 a2;exact ⟨a1,a2⟩
    exact ⟨e0,e1,e2,e3,hl⟩
   have HX:Hid (∀ wv,Hold M none w wv KL→Ro wv (Mut M KL) (YV x)):=hid fun wv HC=>by
    rw [hKL] at HC ⊢
    exact (HC.ro 0 rfl).imp fun w2 h2=>h2.2 x (List.mem_of_getElem? HIX.out)
   have HKL:=hid hKL
   have HKN:=KN
   obtain rfl|rfl:VB=false∨VB=true:=by cases VB<;>simp
   ·skip
    have HN:=hid (JM (by rw [List.length_map,HL.out];exact hlt) (ZbK HXT.out HVB.out))
    clear hKL H
    refine wp_region_any (by kernel_rfl) ?_
    refine Zp 26 39 (KL) (spL [(16,IsV (.bool false))]) (by kernel_rfl) (by kernel_rfl) (by kernel_rfl) rfl ?_ (KN.drew) ?_
    ·exact Ze Vg (Zo _)
    simp only [zd,Act.put,List.getElem_toArray,List.getElem_cons_zero,List.getElem_cons_succ,zl]
    repeat (refine' dv rfl rfl rfl (fun wv HC=>?_) ?_;rotate_left;(focus (obtain ⟨f0,f1,f2,f3,f4⟩:=HF.out _ HC;go_simp<;>rfl;done));simp only [Act.put,zl])
    refine Zm 16 (IsV (.bool false)) (f:=120) (args:=#[.agg #[.string x.nm,.slice x.A x.n x.c,.int .i64 x.nx,.slice x.B x.m x.d]]) rfl rfl rfl rfl (fun wv=>?_) (fun wv HC hrm hD=>?_) ?_
    ·go_simp<;>rfl
    ·refine (Vu _ wv HC.Zb x.nm x.A x.n x.c x.cs x.nx x.B x.m x.d x.l ((HX.out _ HC).imp fun w h=>h.1) ((HX.out _ HC).imp fun w h=>h.2) HXB.out.1 HXB.out.2 HXO.out.l HXM.out.nm HXM.out.cs).mono ?_
     rintro e w5 ⟨rfl,b5⟩
     exact ⟨_,rfl,by rw [HVB.out];rfl,HC.call b5,RM.below b5⟩
    rintro u_ wx HCx rfl
    clear HCx
    simp only [Act.put,zl]
    repeat (first|(refine dw_skip rfl rfl rfl ?_;simp only [Act.put,zl])|(refine' dv rfl rfl rfl (fun wv HC=>?_) ?_;rotate_left;(focus (go_simp<;>rfl;done));simp only [Act.put,zl]))
    refine Zj ?_
    rintro wx9 HX9
    rintro _hrm _HG
    clear _hrm _HG
    rw [HKL.out] at HX9
    go_wp2_with fail
    go_ret
    exact ⟨by rw [HN.out]<;>rfl,HX9.below⟩
   ·skip
    have HVT:=hid HVB.out
    cases k with
    | zero=>
     have hz:decide (((0:Nat):Int) > 0)=false:=by decide
     (try simp only [Nat.zero_mul,Nat.add_zero] at HF)
     have HN:=hid (Zca HR.out (Zhg HXT.out HVT.out))
     clear hKL H
     refine wp_region_any (by kernel_rfl) ?_
     refine Zp 26 39 (KL) (spL [(16,IsV (.bool true))]) (by kernel_rfl) (by kernel_rfl) (by kernel_rfl) rfl ?_ (KN.drew) ?_
     ·exact Ze Vg (Zo _)
     simp only [zd,Act.put,List.getElem_toArray,List.getElem_cons_zero,List.getElem_cons_succ,zl]
     repeat (refine' dv rfl rfl rfl (fun wv HC=>?_) ?_;rotate_left;(focus (obtain ⟨f0,f1,f2,f3,f4⟩:=HF.out _ HC;go_simp<;>rfl;done));simp only [Act.put,zl])
     refine Zm 16 (IsV (.bool true)) (f:=120) (args:=#[.agg #[.string x.nm,.slice x.A x.n x.c,.int .i64 x.nx,.slice x.B x.m x.d]]) rfl rfl rfl rfl (fun wv=>?_) (fun wv HC hrm hD=>?_) ?_
     ·go_simp<;>rfl
     ·refine (Vu _ wv HC.Zb x.nm x.A x.n x.c x.cs x.nx x.B x.m x.d x.l ((HX.out _ HC).imp fun w h=>h.1) ((HX.out _ HC).imp fun w h=>h.2) HXB.out.1 HXB.out.2 HXO.out.l HXM.out.nm HXM.out.cs).mono ?_
      rintro e w5 ⟨rfl,b5⟩
      exact ⟨_,rfl,by rw [HVB.out];rfl,HC.call b5,RM.below b5⟩
     rintro u_ wx HCx rfl
     clear HCx
     simp only [Act.put,zl]
     repeat (first|(refine dw_skip rfl rfl rfl ?_;simp only [Act.put,zl])|(refine' dv rfl rfl rfl (fun wv HC=>?_) ?_;rotate_left;(focus (go_simp<;>rfl;done));simp only [Act.put,zl]))
     refine Zj ?_
     rintro wx9 HX9
     rintro _hrm _HG
     clear _hrm _HG
     rw [HKL.out] at HX9
     go_wp2_with fail
     go_roundw
     case rel=>exact ⟨0+1,by omega,by go_num,HN,HX9⟩
     case measure=>simp [intOf];omega
    | succ j=>
     have hz:decide (((j+1:Nat):Int) > 0)=true:=by simp<;>omega
     have hz2:decide ((j:Int)+1 > 0)=true:=by simp<;>omega
     have s1:IntKind.i64.wrap (((j+1:Nat):Int) - 1)=(j:Int):=by rw [IntKind.wrap_i64];omega
     have s2:IntKind.i64.wrap ((j:Int)+1 - 1)=(j:Int):=by rw [IntKind.wrap_i64];omega
     have s3:IntKind.i64.wrap (j:Int)=(j:Int):=by rw [IntKind.wrap_i64];omega
     have j2:(0:Int)≤(j:Int):=by omega
     have j3:(j:Int)<(n:Int):=by omega
     have i2:(0:Int)≤(j:Int)+1:=by omega
     have i3:(j:Int)+1<(n:Int):=by omega
     obtain ⟨y,hy⟩:=Zq HL.out (show j<n by omega)
     have HYT:=hid (Xg hy)
     have HIY:=hid hy
     clear hy
     have HP:Hid (∀ wv,Hold M none w wv KL→wv.cell? ⟨g,o+j * 4,none⟩=some (.string y.nm)∧g<wv.heap.size):=hid fun wv HC=>by
      rw [hKL] at HC
      obtain ⟨g',o',e',hl,e0,-⟩:=(HC.ro 0 rfl).now.at_ HIY.out
      obtain ⟨rfl,rfl⟩:g=g' ∧o=o' :=by injection e' with e';injection e' with a1 a2;exact ⟨a1,a2⟩
      exact ⟨e0,hl⟩
     clear hKL H
     cases hlt3:Op.bytesLess y.nm.toList x.nm.toList with
     | true=>
      have HN:=hid (Zca HR.out ((Za0 HXT.out HYT.out HVT.out).trans hlt3))
      refine wp_region_any (by kernel_rfl) ?_
      refine Zp 26 39 (KL) (spL [(16,IsV (.bool true))]) (by kernel_rfl) (by kernel_rfl) (by kernel_rfl) rfl ?_ (KN.drew) ?_
      ·exact Ze Vg (Zo _)
      simp only [zd,Act.put,List.getElem_toArray,List.getElem_cons_zero,List.getElem_cons_succ,zl]
      repeat (refine' dv rfl rfl rfl (fun wv HC=>?_) ?_;rotate_left;(focus (obtain ⟨f0,f1,f2,f3,f4⟩:=HF.out _ HC;go_simp<;>rfl;done));simp only [Act.put,zl])
      refine Zm 16 (IsV (.bool true)) (f:=120) (args:=#[.agg #[.string x.nm,.slice x.A x.n x.c,.int .i64 x.nx,.slice x.B x.m x.d]]) rfl rfl rfl rfl (fun wv=>?_) (fun wv HC hrm hD=>?_) ?_
      ·go_simp<;>rfl
      ·refine (Vu _ wv HC.Zb x.nm x.A x.n x.c x.cs x.nx x.B x.m x.d x.l ((HX.out _ HC).imp fun w h=>h.1) ((HX.out _ HC).imp fun w h=>h.2) HXB.out.1 HXB.out.2 HXO.out.l HXM.out.nm HXM.out.cs).mono ?_
       rintro e w5 ⟨rfl,b5⟩
       exact ⟨_,rfl,by rw [HVB.out];rfl,HC.call b5,RM.below b5⟩
      rintro u_ wx HCx rfl
      clear HCx
      simp only [Act.put,zl]
      repeat (refine' dv rfl rfl rfl (fun wv HC=>?_) ?_;rotate_left;(focus (obtain ⟨f0,f1,f2,f3,f4⟩:=HF.out _ HC;obtain ⟨p0,p1⟩:=HP.out _ HC;go_simp<;>rfl;done));simp only [Act.put,zl])
      refine Zj ?_
      rintro wx9 HX9
      rintro _hrm _HG
      clear _hrm _HG
      rw [HKL.out] at HX9
      go_wp2_with fail
      go_roundw
      case rel=>exact ⟨(j+1)+1,by omega,by go_num,HN,HX9⟩
      case measure=>simp [intOf];omega
     | false=>
      have HN:=hid (JM (by rw [List.length_map,HL.out];exact hlt) ((Za0 HXT.out HYT.out HVT.out).trans hlt3))
      refine wp_region_any (by kernel_rfl) ?_
      refine Zp 26 39 (KL) (spL [(16,IsV (.bool true))]) (by kernel_rfl) (by kernel_rfl) (by kernel_rfl) rfl ?_ (KN.drew) ?_
      ·exact Ze Vg (Zo _)
      simp only [zd,Act.put,List.getElem_toArray,List.getElem_cons_zero,List.getElem_cons_succ,zl]
      repeat (refine' dv rfl rfl rfl (fun wv HC=>?_) ?_;rotate_left;(focus (obtain ⟨f0,f1,f2,f3,f4⟩:=HF.out _ HC;go_simp<;>rfl;done));simp only [Act.put,zl])
      refine Zm 16 (IsV (.bool true)) (f:=120) (args:=#[.agg #[.string x.nm,.slice x.A x.n x.c,.int .i64 x.nx,.slice x.B x.m x.d]]) rfl rfl rfl rfl (fun wv=>?_) (fun wv HC hrm hD=>?_) ?_
      ·go_simp<;>rfl
      ·refine (Vu _ wv HC.Zb x.nm x.A x.n x.c x.cs x.nx x.B x.m x.d x.l ((HX.out _ HC).imp fun w h=>h.1) ((HX.out _ HC).imp fun w h=>h.2) HXB.out.1 HXB.out.2 HXO.out.l HXM.out.nm HXM.out.cs).mono ?_
       rintro e w5 ⟨rfl,b5⟩
       exact ⟨_,rfl,by rw [HVB.out];rfl,HC.call b5,RM.below b5⟩
      rintro u_ wx HCx rfl
      clear HCx
      simp only [Act.put,zl]
      repeat (refine' dv rfl rfl rfl (fun wv HC=>?_) ?_;rotate_left;(focus (obtain ⟨f0,f1,f2,f3,f4⟩:=HF.out _ HC;obtain ⟨p0,p1⟩:=HP.out _ HC;go_simp<;>rfl;done));simp only [Act.put,zl])
      refine Zj ?_
      rintro wx9 HX9
      rintro _hrm _HG
      clear _hrm _HG
      rw [HKL.out] at HX9
      go_wp2_with fail
      go_ret
      exact ⟨by rw [HN.out]<;>rfl,HX9.below⟩
  ·obtain rfl:k=n:=by omega
   have hdd:decide ((k:Int)<(k:Int))=false:=by simp
   have HN:=hid (ZgV (by rw [List.length_map];exact HL.out) (by omega) HR.out)
   go_wp2_with fail
   go_ret
   exact ⟨by rw [HN.out]<;>rfl,H.below⟩
end Go.Proofs.YtnbbllkbefagmaaGreatDoor
namespace Go.Proofs
open Go.Shelf

end Go.Proofs
namespace Go.Proofs.YtnbbllkbefagmaaGreatDoor
open Go.RowKit Go.Sort
set_option linter.unusedVariables false
def Gr (w w' :World):Prop:=∃ (q:Nat) (os:Array Obj),w' =grow (w.drewN q) os
end Go.Proofs.YtnbbllkbefagmaaGreatDoor
namespace Go.Proofs.YtnbbllkbefagmaaGreatDoor
open Go.RowKit Go.Sort
set_option linter.unusedVariables false
set_option linter.unusedSimpArgs false

end Go.Proofs.YtnbbllkbefagmaaGreatDoor
namespace Go.Proofs.YtnbbllkbefagmaaGreatDoor
open Go.RowKit
set_option linter.unusedVariables false
set_option linter.unusedSimpArgs false










end Go.Proofs.YtnbbllkbefagmaaGreatDoor

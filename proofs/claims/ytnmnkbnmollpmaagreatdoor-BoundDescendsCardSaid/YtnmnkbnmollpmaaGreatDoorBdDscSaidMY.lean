import Derived.Test.YtnmnkbnmollpmaaGreatDoorBdDscSaidMR
import Derived.Test.YtnmnkbnmollpmaaGreatDoorBdDscSaidMU
import Derived.Test.YtnmnkbnmollpmaaGreatDoorBdDscSaidMS
import Derived.Test.YtnmnkbnmollpmaaGreatDoorBdDscSaidMT
set_option linter.unusedVariables false
set_option linter.unusedSimpArgs false
set_option maxHeartbeats 64000000
set_option maxRecDepth 100000
namespace Go.Proofs.YtnmnkbnmollpmaaGreatDoor
section
open Go.RowKit
def LaterOk (t t' :Tb):Prop:=t'.nm=t.nm∧t'.cs=t.cs∧t.nx≤t'.nx∧∀ r∈t'.rs,(Zj t.rs r.1).isSome=true∨t.nx≤r.1
theorem ZhC {rs:List Row} {id:Int} (h:id∈rs.map (·.1)):(Zj rs id).isSome=true:=by
 unfold Zj
 rw [Option.isSome_map,List.find?_isSome]
 obtain ⟨x,hx,rfl⟩:=Kt.1 h
 exact ⟨x,hx,by simp⟩
theorem LaterOk.refl (t:Tb):LaterOk t t:=⟨rfl,rfl,Int.le_refl _,fun r hr=>.inl (ZhC (Ko (f:=fun x:Row=>x.1) hr))⟩
theorem ZjN (M:Nat→Prop) (w:World) (hM:∀ b,M b→b<w.heap.size) (v c:Value) (t:Tb) (ins:List (List Vl)) (dels:List Int) (us:List Upd) (hT:Wo w M v t) (hC:Zad M ins dels us c w) (hs:t.nm.size≤maxLen) (hcs:∀ x∈t.cs,x.name.size≤maxLen)
  (hr:t.rs.length≤1000000) (hrl:∀ r∈t.rs,r.2.length≤1000000) (hi:ins.length≤1000000) (hd:dels.length≤1000000) (hu:us.length≤1000000):
  Calls Tryz.prog 28 #[v,c] w fun e w' =>∃ u,e=.returned u∧ZdP M (YY t.nm t.cs t.nx t.rs ins dels us) u w' ∧Below w.heap.size w w' :=by
 obtain ⟨A,n,cc,B,m,d,l,rfl,h1,h2,h3,h4,h5,h6,h7,h8⟩:=hT
 obtain ⟨x,y,z,rfl,⟨I,ni,ci,pi,rfl,i1,i2,rfl,i4,i5⟩,⟨D,nd,cd,rfl,d1,d2,d3⟩,⟨U,nu,cu,pu,rfl,u1,u2,rfl,u4,u5⟩⟩:=hC
 have hml:=h6.now.len
 have hil:=i5.now.len
 have hul:=u5.now.len
 have hdl:dels.length=nd:=(show Rd w w.heap.size 1 D nd (Vj dels) from d3.now).1|> fun h=>by simpa [Vj] using h
 have hrn:∀ r∈l,r.n≤4398046511104:=fun r hr' =>by
  have h9:=hrl r.row (by rw [←h8];exact Ko hr')
  have h10:r.vs.length=r.n:=VlsIn.len (h6.now.2 r hr')
  have h11:r.row.2=r.vs:=rfl
  rw [h11] at h9
  omega
 rw [←h8] at hr
 simp only [List.length_map] at hr hi hu
 have:=ZjM M w hM t.nm A n cc t.cs t.nx B m d l I ni ci pi D nd cd dels U nu cu pu h5 h6 i5 d3 u5 (by omega) (by omega) h7 hrn (fun p hp=>KI (u4 p hp).oc (u4 p hp).oc2) hs hcs (by omega) (by omega) (by omega) i4 u4
 rw [h8] at this
 refine this.mono ?_
 rintro e w' ⟨v,rfl,hv,b⟩
 exact ⟨_,rfl,⟨v,rfl,hv⟩,b⟩
end
section
open Go.RowKit
set_option linter.unusedSectionVars false
def UX (a b:Tb):Dl:=⟨a.nm,Z4 a.rs b.rs,Z4 b.rs a.rs,YF a.rs b.rs⟩
section
variable {a b:Tb} (ha:Zh a.nm a.cs a.nx a.rs=true) (hb:Zh b.nm b.cs b.nx b.rs=true) (hl:LaterOk a b)
include ha hb hl
theorem Ze2:Zw a b=(true,UX a b):=by
 obtain ⟨h1,h2,h3,h4⟩:=hl
 have:Xc a b=true:=by
  unfold Xc
  rw [ha,hb,decide_eq_true (show a.nm=b.nm∧a.cs=b.cs from ⟨h1.symm,h2.symm⟩),decide_eq_true h3]
  simp only [Bool.and_self,Bool.true_and,List.all_eq_true,Bool.or_eq_true,decide_eq_true_eq]
  exact h4
 unfold Zw
 rw [this];rfl
theorem Gj:Zw a a=(true,UX a a)∧(UX a a).ins=[]∧(UX a a).del=[]∧(UX a a).upd=[]:=by
 refine ⟨Ze2 ha ha (LaterOk.refl a),?_,?_,?_⟩
 ·exact List.filter_eq_nil_iff.2 fun r hr=>by rw [XO (Uy ha) hr];simp
 ·exact List.filter_eq_nil_iff.2 fun r hr=>by rw [XO (Uy ha) hr];simp
 ·exact List.filterMap_eq_nil_iff.2 fun r hr=>by rw [XO (Uy ha) hr];simp
end
end
section
open Go.RowKit
structure Ue where
 nm:ByteArray
 nx:Int
 I:Option Addr
 ni:Nat
 ci:Nat
 D:Option Addr
 nd:Nat
 cd:Nat
 U:Option Addr
 nu:Nat
 cu:Nat
 li:List Int
 ld:List Rw
 lu:List Rw
theorem JI (l:List Te) (x:Te):ZC (l++[x])=ZC l++x.cells:=by simp [ZC]
def Ug (l:List Te) (w:World):Prop:=∀ x∈l,YA x w
theorem JJ {M:Nat→Prop} {w:World} {rs:List Te} {r:Te} (h:Ro w M (Ug rs)) (k:Ro w M (YA r)):Ro w M (Ug (rs++[r])):=fun w2 h1 h2 x hx=>by
 rcases Kk.1 hx with hx|hx
 ·exact h w2 h1 h2 x hx
 ·simp at hx;subst hx;exact k w2 h1 h2
theorem Zds (w:World) (M:Nat→Prop):Ro w M (Ug []):=fun _ _ _ r hr=>nomatch hr
def Zev (w:World) (M:Nat→Prop) (t:Tb) (e:Ending) (w' :World):Prop:=∃ x:Te,e=.returned x.val∧x.tb=t∧x.ok∧Ro w' M (YA x)∧Below w.heap.size w w'
def Zew (w:World) (M:Nat→Prop) (ts:List Tb) (e:Ending) (w' :World):Prop:=∃ (A:Option Addr) (n c:Nat) (l:List Te),e=.returned (.slice A n c)∧n≤c∧c≤9223372036854775807∧l.map Te.tb=ts∧(∀ x∈l,x.ok)∧Ro w' M (TesIn A n l)∧Below w.heap.size w w'
def Zam (w:World) (M:Nat→Prop) (K:Nat) (rs:List Row) (e:Ending) (w' :World):Prop:=∃ (A:Option Addr) (n c:Nat) (l:List Rw),e=.returned (.slice A n c)∧n≤c∧c≤9223372036854775807∧l.map Rw.row=rs∧(∀ r∈l,r.ok∧r.n≤K)∧Ro w' M (RwsIn A n l)∧Below w.heap.size w w'
theorem ZcL {l outs:List Rw} {j K:Nat} {x:Rw} {A:Option Addr} {n c:Nat} (h:outs.map Rw.row=(l.take j).map Rw.row∧∀ r∈outs,r.ok∧r.n≤K) (hx:l[j]? =some x) (hk:x.ok∧x.n≤K) (h1:n≤c) (h2:c≤9223372036854775807) (h3:n≤K):
  (outs++[(⟨x.id,A,n,c,x.vs⟩:Rw)]).map Rw.row=(l.take (j+1)).map Rw.row∧∀ r∈outs++[(⟨x.id,A,n,c,x.vs⟩:Rw)],r.ok∧r.n≤K:=by
 constructor
 ·rw [Km,h.1,Kq,hx,Km];rfl
 ·intro r hr
  rcases Kk.1 hr with hr|hr
  ·exact h.2 r hr
  ·simp at hr;subst hr;exact ⟨⟨hk.1.id,h1,h2,hk.1.vs⟩,h3⟩
theorem ZkI (M:Nat→Prop) (w:World) (hM:∀ b,M b→b<w.heap.size) (nm:ByteArray) (A:Option Addr) (n c:Nat) (cs:List Col) (nx:Int) (B:Option Addr) (m d K:Nat) (l:List Rw) (hC:Ro w M (ColsIn A n cs)) (hE:Ro w M (RwsIn B m l)) (hn:n≤4398046511104) (hm:m≤1000000) (hK:K≤4398046511104) (hrn:∀ r∈l,r.ok∧r.n≤K):
  Calls Tryz.prog 47 #[.agg #[.string nm,.slice A n c,.int .i64 nx,.slice B m d]] w fun e w' =>Zev w M ⟨nm,cs,nx,l.map Rw.row⟩ e w' :=by
 have HRL:=hid hE.now.len
 have HRN:=hid hrn
 have HKK:=hid hK
 clear hrn hK
 have K0:=((((Hold.start M w hM).add (hE.less (by simp [Mut]))).add (hC.less (by simp [Mut,Hp.foot]))).alloc #[.string nm,.slice A n c,.int .i64 nx,.slice B m d] 69).alloc #[.string ⟨#[]⟩,.slice none 0 0,.int .i64 0,.slice none 0 0] 69
 rw [KP] at K0
 clear hC hE
 have F0:=K0.facts
 simp only [zg] at F0
 have KN:=K0.nil 124 4
 have k5:=hid ((K0.ro 2 rfl).now)
 go_enter Tryz.func47,Tryz.ntmps47
 go_wp2_with (at_builtin;go_must (refine ZX KN 0 rfl Tryz.U6 k5.out rfl (.const (.slice none 0 0)) (.tmp 8) rfl rfl rfl (Ji _) (by omega) (by omega) ?_);intro C9 cap9 w9 hc9 hm9 KB;(try simp only [Nat.zero_add] at hc9 ⊢);simp only [Nat.zero_add,List.nil_append,List.set_cons_zero,List.set_cons_succ] at KB;(have FB:=KB.facts);simp only [zg] at FB)
 have KC:=(KB.Zq 0 rfl).store 2 rfl 1 (.slice C9 n cap9)
 simp only [zl] at KC
 have KD:=(KC.add (Vu _ _)).nil 72 2
 have FD:=KD.facts
 simp only [zg] at FD
 clear K0 KN F0 k5 KB KC
 go_wp2_with fail
 generalize World.setCell _ _ _=w10 at KD ⊢
 clear FB FD
 obtain ⟨g1,hg1⟩:∃ g1,g1=w.heap.size:=⟨_,rfl⟩
 obtain ⟨g2,hg2⟩:∃ g2,g2=g1+1:=⟨_,rfl⟩
 rw [←hg1,←hg2] at KD ⊢
 have HG1:=hid hg1
 clear hg1 hg2
 go_loopw [3,15] (fun ov iv wr=>∃ (j cap:Nat) (O:Option Addr) (outs:List Rw),j≤m∧iv=.int .i64 j∧ov=.slice O j cap∧Hid (outs.map Rw.row=(l.take j).map Rw.row∧∀ r∈outs,r.ok∧r.n≤K)∧Hold M none w wr [.own 72 2 (.slice O j cap) j (Zp outs),.ro (Yl outs),.ro (ColsIn C9 n cs),.blk g2 69 #[.string ⟨#[]⟩,.slice none 0 0,.int .i64 0,.slice none 0 0],.blk g1 69 #[.string nm,.slice C9 n cap9,.int .i64 nx,.slice B m d],.ro (ColsIn A n cs),.ro (RwsIn B m l)]) (fun _ iv _=>m - (intOf iv).toNat)
 case atStart=>exact ⟨0,0,none,[],by omega,rfl,rfl,hid ⟨rfl,fun r hr=>nomatch hr⟩,KD⟩
 case round=>
  clear KD
  obtain ⟨j,cap,O,outs,hj,rfl,rfl,HW,H⟩:=hrel
  by_cases hlt:j<m
  ·have hd:decide ((j:Int)<(m:Int))=true:=by simp;omega
   have j0:(0:Int)≤(j:Int):=by omega
   have j1:(j:Int)<(m:Int):=by omega
   obtain ⟨x,hx⟩:=Zl HRL.out hlt
   obtain ⟨b,o,rfl,hb,c0,c1,hxv⟩:=(H.ro 6 rfl).now.at_ hx
   have HXO:=hid (HRN.out x (Ka hx))
   have hxn:x.n≤4398046511104:=KI HXO.out.2 HKK.out
   have HXL:=hid (show x.vs.length=x.n from hxv.len)
   have HXG:=hid hx
   have hxr:Ro wr _ (VlsIn x.A x.n x.vs):=(H.ro 6 rfl).imp fun w2 h2=>h2.2 x (Ka hx)
   clear hx hxv
   have K1:=(H.add hxr).Za #[.int .i64 x.id,.slice x.A x.n x.c] 72
   clear H hxr
   obtain ⟨gr,hgr⟩:∃ gr,gr=wr.heap.size:=⟨_,rfl⟩
   rw [←hgr] at K1
   have F1:=K1.facts
   simp only [zg] at F1
   go_wp2_with fail
   rw [←hgr]
   have HGR:=hid hgr
   clear hgr c0 c1 F1
   obtain ⟨KL,hKL,KN⟩:=K1.name
   have HF:Hid (∀ wv,Hold M none w wv KL→wv.cell? ⟨gr,0,none⟩=some (.int .i64 x.id)∧wv.cell? ⟨gr,1,none⟩=some (.slice x.A x.n x.c)∧gr<wv.heap.size):=hid fun wv HC=>by
    rw [hKL] at HC
    have y0:=HC.Zg 0 rfl
    exact ⟨Li _ _ 0 _ _ _ y0,Li _ _ 1 _ _ _ y0,Blk.lt y0⟩
   have HRX:Hid (∀ wv,Hold M none w wv KL→Ro wv (Mut M KL) (VlsIn x.A x.n x.vs)):=hid fun wv HC=>by
    rw [hKL] at HC ⊢
    exact HC.ro 1 rfl
   have HKL:=hid hKL
   clear hKL K1
   go_wp2_with fail
   refine Lj (by kernel_rfl) ?_
   refine Zn 8 32 (KL) (spL [(24,Zx (Mut M KL) x.vs),(25,Z0 (Mut M KL) x.id x.vs),(26,ZZ (Mut M KL) x.id x.vs)]) (by kernel_rfl) (by kernel_rfl) (by kernel_rfl) rfl ?_ (KN.drew) ?_
   ·exact Zd XG (Zd WX (Zd WV (Zm _)))
   simp only [zd,zp,List.getElem_toArray,List.getElem_cons_zero,List.getElem_cons_succ]
   iterate 2
    refine' dv rfl rfl rfl (fun wv HC=>?_) ?_;rotate_left
    · go_simp<;>rfl
    simp only [zp]
   refine' dv rfl rfl rfl (fun wv HC=>?_) ?_;rotate_left
   ·obtain ⟨f0,f1,f2⟩:=HF.out _ HC;go_simp<;>rfl
   simp only [zp]
   refine' dv rfl rfl rfl (fun wv HC=>?_) ?_;rotate_left
   · go_simp<;>rfl
   simp only [zp]
   refine' dv rfl rfl rfl (fun wv HC=>?_) ?_;rotate_left
   ·obtain ⟨f0,f1,f2⟩:=HF.out _ HC;go_simp<;>rfl
   simp only [zp]
   refine Zi 24 (Zx (Mut M KL) x.vs) (f:=51) (args:=#[.slice x.A x.n x.c]) rfl rfl rfl rfl (fun wv=>?_) (fun wv HC hrm hD=>?_) ?_
   ·go_simp<;>rfl
   ·refine (Xe _ wv HC.Zb x.A x.n x.c x.vs (HRX.out _ HC) hxn).mono ?_
    rintro e w5 ⟨A5,n5,c5,rfl,h50,h51,h52,h53,b5⟩
    exact ⟨_,rfl,⟨A5,n5,c5,rfl,h50,h51,h52,h53⟩,HC.call b5,RM.below b5⟩
   rintro x_ wx HCx ⟨A5,n5,c5,rfl,h50,h51,h52,h53⟩
   simp only [zp]
   have H50:=hid h50
   clear HCx h53 h50
   refine YI 25 (Z0 (Mut M KL) x.id x.vs) rfl rfl rfl rfl (.agg #[.int .i64 x.id,.slice A5 n5 c5]) (fun wv HC=>?_) (fun wv HC hD=>?_) ?_
   ·go_simp<;>rfl
   ·have hsl:Zx (Mut M KL) x.vs (.slice A5 n5 c5) wv:=ZI hD 5 rfl (by kernel_rfl) rfl rfl
    obtain ⟨A6,n6,c6,e6,h1,h2,h3,h4⟩:=hsl
    exact ⟨A6,n6,c6,by rw [e6],h1,h2,h3,h4⟩
   simp only [zp]
   refine Z8 #[.int .i64 x.id,.slice A5 n5 c5] 72 26 (ZZ (Mut M KL) x.id x.vs) (fun g=>.slice (some ⟨g,0,none⟩) 1 1) rfl rfl rfl rfl (fun wv=>?_) (fun wv HC _hrm hD hro=>?_) ?_
   ·go_simp<;>rfl
   ·have hsl:Z0 (Mut M KL) x.id x.vs (.agg #[.int .i64 x.id,.slice A5 n5 c5]) wv:=ZI hD 6 rfl (by kernel_rfl) rfl rfl
    obtain ⟨A6,n6,c6,e6,h1,h2,h3,h4⟩:=hsl
    obtain ⟨rfl,rfl,rfl⟩:A5=A6∧n5=n6∧c5=c6:=by
     injection e6 with e6
     simp at e6
     exact e6
    exact ⟨_,A5,n5,c5,rfl,h1,h2,h3,h4.step (by simp) (fun b hb _=>Below.heap_alloc wv _ b hb) (fun _ _ h=>h),ZO (hro _ HC.Zb) rfl⟩
   rintro g2 wg HCg hsl
   simp only [zp]
   clear hsl HCg
   refine Zk ?_
   rintro wx2 HX
   rintro _hrm HGW
   have hb2:ZZ (Mut M KL) x.id x.vs (.slice (some ⟨g2,0,none⟩) 1 1) wx2:=(Zo (d:=26) rfl).1 (HGW 7 _ rfl (by omega))
   clear HGW _hrm
   obtain ⟨g3,A6,n6,c6,e6,k0_,k1_,k2_,k3_,k4_⟩:=hb2
   obtain rfl:g2=g3:=by injection e6 with e6;injection e6 with e6;injection e6
   clear e6
   rw [HKL.out] at HX k3_
   have k5:=hid k4_.now
   have HK0:=hid k0_
   clear k4_ k0_ HF HRX KN
   have HRS:=hid (show Zp outs++[.int .i64 x.id,.slice A6 n6 c6]=Zp (outs++[⟨x.id,A6,n6,c6,x.vs⟩]) from Wy _ _ _ _ _ _)
   have KA:=HX.add k3_
   clear HX k3_
   have FKA:=KA.facts
   simp only [zg] at FKA
   go_wp2_with (at_builtin;go_must (refine ZX KA 3 rfl Tryz.Xy k5.out rfl (.tmp 19) (.tmp 26) rfl rfl rfl (by intro z hz;simp at hz;rcases hz with rfl|rfl<;>rfl) (by omega) (by omega) ?_);intro C' cap' w6 hc6 hm6 KB;rw [HRS.out] at KB;simp only [zl] at KB;(have F3:=KB.facts);simp only [zg] at F3)
   have KE:=(KB.ZT 4 rfl (XF (r:=⟨x.id,A6,n6,c6,x.vs⟩) (KB.ro 4 rfl) (KB.ro 0 rfl))).drop (Ke _ (Ke _ (Kb _ _)))
   have HW2:=hid (ZcL (A:=A6) HW.out HXG.out HXO.out k1_ k2_ (by rw [HK0.out,HXL.out];exact HXO.out.2))
   go_roundw
   case rel=>exact ⟨j+1,cap',C',_,by omega,by go_num,by first|rfl|trivial,HW2,KE⟩
   case measure=>simp [intOf];omega
  ·obtain rfl:m=j:=by omega
   have hd:decide ((m:Int)<(m:Int))=false:=by simp
   have F:=H.facts
   simp only [zg] at F
   have N:=H.nes
   simp only [World.size_alloc,X9,neF,List.set_cons_zero,List.set_cons_succ,and_true,true_and] at N
   have hcap:=ZM (H.get 0 rfl)
   have KS:=H.Zq 0 rfl
   simp only [List.set_cons_zero] at KS
   have KN:=((((KS.store 4 rfl 3 (.slice O m cap)).store 3 rfl 0 (.string nm)).store 3 rfl 1 (.slice C9 n cap9)).store 3 rfl 2 (.int .i64 nx)).store 3 rfl 3 (.slice O m cap)
   have r0:=KN.ZN 2 rfl
   have r1:=(KN.ZN 0 rfl).and (KN.ZN 1 rfl)
   have HW2:=hid (show outs.map Rw.row=l.map Rw.row by have h:=HW.out.1;rwa [Kh (by rw [HRL.out];exact Kg _)] at h)
   go_wp2_with fail
   exact bodyPost_ret (v:=.agg #[.string nm,.slice C9 n cap9,.int .i64 nx,.slice O m cap]) (by simp [results,Tryz.results47,go_sem,F,N]) rfl ⟨⟨nm,C9,n,cap9,cs,nx,O,m,cap,outs⟩,rfl,by simp only [Te.tb,HW2.out],⟨hc9,hm9,hcap.1,hcap.2.1,fun r hr=>(HW.out.2 r hr).1⟩,r0.and r1,KN.below⟩
theorem Tryz.Un:ElemT Tryz.prog 49 69 4 72 (.agg #[.string ⟨#[]⟩,.slice none 0 0,.int .i64 0,.slice none 0 0]):=⟨Tryz.underlying49,by kernel_rfl,rfl,by omega⟩
def Uf (x:Te):Prop:=x.n≤4398046511104∧x.m≤1000000∧∀ r∈x.l,r.ok∧r.n≤4398046511104
def Zao (outs l:List Te) (j:Nat):Prop:=outs.map Te.tb=(l.take j).map Te.tb∧∀ y∈outs,y.ok
theorem Zix {M:Nat→Prop} {k:Hp} {L:List Hp} {b:Nat} (h:Mut M [k] b):Mut M (k::L) b:=by
 rcases h with h|⟨k2,hk,hf⟩
 ·exact .inl h
 ·simp only [List.mem_singleton] at hk;subst hk;exact .inr ⟨_,Kl,hf⟩
def nm3 (k:Nat):ByteArray:=if k=0 then Xt else if k=1 then nmT else nmU
def cs3 (k:Nat):List Col:=if k=0 then Xr else if k=1 then W9 else Y3
structure Sto3 (N k:Nat) (outs:List Te):Prop where
 len:outs.length=k
 ok:∀ x∈outs,x.ok∧VTab x.tb∧x.tb.rs.length≤N
 at_:∀ (j:Nat) (x:Te),outs[j]? =some x→x.tb.nm=nm3 j∧x.tb.cs=cs3 j
theorem Sto3.zero (N:Nat):Sto3 N 0 []:=⟨rfl,fun x hx=>(nomatch hx),fun j x h=>by simp at h⟩
theorem Sto3.next {N k:Nat} {outs:List Te} {y:Te} (h:Sto3 N k outs) (h1:y.ok) (h2:VTab y.tb) (h3:y.tb.rs.length≤N) (h4:y.tb.nm=nm3 k) (h5:y.tb.cs=cs3 k):Sto3 N (k+1) (outs++[y]):=by
 refine ⟨by simp [h.len],fun x hx=>?_,fun j x hx=>?_⟩
 ·rcases Kk.1 hx with hx|hx
  ·exact h.ok x hx
  ·simp at hx;subst hx;exact ⟨h1,h2,h3⟩
 ·rw [List.getElem?_append] at hx
  split at hx
  ·exact h.at_ j x hx
  ·rename_i hj
   have hk:=h.len
   obtain rfl:j=k:=by
    have:=(Kc.1 hx).1
    simp at this;omega
   rw [hk] at hx
   simp at hx
   subst hx
   exact ⟨h4,h5⟩
def Zet (w:World) (T:Nat) (M:Nat→Prop) (N:Nat) (e:Ending) (w' :World):Prop:=
 ∃ (A:Option Addr) (c:Nat) (l:List Te),e=.returned (.slice A 3 c)∧3≤c∧c≤9223372036854775807∧Sto3 N 3 l∧Ro w' M (TesIn A 3 l)∧Tp w' T∧w.grownBy w' (some T)
theorem Zl5 (M:Nat→Prop) (T:Nat) (w:World) (hM:∀ b,M b→b<w.heap.size) (ht:Tp w T) (hMT:∀ b,M b→T≤b) (N:Nat) (hN:N≤50) (hW:Ro w (Mut M [.tp T]) Wds) (hw:0<T):
  Calls Tryz.prog 10 #[.pointer (some ⟨T,0,none⟩),.int .i64 N] w fun e w' =>Zet w T M N e w' :=by
 have K0:=(Hold.zG M w T hM ht hMT).add hW
 clear hW
 go_enter Tryz.func10,Tryz.ntmps10
 go_wp2_with fail
 refine (Zc1 _ _ K0.Zb).mono ?_
 rintro e w1 ⟨g,g0,g1,g2,nl,nt,nu,hnl,hnt,hnu,rfl,b1,r0,r1,r2,r3⟩
 have HNL:=hid (KJ hnl (KJ hnt hnu))
 have K1:=((((((K0.call b1).add r3).add (r2.less (by simp [Mut,Hp.foot]))).add (r1.less (by simp [Mut,Hp.foot]))).add (r0.less (by simp [Mut,Hp.foot]))).add (Zds _ _)).nil 69 4
 clear K0 b1 r0 r1 r2 r3 hnl hnt hnu
 go_wp2_with fail
 go_loopw [5,10] (fun ov iv wr=>∃ (k cap:Nat) (O:Option Addr) (outs:List Te),k≤3∧iv=.int .i64 k∧ov=.slice O k cap∧Hid (Sto3 N k outs)∧Hold M (some T) w wr [.own 69 4 (.slice O k cap) k (ZC outs),.ro (Ug outs),.ro (fun w=>w.heap[g]? =some (.cells #[.string nl,.slice (some ⟨g0,0,none⟩) 2 2,.string nt,.slice (some ⟨g1,0,none⟩) 4 4,.string nu,.slice (some ⟨g2,0,none⟩) 3 3] 66 (0,0))),.ro (ColsIn (some ⟨g0,0,none⟩) 2 Xr),.ro (ColsIn (some ⟨g1,0,none⟩) 4 W9),.ro (ColsIn (some ⟨g2,0,none⟩) 3 Y3),.ro Wds,.tp T]) (fun _ iv _=>3 - (intOf iv).toNat)
 case atStart=>exact ⟨0,0,none,[],by omega,rfl,rfl,hid (Sto3.zero N),K1⟩
 case round=>
  clear K1
  obtain ⟨k,cap,O,outs,hk,rfl,rfl,HS,H⟩:=hrel
  by_cases hlt:k<3
  ·have hd:decide ((k:Int)<3)=true:=by simp;omega
   have hblk:=(H.ro 2 rfl).now
   have hgl:=Blk.lt hblk
   obtain rfl|rfl|rfl:k=0∨k=1∨k=2:=by omega
   ·have c0:=Li _ _ 0 _ _ _ hblk
    have c1:=Li _ _ 1 _ _ _ hblk
    clear hblk
    have K1:=H.Za #[.string nl,.slice (some ⟨g0,0,none⟩) 2 2] 66
    have F1:=K1.facts
    simp only [zg] at F1
    clear H
    go_wp2_with fail
    refine (zL (Mut M _) T _ K1.Zb (K1.tp_ 8 rfl) (K1.get 8 rfl).2 nl (some ⟨g0,0,none⟩) 2 2 Xr N ((K1.ro 4 rfl).less (WQ (i:=8) rfl)) (by omega) (by omega) (by rw [HNL.out.1];exact zu (by decide+kernel)) ((K1.ro 7 rfl).less (WQ (i:=8) rfl)) hw hN).mono ?_
    rintro e w5 ⟨v,t,rfl,hT,hv,hn1,hc1,hr1,t5,g5⟩
    obtain ⟨y,rfl,hy,hyo,ry⟩:=JG hT
    have hyv:y.val=.agg #[.string y.nm,.slice y.A y.n y.c,.int .i64 y.nx,.slice y.B y.m y.d]:=rfl
    rw [hyv]
    clear hyv
    have K2:=(Hold.Xk K1 8 rfl g5 t5).add ry
    have HY:=hid (show y.ok∧VTab y.tb∧y.tb.rs.length≤N∧y.tb.nm=nl∧y.tb.cs=Xr from ⟨hyo,by rw [hy];exact hv,by rw [hy];exact hr1,by rw [hy];exact hn1,by rw [hy];exact hc1⟩)
    clear K1 F1 hT hv hn1 hc1 hr1 t5 g5 hy hyo ry
    go_wp2_with (at_builtin;go_must (refine ZJ K2 2 rfl Tryz.Un #[.string y.nm,.slice y.A y.n y.c,.int .i64 y.nx,.slice y.B y.m y.d] rfl (.tmp 14) (.tmp 19) rfl rfl _ (by first|rfl|simp) rfl rfl (by intro u hu;simp at hu;rcases hu with rfl|rfl|rfl|rfl<;>rfl) (by omega) (by omega) ?_);intro g9 cap9 w9 hc9 hm9 KB;simp only [zl] at KB)
    have e9:ZC outs++(#[.string y.nm,.slice y.A y.n y.c,.int .i64 y.nx,.slice y.B y.m y.d]).toList=ZC (outs++[y]):=(JI outs y).symm
    rw [e9] at KB
    have KC:=(KB.ZT 3 rfl (JJ (r:=y) (KB.ro 3 rfl) (KB.ro 0 rfl))).drop (Ke _ (Kb _ _))
    have HS2:=hid (HS.out.next HY.out.1 HY.out.2.1 HY.out.2.2.1 (show y.tb.nm=nm3 0 from HY.out.2.2.2.1.trans HNL.out.1) (show y.tb.cs=cs3 0 from HY.out.2.2.2.2))
    go_roundw
    case rel=>exact ⟨1,cap9,_,_,by omega,by go_num,by first|rfl|trivial,HS2,KC⟩
    case measure=>simp [intOf]
   ·have c0:=Li _ _ 2 _ _ _ hblk
    have c1:=Li _ _ 3 _ _ _ hblk
    clear hblk
    have K1:=H.Za #[.string nt,.slice (some ⟨g1,0,none⟩) 4 4] 66
    have F1:=K1.facts
    simp only [zg] at F1
    clear H
    go_wp2_with fail
    refine (zL (Mut M _) T _ K1.Zb (K1.tp_ 8 rfl) (K1.get 8 rfl).2 nt (some ⟨g1,0,none⟩) 4 4 W9 N ((K1.ro 5 rfl).less (WQ (i:=8) rfl)) (by omega) (by omega) (by rw [HNL.out.2.1];exact zu (by decide+kernel)) ((K1.ro 7 rfl).less (WQ (i:=8) rfl)) hw hN).mono ?_
    rintro e w5 ⟨v,t,rfl,hT,hv,hn1,hc1,hr1,t5,g5⟩
    obtain ⟨y,rfl,hy,hyo,ry⟩:=JG hT
    have hyv:y.val=.agg #[.string y.nm,.slice y.A y.n y.c,.int .i64 y.nx,.slice y.B y.m y.d]:=rfl
    rw [hyv]
    clear hyv
    have K2:=(Hold.Xk K1 8 rfl g5 t5).add ry
    have HY:=hid (show y.ok∧VTab y.tb∧y.tb.rs.length≤N∧y.tb.nm=nt∧y.tb.cs=W9 from ⟨hyo,by rw [hy];exact hv,by rw [hy];exact hr1,by rw [hy];exact hn1,by rw [hy];exact hc1⟩)
    clear K1 F1 hT hv hn1 hc1 hr1 t5 g5 hy hyo ry
    go_wp2_with (at_builtin;go_must (refine ZJ K2 2 rfl Tryz.Un #[.string y.nm,.slice y.A y.n y.c,.int .i64 y.nx,.slice y.B y.m y.d] rfl (.tmp 14) (.tmp 19) rfl rfl _ (by first|rfl|simp) rfl rfl (by intro u hu;simp at hu;rcases hu with rfl|rfl|rfl|rfl<;>rfl) (by omega) (by omega) ?_);intro g9 cap9 w9 hc9 hm9 KB;simp only [zl] at KB)
    have e9:ZC outs++(#[.string y.nm,.slice y.A y.n y.c,.int .i64 y.nx,.slice y.B y.m y.d]).toList=ZC (outs++[y]):=(JI outs y).symm
    rw [e9] at KB
    have KC:=(KB.ZT 3 rfl (JJ (r:=y) (KB.ro 3 rfl) (KB.ro 0 rfl))).drop (Ke _ (Kb _ _))
    have HS2:=hid (HS.out.next HY.out.1 HY.out.2.1 HY.out.2.2.1 (show y.tb.nm=nm3 1 from HY.out.2.2.2.1.trans HNL.out.2.1) (show y.tb.cs=cs3 1 from HY.out.2.2.2.2))
    go_roundw
    case rel=>exact ⟨2,cap9,_,_,by omega,by go_num,by first|rfl|trivial,HS2,KC⟩
    case measure=>simp [intOf]
   ·have c0:=Li _ _ 4 _ _ _ hblk
    have c1:=Li _ _ 5 _ _ _ hblk
    clear hblk
    have K1:=H.Za #[.string nu,.slice (some ⟨g2,0,none⟩) 3 3] 66
    have F1:=K1.facts
    simp only [zg] at F1
    clear H
    go_wp2_with fail
    refine (zL (Mut M _) T _ K1.Zb (K1.tp_ 8 rfl) (K1.get 8 rfl).2 nu (some ⟨g2,0,none⟩) 3 3 Y3 N ((K1.ro 6 rfl).less (WQ (i:=8) rfl)) (by omega) (by omega) (by rw [HNL.out.2.2];exact zu (by decide+kernel)) ((K1.ro 7 rfl).less (WQ (i:=8) rfl)) hw hN).mono ?_
    rintro e w5 ⟨v,t,rfl,hT,hv,hn1,hc1,hr1,t5,g5⟩
    obtain ⟨y,rfl,hy,hyo,ry⟩:=JG hT
    have hyv:y.val=.agg #[.string y.nm,.slice y.A y.n y.c,.int .i64 y.nx,.slice y.B y.m y.d]:=rfl
    rw [hyv]
    clear hyv
    have K2:=(Hold.Xk K1 8 rfl g5 t5).add ry
    have HY:=hid (show y.ok∧VTab y.tb∧y.tb.rs.length≤N∧y.tb.nm=nu∧y.tb.cs=Y3 from ⟨hyo,by rw [hy];exact hv,by rw [hy];exact hr1,by rw [hy];exact hn1,by rw [hy];exact hc1⟩)
    clear K1 F1 hT hv hn1 hc1 hr1 t5 g5 hy hyo ry
    go_wp2_with (at_builtin;go_must (refine ZJ K2 2 rfl Tryz.Un #[.string y.nm,.slice y.A y.n y.c,.int .i64 y.nx,.slice y.B y.m y.d] rfl (.tmp 14) (.tmp 19) rfl rfl _ (by first|rfl|simp) rfl rfl (by intro u hu;simp at hu;rcases hu with rfl|rfl|rfl|rfl<;>rfl) (by omega) (by omega) ?_);intro g9 cap9 w9 hc9 hm9 KB;simp only [zl] at KB)
    have e9:ZC outs++(#[.string y.nm,.slice y.A y.n y.c,.int .i64 y.nx,.slice y.B y.m y.d]).toList=ZC (outs++[y]):=(JI outs y).symm
    rw [e9] at KB
    have KC:=(KB.ZT 3 rfl (JJ (r:=y) (KB.ro 3 rfl) (KB.ro 0 rfl))).drop (Ke _ (Kb _ _))
    have HS2:=hid (HS.out.next HY.out.1 HY.out.2.1 HY.out.2.2.1 (show y.tb.nm=nm3 2 from HY.out.2.2.2.1.trans HNL.out.2.2) (show y.tb.cs=cs3 2 from HY.out.2.2.2.2))
    go_roundw
    case rel=>exact ⟨3,cap9,_,_,by omega,by go_num,by first|rfl|trivial,HS2,KC⟩
    case measure=>simp [intOf]
  ·obtain rfl:k=3:=by omega
   have hd:decide (((3:Nat):Int)<3)=false:=by decide
   have hcap:=ZM (H.get 0 rfl)
   have KS:=H.Zq 0 rfl
   simp only [List.set_cons_zero] at KS
   have r1:=(KS.ZN 0 rfl).and (KS.ZN 1 rfl)
   have ht9:=KS.tp_ 7 rfl
   have HG:=hid KS.grow
   clear H
   go_wp2_with fail
   go_ret
   exact ⟨O,cap,outs,rfl,hcap.1,hcap.2.1,HS.out,r1,ht9,HG.out⟩
def TesOwn (w:World) (M:Nat→Prop) (ts:List Tb) (e:Ending) (w' :World):Prop:=∃ (A:Option Addr) (n c:Nat) (l:List Te),e=.returned (.slice A n c)∧l.map Te.tb=ts∧(∀ x∈l,x.ok)∧w'.ownsRow w.heap.size 69 4 (.slice A n c) n (ZC l)∧Ro w' (Mut M [.own 69 4 (.slice A n c) n (ZC l)]) (Ug l)∧Below w.heap.size w w'
theorem Zle {α:Type} (a b:List α) (i:Nat) (v:α):(a++b).set (a.length+i) v=a++b.set i v:=by
 rw [List.set_append_right _ _ (by omega)];congr 2;omega
theorem Zdr:∀ {l:List Te} {k:Nat} {x:Te} (y:Te),l[k]? =some x→((((ZC l).set (k * 4) (.string y.nm)).set (k * 4+1) (.slice y.A y.n y.c)).set (k * 4+2) (.int .i64 y.nx)).set (k * 4+3) (.slice y.B y.m y.d)=ZC (l.set k y)
 | [],k,x,y,h=>by simp at h
 | z::l,0,x,y,h=>by simp [ZC,Te.cells]
 | z::l,k+1,x,y,h=>by
  have ih:=Zdr (l:=l) (k:=k) (x:=x) y (by simpa using h)
  have e:ZC (z::l)=z.cells++ZC l:=by simp [ZC]
  have hl:z.cells.length=4:=rfl
  have c:∀ (b:List Value) (j:Nat) (v:Value),(z.cells++b).set ((k+1) * 4+j) v=z.cells++b.set (k * 4+j) v:=fun b j v=>by
   rw [show (k+1) * 4+j=z.cells.length+(k * 4+j) by rw [hl];omega];exact Zle _ _ _ _
  have c0:∀ (b:List Value) (v:Value),(z.cells++b).set ((k+1) * 4) v=z.cells++b.set (k * 4) v:=fun b v=>c b 0 v
  rw [e,c0,c,c,c,ih]
  simp [ZC]
theorem TesOwn.ret {w:World} {M:Nat→Prop} (hM:∀ b,M b→b<w.heap.size) {ts:List Tb} {e:Ending} {w' :World} (h:TesOwn w M ts e w'):Zew w M ts e w' :=by
 obtain ⟨A,n,c,l,h1,h2,h3,h4,h5,h6⟩:=h
 have hc:=ZM h4
 exact ⟨A,n,c,l,h1,hc.1,hc.2.1,h2,h3,(show Ro w' M (SlR 4 A n (ZC l)) from fun w2 a b=>Rd.Us (Zcl hM ⟨a,b⟩ h4)).and (h5.less fun b hb=>.inl hb),h6⟩
theorem Jt (M:Nat→Prop) (w:World) (hM:∀ b,M b→b<w.heap.size) (A:Option Addr) (n c:Nat) (l:List Te) (hok:∀ x∈l,Uf x) (hD:Ro w M (TesIn A n l)) (hn:n≤1000000):
  Calls Tryz.prog 23 #[.slice A n c] w fun e w' =>TesOwn w M (l.map Te.tb) e w' :=by
 have HL:=hid hD.now.len
 have HOK:=hid hok
 clear hok
 have K0:=(((Hold.start M w hM).add (hD.less (by simp [Mut]))).add (Zds _ _)).nil 69 4
 clear hD
 go_enter Tryz.func23,Tryz.ntmps23
 go_wp2_with fail
 go_loopw [3,8] (fun ov iv wr=>∃ (j cap:Nat) (O:Option Addr) (outs:List Te),j≤n∧iv=.int .i64 j∧ov=.slice O j cap∧Hid (Zao outs l j)∧Hold M none w wr [.own 69 4 (.slice O j cap) j (ZC outs),.ro (Ug outs),.ro (TesIn A n l)]) (fun _ iv _=>n - (intOf iv).toNat)
 case atStart=>exact ⟨0,0,none,[],by omega,rfl,rfl,hid ⟨rfl,fun r hr=>nomatch hr⟩,K0⟩
 case round=>
  clear K0
  obtain ⟨j,cap,O,outs,hj,rfl,rfl,HW,H⟩:=hrel
  by_cases hlt:j<n
  ·have hd:decide ((j:Int)<(n:Int))=true:=by simp;omega
   have j0:(0:Int)≤(j:Int):=by omega
   have j1:(j:Int)<(n:Int):=by omega
   obtain ⟨x,hx⟩:=Zl HL.out hlt
   obtain ⟨g,o,rfl,hb,c0,c1,c2,c3,-⟩:=(H.ro 2 rfl).now.at_ hx
   have HXO:=hid (HOK.out x (Ka hx))
   have HXM:=hid (Ka hx)
   have HXG:=hid hx
   clear hx
   have K1:=H.Za #[.string x.nm,.slice x.A x.n x.c,.int .i64 x.nx,.slice x.B x.m x.d] 69
   have FA:=K1.facts
   simp only [zg] at FA
   clear H
   go_wp2_with fail
   refine (ZkI _ _ K1.Zb x.nm x.A x.n x.c x.cs x.nx x.B x.m x.d 4398046511104 x.l ((K1.ro 3 rfl).imp fun w2 h2=>(h2.2 x HXM.out).1) ((K1.ro 3 rfl).imp fun w2 h2=>(h2.2 x HXM.out).2) HXO.out.1 HXO.out.2.1 (by omega) HXO.out.2.2).mono ?_
   rintro e w5 ⟨y,rfl,hy,hyo,ry,b5⟩
   have hv:y.val=.agg #[.string y.nm,.slice y.A y.n y.c,.int .i64 y.nx,.slice y.B y.m y.d]:=rfl
   rw [hv]
   clear hv
   have K2:=(K1.call b5).add ry
   have HS2:=hid (show Zao (outs++[y]) l (j+1) from ⟨by rw [Km,HW.out.1,Kq,HXG.out,Km];exact congrArg _ (congrArg (fun z=>[z]) hy),fun z hz=>by
    rcases Kk.1 hz with hz|hz
    ·exact HW.out.2 z hz
    ·simp at hz;subst hz;exact hyo⟩)
   clear b5 ry K1 FA hy hyo
   go_wp2_with (at_builtin;go_must (refine ZJ K2 2 rfl Tryz.Un #[.string y.nm,.slice y.A y.n y.c,.int .i64 y.nx,.slice y.B y.m y.d] rfl (.tmp 12) (.tmp 15) rfl rfl _ (by first|rfl|simp) rfl rfl (by intro u hu;simp at hu;rcases hu with rfl|rfl|rfl|rfl<;>rfl) (by omega) (by omega) ?_);intro g9 cap9 w9 hc9 hm9 KB;simp only [zl] at KB)
   have e9:ZC outs++(#[.string y.nm,.slice y.A y.n y.c,.int .i64 y.nx,.slice y.B y.m y.d]).toList=ZC (outs++[y]):=(JI outs y).symm
   rw [e9] at KB
   have KC:=(KB.ZT 3 rfl (JJ (r:=y) (KB.ro 3 rfl) (KB.ro 0 rfl))).drop (Ke _ (Kb _ _))
   go_roundw
   case rel=>exact ⟨j+1,cap9,_,_,by omega,by go_num,by first|rfl|trivial,HS2,KC⟩
   case measure=>simp [intOf];omega
  ·obtain rfl:n=j:=by omega
   have hd:decide ((n:Int)<(n:Int))=false:=by simp
   have hcap:=ZM (H.get 0 rfl)
   have HW2:=hid (show outs.map Te.tb=l.map Te.tb by have h:=HW.out.1;rwa [Kh (by rw [HL.out];exact Kg _)] at h)
   have HO:=hid (H.get 0 rfl)
   have HR:=hid ((H.ro 1 rfl).less (fun b hb=>Zix hb))
   have HB:=hid H.below
   clear H hcap
   go_wp2_with fail
   go_ret
   exact ⟨O,n,cap,outs,rfl,HW2.out,HW.out.2,HO.out,HR.out,HB.out⟩
theorem ZjO (M:Nat→Prop) (w:World) (hM:∀ b,M b→b<w.heap.size) (va vb:Value) (a b:Tb) (hTa:Wo w M va a) (hTb:Wo w M vb b) (hsa:a.nm.size≤maxLen) (hca:∀ x∈a.cs,x.name.size≤maxLen) (hra:a.rs.length≤4398046511104) (hsb:b.nm.size≤maxLen) (hcb:∀ x∈b.cs,x.name.size≤maxLen) (hrb:b.rs.length≤4398046511104):
  Calls Tryz.prog 30 #[va,vb] w fun e w' =>ZdS w M (Zw a b) e w' :=by
 obtain ⟨aA,an,ac,aB,am,ad,la,rfl,a1,a2,a3,a4,a5,a6,a7,a8⟩:=hTa
 obtain ⟨bA,bn,bc,bB,bm,bd,lb,rfl,b1,b2,b3,b4,b5,b6,b7,b8⟩:=hTb
 have HAL:=hid (show la.length=am from a6.now.len)
 have HBL:=hid (show lb.length=bm from b6.now.len)
 have HAR:=hid a8
 have HBR:=hid b8
 have HAO:=hid a7
 have HBO:=hid b7
 have HAE:=hid a6.now
 have HBE:=hid b6.now
 have HAC:=hid (show a.cs.length=an from Ul a5.now)
 have ham:am≤4398046511104:=by have:=HAL.out;have h:=congrArg List.length a8;rw [Kj] at h;omega
 have hbm:bm≤4398046511104:=by have:=HBL.out;have h:=congrArg List.length b8;rw [Kj] at h;omega
 have K0:=(((((((Hold.start M w hM).add (b6.less (by simp [Mut]))).add (b5.less (by simp [Mut,Hp.foot]))).add (a6.less (by simp [Mut,Hp.foot]))).add (a5.less (by simp [Mut,Hp.foot]))).Za #[.string a.nm,.slice aA an ac,.int .i64 a.nx,.slice aB am ad] 69).Za #[.string b.nm,.slice bA bn bc,.int .i64 b.nx,.slice bB bm bd] 69).alloc #[.string ⟨#[]⟩,.slice none 0 0,.slice none 0 0,.slice none 0 0] 103
 simp only [World.size_alloc] at K0
 have F0:=K0.facts
 simp only [zg] at F0
 clear a5 a6 a7 a8 b5 b6 b7 b8
 go_enter Tryz.func30,Tryz.ntmps30
 go_wp2_with fail
 obtain ⟨g2,hg2⟩:∃ g,g=w.heap.size:=⟨_,rfl⟩
 obtain ⟨g3,hg3⟩:∃ g,g=g2+1:=⟨_,rfl⟩
 obtain ⟨g4,hg4⟩:∃ g,g=g3+1:=⟨_,rfl⟩
 rw [←hg2,←hg3,←hg4] at K0 ⊢
 clear F0
 generalize ((w.alloc _).alloc _).alloc _=w1 at K0 ⊢
 have HGX:=hid hg2
 clear hg2 hg3 hg4
 have hv:=VV _ _ K0.Zb a.nm aA an ac a.cs a.nx aB am ad la (K0.ro 3 rfl) (K0.ro 4 rfl) (by omega) (by omega) HAO.out hsa hca
 rw [HAR.out] at hv
 refine hv.mono ?_
 clear hv
 rintro e w2 ⟨rfl,b1_⟩
 have K1:=K0.call b1_
 clear K0 b1_
 have F1:=K1.facts
 simp only [zg] at F1
 cases hva:Zh a.nm a.cs a.nx a.rs
 ·have HN:=hid (Ze0 (b:=b) hva)
  clear hva
  have KN:=(((K1.store 0 rfl 0 (.string ⟨#[]⟩)).store 0 rfl 1 (.slice none 0 0)).store 0 rfl 2 (.slice none 0 0)).store 0 rfl 3 (.slice none 0 0)
  go_wp2_with fail
  exact bodyPost_ret (v:=.tuple #[.agg #[.string ⟨#[]⟩,.slice none 0 0,.slice none 0 0,.slice none 0 0],.bool false]) (by simp [results,Tryz.results30,go_sem,F1]) rfl ⟨_,by rw [HN.out],by rw [HN.out];exact UZ,KN.below⟩
 have HVA:=hid hva
 clear hva
 go_wp2_with fail
 have hv:=VV _ _ K1.Zb b.nm bA bn bc b.cs b.nx bB bm bd lb (K1.ro 5 rfl) (K1.ro 6 rfl) (by omega) (by omega) HBO.out hsb hcb
 rw [HBR.out] at hv
 refine hv.mono ?_
 clear hv
 rintro e w3 ⟨rfl,b1_⟩
 have K2:=K1.call b1_
 clear K1 b1_ F1
 have F2:=K2.facts
 simp only [zg] at F2
 cases hvb:Zh b.nm b.cs b.nx b.rs
 ·have HN:=hid (Ze1 (a:=a) hvb)
  clear hvb
  have KN:=(((K2.store 0 rfl 0 (.string ⟨#[]⟩)).store 0 rfl 1 (.slice none 0 0)).store 0 rfl 2 (.slice none 0 0)).store 0 rfl 3 (.slice none 0 0)
  go_wp2_with fail
  exact bodyPost_ret (v:=.tuple #[.agg #[.string ⟨#[]⟩,.slice none 0 0,.slice none 0 0,.slice none 0 0],.bool false]) (by simp [results,Tryz.results30,go_sem,F2]) rfl ⟨_,by rw [HN.out],by rw [HN.out];exact UZ,KN.below⟩
 have HVB:=hid hvb
 clear hvb hsa hca hsb hcb
 have han6:an≤6:=by have:=Uz HVA.out;have:=HAC.out;omega
 have ham1:am≤100:=by have:=(Qx HVA.out).1;have h:=congrArg List.length HAR.out;rw [Kj] at h;have:=HAL.out;omega
 have hbm1:bm≤100:=by have:=(Qx HVB.out).1;have h:=congrArg List.length HBR.out;rw [Kj] at h;have:=HBL.out;omega
 have HSA:=hid (zt HAE.out (by rw [HAR.out];exact HVA.out))
 have HSB:=hid (zt HBE.out (by rw [HBR.out];exact HVB.out))
 clear ham hbm hra hrb
 go_wp2_with fail
 refine (ZkC _ a.nm aA an ac a.cs b.nm bA bn bc b.cs (K2.ro 3 rfl).now (K2.ro 5 rfl).now (by omega)).mono ?_
 rintro e w4 ⟨rfl,b1_⟩
 have K3:=K2.call b1_
 clear K2 b1_ F2
 have F3:=K3.facts
 simp only [zg] at F3
 cases hss:decide (a.nm=b.nm∧a.cs=b.cs)
 ·have HN:=hid (Ze4 hss)
  clear hss
  have KN:=(((K3.store 0 rfl 0 (.string ⟨#[]⟩)).store 0 rfl 1 (.slice none 0 0)).store 0 rfl 2 (.slice none 0 0)).store 0 rfl 3 (.slice none 0 0)
  go_wp2_with fail
  exact bodyPost_ret (v:=.tuple #[.agg #[.string ⟨#[]⟩,.slice none 0 0,.slice none 0 0,.slice none 0 0],.bool false]) (by simp [results,Tryz.results30,go_sem,F3]) rfl ⟨_,by rw [HN.out],by rw [HN.out];exact UZ,KN.below⟩
 have HEQ:=hid (of_decide_eq_true hss)
 clear hss
 by_cases hnx:b.nx<a.nx
 ·have hd:decide (b.nx<a.nx)=true:=by simpa using hnx
  have HN:=hid (Ze3 hnx)
  clear hnx
  have KN:=(((K3.store 0 rfl 0 (.string ⟨#[]⟩)).store 0 rfl 1 (.slice none 0 0)).store 0 rfl 2 (.slice none 0 0)).store 0 rfl 3 (.slice none 0 0)
  go_wp2_with fail
  exact bodyPost_ret (v:=.tuple #[.agg #[.string ⟨#[]⟩,.slice none 0 0,.slice none 0 0,.slice none 0 0],.bool false]) (by simp [results,Tryz.results30,go_sem,F3]) rfl ⟨_,by rw [HN.out],by rw [HN.out];exact UZ,KN.below⟩
 have hd:decide (b.nx<a.nx)=false:=by simpa using hnx
 have HST:=hid (RSt.zero HVA.out HVB.out HEQ.out (show a.nx≤b.nx by omega))
 clear hnx
 have K4:=K3.alloc #[.string a.nm,.slice none 0 0,.slice none 0 0,.slice none 0 0] 103
 go_wp2_with fail
 obtain ⟨g6,hg6⟩:∃ g,g=w4.heap.size:=⟨_,rfl⟩
 rw [←hg6] at K4 ⊢
 have HG6:=hid hg6
 clear hg6 hd F3 K3
 generalize World.alloc w4 _=w5 at K4 ⊢
 have K6:=((((((K4.add (show Ro _ _ (Yh []) from fun _ _ _ r hr=>nomatch hr)).add (Vu _ _)).add (Vu _ _)).nil 136 3).nil 72 2).nil 72 2)
 clear K4
 go_loopw [46] (fun iv wr=>∃ (j ni ci nu cu:Nat) (I U:Option Addr) (li:List Rw) (lu:List Pr),j≤bm∧iv=.int .i64 j∧ni≤j∧nu≤j∧Hid (RSt a b j 0 li [] lu)∧Hold M none w wr [.own 72 2 (.slice I ni ci) ni (Zp li),.own 72 2 (.slice none 0 0) 0 (Zp []),.own 136 3 (.slice U nu cu) nu (ZB lu),.ro (Yl li),.ro (Yl []),.ro (Yh lu),.blk g6 103 #[.string a.nm,.slice I ni ci,.slice none 0 0,.slice U nu cu],.blk g4 103 #[.string ⟨#[]⟩,.slice none 0 0,.slice none 0 0,.slice none 0 0],.cst g3 69 #[.string b.nm,.slice bA bn bc,.int .i64 b.nx,.slice bB bm bd],.cst g2 69 #[.string a.nm,.slice aA an ac,.int .i64 a.nx,.slice aB am ad],.ro (ColsIn aA an a.cs),.ro (RwsIn aB am la),.ro (ColsIn bA bn b.cs),.ro (RwsIn bB bm lb)]) (fun iv _=>bm - (intOf iv).toNat)
 case atStart=>exact ⟨0,0,0,0,0,none,none,[],[],by omega,rfl,by omega,by omega,HST,K6⟩
 case round=>
  clear K6 HST
  obtain ⟨j,ni,ci,nu,cu,I,U,li,lu,hj,rfl,hni,hnu,HBS,H⟩:=hrel
  by_cases hlt:j<bm
  ·have hd:decide ((j:Int)<(bm:Int))=true:=by simp;omega
   have j0:(0:Int)≤(j:Int):=by omega
   have j1:(j:Int)<(bm:Int):=by omega
   obtain ⟨r,hr⟩:=Zl HBL.out hlt
   obtain ⟨bb,bo,rfl,hbb,c0,c1,_⟩:=(H.ro 13 rfl).now.at_ hr
   have HRR:=hid (show b.rs[j]? =some r.row by rw [←HBR.out,KQ,hr];rfl)
   have HRO:=hid (HBO.out r (Ka hr))
   have hrn6:=HSB.out r (Ka hr)
   have hxr:Ro wr _ (VlsIn r.A r.n r.vs):=(H.ro 13 rfl).imp fun w2 h2=>h2.2 r (Ka hr)
   obtain ⟨rid,rA,rn,rc,rvs⟩:=r
   dsimp only at *
   clear hr
   have K1:=(H.add hxr).Za #[.int .i64 rid,.slice rA rn rc] 72
   clear H hxr
   obtain ⟨g8,hg8⟩:∃ g,g=wr.heap.size:=⟨_,rfl⟩
   rw [←hg8] at K1
   have F1:=K1.facts
   simp only [zg] at F1
   go_wp2_with fail
   rw [←hg8]
   have HG8:=hid hg8
   clear hg8 c0 c1
   have hg:=Jz _ _ K1.Zb (.string a.nm) (.slice aA an ac) (.int .i64 a.nx) aB am ad la rid (K1.ro 13 rfl) (by omega) (fun r hr=>by have:=HSA.out r hr;omega)
   rw [HAR.out] at hg
   refine hg.mono ?_
   clear hg
   rintro e w6 ⟨Ag,ng,cg,rfl,hng,hgc1,hgc2,rg,bg⟩
   have K2:=K1.call bg
   clear K1 bg F1
   have F2:=K2.facts
   simp only [zg] at F2
   cases hgt:Zj a.rs rid with
   | none=>
    have HGG:=hid hgt
    simp only [Option.isSome_none]
    clear rg hng hgc1 hgc2 hgt
    by_cases hrn:rid<a.nx
    ·have hd3:decide (rid<a.nx)=true:=by simpa using hrn
     have HN:=hid (HBS.out.bad HRR.out HGG.out hrn)
     clear hrn
     have KN:=(((K2.store 9 rfl 0 (.string ⟨#[]⟩)).store 9 rfl 1 (.slice none 0 0)).store 9 rfl 2 (.slice none 0 0)).store 9 rfl 3 (.slice none 0 0)
     go_wp2_with fail
     exact bodyPost_ret (v:=.tuple #[.agg #[.string ⟨#[]⟩,.slice none 0 0,.slice none 0 0,.slice none 0 0],.bool false]) (by simp [results,Tryz.results30,go_sem,F2]) rfl ⟨_,by rw [HN.out],by rw [HN.out];exact UZ,KN.below⟩
    ·have hd3:decide (rid<a.nx)=false:=by simpa using hrn
     have HRN:=hid (show a.nx≤rid by omega)
     clear hrn
     obtain ⟨KL,hKL,KN⟩:=K2.name
     have HF:Hid (∀ wv,Hold M none w wv KL→(wv.cell? ⟨g6,1,none⟩=some (.slice I ni ci)∧g6<wv.heap.size)∧wv.cell? ⟨g8,0,none⟩=some (.int .i64 rid)∧wv.cell? ⟨g8,1,none⟩=some (.slice rA rn rc)∧g8<wv.heap.size):=hid fun wv HC=>by
      rw [hKL] at HC
      have y1:=HC.Ym 8 rfl
      have y2:=HC.Zg 0 rfl
      exact ⟨⟨Li _ _ 1 _ _ _ y1,Blk.lt y1⟩,Li _ _ 0 _ _ _ y2,Li _ _ 1 _ _ _ y2,Blk.lt y2⟩
     have HRX:Hid (∀ wv,Hold M none w wv KL→Ro wv (Mut M KL) (VlsIn rA rn rvs)):=hid fun wv HC=>by
      rw [hKL] at HC ⊢
      exact HC.ro 1 rfl
     have HKL:=hid hKL
     clear hKL K2
     go_wp2_with fail
     refine Lj (by kernel_rfl) ?_
     refine Zn 5 119 (KL) (spL [(72,Z0 (Mut M KL) rid rvs),(73,ZZ (Mut M KL) rid rvs)]) (by kernel_rfl) (by kernel_rfl) (by kernel_rfl) rfl ?_ (KN.drew) ?_
     ·exact Zd WX (Zd WV (Zm _))
     simp only [zd,zp,List.getElem_toArray,List.getElem_cons_zero,List.getElem_cons_succ]
     refine' dv rfl rfl rfl (fun wv HC=>?_) ?_;rotate_left
     · go_simp<;>rfl
     iterate 2
      simp only [zp]
      refine' dv rfl rfl rfl (fun wv HC=>?_) ?_;rotate_left
      ·obtain ⟨⟨f0,f1⟩,f2,f3,f4⟩:=HF.out _ HC;go_simp<;>rfl
     simp only [zp]
     refine Zi 72 (Z0 (Mut M KL) rid rvs) (f:=60) (args:=#[.agg #[.int .i64 rid,.slice rA rn rc]]) rfl rfl rfl rfl (fun wv=>?_) (fun wv HC hrm hD=>?_) ?_
     ·go_simp<;>rfl
     ·refine (Zcw _ wv HC.Zb rid rA rn rc rvs (HRX.out _ HC) (by omega)).mono ?_
      rintro e w5 ⟨A5,n5,c5,rfl,h50,h51,h52,h53,b5⟩
      exact ⟨_,rfl,⟨A5,n5,c5,rfl,h50,h51,h52,h53⟩,HC.call b5,RM.below b5⟩
     rintro x_ wx HCx ⟨A5,n5,c5,rfl,-,-,-,-⟩
     clear HCx
     simp only [zp]
     refine Z8 #[.int .i64 rid,.slice A5 n5 c5] 72 73 (ZZ (Mut M KL) rid rvs) (fun g=>.slice (some ⟨g,0,none⟩) 1 1) rfl rfl rfl rfl (fun wv=>?_) (fun wv HC _hrm hD hro=>?_) ?_
     ·go_simp<;>rfl
     ·have hsl:Z0 (Mut M KL) rid rvs (.agg #[.int .i64 rid,.slice A5 n5 c5]) wv:=ZI hD 3 rfl (by kernel_rfl) rfl rfl
      obtain ⟨A6,n6,c6,e6,h1,h2,h3,h4⟩:=hsl
      obtain ⟨rfl,rfl,rfl⟩:A5=A6∧n5=n6∧c5=c6:=by
       injection e6 with e6
       simp at e6
       exact e6
      exact ⟨_,A5,n5,c5,rfl,h1,h2,h3,h4.step (by simp) (fun b hb _=>Below.heap_alloc wv _ b hb) (fun _ _ h=>h),ZO (hro _ HC.Zb) rfl⟩
     rintro gn wg HCg hsl
     simp only [zp]
     clear hsl HCg
     refine Zk ?_
     rintro wx2 HX
     rintro _hrm HGW
     have hb2:ZZ (Mut M KL) rid rvs (.slice (some ⟨gn,0,none⟩) 1 1) wx2:=(Zo (d:=73) rfl).1 (HGW 4 _ rfl (by omega))
     clear HGW _hrm
     obtain ⟨gq,A6,n6,c6,e6,k0_,k1_,k2_,k3_,k4_⟩:=hb2
     obtain rfl:gn=gq:=by injection e6 with e6;injection e6 with e6;injection e6
     clear e6
     rw [HKL.out] at HX k3_
     have k5:=hid k4_.now
     have HK0:=hid (KJ k0_ (KJ k1_ k2_))
     clear k4_ k0_ k1_ k2_ HF HRX KN
     have HRS:=hid (show Zp li++[.int .i64 rid,.slice A6 n6 c6]=Zp (li++[⟨rid,A6,n6,c6,rvs⟩]) from Wy _ _ _ _ _ _)
     have KA:=HX.add k3_
     clear HX k3_
     have FKA:=KA.facts
     simp only [zg] at FKA
     go_wp2_with (at_builtin;go_must (refine ZX KA 3 rfl Tryz.Xy k5.out rfl (.tmp 70) (.tmp 73) rfl rfl rfl (by intro z hz;simp at hz;rcases hz with rfl|rfl<;>rfl) (by omega) (by omega) ?_);intro C' cap' w6 hc6 hm6 KB;rw [HRS.out] at KB;simp only [zl] at KB;(have F3:=KB.facts);simp only [zg] at F3)
     have KD:=KB.store 9 rfl 1 (.slice C' (ni+1) cap')
     have KE:=(KD.ZT 6 rfl (XF (r:=⟨rid,A6,n6,c6,rvs⟩) (KD.ro 6 rfl) (KD.ro 0 rfl))).drop (Kb _ _)
     clear KB KD FKA k5
     have HBN:=hid (HBS.out.ZhT HRR.out HGG.out HRN.out (y:=⟨rid,A6,n6,c6,rvs⟩) rfl ⟨HRO.out.id,HK0.out.2.1,HK0.out.2.2,HRO.out.vs⟩)
     have KZ:=KE.drop (Ke _ (Kb _ _))
     go_roundw
     case rel=>exact ⟨j+1,ni+1,cap',nu,cu,C',U,_,lu,by omega,by first|rfl|go_num,by omega,by omega,HBN,KZ⟩
     case measure=>simp [intOf];omega
   | some o=>
    rw [hgt] at rg hng
    simp only [Option.getD_some] at rg hng
    have HGG:=hid hgt
    have HGC:=hid (KJ hng (KJ hgc1 hgc2))
    have HGO:=hid (show ∀ v∈o,v.ok from fun v hv=>by
     have h1:=ZbG hgt
     rw [←HAR.out] at h1
     obtain ⟨z,hz,hzr⟩:=Kt.1 h1
     have h2:z.vs=o:=congrArg Prod.snd hzr
     exact (HAO.out z hz).vs v (by rw [h2];exact hv))
    simp only [Option.isSome_some]
    have hng6:ng≤9223372036854775807:=by omega
    clear hgt hng hgc1 hgc2
    have K3:=K2.add rg
    clear K2 rg F2
    have F3:=K3.facts
    simp only [zg] at F3
    go_wp2_with fail
    refine (zb _ _ K3.Zb Ag ng cg o rA rn rc rvs (K3.ro 0 rfl) (K3.ro 2 rfl) (by omega) (by omega)).mono ?_
    rintro e w7 ⟨⟨r0,rfl,hr0⟩,b7⟩
    have K6:=K3.call b7
    clear K3 b7 F3
    have F6:=K6.facts
    simp only [zg] at F6
    by_cases hov:o=rvs
    ·obtain rfl:r0=0:=hr0.2 hov
     have HBN:=hid (HBS.out.same HRR.out HGG.out hov)
     clear hr0 hov
     have KZ:=K6.drop (Ke _ (Ke _ (Kb _ _)))
     go_wp2_with fail
     go_roundw
     case rel=>exact ⟨j+1,ni,ci,nu,cu,I,U,li,lu,by omega,by first|rfl|go_num,by omega,by omega,HBN,KZ⟩
     case measure=>simp [intOf];omega
    ·have hrz:(r0 !=0)=true:=by simpa using fun h=>hov (hr0.1 h)
     have HNE:=hid hov
     clear hr0 hov
     obtain ⟨KL,hKL,KN⟩:=K6.name
     have HF:Hid (∀ wv,Hold M none w wv KL→(wv.cell? ⟨g6,3,none⟩=some (.slice U nu cu)∧g6<wv.heap.size)∧wv.cell? ⟨g8,0,none⟩=some (.int .i64 rid)∧wv.cell? ⟨g8,1,none⟩=some (.slice rA rn rc)∧g8<wv.heap.size):=hid fun wv HC=>by
      rw [hKL] at HC
      have y1:=HC.Ym 9 rfl
      have y2:=HC.Zg 1 rfl
      exact ⟨⟨Li _ _ 3 _ _ _ y1,Blk.lt y1⟩,Li _ _ 0 _ _ _ y2,Li _ _ 1 _ _ _ y2,Blk.lt y2⟩
     have HRX:Hid (∀ wv,Hold M none w wv KL→Ro wv (Mut M KL) (VlsIn Ag ng o)∧Ro wv (Mut M KL) (VlsIn rA rn rvs)):=hid fun wv HC=>by
      rw [hKL] at HC ⊢
      exact ⟨HC.ro 0 rfl,HC.ro 2 rfl⟩
     have HKL:=hid hKL
     clear hKL K6
     go_wp2_with fail
     refine Lj (by kernel_rfl) ?_
     refine Zn 10 119 (KL) (spL [(88,Zx (Mut M KL) rvs),(89,YP (Mut M KL) (rid,o,rvs)),(90,YX (Mut M KL) [(rid,o,rvs)])]) (by kernel_rfl) (by kernel_rfl) (by kernel_rfl) rfl ?_ (KN.drew) ?_
     ·exact Zd XG (Zd Vq (Zd Jr (Zm _)))
     simp only [zd,zp,List.getElem_toArray,List.getElem_cons_zero,List.getElem_cons_succ]
     iterate 2
      refine' dv rfl rfl rfl (fun wv HC=>?_) ?_;rotate_left
      · go_simp<;>rfl
      simp only [zp]
      refine' dv rfl rfl rfl (fun wv HC=>?_) ?_;rotate_left
      ·obtain ⟨⟨f0,f1⟩,f2,f3,f4⟩:=HF.out _ HC;go_simp<;>rfl
      simp only [zp]
     iterate 2
      refine' dv rfl rfl rfl (fun wv HC=>?_) ?_;rotate_left
      · go_simp<;>rfl
      simp only [zp]
     refine' dv rfl rfl rfl (fun wv HC=>?_) ?_;rotate_left
     ·obtain ⟨⟨f0,f1⟩,f2,f3,f4⟩:=HF.out _ HC;go_simp<;>rfl
     simp only [zp]
     refine Zi 88 (Zx (Mut M KL) rvs) (f:=51) (args:=#[.slice rA rn rc]) rfl rfl rfl rfl (fun wv=>?_) (fun wv HC hrm hD=>?_) ?_
     ·go_simp<;>rfl
     ·refine (Xe _ wv HC.Zb rA rn rc rvs (HRX.out _ HC).2 (by omega)).mono ?_
      rintro e w5 ⟨A5,n5,c5,rfl,h50,h51,h52,h53,b5⟩
      exact ⟨_,rfl,⟨A5,n5,c5,rfl,h50,h51,h52,h53⟩,HC.call b5,RM.below b5⟩
     rintro x_ wx HCx ⟨A94,n94,c94,rfl,-,-,-,-⟩
     clear HCx
     simp only [zp]
     refine YI 89 (YP (Mut M KL) (rid,o,rvs)) rfl rfl rfl rfl (.agg #[.int .i64 rid,.slice Ag ng cg,.slice A94 n94 c94]) (fun wv HC=>?_) (fun wv HC hD=>?_) ?_
     ·go_simp<;>rfl
     ·have hb:Zx (Mut M KL) rvs (.slice A94 n94 c94) wv:=ZI hD 7 rfl (by kernel_rfl) rfl rfl
      exact Jo HRO.out.id HGO.out HRO.out.vs ⟨Ag,ng,cg,rfl,HGC.out.1,HGC.out.2.1,HGC.out.2.2,(HRX.out _ HC).1⟩ hb
     simp only [zp]
     refine Z8 #[.int .i64 rid,.slice Ag ng cg,.slice A94 n94 c94] 136 90 (YX (Mut M KL) [(rid,o,rvs)]) (fun g=>.slice (some ⟨g,0,none⟩) 1 1) rfl rfl rfl rfl (fun wv=>?_) (fun wv HC _hrm hD hro=>?_) ?_
     ·go_simp<;>rfl
     ·have hrr:=RM.alloc (Mut M KL) wv (.cells #[.int .i64 rid,.slice Ag ng cg,.slice A94 n94 c94] 136)
      have h0:YP (Mut M KL) (rid,o,rvs) (.agg #[.int .i64 rid,.slice Ag ng cg,.slice A94 n94 c94]) wv:=ZI hD 8 rfl (by kernel_rfl) rfl rfl
      replace h0:=Vq _ _ _ hrr h0
      exact Js (hro _ HC.Zb) (fun i j k e1=>Value.agg.inj e1) h0
     rintro g96 wg HCg hsl
     simp only [zp]
     clear hsl HCg
     refine Zk ?_
     rintro wx5 HX5
     rintro _hrm HGW
     have hb2:YX (Mut M KL) [(rid,o,rvs)] (.slice (some ⟨g96,0,none⟩) 1 1) wx5:=(Zo (d:=90) rfl).1 (HGW 9 _ rfl (by omega))
     clear HGW _hrm
     obtain ⟨Aq,nq,cq,pq,heq,-,-,hpm,hpok,hpr⟩:=hb2
     obtain ⟨rfl,rfl,rfl⟩:some ⟨g96,0,none⟩=Aq∧1=nq∧1=cq:=by injection heq with h1 h2 h3;exact ⟨h1,h2,h3⟩
     clear heq
     obtain ⟨pr,rfl,hpu⟩:∃ pr,pq=[pr]∧pr.upd=(rid,o,rvs):=by
      obtain ⟨pr,h1,h2⟩:=List.map_eq_singleton_iff.1 hpm
      exact ⟨pr,h1,h2⟩
     rw [HKL.out] at HX5 hpr
     have HPE:=hid (show ZB lu++ZB [pr]=ZB (lu++[pr]) by simp [ZB])
     have KA:=HX5.add (hpr.imp fun w h=>(h.2:Yh [pr] w))
     have k5:=hid ((hpr.imp fun w h=>h.1).now)
     have HBN:=hid (HBS.out.turn HRR.out HGG.out HNE.out hpu (hpok pr (List.mem_singleton.2 rfl)))
     clear HX5 hpr hpm hpok hpu HF HRX KN
     have FKA:=KA.facts
     simp only [zg] at FKA
     go_wp2_with (at_builtin;go_must (refine ZX KA 6 rfl Tryz.U7 k5.out rfl (.tmp 82) (.tmp 90) rfl rfl rfl (Jn _) (by omega) (by omega) ?_);intro C' cap' w6 hc6 hm6 KB;rw [HPE.out] at KB;simp only [zl] at KB;(have FB:=KB.facts);simp only [zg] at FB)
     have KD:=KB.store 10 rfl 3 (.slice C' (nu+1) cap')
     have KZ:=(KD.ZT 9 rfl (Jp (KD.ro 9 rfl) (KD.ro 0 rfl))).drop (Ke _ (Ke _ (Ke _ (Kb _ _))))
     clear KB KD FKA k5
     go_roundw
     case rel=>exact ⟨j+1,ni,ci,nu+1,cap',I,C',li,_,by omega,by first|rfl|go_num,by omega,by omega,HBN,KZ⟩
     case measure=>simp [intOf];omega
  ·obtain rfl:j=bm:=by omega
   have hd:decide ((j:Int)<(j:Int))=false:=by simp
   have HBJ:=hid (show b.rs.length≤j by rw [←HBR.out,Kj,HBL.out];exact Kg _)
   clear hlt
   have F1:=H.facts
   simp only [zg] at F1
   go_wp2_with fail
   clear F1
   go_loopw [97] (fun iv wr=>∃ (k nd cd:Nat) (D:Option Addr) (ld:List Rw),k≤am∧iv=.int .i64 k∧nd≤k∧Hid (RSt a b j k li ld lu)∧Hold M none w wr [.own 72 2 (.slice I ni ci) ni (Zp li),.own 72 2 (.slice D nd cd) nd (Zp ld),.own 136 3 (.slice U nu cu) nu (ZB lu),.ro (Yl li),.ro (Yl ld),.ro (Yh lu),.blk g6 103 #[.string a.nm,.slice I ni ci,.slice D nd cd,.slice U nu cu],.blk g4 103 #[.string ⟨#[]⟩,.slice none 0 0,.slice none 0 0,.slice none 0 0],.cst g3 69 #[.string b.nm,.slice bA bn bc,.int .i64 b.nx,.slice bB j bd],.cst g2 69 #[.string a.nm,.slice aA an ac,.int .i64 a.nx,.slice aB am ad],.ro (ColsIn aA an a.cs),.ro (RwsIn aB am la),.ro (ColsIn bA bn b.cs),.ro (RwsIn bB j lb)]) (fun iv _=>am - (intOf iv).toNat)
   case atStart=>exact ⟨0,0,0,none,[],by omega,rfl,by omega,HBS,H⟩
   case round=>
    clear H HBS
    obtain ⟨k,nd,cd,D,ld,hk,rfl,hnd,HBS,H⟩:=hrel
    by_cases hlt:k<am
    ·have hd5:decide ((k:Int)<(am:Int))=true:=by simp;omega
     have k0:(0:Int)≤(k:Int):=by omega
     have k1:(k:Int)<(am:Int):=by omega
     obtain ⟨x,hx⟩:=Zl HAL.out hlt
     have HXX:=hid (show a.rs[k]? =some x.row by rw [←HAR.out,KQ,hx];rfl)
     have HXO:=hid (HAO.out x (Ka hx))
     have hxn6:=HSA.out x (Ka hx)
     obtain ⟨bx,ox,rfl,hbx',x0,x1,_⟩:=(H.ro 11 rfl).now.at_ hx
     have hxx:Ro wr _ (VlsIn x.A x.n x.vs):=(H.ro 11 rfl).imp fun w2 h2=>h2.2 x (Ka hx)
     clear hx
     obtain ⟨xid,xA,xn,xc,xvs⟩:=x
     dsimp only at *
     have K1:=(H.add hxx).Za #[.int .i64 xid,.slice xA xn xc] 72
     clear H hxx
     obtain ⟨gx,hgx⟩:∃ g,g=wr.heap.size:=⟨_,rfl⟩
     rw [←hgx] at K1
     have F1:=K1.facts
     simp only [zg] at F1
     go_wp2_with fail
     rw [←hgx]
     have HGX2:=hid hgx
     clear hgx x0 x1
     have hg:=Jz _ _ K1.Zb (.string b.nm) (.slice bA bn bc) (.int .i64 b.nx) bB j bd lb xid (K1.ro 15 rfl) (by omega) (fun r hr=>by have:=HSB.out r hr;omega)
     rw [HBR.out] at hg
     refine hg.mono ?_
     clear hg
     rintro e w6 ⟨Ag,ng,cg,rfl,-,-,-,-,bg⟩
     have K2:=K1.call bg
     clear K1 bg F1
     have F2:=K2.facts
     simp only [zg] at F2
     cases hgt:Zj b.rs xid with
     | none=>
      have HGG:=hid hgt
      simp only [Option.isSome_none]
      clear hgt
      obtain ⟨KL,hKL,KN⟩:=K2.name
      have HF:Hid (∀ wv,Hold M none w wv KL→(wv.cell? ⟨g6,2,none⟩=some (.slice D nd cd)∧g6<wv.heap.size)∧wv.cell? ⟨gx,0,none⟩=some (.int .i64 xid)∧wv.cell? ⟨gx,1,none⟩=some (.slice xA xn xc)∧gx<wv.heap.size):=hid fun wv HC=>by
       rw [hKL] at HC
       have y1:=HC.Ym 8 rfl
       have y2:=HC.Zg 0 rfl
       exact ⟨⟨Li _ _ 2 _ _ _ y1,Blk.lt y1⟩,Li _ _ 0 _ _ _ y2,Li _ _ 1 _ _ _ y2,Blk.lt y2⟩
      have HRX:Hid (∀ wv,Hold M none w wv KL→Ro wv (Mut M KL) (VlsIn xA xn xvs)):=hid fun wv HC=>by
       rw [hKL] at HC ⊢
       exact HC.ro 1 rfl
      have HKL:=hid hKL
      clear hKL K2
      go_wp2_with fail
      refine Lj (by kernel_rfl) ?_
      refine Zn 5 119 (KL) (spL [(113,Z0 (Mut M KL) xid xvs),(114,ZZ (Mut M KL) xid xvs)]) (by kernel_rfl) (by kernel_rfl) (by kernel_rfl) rfl ?_ (KN.drew) ?_
      ·exact Zd WX (Zd WV (Zm _))
      simp only [zd,zp,List.getElem_toArray,List.getElem_cons_zero,List.getElem_cons_succ]
      refine' dv rfl rfl rfl (fun wv HC=>?_) ?_;rotate_left
      · go_simp<;>rfl
      iterate 2
       simp only [zp]
       refine' dv rfl rfl rfl (fun wv HC=>?_) ?_;rotate_left
       ·obtain ⟨⟨f0,f1⟩,f2,f3,f4⟩:=HF.out _ HC;go_simp<;>rfl
      simp only [zp]
      refine Zi 113 (Z0 (Mut M KL) xid xvs) (f:=60) (args:=#[.agg #[.int .i64 xid,.slice xA xn xc]]) rfl rfl rfl rfl (fun wv=>?_) (fun wv HC hrm hD=>?_) ?_
      ·go_simp<;>rfl
      ·refine (Zcw _ wv HC.Zb xid xA xn xc xvs (HRX.out _ HC) (by omega)).mono ?_
       rintro e w5 ⟨A5,n5,c5,rfl,h50,h51,h52,h53,b5⟩
       exact ⟨_,rfl,⟨A5,n5,c5,rfl,h50,h51,h52,h53⟩,HC.call b5,RM.below b5⟩
      rintro x_ wx HCx ⟨A5,n5,c5,rfl,-,-,-,-⟩
      clear HCx
      simp only [zp]
      refine Z8 #[.int .i64 xid,.slice A5 n5 c5] 72 114 (ZZ (Mut M KL) xid xvs) (fun g=>.slice (some ⟨g,0,none⟩) 1 1) rfl rfl rfl rfl (fun wv=>?_) (fun wv HC _hrm hD hro=>?_) ?_
      ·go_simp<;>rfl
      ·have hsl:Z0 (Mut M KL) xid xvs (.agg #[.int .i64 xid,.slice A5 n5 c5]) wv:=ZI hD 3 rfl (by kernel_rfl) rfl rfl
       obtain ⟨A6,n6,c6,e6,h1,h2,h3,h4⟩:=hsl
       obtain ⟨rfl,rfl,rfl⟩:A5=A6∧n5=n6∧c5=c6:=by
        injection e6 with e6
        simp at e6
        exact e6
       exact ⟨_,A5,n5,c5,rfl,h1,h2,h3,h4.step (by simp) (fun b hb _=>Below.heap_alloc wv _ b hb) (fun _ _ h=>h),ZO (hro _ HC.Zb) rfl⟩
      rintro gn wg HCg hsl
      simp only [zp]
      clear hsl HCg
      refine Zk ?_
      rintro wx2 HX
      rintro _hrm HGW
      have hb2:ZZ (Mut M KL) xid xvs (.slice (some ⟨gn,0,none⟩) 1 1) wx2:=(Zo (d:=114) rfl).1 (HGW 4 _ rfl (by omega))
      clear HGW _hrm
      obtain ⟨gq,A6,n6,c6,e6,k0_,k1_,k2_,k3_,k4_⟩:=hb2
      obtain rfl:gn=gq:=by injection e6 with e6;injection e6 with e6;injection e6
      clear e6
      rw [HKL.out] at HX k3_
      have k5:=hid k4_.now
      have HK0:=hid (KJ k0_ (KJ k1_ k2_))
      clear k4_ k0_ k1_ k2_ HF HRX KN
      have HRS:=hid (show Zp ld++[.int .i64 xid,.slice A6 n6 c6]=Zp (ld++[⟨xid,A6,n6,c6,xvs⟩]) from Wy _ _ _ _ _ _)
      have KA:=HX.add k3_
      clear HX k3_
      have FKA:=KA.facts
      simp only [zg] at FKA
      go_wp2_with (at_builtin;go_must (refine ZX KA 4 rfl Tryz.Xy k5.out rfl (.tmp 111) (.tmp 114) rfl rfl rfl (by intro z hz;simp at hz;rcases hz with rfl|rfl<;>rfl) (by omega) (by omega) ?_);intro C' cap' w6 hc6 hm6 KB;rw [HRS.out] at KB;simp only [zl] at KB;(have F3:=KB.facts);simp only [zg] at F3)
      have KD:=KB.store 9 rfl 2 (.slice C' (nd+1) cap')
      have KE:=(KD.ZT 7 rfl (XF (r:=⟨xid,A6,n6,c6,xvs⟩) (KD.ro 7 rfl) (KD.ro 0 rfl))).drop (Kb _ _)
      clear KB KD FKA k5
      have HBN:=hid (HBS.out.left HXX.out HGG.out (y:=⟨xid,A6,n6,c6,xvs⟩) rfl ⟨HXO.out.id,HK0.out.2.1,HK0.out.2.2,HXO.out.vs⟩)
      have KZ:=KE.drop (Ke _ (Kb _ _))
      go_roundw
      case rel=>exact ⟨k+1,nd+1,cap',C',_,by omega,by first|rfl|go_num,by omega,HBN,KZ⟩
      case measure=>simp [intOf];omega
     | some v=>
      have HBN:=hid (HBS.out.keep HXX.out hgt)
      simp only [Option.isSome_some]
      clear hgt
      have KZ:=K2.drop (Ke _ (Kb _ _))
      go_wp2_with fail
      go_roundw
      case rel=>exact ⟨k+1,nd,cd,D,ld,by omega,by first|rfl|go_num,by omega,HBN,KZ⟩
      case measure=>simp [intOf];omega
    ·obtain rfl:k=am:=by omega
     have hd5:decide ((k:Int)<(k:Int))=false:=by simp
     have HFIN:=hid (HBS.out.fin HBJ.out (by rw [←HAR.out,Kj,HAL.out];exact Kg _))
     have F:=H.facts
     simp only [zg] at F
     obtain ⟨hi1,hi2,_⟩:=ZM (H.get 0 rfl)
     obtain ⟨hd1,hd2,_⟩:=ZM (H.get 1 rfl)
     obtain ⟨hu1,hu2,_⟩:=ZM (H.get 2 rfl)
     have KS:=H.Zq 0 rfl
     simp only [zl] at KS
     have KS2:=KS.Zq 1 rfl
     simp only [zl] at KS2
     have KS3:=KS2.Zq 2 rfl
     simp only [zl] at KS3
     have KN:=(((KS3.store 7 rfl 0 (.string a.nm)).store 7 rfl 1 (.slice I ni ci)).store 7 rfl 2 (.slice D nd cd)).store 7 rfl 3 (.slice U nu cu)
     have r1:=(KN.ZN 0 rfl).and (KN.ZN 3 rfl)
     have r2:=(KN.ZN 1 rfl).and (KN.ZN 4 rfl)
     have r3:=(KN.ZN 2 rfl).and (KN.ZN 5 rfl)
     have NK:=H.nes
     simp only [X9,neF,and_true,true_and] at NK
     clear KS KS2 KS3 H
     go_wp2_with fail
     exact bodyPost_ret (v:=.tuple #[.agg #[.string a.nm,.slice I ni ci,.slice D nd cd,.slice U nu cu],.bool true]) (by simp [results,Tryz.results30,go_sem,F,NK]) rfl ⟨_,by rw [HFIN.out],by rw [HFIN.out];exact ⟨I,ni,ci,D,nd,cd,U,nu,cu,li,ld,lu,rfl,⟨hi1,hi2⟩,⟨hd1,hd2⟩,⟨hu1,hu2⟩,r1,r2,r3,HBS.out.ok1,HBS.out.ok2,HBS.out.ok3,rfl,rfl,rfl⟩,KN.below⟩
end
end Go.Proofs.YtnmnkbnmollpmaaGreatDoor

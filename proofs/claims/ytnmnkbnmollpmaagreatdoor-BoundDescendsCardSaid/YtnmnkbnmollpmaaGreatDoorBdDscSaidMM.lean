import Derived.Test.YtnmnkbnmollpmaaGreatDoorBdDscSaidMF
import Derived.Test.YtnmnkbnmollpmaaGreatDoorBdDscSaidMH
import Derived.Test.YtnmnkbnmollpmaaGreatDoorBdDscSaidMI
import Derived.Test.YtnmnkbnmollpmaaGreatDoorBdDscSaidMG
set_option linter.unusedVariables false
set_option linter.unusedSimpArgs false
set_option maxHeartbeats 64000000
set_option maxRecDepth 100000
namespace Go.Proofs.YtnmnkbnmollpmaaGreatDoor
section
open Go.RowKit
def ZdU (w:World) (M:Nat→Prop) (nm:ByteArray) (cs:List Col) (nx:Int) (e:Ending) (w' :World):Prop:=
 ∃ (A:Option Addr) (n c:Nat) (B:Option Addr) (m d:Nat),e=.returned (.agg #[.string nm,.slice A n c,.int .i64 nx,.slice B m d])∧n≤c∧c≤9223372036854775807∧Ro w' M (ColsIn A n cs)∧Below w.heap.size w w'
theorem ZkJ (M:Nat→Prop) (w:World) (hM:∀ b,M b→b<w.heap.size) (nm:ByteArray) (A:Option Addr) (n c:Nat) (cs:List Col) (nx:Int) (B:Option Addr) (m d:Nat) (l:List Rw) (hC:Ro w M (ColsIn A n cs)) (hE:Ro w M (RwsIn B m l)) (hn:n≤1000000) (hm:m≤1000000) (hrn:∀ r∈l,r.n≤4398046511104):
  Calls Tryz.prog 47 #[.agg #[.string nm,.slice A n c,.int .i64 nx,.slice B m d]] w fun e w' =>ZdU w M nm cs nx e w' :=by
 have HRL:=hid hE.now.len
 have HRN:=hid hrn
 clear hrn
 have K0:=((((Hold.start M w hM).add (hE.less (by simp [Mut]))).add (hC.less (by simp [Mut,Hp.foot]))).alloc #[.string nm,.slice A n c,.int .i64 nx,.slice B m d] 69).alloc #[.string ⟨#[]⟩,.slice none 0 0,.int .i64 0,.slice none 0 0] 69
 rw [KP] at K0
 clear hC hE
 have F0:=K0.facts
 simp only [zg] at F0
 have KN:=K0.nil 124 4
 have k5:=hid ((K0.ro 2 rfl).now)
 go_enter Tryz.func47,Tryz.ntmps47
 go_wp2_with (at_builtin;go_must (refine ZX KN 0 rfl Tryz.U6 k5.out rfl (.const (.slice none 0 0)) (.tmp 8) rfl rfl rfl (Ji _) (by omega) (by omega) ?_);intro C9 cap9 w9 hc9 hm9 KB;(try simp only [Nat.zero_add] at hc9 ⊢);simp only [Nat.zero_add,List.nil_append,List.set_cons_zero,List.set_cons_succ] at KB;(have FB:=KB.facts);simp only [zg] at FB)
 have KC:=(KB.Zq 0 rfl).store 2 rfl 1 (.slice C9 n cap9)
 simp only [zl] at KC
 have KD:=(KC.add (Vu _ _)).nil 72 2
 have FD:=KD.facts
 simp only [zg] at FD
 clear K0 KN F0 k5 KB KC
 go_wp2_with fail
 generalize World.setCell _ _ _=w10 at KD ⊢
 clear FB FD
 obtain ⟨g1,hg1⟩:∃ g1,g1=w.heap.size:=⟨_,rfl⟩
 obtain ⟨g2,hg2⟩:∃ g2,g2=g1+1:=⟨_,rfl⟩
 rw [←hg1,←hg2] at KD ⊢
 have HG1:=hid hg1
 clear hg1 hg2
 go_loopw [3,15] (fun ov iv wr=>∃ (j cap:Nat) (O:Option Addr) (outs:List Rw),j≤m∧iv=.int .i64 j∧ov=.slice O j cap∧Hold M none w wr [.own 72 2 (.slice O j cap) j (Zp outs),.ro (Yl outs),.ro (ColsIn C9 n cs),.blk g2 69 #[.string ⟨#[]⟩,.slice none 0 0,.int .i64 0,.slice none 0 0],.blk g1 69 #[.string nm,.slice C9 n cap9,.int .i64 nx,.slice B m d],.ro (ColsIn A n cs),.ro (RwsIn B m l)]) (fun _ iv _=>m - (intOf iv).toNat)
 case atStart=>exact ⟨0,0,none,[],by omega,rfl,rfl,KD⟩
 case round=>
  clear KD
  obtain ⟨j,cap,O,outs,hj,rfl,rfl,H⟩:=hrel
  by_cases hlt:j<m
  ·have hd:decide ((j:Int)<(m:Int))=true:=by simp;omega
   have j0:(0:Int)≤(j:Int):=by omega
   have j1:(j:Int)<(m:Int):=by omega
   obtain ⟨x,hx⟩:=Zl HRL.out hlt
   obtain ⟨b,o,rfl,hb,c0,c1,hxv⟩:=(H.ro 6 rfl).now.at_ hx
   have hxn:=HRN.out x (Ka hx)
   have hxr:Ro wr _ (VlsIn x.A x.n x.vs):=(H.ro 6 rfl).imp fun w2 h2=>h2.2 x (Ka hx)
   clear hx hxv
   have K1:=(H.add hxr).Za #[.int .i64 x.id,.slice x.A x.n x.c] 72
   clear H hxr
   obtain ⟨gr,hgr⟩:∃ gr,gr=wr.heap.size:=⟨_,rfl⟩
   rw [←hgr] at K1
   have F1:=K1.facts
   simp only [zg] at F1
   go_wp2_with fail
   rw [←hgr]
   have HGR:=hid hgr
   clear hgr c0 c1 F1
   obtain ⟨KL,hKL,KN⟩:=K1.name
   have HF:Hid (∀ wv,Hold M none w wv KL→wv.cell? ⟨gr,0,none⟩=some (.int .i64 x.id)∧wv.cell? ⟨gr,1,none⟩=some (.slice x.A x.n x.c)∧gr<wv.heap.size):=hid fun wv HC=>by
    rw [hKL] at HC
    have y0:=HC.Zg 0 rfl
    exact ⟨Li _ _ 0 _ _ _ y0,Li _ _ 1 _ _ _ y0,Blk.lt y0⟩
   have HRX:Hid (∀ wv,Hold M none w wv KL→Ro wv (Mut M KL) (VlsIn x.A x.n x.vs)):=hid fun wv HC=>by
    rw [hKL] at HC ⊢
    exact HC.ro 1 rfl
   have HKL:=hid hKL
   clear hKL K1
   go_wp2_with fail
   refine Lj (by kernel_rfl) ?_
   refine Zn 8 32 (KL) (spL [(24,Zx (Mut M KL) x.vs),(25,Z0 (Mut M KL) x.id x.vs),(26,ZZ (Mut M KL) x.id x.vs)]) (by kernel_rfl) (by kernel_rfl) (by kernel_rfl) rfl ?_ (KN.drew) ?_
   ·exact Zd XG (Zd WX (Zd WV (Zm _)))
   simp only [zd,Act.put,List.getElem_toArray,List.getElem_cons_zero,List.getElem_cons_succ,zl]
   iterate 2
    refine' dv rfl rfl rfl (fun wv HC=>?_) ?_;rotate_left
    · go_simp<;>rfl
    simp only [Act.put,zl]
   refine' dv rfl rfl rfl (fun wv HC=>?_) ?_;rotate_left
   ·obtain ⟨f0,f1,f2⟩:=HF.out _ HC;go_simp<;>rfl
   simp only [Act.put,zl]
   refine' dv rfl rfl rfl (fun wv HC=>?_) ?_;rotate_left
   · go_simp<;>rfl
   simp only [Act.put,zl]
   refine' dv rfl rfl rfl (fun wv HC=>?_) ?_;rotate_left
   ·obtain ⟨f0,f1,f2⟩:=HF.out _ HC;go_simp<;>rfl
   simp only [Act.put,zl]
   refine Zi 24 (Zx (Mut M KL) x.vs) (f:=51) (args:=#[.slice x.A x.n x.c]) rfl rfl rfl rfl (fun wv=>?_) (fun wv HC hrm hD=>?_) ?_
   ·go_simp<;>rfl
   ·refine (Xe _ wv HC.Zb x.A x.n x.c x.vs (HRX.out _ HC) hxn).mono ?_
    rintro e w5 ⟨A5,n5,c5,rfl,h50,h51,h52,h53,b5⟩
    exact ⟨_,rfl,⟨A5,n5,c5,rfl,h50,h51,h52,h53⟩,HC.call b5,RM.below b5⟩
   rintro x_ wx HCx ⟨A5,n5,c5,rfl,h50,h51,h52,h53⟩
   simp only [Act.put,zl]
   have H50:=hid h50
   clear HCx h53 h50
   refine YI 25 (Z0 (Mut M KL) x.id x.vs) rfl rfl rfl rfl (.agg #[.int .i64 x.id,.slice A5 n5 c5]) (fun wv HC=>?_) (fun wv HC hD=>?_) ?_
   ·go_simp<;>rfl
   ·have hsl:Zx (Mut M KL) x.vs (.slice A5 n5 c5) wv:=ZI hD 5 rfl (by kernel_rfl) rfl rfl
    obtain ⟨A6,n6,c6,e6,h1,h2,h3,h4⟩:=hsl
    exact ⟨A6,n6,c6,by rw [e6],h1,h2,h3,h4⟩
   simp only [Act.put,zl]
   refine Z8 #[.int .i64 x.id,.slice A5 n5 c5] 72 26 (ZZ (Mut M KL) x.id x.vs) (fun g=>.slice (some ⟨g,0,none⟩) 1 1) rfl rfl rfl rfl (fun wv=>?_) (fun wv HC _hrm hD hro=>?_) ?_
   ·go_simp<;>rfl
   ·have hsl:Z0 (Mut M KL) x.id x.vs (.agg #[.int .i64 x.id,.slice A5 n5 c5]) wv:=ZI hD 6 rfl (by kernel_rfl) rfl rfl
    obtain ⟨A6,n6,c6,e6,h1,h2,h3,h4⟩:=hsl
    obtain ⟨rfl,rfl,rfl⟩:A5=A6∧n5=n6∧c5=c6:=by
     injection e6 with e6
     simp at e6
     exact e6
    exact ⟨_,A5,n5,c5,rfl,h1,h2,h3,h4.step (by simp) (fun b hb _=>Below.heap_alloc wv _ b hb) (fun _ _ h=>h),ZO (hro _ HC.Zb) rfl⟩
   rintro g2 wg HCg hsl
   simp only [Act.put,zl]
   clear hsl HCg
   refine Zk ?_
   rintro wx2 HX
   rintro _hrm HGW
   have hb2:ZZ (Mut M KL) x.id x.vs (.slice (some ⟨g2,0,none⟩) 1 1) wx2:=(Zo (d:=26) rfl).1 (HGW 7 _ rfl (by omega))
   clear HGW _hrm
   obtain ⟨g3,A6,n6,c6,e6,k0_,k1_,k2_,k3_,k4_⟩:=hb2
   obtain rfl:g2=g3:=by injection e6 with e6;injection e6 with e6;injection e6
   clear e6
   rw [HKL.out] at HX k3_
   have k5:=hid k4_.now
   have HK0:=hid k0_
   clear k4_ k0_ HF HRX KN
   have HRS:=hid (show Zp outs++[.int .i64 x.id,.slice A6 n6 c6]=Zp (outs++[⟨x.id,A6,n6,c6,x.vs⟩]) from Wy _ _ _ _ _ _)
   have KA:=HX.add k3_
   clear HX k3_
   have FKA:=KA.facts
   simp only [zg] at FKA
   go_wp2_with (at_builtin;go_must (refine ZX KA 3 rfl Tryz.Xy k5.out rfl (.tmp 19) (.tmp 26) rfl rfl rfl (by intro z hz;simp at hz;rcases hz with rfl|rfl<;>rfl) (by omega) (by omega) ?_);intro C' cap' w6 hc6 hm6 KB;rw [HRS.out] at KB;simp only [zl] at KB;(have F3:=KB.facts);simp only [zg] at F3)
   have KE:=(KB.ZT 4 rfl (XF (r:=⟨x.id,A6,n6,c6,x.vs⟩) (KB.ro 4 rfl) (KB.ro 0 rfl))).drop (Ke _ (Ke _ (Kb _ _)))
   go_roundw
   case rel=>exact ⟨j+1,cap',C',_,by omega,by go_num,by first|rfl|trivial,KE⟩
   case measure=>simp [intOf];omega
  ·obtain rfl:m=j:=by omega
   have hd:decide ((m:Int)<(m:Int))=false:=by simp
   have F:=H.facts
   simp only [zg] at F
   have N:=H.nes
   simp only [World.size_alloc,X9,neF,List.set_cons_zero,List.set_cons_succ,and_true,true_and] at N
   have KS:=H.Zq 0 rfl
   simp only [List.set_cons_zero] at KS
   have KN:=((((KS.store 4 rfl 3 (.slice O m cap)).store 3 rfl 0 (.string nm)).store 3 rfl 1 (.slice C9 n cap9)).store 3 rfl 2 (.int .i64 nx)).store 3 rfl 3 (.slice O m cap)
   have r0:=KN.ZN 2 rfl
   go_wp2_with fail
   exact bodyPost_ret (v:=.agg #[.string nm,.slice C9 n cap9,.int .i64 nx,.slice O m cap]) (by simp [results,Tryz.results47,go_sem,F,N]) rfl ⟨C9,n,cap9,O,m,cap,rfl,hc9,hm9,r0,KN.below⟩
end
section
open Go.RowKit
section
variable {P:Program} {ops:Array Oper} {C:World→Prop} {G:Option Tmp→Value→World→Prop} {R:World→World→Prop} {F:Act→Prop} {o:Oper} {rest:List Oper} {a:Act} {k:Nat} {S0:Array Bool}
end
section
variable {P:Program} {M:Nat→Prop} {row:Option Nat} {w0 w1:World} {L:List Hp} {sp:SpW} {F:Act→Prop} {S0:Array Bool}
variable {ops:Array Oper} {o:Oper} {rest:List Oper} {a:Act} {k:Nat}
end
theorem ZdG:∀ (l:List Vl) (k:Nat) (v:Vl),k<l.length→(((ZH l).set (k * 3) (.int .i64 v.k)).set (k * 3+1) (.int .i64 v.i)).set (k * 3+2) (.string v.s)=ZH (l.set k v)
 | [],k,v,h=>by simp at h
 | x::l,0,v,h=>by simp [ZH,Vl.cells]
 | x::l,k+1,v,h=>by
  have ih:=ZdG l k v (by simpa using h)
  have e:∀ (ys:List Value) (j:Nat) (u:Value),(x.cells++ys).set (j+3) u=x.cells++ys.set j u:=fun ys j u=>by
   rw [List.set_append_right _ _ (by simp [Vl.cells])]
   simp [Vl.cells]
  have e0:ZH (x::l)=x.cells++ZH l:=by simp [ZH]
  have e1:ZH ((x::l).set (k+1) v)=x.cells++ZH (l.set k v):=by simp [ZH]
  rw [e0,e1,show (k+1) * 3=k * 3+3 by omega,e,show k * 3+3+1=(k * 3+1)+3 by omega,e,show k * 3+3+2=(k * 3+2)+3 by omega,e,ih]
theorem Hold.Zjs {M:Nat→Prop} {row:Option Nat} {w0 w:World} {L:List Hp} (h:Hold M row w0 w L) (i:Nat) {e:TypeId} {n cap g:Nat} {vs:List Vl} (hi:L[i]? =some (.own e 3 (.slice (some ⟨g,0,none⟩) n cap) n (ZH vs))) (k:Nat) (hk:k<vs.length) (v:Vl):
  Hold M row w0 (((w.setCell ⟨g,k * 3,none⟩ (.int .i64 v.k)).setCell ⟨g,k * 3+1,none⟩ (.int .i64 v.i)).setCell ⟨g,k * 3+2,none⟩ (.string v.s)) (L.set i (.own e 3 (.slice (some ⟨g,0,none⟩) n cap) n (ZH (vs.set k v)))):=by
 have hil:=(Kc.1 hi).1
 have h1:=h.Vr i hi (k * 3) (.int .i64 v.k)
 have hs:∀ x:Hp,(L.set i x)[i]? =some x:=fun x=>by rw [List.getElem?_set,Lg rfl,Lg hil]
 have h2:=h1.Vr i (hs _) (k * 3+1) (.int .i64 v.i)
 rw [List.set_set] at h2
 have h3:=h2.Vr i (hs _) (k * 3+2) (.string v.s)
 rw [List.set_set,ZdG vs k v hk] at h3
 exact h3
theorem Zjf {w:World} {base g n cap k:Nat} {e:TypeId} {l:List Vl} {v:Vl} (h:w.ownsRow base e 3 (.slice (some ⟨g,0,none⟩) n cap) n (ZH l)) (hv:l[k]? =some v):
  (w.cell? ⟨g,k * 3,none⟩=some (.int .i64 v.k)∧w.cell? ⟨g,k * 3+1,none⟩=some (.int .i64 v.i)∧w.cell? ⟨g,k * 3+2,none⟩=some (.string v.s))∧
  (w.frozen? ⟨g,k * 3,none⟩=false∧w.frozen? ⟨g,k * 3+1,none⟩=false∧w.frozen? ⟨g,k * 3+2,none⟩=false)∧g<w.heap.size:=by
 have hk:=(Kc.1 hv).1
 have hl:l.length=n:=by have:=h.1;rw [zU] at this;omega
 have c0:=flat_get Vl.cells 3 (fun _=>rfl) l k 0 v (by omega) hv
 have c1:=flat_get Vl.cells 3 (fun _=>rfl) l k 1 v (by omega) hv
 have c2:=flat_get Vl.cells 3 (fun _=>rfl) l k 2 v (by omega) hv
 exact ⟨⟨(h.cellAt _ (by omega)).trans c0,(h.cellAt _ (by omega)).trans c1,(h.cellAt _ (by omega)).trans c2⟩,⟨h.frozenAt _,h.frozenAt _,h.frozenAt _⟩,(h.lt g rfl).2⟩
theorem ZiW {l:List Vl} {k:Nat} {v:Vl} (h:∀ x∈l,x.ok) (hv:v.ok):∀ x∈l.set k v,x.ok:=fun x hx=>by
 rcases List.mem_or_eq_of_mem_set hx with hx|rfl
 ·exact h x hx
 ·exact hv
end
section
open Go.RowKit
end
end Go.Proofs.YtnmnkbnmollpmaaGreatDoor

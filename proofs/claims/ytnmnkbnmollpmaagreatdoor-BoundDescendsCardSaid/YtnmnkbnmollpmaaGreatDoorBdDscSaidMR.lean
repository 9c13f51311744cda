import Derived.Test.YtnmnkbnmollpmaaGreatDoorBdDscSaidMN
import Derived.Test.YtnmnkbnmollpmaaGreatDoorBdDscSaidMO
import Derived.Test.YtnmnkbnmollpmaaGreatDoorBdDscSaidMP
set_option linter.unusedVariables false
set_option linter.unusedSimpArgs false
set_option maxHeartbeats 64000000
set_option maxRecDepth 100000
namespace Go.Proofs.YtnmnkbnmollpmaaGreatDoor
section
open Go.RowKit
def Zd4 (w:World) (T:Nat) (M:Nat→Prop) (nm:ByteArray) (cs:List Col) (N:Nat) (e:Ending) (w' :World):Prop:=
 ∃ (v:Value) (nx:Int) (rs:List Row),e=.returned v∧Wo w' M v ⟨nm,cs,nx,rs⟩∧Zh nm cs nx rs=true∧rs.length≤N∧Tp w' T∧w.grownBy w' (some T)
theorem WQ {M:Nat→Prop} {L:List Hp} {T i:Nat} (hi:L[i]? =some (.tp T)):∀ b,Mut (Mut M L) [.tp T] b→Mut M L b:=fun b hb=>by
 rcases hb with hb|⟨k,hk,hf⟩
 ·exact hb
 ·simp only [List.mem_singleton] at hk
  subst hk
  exact .inr ⟨_,Ka hi,hf⟩
theorem Zbg {α:Type} {p:α→Bool}:∀ (l:List α) (k:Nat),(∀ (i:Nat) (x:α),l[i]? =some x→p x=false)→Zy p k l=-1
 | [],_,_=>rfl
 | x::l,k,h=>by
  rw [Zy,Lf (by rw [h 0 x rfl];simp)]
  exact Zbg l (k+1) fun i y hy=>h (i+1) y (by simpa using hy)
def UI (cs:List Col) (k:Nat) (q:Int):Prop:=(q=-1∧∀ i x,i<k→cs[i]? =some x→x.key=false)∨(0≤q∧q=Ze Col.key cs)
theorem Zh3 {cs:List Col} {q:Int} (h:UI cs cs.length q):q=Ze Col.key cs:=by
 rcases h with ⟨rfl,h⟩|⟨_,h⟩
 ·exact (Zbg cs 0 fun i x hx=>h i x (Kc.1 hx).1 hx).symm
 ·exact h
theorem Zh4 {cs:List Col} {k:Nat} {q:Int} {x:Col} (h:UI cs k q) (hx:cs[k]? =some x) (hk:x.key=false):UI cs (k+1) q:=by
 rcases h with ⟨rfl,h⟩|h
 ·refine .inl ⟨rfl,fun i y hi hy=>?_⟩
  rcases Nat.lt_or_ge i k with h' |h'
  ·exact h i y h' hy
  ·obtain rfl:i=k:=by omega
   rw [hx] at hy
   injection hy with hy
   rw [←hy];exact hk
 ·exact .inr h
theorem Zh5 {cs:List Col} {k:Nat} {x:Col} (ho:QJ cs) (hx:cs[k]? =some x) (hk:x.key=true):UI cs (k+1) (k:Int):=.inr ⟨by omega,(ho k x hx hk).symm⟩
structure RowsOk (cs:List Col) (nx:Int) (rs:List Rw):Prop where
 ok:okR cs nx 0 (rs.map Rw.row)=true
 dup:YH cs (rs.map Rw.row)=false
 rok:∀ r∈rs,r.ok
def WC (q:Int) (rs:List Rw) (vr:List Vl) (fr:Bool):Prop:=fr=true→q<0∨∀ x∈rs,x.vs[q.toNat]? ≠vr[q.toNat]?
theorem Zht {q:Int} {rs:List Rw} {vr:List Vl} {fr:Bool} (h:q<0):WC q rs vr fr:=fun _=>.inl h
theorem Zhs {q:Int} {rs:List Rw} {vr:List Vl}:WC q rs vr false:=fun h=>nomatch h
theorem Zhu {q:Nat} {rs:List Rw} {vr:List Vl} {j:Nat} {x:Rw} {vx vy:Vl} {fr:Bool} (hx:rs[j]? =some x) (h1:x.vs[q]? =some vx) (h2:vr[q]? =some vy) (h:WC q (rs.take j) vr true) (hf:fr=decide (vx≠vy)):WC q (rs.take (j+1)) vr fr:=by
 intro hfr
 rw [hfr] at hf
 have hne:vx≠vy:=of_decide_eq_true hf.symm
 refine .inr fun y hy=>?_
 rw [Kq,hx] at hy
 rcases Kk.1 hy with hy|hy
 ·exact (h rfl).resolve_left (by omega) y hy
 ·simp at hy
  subst hy
  simp only [Int.toNat_natCast]
  rw [h1,h2]
  intro e
  injection e with e
  exact hne e
theorem Zkr {cs:List Col} {nx nx' :Int} {rs:List Rw} {x:Rw} (h:RowsOk cs nx rs) (hid:x.id=nx) (h1:0<nx) (h2:nx<nx') (hf:Zt cs x.vs=0) (hok:x.ok) (hfr:Ze Col.key cs<0∨∀ y∈rs,y.vs[(Ze Col.key cs).toNat]? ≠x.vs[(Ze Col.key cs).toNat]?):RowsOk cs nx' (rs++[x]):=by
 refine ⟨?_,?_,fun y hy=>?_⟩
 ·rw [Km]
  show okR cs nx' 0 (rs.map Rw.row++[(x.id,x.vs)])=true
  rw [hid]
  exact Zcj hf h2 h1 h.ok
 ·rw [Km]
  refine Zgg (id:=x.id) (vs:=x.vs) h.dup (hfr.imp (fun h=>h) fun h y hy=>?_)
  obtain ⟨z,hz,rfl⟩:=Kt.1 hy
  exact .inr (h z hz)
 ·rcases Kk.1 hy with hy|hy
  ·exact h.rok y hy
  ·simp at hy;subst hy;exact hok
theorem Zks {cs:List Col} {nx nx' :Int} {rs:List Rw} (h:RowsOk cs nx rs) (h2:nx≤nx'):RowsOk cs nx' rs:=⟨Zch h2 h.ok,h.dup,h.rok⟩
theorem ZlX (M:Nat→Prop) (T:Nat) (w:World) (hM:∀ b,M b→b<w.heap.size) (ht:Tp w T) (hMT:∀ b,M b→T≤b) (nm:ByteArray) (A:Option Addr) (n c:Nat) (cs:List Col) (N:Nat) (hD:Ro w (Mut M [.tp T]) (ColsIn A n cs)) (hW:Ro w (Mut M [.tp T]) Wds) (hT:0<T)
  (hn:n≤1000) (hnc:n≤c) (hc:c≤9223372036854775807) (hok:∀ x∈cs,UF x) (hsch:Yx nm cs=true) (hkey:QJ cs) (hN:N≤50):Calls Tryz.prog 20 #[.pointer (some ⟨T,0,none⟩),.agg #[.string nm,.slice A n c],.int .i64 N] w fun e w' =>Zd4 w T M nm cs N e w' :=by
 have HL:=hid (Ul hD.now)
 have HOKC:=hid hok
 have HKEY:=hid hkey
 have HSCH:=hid hsch
 clear hok hkey hsch
 have K0:=((((Hold.zG M w T hM ht hMT).add hD).add (hW.less (X8 rfl))).Za #[.string nm,.slice A n c] 66).alloc #[.string ⟨#[]⟩,.slice none 0 0,.int .i64 0,.slice none 0 0] 69
 rw [KP] at K0
 clear hD hW
 go_enter Tryz.func20,Tryz.ntmps20
 go_wp2_with fail
 obtain ⟨gs,hgs⟩:∃ gs,gs=w.heap.size:=⟨_,rfl⟩
 obtain ⟨g6,hg6⟩:∃ g6,g6=gs+1:=⟨_,rfl⟩
 rw [←hgs,←hg6] at K0 ⊢
 generalize (w.alloc _).alloc _=w1 at K0 ⊢
 have HGS:=hid hgs
 have HG6:=hid hg6
 clear hgs hg6
 obtain ⟨H,hH⟩:∃ H,H=w1.drew.heap.size:=⟨_,rfl⟩
 have HH:=hid hH
 clear hH
 refine Lj (by kernel_rfl) ?_
 refine Zn 6 90 ([.blk g6 69 #[.string ⟨#[]⟩,.slice none 0 0,.int .i64 0,.slice none 0 0],.cst gs 66 #[.string nm,.slice A n c],.ro Wds,.ro (ColsIn A n cs),.tp T]) (spL [(18,fun u _=>VE 3 u),(7,Yp (Mut M ([.blk g6 69 #[.string ⟨#[]⟩,.slice none 0 0,.int .i64 0,.slice none 0 0],.cst gs 66 #[.string nm,.slice A n c],.ro Wds,.ro (ColsIn A n cs),.tp T])) H 69 #[.string ⟨#[]⟩,.slice none 0 0,.int .i64 0,.slice none 0 0])]) (by kernel_rfl) (by kernel_rfl) (by kernel_rfl) rfl ?_ (K0.drew) ?_
 ·exact Zd (fun _ _ _ _ h=>h) (Zd VS (Zm _))
 simp only [zd,zp,List.getElem_toArray,List.getElem_cons_zero,List.getElem_cons_succ]
 refine' dv rfl rfl rfl (fun wv HC=>?_) ?_;rotate_left
 ·have FC:=HC.facts;simp only [factsL,Zu,Nat.reduceAdd,List.toList_toArray,and_true,true_and] at FC;go_simp<;>rfl
 simp only [zp]
 refine' dv rfl rfl rfl (fun wv HC=>?_) ?_;rotate_left
 · go_simp<;>rfl
 simp only [zp]
 refine U5 3 4 rfl 18 rfl rfl rfl rfl (fun wv=>?_) ?_
 ·go_simp<;>rfl
 rintro r hr
 simp only [zp]
 have s1:IntKind.i64.wrap (1+(r:Int))=1+(r:Int):=by rw [Kn];omega
 iterate 2
  refine' dv rfl rfl rfl (fun wv HC=>?_) ?_;rotate_left
  · go_simp<;>rfl
  simp only [zp]
 refine Z8 #[.string ⟨#[]⟩,.slice none 0 0,.int .i64 0,.slice none 0 0] 69 7 (Yp (Mut M ([.blk g6 69 #[.string ⟨#[]⟩,.slice none 0 0,.int .i64 0,.slice none 0 0],.cst gs 66 #[.string nm,.slice A n c],.ro Wds,.ro (ColsIn A n cs),.tp T])) H 69 #[.string ⟨#[]⟩,.slice none 0 0,.int .i64 0,.slice none 0 0]) (fun g=>.pointer (some ⟨g,0,none⟩)) rfl rfl rfl rfl (fun wv=>?_) (fun wv HC hrm hD hro=>?_) ?_
 ·go_simp<;>rfl
 ·exact ⟨_,rfl,by have:=hrm.1;rw [HH.out];exact this,hro _ HC.Zb⟩
 rintro g7 wg HCg hsl
 simp only [zp]
 clear hsl HCg s1
 refine Zk ?_
 rintro wx1 HX
 rintro _hrm HGW
 have hns:Yp (Mut M ([.blk g6 69 #[.string ⟨#[]⟩,.slice none 0 0,.int .i64 0,.slice none 0 0],.cst gs 66 #[.string nm,.slice A n c],.ro Wds,.ro (ColsIn A n cs),.tp T])) H 69 #[.string ⟨#[]⟩,.slice none 0 0,.int .i64 0,.slice none 0 0] (.pointer (some ⟨g7,0,none⟩)) wx1:=(Zo (d:=7) rfl).1 (HGW 5 _ rfl (by omega))
 clear HGW
 obtain ⟨gq,hgq,hgH,hgB⟩:=hns
 obtain rfl:g7=gq:=by injection hgq with hgq;injection hgq with hgq;injection hgq
 clear hgq
 rw [HH.out] at hgH
 have HB:=Hold.VI K0.drew HX _hrm hgH hgB.now
 clear hgB hgH HX _hrm K0 HH
 have FB:=HB.facts
 simp only [factsL,Zu,Nat.reduceAdd,List.toList_toArray,and_true,true_and] at FB
 have K1:=(((HB.store 0 rfl 0 (.string nm)).store 0 rfl 1 (.slice A n c)).store 0 rfl 2 (.int .i64 (1+(r:Int)))).store 0 rfl 3 (.slice none 0 0)
 have F1:=K1.facts
 simp only [zg] at F1
 simp only [zl] at K1
 clear HB
 go_wp2_with fail
 generalize (((wx1.setCell _ _).setCell _ _).setCell _ _).setCell _ _=w2 at K1 ⊢
 clear F1 FB
 go_loopw [8,24] (fun qv iv wr=>∃ (k:Nat) (q:Int),k≤n∧iv=.int .i64 k∧qv=.int .i64 q∧Hid (UI cs k q)∧Hold M (some T) w wr ([.blk g7 69 #[.string nm,.slice A n c,.int .i64 (1+(r:Int)),.slice none 0 0],.blk g6 69 #[.string ⟨#[]⟩,.slice none 0 0,.int .i64 0,.slice none 0 0],.cst gs 66 #[.string nm,.slice A n c],.ro Wds,.ro (ColsIn A n cs),.tp T])) (fun _ iv _=>n - (intOf iv).toNat)
 case atStart=>exact ⟨0,-1,by omega,rfl,rfl,hid (.inl ⟨rfl,fun i x hi=>absurd hi (by omega)⟩),K1⟩
 case round=>
  clear K1
  obtain ⟨k,q,hk,rfl,rfl,HQ,H⟩:=hrel
  by_cases hlt:k<n
  ·have hd:decide ((k:Int)<(n:Int))=true:=by simp;omega
   have k0:(0:Int)≤(k:Int):=by omega
   have k1:(k:Int)<(n:Int):=by omega
   obtain ⟨⟨xn,xt,xnn,xk⟩,hx⟩:=X4 HL.out hlt
   obtain ⟨g,o,rfl,hgb,c0,c1,c2,c3⟩:=(RdC.ZW (H.ro 4 rfl).now).at_ hx
   dsimp only at c0 c1 c2 c3
   have HX:=hid hx
   clear hx
   have K2:=H.Za #[.string xn,.int .i64 xt,.bool xnn,.bool xk] 124
   clear H
   have F2:=K2.facts
   simp only [zg] at F2
   cases xk
   ·have HN:=hid (Zh4 HQ.out HX.out rfl)
    go_wp2_with fail
    have K3:=K2.drop (Kb _ _)
    go_roundw
    case rel=>exact ⟨k+1,q,by omega,by go_num,by first|rfl|trivial,HN,K3⟩
    case measure=>simp [intOf];omega
   ·have HN:=hid (Zh5 HKEY.out HX.out rfl)
    go_wp2_with fail
    have K3:=K2.drop (Kb _ _)
    go_roundw
    case rel=>exact ⟨k+1,k,by omega,by go_num,by first|rfl|trivial,HN,K3⟩
    case measure=>simp [intOf];omega
  ·obtain rfl:k=n:=by omega
   have hd:decide ((k:Int)<(k:Int))=false:=by simp
   clear hlt
   have HKQ:=hid (show q=Ze Col.key cs from Zh3 (by have h:=HQ.out;rwa [←HL.out] at h))
   clear HQ
   go_wp2_with fail
   refine (Wd T ((N:Int)+1) _ (H.tp_ 5 rfl) (by omega) (by omega)).mono ?_
   rintro e w3 ⟨i0,rfl,i00,i01,t3,g3⟩
   obtain ⟨i0,rfl⟩:=Int.eq_ofNat_of_zero_le i00
   have K2:=(((Hold.Xk H 5 rfl g3 t3).add (Vu _ _)).nil 72 2)
   clear H g3 t3
   have hi0:i0≤N:=by omega
   clear i00 i01
   go_wp2_with fail
   clear hd
   go_loopw [11] (fun iv wr=>∃ (i k2 cap:Nat) (nx:Int) (O:Option Addr) (rs:List Rw),iv=.int .i64 i∧i+k2≤N∧1≤nx∧nx≤3+2 * ((N:Int) - i)∧Hid (RowsOk cs nx rs)∧Hold M (some T) w wr ([.own 72 2 (.slice O k2 cap) k2 (Zp rs),.ro (Yl rs),.blk g7 69 #[.string nm,.slice A k c,.int .i64 nx,.slice O k2 cap],.blk g6 69 #[.string ⟨#[]⟩,.slice none 0 0,.int .i64 0,.slice none 0 0],.cst gs 66 #[.string nm,.slice A k c],.ro Wds,.ro (ColsIn A k cs),.tp T])) (fun iv _=>(intOf iv).toNat)
   case atStart=>exact ⟨i0,0,0,1+(r:Int),none,[],rfl,by omega,by omega,by omega,hid ⟨rfl,by rcases Int.lt_or_le (Ze Col.key cs) 0 with h|h<;>rfl,fun r hr=>nomatch hr⟩,K2⟩
   case round=>
    clear K2 hi0
    obtain ⟨i,k2,cap,nx,O,rs,rfl,hik,hnx,hnx2,HR,H⟩:=hrel
    by_cases hlt:0<i
    ·obtain ⟨i,rfl⟩:∃ i',i=i' +1:=⟨i - 1,by omega⟩
     have hd:decide (((i+1:Nat):Int) > 0)=true:=by rw [decide_eq_true_iff];omega
     clear hlt
     have F2:=H.facts
     simp only [zg] at F2
     go_wp2_with fail
     refine (Zl4 (Mut M _) T _ H.Zb (H.tp_ 7 rfl) (H.get 7 rfl).2 nm A k c cs ((H.ro 6 rfl).less (WQ (i:=7) rfl)) ((H.ro 5 rfl).less (WQ (i:=7) rfl)) hT hn HOKC.out).mono ?_
     rintro e w4 ⟨Ar,nr,cr,vr,rfl,hnr,hvr,hfr,ho,t4,g4⟩
     have K3a:=Hold.ZeK H (Hold.Xk H 7 rfl g4 t4) (RM.grown g4 (.inr ⟨_,Ka (i:=7) rfl,rfl⟩)) ho
     obtain ⟨hcr1,hcr2,_⟩:=ZM (K3a.get 0 rfl)
     have K3:=K3a.Zq 0 rfl
     simp only [List.set_cons_zero] at K3
     have HNR:=hid hnr
     have HFR:=hid hfr
     have HVR:=hid hvr
     clear K3a H ho t4 g4 hnr hfr hvr F2
     have F3:=K3.facts
     simp only [zg] at F3
     go_wp2_with fail
     clear F3
     go_loopw [13,47] (fun fv jv wr=>∃ (j:Nat) (fr:Bool),j≤k2∧jv=.int .i64 j∧fv=.bool fr∧Hid (WC q (rs.take j) vr fr)∧Hold M (some T) w wr ([.ro (VlsIn Ar nr vr),.own 72 2 (.slice O k2 cap) k2 (Zp rs),.ro (Yl rs),.blk g7 69 #[.string nm,.slice A k c,.int .i64 nx,.slice O k2 cap],.blk g6 69 #[.string ⟨#[]⟩,.slice none 0 0,.int .i64 0,.slice none 0 0],.cst gs 66 #[.string nm,.slice A k c],.ro Wds,.ro (ColsIn A k cs),.tp T])) (fun _ jv _=>k2 - (intOf jv).toNat)
     case atStart=>exact ⟨0,true,by omega,rfl,rfl,hid (fun _=>.inr fun x hx=>(by simp at hx)),K3⟩
     case round=>
      clear K3 hd
      obtain ⟨j,fr,hj,rfl,rfl,HFS,H⟩:=hrel
      have hRW:RwsIn O k2 rs wr:=⟨Rd.Us (H.get 1 rfl),(H.ro 2 rfl).now⟩
      have HLR:=hid hRW.len
      by_cases hlt:j<k2
      ·have hd:decide ((j:Int)<(k2:Int))=true:=by simp;omega
       have j0:(0:Int)≤(j:Int):=by omega
       have j1:(j:Int)<(k2:Int):=by omega
       obtain ⟨x,hx⟩:=Zl HLR.out hlt
       obtain ⟨b,o,rfl,hb,c0,c1,hxv⟩:=hRW.at_ hx
       have HX:=hid hx
       have HXV:=hid (show x.vs.length=x.n from hxv.len)
       have HXF:=hid (show Zt cs x.vs=0 from Vp HR.out.ok _ (Ko (f:=Rw.row) (Ka hx)))
       have hxr:Ro wr _ (VlsIn x.A x.n x.vs):=(H.ro 2 rfl).imp fun w2 h2=>h2 x (Ka hx)
       clear hx hxv hRW
       have K4:=(H.add hxr).Za #[.int .i64 x.id,.slice x.A x.n x.c] 72
       obtain ⟨gx,hgx⟩:∃ gx,gx=wr.heap.size:=⟨_,rfl⟩
       rw [←hgx] at K4
       clear H hxr
       obtain ⟨xid,xA,xn,xc,xvs⟩:=x
       dsimp only at *
       go_wp2_with fail
       rw [←hgx]
       have HGX:=hid hgx
       clear hgx c0 c1
       generalize wr.alloc _=w5 at K4 ⊢
       obtain ⟨KL,hKL,K5⟩:=K4.name
       clear K4
       cases fr
       ·have HKL:=hid hKL
        clear hKL
        refine Lj (by kernel_rfl) ?_
        refine Zn 18 90 (KL) (spL []) (by kernel_rfl) (by kernel_rfl) (by kernel_rfl) rfl ?_ (K5.drew) ?_
        ·exact Zm _
        simp only [zd,zp,List.getElem_toArray,List.getElem_cons_zero,List.getElem_cons_succ]
        repeat (first|(refine dw_skip rfl rfl rfl ?_;simp only [zp])|(refine' dv rfl rfl rfl (fun wv HC=>?_) ?_;rotate_left;(focus (go_simp<;>rfl;done));simp only [zp]))
        refine Zk ?_
        rintro wx4 HX4
        rintro _hrm _HG
        rw [HKL.out] at HX4
        clear _hrm _HG
        have HQ:=hid ((Zhs:WC q (rs.take (j+1)) vr false))
        have K6:=HX4.drop (Ke _ (Kb _ _))
        have F5:=K6.facts
        simp only [zg] at F5
        go_wp2_with fail
        go_roundw
        case rel=>exact ⟨j+1,_,by omega,by go_num,by first|rfl|trivial|simp,HQ,K6⟩
        case measure=>simp [intOf];omega
       ·by_cases hq:q<0
        ·have hq1:decide (q<0)=true:=by simpa using hq
         have HKL:=hid hKL
         have HQN:=hid hq
         clear hKL hq
         refine Lj (by kernel_rfl) ?_
         refine Zn 18 90 (KL) (spL []) (by kernel_rfl) (by kernel_rfl) (by kernel_rfl) rfl ?_ (K5.drew) ?_
         ·exact Zm _
         simp only [zd,zp,List.getElem_toArray,List.getElem_cons_zero,List.getElem_cons_succ]
         repeat (first|(refine dw_skip rfl rfl rfl ?_;simp only [zp])|(refine' dv rfl rfl rfl (fun wv HC=>?_) ?_;rotate_left;(focus (go_simp<;>rfl;done));simp only [zp]))
         refine Zk ?_
         rintro wx4 HX4
         rintro _hrm _HG
         rw [HKL.out] at HX4
         clear _hrm _HG
         have HQ:=hid ((Zht HQN.out:WC q (rs.take (j+1)) vr true))
         have K6:=HX4.drop (Ke _ (Kb _ _))
         have F5:=K6.facts
         simp only [zg] at F5
         go_wp2_with fail
         go_roundw
         case rel=>exact ⟨j+1,_,by omega,by go_num,by first|rfl|trivial|simp,HQ,K6⟩
         case measure=>simp [intOf];omega
        ·obtain ⟨κ,rfl⟩:=Int.eq_ofNat_of_zero_le (show 0≤q by omega)
         have hq1:decide ((κ:Int)<0)=false:=by rw [decide_eq_false_iff_not];omega
         clear hq
         have hκ:κ<cs.length:=Zh6 HKQ.out
         have q0:(0:Int)≤(κ:Int):=by omega
         have q1:(κ:Int)<(xn:Int):=by have h:=WN HXF.out;have h2:=HXV.out;omega
         have q2:(κ:Int)<(nr:Int):=by have h:=Q6 HFR.out;have h2:=HNR.out;omega
         clear hκ
         obtain ⟨vx,hvx⟩:=Zl HXV.out (show κ<xn by omega)
         obtain ⟨vy,hvy⟩:=Zl HNR.out.symm (show κ<nr by omega)
         have K6:=K5
         rw [hKL] at K6
         obtain ⟨bx,ox,rfl,rx⟩:=(K6.ro 1 rfl).JN hvx
         obtain ⟨by_,oy,rfl,ry⟩:=(K6.ro 2 rfl).JN hvy
         have K7:=(K6.add rx).add (ry.less (X8 rfl))
         clear K6 K5 hKL rx ry
         obtain ⟨KM,hKM,K5⟩:=K7.name
         clear K7
         have HF:Hid (∀ wv,Hold M (some T) w wv KM→(wv.cell? ⟨gx,1,none⟩=some (.slice (some ⟨bx,ox,none⟩) xn xc)∧gx<wv.heap.size)∧(bx<wv.heap.size∧wv.cell? ⟨bx,ox+κ * 3,none⟩=some (.int .i64 vx.k)∧wv.cell? ⟨bx,ox+κ * 3+1,none⟩=some (.int .i64 vx.i)∧wv.cell? ⟨bx,ox+κ * 3+2,none⟩=some (.string vx.s))∧by_<wv.heap.size∧wv.cell? ⟨by_,oy+κ * 3,none⟩=some (.int .i64 vy.k)∧wv.cell? ⟨by_,oy+κ * 3+1,none⟩=some (.int .i64 vy.i)∧wv.cell? ⟨by_,oy+κ * 3+2,none⟩=some (.string vy.s)):=hid fun wv HC=>by
          rw [hKM] at HC
          have y1:=HC.Zg 2 rfl
          exact ⟨⟨Li _ _ 1 _ _ _ y1,Blk.lt y1⟩,(HC.ro 1 rfl).now,(HC.ro 0 rfl).now⟩
         have HKL:=hid hKM
         have HVX:=hid hvx
         have HVY:=hid hvy
         clear hKM hvx hvy
         refine Lj (by kernel_rfl) ?_
         refine Zn 18 90 (KM) (spL []) (by kernel_rfl) (by kernel_rfl) (by kernel_rfl) rfl ?_ (K5.drew) ?_
         ·exact Zm _
         simp only [zd,zp,List.getElem_toArray,List.getElem_cons_zero,List.getElem_cons_succ]
         repeat (refine' dv rfl rfl rfl (fun wv HC=>?_) ?_;rotate_left;(focus (obtain ⟨⟨f0,f1⟩,⟨f2,f3,f4,f5⟩,f6,f7,f8,f9⟩:=HF.out _ HC;go_simp<;>rfl;done));simp only [zp])
         refine Wu rfl rfl rfl ⟨.bool (decide (vx≠vy)),fun wv HC=>?_,?_⟩
         ·by_cases h0:vx.k=vy.k
          ·have e0:(vx.k==vy.k)=true:=by simp [h0]
           by_cases h1:vx.i=vy.i
           ·have e1:(vx.i==vy.i)=true:=by simp [h1]
            by_cases h2:vx.s=vy.s
            ·have e2:(vx.s.toList==vy.s.toList)=true:=by simp [h2]
             have e3:decide (vx≠vy)=false:=by rw [decide_eq_false_iff_not];exact fun h=>h (zV h0 h1 h2)
             rw [e3]
             clear h0 h1 h2
             go_simp<;>rfl
            ·have e2:(vx.s.toList==vy.s.toList)=false:=by rw [beq_eq_false_iff_ne];exact fun h=>h2 (Yc h)
             have e3:decide (vx≠vy)=true:=by rw [decide_eq_true_iff];rintro rfl;exact h2 rfl
             rw [e3]
             clear h0 h1 h2
             go_simp<;>rfl
           ·have e1:(vx.i==vy.i)=false:=by simpa using h1
            have e3:decide (vx≠vy)=true:=by rw [decide_eq_true_iff];rintro rfl;exact h1 rfl
            rw [e3]
            clear h0 h1
            go_simp<;>rfl
          ·have e0:(vx.k==vy.k)=false:=by simpa using h0
           have e3:decide (vx≠vy)=true:=by rw [decide_eq_true_iff];rintro rfl;exact h0 rfl
           rw [e3]
           clear h0
           go_simp<;>rfl
         iterate 3
          simp only [zp]
          refine' dv rfl rfl rfl (fun wv HC=>?_) ?_;rotate_left
          · go_simp<;>rfl
         simp only [zp]
         refine Zk ?_
         rintro wx4 HX4
         rintro _hrm _HG
         rw [HKL.out] at HX4
         clear _hrm _HG
         have HQ:=hid ((Zhu HX.out (by simpa using HVX.out) HVY.out HFS.out rfl:WC (κ:Int) (rs.take (j+1)) vr (decide (vx≠vy))))
         have K6:=HX4.drop (Ke _ (Ke _ (Ke _ (Kb _ _))))
         have F5:=K6.facts
         simp only [zg] at F5
         go_wp2_with fail
         go_roundw
         case rel=>exact ⟨j+1,_,by omega,by go_num,by first|rfl|trivial|simp,HQ,K6⟩
         case measure=>simp [intOf];omega
      ·obtain rfl:j=k2:=by omega
       have hd:decide ((j:Int)<(j:Int))=false:=by simp
       clear hlt
       have HFE:=hid (show WC q rs vr fr by have h:=HFS.out;rwa [Kh (by rw [HLR.out];exact Kg _)] at h)
       clear hRW HFS
       have F3:=H.facts
       simp only [zg] at F3
       cases fr
       ·go_wp2_with fail
        clear F3 hd
        have K4:=H.drop (Kb _ _)
        clear H
        refine Lj (by kernel_rfl) ?_
        refine Zn 10 90 ([.own 72 2 (.slice O j cap) j (Zp rs),.ro (Yl rs),.blk g7 69 #[.string nm,.slice A k c,.int .i64 nx,.slice O j cap],.blk g6 69 #[.string ⟨#[]⟩,.slice none 0 0,.int .i64 0,.slice none 0 0],.cst gs 66 #[.string nm,.slice A k c],.ro Wds,.ro (ColsIn A k cs),.tp T]) (spL [(82,fun u _=>VE 2 u),(84,fun u _=>VE 2 u)]) (by kernel_rfl) (by kernel_rfl) (by kernel_rfl) rfl ?_ (K4.drew) ?_
        ·exact Zd (fun _ _ _ _ h=>h) (Zd (fun _ _ _ _ h=>h) (Zm _))
        simp only [zd,zp,List.getElem_toArray,List.getElem_cons_zero,List.getElem_cons_succ]
        refine' dv rfl rfl rfl (fun wv HC=>?_) ?_;rotate_left
        · go_simp<;>rfl
        simp only [zp]
        refine' dv rfl rfl rfl (fun wv HC=>?_) ?_;rotate_left
        ·have FC:=HC.facts;simp only [factsL,Zu,Nat.reduceAdd,List.toList_toArray,and_true,true_and] at FC;go_simp<;>rfl
        simp only [zp]
        refine' dv rfl rfl rfl (fun wv HC=>?_) ?_;rotate_left
        · go_simp<;>rfl
        simp only [zp]
        refine U5 2 7 rfl 82 rfl rfl rfl rfl (fun wv=>?_) ?_
        ·go_simp<;>rfl
        rintro a ha
        simp only [zp]
        refine' dv rfl rfl rfl (fun wv HC=>?_) ?_;rotate_left
        · go_simp<;>rfl
        simp only [zp]
        refine U5 2 7 rfl 84 rfl rfl rfl rfl (fun wv=>?_) ?_
        ·go_simp<;>rfl
        rintro b hb
        simp only [zp]
        obtain ⟨m,hm,hm1⟩:∃ m:Nat,(a:Int) * (b:Int)=(m:Int)∧m≤1:=⟨a * b,by simp,by
         obtain rfl|rfl:a=0∨a=1:=by omega
         ·simp
         ·omega⟩
        have s1:IntKind.i64.wrap ((a:Int) * (b:Int))=(m:Int):=by rw [hm,Kn];omega
        have s2:IntKind.i64.wrap (1+(m:Int))=1+(m:Int):=by rw [Kn];omega
        have s3:IntKind.i64.wrap (nx+(1+(m:Int)))=nx+(1+(m:Int)):=by rw [Kn];omega
        clear hm
        repeat (refine' dv rfl rfl rfl (fun wv HC=>?_) ?_;rotate_left;(focus (go_simp<;>rfl;done));simp only [zp])
        refine Zk ?_
        rintro wx5 HX5
        rintro _hrm _HG
        clear _hrm _HG s1 s2 s3
        have F6:=HX5.facts
        simp only [zg] at F6
        have K9:=HX5.store 2 rfl 2 (.int .i64 (nx+(1+(m:Int))))
        simp only [zl] at K9
        have HRN:=hid (Zks HR.out (show nx≤nx+(1+(m:Int)) by omega))
        go_wp2_with fail
        go_roundw
        case rel=>exact ⟨i,j,cap,nx+(1+(m:Int)),_,_,by first|rfl|go_num,by omega,by omega,by omega,HRN,K9⟩
        case measure=>simp [intOf]<;>omega
       ·have hx2:(Zp rs++(#[Value.int .i64 nx,.slice Ar nr cr]).toList)=Zp (rs++[⟨nx,Ar,nr,cr,vr⟩]):=Wy _ _ _ _ _ _
        have HCE:=hid hx2
        clear hx2
        go_wp2_with (at_builtin;go_must (refine ZJ H 1 rfl Tryz.Xy #[.int .i64 nx,.slice Ar nr cr] rfl (.tmp 71) (.tmp 76) rfl rfl _ rfl rfl rfl (by intro u hu;simp at hu;rcases hu with rfl|rfl<;>rfl) (by omega) (by omega) ?_);intro g9 cap9 w9 hc9 hm9 KB;rw [HCE.out] at KB;simp only [zl] at KB;(have FB:=KB.facts);simp only [zg] at FB)
        clear F3 hd
        have KC:=KB.store 3 rfl 3 (.slice (some ⟨g9,0,none⟩) (j+1) cap9)
        have KD:=(KC.ZT 2 rfl (XF (r:=⟨nx,Ar,nr,cr,vr⟩) (KC.ro 2 rfl) (KC.ro 0 rfl))).drop (Kb _ _)
        simp only [zl] at KD
        generalize World.setCell _ _ _=w10 at KD ⊢
        clear KB KC FB H
        refine Lj (by kernel_rfl) ?_
        refine Zn 10 90 ([.own 72 2 (.slice (some ⟨g9,0,none⟩) (j+1) cap9) (j+1) (Zp (rs++[⟨nx,Ar,nr,cr,vr⟩])),.ro (Yl (rs++[⟨nx,Ar,nr,cr,vr⟩])),.blk g7 69 #[.string nm,.slice A k c,.int .i64 nx,.slice (some ⟨g9,0,none⟩) (j+1) cap9],.blk g6 69 #[.string ⟨#[]⟩,.slice none 0 0,.int .i64 0,.slice none 0 0],.cst gs 66 #[.string nm,.slice A k c],.ro Wds,.ro (ColsIn A k cs),.tp T]) (spL [(82,fun u _=>VE 2 u),(84,fun u _=>VE 2 u)]) (by kernel_rfl) (by kernel_rfl) (by kernel_rfl) rfl ?_ (KD.drew) ?_
        ·exact Zd (fun _ _ _ _ h=>h) (Zd (fun _ _ _ _ h=>h) (Zm _))
        simp only [zd,zp,List.getElem_toArray,List.getElem_cons_zero,List.getElem_cons_succ]
        refine' dv rfl rfl rfl (fun wv HC=>?_) ?_;rotate_left
        · go_simp<;>rfl
        simp only [zp]
        refine' dv rfl rfl rfl (fun wv HC=>?_) ?_;rotate_left
        ·have FC:=HC.facts;simp only [factsL,Zu,Nat.reduceAdd,List.toList_toArray,and_true,true_and] at FC;go_simp<;>rfl
        simp only [zp]
        refine' dv rfl rfl rfl (fun wv HC=>?_) ?_;rotate_left
        · go_simp<;>rfl
        simp only [zp]
        refine U5 2 7 rfl 82 rfl rfl rfl rfl (fun wv=>?_) ?_
        ·go_simp<;>rfl
        rintro a ha
        simp only [zp]
        refine' dv rfl rfl rfl (fun wv HC=>?_) ?_;rotate_left
        · go_simp<;>rfl
        simp only [zp]
        refine U5 2 7 rfl 84 rfl rfl rfl rfl (fun wv=>?_) ?_
        ·go_simp<;>rfl
        rintro b hb
        simp only [zp]
        obtain ⟨m,hm,hm1⟩:∃ m:Nat,(a:Int) * (b:Int)=(m:Int)∧m≤1:=⟨a * b,by simp,by
         obtain rfl|rfl:a=0∨a=1:=by omega
         ·simp
         ·omega⟩
        have s1:IntKind.i64.wrap ((a:Int) * (b:Int))=(m:Int):=by rw [hm,Kn];omega
        have s2:IntKind.i64.wrap (1+(m:Int))=1+(m:Int):=by rw [Kn];omega
        have s3:IntKind.i64.wrap (nx+(1+(m:Int)))=nx+(1+(m:Int)):=by rw [Kn];omega
        clear hm
        repeat (refine' dv rfl rfl rfl (fun wv HC=>?_) ?_;rotate_left;(focus (go_simp<;>rfl;done));simp only [zp])
        refine Zk ?_
        rintro wx5 HX5
        rintro _hrm _HG
        clear _hrm _HG s1 s2 s3
        have F6:=HX5.facts
        simp only [zg] at F6
        have K9:=HX5.store 2 rfl 2 (.int .i64 (nx+(1+(m:Int))))
        simp only [zl] at K9
        have HRN:=hid (Zkr (x:=⟨nx,Ar,nr,cr,vr⟩) HR.out rfl (by omega) (show nx<nx+(1+(m:Int)) by omega) (Zhn HFR.out) ⟨by show I64 nx;unfold I64;omega,hcr1,hcr2,HVR.out⟩ (by have h:=HFE.out rfl;rwa [HKQ.out] at h))
        go_wp2_with fail
        go_roundw
        case rel=>exact ⟨i,(j+1),cap9,nx+(1+(m:Int)),_,_,by first|rfl|go_num,by omega,by omega,by omega,HRN,K9⟩
        case measure=>simp [intOf]<;>omega
    ·obtain rfl:i=0:=by omega
     have hd:decide (((0:Nat):Int) > 0)=false:=by decide
     have F:=H.facts
     simp only [zg] at F
     obtain ⟨hcq1,hcq2,_⟩:=ZM (H.get 0 rfl)
     have KS:=H.Zq 0 rfl
     simp only [List.set_cons_zero] at KS
     have KN:=(((KS.store 3 rfl 0 (.string nm)).store 3 rfl 1 (.slice A k c)).store 3 rfl 2 (.int .i64 nx)).store 3 rfl 3 (.slice O k2 cap)
     clear KS
     go_wp2_with fail
     exact bodyPost_ret (v:=.agg #[.string nm,.slice A k c,.int .i64 nx,.slice O k2 cap]) (by simp [results,Tryz.results20,go_sem,F]) rfl ⟨_,nx,rs.map Rw.row,rfl,⟨A,k,c,O,k2,cap,rs,rfl,hnc,hc,hcq1,hcq2,KN.ZN 6 rfl,(KN.ZN 0 rfl).and (KN.ZN 1 rfl),HR.out.rok,rfl⟩,Zdo HSCH.out (by have h:=Rd.Us (H.get 0 rfl);have h2:=h.1;rw [zq] at h2;simp;omega) (by omega) (by omega) HR.out.ok HR.out.dup,by have h:=Rd.Us (H.get 0 rfl);have h2:=h.1;rw [zq] at h2;simp;omega,KN.tp_ 7 rfl,KN.grow⟩
def Yh (l:List Pr) (w:World):Prop:=∀ p∈l,VlsIn p.oA p.on p.old w∧VlsIn p.nA p.nn p.new w
theorem Jp {M:Nat→Prop} {w:World} {a b:List Pr} (h:Ro w M (Yh a)) (k:Ro w M (Yh b)):Ro w M (Yh (a++b)):=fun w2 h1 h2 x hx=>by
 rcases Kk.1 hx with hx|hx
 ·exact h w2 h1 h2 x hx
 ·exact k w2 h1 h2 x hx
theorem Jn (l:List Pr):∀ u∈ZB l,u.oneCell' =true:=fun u hu=>by
 unfold ZB at hu
 rw [List.mem_flatMap] at hu
 obtain ⟨x,_,hx⟩:=hu
 simp only [Pr.cells,List.mem_cons,List.not_mem_nil,or_false] at hx
 rcases hx with rfl|rfl|rfl<;>rfl
theorem Tryz.U7:ElemT Tryz.prog 85 136 3 56 (.agg #[.int .i64 0,.slice none 0 0,.slice none 0 0]):=⟨Tryz.underlying85,by kernel_rfl,rfl,by omega⟩
def XV (M:Nat→Prop) (l:List Vl) (u:Value) (w:World):Prop:=∃ (C:Option Addr) (c:Nat),u=.slice C l.length c∧l.length≤c∧c≤9223372036854775807∧Ro w M (VlsIn C l.length l)
theorem zW {M:Nat→Prop} {l:List Vl} (u:Value) (w w' :World) (hr:RM M w w') (h:XV M l u w):XV M l u w' :=by
 obtain ⟨C,c,h1,h2,h3,h4⟩:=h
 exact ⟨C,c,h1,h2,h3,hr.ro h4⟩
def ZdW (w:World) (M:Nat→Prop) (r:Rw) (e:Ending) (w' :World):Prop:=∃ (C:Option Addr) (c:Nat),e=.returned (.agg #[.int .i64 r.id,.slice C r.vs.length c])∧r.vs.length≤c∧c≤9223372036854775807∧Ro w' M (VlsIn C r.vs.length r.vs)∧Below w.heap.size w w'
theorem ZfY (M:Nat→Prop) (w:World) (hM:∀ b,M b→b<w.heap.size) (r:Rw) (hr:Ro w M (VlsIn r.A r.n r.vs)) (hn:r.n≤4398046511104):Calls Tryz.prog 160 #[.agg #[.int .i64 r.id,.slice r.A r.n r.c]] w fun e w' =>ZdW w M r e w' :=by
 obtain ⟨id,A,n,c,vs⟩:=r
 have hn:n≤4398046511104:=hn
 have K0:=(((Hold.start M w hM).add (hr.less (by simp [Mut]))).Za #[.int .i64 id,.slice A n c] 72).alloc #[.int .i64 0,.slice none 0 0] 72
 rw [KP] at K0
 obtain ⟨gx,hgx⟩:∃ g,g=w.heap.size:=⟨_,rfl⟩
 rw [←hgx] at K0
 obtain ⟨gr,hgr⟩:∃ g,g=gx+1:=⟨_,rfl⟩
 rw [←hgr] at K0
 clear hr
 go_enter Tryz.func160,Tryz.ntmps160
 go_upto_region 1 with fail
 rw [←hgx]
 try rw [←hgr]
 have HGX:=hid (KJ hgx hgr)
 clear hgx hgr
 generalize World.alloc _ _=w1 at K0 ⊢
 obtain ⟨KM,hKM,K6⟩:=K0.name
 have H1:∀ wv:World,Hold M none w wv KM→Blk wv gx 72 #[.int .i64 id,.slice A n c]:=fun wv h=>by rw [hKM] at h;exact h.Zg 1 rfl
 have H2:∀ wv:World,Hold M none w wv KM→Ro wv (Mut M KM) (VlsIn A n vs):=fun wv h=>by rw [hKM] at h ⊢;exact h.ro 2 rfl
 have HH1:=hid H1
 have HH2:=hid H2
 have HKM:=hid hKM
 clear hKM H1 H2 K0
 refine Lj (by kernel_rfl) ?_
 refine Zn 6 9 (KM) (spL [(7,XV (Mut M KM) vs)]) (by kernel_rfl) (by kernel_rfl) (by kernel_rfl) rfl ?_ (K6.drew) ?_
 ·exact Zd zW (Zm _)
 simp only [zd,zp,List.getElem_toArray,List.getElem_cons_zero,List.getElem_cons_succ]
 refine' dv rfl rfl rfl (fun wv HC=>?_) ?_;rotate_left
 · go_simp<;>rfl
 simp only [zp]
 refine' dv rfl rfl rfl (fun wv HC=>?_) ?_;rotate_left
 ·have q0:=(HH1.out _ HC).cell 0;go_simp<;>rfl
 simp only [zp]
 refine' dv rfl rfl rfl (fun wv HC=>?_) ?_;rotate_left
 · go_simp<;>rfl
 simp only [zp]
 refine' dv rfl rfl rfl (fun wv HC=>?_) ?_;rotate_left
 ·have q0:=(HH1.out _ HC).cell 1;go_simp<;>rfl
 simp only [zp]
 refine Zi 7 (XV (Mut M KM) vs) (f:=162) (args:=#[.slice A n c]) rfl rfl rfl rfl (fun wv=>?_) (fun wv HC hrm hD=>?_) ?_
 ·go_simp<;>rfl
 ·refine (Gt (Mut M KM) wv HC.Zb A n c vs (HH2.out _ HC) hn).mono ?_
  rintro e w5 ⟨C,q,cap,rfl,hq,hqc,hcap,rC,b5⟩
  subst hq
  exact ⟨_,rfl,⟨C,cap,rfl,hqc,hcap,rC⟩,HC.call b5,RM.below b5⟩
 rintro u wx HCx ⟨C,cap,rfl,hc1,hc2,rC⟩
 clear HCx rC
 simp only [zp]
 refine' dv rfl rfl rfl (fun wv HC=>?_) ?_;rotate_left
 · go_simp<;>rfl
 simp only [zp]
 refine Zk ?_
 rintro wx3 HX
 rintro _hrm HGW
 have h1:XV (Mut M KM) vs (.slice C vs.length cap) wx3:=(Zo (d:=7) rfl).1 (HGW 4 _ rfl (by omega))
 clear HGW _hrm
 obtain ⟨C',cap',e',-,-,rC⟩:=h1
 obtain ⟨rfl,rfl⟩:C=C' ∧cap=cap' :=by injection e' with e1 e2 e3;exact ⟨e1,e3⟩
 have K7:=HX.add rC
 rw [HKM.out] at K7
 have K8:=(K7.store 1 rfl 0 (.int .i64 id)).store 1 rfl 1 (.slice C vs.length cap)
 simp only [zl] at K8
 have F7:=K7.facts
 simp only [zg] at F7
 have F8:=K8.facts
 simp only [zg] at F8
 have HR:=hid ((K8.ro 0 rfl).less zm)
 have HB:=hid K8.below
 clear K8 K7 HX rC HH1 HH2 HKM K6 e'
 go_wp2_with fail
 refine Lh (v:=.agg #[.int .i64 id,.slice C vs.length cap]) ?_ rfl ?_
 ·clear HR HB
  simp [results,Tryz.results160,go_sem,F8]
 ·exact ⟨C,cap,rfl,hc1,hc2,HR.out,HB.out⟩
def ZdV (w:World) (M:Nat→Prop) (r:Pr) (e:Ending) (w' :World):Prop:=∃ (C:Option Addr) (c:Nat) (D:Option Addr) (d:Nat),e=.returned (.agg #[.int .i64 r.id,.slice C r.old.length c,.slice D r.new.length d])∧(r.old.length≤c∧c≤9223372036854775807)∧(r.new.length≤d∧d≤9223372036854775807)∧Ro w' M (VlsIn C r.old.length r.old)∧Ro w' M (VlsIn D r.new.length r.new)∧Below w.heap.size w w'
theorem ZfX (M:Nat→Prop) (w:World) (hM:∀ b,M b→b<w.heap.size) (r:Pr) (hr:Ro w M (VlsIn r.oA r.on r.old)) (hr2:Ro w M (VlsIn r.nA r.nn r.new)) (hn:r.on≤4398046511104) (hn2:r.nn≤4398046511104):Calls Tryz.prog 126 #[.agg #[.int .i64 r.id,.slice r.oA r.on r.oc,.slice r.nA r.nn r.nc]] w fun e w' =>ZdV w M r e w' :=by
 obtain ⟨id,oA,on,oc,old,nA,nn,nc,new⟩:=r
 have hn:on≤4398046511104:=hn
 have hn2:nn≤4398046511104:=hn2
 have K0:=((((Hold.start M w hM).add (hr2.less (by simp [Mut]))).add (hr.less (by simp [Mut,Hp.foot]))).Za #[.int .i64 id,.slice oA on oc,.slice nA nn nc] 136).alloc #[.int .i64 0,.slice none 0 0,.slice none 0 0] 136
 rw [KP] at K0
 obtain ⟨gx,hgx⟩:∃ g,g=w.heap.size:=⟨_,rfl⟩
 rw [←hgx] at K0
 obtain ⟨gr,hgr⟩:∃ g,g=gx+1:=⟨_,rfl⟩
 rw [←hgr] at K0
 clear hr hr2
 go_enter Tryz.func126,Tryz.ntmps126
 go_upto_region 1 with fail
 rw [←hgx]
 try rw [←hgr]
 have HGX:=hid (KJ hgx hgr)
 clear hgx hgr
 generalize World.alloc _ _=w1 at K0 ⊢
 obtain ⟨KM,hKM,K6⟩:=K0.name
 have H1:∀ wv:World,Hold M none w wv KM→Blk wv gx 136 #[.int .i64 id,.slice oA on oc,.slice nA nn nc]:=fun wv h=>by rw [hKM] at h;exact h.Zg 1 rfl
 have H2:∀ wv:World,Hold M none w wv KM→Ro wv (Mut M KM) (VlsIn oA on old):=fun wv h=>by rw [hKM] at h ⊢;exact h.ro 2 rfl
 have H3:∀ wv:World,Hold M none w wv KM→Ro wv (Mut M KM) (VlsIn nA nn new):=fun wv h=>by rw [hKM] at h ⊢;exact h.ro 3 rfl
 have HH1:=hid H1
 have HH2:=hid H2
 have HH3:=hid H3
 have HKM:=hid hKM
 clear hKM H1 H2 H3 K0
 refine Lj (by kernel_rfl) ?_
 refine Zn 9 12 (KM) (spL [(7,XV (Mut M KM) old),(10,XV (Mut M KM) new)]) (by kernel_rfl) (by kernel_rfl) (by kernel_rfl) rfl ?_ (K6.drew) ?_
 ·exact Zd zW (Zd zW (Zm _))
 simp only [zd,zp,List.getElem_toArray,List.getElem_cons_zero,List.getElem_cons_succ]
 refine' dv rfl rfl rfl (fun wv HC=>?_) ?_;rotate_left
 · go_simp<;>rfl
 simp only [zp]
 refine' dv rfl rfl rfl (fun wv HC=>?_) ?_;rotate_left
 ·have q0:=(HH1.out _ HC).cell 0;go_simp<;>rfl
 simp only [zp]
 refine' dv rfl rfl rfl (fun wv HC=>?_) ?_;rotate_left
 · go_simp<;>rfl
 simp only [zp]
 refine' dv rfl rfl rfl (fun wv HC=>?_) ?_;rotate_left
 ·have q0:=(HH1.out _ HC).cell 1;go_simp<;>rfl
 simp only [zp]
 refine Zi 7 (XV (Mut M KM) old) (f:=162) (args:=#[.slice oA on oc]) rfl rfl rfl rfl (fun wv=>?_) (fun wv HC hrm hD=>?_) ?_
 ·go_simp<;>rfl
 ·refine (Gt (Mut M KM) wv HC.Zb oA on oc old (HH2.out _ HC) hn).mono ?_
  rintro e w5 ⟨C,q,cap,rfl,hq,hqc,hcap,rC,b5⟩
  subst hq
  exact ⟨_,rfl,⟨C,cap,rfl,hqc,hcap,rC⟩,HC.call b5,RM.below b5⟩
 rintro u wx HCx ⟨C,cap,rfl,hc1,hc2,rC⟩
 clear HCx rC
 simp only [zp]
 refine' dv rfl rfl rfl (fun wv HC=>?_) ?_;rotate_left
 · go_simp<;>rfl
 simp only [zp]
 refine' dv rfl rfl rfl (fun wv HC=>?_) ?_;rotate_left
 ·have q0:=(HH1.out _ HC).cell 2;go_simp<;>rfl
 simp only [zp]
 refine Zi 10 (XV (Mut M KM) new) (f:=162) (args:=#[.slice nA nn nc]) rfl rfl rfl rfl (fun wv=>?_) (fun wv HC hrm hD=>?_) ?_
 ·go_simp<;>rfl
 ·refine (Gt (Mut M KM) wv HC.Zb nA nn nc new (HH3.out _ HC) hn2).mono ?_
  rintro e w5 ⟨D,q,dap,rfl,hq,hqc,hcap,rC,b5⟩
  subst hq
  exact ⟨_,rfl,⟨D,dap,rfl,hqc,hcap,rC⟩,HC.call b5,RM.below b5⟩
 rintro u wx HCx ⟨D,dap,rfl,hd1,hd2,rC⟩
 clear HCx rC
 simp only [zp]
 refine' dv rfl rfl rfl (fun wv HC=>?_) ?_;rotate_left
 · go_simp<;>rfl
 simp only [zp]
 refine Zk ?_
 rintro wx3 HX
 rintro _hrm HGW
 have h1:XV (Mut M KM) old (.slice C old.length cap) wx3:=(Zo (d:=7) rfl).1 (HGW 4 _ rfl (by omega))
 have h2:XV (Mut M KM) new (.slice D new.length dap) wx3:=(Zo (d:=10) rfl).1 (HGW 7 _ rfl (by omega))
 clear HGW _hrm
 obtain ⟨C',cap',e',-,-,rC⟩:=h1
 obtain ⟨rfl,rfl⟩:C=C' ∧cap=cap' :=by injection e' with e1 e2 e3;exact ⟨e1,e3⟩
 obtain ⟨D',dap',e2',-,-,rD⟩:=h2
 obtain ⟨rfl,rfl⟩:D=D' ∧dap=dap' :=by injection e2' with e1 e2 e3;exact ⟨e1,e3⟩
 have K7:=(HX.add rC).add (rD.less (by simp [ZL,Hp.foot]))
 rw [HKM.out] at K7
 have K8:=((K7.store 2 rfl 0 (.int .i64 id)).store 2 rfl 1 (.slice C old.length cap)).store 2 rfl 2 (.slice D new.length dap)
 simp only [zl] at K8
 have F7:=K7.facts
 simp only [zg] at F7
 have F8:=K8.facts
 simp only [zg] at F8
 have HR:=hid ((K8.ro 1 rfl).less zm)
 have HR2:=hid ((K8.ro 0 rfl).less zm)
 have HB:=hid K8.below
 clear K8 K7 HX rC rD HH1 HH2 HH3 HKM K6 e' e2'
 go_wp2_with fail
 refine Lh (v:=.agg #[.int .i64 id,.slice C old.length cap,.slice D new.length dap]) ?_ rfl ?_
 ·clear HR HR2 HB
  simp [results,Tryz.results126,go_sem,F8]
 ·exact ⟨C,cap,D,dap,rfl,⟨hc1,hc2⟩,⟨hd1,hd2⟩,HR.out,HR2.out,HB.out⟩
def QL (l:List Rw):Prop:=∀ x∈l,x.n=x.vs.length
def Zae (w:World) (M:Nat→Prop) (l:List Rw) (e:Ending) (w' :World):Prop:=∃ (A:Option Addr) (n c:Nat) (k:List Rw),e=.returned (.slice A n c)∧k.map Rw.row=l.map Rw.row∧(n≤c∧c≤9223372036854775807)∧QL k∧Ro w' M (RwsIn A n k)∧Below w.heap.size w w'
theorem ZkT {l:List Rw} {x:Rw} (h:QL l) (hx:x.n=x.vs.length):QL (l++[x]):=fun y hy=>by
 rcases Kk.1 hy with hy|hy
 ·exact h y hy
 ·simp only [List.mem_cons,List.not_mem_nil,or_false] at hy
  subst hy
  exact hx
theorem Ur {α β:Type} {f:α→β} {l:List α} {k:List α} {j:Nat} {x y:α} (h:k.map f=(l.take j).map f) (hx:l[j]? =some x) (hy:f y=f x):(k++[y]).map f=(l.take (j+1)).map f:=by
 obtain ⟨hl,e⟩:=Kc.1 hx
 rw [List.take_succ_eq_append_getElem hl,Km,Km,h,e]
 simp [hy]
theorem ZfW (M:Nat→Prop) (w:World) (hM:∀ b,M b→b<w.heap.size) (A:Option Addr) (n c:Nat) (l:List Rw) (hD:Ro w M (RwsIn A n l)) (hn:n≤1000000) (hr:∀ x∈l,x.n≤4398046511104):Calls Tryz.prog 159 #[.slice A n c,.func (.func 160) #[] #[]] w fun e w' =>Zae w M l e w' :=by
 have HL:=hid hD.now.len
 have HR:=hid hr
 have K0:=(((Hold.start M w hM).add (hD.less (by simp [Mut]))).add (S:=Yl []) (fun w2 _ _ x hx=>(nomatch hx))).nil 72 2
 clear hD hr
 go_enter Tryz.func159,Tryz.ntmps159
 go_wp2_with fail
 go_loopw [5,10] (fun ov iv wr=>∃ (j cap:Nat) (O:Option Addr) (outs:List Rw),j≤n∧iv=.int .i64 j∧ov=.slice O j cap∧Hid (outs.map Rw.row=(l.take j).map Rw.row∧QL outs)∧Hold M none w wr [.own 72 2 (.slice O j cap) j (Zp outs),.ro (Yl outs),.ro (RwsIn A n l)]) (fun _ iv _=>n - (intOf iv).toNat)
 case atStart=>exact ⟨0,0,none,[],by omega,rfl,rfl,hid ⟨rfl,fun x hx=>(nomatch hx)⟩,K0⟩
 case round=>
  clear K0
  obtain ⟨j,cap,O,outs,hj,rfl,rfl,HO,H⟩:=hrel
  by_cases hlt:j<n
  ·obtain ⟨x,hx⟩:=Zl HL.out hlt
   obtain ⟨b,o,rfl,hb,c0,c1,-⟩:=(H.ro 2 rfl).now.at_ hx
   have hm:=Ka hx
   have HX:=hid hx
   clear hx
   have K1:=H.Za #[.int .i64 x.id,.slice x.A x.n x.c] 72
   have F1:=K1.facts
   simp only [zg] at F1
   clear H
   go_wp2_with fail
   clear F1 c0 c1
   refine (ZfY (Mut M _) _ K1.Zb x ((K1.ro 3 rfl).imp fun w2 h2=>h2.2 x hm) (HR.out x hm)).mono ?_
   rintro e w2 ⟨C,cc,rfl,hc1,hc2,rC,b2⟩
   have K2:=(K1.call b2).add rC
   clear K1 b2 rC
   obtain ⟨cn,hcn⟩:∃ k,k=x.vs.length:=⟨_,rfl⟩
   rw [←hcn] at K2 hc1 ⊢
   have HCN:=hid hcn
   clear hcn
   go_wp2_with (at_builtin;go_must (refine ZJ K2 2 rfl Tryz.Xy #[.int .i64 x.id,.slice C cn cc] rfl (.tmp 14) (.tmp 18) rfl rfl _ (by first|rfl|simp) rfl rfl (by intro u hu;simp at hu;rcases hu with rfl|rfl<;>rfl) (by omega) (by omega) ?_);intro gA capA wA hcA hmA KA;simp only [zl] at KA)
   rw [show Zp outs++(#[.int .i64 x.id,.slice C cn cc]:Array Value).toList=Zp (outs++[⟨x.id,C,cn,cc,x.vs⟩]) from (ZkS outs ⟨x.id,C,cn,cc,x.vs⟩).symm] at KA
   have KB:=(KA.ZT 3 rfl (XF (r:=⟨x.id,C,cn,cc,x.vs⟩) (KA.ro 3 rfl) (KA.ro 0 rfl))).drop (Ke _ (Kb _ _))
   simp only [zl] at KB
   go_roundw
   case rel=>exact ⟨j+1,capA,_,outs++[⟨x.id,C,cn,cc,x.vs⟩],by omega,by go_num,by first|rfl|trivial,hid ⟨Ur HO.out.1 HX.out rfl,ZkT HO.out.2 HCN.out⟩,KB⟩
   case measure=>simp [intOf];omega
  ·obtain rfl:n=j:=by omega
   have hcap:=ZM (H.get 0 rfl)
   have KZ:=H.Zq 0 rfl
   simp only [List.set_cons_zero] at KZ
   have hR:Ro _ _ (RwsIn O n outs):=((KZ.ro 0 rfl).and (KZ.ro 1 rfl)).imp fun w2 h2=>⟨h2.1,h2.2⟩
   have HRO:=hid (hR.less zm)
   have HB:=hid KZ.below
   clear KZ H hR
   go_wp2_with fail
   go_ret
   exact ⟨O,n,cap,outs,rfl,by rw [HO.out.1,Kh (by rw [HL.out];exact Kg _)],⟨hcap.1,hcap.2.1⟩,HO.out.2,HRO.out,HB.out⟩
theorem ZaT (M:Nat→Prop) (w:World) (hM:∀ b,M b→b<w.heap.size) (A:Option Addr) (n c:Nat) (l:List Rw) (hD:Ro w M (RwsIn A n l)) (hn:n≤1000000) (hr:∀ x∈l,x.n≤4398046511104):Calls Tryz.prog 124 #[.slice A n c] w fun e w' =>Zae w M l e w' :=by
 have HR:=hid hr
 have K0:=((Hold.start M w hM).add (hD.less (by simp [Mut])))
 clear hD hr
 go_enter Tryz.func124,Tryz.ntmps124
 go_wp2_with fail
 refine (ZfW (Mut M _) _ K0.Zb A n c l (K0.ro 0 rfl) hn HR.out).mono ?_
 rintro e w2 ⟨C,q,cap,k,rfl,hk,hc,hl,rC,b2⟩
 have HB:=hid (K0.call b2).below
 have HC:=hid (rC.less zm)
 clear K0 rC b2
 go_wp2_with fail
 go_ret
 exact ⟨C,q,cap,k,rfl,hk,hc,hl,HC.out,HB.out⟩
structure SchOk (nm:ByteArray) (cs:List Col):Prop where
 val:Yx nm cs=true
 col:∀ x∈cs,UF x
 key:QJ cs
 len:1≤cs.length∧cs.length≤4
 nm:nm.size≤maxLen
 cs:∀ x∈cs,x.name.size≤maxLen
def ZbU (cs:List Col):Bool:=(List.range cs.length).all fun i=>match cs[i]? with|some c=>!c.key||Ze Col.key cs==(i:Int)|none=>true
theorem Zh2 {cs:List Col} (h:ZbU cs=true):QJ cs:=fun i c hc hk=>by
 have h1:=Kw.1 h i (Ku.2 (Kc.1 hc).1)
 simp only [hc,hk,Bool.not_true,Bool.false_or,beq_iff_eq] at h1
 exact h1
def ZaI (c:Col):Bool:=c.ty==1||c.ty==2||c.ty==3
def Zc0 (nm:ByteArray) (cs:List Col):Bool:=Yx nm cs&&cs.all ZaI&&ZbU cs&&decide (1≤cs.length)&&decide (cs.length≤4)&&decide (nm.size≤100)&&cs.all fun x=>decide (x.name.size≤100)
theorem zu {nm:ByteArray} {cs:List Col} (h:Zc0 nm cs=true):SchOk nm cs:=by
 unfold Zc0 at h
 simp only [Bool.and_eq_true,decide_eq_true_eq] at h
 obtain ⟨⟨⟨⟨⟨⟨h1,h2⟩,h3⟩,h4⟩,h5⟩,h6⟩,h7⟩:=h
 refine ⟨h1,fun x hx=>?_,Zh2 h3,⟨h4,h5⟩,by unfold maxLen;omega,fun x hx=>?_⟩
 ·have:=Kw.1 h2 x hx
  simpa [ZaI,UF,or_assoc] using this
 ·have:=Kw.1 h7 x hx
  simp only [decide_eq_true_eq] at this
  unfold maxLen;omega
structure VTab (t:Tb):Prop where
 sch:SchOk t.nm t.cs
 val:Zh t.nm t.cs t.nx t.rs=true
theorem VTab.rows {t:Tb} (h:VTab t):t.rs.length≤100:=(XU h.val).2.1
theorem VTab.len {t:Tb} (h:VTab t):∀ r∈t.rs,r.2.length≤4:=fun r hr=>by
 obtain ⟨_,_,_,_,hok,_⟩:=XU h.val
 have h1:=WN (Vp hok r hr)
 have h2:=h.sch.len
 omega
theorem zL (M:Nat→Prop) (T:Nat) (w:World) (hM:∀ b,M b→b<w.heap.size) (ht:Tp w T) (hMT:∀ b,M b→T≤b) (nm:ByteArray) (A:Option Addr) (n c:Nat) (cs:List Col) (N:Nat) (hD:Ro w (Mut M [.tp T]) (ColsIn A n cs)) (hc1:n≤c) (hc2:c≤9223372036854775807) (hs:SchOk nm cs) (hW:Ro w (Mut M [.tp T]) Wds) (hw:0<T) (hN:N≤50):
  Calls Tryz.prog 20 #[.pointer (some ⟨T,0,none⟩),.agg #[.string nm,.slice A n c],.int .i64 N] w fun e w' =>∃ (v:Value) (t:Tb),e=.returned v∧Wo w' M v t∧VTab t∧t.nm=nm∧t.cs=cs∧t.rs.length≤N∧Tp w' T∧w.grownBy w' (some T):=by
 have hn:cs.length=n:=Ul hD.now
 have hl:=hs.len
 refine (ZlX M T w hM ht hMT nm A n c cs N hD hW hw (by omega) hc1 hc2 hs.col hs.val hs.key hN).mono ?_
 rintro e w' ⟨v,nx,rs,rfl,hT,hv,hr,t1,g1⟩
 exact ⟨v,_,rfl,hT,⟨hs,hv⟩,rfl,rfl,hr,t1,g1⟩
structure Te where
 nm:ByteArray
 A:Option Addr
 n:Nat
 c:Nat
 cs:List Col
 nx:Int
 B:Option Addr
 m:Nat
 d:Nat
 l:List Rw
def Te.cells (x:Te):List Value:=[.string x.nm,.slice x.A x.n x.c,.int .i64 x.nx,.slice x.B x.m x.d]
def Te.val (x:Te):Value:=.agg #[.string x.nm,.slice x.A x.n x.c,.int .i64 x.nx,.slice x.B x.m x.d]
def Te.tb (x:Te):Tb:=⟨x.nm,x.cs,x.nx,x.l.map Rw.row⟩
def YA (x:Te) (w:World):Prop:=ColsIn x.A x.n x.cs w∧RwsIn x.B x.m x.l w
structure Te.ok (x:Te):Prop where
 nc:x.n≤x.c
 c:x.c≤9223372036854775807
 md:x.m≤x.d
 d:x.d≤9223372036854775807
 l:∀ r∈x.l,r.ok
theorem JG {w:World} {M:Nat→Prop} {v:Value} {t:Tb} (h:Wo w M v t):∃ x:Te,v=x.val∧x.tb=t∧x.ok∧Ro w M (YA x):=by
 obtain ⟨A,n,c,B,m,d,l,rfl,h1,h2,h3,h4,h5,h6,h7,h8⟩:=h
 exact ⟨⟨t.nm,A,n,c,t.cs,t.nx,B,m,d,l⟩,rfl,by simp only [Te.tb,h8],⟨h1,h2,h3,h4,h7⟩,h5.and h6⟩
theorem zK {w:World} {M:Nat→Prop} {x:Te} (h:x.ok) (r:Ro w M (YA x)):Wo w M x.val x.tb:=
 ⟨x.A,x.n,x.c,x.B,x.m,x.d,x.l,rfl,h.nc,h.c,h.md,h.d,r.imp fun w h=>h.1,r.imp fun w h=>h.2,h.l,rfl⟩
structure TbM (t:Tb):Prop where
 nm:t.nm.size≤maxLen
 cs:∀ x∈t.cs,x.name.size≤maxLen
 rs:t.rs.length≤4398046511104
 row:∀ r∈t.rs,r.2.length≤4398046511104
def ZC (l:List Te):List Value:=l.flatMap Te.cells
theorem JH (l:List Te):(ZC l).length=l.length * 4:=YL _ 4 (fun _=>rfl) l
def TesIn (A:Option Addr) (n:Nat) (l:List Te) (w:World):Prop:=SlR 4 A n (ZC l) w∧∀ x∈l,YA x w
theorem TesIn.len {w:World} {A:Option Addr} {n:Nat} {l:List Te} (h:TesIn A n l w):l.length=n:=by
 have:=(show Rd w w.heap.size 4 A n (ZC l) from h.1).1
 rw [JH] at this
 omega
theorem TesIn.at_ {w:World} {A:Option Addr} {n:Nat} {l:List Te} (h:TesIn A n l w) {k:Nat} {x:Te} (hx:l[k]? =some x):
  ∃ b o,A=some ⟨b,o,none⟩∧b<w.heap.size∧w.cell? ⟨b,o+k * 4,none⟩=some (.string x.nm)∧w.cell? ⟨b,o+k * 4+1,none⟩=some (.slice x.A x.n x.c)∧w.cell? ⟨b,o+k * 4+2,none⟩=some (.int .i64 x.nx)∧w.cell? ⟨b,o+k * 4+3,none⟩=some (.slice x.B x.m x.d)∧YA x w:=by
 have hk:k<n:=by rw [←h.len];exact (Kc.1 hx).1
 obtain ⟨b,o,e,hb,hc⟩:=(show Rd w w.heap.size 4 A n (ZC l) from h.1).2 (by omega)
 exact ⟨b,o,e,hb,hc _ _ (flat_get Te.cells 4 (fun _=>rfl) l k 0 x (by omega) hx),hc _ _ (flat_get Te.cells 4 (fun _=>rfl) l k 1 x (by omega) hx),hc _ _ (flat_get Te.cells 4 (fun _=>rfl) l k 2 x (by omega) hx),hc _ _ (flat_get Te.cells 4 (fun _=>rfl) l k 3 x (by omega) hx),h.2 x (Ka hx)⟩
theorem Zck (l:List Te):∀ u∈ZC l,u.oneCell' =true:=fun u hu=>by
 unfold ZC at hu
 rw [List.mem_flatMap] at hu
 obtain ⟨x,_,hx⟩:=hu
 simp only [Te.cells,List.mem_cons,List.not_mem_nil,or_false] at hx
 rcases hx with rfl|rfl|rfl|rfl<;>rfl
theorem ZlQ {w:World} {M:Nat→Prop} {g:Nat} {t:TypeId} {cs:Array Value} {l:List Te} (h:Ro w M (fun w=>w.heap[g]? =some (.cells cs t (0,0)))) (hl:cs.toList=ZC l) (hr:∀ x∈l,Ro w M (YA x)):Ro w M (TesIn (some ⟨g,0,none⟩) l.length l):=by
 have h1:Ro w M (SlR 4 (some ⟨g,0,none⟩) l.length cs.toList):=ZO h (by rw [hl,JH])
 rw [hl] at h1
 exact h1.and fun w2 a b x hx=>hr x hx w2 a b
structure Itm where
 tr:ByteArray
 row:Int
 oA:Option Addr
 on:Nat
 oc:Nat
 nA:Option Addr
 nn:Nat
 nc:Nat
def Itm.cells (x:Itm):List Value:=[.string x.tr,.int .i64 x.row,.slice x.oA x.on x.oc,.slice x.nA x.nn x.nc]
def Yd (l:List Itm):List Value:=l.flatMap Itm.cells
theorem ZbQ (l:List Itm):(Yd l).length=l.length * 4:=YL _ 4 (fun _=>rfl) l
theorem Jb (l:List Itm) (x:Itm):Yd (l++[x])=Yd l++x.cells:=by simp [Yd]
abbrev Sh:=ByteArray × Int × Nat × Nat
def Itm.sh (x:Itm):Sh:=(x.tr,x.row,x.on,x.nn)
def Vv (nm:ByteArray) (r:Row):Sh:=(nm,r.1,0,r.2.length)
def Uw (nm:ByteArray) (r:Row):Sh:=(nm,r.1,r.2.length,0)
def Jw (nm:ByteArray) (p:Upd):Sh:=(nm,p.1,p.2.1.length,p.2.2.length)
theorem JO {A:Option Addr} {n:Nat} {l:List Vl} {w:World} (h:VlsIn A n l w):l.length=n:=by
 have:=(show Rd w w.heap.size 3 A n (ZH l) from h).1
 rw [zU] at this
 omega
theorem GY {α β γ:Type} {f:α→γ} {g:β→γ} {l:List α} {k:List β} {p:List γ} {j:Nat} {x:α} {y:β} (h:k.map g=p++(l.take j).map f) (hx:l[j]? =some x) (hy:g y=f x):(k++[y]).map g=p++(l.take (j+1)).map f:=by
 obtain ⟨hl,e⟩:=Kc.1 hx
 rw [List.take_succ_eq_append_getElem hl,Km,Km,h,e]
 simp [hy]
def Zai (w:World) (M:Nat→Prop) (s:List Sh) (e:Ending) (w' :World):Prop:=∃ (A:Option Addr) (n c:Nat) (l:List Itm),e=.returned (.slice A n c)∧l.map Itm.sh=s∧(n≤c∧c≤9223372036854775807)∧Ro w' M (SlR 4 A n (Yd l))∧Below w.heap.size w w'
theorem Tryz.WK:ElemT Tryz.prog 108 157 4 72 (.agg #[.string ⟨#[]⟩,.int .i64 0,.slice none 0 0,.slice none 0 0]):=⟨Tryz.underlying108,by kernel_rfl,rfl,by omega⟩
theorem ZgS (M:Nat→Prop) (w:World) (hM:∀ b,M b→b<w.heap.size) (t:Tg) (dn:ByteArray) (I:Option Addr) (ni ci:Nat) (li:List Rw) (D:Option Addr) (nd cd:Nat) (ld:List Rw) (U:Option Addr) (nu cu:Nat) (lu:List Pr) (hI:Ro w M (RwsIn I ni li)) (hD:Ro w M (RwsIn D nd ld)) (hU:Ro w M (PrsIn U nu lu)) (h1:ni≤1000000) (h2:nd≤1000000) (h3:nu≤1000000):Calls Tryz.prog 80 #[t.val,.agg #[.string dn,.slice I ni ci,.slice D nd cd,.slice U nu cu]] w fun e w' =>Zai w M (li.map (Vv t.name ∘ Rw.row)++ld.map (Uw t.name ∘ Rw.row)++lu.map (Jw t.name ∘ Pr.upd)) e w' :=by
 obtain ⟨tn,tt,tb,te,⟨oA,on,oc,ol⟩,tch,⟨pA,pn,pc,pl⟩,⟨qA,qn,qc,ql⟩,⟨rA,rn,rc,rl⟩,⟨kA,kn,kc,kl⟩,⟨aA,an,ac,al⟩⟩:=t
 have HL0:=hid (show li.length=ni from hI.now.len)
 have HL1:=hid (show ld.length=nd from hD.now.len)
 have HL2:=hid (show lu.length=nu from hU.now.len)
 have KS:=((((((Hold.start M w hM).add (hU.less (by simp [Mut]))).add (hD.less (by simp [Mut,Hp.foot]))).add (hI.less (by simp [Mut,Hp.foot]))).Za #[.string tn,.string tt,.bool tb,.int .i64 te,.slice oA on oc,.bool tch,.slice pA pn pc,.slice qA qn qc,.slice rA rn rc,.slice kA kn kc,.slice aA an ac] 48).Za #[.string dn,.slice I ni ci,.slice D nd cd,.slice U nu cu] 103).nil 157 4
 rw [KP] at KS
 obtain ⟨gt,hgt⟩:∃ g,g=w.heap.size:=⟨_,rfl⟩
 rw [←hgt] at KS
 obtain ⟨gd,hgd⟩:∃ g,g=gt+1:=⟨_,rfl⟩
 rw [←hgd] at KS
 clear hI hD hU
 simp only [Tg.val]
 go_enter Tryz.func80,Tryz.ntmps80
 go_upto_region 1 with fail
 rw [←hgt]
 try rw [←hgd]
 have HG:=hid (KJ hgt hgd)
 clear hgt hgd
 generalize World.alloc _ _=w1 at KS ⊢
 obtain ⟨O0,hO0⟩:∃ O:Option Addr,O=none:=⟨_,rfl⟩
 have K0:Hold M none w w1 [.own 157 4 (.slice none 0 0) 0 (Yd []),.cst gd 103 #[.string dn,.slice I ni ci,.slice D nd cd,.slice U nu cu],.cst gt 48 #[.string tn,.string tt,.bool tb,.int .i64 te,.slice oA on oc,.bool tch,.slice pA pn pc,.slice qA qn qc,.slice rA rn rc,.slice kA kn kc,.slice aA an ac],.ro (RwsIn I ni li),.ro (RwsIn D nd ld),.ro (PrsIn U nu lu)]:=KS
 clear KS hO0
 have F0:=K0.facts
 simp only [zg] at F0
 go_wp2_with fail
 clear F0
 go_loopw [5,15] (fun ov iv wr=>∃ (j cap:Nat) (O:Option Addr) (outs:List Itm),j≤ni∧iv=.int .i64 j∧ov=.slice O (j) cap∧Hid (outs.map Itm.sh=[]++(li.take j).map (Vv tn ∘ Rw.row))∧Hold M none w wr [.own 157 4 (.slice O (j) cap) (j) (Yd outs),.cst gd 103 #[.string dn,.slice I ni ci,.slice D nd cd,.slice U nu cu],.cst gt 48 #[.string tn,.string tt,.bool tb,.int .i64 te,.slice oA on oc,.bool tch,.slice pA pn pc,.slice qA qn qc,.slice rA rn rc,.slice kA kn kc,.slice aA an ac],.ro (RwsIn I ni li),.ro (RwsIn D nd ld),.ro (PrsIn U nu lu)]) (fun _ iv _=>ni - (intOf iv).toNat)
 case atStart=>exact ⟨0,0,none,[],by omega,rfl,rfl,hid rfl,K0⟩
 case round=>
  clear K0
  obtain ⟨j,cap,O,outs,hj,rfl,rfl,HO,H⟩:=hrel
  by_cases hlt:j<ni
  ·obtain ⟨x,hx⟩:=Zl HL0.out hlt
   obtain ⟨b,o,rfl,hb,c0,c1,hv⟩:=(H.ro 3 rfl).now.at_ hx
   have hxn:x.n=x.vs.length:=(JO hv).symm
   have HXN:=hid hxn
   have HX:=hid hx
   clear hx hxn hv
   have K1:=H.Za #[.int .i64 x.id,.slice x.A x.n x.c] 72
   have F1:=K1.facts
   simp only [zg] at F1
   clear H
   go_wp2_with (at_builtin;go_must (refine ZJ K1 1 rfl Tryz.WK #[.string tn,.int .i64 x.id,.slice none 0 0,.slice x.A x.n x.c] rfl (.tmp 19) (.tmp 27) rfl rfl (wr.heap.size+1) (by first|rfl|simp) rfl rfl (by intro u hu;simp at hu;rcases hu with rfl|rfl|rfl|rfl<;>rfl) (by omega) (by omega) ?_);intro gA capA wA hcA hmA KA;simp only [zl] at KA)
   rw [show Yd outs++(#[.string tn,.int .i64 x.id,.slice none 0 0,.slice x.A x.n x.c]:Array Value).toList=Yd (outs++[⟨tn,x.id,none,0,0,x.A,x.n,x.c⟩]) from (Jb outs ⟨tn,x.id,none,0,0,x.A,x.n,x.c⟩).symm] at KA
   have KB:=KA.drop (Kb _ _)
   go_roundw
   case rel=>exact ⟨j+1,capA,_,outs++[⟨tn,x.id,none,0,0,x.A,x.n,x.c⟩],by omega,by go_num,by first|rfl|trivial,hid (GY HO.out HX.out (by simp only [Function.comp,Itm.sh,Rw.row,Vv];rw [HXN.out])),KB⟩
   case measure=>simp [intOf];omega
  ·obtain rfl:ni=j:=by omega
   have F4:=H.facts
   simp only [zg] at F4
   go_wp2_with fail
   clear F4
   have HE0:=hid (show outs.map Itm.sh=li.map (Vv tn ∘ Rw.row) from by
    rw [HO.out,Kh (by rw [HL0.out];exact Kg _)]<;>simp only [List.nil_append,List.append_assoc])
   clear HO
   go_loopw [5,33] (fun ov iv wr=>∃ (j cap:Nat) (O:Option Addr) (outs:List Itm),j≤nd∧iv=.int .i64 j∧ov=.slice O (ni+j) cap∧Hid (outs.map Itm.sh=li.map (Vv tn ∘ Rw.row)++(ld.take j).map (Uw tn ∘ Rw.row))∧Hold M none w wr [.own 157 4 (.slice O (ni+j) cap) (ni+j) (Yd outs),.cst gd 103 #[.string dn,.slice I ni ci,.slice D nd cd,.slice U nu cu],.cst gt 48 #[.string tn,.string tt,.bool tb,.int .i64 te,.slice oA on oc,.bool tch,.slice pA pn pc,.slice qA qn qc,.slice rA rn rc,.slice kA kn kc,.slice aA an ac],.ro (RwsIn I ni li),.ro (RwsIn D nd ld),.ro (PrsIn U nu lu)]) (fun _ iv _=>nd - (intOf iv).toNat)
   case atStart=>exact ⟨0,cap,O,outs,by omega,rfl,rfl,hid (by rw [HE0.out];simp),H⟩
   case round=>
    clear H HE0
    obtain ⟨j,cap,O,outs,hj,rfl,rfl,HO,H⟩:=hrel
    by_cases hlt:j<nd
    ·obtain ⟨x,hx⟩:=Zl HL1.out hlt
     obtain ⟨b,o,rfl,hb,c0,c1,hv⟩:=(H.ro 4 rfl).now.at_ hx
     have hxn:x.n=x.vs.length:=(JO hv).symm
     have HXN:=hid hxn
     have HX:=hid hx
     clear hx hxn hv
     have K1:=H.Za #[.int .i64 x.id,.slice x.A x.n x.c] 72
     have F1:=K1.facts
     simp only [zg] at F1
     clear H
     go_wp2_with (at_builtin;go_must (refine ZJ K1 1 rfl Tryz.WK #[.string tn,.int .i64 x.id,.slice x.A x.n x.c,.slice none 0 0] rfl (.tmp 37) (.tmp 45) rfl rfl (wr.heap.size+1) (by first|rfl|simp) rfl rfl (by intro u hu;simp at hu;rcases hu with rfl|rfl|rfl|rfl<;>rfl) (by omega) (by omega) ?_);intro gA capA wA hcA hmA KA;simp only [zl] at KA)
     rw [show Yd outs++(#[.string tn,.int .i64 x.id,.slice x.A x.n x.c,.slice none 0 0]:Array Value).toList=Yd (outs++[⟨tn,x.id,x.A,x.n,x.c,none,0,0⟩]) from (Jb outs ⟨tn,x.id,x.A,x.n,x.c,none,0,0⟩).symm] at KA
     have KB:=KA.drop (Kb _ _)
     go_roundw
     case rel=>exact ⟨j+1,capA,_,outs++[⟨tn,x.id,x.A,x.n,x.c,none,0,0⟩],by omega,by go_num,by first|rfl|trivial,hid (GY HO.out HX.out (by simp only [Function.comp,Itm.sh,Rw.row,Uw];rw [HXN.out])),KB⟩
     case measure=>simp [intOf];omega
    ·obtain rfl:nd=j:=by omega
     have F4:=H.facts
     simp only [zg] at F4
     go_wp2_with fail
     clear F4
     have HE1:=hid (show outs.map Itm.sh=li.map (Vv tn ∘ Rw.row)++ld.map (Uw tn ∘ Rw.row) from by
      rw [HO.out,Kh (by rw [HL1.out];exact Kg _)]<;>simp only [List.nil_append,List.append_assoc])
     clear HO
     go_loopw [5,51] (fun ov iv wr=>∃ (j cap:Nat) (O:Option Addr) (outs:List Itm),j≤nu∧iv=.int .i64 j∧ov=.slice O (ni+nd+j) cap∧Hid (outs.map Itm.sh=li.map (Vv tn ∘ Rw.row)++ld.map (Uw tn ∘ Rw.row)++(lu.take j).map (Jw tn ∘ Pr.upd))∧Hold M none w wr [.own 157 4 (.slice O (ni+nd+j) cap) (ni+nd+j) (Yd outs),.cst gd 103 #[.string dn,.slice I ni ci,.slice D nd cd,.slice U nu cu],.cst gt 48 #[.string tn,.string tt,.bool tb,.int .i64 te,.slice oA on oc,.bool tch,.slice pA pn pc,.slice qA qn qc,.slice rA rn rc,.slice kA kn kc,.slice aA an ac],.ro (RwsIn I ni li),.ro (RwsIn D nd ld),.ro (PrsIn U nu lu)]) (fun _ iv _=>nu - (intOf iv).toNat)
     case atStart=>exact ⟨0,cap,O,outs,by omega,rfl,rfl,hid (by rw [HE1.out];simp),H⟩
     case round=>
      clear H HE1
      obtain ⟨j,cap,O,outs,hj,rfl,rfl,HO,H⟩:=hrel
      by_cases hlt:j<nu
      ·obtain ⟨x,hx⟩:=Zl HL2.out hlt
       obtain ⟨b,o,rfl,hb,c0,c1,c2,hv,hv2⟩:=(H.ro 5 rfl).now.at_ hx
       have hxn:x.on=x.old.length∧x.nn=x.new.length:=⟨(JO hv).symm,(JO hv2).symm⟩
       have HXN:=hid hxn
       have HX:=hid hx
       clear hx hxn hv hv2
       have K1:=H.Za #[.int .i64 x.id,.slice x.oA x.on x.oc,.slice x.nA x.nn x.nc] 136
       have F1:=K1.facts
       simp only [zg] at F1
       clear H
       go_wp2_with (at_builtin;go_must (refine ZJ K1 1 rfl Tryz.WK #[.string tn,.int .i64 x.id,.slice x.oA x.on x.oc,.slice x.nA x.nn x.nc] rfl (.tmp 55) (.tmp 65) rfl rfl (wr.heap.size+1) (by first|rfl|simp) rfl rfl (by intro u hu;simp at hu;rcases hu with rfl|rfl|rfl|rfl<;>rfl) (by omega) (by omega) ?_);intro gA capA wA hcA hmA KA;simp only [zl] at KA)
       rw [show Yd outs++(#[.string tn,.int .i64 x.id,.slice x.oA x.on x.oc,.slice x.nA x.nn x.nc]:Array Value).toList=Yd (outs++[⟨tn,x.id,x.oA,x.on,x.oc,x.nA,x.nn,x.nc⟩]) from (Jb outs ⟨tn,x.id,x.oA,x.on,x.oc,x.nA,x.nn,x.nc⟩).symm] at KA
       have KB:=KA.drop (Kb _ _)
       go_roundw
       case rel=>exact ⟨j+1,capA,_,outs++[⟨tn,x.id,x.oA,x.on,x.oc,x.nA,x.nn,x.nc⟩],by omega,by go_num,by first|rfl|trivial,hid (GY HO.out HX.out (by simp only [Function.comp,Itm.sh,Pr.upd,Jw];rw [HXN.out.1,HXN.out.2])),KB⟩
       case measure=>simp [intOf];omega
      ·obtain rfl:nu=j:=by omega
       have hcap:=ZM (H.get 0 rfl)
       have KZ:=H.Zq 0 rfl
       simp only [List.set_cons_zero] at KZ
       have HR:=hid ((KZ.ro 0 rfl).less zm)
       have HB:=hid KZ.below
       clear KZ H
       go_wp2_with fail
       go_ret
       exact ⟨O,ni+nd+nu,cap,outs,rfl,by
        rw [HO.out,Kh (by rw [HL2.out];exact Kg _)]
        simp only [List.append_assoc],⟨hcap.1,hcap.2.1⟩,HR.out,HB.out⟩
theorem ZfD (l:List Col) (n:ByteArray) (t:Int):Zf l++(#[.string n,.int .i64 t,.bool false,.bool false]:Array Value).toList=Zf (l++[⟨n,t,false,false⟩]):=by simp [Zf,Col.cells]
def Y0 (i:Nat) (u:Upd):Bool:=match u.2.1[i]?,u.2.2[i]? with
 | some a,some b=>decide (a≠b)
 | _,_=>false
theorem ZaY {i:Nat} {u:Upd} (h:u.2.1.length≤i):Y0 i u=false:=by unfold Y0;rw [List.getElem?_eq_none h]
theorem ZaZ {i:Nat} {u:Upd} (h:u.2.2.length≤i):Y0 i u=false:=by
 unfold Y0;rw [List.getElem?_eq_none h]
 split<;>simp_all
theorem ZaX {i:Nat} {u:Upd} {a b:Vl} (h1:u.2.1[i]? =some a) (h2:u.2.2[i]? =some b):Y0 i u=decide (a≠b):=by unfold Y0;rw [h1,h2]
def Yz (l:List ByteArray):List Value:=l.map Value.string
def StrsTx (A:Option Addr) (n:Nat) (l:List ByteArray):World→Prop:=SlR 1 A n (Yz l)
theorem StrsTx.len {w:World} {A:Option Addr} {n:Nat} {l:List ByteArray} (h:StrsTx A n l w):l.length=n:=by
 have:=(show Rd w w.heap.size 1 A n (Yz l) from h).1
 rw [Yz,Kj] at this
 omega
theorem StrsTx.at_ {w:World} {A:Option Addr} {n:Nat} {l:List ByteArray} (h:StrsTx A n l w) {k:Nat} {x:ByteArray} (hx:l[k]? =some x):∃ b o,A=some ⟨b,o,none⟩∧b<w.heap.size∧w.cell? ⟨b,o+k,none⟩=some (.string x):=by
 have hk:k<n:=by rw [←h.len];exact (Kc.1 hx).1
 obtain ⟨b,o,e,hb,hc⟩:=(show Rd w w.heap.size 1 A n (Yz l) from h).2 (by omega)
 exact ⟨b,o,e,hb,hc k _ (by rw [Yz,KQ,hx];rfl)⟩
theorem ZjU (M:Nat→Prop) (w:World) (hM:∀ b,M b→b<w.heap.size) (x:Pr) (k:Nat) (h1:Ro w M (VlsIn x.oA x.on x.old)) (h2:Ro w M (VlsIn x.nA x.nn x.new)):
  Calls Tryz.prog 101 #[.agg #[.int .i64 x.id,.slice x.oA x.on x.oc,.slice x.nA x.nn x.nc],.int .i64 k] w fun e w' =>e=.returned (.bool (Y0 k x.upd))∧Below w.heap.size w w' :=by
 obtain ⟨xid,xA,xn,xc,xo,yA,yn,yc,yo⟩:=x
 dsimp only [Pr.upd] at *
 have K0:=((Hold.start M w hM).add (h2.less (by simp [Mut]))).add (h1.less (by simp [Mut,Hp.foot]))|>.Za #[.int .i64 xid,.slice xA xn xc,.slice yA yn yc] 136
 have F0:=K0.facts
 simp only [zg] at F0
 clear h1 h2
 have k0:(0:Int)≤(k:Int):=by omega
 go_enter Tryz.func101,Tryz.ntmps101
 go_wp2_with fail
 obtain ⟨gx,hgx⟩:∃ gx,gx=w.heap.size:=⟨_,rfl⟩
 rw [←hgx] at K0 F0 ⊢
 clear hgx
 generalize w.alloc _=w3 at K0 F0 ⊢
 have hv1:VlsIn xA xn xo w3:=(K0.ro 1 rfl).now
 have hv2:VlsIn yA yn yo w3:=(K0.ro 2 rfl).now
 by_cases hk1:k<xn
 ·have e1:decide ((k:Int)<(xn:Int))=true:=by simp;omega
  have e1' :decide (k<xn)=true:=by simp;omega
  have j1:(k:Int)<(xn:Int):=by omega
  by_cases hk2:k<yn
  ·have e2:decide ((k:Int)<(yn:Int))=true:=by simp;omega
   have e2' :decide (k<yn)=true:=by simp;omega
   have j2:(k:Int)<(yn:Int):=by omega
   obtain ⟨a,ha⟩:=Zl hv1.len hk1
   obtain ⟨b,hb⟩:=Zl hv2.len hk2
   obtain ⟨ga,oa,rfl,hga,a0,a1,a2⟩:=hv1.at_ ha
   obtain ⟨gb,ob,rfl,hgb,b0,b1,b2⟩:=hv2.at_ hb
   have HAB:=hid (show Y0 k (xid,xo,yo)=decide (a≠b) from ZaX ha hb)
   clear ha hb hv1 hv2
   by_cases h0:a.k=b.k
   ·have q0:(a.k==b.k)=true:=by simp [h0]
    have q0' :(a.k !=b.k)=false:=by simp [h0]
    by_cases h1:a.i=b.i
    ·have q1:(a.i==b.i)=true:=by simp [h1]
     by_cases h2:a.s=b.s
     ·have q2:(a.s.toList==b.s.toList)=true:=by simp [h2]
      have HD:=hid (show Y0 k (xid,xo,yo)=false by rw [HAB.out];simpa using zV h0 h1 h2)
      clear h0 h1 h2 hk1 hk2
      go_quiet (fail)
      go_wp2_with fail
      go_ret
      exact ⟨by rw [HD.out]<;>rfl,(K0.drewN nq).below⟩
     ·have q2:(a.s.toList==b.s.toList)=false:=by rw [beq_eq_false_iff_ne];exact fun h=>h2 (Yc h)
      have HD:=hid (show Y0 k (xid,xo,yo)=true by rw [HAB.out];simpa using fun h=>h2 (by rw [h]))
      clear h0 h1 h2 hk1 hk2
      go_quiet (fail)
      go_wp2_with fail
      go_ret
      exact ⟨by rw [HD.out]<;>rfl,(K0.drewN nq).below⟩
    ·have q1:(a.i==b.i)=false:=by simpa using h1
     have HD:=hid (show Y0 k (xid,xo,yo)=true by rw [HAB.out];simpa using fun h=>h1 (by rw [h]))
     clear h0 h1 hk1 hk2
     go_quiet (fail)
     go_wp2_with fail
     go_ret
     exact ⟨by rw [HD.out]<;>rfl,(K0.drewN nq).below⟩
   ·have q0:(a.k==b.k)=false:=by simpa using h0
    have HD:=hid (show Y0 k (xid,xo,yo)=true by rw [HAB.out];simpa using fun h=>h0 (by rw [h]))
    clear h0 hk1 hk2
    go_quiet (fail)
    go_wp2_with fail
    go_ret
    exact ⟨by rw [HD.out]<;>rfl,(K0.drewN nq).below⟩
  ·have e2:decide ((k:Int)<(yn:Int))=false:=by simp;omega
   have e2' :decide (k<yn)=false:=by simp;omega
   have HD:=hid (show Y0 k (xid,xo,yo)=false from ZaZ (by have:=hv2.len;dsimp only;omega))
   clear hk1 hk2 hv1 hv2
   go_quiet (fail)
   go_wp2_with fail
   go_ret
   exact ⟨by rw [HD.out]<;>rfl,(K0.drewN nq).below⟩
 ·have e1:decide ((k:Int)<(xn:Int))=false:=by simp;omega
  have e1' :decide (k<xn)=false:=by simp;omega
  have HD:=hid (show Y0 k (xid,xo,yo)=false from ZaY (by have:=hv1.len;dsimp only;omega))
  clear hk1 hv1 hv2
  go_quiet (fail)
  go_wp2_with fail
  go_ret
  exact ⟨by rw [HD.out]<;>rfl,(K0.drewN nq).below⟩
def Z6 (cl:List Col) (s:ByteArray) (u:Upd):Bool:=if 0≤Ze (named s) cl then Y0 (Ze (named s) cl).toNat u else false
def UG (gs gp:Nat) (snm:ByteArray) (cA:Option Addr) (cn cc:Nat) (cl:List Col) (p:Pr) (w:World):Prop:=w.heap[gs]? =some (.cells #[.string snm,.slice cA cn cc] 66 (0,0))∧w.heap[gp]? =some (.cells #[.int .i64 p.id,.slice p.oA p.on p.oc,.slice p.nA p.nn p.nc] 136 (0,0))∧SlR 4 cA cn (Zf cl) w∧VlsIn p.oA p.on p.old w∧VlsIn p.nA p.nn p.new w
theorem Zgb (w:World) (gs gp:Nat) (snm:ByteArray) (cA:Option Addr) (cn cc:Nat) (cl:List Col) (p:Pr) (s:ByteArray) (hx:Ro w Zc (UG gs gp snm cA cn cc cl p)) (hn:cn≤1000):Calls Tryz.prog 161 #[.string s,.pointer (some ⟨gs,0,none⟩),.pointer (some ⟨gp,0,none⟩)] w fun e w' =>e=.returned (.bool (Z6 cl s p.upd))∧Below w.heap.size w w' :=by
 obtain ⟨id,oA,on,oc,old,nA,nn,nc,new⟩:=p
 dsimp only [Pr.upd] at *
 have K0:=(Hold.start Zc w zn).add (hx.less (by simp [Mut]))
 clear hx
 obtain ⟨q1,q2,q3,hv1,hv2⟩:=(K0.ro 0 rfl).now
 have HQ1:=hid q1
 have HQ2:=hid q2
 have s0:=Li _ _ 0 _ _ _ q1
 have s1:=Li _ _ 1 _ _ _ q1
 clear q1 q2 q3
 go_enter Tryz.func161,Tryz.ntmps161
 go_wp2_with fail
 refine (Q5 (Mut Zc _) _ K0.Zb snm cA cn cc cl s ((K0.ro 0 rfl).imp fun w2 h2=>h2.2.2.1) (by omega)).mono ?_
 rintro e w2 ⟨rfl,b2⟩
 have KZ:=K0.call b2
 clear K0 hv1 hv2 s0 s1 HQ1 HQ2
 have K0:=KZ
 clear KZ b2
 obtain ⟨q1,q2,q3,hv1,hv2⟩:=(K0.ro 0 rfl).now
 dsimp only at q2 hv1 hv2
 have p0:=Li _ _ 0 _ _ _ q2
 have p1:=Li _ _ 1 _ _ _ q2
 have p2:=Li _ _ 2 _ _ _ q2
 clear q1 q2 q3
 obtain ⟨kf,hkf⟩:∃ z:Int,Ze (named s) cl=z:=⟨_,rfl⟩
 rw [hkf]
 have HKF:=hid hkf
 clear hkf
 go_upto_region 2 with fail
 by_cases hneg:kf<0
 ·have e0:decide ((0:Int)≤kf)=false:=by simp;omega
  have HD:=hid (show Z6 cl s (id,old,new)=false from by unfold Z6;rw [HKF.out,Lf (by omega)])
  clear hneg hv1 hv2
  go_quiet (fail)
  go_wp2_with fail
  go_ret
  exact ⟨by rw [HD.out]<;>rfl,(K0.drewN nq).below⟩
 ·obtain ⟨k,rfl⟩:∃ k:Nat,kf=(k:Int):=⟨kf.toNat,by omega⟩
  have HDC:=hid (show Z6 cl s (id,old,new)=Y0 k (id,old,new) from by unfold Z6;rw [HKF.out];simp)
  have k0:(0:Int)≤(k:Int):=by omega
  have k0' :decide ((0:Int)≤(k:Int))=true:=by simp
  clear hneg
  by_cases hk1:k<on
  ·have e1:decide ((k:Int)<(on:Int))=true:=by simp;omega
   have e1' :decide (k<on)=true:=by simp;omega
   have j1:(k:Int)<(on:Int):=by omega
   by_cases hk2:k<nn
   ·have e2:decide ((k:Int)<(nn:Int))=true:=by simp;omega
    have e2' :decide (k<nn)=true:=by simp;omega
    have j2:(k:Int)<(nn:Int):=by omega
    obtain ⟨a,ha⟩:=Zl hv1.len hk1
    obtain ⟨b,hb⟩:=Zl hv2.len hk2
    obtain ⟨ga,oa,rfl,hga,a0,a1,a2⟩:=hv1.at_ ha
    obtain ⟨gb,ob,rfl,hgb,b0,b1,b2⟩:=hv2.at_ hb
    have HAB:=hid (show Z6 cl s (id,old,new)=decide (a≠b) from (HDC.out).trans (ZaX ha hb))
    clear ha hb hv1 hv2 HDC
    by_cases h0:a.k=b.k
    ·have q0:(a.k==b.k)=true:=by simp [h0]
     have q0' :(a.k !=b.k)=false:=by simp [h0]
     by_cases h1:a.i=b.i
     ·have q1:(a.i==b.i)=true:=by simp [h1]
      by_cases h2:a.s=b.s
      ·have q2:(a.s.toList==b.s.toList)=true:=by simp [h2]
       have HD:=hid (show Z6 cl s (id,old,new)=false by rw [HAB.out];simpa using zV h0 h1 h2)
       clear h0 h1 h2 hk1 hk2
       go_quiet (fail)
       go_wp2_with fail
       go_ret
       exact ⟨by rw [HD.out]<;>rfl,(K0.drewN nq).below⟩
      ·have q2:(a.s.toList==b.s.toList)=false:=by rw [beq_eq_false_iff_ne];exact fun h=>h2 (Yc h)
       have HD:=hid (show Z6 cl s (id,old,new)=true by rw [HAB.out];simpa using fun h=>h2 (by rw [h]))
       clear h0 h1 h2 hk1 hk2
       go_quiet (fail)
       go_wp2_with fail
       go_ret
       exact ⟨by rw [HD.out]<;>rfl,(K0.drewN nq).below⟩
     ·have q1:(a.i==b.i)=false:=by simpa using h1
      have HD:=hid (show Z6 cl s (id,old,new)=true by rw [HAB.out];simpa using fun h=>h1 (by rw [h]))
      clear h0 h1 hk1 hk2
      go_quiet (fail)
      go_wp2_with fail
      go_ret
      exact ⟨by rw [HD.out]<;>rfl,(K0.drewN nq).below⟩
    ·have q0:(a.k==b.k)=false:=by simpa using h0
     have HD:=hid (show Z6 cl s (id,old,new)=true by rw [HAB.out];simpa using fun h=>h0 (by rw [h]))
     clear h0 hk1 hk2
     go_quiet (fail)
     go_wp2_with fail
     go_ret
     exact ⟨by rw [HD.out]<;>rfl,(K0.drewN nq).below⟩
   ·have e2:decide ((k:Int)<(nn:Int))=false:=by simp;omega
    have e2' :decide (k<nn)=false:=by simp;omega
    have HD:=hid (show Z6 cl s (id,old,new)=false from HDC.out.trans (ZaZ (by have:=hv2.len;dsimp only;omega)))
    clear hk1 hk2 hv1 hv2
    go_quiet (fail)
    go_wp2_with fail
    go_ret
    exact ⟨by rw [HD.out]<;>rfl,(K0.drewN nq).below⟩
  ·have e1:decide ((k:Int)<(on:Int))=false:=by simp;omega
   have e1' :decide (k<on)=false:=by simp;omega
   have HD:=hid (show Z6 cl s (id,old,new)=false from HDC.out.trans (ZaY (by have:=hv1.len;dsimp only;omega)))
   clear hk1 hv1 hv2
   go_quiet (fail)
   go_wp2_with fail
   go_ret
   exact ⟨by rw [HD.out]<;>rfl,(K0.drewN nq).below⟩
theorem Zga (w:World) (gs gp:Nat) (snm:ByteArray) (cA:Option Addr) (cn cc:Nat) (cl:List Col) (p:Pr) (A:Option Addr) (n c:Nat) (l:List ByteArray) (hx:Ro w Zc (UG gs gp snm cA cn cc cl p)) (hl:Ro w Zc (SlR 1 A n (Yz l))) (hn:cn≤1000) (hn2:n≤1000):Calls Tryz.prog 181 #[.slice A n c,.func (.func 161) #[] #[.pointer (some ⟨gs,0,none⟩),.pointer (some ⟨gp,0,none⟩)]] w fun e w' =>(∃ r:Int,e=.returned (.int .i64 r)∧decide (0≤r)=l.any fun s=>Z6 cl s p.upd)∧Below w.heap.size w w' :=by
 have HL:=hid (show l.length=n from StrsTx.len hl.now)
 have K0:=((Hold.start Zc w zn).add (hl.less (by simp [Mut]))).add (hx.less (by simp [Mut,Hp.foot]))
 clear hx hl
 go_enter Tryz.func181,Tryz.ntmps181
 go_wp2_with fail
 go_loopw [8] (fun iv wr=>∃ j:Nat,j≤n∧iv=.int .i64 j∧Hid (((l.take j).any fun s=>Z6 cl s p.upd)=false)∧Hold Zc none w wr [.ro (UG gs gp snm cA cn cc cl p),.ro (SlR 1 A n (Yz l))]) (fun iv _=>n - (intOf iv).toNat)
 case atStart=>exact ⟨0,by omega,rfl,hid rfl,K0⟩
 case round=>
  clear K0
  obtain ⟨j,hj,rfl,HP,H⟩:=hrel
  by_cases hlt:j<n
  ·have j0:(0:Int)≤(j:Int):=by omega
   have j1:(j:Int)<(n:Int):=by omega
   obtain ⟨x,hx⟩:=Zl HL.out hlt
   obtain ⟨b,o,rfl,hb,c0⟩:=StrsTx.at_ (H.ro 1 rfl).now hx
   have HX:=hid hx
   clear hx
   go_wp2_with fail
   refine (Zgb wr gs gp snm cA cn cc cl p x ((H.ro 0 rfl).less zn) hn).mono ?_
   rintro e w2 ⟨rfl,b2⟩
   have K1:=H.call b2
   clear H b2 c0
   obtain ⟨z,hz⟩:∃ z:Bool,Z6 cl x p.upd=z:=⟨_,rfl⟩
   rw [hz]
   have HZ:=hid hz
   clear hz
   cases z
   ·go_wp2_with fail
    go_roundw
    case rel=>exact ⟨j+1,by omega,by go_num,hid (by rw [Kq,HX.out,List.any_append,HP.out];simp [HZ.out]),K1⟩
    case measure=>simp [intOf];omega
   ·go_wp2_with fail
    go_ret
    exact ⟨⟨_,rfl,by rw [show (l.any fun s=>Z6 cl s p.upd)=true from List.any_eq_true.2 ⟨x,Ka HX.out,HZ.out⟩];simp⟩,K1.below⟩
  ·obtain rfl:n=j:=by omega
   go_wp2_with fail
   go_ret
   exact ⟨⟨_,rfl,by
    have h:=HP.out
    rw [Kh (by rw [HL.out];exact Kg _)] at h
    rw [h]
    rfl⟩,H.below⟩
theorem Zf9 (w:World) (gs gp:Nat) (snm:ByteArray) (cA:Option Addr) (cn cc:Nat) (cl:List Col) (p:Pr) (A:Option Addr) (n c:Nat) (l:List ByteArray) (hx:Ro w Zc (UG gs gp snm cA cn cc cl p)) (hl:Ro w Zc (SlR 1 A n (Yz l))) (hn:cn≤1000) (hn2:n≤1000):Calls Tryz.prog 154 #[.slice A n c,.func (.func 161) #[] #[.pointer (some ⟨gs,0,none⟩),.pointer (some ⟨gp,0,none⟩)]] w fun e w' =>e=.returned (.bool (l.any fun s=>Z6 cl s p.upd))∧Below w.heap.size w w' :=by
 go_enter Tryz.func154,Tryz.ntmps154
 go_wp2_with fail
 refine (Zga w gs gp snm cA cn cc cl p A n c l hx hl hn hn2).mono ?_
 rintro e w2 ⟨⟨r,rfl,hr⟩,b2⟩
 have HR:=hid hr
 clear hr
 go_wp2_with fail
 go_ret
 exact ⟨by rw [←HR.out]<;>rfl,b2⟩
theorem Zgc (w:World) (snm:ByteArray) (cA:Option Addr) (cn cc:Nat) (cl:List Col) (p:Pr) (A:Option Addr) (n c:Nat) (l:List ByteArray) (hC:Ro w Zc (SlR 4 cA cn (Zf cl))) (h1:Ro w Zc (VlsIn p.oA p.on p.old)) (h2:Ro w Zc (VlsIn p.nA p.nn p.new)) (hl:Ro w Zc (SlR 1 A n (Yz l))) (hn:cn≤1000) (hn2:n≤1000):Calls Tryz.prog 125 #[.agg #[.int .i64 p.id,.slice p.oA p.on p.oc,.slice p.nA p.nn p.nc],.slice A n c,.agg #[.string snm,.slice cA cn cc]] w fun e w' =>e=.returned (.bool (l.any fun s=>Z6 cl s p.upd))∧Below w.heap.size w w' :=by
 have K0:=((((((Hold.start Zc w zn).add (h2.less (by simp [Mut]))).add (h1.less (by simp [Mut,Hp.foot]))).add (hC.less (by simp [Mut,Hp.foot]))).add (hl.less (by simp [Mut,Hp.foot]))).Za #[.int .i64 p.id,.slice p.oA p.on p.oc,.slice p.nA p.nn p.nc] 136).Za #[.string snm,.slice cA cn cc] 66
 rw [KP] at K0
 clear hC h1 h2 hl
 have hD:Ro _ _ (UG (w.heap.size+1) w.heap.size snm cA cn cc cl p):=((K0.get 0 rfl).and ((K0.get 1 rfl).and ((K0.ro 3 rfl).and ((K0.ro 4 rfl).and (K0.ro 5 rfl))))).imp fun w2 h2=>h2
 go_enter Tryz.func125,Tryz.ntmps125
 go_wp2_with fail
 refine (Zf9 _ _ _ snm cA cn cc cl p A n c l (hD.less zn) ((K0.ro 2 rfl).less zn) hn hn2).mono ?_
 rintro e w2 ⟨rfl,b2⟩
 have HB:=hid (K0.call b2).below
 clear K0 b2 hD
 go_wp2_with fail
 go_ret
 exact ⟨rfl,HB.out⟩
structure El where
 nm:ByteArray
 I:Option Addr
 ni:Nat
 ci:Nat
 D:Option Addr
 nd:Nat
 cd:Nat
 U:Option Addr
 nu:Nat
 cu:Nat
 li:List Rw
 ld:List Rw
 lu:List Pr
def El.cells (x:El):List Value:=[.string x.nm,.slice x.I x.ni x.ci,.slice x.D x.nd x.cd,.slice x.U x.nu x.cu]
def El.val (x:El):Value:=.agg #[.string x.nm,.slice x.I x.ni x.ci,.slice x.D x.nd x.cd,.slice x.U x.nu x.cu]
def El.dl (x:El):Dl:=⟨x.nm,x.li.map Rw.row,x.ld.map Rw.row,x.lu.map Pr.upd⟩
def Wm (x:El) (w:World):Prop:=RwsIn x.I x.ni x.li w∧RwsIn x.D x.nd x.ld w∧PrsIn x.U x.nu x.lu w
structure El.good (x:El) (N K:Nat):Prop where
 i:x.ni≤N
 d:x.nd≤N
 u:x.nu≤N
 ci:x.ni≤x.ci∧x.ci≤9223372036854775807
 cd:x.nd≤x.cd∧x.cd≤9223372036854775807
 cu:x.nu≤x.cu∧x.cu≤9223372036854775807
 li:∀ r∈x.li,r.ok∧r.n≤K
 ld:∀ r∈x.ld,r.ok∧r.n≤K
 lu:∀ p∈x.lu,p.ok∧p.on≤K∧p.nn≤K
theorem Zgd {w:World} {M:Nat→Prop} {v:Value} {d:Dl} {N K:Nat} (h:J2 w M v d) (h1:d.ins.length≤N) (h2:d.del.length≤N) (h3:d.upd.length≤N) (h4:∀ r∈d.ins,r.2.length≤K) (h5:∀ r∈d.del,r.2.length≤K) (h6:∀ u∈d.upd,u.2.1.length≤K∧u.2.2.length≤K):
  ∃ x:El,v=x.val∧x.dl=d∧x.good N K∧Ro w M (Wm x):=by
 obtain ⟨I,ni,ci,D,nd,cd,U,nu,cu,li,ld,lu,rfl,q1,q2,q3,r1,r2,r3,o1,o2,o3,e1,e2,e3⟩:=h
 have l1:li.length=ni:=r1.now.len
 have l2:ld.length=nd:=r2.now.len
 have l3:lu.length=nu:=r3.now.len
 refine ⟨⟨d.nm,I,ni,ci,D,nd,cd,U,nu,cu,li,ld,lu⟩,rfl,by simp only [El.dl,e1,e2,e3],⟨?_,?_,?_,q1,q2,q3,fun r hr=>⟨o1 r hr,?_⟩,fun r hr=>⟨o2 r hr,?_⟩,fun p hp=>⟨o3 p hp,?_,?_⟩⟩,r1.and (r2.and r3)⟩
 ·have:=congrArg List.length e1;rw [Kj] at this;show ni≤N;omega
 ·have:=congrArg List.length e2;rw [Kj] at this;show nd≤N;omega
 ·have:=congrArg List.length e3;rw [Kj] at this;show nu≤N;omega
 ·have a:=h4 r.row (by rw [←e1];exact Ko hr)
  have b:r.vs.length=r.n:=(r1.now.2 r hr).len
  simp only [Rw.row] at a;omega
 ·have a:=h5 r.row (by rw [←e2];exact Ko hr)
  have b:r.vs.length=r.n:=(r2.now.2 r hr).len
  simp only [Rw.row] at a;omega
 ·have a:=h6 p.upd (by rw [←e3];exact Ko hp)
  have b:p.old.length=p.on:=(r3.now.2 p hp).1.len
  simp only [Pr.upd] at a;omega
 ·have a:=h6 p.upd (by rw [←e3];exact Ko hp)
  have b:p.new.length=p.nn:=(r3.now.2 p hp).2.len
  simp only [Pr.upd] at a;omega
def UK (cs:Array Value):Prop:=∀ x:Int,Value.int .i64 x ∉ cs.toList
theorem zX {w:World} {Q:Nat→Prop} {A:Option Addr} {n:Nat} {vs:List Vl} (h:Ro w Q (VlsIn A n vs)) {ga:Nat} {t:TypeId} {cs:Array Value} (hg:w.heap[ga]? =some (.cells cs t (0,0))) (hno:UK cs):Ro w (fun b=>b=ga∨Q b) (VlsIn A n vs):=by
 have hl:vs.length=n:=h.now.len
 exact Ro.UV h hg (by
  cases vs with
  | nil=>left;simpa using hl.symm
  | cons v l=>exact .inr ⟨.int .i64 v.k,rfl,hno _⟩)
theorem ZcY {w:World} {Q:Nat→Prop} {A:Option Addr} {n:Nat} {l:List Rw} (h:Ro w Q (RwsIn A n l)) {ga:Nat} {t:TypeId} {cs:Array Value} (hg:w.heap[ga]? =some (.cells cs t (0,0))) (hno:UK cs):Ro w (fun b=>b=ga∨Q b) (RwsIn A n l):=by
 have hl:=h.now.len
 have h1:Ro w Q (SlR 2 A n (Zp l)):=h.imp fun w2 h2=>h2.1
 have k1:=h1.UV hg (by
  cases l with
  | nil=>left;simpa using hl.symm
  | cons r l=>exact .inr ⟨.int .i64 r.id,rfl,hno _⟩)
 exact k1.and fun w2 g1 g2 r hr=>zX (h.imp fun w2 h2=>h2.2 r hr) hg hno w2 g1 g2
theorem Zjp {w:World} {Q:Nat→Prop} {A:Option Addr} {n:Nat} {l:List Pr} (h:Ro w Q (PrsIn A n l)) {ga:Nat} {t:TypeId} {cs:Array Value} (hg:w.heap[ga]? =some (.cells cs t (0,0))) (hno:UK cs):Ro w (fun b=>b=ga∨Q b) (PrsIn A n l):=by
 have hl:l.length=n:=h.now.len
 have h1:Ro w Q (SlR 3 A n (ZB l)):=h.imp fun w2 h2=>h2.1
 have k1:=h1.UV hg (by
  cases l with
  | nil=>left;simpa using hl.symm
  | cons r l=>exact .inr ⟨.int .i64 r.id,rfl,hno _⟩)
 exact k1.and fun w2 g1 g2 r hr=>⟨zX (h.imp fun w2 h2=>(h2.2 r hr).1) hg hno w2 g1 g2,zX (h.imp fun w2 h2=>(h2.2 r hr).2) hg hno w2 g1 g2⟩
theorem ZgL {w:World} {Q:Nat→Prop} {x:El} (h:Ro w Q (Wm x)) {ga:Nat} {t:TypeId} {cs:Array Value} (hg:w.heap[ga]? =some (.cells cs t (0,0))) (hno:UK cs):Ro w (fun b=>b=ga∨Q b) (Wm x):=
 (ZcY (h.imp fun w h=>h.1) hg hno).and ((ZcY (h.imp fun w h=>h.2.1) hg hno).and (Zjp (h.imp fun w h=>h.2.2) hg hno))
theorem ZiM:UK #[.string ⟨#[]⟩,.slice none 0 0,.slice none 0 0,.slice none 0 0]:=fun x h=>by simp at h
end
end Go.Proofs.YtnmnkbnmollpmaaGreatDoor

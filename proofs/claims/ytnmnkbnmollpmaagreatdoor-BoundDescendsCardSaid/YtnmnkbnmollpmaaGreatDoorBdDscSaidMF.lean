import Derived.Test.YtnmnkbnmollpmaaGreatDoorBdDscSaidMB
set_option linter.unusedVariables false
set_option linter.unusedSimpArgs false
set_option maxHeartbeats 64000000
set_option maxRecDepth 100000
namespace Go.Proofs.YtnmnkbnmollpmaaGreatDoor
section
open Go.RowKit Go.Maps
theorem Tryz.ZbW:laidOutB Tryz.prog=true:=by kernel_rfl
theorem Tryz.Zmg:Keyed Tryz.prog 30:=Keyed.of_law (deep_law_laid Tryz.ZbW (m:=8) (by omega) (of_decide_eq_true (by kernel_rfl)) (by kernel_rfl) (by kernel_rfl))
theorem wf_i64 {x:Int} (h:I64 x):(Lit.int .i64 x).wf=true:=by
 simp [Lit.wf,IntKind.min,IntKind.max,IntKind.signed,IntKind.bits]
 obtain ⟨h1,h2⟩:=h
 omega
theorem Zh1 (x:Vl) (h:x.ok):∃ kl,keyOf Tryz.prog 30 x.val=some kl:=
 ZhY Tryz.underlying30 (by kernel_rfl) (by kernel_rfl) (of_decide_eq_true (by kernel_rfl)) (by rfl) (by rfl) (by rfl) rfl rfl rfl Tryz.underlying3 Tryz.underlying2 Tryz.underlying9 (by kernel_rfl) (by kernel_rfl) (by kernel_rfl) (wf_i64 h.1) (wf_i64 h.2.1) h.2.2
def JM:KeyFam Tryz.prog 30 Vl where
 val:=Vl.val
 ok:=Vl.ok
 key:=Zh1
 inj:=fun x y h=>by
  cases x;cases y
  simp [Vl.val] at h
  obtain ⟨rfl,rfl,rfl⟩:=h
  rfl
theorem Tryz.zw:SetT Tryz.prog 194 30 4:=⟨Tryz.underlying194,Tryz.underlying4,fun w=>by kernel_rfl,Tryz.Zmg⟩
theorem Zgi {κ:Nat} {seen:List Vl} {l:List (List Vl)} {j:Nat} {r:List Vl} {v:Vl} (hr:l[j]? =some r) (hv:r[κ]? =some v) (hs:v∈seen):ZV κ seen (l.drop j)=true:=by
 rw [Yr hr,ZV,Lg (by omega),Int.toNat_natCast,hv];simp [hs]
theorem Zgj {κ:Nat} {seen:List Vl} {l:List (List Vl)} {j:Nat} {r:List Vl} {v:Vl} (hr:l[j]? =some r) (hv:r[κ]? =some v) (hs:v ∉ seen):ZV κ seen (l.drop j)=ZV κ (v::seen) (l.drop (j+1)):=by
 rw [Yr hr,ZV,Lg (by omega),Int.toNat_natCast,hv];simp [hs]
theorem Zgk {κ:Nat} {seen:List Vl} {l:List (List Vl)} {j:Nat} {r:List Vl} (hr:l[j]? =some r) (hv:r.length≤κ):ZV κ seen (l.drop j)=ZV κ seen (l.drop (j+1)):=by
 rw [Yr hr,ZV,Lg (by omega),Int.toNat_natCast,List.getElem?_eq_none hv]
theorem Zgh {κ:Int} {seen:List Vl} {l:List (List Vl)} {j:Nat} (h:l.length≤j):ZV κ seen (l.drop j)=false:=by rw [Ld h];rfl
theorem Za1 (cs:List Col) (l:List Rw):YH cs (l.map Rw.row)=ZV (Ze Col.key cs) [] (l.map Rw.vs):=by
 unfold YH;rw [List.map_map];rfl
theorem Zis (v:Vl) (seen:List Vl):(fun z=>z=v∨z∈seen)=(fun z=>z∈v::seen):=by funext z;simp
theorem ZcB (M:Nat→Prop) (w:World) (hM:∀ b,M b→b<w.heap.size) (nm:ByteArray) (A:Option Addr) (n c:Nat) (cs:List Col) (nx:Int) (B:Option Addr) (m d:Nat) (l:List Rw) (hD:Ro w M (SlR 4 A n (Zf cs))) (hE:Ro w M (RwsIn B m l)) (hn:n≤9223372036854775807) (hm:m≤4611686018427387904) (hok:∀ r∈l,r.ok):
  Calls Tryz.prog 56 #[.agg #[.string nm,.slice A n c,.int .i64 nx,.slice B m d]] w fun e w' =>e=.returned (.bool (YH cs (l.map Rw.row)))∧Below w.heap.size w w' :=by
 have HL:=hid hE.now.len
 have K0:=(((Hold.start M w hM).add (hE.less (by simp [Mut]))).add (hD.less (by simp [Mut,Hp.foot]))).Za #[.string nm,.slice A n c,.int .i64 nx,.slice B m d] 69
 have F0:=K0.facts
 simp only [zg] at F0
 have hmm:=@run_makeMap Tryz.prog
 clear hD hE
 go_enter Tryz.func56,Tryz.ntmps56
 go_wp2_with fail
 refine (Zki _ _ K0.Zb nm A n c cs (K0.ro 1 rfl) hn).mono ?_
 rintro e w1 ⟨rfl,b1⟩
 have K1:=K0.call b1
 clear K0 b1 F0
 have F1:=K1.facts
 simp only [zg] at F1
 by_cases hneg:Ze Col.key cs<0
 ·have hd:decide (Ze Col.key cs<0)=true:=by simpa using hneg
  have HB:=hid (show YH cs (l.map Rw.row)=false by rw [Za1];exact Gy hneg _ _)
  have hd0:decide (Ze Col.key cs≥0)=false:=by simpa using hneg
  generalize Ze Col.key cs=κ at *
  have KM:=Hold.Jg K1 4 JM
  obtain ⟨gm,hgm⟩:∃ gm,gm=w1.heap.size:=⟨_,rfl⟩
  rw [←hgm] at KM
  go_wp2_with fail
  rw [←hgm]
  clear hgm K1 F1
  go_loopw [14] (fun iv wr=>∃ (j:Nat),j≤m∧iv=.int .i64 j∧Hold M none w wr [.ob gm (MSet 4 JM gm 0 (fun _=>False)),.cst w.heap.size 69 #[.string nm,.slice A n c,.int .i64 nx,.slice B m d],.ro (SlR 4 A n (Zf cs)),.ro (RwsIn B m l)]) (fun iv _=>m - (intOf iv).toNat)
  case atStart=>exact ⟨0,by omega,rfl,KM⟩
  case round=>
   clear KM
   obtain ⟨j,hj,rfl,H⟩:=hrel
   by_cases hlt:j<m
   ·have hdd:decide ((j:Int)<(m:Int))=true:=by simp;omega
    have j0:(0:Int)≤(j:Int):=by omega
    obtain ⟨x,hx⟩:=Zl HL.out hlt
    obtain ⟨g,o,rfl,hgb,c0,c1,hvi⟩:=(H.ro 3 rfl).now.at_ hx
    have K2:=H.Za #[.int .i64 x.id,.slice x.A x.n x.c] 72
    clear hx
    go_wp2_with fail
    go_roundw
    case rel=>exact ⟨j+1,by omega,by go_num,K2.drop (Kb _ _)⟩
    case measure=>simp [intOf];omega
   ·obtain rfl:j=m:=by omega
    have hdd:decide ((j:Int)<(j:Int))=false:=by simp
    go_wp2_with fail
    go_ret
    exact ⟨by rw [HB.out]<;>rfl,H.below⟩
 ·have hd:decide (Ze Col.key cs<0)=false:=by simpa using hneg
  have HB0:=hid (Za1 cs l)
  obtain ⟨κ,hκ⟩:=Int.eq_ofNat_of_zero_le (show 0≤Ze Col.key cs by omega)
  rw [hκ] at HB0 hd ⊢
  clear hneg hκ
  have KM:=Hold.Jg K1 4 JM
  rw [show (fun _:Vl=>False)=(fun z=>z∈([]:List Vl)) by funext z;simp] at KM
  obtain ⟨gm,hgm⟩:∃ gm,gm=w1.heap.size:=⟨_,rfl⟩
  rw [←hgm] at KM
  have HGM:=hid hgm
  go_wp2_with fail
  rw [←hgm]
  clear hgm K1 F1
  go_loopw [14] (fun iv wr=>∃ (j q:Nat) (seen:List Vl),j≤m∧iv=.int .i64 j∧q≤j∧Hid (ZV κ [] (l.map Rw.vs)=ZV κ seen ((l.map Rw.vs).drop j))∧Hold M none w wr [.ob gm (MSet 4 JM gm q (fun z=>z∈seen)),.cst w.heap.size 69 #[.string nm,.slice A n c,.int .i64 nx,.slice B m d],.ro (SlR 4 A n (Zf cs)),.ro (RwsIn B m l)]) (fun iv _=>m - (intOf iv).toNat)
  case atStart=>exact ⟨0,0,[],by omega,rfl,by omega,hid rfl,KM⟩
  case round=>
   clear KM
   obtain ⟨j,q,seen,hj,rfl,hq,HS,H⟩:=hrel
   by_cases hlt:j<m
   ·have hdd:decide ((j:Int)<(m:Int))=true:=by simp;omega
    have j0:(0:Int)≤(j:Int):=by omega
    obtain ⟨x,hx⟩:=Zl HL.out hlt
    obtain ⟨g,o,rfl,hgb,c0,c1,hvi⟩:=(H.ro 3 rfl).now.at_ hx
    have hrok:=hok x (Ka hx)
    have HX:=hid (show (l.map Rw.vs)[j]? =some x.vs by simp [hx])
    have HVL:=hid (show x.vs.length=x.n from hvi.len)
    have K2:=H.Za #[.int .i64 x.id,.slice x.A x.n x.c] 72
    clear hx
    have hk0:decide ((κ:Int)≥0)=true:=by simp
    by_cases hkl:κ<x.n
    ·have hd2:decide ((κ:Int)≥(x.n:Int))=false:=by simp;omega
     have hd2' :decide ((κ:Int)<(x.n:Int))=true:=by simp;omega
     have k0:(0:Int)≤(κ:Int):=by omega
     have k1:(κ:Int)<(x.n:Int):=by omega
     obtain ⟨v,hv⟩:=Zl HVL.out hkl
     obtain ⟨gv,ov,hA,hgv,v0,v1,v2⟩:=hvi.at_ hv
     have hvok:=hrok.vs v (Ka hv)
     have HV:=hid hv;clear hv
     rw [hA] at K2 c1
     by_cases hin:v∈seen
     ·have HB:=hid (show YH cs (l.map Rw.row)=true by rw [HB0.out,HS.out,Zgi HX.out HV.out hin])
      have HIN:=hid hin;clear hin
      go_wp2_with (at_lookup;go_must (refine JX K2 1 rfl Tryz.zw rfl (.tmp 27) (.tmp 32) rfl rfl v rfl hvok ?_);intro cb hcb;obtain rfl:cb=true:=hcb.2 HIN.out;clear hcb)
      go_ret
      exact ⟨by rw [HB.out]<;>rfl,K2.below⟩
     ·have HS2:=hid (show ZV κ [] (l.map Rw.vs)=ZV κ (v::seen) ((l.map Rw.vs).drop (j+1)) by rw [HS.out,Zgj HX.out HV.out hin])
      have HIN:=hid hin;clear hin
      go_wp2_with (first
       | (at_lookup;go_must (refine JX K2 1 rfl Tryz.zw rfl (.tmp 27) (.tmp 32) rfl rfl v rfl hvok ?_);intro cb hcb;obtain rfl:cb=false:=(by cases cb;rfl;exact absurd (hcb.1 rfl) HIN.out);clear hcb)
       | (at_mapUpdate;go_must (refine JY K2 1 rfl Tryz.zw rfl (.tmp 34) (.tmp 39) _ rfl rfl v rfl rfl hvok (by unfold maxLen;omega) ?_);intro w5 K5))
      have K6:=K5.drop (Kb _ _)
      rw [Zis] at K6
      go_roundw
      case rel=>exact ⟨j+1,q+1,v::seen,by omega,by go_num,by omega,HS2,K6⟩
      case measure=>simp [intOf];omega
    ·have hd2:decide ((κ:Int)≥(x.n:Int))=true:=by simp;omega
     have hd2' :decide ((κ:Int)<(x.n:Int))=false:=by simp;omega
     have HS2:=hid (show ZV κ [] (l.map Rw.vs)=ZV κ seen ((l.map Rw.vs).drop (j+1)) by rw [HS.out,Zgk HX.out (by rw [HVL.out];omega)])
     go_wp2_with fail
     go_roundw
     case rel=>exact ⟨j+1,q,seen,by omega,by go_num,by omega,HS2,K2.drop (Kb _ _)⟩
     case measure=>simp [intOf];omega
   ·obtain rfl:j=m:=by omega
    have hdd:decide ((j:Int)<(j:Int))=false:=by simp
    have HB:=hid (show YH cs (l.map Rw.row)=false by rw [HB0.out,HS.out,Zgh (by rw [Kj,HL.out];exact Kg _)])
    go_wp2_with fail
    go_ret
    exact ⟨by rw [HB.out]<;>rfl,H.below⟩
end
section
open Go.RowKit
section
variable {P:Program} {M:Nat→Prop} {row:Option Nat} {w0 w1:World} {L:List Hp} {sp:SpW} {F:Act→Prop} {S0:Array Bool}
variable {ops:Array Oper} {o:Oper} {rest:List Oper} {a:Act} {k:Nat}
theorem YI (d:Tmp) (V:Value→World→Prop) (hS:S0.getD k false=false) (hw:Region.wanted o (yielded ops a.tmps)=true) (hd:o.dst=some d) (hsp:sp d=some V) (u:Value) (hrun:∀ w,Hold M row w0 w L→(execOp a.eval o).run P w=.ok (.value u) w)
  (hV:∀ w,Hold M row w0 w L→Yv ops (GW sp) o a w→V u w) (hn:Zz P ops (HC M row w0 w1 L) (GW sp) (RM (Mut M L)) S0 F (k+1) rest (a.put (some d) u)):Zz P ops (HC M row w0 w1 L) (GW sp) (RM (Mut M L)) S0 F k (o::rest) a:=
 ZcD (fun w _=>RM.refl _ w) hS hw u (fun w hC _=>hrun w hC.1) (fun w hC hD=>by rw [hd];exact (Zo hsp).2 (hV w hC.1 hD)) (by rw [hd];exact hn)
end
def Zx (M:Nat→Prop) (vs:List Vl) (u:Value) (w:World):Prop:=∃ (A:Option Addr) (n c:Nat),u=.slice A n c∧n=vs.length∧n≤c∧c≤9223372036854775807∧Ro w M (VlsIn A n vs)
def Z0 (M:Nat→Prop) (id:Int) (vs:List Vl) (u:Value) (w:World):Prop:=∃ (A:Option Addr) (n c:Nat),u=.agg #[.int .i64 id,.slice A n c]∧n=vs.length∧n≤c∧c≤9223372036854775807∧Ro w M (VlsIn A n vs)
def ZZ (M:Nat→Prop) (id:Int) (vs:List Vl) (u:Value) (w:World):Prop:=∃ (g:Nat) (A:Option Addr) (n c:Nat),u=.slice (some ⟨g,0,none⟩) 1 1∧n=vs.length∧n≤c∧c≤9223372036854775807∧Ro w M (VlsIn A n vs)∧Ro w M (SlR 2 (some ⟨g,0,none⟩) 1 [.int .i64 id,.slice A n c])
theorem XG {M:Nat→Prop} {vs:List Vl} (u:Value) (w w' :World) (hr:RM M w w') (h:Zx M vs u w):Zx M vs u w' :=by
 obtain ⟨A,n,c,h1,h2,h3,h4,h5⟩:=h
 exact ⟨A,n,c,h1,h2,h3,h4,hr.ro h5⟩
theorem WX {M:Nat→Prop} {id:Int} {vs:List Vl} (u:Value) (w w' :World) (hr:RM M w w') (h:Z0 M id vs u w):Z0 M id vs u w' :=by
 obtain ⟨A,n,c,h1,h2,h3,h4,h5⟩:=h
 exact ⟨A,n,c,h1,h2,h3,h4,hr.ro h5⟩
theorem WV {M:Nat→Prop} {id:Int} {vs:List Vl} (u:Value) (w w' :World) (hr:RM M w w') (h:ZZ M id vs u w):ZZ M id vs u w' :=by
 obtain ⟨g,A,n,c,h1,h2,h3,h4,h5,h6⟩:=h
 exact ⟨g,A,n,c,h1,h2,h3,h4,hr.ro h5,hr.ro h6⟩
theorem ZkS (l:List Rw) (x:Rw):Zp (l++[x])=Zp l++x.cells:=by simp [Zp]
theorem Wy (l:List Rw) (id:Int) (A:Option Addr) (n c:Nat) (vs:List Vl):Zp l++[.int .i64 id,.slice A n c]=Zp (l++[⟨id,A,n,c,vs⟩]):=by simp [Zp,Rw.cells]
theorem XF {M:Nat→Prop} {w:World} {rs:List Rw} {r:Rw} (h:Ro w M (Yl rs)) (k:Ro w M (VlsIn r.A r.n r.vs)):Ro w M (Yl (rs++[r])):=fun w2 h1 h2 x hx=>by
 rcases Kk.1 hx with hx|hx
 ·exact h w2 h1 h2 x hx
 ·simp at hx;subst hx;exact k w2 h1 h2
theorem Vu (w:World) (M:Nat→Prop):Ro w M (Yl []):=fun _ _ _ r hr=>nomatch hr
end
section
open Go.RowKit Go.Maps
theorem Hold.Zfh {M:Nat→Prop} {row:Option Nat} {w0 w w' :World} {L:List Hp} (K:Hold M row w0 w L) {b:Nat} {F:World→Prop} (hb:Below w.heap.size w w') (hg:w.heap.size≤b) (hl:b<w'.heap.size) (hF:∀ w2:World,w2.heap[b]? =w'.heap[b]? →F w2):Hold M row w0 w' (.ob b F::L):=by
 have h1:=K.call hb
 have ee:∀ x,x<w.heap.size→Mut M (.ob b F::L) x→Mut M L x:=fun x hx hm=>by
  rcases ZL.1 hm with hf|hm
  ·injection hf with hf;omega
  ·exact hm
 refine ⟨h1.grow,h1.low,fun k hk=>?_,fun k hk x hf=>?_,⟨fun x hf k hk he=>?_,K.sep⟩⟩
 ·rcases Kv.1 hk with rfl|hk
  ·exact hF
  ·exact Hp.Xi (k:=k) (K.sat k hk) hb.size (fun b hl _=>hb.block b hl) ee (fun b hf=>hb.block b (K.fresh k hk b hf).2)
    (fun T hT b hlt=>by
     have:=K.fresh k hk T (by subst hT;rfl)
     exact hb.block b (by omega))
 ·rcases Kv.1 hk with rfl|hk
  ·injection hf with hf;subst hf
   exact ⟨.inl (KI K.grow.size hg),hl⟩
  ·exact h1.fresh k hk x hf
 ·injection hf with hf;subst hf
  have h2:=(K.fresh k hk _ he).2
  omega
def Zep {P:Program} {k:TypeId} {κ:Type} (F:KeyFam P k κ) (S:κ→Prop) (D:DataW Unit):Prop:=
 (∀ x,F.ok x→∀ kl,keyOf P k (F.val x)=some kl→∃ c:Bool,D.atKey kl (.lit (.bool false))=.lit (.bool c)∧(c=true↔S x))∧∀ kl,Maps.has D kl=true→∃ x,F.ok x∧keyOf P k (F.val x)=some kl∧S x
def ZmC {P:Program} {k:TypeId} {κ:Type} (e:TypeId) (F:KeyFam P k κ) (b n:Nat) (S:κ→Prop) (w:World):Prop:=
 ∃ D:DataW Unit,w.ownsMap P k (plainElem P e) b n D∧Zep F S D
section
variable {P:Program} {t k e:TypeId} {κ:Type} {F:KeyFam P k κ} {b n:Nat} {S:κ→Prop} {w w' :World}
end
section
variable {P:Program} {M:Nat→Prop} {row:Option Nat} {w0 w:World} {L:List Hp} {t k e:TypeId} {κ:Type} {F:KeyFam P k κ} {b n:Nat} {S:κ→Prop}
def Rng (P:Program) (k e:TypeId) (O:Obj) (b r n:Nat) (D:DataW Unit) (left:Lit→Bool) (cnt:Nat) (w:World):Prop:=
 ∀ w2:World,w2.heap[b]? =some O→w2.heap[r]? =w.heap[r]? →w2.ranges P k (plainElem P e) b r n D left cnt
theorem Zcs {w w2:World} {b r n cnt:Nat} {D:DataW Unit} {left:Lit→Bool} (h:w.ranges P k (plainElem P e) b r n D left cnt) (hb:w2.heap[b]? =w.heap[b]?) (hr:w2.heap[r]? =w.heap[r]?):w2.ranges P k (plainElem P e) b r n D left cnt:=by
 obtain ⟨es,clock,since,seen,c0,h1,h2,h3,h4,h5,rest⟩:=h
 exact ⟨es,clock,since,seen,c0,hb.trans h1,h2,h3,h4,hr.trans h5,rest⟩
end
end
section
open Go.RowKit Go.Maps
structure IntT (P:Program) (t k e:TypeId):Prop where
 ht:P.underlying t=some (.map k e)
 he:P.underlying e=some (.int .i64)
 hz:∀ w:World,(zeroValue e).run P w=.ok (.int .i64 0) w
 law:Keyed P k
def QI {P:Program} {k:TypeId} {κ:Type} (F:KeyFam P k κ) (f:κ→Option Int) (D:DataW Unit):Prop:=
 (∀ x,F.ok x→∀ kl,keyOf P k (F.val x)=some kl→Maps.has D kl=(f x).isSome∧D.atKey kl (.lit (.int .i64 0))=.lit (.int .i64 ((f x).getD 0)))∧∀ kl,Maps.has D kl=true→∃ x,F.ok x∧keyOf P k (F.val x)=some kl∧(f x).isSome=true
def IMap {P:Program} {k:TypeId} {κ:Type} (e:TypeId) (F:KeyFam P k κ) (b n:Nat) (f:κ→Option Int) (w:World):Prop:=
 ∃ D:DataW Unit,w.ownsMap P k (plainElem P e) b n D∧QI F f D
section
variable {P:Program} {t k e:TypeId} {κ:Type} {F:KeyFam P k κ} {b n:Nat} {f:κ→Option Int} {w w' :World}
theorem IMap.stay (h:IMap e F b n f w) (hb:w'.heap[b]? =w.heap[b]?):IMap e F b n f w' :=by
 obtain ⟨D,⟨es,clock,h1,h2⟩,h3⟩:=h
 exact ⟨D,⟨es,clock,hb.trans h1,h2⟩,h3⟩
theorem IMap.made (e:TypeId) (F:KeyFam P k κ) (w:World) (h:w.heap[b]? =some (.map #[] 0)):IMap e F b 0 (fun _=>none) w:=by
 have h0:=World.ownsMap_made w P k (plainElem (H:=Unit) P e)
 obtain ⟨es,clock,h1,h2⟩:=h0
 have h3:(w.alloc (.map #[] 0)).heap[w.heap.size]? =some (.map #[] 0):=heap_alloc_new w _
 rw [h3] at h1
 injection h1 with h1
 injection h1 with h4 h5
 subst h4 h5
 exact ⟨.map [],⟨#[],0,h,h2⟩,fun x _ kl _=>⟨by simp [Maps.has],rfl⟩,fun kl h=>by simp [Maps.has] at h⟩
theorem IMap.put [DecidableEq κ] (T:IntT P t k e) (h:IMap e F b n f w) {x:κ} (hx:F.ok x) {v:Int} (hv:I64 v) (hn:n<maxLen):∃ w',(Instr.mapUpdate t (.map (some b)) (F.val x) (.int .i64 v)).run P w=.ok () w' ∧IMap e F b (n+1) (fun y=>if y=x then some v else f y) w' ∧w.grownBy w' (some b):=by
 obtain ⟨D,h1,h2,h7⟩:=h
 obtain ⟨kl,hk⟩:=F.key x hx
 obtain ⟨w',hrun,h3,h4⟩:=h1.update T.law T.ht hn hk (plainElem_int T.he (wf_i64 hv))
 refine ⟨w',hrun,⟨_,h3,fun y hy kl' hk' =>?_,fun kl' hh=>?_⟩,h4⟩
 ·by_cases hxy:y=x
  ·subst hxy
   rw [hk] at hk'
   injection hk' with hk'
   subst hk'
   have hD:IsMap D:=by
    obtain ⟨es,clock,_,_,_,rfl⟩:=h1
    exact ⟨_,rfl⟩
   show Maps.has (D.put kl (.lit (.int .i64 v))) kl=(if y=y then some v else f y).isSome∧(D.put kl (.lit (.int .i64 v))).atKey kl (.lit (.int .i64 0))=.lit (.int .i64 ((if y=y then some v else f y).getD 0))
   rw [Lg rfl,atKey_put_same hD (T.law.key hk),has_put_same hD (T.law.key hk)]
   exact ⟨rfl,rfl⟩
  ·have hne:kl' ≠kl:=fun e=>by
    subst e
    exact hxy (F.inj _ _ (T.law.inj hk' hk))
   show Maps.has (D.put kl (.lit (.int .i64 v))) kl' =(if y=x then some v else f y).isSome∧(D.put kl (.lit (.int .i64 v))).atKey kl' (.lit (.int .i64 0))=.lit (.int .i64 ((if y=x then some v else f y).getD 0))
   rw [Lf hxy,atKey_put_other hne,has_put_other hne]
   exact h2 y hy kl' hk'
 ·by_cases hkk:kl' =kl
  ·subst hkk
   exact ⟨x,hx,hk,by show (if x=x then some v else f x).isSome=true;rw [Lg rfl];rfl⟩
  ·rw [has_put_other hkk] at hh
   obtain ⟨y,y1,y2,y3⟩:=h7 kl' hh
   refine ⟨y,y1,y2,?_⟩
   show (if y=x then some v else f y).isSome=true
   split
   ·rfl
   ·exact y3
theorem IMap.look (T:IntT P t k e) (h:IMap e F b n f w) {x:κ} (hx:F.ok x):(Instr.lookup t (.map (some b)) (F.val x) false).run P w=.ok (.int .i64 ((f x).getD 0)) w:=by
 obtain ⟨D,h1,h2,h7⟩:=h
 obtain ⟨kl,hk⟩:=F.key x hx
 obtain ⟨c,hrun,hat,-⟩:=h1.lookup_int T.law T.ht T.he (T.hz w) hk
 rw [(h2 x hx kl hk).2] at hat
 injection hat with hat
 injection hat with _ hat
 rw [hat]
 exact hrun
end
section
variable {P:Program} {M:Nat→Prop} {row:Option Nat} {w0 w:World} {L:List Hp} {t k e:TypeId} {κ:Type} {F:KeyFam P k κ} {b n:Nat} {f:κ→Option Int}
theorem Hold.ZbM (K:Hold M row w0 w L) (e:TypeId) (F:KeyFam P k κ):Hold M row w0 (w.alloc (.map #[] 0)) (.ob w.heap.size (IMap e F w.heap.size 0 (fun _=>none))::L):=
 K.Zaq _ _ fun w' hw' =>IMap.made e F w' hw'
theorem Zmv [DecidableEq κ] (K:Hold M row w0 w L) (i:Nat) (hi:L[i]? =some (.ob b (IMap e F b n f))) (T:IntT P t k e) {ops:Array Oper} {rest:List Oper} {o:Oper} {a:Act} {Q:Exit→Act→World→Prop}
  (hg:o.guard=none) (m x v:Operand) (hop:o.op=Op.mapUpdate t m x v) (hm:a.eval m=.map (some b)) (y:κ) (hx:a.eval x=F.val y) (z:Int) (hv:a.eval v=.int .i64 z) (hz:I64 z) (hy:F.ok y) (hn:n<maxLen)
  (h:∀ w',Hold M row w0 w' (L.set i (.ob b (IMap e F b (n+1) (fun u=>if u=y then some z else f u))))→wpList P ops Q rest (a.put o.dst undef) w'):wpList P ops Q (o::rest) a w:=by
 refine wpList_plain hg fun K' hK' =>?_
 obtain ⟨w',hrun,h1,h2⟩:=(K.ob_ i hi).put T hy hz hn
 unfold Oper.wp
 simp [execOp,hop,hm,hx,hv,hrun,Result.andThen]
 exact hK' _ _ (h w' (K.QA i hi h2 fun w2 hw2=>h1.stay hw2))
theorem Zmt {O:Obj} {r cnt:Nat} {D:DataW Unit} {left:Lit→Bool} (K:Hold M row w0 w L) (i j:Nat) (hi:L[i]? =some (.ob r (Rng P k e O b r n D left cnt))) (hj:L[j]? =some (.ro fun w=>w.heap[b]? =some O)) (T:IntT P t k e) (hS:QI F f D) {ops:Array Oper} {rest:List Oper} {o:Oper} {a:Act} {Q:Exit→Act→World→Prop}
  (hl:∀ kl,left kl=true→Maps.has D kl=true) (hg:o.guard=none) (it:Operand) (hop:o.op=Op.next it false) (hit:a.eval it=.pointer (some ⟨r,0,none⟩))
  (hDone:cnt=0→(∀ kl,left kl=false)→wpList P ops Q rest (a.put o.dst (.tuple #[.bool false])) w)
  (hMore:∀ (x:κ) (c:Int) (kl:Lit) (w' :World) (cnt' :Nat),F.ok x→f x=some c→keyOf P k (F.val x)=some kl→left kl=true→cnt' <cnt→Hold M row w0 w' (L.set i (.ob r (Rng P k e O b r n D (fun z=>left z&&!z.sameKey kl) cnt')))→
   (Instr.entry (.pointer (some ⟨r,0,none⟩))).run P w' =.ok (.tuple #[F.val x,.int .i64 c]) w' →wpList P ops Q rest (a.put o.dst (.tuple #[.bool true,F.val x,.int .i64 c])) w'):wpList P ops Q (o::rest) a w:=by
 have hrg:w.ranges P k (plainElem P e) b r n D left cnt:=K.ob_ i hi w (K.ro j hj).now rfl
 refine wpList_plain hg fun K' hK' =>?_
 unfold Oper.wp
 rcases hrg.next T.law o.type with ⟨h0,hlf,hrun⟩|⟨key,v,kl,y,w',cnt',hkey,hlk,hv,hat,hrun,hrg2,hlt,hgr,hsz,hen⟩
 ·simp [execOp,hop,hit,hrun,Result.andThen]
  exact hK' _ _ (hDone h0 hlf)
 ·obtain ⟨x,x1,x2,x3⟩:=hS.2 kl (hl kl hlk)
  obtain rfl:key=F.val x:=T.law.inj hkey x2
  obtain ⟨c,rfl,rfl,-⟩:=plainElem_int_inv T.he hv
  have h5:=(hS.1 x x1 kl x2).2
  rw [hat] at h5
  injection h5 with h5
  injection h5 with _ h5
  obtain ⟨c2,hc2⟩:=Option.isSome_iff_exists.1 x3
  rw [hc2] at h5
  obtain rfl:c=c2:=h5
  simp [execOp,hop,hit,hrun,Result.andThen]
  refine hK' _ _ (hMore x c kl w' cnt' x1 hc2 x2 hlk hlt ?_ hen)
  have hbr:b≠r:=fun e=>hrg.ne e.symm
  have hbl:b<w.heap.size:=hrg.owns.lt
  exact K.QA i hi hgr fun w2 hw2 w3 h3 h4=>Zcs hrg2 (h3.trans ((hgr.block b hbl (by simp [hbr])).trans (K.ro j hj).now).symm) (h4.trans hw2)
end
theorem Tryz.Zdl:Keyed Tryz.prog 9:=string_keyed Tryz.underlying9
def XT:KeyFam Tryz.prog 9 ByteArray where
 val:=Value.string
 ok:=fun s=>s.size≤maxLen
 key:=fun s h=>⟨.string s.data.toList,by rw [Go.keyOf_string Tryz.underlying9];simp [mapKey,Tryz.underlying9,h]⟩
 inj:=fun x y h=>by injection h
theorem Tryz.Qh:IntT Tryz.prog 114 9 3:=⟨Tryz.underlying114,Tryz.underlying3,fun w=>by kernel_rfl,Tryz.Zdl⟩
end
section
open Go.RowKit
theorem Zj2 (w:World) (s:ByteArray) (I:Option Addr) (ni ci:Nat) (D:Option Addr) (nd cd:Nat) (U:Option Addr) (nu cu:Nat) (b1:ni≤2000) (b2:nd≤2000) (b3:nu≤2000):Calls Tryz.prog 31 #[.agg #[.string s,.slice I ni ci,.slice D nd cd,.slice U nu cu]] w fun e' w' =>e' =.returned (.bool (decide (ni=0∧nd=0∧nu=0)))∧Below w.heap.size w w' :=by
 have K0:=(Hold.Yi w).Za #[.string s,.slice I ni ci,.slice D nd cd,.slice U nu cu] 103
 have F0:=K0.facts
 simp only [zg] at F0
 cases hE:decide (ni=0∧nd=0∧nu=0) with
 | true=>
  have h:=of_decide_eq_true hE
  have e1:((ni:Int)+(nd:Int)+(nu:Int)==0)=true:=by simp;omega
  clear hE h
  go_enter Tryz.func31,Tryz.ntmps31
  go_wp2_with fail
  go_ret
  exact ⟨by first|rfl|simp,K0.below⟩
 | false=>
  have h:=of_decide_eq_false hE
  have e1:((ni:Int)+(nd:Int)+(nu:Int)==0)=false:=by rw [beq_eq_false_iff_ne];omega
  clear hE h
  go_enter Tryz.func31,Tryz.ntmps31
  go_wp2_with fail
  go_ret
  exact ⟨by first|rfl|simp,K0.below⟩
end
end Go.Proofs.YtnmnkbnmollpmaaGreatDoor

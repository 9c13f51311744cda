import Derived.Test.YtnmnkbnmollpmaaGreatDoorBdDscSaidMB
import Derived.StillTailTactics
set_option linter.unusedVariables false
set_option linter.unusedSimpArgs false
set_option maxHeartbeats 64000000
set_option maxRecDepth 100000
namespace Go.Proofs.YtnmnkbnmollpmaaGreatDoor
section
open Go.RowKit
theorem zl.{u}:(∀ {α:Type u} {x:α} {xs:List α} {a:α},(x::xs).set 0 a=a::xs)∧(∀ {α:Type u} {x:α} {xs:List α} {i:Nat} {a:α},(x::xs).set (i+1) a=x::xs.set i a)∧∀ {α:Type u} (l:List α) (i:Nat) (a:α),l.toArray.setIfInBounds i a=(l.set i a).toArray:=⟨List.set_cons_zero,List.set_cons_succ,List.setIfInBounds_toArray⟩
theorem zf.{u}:(∀ (w:World) (o:Obj),(w.alloc o).heap.size=w.heap.size+1)∧(∀ w:World,w.drew.heap.size=w.heap.size)∧(∀ {α:Type u} {l:List α},l.toArray.toList=l)∧(∀ p:Prop,(p∧True)=p)∧∀ p:Prop,(True∧p)=p:=⟨KP,World.size_drew,List.toList_toArray,and_true,true_and⟩
theorem zd.{u}:(∀ {α:Type u} {a:α} {l:List α} {i:Nat},List.take (i+1) (a::l)=a::List.take i l)∧(∀ {α:Type u} {l:List α},List.take 0 l=[])∧(∀ {α:Type u} {a:α} {l:List α} {i:Nat},List.drop (i+1) (a::l)=List.drop i l)∧∀ {α:Type u} {l:List α},List.drop 0 l=l:=⟨List.take_succ_cons,List.take_zero,List.drop_succ_cons,List.drop_zero⟩
theorem zp : (∀ (a : Act) (d : Option Tmp) (v : Value), Act.put a d v = match d with | some d => ⟨a.tmps.setIfInBounds d v, a.defers⟩ | none => a) ∧ (∀ {α : Type} {x : α} {xs : List α} {a : α}, (x :: xs).set 0 a = a :: xs) ∧ (∀ {α : Type} {x : α} {xs : List α} {i : Nat} {a : α}, (x :: xs).set (i + 1) a = x :: xs.set i a) ∧ ∀ {α : Type} (l : List α) (i : Nat) (a : α), l.toArray.setIfInBounds i a = (l.set i a).toArray := ⟨fun _ _ _ => rfl, zl⟩
theorem Zj8 (c:Col) (v:Vl) (hs:v.s.size≤maxLen):Gives 96 #[.agg #[.string c.name,.int .i64 c.ty,.bool c.nn,.bool c.key],.agg #[.int .i64 v.k,.int .i64 v.i,.string v.s]] (.int .i64 (Z9 c v)):=Zj7 c.name c.ty c.nn c.key v.k v.i v.s hs
theorem Jy (M:Nat→Prop) (w:World) (hM:∀ b,M b→b<w.heap.size) (nm:ByteArray) (A:Option Addr) (n c:Nat) (cs:List Col) (B:Option Addr) (m d:Nat) (vs:List Vl) (hD:Ro w M (SlR 4 A n (Zf cs))) (hE:Ro w M (VlsIn B m vs)) (hn:n≤9223372036854775807) (hm:m≤9223372036854775807) (hok:∀ v∈vs,v.ok):
  Calls Tryz.prog 53 #[.agg #[.string nm,.slice A n c],.slice B m d] w fun e w' =>e=.returned (.int .i64 (Zt cs vs))∧Below w.heap.size w w' :=by
 have HL:=hid (RdC.ZW hD.now).len
 have HV:=hid hE.now.len
 have K0:=(((Hold.start M w hM).add (hE.less (by simp [Mut]))).add (hD.less (by simp [Mut,Hp.foot]))).Za #[.string nm,.slice A n c] 66
 have F0:=K0.facts
 simp only [zg] at F0
 go_enter Tryz.func53,Tryz.ntmps53
 by_cases hnm:m=n
 ·subst hnm
  have hb:((m:Int) !=(m:Int))=false:=by simp
  have HE0:=hid (show Zt cs vs=YK (cs.drop 0) (vs.drop 0) by unfold Zt;rw [Lg (by rw [HL.out,HV.out])];rfl)
  clear hD hE
  go_wp2_with fail
  clear F0
  go_loopw [17] (fun iv wr=>∃ k:Nat,k≤m∧iv=.int .i64 k∧Hid (Zt cs vs=YK (cs.drop k) (vs.drop k))∧Hold M none w wr [.cst w.heap.size 66 #[.string nm,.slice A m c],.ro (SlR 4 A m (Zf cs)),.ro (VlsIn B m vs)]) (fun iv _=>m - (intOf iv).toNat)
  case atStart=>exact ⟨0,by omega,rfl,HE0,K0⟩
  case round=>
   clear K0 HE0
   obtain ⟨k,hk,rfl,HE,H⟩:=hrel
   by_cases hlt:k<m
   ·have hd:decide ((k:Int)<(m:Int))=true:=by simp;omega
    have k0:(0:Int)≤(k:Int):=by omega
    have k1:(k:Int)<(m:Int):=by omega
    obtain ⟨x,hx⟩:=X4 HL.out hlt
    obtain ⟨v,hv⟩:=Zl HV.out hlt
    obtain ⟨g,o,rfl,hgb,c0,c1,c2,c3⟩:=(RdC.ZW (H.ro 1 rfl).now).at_ hx
    have hvok:=hok v (Ka hv)
    have HX:=hid hx;have HVV:=hid hv
    clear hx hv
    have K1:=H.Za #[.string x.name,.int .i64 x.ty,.bool x.nn,.bool x.key] 124
    obtain ⟨gb,hgb⟩:∃ gb,gb=wr.heap.size:=⟨_,rfl⟩
    obtain ⟨KL,hKL⟩:∃ KL:List Hp,KL=[Hp.cst wr.heap.size 124 #[.string x.name,.int .i64 x.ty,.bool x.nn,.bool x.key],.cst w.heap.size 66 #[.string nm,.slice (some ⟨g,o,none⟩) m c],.ro (SlR 4 (some ⟨g,o,none⟩) m (Zf cs)),.ro (VlsIn B m vs)]:=⟨_,rfl⟩
    rw [←hKL] at K1
    rw [←hgb] at hKL
    obtain ⟨gv,ov,rfl,_⟩:=(H.ro 2 rfl).now.at_ HVV.out
    have HF:Hid (∀ wv,Hold M none w wv KL→(wv.cell? ⟨gb,0,none⟩=some (.string x.name)∧wv.cell? ⟨gb,1,none⟩=some (.int .i64 x.ty)∧wv.cell? ⟨gb,2,none⟩=some (.bool x.nn)∧wv.cell? ⟨gb,3,none⟩=some (.bool x.key))∧gb<wv.heap.size∧wv.cell? ⟨gv,ov+k * 3,none⟩=some (.int .i64 v.k)∧wv.cell? ⟨gv,ov+k * 3+1,none⟩=some (.int .i64 v.i)∧wv.cell? ⟨gv,ov+k * 3+2,none⟩=some (.string v.s)∧gv<wv.heap.size):=hid fun wv HC=>by
     rw [hKL] at HC
     have b0:=HC.Zg 0 rfl
     obtain ⟨gv',ov',e',hl,e0,e1,e2⟩:=(HC.ro 3 rfl).now.at_ HVV.out
     obtain ⟨rfl,rfl⟩:gv=gv' ∧ov=ov' :=by injection e' with e';injection e' with a1 a2;exact ⟨a1,a2⟩
     exact ⟨⟨Li _ _ 0 _ _ _ b0,Li _ _ 1 _ _ _ b0,Li _ _ 2 _ _ _ b0,Li _ _ 3 _ _ _ b0⟩,Blk.lt b0,e0,e1,e2,hl⟩
    go_wp2_with fail
    rw [←hgb]
    have HGB:=hid hgb
    have HKL:=hid hKL
    clear hgb hKL
    generalize wr.alloc (.cells #[.string x.name,.int .i64 x.ty,.bool x.nn,.bool x.key] 124)=w2 at *
    refine Lj (by kernel_rfl) ?_
    refine Zn 6 32 (KL) (spL [(27,IsV (.int .i64 (Z9 x v)))]) (by kernel_rfl) (by kernel_rfl) (by kernel_rfl) rfl ?_ (K1.drew) ?_
    ·exact Zd Yu (Zm _)
    simp only [zd,zp,List.getElem_toArray,List.getElem_cons_zero,List.getElem_cons_succ]
    repeat (refine' dv rfl rfl rfl (fun wv HC=>?_) ?_;rotate_left;(focus (obtain ⟨⟨f0,f1,f2,f3⟩,f4,f5,f6,f7,f8⟩:=HF.out _ HC;go_simp<;>rfl;done));simp only [zp])
    refine Zi 27 (IsV (.int .i64 (Z9 x v))) (f:=96) (args:=#[.agg #[.string x.name,.int .i64 x.ty,.bool x.nn,.bool x.key],.agg #[.int .i64 v.k,.int .i64 v.i,.string v.s]]) rfl rfl rfl rfl (fun wv=>?_) (fun wv HC hrm hD=>?_) ?_
    ·go_simp<;>rfl
    ·refine (Zj8 x v hvok.2.2 wv).mono ?_
     rintro e w5 ⟨rfl,b5⟩
     exact ⟨_,rfl,rfl,HC.call b5,RM.below b5⟩
    rintro u wx HCx hu
    obtain rfl:u=_:=hu
    clear HCx
    simp only [zp]
    refine Zk ?_
    rintro wx2 HX2
    rintro _hrm _HG
    rw [HKL.out] at HX2
    clear _hrm _HG
    by_cases hz:Z9 x v=0
    ·have HN:=hid (show Zt cs vs=YK (cs.drop (k+1)) (vs.drop (k+1)) by rw [HE.out,Zhm HX.out HVV.out hz])
     rw [hz]
     clear hz
     go_wp2_with fail
     go_roundw
     case rel=>exact ⟨k+1,by omega,by go_num,HN,HX2.drop (Kb _ _)⟩
     case measure=>simp [intOf];omega
    ·have HN:=hid (show Zt cs vs=Z9 x v by rw [HE.out,Zhk HX.out HVV.out hz])
     have hz2:(Z9 x v !=0)=true:=by simp [hz]
     clear hz
     go_wp2_with fail
     go_ret
     exact ⟨by rw [HN.out]<;>rfl,HX2.below⟩
   ·obtain rfl:k=m:=by omega
    have hd:decide ((k:Int)<(k:Int))=false:=by simp
    have HN:=hid (show Zt cs vs=0 by rw [HE.out,Zhl (by rw [HL.out];exact Kg _)])
    go_wp2_with fail
    go_ret
    exact ⟨by rw [HN.out]<;>rfl,H.below⟩
 ·have hb:((m:Int) !=(n:Int))=true:=by rw [bne_iff_ne];omega
  have HF:=hid (show Zt cs vs=17 by unfold Zt;rw [Lf (by rw [HL.out,HV.out];exact hnm)])
  go_wp2_with fail
  go_ret
  exact ⟨by rw [HF.out]<;>rfl,K0.below⟩
def Vj (l:List Int):List Value:=l.map (.int .i64)
theorem ZhN (l:List Int):(Vj l).length=l.length:=by simp [Vj]
def IsIn (A:Option Addr) (n:Nat) (l:List Int):World→Prop:=SlR 1 A n (Vj l)
theorem IsIn.len {w:World} {A:Option Addr} {n:Nat} {l:List Int} (h:IsIn A n l w):l.length=n:=by
 have:=(show Rd w w.heap.size 1 A n (Vj l) from h).1
 rw [ZhN] at this
 omega
theorem IsIn.cells {w:World} {A:Option Addr} {n:Nat} {l:List Int} (h:IsIn A n l w) (h0:0<n):∃ b o,A=some ⟨b,o,none⟩∧b<w.heap.size∧∀ j,j<l.length→w.cell? ⟨b,o+j,none⟩=some (.int .i64 (l.getD j 0)):=by
 obtain ⟨b,o,rfl,hb,hc⟩:=(show Rd w w.heap.size 1 A n (Vj l) from h).2 h0
 refine ⟨b,o,rfl,hb,fun j hj=>hc j _ ?_⟩
 simp [Vj,List.getD,hj]
theorem ZfO {xs:List Int} {k:Nat} {x y:Int} (hx:xs[k]? =some y) (h:x=y):xs.contains x=true:=by
 subst h;simpa using List.mem_of_getElem? hx
theorem ZfP {xs:List Int} {k:Nat} {x y:Int} (hx:xs[k]? =some y) (h:x≠y) (hk:(xs.take k).contains x=false):(xs.take (k+1)).contains x=false:=by
 rw [Kq,hx]
 simp at hk ⊢
 exact ⟨hk,h⟩
end
section
open Go Go.RowKit
set_option linter.unusedSectionVars false
section
variable {P:Program} {ops:Array Oper} {C:World→Prop} {G:Option Tmp→Value→World→Prop} {R:World→World→Prop} {n N:Nat} {F:Act→Prop}
def Jm (o:Oper):Bool:=match o.op with
 | .move _=>true
 | .extract _ _=>true
 | _=>false
theorem Zjk {o:Oper} (h:Jm o=true) {a:Act} {w:World} {C:World→Prop} {G:Option Tmp→Value→World→Prop} {R:World→World→Prop} (hg:Vi P C G R o.dst w ((execOp a.eval o).run P w)):
  ∃ v,(∀ w',(execOp a.eval o).run P w' =.ok (.value v) w')∧G o.dst v w∧C w∧R w w:=by
 unfold Jm at h
 split at h
 ·rename_i x hx
  have e:∀ w',(execOp a.eval o).run P w' =.ok (.value (a.eval x)) w' :=fun w' =>by
   unfold execOp;simp only [hx,Sem.run_pure]
  rw [e w] at hg
  exact ⟨_,e,hg⟩
 ·rename_i t ix hx
  have e:∀ w',(execOp a.eval o).run P w' =((Instr.extract (a.eval t) ix).run P w').andThen fun u=>(pure (.value u):Sem Next).run P:=fun w' =>by
   unfold execOp;simp only [hx,Sem.run_bind]
  by_cases hv:∃ vs v,a.eval t=.tuple vs∧vs[ix]? =some v
  ·obtain ⟨vs,v,h1,h2⟩:=hv
   have e2:∀ w',(execOp a.eval o).run P w' =.ok (.value v) w' :=fun w' =>by
    rw [e w',h1];unfold Instr.extract;simp only [h2,Sem.run_pure,Result.andThen_ok]
   rw [e2 w] at hg
   exact ⟨_,e2,hg⟩
  ·exfalso
   have hh:∃ x w2,(Instr.extract (a.eval t) ix).run P w=.halt x w2:=by
    unfold Instr.extract
    split
    ·rename_i vs hvs
     split
     ·rename_i v hvv;exact absurd ⟨vs,v,hvs,hvv⟩ hv
     ·exact ⟨_,_,rfl⟩
    ·exact ⟨_,_,rfl⟩
   obtain ⟨x,w2,hh⟩:=hh
   rw [e w,hh] at hg
   exact hg
 ·cases h
def zY (ops:Array Oper) (i:Nat):Array Bool:=((List.range ops.size).map fun j=>Region.waitsFor .any ops i j).toArray
def exB (ops:Array Oper) (E:List Nat) (n:Nat):Bool:=E.all fun i=>decide (i<n)&&(match ops[i]? with|some o=>Jm o|none=>false)&&Region.free .any ops (zY ops i) i
def Zc9 (ops:Array Oper) (S0:Array Bool) (E:List Nat) (n:Nat):Bool:=(List.range n).all fun i=>E.contains i||S0.getD i false||(List.range (n+1)).any fun j=>decide (i<j)&&!E.contains j&&Region.waitsFor .any ops j i
theorem Zhr {i:Nat} {oi:Oper} (hi:ops[i]? =some oi) (h:Region.free .any ops (zY ops i) i=true) (S:Array Bool) (hS:S.size=ops.size) (hw:∀ e∈oi.after,Region.binds .any e=true→S.getD e.on false=true):Region.free .any ops S i=true:=by
 simp only [Region.free,hi,List.all_eq_true,List.mem_range] at h ⊢
 intro j hj
 have h1:=h j hj
 simp only [Bool.or_eq_true] at h1 ⊢
 rcases h1 with (h1|h1)|h1
 ·exact .inl (.inl h1)
 ·have h2:Region.waitsFor .any ops i j=true:=by simpa [zY,hj] using h1
  obtain ⟨o',ho',e,he,hb,hon⟩:=Region.waitsFor_spec h2
  obtain rfl:oi=o' :=Kz (hi.symm.trans ho')
  have h3:=hw e he hb
  rw [hon] at h3
  have hl:j<S.size:=by omega
  exact .inl (.inr (by simpa [hl] using h3))
 ·exact .inr h1
theorem ZlN {S0 listed:Array Bool} {E:List Nat} (hs:Zc9 ops S0 E n=true) (hc:Qf ops n=true) (hn:n<ops.size) (inv:HeadInv .any ops n listed) (h0:∀ j,S0.getD j false=true→listed.getD j false=true):
  ∀ (d i:Nat),n - i=d→i<n→E.contains i=false→listed.getD i true=false→∀ t,n≤t→t ∉ Region.ready .any ops listed:=by
 intro d
 induction d using Nat.strongRecOn with
 | _ d ih=>
  intro i hd hi hE hun t ht hr
  obtain ⟨_,ot,hot,hall⟩:=mem_ready.1 hr
  have htlt:t<ops.size:=(KG.1 hot).1
  by_cases htn:t=n
  ·subst htn
   have h1:=Kw.1 hs i (Ku.2 hi)
   have hnot:S0.getD i false=false:=by
    cases hS:S0.getD i false with
    | false=>rfl
    | true=>have:=h0 i hS;rw [getD_both hun] at this;cases this
   rw [hE,hnot,Bool.false_or,Bool.false_or] at h1
   obtain ⟨j,hj,hj2⟩:=List.any_eq_true.1 h1
   simp only [Bool.and_eq_true,decide_eq_true_eq,Bool.not_eq_true'] at hj2
   obtain ⟨oj,hoj,e,he,hb,hon⟩:=Region.waitsFor_spec hj2.2
   have hjle:j≤t:=by have:=Ku.1 hj;omega
   by_cases hjt:j=t
   ·subst hjt
    have:oj=ot:=Kz (hoj.symm.trans hot)
    subst this
    have h2:=hall e he hb
    rw [hon,getD_both hun] at h2
    cases h2
   ·cases hl:listed.getD j false with
    | true=>
     have h2:=inv.closed j oj hoj hl e he hb
     rw [hon,getD_both hun] at h2
     cases h2
    | false=>
     have hjs:j<listed.size:=by rw [inv.size];omega
     exact ih (t - j) (by omega) j rfl (by omega) hj2.1.2 (getD_in hjs hl) t (Kg _) hr
  ·have h1:=Kw.1 hc t (Ku.2 htlt)
   simp only [Bool.or_eq_true,decide_eq_true_eq] at h1
   rcases h1 with h1|h1
   ·omega
   ·obtain ⟨j,hj,hj2⟩:=List.any_eq_true.1 h1
    simp only [Bool.and_eq_true,decide_eq_true_eq] at hj2
    obtain ⟨o',ho',e,he,hb,hon⟩:=Region.waitsFor_spec hj2.2
    have:o' =ot:=Kz (ho'.symm.trans hot)
    subst this
    have h2:=hall e he hb
    rw [hon,getD_both (inv.tail j hj2.1 (Ku.1 hj))] at h2
    cases h2
theorem ZdM (sh:Shape ops n N) (hmono:∀ d u w w',R w w' →G d u w→G d u w') (hR:∀ w,C w→R w w) (hu:∀ w,C w→G none undef w) {g:Nat} {Q:Exit→Act→World→Prop} (S0:Array Bool) (E:List Nat)
  (hE:∀ i,E.contains i=true→i<n∧∃ oi,ops[i]? =some oi∧Jm oi=true∧∀ S:Array Bool,S.size=ops.size→(∀ e∈oi.after,Region.binds .any e=true→S.getD e.on false=true)→Region.free .any ops S i=true) (hno:Region.noSelect ops=true) (hQ:∀ c d v a w,Q (.panic c) (a.put d v) w→Q (.panic c) a w)
  (htail:∀ S,HeadInv .any ops n S→(∀ j,S0.getD j false=true→S.getD j false=true)→(∃ i,i<n∧E.contains i=false∧S.getD i true=false)→∀ t,n≤t→t ∉ Region.ready .any ops S)
  (hend:∀ S a w,HeadInv .any ops n S→(∀ j,j<n→S.getD j false=true)→C w→(∀ j oj,ops[j]? =some oj→j<n→G oj.dst (slot a oj.dst) w)→F a→wpAny P .any ops Q g S a w):
  ∀ (f:Nat) (S:Array Bool) (a:Act) (w:World),HeadInv .any ops n S→(∀ j,S0.getD j false=true→S.getD j false=true)→unl n S=f→a.tmps.size=N→Inv ops C G S a w→Wk P ops C G R S F n 0 a→wpAny P .any ops Q (f+g) S a w
 | 0,S,a,w,hd,h0s,hf,hN,hI,h=>by
  have hall:=zP hf (by rw [hd.size];exact sh.le)
  rw [Nat.zero_add]
  exact hend S a w hd hall hI.1 (fun j oj hj hjn=>hI.2 j oj hj (hall j hjn)) (Wk.done sh hmono n 0 a w (by omega) hall hI.1 (fun j oj hj hs=>hI.2 j oj hj (hs.resolve_right (by omega))) h)
 | f+1,S,a,w,hd,h0s,hf,hN,hI,h=>by
  obtain ⟨k0,hk0,hun0⟩:=zN hf
  obtain ⟨k,⟨hk,hun⟩,hmin⟩:=least (p:=fun j=>j<n∧S.getD j true=false) k0 ⟨hk0,hun0⟩
  have hrk:k∈Region.ready .any ops S:=by
   have hks:k<ops.size:=by have:=sh.le;omega
   refine mem_ready.2 ⟨hun,ops[k],Lb hks,fun e he hb=>?_⟩
   have hlt:=sh.back k _ (Lb hks) hk e he hb
   cases hS:S.getD e.on false with
   | true=>rfl
   | false=>exact absurd ⟨by omega,getD_in (by rw [hd.size];have:=sh.le;omega) hS⟩ (hmin e.on hlt)
  rw [show f+1+g=(f+g)+1 by omega]
  have hstep:∀ i,i<n→i∈Region.ready .any ops S→∃ oi,ops[i]? =some oi∧StepOk P ops C G R oi a∧Yv ops G oi a w∧∀ u w',May P ops C G oi a u→C w' →R w w' →G oi.dst u w' →wpAny P .any ops Q (f+g) (S.setIfInBounds i true) (a.put oi.dst u) w' :=fun i hin hi=>by
   obtain ⟨huni,oi,hoi,hall⟩:=mem_ready.1 hi
   have hunf:S.getD i false=false:=getD_both huni
   have hst:=Wk.ready sh hmono hR hu hoi hin hunf hall n 0 a w (by omega) (by omega) hN hI.1 (fun j oj hj hs=>hI.2 j oj hj (hs.resolve_right (by omega))) h
   have hD:Yv ops G oi a w:=fun e he hb oe hoe=>hI.2 e.on oe hoe (hall e he hb)
   refine ⟨oi,hoi,hst,hD,fun u w' hm hC' hR' hG' =>?_⟩
   refine ZdM sh hmono hR hu S0 E hE hno hQ htail hend f _ _ w' (hd.set hi hin) (fun j hj=>getD_set_true (h0s j hj)) ?_ (by rw [size_put];exact hN) ⟨hC',fun j oj hj hs=>?_⟩ (Wk.front sh hmono hoi hin (by rw [hd.size]) hunf hall n 0 a (by omega) (by omega) hN hm h)
   ·have:=zO hin huni;omega
   ·by_cases hji:j=i
    ·subst hji
     obtain rfl:oi=oj:=Kz (hoi.symm.trans hj)
     exact zD sh hmono hN hj hG' (fun _=>hu w' hC')
    ·rw [Qr sh hmono (S:=S) hoi hj hji]
     rw [getD_set_ne false (Ne.symm hji)] at hs
     exact hmono _ _ _ _ hR' (hI.2 j oj hj hs)
  cases hkE:E.contains k with
  | true=>
   obtain ⟨_,ok,hok,hpl,hfr⟩:=hE k hkE
   obtain ⟨oi,hoi,hst,hD,hnext⟩:=hstep k hk hrk
   obtain ⟨_,o3,ho3,hall⟩:=mem_ready.1 hrk
   obtain rfl:oi=o3:=Kz (hoi.symm.trans ho3)
   obtain rfl:ok=oi:=Kz (hok.symm.trans hoi)
   by_cases hw:Region.wanted ok (yielded ops a.tmps)=true
   ·unfold StepOk at hst
    simp only [hw,if_true] at hst
    have hg:=hst w hI.1 hD
    unfold Good at hg
    obtain ⟨v,hv,hG,hC,hRR⟩:=Zjk hpl hg
    refine wpAny_take hok hno (hfr S hd.size hall) (by simpa using hrk) (fun c a w=>hQ c _ _ a w) (.inl ⟨hw,hv⟩) (hnext v w ?_ hC hRR hG)
    unfold May
    rw [Lg hw]
    exact ⟨w,hI.1,hD,by rw [hv w];rfl⟩
   ·unfold StepOk at hst
    rw [Lf hw] at hst
    refine wpAny_take hok hno (hfr S hd.size hall) (by simpa using hrk) (fun c a w=>hQ c _ _ a w) (.inr ⟨by simpa using hw,rfl⟩) (hnext undef w ?_ hI.1 (hR w hI.1) (hst w hI.1))
    unfold May
    rw [Lf hw]
  | false=>
  refine ⟨fun h0=>(by rw [h0] at hrk;cases hrk),fun i hi=>?_⟩
  have hin:i<n:=by
   rcases Nat.lt_or_ge i n with h' |h'
   ·exact h'
   ·exact absurd hi (htail S hd h0s ⟨k,hk,hkE,hun⟩ i h')
  obtain ⟨oi,hoi,hst,hD,hnext⟩:=hstep i hin hi
  unfold wpOp
  simp only [hoi]
  split
  ·rename_i hw
   refine .inl (ZbJ hI.1 hD hw ?_ hnext)
   unfold StepOk at hst
   simp only [hw,if_true] at hst
   exact hst w hI.1 hD
  ·rename_i hw
   unfold StepOk at hst
   rw [Lf hw] at hst
   exact hnext undef w (by unfold May;rw [Lf hw]) hI.1 (hR w hI.1) (hst w hI.1)
def relE (ops:Array Oper) (S0:Array Bool) (E:List Nat) (n N:Nat):Bool:=
 Region.noSelect ops&&U4 ops N&&decide (n≤ops.size)&&Gi ops n&&Zat ops n&&(decide (n=ops.size)||(decide (n<ops.size)&&Zc9 ops S0 E n&&Qf ops n))&&QS ops S0 n&&exB ops E n&&Region.seqB .any ops (ops.size - n) n (X5 n ops.size)
theorem ZjY {S0:Array Bool} {E:List Nat} {n N:Nat} (h:relE ops S0 E n N=true):Shape ops n N:=by
 simp only [relE,Bool.and_eq_true,decide_eq_true_eq] at h
 obtain ⟨⟨⟨⟨⟨⟨⟨⟨hsel,hd⟩,hn⟩,hb⟩,ha⟩,_⟩,_⟩,_⟩,_⟩:=h
 refine ⟨hd,hn,fun k o hk hkn e he hbd=>?_,fun k i ok oi hki hin hk hi hno=>?_,Region.noSelect_spec hsel⟩
 ·have h1:=Kw.1 hb k (Ku.2 hkn)
  simp only [hk] at h1
  have h2:=Array.all_eq_true'.1 h1 e he
  simp only [hbd,Bool.not_true,Bool.false_or,decide_eq_true_eq] at h2
  exact h2
 ·have h1:=Kw.1 (Kw.1 ha i (Ku.2 hin)) k (Ku.2 hki)
  simp only [hk,hi,Bool.or_eq_true] at h1
  refine h1.resolve_left fun h2=>?_
  obtain ⟨e,he,hb2⟩:=Array.any_eq_true'.1 h2
  simp only [Bool.and_eq_true,beq_iff_eq] at hb2
  exact hno e he hb2.1 hb2.2
theorem Zmr {Q:Exit→Act→World→Prop} {a:Act} {w:World} {l:List Oper} (S0:Array Bool) (E:List Nat) (n N:Nat) (C:World→Prop) (G:Option Tmp→Value→World→Prop) (R:World→World→Prop) {fuel:Nat}
  (hB:relE l.toArray S0 E n N=true) (hQ:∀ c d v a w,Q (.panic c) (a.put d v) w→Q (.panic c) a w) (hf:fuel=unl n S0+(l.length - n)) (hN:a.tmps.size=N) (hmono:∀ d u w w',R w w' →G d u w→G d u w') (hR:∀ w,C w→R w w) (hu:∀ w,C w→G none undef w) (hC:C w)
  (h0:∀ j oj,l[j]? =some oj→S0.getD j false=true→G oj.dst (slot a oj.dst) w)
  (h:Zz P l.toArray C G R S0 (fun a' =>∀ w',C w' →(∀ j oj,l[j]? =some oj→j<n→G oj.dst (slot a' oj.dst) w')→wpList P l.toArray Q (l.drop n) a' w') 0 (l.take n) a):wpAny P .any l.toArray Q fuel S0 a w:=by
 have sh:=ZjY hB
 have hB' :=hB
 simp only [relE,Bool.and_eq_true,Bool.or_eq_true,decide_eq_true_eq] at hB'
 obtain ⟨⟨⟨⟨⟨⟨⟨⟨hsel,hd⟩,hn⟩,hb⟩,ha⟩,hsc⟩,hcl⟩,hex⟩,hseq⟩:=hB'
 have hnl:n≤l.length:=by simpa using hn
 have htl:(l.take n).length=n:=by simp;omega
 have hw:=JU sh (l.take n) 0 a (fun j hj=>by
  have hj' :j<n:=by rw [htl] at hj;exact hj
  simp [hj']) (by simpa using htl) hN h
 rw [htl] at hw
 have:=ZdM (Q:=Q) (g:=l.length - n) sh hmono hR hu S0 E (fun i hi=>?_) hsel hQ (fun S hI h0s hex t ht hr=>?_) (fun S a' w' hI hall hC' hg hF=>?_) _ S0 a w
  (ZaH hcl) (fun _ h=>h) rfl hN ⟨hC,fun j oj hj hs=>h0 j oj (by simpa using hj) hs⟩ hw
 ·rw [hf];exact this
 ·have h1:=Kw.1 hex i (List.contains_iff_mem.1 hi)
  simp only [Bool.and_eq_true,decide_eq_true_eq] at h1
  obtain ⟨⟨h1,h2⟩,h3⟩:=h1
  have hil:i<l.toArray.size:=by
   have:l.toArray.size=l.length:=by simp
   omega
  have hio:=Lb hil
  rw [hio] at h2
  exact ⟨h1,_,hio,h2,fun S hS hw=>Zhr hio h3 S hS hw⟩
 ·obtain ⟨i,hi,hE,hun⟩:=hex
  rcases hsc with hsc|⟨⟨hlt,hs⟩,hc⟩
  ·have:=(mem_ready.1 hr).2
   obtain ⟨o,ho,_⟩:=this
   have:=(KG.1 ho).1
   omega
  ·exact ZlN hs hc hlt hI h0s _ i rfl hi hE hun t ht hr
 ·have hSeq:=GR hI.size hn hall hI.tail
  rw [show l.toArray.size=l.length from by simp] at hSeq
  rw [hSeq]
  have hdl:(l.drop n).length=l.length - n:=by simp
  have:=wpAny_of_seq (md:=.any) (Q' :=Q) (ops:=l.toArray) (l.drop n) n (X5 n l.length) a' w' (fun j=>by simp [List.getElem?_drop]) (by rw [hdl];simpa using hseq) (hF w' hC' fun j oj hj hjn=>hg j oj (by simpa using hj) hjn)
  rwa [hdl] at this
end
section
variable {P:Program} {M:Nat→Prop} {row:Option Nat} {w0 w1:World} {L:List Hp} {sp:SpW} {F:Act→Prop} {S0:Array Bool}
theorem V3 {Q:Exit→Act→World→Prop} {a:Act} {w:World} {l:List Oper} (E:List Nat) (n N:Nat) (L:List Hp) (sp:SpW) {fuel:Nat}
  (hB:relE l.toArray S0 E n N=true) (hQ:∀ c d v a w,Q (.panic c) (a.put d v) w→Q (.panic c) a w) (hO:G6 l.toArray S0 sp=true) (hf:fuel=unl n S0+(l.length - n)) (hN:a.tmps.size=N) (hs:UQ (Mut M L) sp) (hC:Hold M row w0 w L)
  (h:Zz P l.toArray (HC M row w0 w L) (GW sp) (RM (Mut M L)) S0 (fun a' =>∀ w',Hold M row w0 w' L→RM (Mut M L) w w' →(∀ j oj,l[j]? =some oj→j<n→GW sp oj.dst (slot a' oj.dst) w')→wpList P l.toArray Q (l.drop n) a' w') 0 (l.take n) a):wpAny P .any l.toArray Q fuel S0 a w:=by
 refine Zmr S0 E n N (HC M row w0 w L) (GW sp) (RM (Mut M L)) hB hQ hf hN (fun d u w w' hr hg=>?_) (fun w _=>RM.refl _ w) (fun _ _=>trivial) ⟨hC,RM.refl _ _⟩ (fun j oj hj hs=>Zcf hO (by simpa using hj) hs) (QD (fun a' hF w' hC' hg=>hF w' hC'.1 hC'.2 hg) _ _ _ h)
 unfold GW at hg ⊢
 cases hd:d.bind sp with
 | none=>trivial
 | some V=>
  rw [hd] at hg
  obtain ⟨t,rfl,ht⟩:=Option.bind_eq_some_iff.1 hd
  exact hs t V ht u w w' hr hg
end
end
end Go.Proofs.YtnmnkbnmollpmaaGreatDoor

import Derived.Test.YtnbbllkbefagmaaGreatDoorRkCtsSaidMN
import Derived.Test.YtnbbllkbefagmaaGreatDoorRkCtsSaidMF
import Derived.Orders
import Derived.Test.YtnbbllkbefagmaaGreatDoorRkCtsSaidMP
import Derived.Test.YtnbbllkbefagmaaGreatDoorRkCtsSaidMJ
import Derived.Test.YtnbbllkbefagmaaGreatDoorRkCtsSaidMD
import Derived.Test.YtnbbllkbefagmaaGreatDoorRkCtsSaidMC
import Derived.Test.YtnbbllkbefagmaaGreatDoorRkCtsSaidME
import Derived.Deep.DeepCutAuto
namespace Go.Proofs.YtnbbllkbefagmaaGreatDoor
open Go.RowKit
def Y8 (r:Rk):Prop:=QN r∧r.tab.size≤maxLen∧r.col.size≤maxLen
structure TgGd (d:Nat) (t:Tg):Prop where
 e:1≤t.event∧t.event≤3
 o:LsOk 8 t.cols (fun _=>True)
 p:LsOk 8 t.prec (fun _=>True)
 f:LsOk 8 t.foll (fun _=>True)
 r:LsOk 1 t.rank Y8
 h:LsOk 1 t.cond (ExGd d)
 a:LsOk 4 t.acts (AcGd d)
end Go.Proofs.YtnbbllkbefagmaaGreatDoor
namespace Go.Proofs.YtnbbllkbefagmaaGreatDoor
open Go Go.RowKit
set_option linter.unusedVariables false
set_option linter.unusedSectionVars false
set_option linter.unusedSimpArgs false
section
variable {P:Program} {ops:Array Oper} {C:World→Prop} {G:Option Tmp→Value→World→Prop} {R:World→World→Prop} {n N:Nat} {F:Act→Prop}
def Uq (o:Oper):Bool:=match o.op with
 | .move _=>true
 | .extract _ _=>true
 | _=>false
theorem ZgO {o:Oper} (h:Uq o=true) {a:Act} {w:World} {C:World→Prop} {G:Option Tmp→Value→World→Prop} {R:World→World→Prop} (hg:WF P C G R o.dst w ((execOp a.eval o).run P w)):
  ∃ v,(∀ w',(execOp a.eval o).run P w' =.ok (.value v) w')∧G o.dst v w∧C w∧R w w:=by
 unfold Uq at h
 split at h
 ·rename_i x hx
  have e:∀ w',(execOp a.eval o).run P w' =.ok (.value (a.eval x)) w' :=fun w' =>by
   unfold execOp;simp only [hx,Sem.run_pure]
  rw [e w] at hg
  exact ⟨_,e,hg⟩
 ·rename_i t ix hx
  have e:∀ w',(execOp a.eval o).run P w' =((Instr.extract (a.eval t) ix).run P w').andThen fun u=>(pure (.value u):Sem Next).run P:=fun w' =>by
   unfold execOp;simp only [hx,Sem.run_bind]
  by_cases hv:∃ vs v,a.eval t=.tuple vs∧vs[ix]? =some v
  ·obtain ⟨vs,v,h1,h2⟩:=hv
   have e2:∀ w',(execOp a.eval o).run P w' =.ok (.value v) w' :=fun w' =>by
    rw [e w',h1];unfold Instr.extract;simp only [h2,Sem.run_pure,Result.andThen_ok]
   rw [e2 w] at hg
   exact ⟨_,e2,hg⟩
  ·exfalso
   have hh:∃ x w2,(Instr.extract (a.eval t) ix).run P w=.halt x w2:=by
    unfold Instr.extract
    split
    ·rename_i vs hvs
     split
     ·rename_i v hvv;exact absurd ⟨vs,v,hvs,hvv⟩ hv
     ·exact ⟨_,_,rfl⟩
    ·exact ⟨_,_,rfl⟩
   obtain ⟨x,w2,hh⟩:=hh
   rw [e w,hh] at hg
   exact hg
 ·cases h
def Qr (ops:Array Oper) (i:Nat):Array Bool:=((List.range ops.size).map fun j=>Region.waitsFor .any ops i j).toArray
def exB (ops:Array Oper) (E:List Nat) (n:Nat):Bool:=E.all fun i=>decide (i<n)&&(match ops[i]? with|some o=>Uq o|none=>false)&&Region.free .any ops (Qr ops i) i
def Zbh (ops:Array Oper) (S0:Array Bool) (E:List Nat) (n:Nat):Bool:=(List.range n).all fun i=>E.contains i||S0.getD i false||(List.range (n+1)).any fun j=>decide (i<j)&&!E.contains j&&Region.waitsFor .any ops j i
theorem Zc7 {i:Nat} {oi:Oper} (hi:ops[i]? =some oi) (h:Region.free .any ops (Qr ops i) i=true) (S:Array Bool) (hS:S.size=ops.size) (hw:∀ e∈oi.after,Region.binds .any e=true→S.getD e.on false=true):Region.free .any ops S i=true:=by
 simp only [Region.free,hi,List.all_eq_true,List.mem_range] at h ⊢
 intro j hj
 have h1:=h j hj
 simp only [Bool.or_eq_true] at h1 ⊢
 rcases h1 with (h1|h1)|h1
 ·exact .inl (.inl h1)
 ·have h2:Region.waitsFor .any ops i j=true:=by simpa [Qr,hj] using h1
  obtain ⟨o',ho',e,he,hb,hon⟩:=Region.waitsFor_spec h2
  obtain rfl:oi=o' :=Option.some.inj (hi.symm.trans ho')
  have h3:=hw e he hb
  rw [hon] at h3
  have hl:j<S.size:=by omega
  exact .inl (.inr (by simpa [hl] using h3))
 ·exact .inr h1
theorem ZbQ {S0 listed:Array Bool} {E:List Nat} (hs:Zbh ops S0 E n=true) (hc:U1 ops n=true) (hn:n<ops.size) (inv:HeadInv .any ops n listed) (h0:∀ j,S0.getD j false=true→listed.getD j false=true):
  ∀ (d i:Nat),n - i=d→i<n→E.contains i=false→listed.getD i true=false→∀ t,n≤t→t ∉ Region.ready .any ops listed:=by
 intro d
 induction d using Nat.strongRecOn with
 | _ d ih=>
  intro i hd hi hE hun t ht hr
  obtain ⟨_,ot,hot,hall⟩:=mem_ready.1 hr
  have htlt:t<ops.size:=(Array.getElem?_eq_some_iff.1 hot).1
  by_cases htn:t=n
  ·subst htn
   have h1:=List.all_eq_true.1 hs i (List.mem_range.2 hi)
   have hnot:S0.getD i false=false:=by
    cases hS:S0.getD i false with
    | false=>rfl
    | true=>have:=h0 i hS;rw [getD_both hun] at this;cases this
   rw [hE,hnot,Bool.false_or,Bool.false_or] at h1
   obtain ⟨j,hj,hj2⟩:=List.any_eq_true.1 h1
   simp only [Bool.and_eq_true,decide_eq_true_eq,Bool.not_eq_true'] at hj2
   obtain ⟨oj,hoj,e,he,hb,hon⟩:=Region.waitsFor_spec hj2.2
   have hjle:j≤t:=by have:=List.mem_range.1 hj;omega
   by_cases hjt:j=t
   ·subst hjt
    have:oj=ot:=Option.some.inj (hoj.symm.trans hot)
    subst this
    have h2:=hall e he hb
    rw [hon,getD_both hun] at h2
    cases h2
   ·cases hl:listed.getD j false with
    | true=>
     have h2:=inv.closed j oj hoj hl e he hb
     rw [hon,getD_both hun] at h2
     cases h2
    | false=>
     have hjs:j<listed.size:=by rw [inv.size];omega
     exact ih (t - j) (by omega) j rfl (by omega) hj2.1.2 (getD_in hjs hl) t (Nat.le_refl _) hr
  ·have h1:=List.all_eq_true.1 hc t (List.mem_range.2 htlt)
   simp only [Bool.or_eq_true,decide_eq_true_eq] at h1
   rcases h1 with h1|h1
   ·omega
   ·obtain ⟨j,hj,hj2⟩:=List.any_eq_true.1 h1
    simp only [Bool.and_eq_true,decide_eq_true_eq] at hj2
    obtain ⟨o',ho',e,he,hb,hon⟩:=Region.waitsFor_spec hj2.2
    have:o' =ot:=Option.some.inj (ho'.symm.trans hot)
    subst this
    have h2:=hall e he hb
    rw [hon,getD_both (inv.tail j hj2.1 (List.mem_range.1 hj))] at h2
    cases h2
theorem zu (sh:Shape ops n N) (hmono:∀ d u w w',R w w' →G d u w→G d u w') (hR:∀ w,C w→R w w) (hu:∀ w,C w→G none undef w) {g:Nat} {Q:Exit→Act→World→Prop} (S0:Array Bool) (E:List Nat)
  (hE:∀ i,E.contains i=true→i<n∧∃ oi,ops[i]? =some oi∧Uq oi=true∧∀ S:Array Bool,S.size=ops.size→(∀ e∈oi.after,Region.binds .any e=true→S.getD e.on false=true)→Region.free .any ops S i=true) (hno:Region.noSelect ops=true) (hQ:∀ c d v a w,Q (.panic c) (a.put d v) w→Q (.panic c) a w)
  (htail:∀ S,HeadInv .any ops n S→(∀ j,S0.getD j false=true→S.getD j false=true)→(∃ i,i<n∧E.contains i=false∧S.getD i true=false)→∀ t,n≤t→t ∉ Region.ready .any ops S)
  (hend:∀ S a w,HeadInv .any ops n S→(∀ j,j<n→S.getD j false=true)→C w→(∀ j oj,ops[j]? =some oj→j<n→G oj.dst (slot a oj.dst) w)→F a→wpAny P .any ops Q g S a w):
  ∀ (f:Nat) (S:Array Bool) (a:Act) (w:World),HeadInv .any ops n S→(∀ j,S0.getD j false=true→S.getD j false=true)→unl n S=f→a.tmps.size=N→Inv ops C G S a w→Wk P ops C G R S F n 0 a→wpAny P .any ops Q (f+g) S a w
 | 0,S,a,w,hd,h0s,hf,hN,hI,h=>by
  have hall:=Za1 hf (by rw [hd.size];exact sh.le)
  rw [Nat.zero_add]
  exact hend S a w hd hall hI.1 (fun j oj hj hjn=>hI.2 j oj hj (hall j hjn)) (Wk.done sh hmono n 0 a w (by omega) hall hI.1 (fun j oj hj hs=>hI.2 j oj hj (hs.resolve_right (by omega))) h)
 | f+1,S,a,w,hd,h0s,hf,hN,hI,h=>by
  obtain ⟨k0,hk0,hun0⟩:=Za3 hf
  obtain ⟨k,⟨hk,hun⟩,hmin⟩:=least (p:=fun j=>j<n∧S.getD j true=false) k0 ⟨hk0,hun0⟩
  have hrk:k∈Region.ready .any ops S:=by
   have hks:k<ops.size:=by have:=sh.le;omega
   refine mem_ready.2 ⟨hun,ops[k],Array.getElem?_eq_getElem hks,fun e he hb=>?_⟩
   have hlt:=sh.back k _ (Array.getElem?_eq_getElem hks) hk e he hb
   cases hS:S.getD e.on false with
   | true=>rfl
   | false=>exact absurd ⟨by omega,getD_in (by rw [hd.size];have:=sh.le;omega) hS⟩ (hmin e.on hlt)
  rw [show f+1+g=(f+g)+1 by omega]
  have hstep:∀ i,i<n→i∈Region.ready .any ops S→∃ oi,ops[i]? =some oi∧StepOk P ops C G R oi a∧Z5 ops G oi a w∧∀ u w',May P ops C G oi a u→C w' →R w w' →G oi.dst u w' →wpAny P .any ops Q (f+g) (S.setIfInBounds i true) (a.put oi.dst u) w' :=fun i hin hi=>by
   obtain ⟨huni,oi,hoi,hall⟩:=mem_ready.1 hi
   have hunf:S.getD i false=false:=getD_both huni
   have hst:=Wk.ready sh hmono hR hu hoi hin hunf hall n 0 a w (by omega) (by omega) hN hI.1 (fun j oj hj hs=>hI.2 j oj hj (hs.resolve_right (by omega))) h
   have hD:Z5 ops G oi a w:=fun e he hb oe hoe=>hI.2 e.on oe hoe (hall e he hb)
   refine ⟨oi,hoi,hst,hD,fun u w' hm hC' hR' hG' =>?_⟩
   refine zu sh hmono hR hu S0 E hE hno hQ htail hend f _ _ w' (hd.set hi hin) (fun j hj=>getD_set_true (h0s j hj)) ?_ (by rw [size_put];exact hN) ⟨hC',fun j oj hj hs=>?_⟩ (Wk.front sh hmono hoi hin (by rw [hd.size]) hunf hall n 0 a (by omega) (by omega) hN hm h)
   ·have:=ZaD hin huni;omega
   ·by_cases hji:j=i
    ·subst hji
     obtain rfl:oi=oj:=Option.some.inj (hoi.symm.trans hj)
     exact Qt sh hmono hN hj hG' (fun _=>hu w' hC')
    ·rw [VV sh hmono (S:=S) hoi hj hji]
     rw [getD_set_ne false (Ne.symm hji)] at hs
     exact hmono _ _ _ _ hR' (hI.2 j oj hj hs)
  cases hkE:E.contains k with
  | true=>
   obtain ⟨_,ok,hok,hpl,hfr⟩:=hE k hkE
   obtain ⟨oi,hoi,hst,hD,hnext⟩:=hstep k hk hrk
   obtain ⟨_,o3,ho3,hall⟩:=mem_ready.1 hrk
   obtain rfl:oi=o3:=Option.some.inj (hoi.symm.trans ho3)
   obtain rfl:ok=oi:=Option.some.inj (hok.symm.trans hoi)
   by_cases hw:Region.wanted ok (yielded ops a.tmps)=true
   ·unfold StepOk at hst
    simp only [hw,if_true] at hst
    have hg:=hst w hI.1 hD
    unfold Good at hg
    obtain ⟨v,hv,hG,hC,hRR⟩:=ZgO hpl hg
    refine wpAny_take hok hno (hfr S hd.size hall) (by simpa using hrk) (fun c a w=>hQ c _ _ a w) (.inl ⟨hw,hv⟩) (hnext v w ?_ hC hRR hG)
    unfold May
    rw [if_pos hw]
    exact ⟨w,hI.1,hD,by rw [hv w];rfl⟩
   ·unfold StepOk at hst
    rw [if_neg hw] at hst
    refine wpAny_take hok hno (hfr S hd.size hall) (by simpa using hrk) (fun c a w=>hQ c _ _ a w) (.inr ⟨by simpa using hw,rfl⟩) (hnext undef w ?_ hI.1 (hR w hI.1) (hst w hI.1))
    unfold May
    rw [if_neg hw]
  | false=>
  refine ⟨fun h0=>(by rw [h0] at hrk;cases hrk),fun i hi=>?_⟩
  have hin:i<n:=by
   rcases Nat.lt_or_ge i n with h' |h'
   ·exact h'
   ·exact absurd hi (htail S hd h0s ⟨k,hk,hkE,hun⟩ i h')
  obtain ⟨oi,hoi,hst,hD,hnext⟩:=hstep i hin hi
  unfold wpOp
  simp only [hoi]
  split
  ·rename_i hw
   refine .inl (Zat hI.1 hD hw ?_ hnext)
   unfold StepOk at hst
   simp only [hw,if_true] at hst
   exact hst w hI.1 hD
  ·rename_i hw
   unfold StepOk at hst
   rw [if_neg hw] at hst
   exact hnext undef w (by unfold May;rw [if_neg hw]) hI.1 (hR w hI.1) (hst w hI.1)
def relE (ops:Array Oper) (S0:Array Bool) (E:List Nat) (n N:Nat):Bool:=
 Region.noSelect ops&&VM ops N&&decide (n≤ops.size)&&GY ops n&&ZaZ ops n&&(decide (n=ops.size)||(decide (n<ops.size)&&Zbh ops S0 E n&&U1 ops n))&&UT ops S0 n&&exB ops E n&&Region.seqB .any ops (ops.size - n) n (X9 n ops.size)
theorem Zc5 {S0:Array Bool} {E:List Nat} {n N:Nat} (h:relE ops S0 E n N=true):Shape ops n N:=by
 simp only [relE,Bool.and_eq_true,decide_eq_true_eq] at h
 obtain ⟨⟨⟨⟨⟨⟨⟨⟨hsel,hd⟩,hn⟩,hb⟩,ha⟩,_⟩,_⟩,_⟩,_⟩:=h
 refine ⟨hd,hn,fun k o hk hkn e he hbd=>?_,fun k i ok oi hki hin hk hi hno=>?_,Region.noSelect_spec hsel⟩
 ·have h1:=List.all_eq_true.1 hb k (List.mem_range.2 hkn)
  simp only [hk] at h1
  have h2:=Array.all_eq_true'.1 h1 e he
  simp only [hbd,Bool.not_true,Bool.false_or,decide_eq_true_eq] at h2
  exact h2
 ·have h1:=List.all_eq_true.1 (List.all_eq_true.1 ha i (List.mem_range.2 hin)) k (List.mem_range.2 hki)
  simp only [hk,hi,Bool.or_eq_true] at h1
  refine h1.resolve_left fun h2=>?_
  obtain ⟨e,he,hb2⟩:=Array.any_eq_true'.1 h2
  simp only [Bool.and_eq_true,beq_iff_eq] at hb2
  exact hno e he hb2.1 hb2.2
theorem Zf9 {Q:Exit→Act→World→Prop} {a:Act} {w:World} {l:List Oper} (S0:Array Bool) (E:List Nat) (n N:Nat) (C:World→Prop) (G:Option Tmp→Value→World→Prop) (R:World→World→Prop) {fuel:Nat}
  (hB:relE l.toArray S0 E n N=true) (hQ:∀ c d v a w,Q (.panic c) (a.put d v) w→Q (.panic c) a w) (hf:fuel=unl n S0+(l.length - n)) (hN:a.tmps.size=N) (hmono:∀ d u w w',R w w' →G d u w→G d u w') (hR:∀ w,C w→R w w) (hu:∀ w,C w→G none undef w) (hC:C w)
  (h0:∀ j oj,l[j]? =some oj→S0.getD j false=true→G oj.dst (slot a oj.dst) w)
  (h:Zn P l.toArray C G R S0 (fun a' =>∀ w',C w' →(∀ j oj,l[j]? =some oj→j<n→G oj.dst (slot a' oj.dst) w')→wpList P l.toArray Q (l.drop n) a' w') 0 (l.take n) a):wpAny P .any l.toArray Q fuel S0 a w:=by
 have sh:=Zc5 hB
 have hB' :=hB
 simp only [relE,Bool.and_eq_true,Bool.or_eq_true,decide_eq_true_eq] at hB'
 obtain ⟨⟨⟨⟨⟨⟨⟨⟨hsel,hd⟩,hn⟩,hb⟩,ha⟩,hsc⟩,hcl⟩,hex⟩,hseq⟩:=hB'
 have hnl:n≤l.length:=by simpa using hn
 have htl:(l.take n).length=n:=by simp;omega
 have hw:=UF sh (l.take n) 0 a (fun j hj=>by
  have hj' :j<n:=by rw [htl] at hj;exact hj
  simp [hj']) (by simpa using htl) hN h
 rw [htl] at hw
 have:=zu (Q:=Q) (g:=l.length - n) sh hmono hR hu S0 E (fun i hi=>?_) hsel hQ (fun S hI h0s hex t ht hr=>?_) (fun S a' w' hI hall hC' hg hF=>?_) _ S0 a w
  (Gi hcl) (fun _ h=>h) rfl hN ⟨hC,fun j oj hj hs=>h0 j oj (by simpa using hj) hs⟩ hw
 ·rw [hf];exact this
 ·have h1:=List.all_eq_true.1 hex i (List.contains_iff_mem.1 hi)
  simp only [Bool.and_eq_true,decide_eq_true_eq] at h1
  obtain ⟨⟨h1,h2⟩,h3⟩:=h1
  have hil:i<l.toArray.size:=by
   have:l.toArray.size=l.length:=by simp
   omega
  have hio:=Array.getElem?_eq_getElem hil
  rw [hio] at h2
  exact ⟨h1,_,hio,h2,fun S hS hw=>Zc7 hio h3 S hS hw⟩
 ·obtain ⟨i,hi,hE,hun⟩:=hex
  rcases hsc with hsc|⟨⟨hlt,hs⟩,hc⟩
  ·have:=(mem_ready.1 hr).2
   obtain ⟨o,ho,_⟩:=this
   have:=(Array.getElem?_eq_some_iff.1 ho).1
   omega
  ·exact ZbQ hs hc hlt hI h0s _ i rfl hi hE hun t ht hr
 ·have hSeq:=zH hI.size hn hall hI.tail
  rw [show l.toArray.size=l.length from by simp] at hSeq
  rw [hSeq]
  have hdl:(l.drop n).length=l.length - n:=by simp
  have:=wpAny_of_seq (md:=.any) (Q' :=Q) (ops:=l.toArray) (l.drop n) n (X9 n l.length) a' w' (fun j=>by simp [List.getElem?_drop]) (by rw [hdl];simpa using hseq) (hF w' hC' fun j oj hj hjn=>hg j oj (by simpa using hj) hjn)
  rwa [hdl] at this
end
section
variable {P:Program} {M:Nat→Prop} {row:Option Nat} {w0 w1:World} {L:List Hp} {sp:SpW} {F:Act→Prop} {S0:Array Bool}
theorem Zcu {Q:Exit→Act→World→Prop} {a:Act} {w:World} {l:List Oper} (E:List Nat) (n N:Nat) (L:List Hp) (sp:SpW) {fuel:Nat}
  (hB:relE l.toArray S0 E n N=true) (hQ:∀ c d v a w,Q (.panic c) (a.put d v) w→Q (.panic c) a w) (hO:Jp l.toArray S0 sp=true) (hf:fuel=unl n S0+(l.length - n)) (hN:a.tmps.size=N) (hs:Ug (Mut M L) sp) (hC:Hold M row w0 w L)
  (h:Zn P l.toArray (HC M row w0 w L) (GW sp) (RM (Mut M L)) S0 (fun a' =>∀ w',Hold M row w0 w' L→RM (Mut M L) w w' →(∀ j oj,l[j]? =some oj→j<n→GW sp oj.dst (slot a' oj.dst) w')→wpList P l.toArray Q (l.drop n) a' w') 0 (l.take n) a):wpAny P .any l.toArray Q fuel S0 a w:=by
 refine Zf9 S0 E n N (HC M row w0 w L) (GW sp) (RM (Mut M L)) hB hQ hf hN (fun d u w w' hr hg=>?_) (fun w _=>RM.refl _ w) (fun _ _=>trivial) ⟨hC,RM.refl _ _⟩ (fun j oj hj hs=>J4 hO (by simpa using hj) hs) (Um (fun a' hF w' hC' hg=>hF w' hC'.1 hC'.2 hg) _ _ _ h)
 unfold GW at hg ⊢
 cases hd:d.bind sp with
 | none=>trivial
 | some V=>
  rw [hd] at hg
  obtain ⟨t,rfl,ht⟩:=Option.bind_eq_some_iff.1 hd
  exact hs t V ht u w w' hr hg
end
end Go.Proofs.YtnbbllkbefagmaaGreatDoor
namespace Go.Proofs.YtnbbllkbefagmaaGreatDoor
open Go.RowKit
set_option linter.unusedVariables false
set_option linter.unusedSimpArgs false
def Ub (M:Nat→Prop) (c:ByteArray) (u:Value) (w:World):Prop:=∃ z:Ex,u=.agg #[.string c,.int .i64 z.kind,.int .i64 z.op,.bool z.nt,.int .i64 z.v.k,.int .i64 z.v.i,.string z.v.s,.string z.tab,.string z.nm,.slice z.A z.n z.c,.slice z.B z.m z.d]∧ExGd 3 z∧Ro w M (ExIn 3 z)
theorem Zcs {M:Nat→Prop} {c:ByteArray} (u:Value) (w w' :World) (hr:RM M w w') (h:Ub M c u w):Ub M c u w' :=by
 obtain ⟨y,h1,h2,h3⟩:=h
 exact ⟨y,h1,h2,hr.ro h3⟩
def Ua (M:Nat→Prop) (c:ByteArray) (u:Value) (w:World):Prop:=∃ (g:Nat) (z:Ex),u=.slice (some ⟨g,0,none⟩) 1 1∧ExGd 3 z∧Ro w M ((⟨some ⟨g,0,none⟩,1,1,[⟨c,z⟩]⟩:SlP Se).In 11 Se.cells (ZY 3))
theorem Zcb {M:Nat→Prop} {c:ByteArray} (u:Value) (w w' :World) (hr:RM M w w') (h:Ua M c u w):Ua M c u w' :=by
 obtain ⟨g,y,h1,h2,h3⟩:=h
 exact ⟨g,y,h1,h2,hr.ro h3⟩
def VP (M:Nat→Prop) (u:Value) (w:World):Prop:=∃ (g:Nat) (z:Ex),u=.slice (some ⟨g,0,none⟩) 1 1∧ExGd 3 z∧Ro w M (Z0 3 ⟨some ⟨g,0,none⟩,1,1,[z]⟩)
theorem Zf1 {M:Nat→Prop} (u:Value) (w w' :World) (hr:RM M w w') (h:VP M u w):VP M u w' :=by
 obtain ⟨g,y,h1,h2,h3⟩:=h
 exact ⟨g,y,h1,h2,hr.ro h3⟩
set_option maxRecDepth 100000 in
set_option maxHeartbeats 16000000 in
theorem ZeN (M:Nat→Prop) (T gx gr:Nat) (cs0:Array Value) (w0 w:World) (t:Tg) (hgd:TgGd 5 t) (K:Hold M (some T) w0 w [.blk gx 40 #[.string t.name,.string t.tab,.bool t.before,.int .i64 t.event,t.cols.v,.bool t.each,t.prec.v,t.foll.v,t.rank.v,t.cond.v,t.acts.v],.ro (TgIn 5 t),.blk gr 40 cs0,.tp T]):
  Calls Tryz.prog 101 #[.pointer (some ⟨T,0,none⟩),.pointer (some ⟨gx,0,none⟩)] w fun e w' =>∃ t' :Tg,e=.returned (.tuple #[])∧TgGd 5 t' ∧t'.name=t.name∧t'.tab=t.tab∧t'.prec=t.prec∧t'.foll=t.foll∧Hold M (some T) w0 w' [.blk gx 40 #[.string t'.name,.string t'.tab,.bool t'.before,.int .i64 t'.event,t'.cols.v,.bool t'.each,t'.prec.v,t'.foll.v,t'.rank.v,t'.cond.v,t'.acts.v],.ro (TgIn 5 t'),.blk gr 40 cs0,.tp T]:=by
 obtain ⟨tn,tt,tb,te,⟨oA,on,oc,ol⟩,tch,⟨pA,pn,pc,pl⟩,⟨qA,qn,qc,ql⟩,⟨rA,rn,rc,rl⟩,⟨kA,kn,kc,kl⟩,⟨aA,an,ac,al⟩⟩:=t
 simp only [SlP.v] at *
 have F:=K.facts
 simp only [zg] at F
 go_enter Tryz.func101,Tryz.ntmps101
 cases tb
 ·go_wp2_with fail
  refine (ZZ T 3 _ (K.tp_ 3 rfl) (by omega) (by omega)).mono ?_
  rintro e w1 ⟨b,rfl,t1,g1⟩
  have K1:=Hold.Zf K 3 rfl g1 t1
  clear K F t1 g1
  have F1:=K1.facts
  simp only [zg] at F1
  cases b
  ·go_wp2_with fail
   refine bodyPost_ret (v:=.tuple #[]) ?_ rfl ?_
   ·simp [results,Tryz.results101,go_sem]
   ·exact ⟨⟨tn,tt,false,te,⟨oA,on,oc,ol⟩,tch,⟨pA,pn,pc,pl⟩,⟨qA,qn,qc,ql⟩,⟨rA,rn,rc,rl⟩,⟨kA,kn,kc,kl⟩,⟨aA,an,ac,al⟩⟩,rfl,hgd,rfl,rfl,rfl,rfl,K1⟩
  ·go_upto_region 1 with fail
   go_cut [4] (fun v wx=>∃ c:ByteArray,v=.string c∧Hid (c.size≤maxLen)∧Hold M (some T) w0 wx [.blk gx 40 #[.string tn,.string tt,.bool false,.int .i64 te,.slice oA on oc,.bool tch,.slice pA pn pc,.slice qA qn qc,.slice rA rn rc,.slice kA kn kc,.slice aA an ac],.ro (TgIn 5 ⟨tn,tt,false,te,⟨oA,on,oc,ol⟩,tch,⟨pA,pn,pc,pl⟩,⟨qA,qn,qc,ql⟩,⟨rA,rn,rc,rl⟩,⟨kA,kn,kc,kl⟩,⟨aA,an,ac,al⟩⟩),.blk gr 40 cs0,.tp T])
   case first=>
    have K2:=K1.Za #[.string ⟨#[110]⟩,.string ⟨#[109]⟩] 9
    have F2:=K2.facts
    simp only [zg] at F2
    clear F1
    go_wp2_with fail
    refine (ZQ T 2 _ (K2.tp_ 4 rfl) (by omega) (by omega)).mono ?_
    rintro e w9 ⟨r2,rfl,r20,r21,t9,g9⟩
    have K3:=Hold.Zf K2 4 rfl g9 t9
    clear K2 F2 t9 g9
    have F3:=K3.facts
    simp only [zg] at F3
    obtain rfl|rfl:r2=0∨r2=1:=by omega
    ·go_wp2_with fail
     go_meet
     exact ⟨_,rfl,hid (show 1≤maxLen by unfold maxLen;omega),K3.drop (List.sublist_cons_self _ _)⟩
    ·go_wp2_with fail
     go_meet
     exact ⟨_,rfl,hid (show 1≤maxLen by unfold maxLen;omega),K3.drop (List.sublist_cons_self _ _)⟩
   case rest=>
    obtain ⟨c,rfl,HCS,K2⟩:=hcut
    clear K1 F1
    go_wp2_with fail
    refine (Vd T _ (K2.tp_ 3 rfl)).mono ?_
    rintro e w2 ⟨zz,rfl,zz0,zz1,t2,g2⟩
    have K3:=Hold.Zf K2 3 rfl g2 t2
    clear K2 t2 g2
    go_wp2_with fail
    refine (ZQ T 12 _ (K3.tp_ 3 rfl) (by omega) (by omega)).mono ?_
    rintro e w3 ⟨h,rfl,h0,h1,t3,g3⟩
    have hwz:IntKind.i64.wrap (zz+h)=zz+h:=IntWalk.i64_in _ (by omega)
    have K4:=(Hold.Zf K3 3 rfl g3 t3).Za #[.string ⟨#[117]⟩,.string c,.int .i64 zz,.int .i64 (zz+h)] 85
    clear K3 t3 g3
    have F4:=K4.facts
    simp only [zg] at F4
    have K5:=K4.store 1 rfl 8 (.slice (some ⟨w3.heap.size,0,none⟩) 1 1)
    simp only [zl] at K5
    clear K4
    go_wp2_with fail
    obtain ⟨gk,hgk⟩:∃ g,g=w3.heap.size:=⟨_,rfl⟩
    rw [←hgk] at K5 ⊢
    have HGK:=hid hgk
    clear hgk F4
    refine (ZZ T 2 _ (K5.tp_ 4 rfl) (by omega) (by omega)).mono ?_
    rintro e w6 ⟨b6,rfl,t6,g6⟩
    have K6:=Hold.Zf K5 4 rfl g6 t6
    clear K5 t6 g6
    cases b6
    ·have F6:=K6.facts
     simp only [zg] at F6
     have K5:Hold M (some T) w0 _ [.blk gx 40 #[.string tn,.string tt,.bool false,.int .i64 te,.slice oA on oc,.bool false,.slice pA pn pc,.slice qA qn qc,.slice (some ⟨gk,0,none⟩) 1 1,.slice none 0 0,.slice aA an ac],.cst gk 85 #[.string ⟨#[117]⟩,.string c,.int .i64 zz,.int .i64 (zz+h)],.ro (TgIn 5 ⟨tn,tt,false,te,⟨oA,on,oc,ol⟩,tch,⟨pA,pn,pc,pl⟩,⟨qA,qn,qc,ql⟩,⟨rA,rn,rc,rl⟩,⟨kA,kn,kc,kl⟩,⟨aA,an,ac,al⟩⟩),.blk gr 40 cs0,.tp T]:=((K6.store 1 rfl 5 (.bool false)).store 1 rfl 9 (.slice none 0 0)).pick [1,0,2,3,4] (by decide) rfl
     have F5:=K5.facts
     simp only [zg] at F5
     clear K6
     go_upto_region 7 with fail
     clear F6
     generalize World.setCell _ _ _=w7 at K5 F5 ⊢
     obtain ⟨KM,hKM,K6⟩:=K5.name
     have H1:∀ wv:World,Hold M (some T) w0 wv KM→Blk wv gx 40 #[.string tn,.string tt,.bool false,.int .i64 te,.slice oA on oc,.bool false,.slice pA pn pc,.slice qA qn qc,.slice (some ⟨gk,0,none⟩) 1 1,.slice none 0 0,.slice aA an ac]:=fun wv h=>by rw [hKM] at h;exact h.Zy 0 rfl
     have H2:∀ wv:World,Hold M (some T) w0 wv KM→Blk wv gk 85 #[.string ⟨#[117]⟩,.string c,.int .i64 zz,.int .i64 (zz+h)]:=fun wv h=>by rw [hKM] at h;exact h.ZB 1 rfl
     have h4:KM[4]? =some (.tp T):=by rw [hKM];rfl
     have HH1:=hid H1
     have HH2:=hid H2
     have HH4:=hid h4
     have HKM:=hid hKM
     clear hKM H1 H2 h4 K5
     go_wp2_with fail
     clear F5
     refine wp_region_any (by kernel_rfl) ?_
     refine Zcu [0] 22 67 (KM) (spL [(44,Zh (Mut M KM) 1),(46,fun u _=>Z6 3 u),(48,Zh (Mut M KM) 2),(49,Zh (Mut M KM) 3),(50,Ub (Mut M KM) c),(51,Ua (Mut M KM) c),(61,Zh (Mut M KM) 3),(62,VP (Mut M KM))]) (by kernel_rfl) (fun _ d _ _ _ h=>by cases d<;>exact h) (by kernel_rfl) (by kernel_rfl) rfl ?_ (K6.drew) ?_
     ·exact Ze Z7 (Ze (fun _ _ _ _ h=>h) (Ze Z7 (Ze Z7 (Ze Zcs (Ze Zcb (Ze Z7 (Ze Zf1 (ZF _))))))))
     simp only [zd,Act.put,List.getElem_toArray,List.getElem_cons_zero,List.getElem_cons_succ,zl]
     iterate 3
      refine' dv rfl rfl rfl (fun wv HC=>?_) ?_;rotate_left
      · go_simp<;>rfl
      simp only [Act.put,zl]
     refine Zq 44 (Zh (Mut M KM) 1) (f:=133) (args:=#[.string ⟨#[]⟩,.string c]) rfl rfl rfl rfl (fun wv=>?_) (fun wv HC hrm hD=>?_) ?_
     ·go_simp<;>rfl
     ·refine (Xr wv ⟨#[]⟩ c).mono ?_
      rintro e w5 ⟨rfl,b5⟩
      exact ⟨_,rfl,⟨_,rfl,Xa _ _,fun w2 _ _=>Xc _ _ w2⟩,HC.call b5,RM.below b5⟩
     rintro u wx HCx ⟨c1,rfl,hx,rx⟩
     clear HCx hx rx
     simp only [Act.put,zl]
     refine' dv rfl rfl rfl (fun wv HC=>?_) ?_;rotate_left
     · go_simp<;>rfl
     simp only [Act.put,zl]
     refine Yk 3 4 HH4.out 46 rfl rfl rfl rfl (fun wv=>?_) (fun r hr=>?_)
     ·go_simp<;>rfl
     have hwr:IntKind.i64.wrap (1+(r:Int))=1+r:=IntWalk.i64_in _ (by omega)
     simp only [Act.put,zl]
     refine' dv rfl rfl rfl (fun wv HC=>?_) ?_;rotate_left
     · go_simp<;>rfl
     simp only [Act.put,zl]
     refine Zq 48 (Zh (Mut M KM) 2) (f:=134) (args:=#[.int .i64 (1+(r:Int))]) rfl rfl rfl rfl (fun wv=>?_) (fun wv HC hrm hD=>?_) ?_
     ·go_simp<;>rfl
     ·refine (XG (Mut M KM) wv HC.Zc (1+(r:Int)) (by omega)).mono ?_
      rintro e w5 ⟨x,rfl,hx,rx,b5⟩
      exact ⟨_,rfl,⟨x,rfl,Xw hx (by omega) (by omega),rx⟩,HC.call b5,RM.below b5⟩
     rintro u wx HCx ⟨c2,rfl,hx,rx⟩
     clear HCx hx rx
     simp only [Act.put,zl]
     refine Zq 49 (Zh (Mut M KM) 3) (f:=132) (args:=#[.int .i64 10,c1.val,c2.val]) rfl rfl rfl rfl (fun wv=>?_) (fun wv HC hrm hD=>?_) ?_
     ·go_simp<;>rfl
     ·have h1:Zh (Mut M KM) 1 c1.val wv:=ZV hD 3 rfl (by kernel_rfl) rfl rfl
      have h2:Zh (Mut M KM) 2 c2.val wv:=ZV hD 7 rfl (by kernel_rfl) rfl rfl
      obtain ⟨y1,hy1,ok1,q1⟩:=h1
      obtain ⟨y2,hy2,ok2,q2⟩:=h2
      rw [hy1,hy2]
      refine (Xj (Mut M KM) wv HC.Zc 10 y1 y2 2 (q1.imp fun w2 h2=>h2.le (by omega)) q2).mono ?_
      rintro e w5 ⟨g5,rfl,ry,b5⟩
      exact ⟨_,rfl,⟨_,rfl,YE (Zo 5 (by decide)) (Zo 10 (by decide)) (by omega) (fun a ha=>by
       simp only [List.mem_cons,List.not_mem_nil,or_false] at ha
       rcases ha with rfl|rfl
       ·exact ok1.le (by omega)
       ·exact ok2),ry⟩,HC.call b5,RM.below b5⟩
     rintro u wx HCx ⟨c3,rfl,hx,rx⟩
     clear HCx hx rx
     simp only [Act.put,zl]
     rw [show c3.val=.agg #[.int .i64 c3.kind,.int .i64 c3.op,.bool c3.nt,.int .i64 c3.v.k,.int .i64 c3.v.i,.string c3.v.s,.string c3.tab,.string c3.nm,.slice c3.A c3.n c3.c,.slice c3.B c3.m c3.d] from rfl]
     refine XW 50 (Ub (Mut M KM) c) rfl rfl rfl rfl (fun wv HC hD=>?_) ?_
     ·have h1:Zh (Mut M KM) 3 c3.val wv:=ZV hD 8 rfl (by kernel_rfl) rfl rfl
      obtain ⟨y1,hy1,ok1,q1⟩:=h1
      refine ⟨.agg #[.string c,.int .i64 c3.kind,.int .i64 c3.op,.bool c3.nt,.int .i64 c3.v.k,.int .i64 c3.v.i,.string c3.v.s,.string c3.tab,.string c3.nm,.slice c3.A c3.n c3.c,.slice c3.B c3.m c3.d],?_,y1,?_,ok1,q1⟩
      ·go_simp
      ·have h:=hy1
       simp only [Ex.val,Value.agg.injEq,Array.mk.injEq,List.cons.injEq,and_true,true_and] at h ⊢
       exact h
     rintro u wx HCx ⟨c4,rfl,hx,rx⟩
     clear HCx hx rx
     simp only [Act.put,zl]
     refine Ye #[.string c,.int .i64 c4.kind,.int .i64 c4.op,.bool c4.nt,.int .i64 c4.v.k,.int .i64 c4.v.i,.string c4.v.s,.string c4.tab,.string c4.nm,.slice c4.A c4.n c4.c,.slice c4.B c4.m c4.d] 128 51 (Ua (Mut M KM) c) (fun g=>.slice (some ⟨g,0,none⟩) 1 1) rfl rfl rfl rfl (fun wv=>?_) (fun wv HC hrm hD hro=>?_) ?_
     ·go_simp<;>rfl
     ·have h1:Ub (Mut M KM) c (.agg #[.string c,.int .i64 c4.kind,.int .i64 c4.op,.bool c4.nt,.int .i64 c4.v.k,.int .i64 c4.v.i,.string c4.v.s,.string c4.tab,.string c4.nm,.slice c4.A c4.n c4.c,.slice c4.B c4.m c4.d]) wv:=ZV hD 9 rfl (by kernel_rfl) rfl rfl
      obtain ⟨y1,hy1,ok1,q1⟩:=h1
      rw [show (#[.string c,.int .i64 c4.kind,.int .i64 c4.op,.bool c4.nt,.int .i64 c4.v.k,.int .i64 c4.v.i,.string c4.v.s,.string c4.tab,.string c4.nm,.slice c4.A c4.n c4.c,.slice c4.B c4.m c4.d]:Array Value)=#[.string c,.int .i64 y1.kind,.int .i64 y1.op,.bool y1.nt,.int .i64 y1.v.k,.int .i64 y1.v.i,.string y1.v.s,.string y1.tab,.string y1.nm,.slice y1.A y1.n y1.c,.slice y1.B y1.m y1.d] by simpa using hy1] at hro ⊢
      exact ⟨_,y1,rfl,ok1,VX (s:=⟨c,y1⟩) (hro _ HC.Zc) rfl ((RM.alloc (Mut M KM) wv _).ro q1)⟩
     rintro g51 wg HCg hg51
     clear HCg hg51
     iterate 5
      simp only [Act.put,zl]
      refine' dv rfl rfl rfl (fun wv HC=>?_) ?_;rotate_left
      · go_simp<;>rfl
     simp only [Act.put,zl]
     refine' dv rfl rfl rfl (fun wv HC=>?_) ?_;rotate_left
     ·obtain q8:=(HH1.out _ HC).cell 8;go_simp<;>rfl
     iterate 2
      simp only [Act.put,zl]
      refine' dv rfl rfl rfl (fun wv HC=>?_) ?_;rotate_left
      · go_simp<;>rfl
     simp only [Act.put,zl]
     refine' dv rfl rfl rfl (fun wv HC=>?_) ?_;rotate_left
     ·obtain q3:=(HH2.out _ HC).cell 3;go_simp<;>rfl
     simp only [Act.put,zl]
     refine Zq 61 (Zh (Mut M KM) 3) (f:=135) (args:=#[.string c,.int .i64 zz,.int .i64 (zz+h)]) rfl rfl rfl rfl (fun wv=>?_) (fun wv HC hrm hD=>?_) ?_
     ·go_simp<;>rfl
     ·refine (JD (Mut M KM) wv HC.Zc c zz (zz+h) (by omega) (by omega)).mono ?_
      rintro e w5 ⟨g5,n1,n2,rfl,hn1,hn2,ry,b5⟩
      exact ⟨_,rfl,⟨_,rfl,YE (Zo 7 (by decide)) (Zo 0 (by decide)) (by omega) (fun a ha=>by
       simp only [List.mem_cons,List.not_mem_nil,or_false] at ha
       rcases ha with rfl|rfl|rfl
       ·exact (Xa _ _).le (by omega)
       ·exact Xw hn1 (by omega) (by omega)
       ·exact Xw hn2 (by omega) (by omega)),ry⟩,HC.call b5,RM.below b5⟩
     rintro u wx HCx ⟨c5,rfl,hx,rx⟩
     clear HCx hx rx
     simp only [Act.put,zl]
     rw [show c5.val=.agg #[.int .i64 c5.kind,.int .i64 c5.op,.bool c5.nt,.int .i64 c5.v.k,.int .i64 c5.v.i,.string c5.v.s,.string c5.tab,.string c5.nm,.slice c5.A c5.n c5.c,.slice c5.B c5.m c5.d] from rfl]
     refine Ye #[.int .i64 c5.kind,.int .i64 c5.op,.bool c5.nt,.int .i64 c5.v.k,.int .i64 c5.v.i,.string c5.v.s,.string c5.tab,.string c5.nm,.slice c5.A c5.n c5.c,.slice c5.B c5.m c5.d] 126 62 (VP (Mut M KM)) (fun g=>.slice (some ⟨g,0,none⟩) 1 1) rfl rfl rfl rfl (fun wv=>?_) (fun wv HC hrm hD hro=>?_) ?_
     ·go_simp<;>rfl
     ·have h1:Zh (Mut M KM) 3 c5.val wv:=ZV hD 20 rfl (by kernel_rfl) rfl rfl
      obtain ⟨y1,hy1,ok1,q1⟩:=h1
      have hy2:(#[.int .i64 c5.kind,.int .i64 c5.op,.bool c5.nt,.int .i64 c5.v.k,.int .i64 c5.v.i,.string c5.v.s,.string c5.tab,.string c5.nm,.slice c5.A c5.n c5.c,.slice c5.B c5.m c5.d]:Array Value)=#[.int .i64 y1.kind,.int .i64 y1.op,.bool y1.nt,.int .i64 y1.v.k,.int .i64 y1.v.i,.string y1.v.s,.string y1.tab,.string y1.nm,.slice y1.A y1.n y1.c,.slice y1.B y1.m y1.d]:=by
       have h:=hy1
       simp only [Ex.val,Value.agg.injEq] at h
       exact h
      rw [hy2] at hro ⊢
      exact ⟨_,y1,rfl,ok1,XD (hro _ HC.Zc) rfl ((RM.alloc (Mut M KM) wv _).ro q1)⟩
     rintro g62 wg HCg hg62
     clear HCg hg62
     simp only [Act.put,zl]
     refine ZE ?_
     rintro wx3 HX
     rintro _hrm HGW
     have hu:Ua (Mut M KM) c (.slice (some ⟨g51,0,none⟩) 1 1) wx3:=(Zp (d:=51) rfl).1 (HGW 10 _ rfl (by omega))
     have hu2:VP (Mut M KM) (.slice (some ⟨g62,0,none⟩) 1 1) wx3:=(Zp (d:=62) rfl).1 (HGW 21 _ rfl (by omega))
     clear HGW _hrm
     obtain ⟨g1,z,e1,hok1,hro1⟩:=hu
     obtain rfl:g51=g1:=by injection e1 with e1;injection e1 with e1;injection e1
     obtain ⟨g2,q,e2,hok2,hro2⟩:=hu2
     obtain rfl:g62=g2:=by injection e2 with e2;injection e2 with e2;injection e2
     rw [HKM.out] at HX hro1 hro2
     clear e1 e2 HH1 HH2 HH4 HKM K6
     have K7:=((HX.add hro1).add (hro2.less (by intro b hb;simpa [ZG,Hp.foot] using hb))).Za #[.int .i64 2,.string ⟨#[117]⟩,.slice none 0 0,.slice none 0 0,.slice (some ⟨g51,0,none⟩) 1 1,.slice (some ⟨g62,0,none⟩) 1 1,.string ⟨#[]⟩] 97
     have F7:=K7.facts
     simp only [zg] at F7
     have K8:=K7.store 3 rfl 10 (.slice (some ⟨wx3.heap.size,0,none⟩) 1 1)
     simp only [zl] at K8
     have hA:Ro _ _ (TgIn 5 ⟨tn,tt,false,te,⟨oA,on,oc,ol⟩,false,⟨pA,pn,pc,pl⟩,⟨qA,qn,qc,ql⟩,⟨some ⟨gk,0,none⟩,1,1,[⟨⟨#[117]⟩,c,zz,zz+h⟩]⟩,SlP.nil,⟨some ⟨wx3.heap.size,0,none⟩,1,1,[⟨2,⟨#[117]⟩,SlP.nil,SlP.nil,⟨some ⟨g51,0,none⟩,1,1,[⟨c,z⟩]⟩,⟨some ⟨g62,0,none⟩,1,1,[q]⟩,⟨#[]⟩⟩]⟩⟩):=((K8.ro 5 rfl).and (((ZJ (K8.get 4 rfl) rfl:Ro _ _ (SlR 4 (some ⟨gk,0,none⟩) 1 [.string ⟨#[117]⟩,.string c,.int .i64 zz,.int .i64 (zz+h)]))).and (((ZJ (K8.get 0 rfl) rfl:Ro _ _ (SlR 7 (some ⟨wx3.heap.size,0,none⟩) 1 [.int .i64 2,.string ⟨#[117]⟩,.slice none 0 0,.slice none 0 0,.slice (some ⟨g51,0,none⟩) 1 1,.slice (some ⟨g62,0,none⟩) 1 1,.string ⟨#[]⟩]))).and ((K8.ro 2 rfl).and (K8.ro 1 rfl))))).imp fun w2 h2=>⟨h2.1.1,h2.1.2.1,h2.1.2.2.1,⟨h2.2.1,fun _ _=>trivial⟩,SlP.Zi _ _ _ w2,⟨h2.2.2.1,fun a ha=>by
      simp only [List.mem_cons,List.not_mem_nil,or_false] at ha
      subst ha
      exact ⟨SlP.Zi _ _ _ w2,SlP.Zi _ _ _ w2,⟨h2.2.2.2.1.1,fun s hs=>(show ExIn 3 s.e w2 from h2.2.2.2.1.2 s hs).le (by omega)⟩,⟨h2.2.2.2.2.1,fun x hx=>(h2.2.2.2.2.2 x hx).le (by omega)⟩⟩⟩⟩
     have K9:=(K8.add hA).pick [4,0,7,8] (by decide) rfl
     clear HX hro1 hro2 K7 K8 hA
     go_wp2_with fail
     refine bodyPost_end (v:=.tuple #[]) ?_ rfl ?_
     ·simp [results,Tryz.results101,go_sem]
     ·exact ⟨⟨tn,tt,false,te,⟨oA,on,oc,ol⟩,false,⟨pA,pn,pc,pl⟩,⟨qA,qn,qc,ql⟩,⟨some ⟨gk,0,none⟩,1,1,[⟨⟨#[117]⟩,c,zz,zz+h⟩]⟩,SlP.nil,⟨some ⟨wx3.heap.size,0,none⟩,1,1,[⟨2,⟨#[117]⟩,SlP.nil,SlP.nil,⟨some ⟨g51,0,none⟩,1,1,[⟨c,z⟩]⟩,⟨some ⟨g62,0,none⟩,1,1,[q]⟩,⟨#[]⟩⟩]⟩⟩,rfl,⟨hgd.e,hgd.o,hgd.p,hgd.f,YP (by omega) ⟨⟨show I64 zz from ⟨by omega,by omega⟩,show I64 (zz+h) from ⟨by omega,by omega⟩⟩,show 1≤maxLen by unfold maxLen;omega,HCS.out⟩,LsOk.nil _ _,YP (by omega) ⟨⟨by simp,by simp⟩,LsOk.nil _ _,LsOk.nil _ _,YP (by omega) (hok1.le (by omega)),YP (by omega) (hok2.le (by omega))⟩⟩,rfl,rfl,rfl,rfl,K9⟩
    ·have hA:Ro _ _ (TgIn 5 ⟨tn,tt,false,te,⟨oA,on,oc,ol⟩,tch,⟨pA,pn,pc,pl⟩,⟨qA,qn,qc,ql⟩,⟨some ⟨gk,0,none⟩,1,1,[⟨⟨#[117]⟩,c,zz,zz+h⟩]⟩,⟨kA,kn,kc,kl⟩,⟨aA,an,ac,al⟩⟩):=((K6.ro 2 rfl).and ((ZJ (K6.get 0 rfl) rfl:Ro _ _ (SlR 4 (some ⟨gk,0,none⟩) 1 [.string ⟨#[117]⟩,.string c,.int .i64 zz,.int .i64 (zz+h)])))).imp fun w2 h2=>⟨h2.1.1,h2.1.2.1,h2.1.2.2.1,⟨h2.2,fun _ _=>trivial⟩,h2.1.2.2.2.2⟩
     have K9:=(K6.add hA).pick [2,0,4,5] (by decide) rfl
     clear K6 hA
     go_wp2_with fail
     refine bodyPost_ret (v:=.tuple #[]) ?_ rfl ?_
     ·simp [results,Tryz.results101,go_sem]
     ·exact ⟨⟨tn,tt,false,te,⟨oA,on,oc,ol⟩,tch,⟨pA,pn,pc,pl⟩,⟨qA,qn,qc,ql⟩,⟨some ⟨gk,0,none⟩,1,1,[⟨⟨#[117]⟩,c,zz,zz+h⟩]⟩,⟨kA,kn,kc,kl⟩,⟨aA,an,ac,al⟩⟩,rfl,⟨hgd.e,hgd.o,hgd.p,hgd.f,YP (by omega) ⟨⟨show I64 zz from ⟨by omega,by omega⟩,show I64 (zz+h) from ⟨by omega,by omega⟩⟩,show 1≤maxLen by unfold maxLen;omega,HCS.out⟩,hgd.h,hgd.a⟩,rfl,rfl,rfl,rfl,K9⟩
 ·go_wp2_with fail
  refine bodyPost_ret (v:=.tuple #[]) ?_ rfl ?_
  ·simp [results,Tryz.results101,go_sem]
  ·exact ⟨⟨tn,tt,true,te,⟨oA,on,oc,ol⟩,tch,⟨pA,pn,pc,pl⟩,⟨qA,qn,qc,ql⟩,⟨rA,rn,rc,rl⟩,⟨kA,kn,kc,kl⟩,⟨aA,an,ac,al⟩⟩,rfl,hgd,rfl,rfl,rfl,rfl,K⟩
def VS (l:List ByteArray):List Value:=l.flatMap Zt
theorem Tryz.Zhi:ElemT Tryz.prog 35 9 1 16 (.string ⟨#[]⟩):=⟨Tryz.underlying35,by kernel_rfl,rfl,by omega⟩
def Zea (w:World) (T:Nat) (M:Nat→Prop) (k:Nat) (e:Ending) (w' :World):Prop:=∃ s:SlP ByteArray,e=.returned s.v∧s.n≤s.c∧s.c≤9223372036854775807∧s.l.length≤k∧Ro w' M (s.In 1 Zt (fun _ _=>True))∧Tp w' T∧w.grownBy w' (some T)
set_option maxRecDepth 100000 in
set_option maxHeartbeats 8000000 in
theorem Za9 (M:Nat→Prop) (T:Nat) (w:World) (hM:∀ b,M b→b<w.heap.size) (ht:Tp w T) (hMT:∀ b,M b→T≤b) (tA:Option Addr) (tn tc:Nat) (tl:List Tg) (hl:Ro w (fun b=>b=T) (SlR 11 tA tn (tl.flatMap Tg.cells))) (hn:tn≤1000):
  Calls Tryz.prog 97 #[.pointer (some ⟨T,0,none⟩),.slice tA tn tc] w fun e w' =>Zea w T M 8 e w' :=by
 have HLN:=hid (show tl.length=tn from by
  have:=(show Rd _ _ 11 tA tn (tl.flatMap Tg.cells) from hl.now).1
  rw [Yu Tg.cells 11 (fun _=>rfl)] at this
  omega)
 have HLX:=hid hl
 have K0:=((Hold.YY M w T hM ht hMT).add (S:=fun _=>True) (fun _ _ _=>trivial)).nil 9 1
 have K1:Hold M (some T) w _ [.own 9 1 (.slice none 0 0) 0 (VS ([]:List ByteArray)),.ro (fun _=>True),.tp T]:=K0
 clear K0 hl
 go_enter Tryz.func97,Tryz.ntmps97
 go_wp2_with fail
 go_loopw [5,10] (fun ov iv wr=>∃ (j k cap:Nat) (O:Option Addr) (outs:List ByteArray),j≤tn∧iv=.int .i64 j∧ov=.slice O k cap∧k≤8∧outs.length=k∧Hold M (some T) w wr [.own 9 1 (.slice O k cap) k (VS outs),.ro (fun _=>True),.tp T]) (fun _ iv _=>tn - (intOf iv).toNat)
 case atStart=>exact ⟨0,0,0,none,[],by omega,rfl,rfl,by omega,rfl,K1⟩
 case round=>
  clear K1
  obtain ⟨j,k,cap,O,outs,hj,rfl,rfl,hk8,hok,H⟩:=hrel
  by_cases hlt:j<tn
  ·obtain ⟨x,hx⟩:∃ c,tl[j]? =some c:=⟨tl[j]'(by rw [HLN.out];exact hlt),List.getElem?_eq_getElem _⟩
   obtain ⟨b,o,rfl,hb2,hc⟩:=(show ∃ b o,tA=some ⟨b,o,none⟩∧b<_∧∀ q u,q<11→x.cells[q]? =some u→World.cell? _ ⟨b,o+j * 11+q,none⟩=some u from by
    obtain ⟨b,o,e,hb,hcl⟩:=(show Rd _ _ 11 tA tn (tl.flatMap Tg.cells) from (HLX.out.grown H.grow rfl).now).2 (by omega)
    refine ⟨b,o,e,hb,fun q u hq hu=>?_⟩
    rw [Nat.add_assoc]
    exact hcl _ _ ((flat_get Tg.cells 11 (fun _=>rfl) tl j q x hq hx).trans hu))
   clear hx
   obtain ⟨xn,xt,xb,xe,⟨oA,on,oc,ol⟩,xch,⟨pA,pn,pc,pl⟩,⟨qA,qn,qc,ql⟩,⟨rA,rn,rc,rl⟩,⟨kA,kn,kc,kl⟩,⟨aA,an,ac,al⟩⟩:=x
   have x0:=hc 0 _ (by omega) rfl
   have x1:=hc 1 _ (by omega) rfl
   have x2:=hc 2 _ (by omega) rfl
   have x3:=hc 3 _ (by omega) rfl
   have x4:=hc 4 _ (by omega) rfl
   have x5:=hc 5 _ (by omega) rfl
   have x6:=hc 6 _ (by omega) rfl
   have x7:=hc 7 _ (by omega) rfl
   have x8:=hc 8 _ (by omega) rfl
   have x9:=hc 9 _ (by omega) rfl
   have x10:=hc 10 _ (by omega) rfl
   simp only [Nat.add_zero,SlP.v] at x0 x1 x2 x3 x4 x5 x6 x7 x8 x9 x10
   clear hc
   have K2:=H.Za #[.string xn,.string xt,.bool xb,.int .i64 xe,.slice oA on oc,.bool xch,.slice pA pn pc,.slice qA qn qc,.slice rA rn rc,.slice kA kn kc,.slice aA an ac] 40
   have F2:=K2.facts
   simp only [zg] at F2
   clear H
   go_wp2_with fail
   refine (ZZ T 4 _ (K2.tp_ 3 rfl) (by omega) (by omega)).mono ?_
   rintro e w3 ⟨b4,rfl,t3,g3⟩
   have K3:=Hold.Zf K2 3 rfl g3 t3
   clear K2 F2 t3 g3 x0 x1 x2 x3 x4 x5 x6 x7 x8 x9 x10
   have F3:=K3.facts
   simp only [zg] at F3
   cases b4
   ·go_wp2_with fail
    go_roundw
    case rel=>exact ⟨j+1,k,cap,O,outs,by omega,by go_num,by first|rfl|trivial,by omega,hok,K3.drop (List.sublist_cons_self _ _)⟩
    case measure=>simp [intOf];omega
   ·by_cases h8:k<8
    ·have h8i:(k:Int)<8:=by omega
     go_wp2_with (at_builtin;go_must (refine Zx K3 1 rfl Tryz.Zhi #[.string xn] rfl (.tmp 21) (.tmp 24) rfl rfl _ (by first|rfl|simp) rfl rfl (by intro u hu;simp at hu;rcases hu with rfl;rfl) (by omega) (by omega) ?_);intro gA capA wA hcA hmA KA;rw [show VS outs++(#[.string xn]:Array Value).toList=VS (outs++[xn]) by simp [VS,Zt]] at KA;simp only [zl] at KA)
     go_roundw
     case rel=>exact ⟨j+1,k+1,capA,_,outs++[xn],by omega,by go_num,by first|rfl|trivial,by omega,by simp [hok],KA.drop (List.sublist_cons_self _ _)⟩
     case measure=>simp [intOf];omega
    ·have h8i:¬(k:Int)<8:=by omega
     go_wp2_with fail
     go_roundw
     case rel=>exact ⟨j+1,k,cap,O,outs,by omega,by go_num,by first|rfl|trivial,by omega,hok,K3.drop (List.sublist_cons_self _ _)⟩
     case measure=>simp [intOf];omega
  ·obtain rfl:tn=j:=by omega
   have hcap:=Yx (H.get 0 rfl)
   have KZ:=H.ZC 0 rfl
   simp only [List.set_cons_zero] at KZ
   have hR:Ro _ _ ((⟨O,k,cap,outs⟩:SlP ByteArray).In 1 Zt (fun _ _=>True)):=(KZ.ro 0 rfl).imp fun w2 h2=>⟨h2,fun _ _=>trivial⟩
   have HR:=hid (hR.less zm)
   have HT:=hid (And.intro (KZ.tp_ 2 rfl) KZ.grow)
   clear KZ hR H
   go_wp2_with fail
   go_ret
   exact ⟨⟨O,k,cap,outs⟩,rfl,hcap.1,hcap.2.1,by show outs.length≤8;omega,HR.out,HT.out.1,HT.out.2⟩
end Go.Proofs.YtnbbllkbefagmaaGreatDoor

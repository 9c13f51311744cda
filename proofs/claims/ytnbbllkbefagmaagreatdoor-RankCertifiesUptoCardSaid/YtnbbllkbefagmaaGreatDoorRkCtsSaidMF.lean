import Derived.StillTail
import Derived.Tactics
import Derived.KernelRfl
import Derived.Test.YtnbbllkbefagmaaGreatDoorRkCtsSaidMC
import Derived.Test.YtnbbllkbefagmaaGreatDoorRkCtsSaidMD
namespace Go.Proofs.YtnbbllkbefagmaaGreatDoor
open Go
set_option linter.unusedVariables false
set_option linter.unusedSectionVars false
set_option linter.unusedSimpArgs false
def slot (a:Act):Option Tmp→Value
 | some t=>a.tmps.getD t undef
 | none=>undef
section
variable (P:Program) (ops:Array Oper) (C:World→Prop) (G:Option Tmp→Value→World→Prop) (R:World→World→Prop)
def Z5 (o:Oper) (a:Act) (w:World):Prop:=∀ e∈o.after,Region.binds .any e=true→∀ oe,ops[e.on]? =some oe→G oe.dst (slot a oe.dst) w
def WF (d:Option Tmp) (w:World):Result Next→Prop
 | .ok (.value u) w' =>G d u w' ∧C w' ∧R w w'
 | .ok .skip w' =>G d undef w' ∧C w' ∧R w w'
 | .ok (.enter f args) w' =>Calls P f args w' fun e w'' =>∃ u,e=.returned u∧G d u w'' ∧C w'' ∧R w w''
 | _=>False
def Good (o:Oper) (a:Act) (w:World):Prop:=WF P C G R o.dst w ((execOp a.eval o).run P w)
def zq (u:Value):Result Next→Prop
 | .ok (.value x) _=>u=x
 | .ok .skip _=>u=undef
 | .ok (.enter _ _) _=>True
 | _=>False
def StepOk (o:Oper) (a:Act):Prop:=
 if Region.wanted o (yielded ops a.tmps)=true then ∀ w,C w→Z5 ops G o a w→Good P C G R o a w else ∀ w,C w→G o.dst undef w
def May (o:Oper) (a:Act) (u:Value):Prop:=
 if Region.wanted o (yielded ops a.tmps)=true then ∃ w,C w∧Z5 ops G o a w∧zq u ((execOp a.eval o).run P w) else u=undef
def Inh (S:Array Bool) (k:Nat) (a:Act):Prop:=∃ w,C w∧∀ j oj,ops[j]? =some oj→(S.getD j false=true∨j<k)→G oj.dst (slot a oj.dst) w
def Wk (S:Array Bool) (F:Act→Prop):Nat→Nat→Act→Prop
 | 0,k,a=>Inh ops C G S k a→F a
 | m+1,k,a=>Inh ops C G S k a→match ops[k]? with
  | none=>False
  | some o=>if S.getD k false=true then Wk S F m (k+1) a else StepOk P ops C G R o a∧∀ u,May P ops C G o a u→Inh ops C G S (k+1) (a.put o.dst u)→Wk S F m (k+1) (a.put o.dst u)
def Inv (S:Array Bool) (a:Act) (w:World):Prop:=C w∧∀ j oj,ops[j]? =some oj→S.getD j false=true→G oj.dst (slot a oj.dst) w
end
section
variable {P:Program} {ops:Array Oper} {C:World→Prop} {G:Option Tmp→Value→World→Prop} {R:World→World→Prop}
def VM (ops:Array Oper) (n:Nat):Bool:=
 (List.range ops.size).all fun i=>match (ops[i]?).bind (·.dst) with
  | none=>true
  | some d=>decide (d<n)&&(List.range ops.size).all fun j=>j==i||(ops[j]?).bind (·.dst) !=some d
theorem Gg {n i:Nat} {o:Oper} {d:Tmp} (h:VM ops n=true) (hi:ops[i]? =some o) (hd:o.dst=some d):d<n:=by
 have h1:=List.all_eq_true.1 h i (List.mem_range.2 (Array.getElem?_eq_some_iff.1 hi).1)
 simp only [hi,Option.bind_some,hd,Bool.and_eq_true,decide_eq_true_eq] at h1
 exact h1.1
theorem Uw {n i j:Nat} {o o' :Oper} {d:Tmp} (h:VM ops n=true) (hi:ops[i]? =some o) (hj:ops[j]? =some o') (hd:o.dst=some d) (hij:j≠i):o'.dst≠some d:=by
 have h1:=List.all_eq_true.1 h i (List.mem_range.2 (Array.getElem?_eq_some_iff.1 hi).1)
 simp only [hi,Option.bind_some,hd,Bool.and_eq_true] at h1
 have h2:=List.all_eq_true.1 h1.2 j (List.mem_range.2 (Array.getElem?_eq_some_iff.1 hj).1)
 simp only [hj,Option.bind_some,Bool.or_eq_true,beq_iff_eq,bne_iff_ne,ne_eq] at h2
 exact h2.resolve_left hij
theorem QF {a:Act} {x y:Option Tmp} {v:Value} (h:∀ d,x=some d→y≠some d):slot (a.put x v) y=slot a y:=by
 cases x with
 | none=>rfl
 | some d=>
  cases y with
  | none=>rfl
  | some t=>
   have hne:d≠t:=fun e=>h d rfl (by rw [e])
   simp only [Act.put,slot,Array.getD_eq_getD_getElem?,Array.getElem?_setIfInBounds_ne hne]
theorem zS {a:Act} {d:Tmp} {v:Value} (h:d<a.tmps.size):slot (a.put (some d) v) (some d)=v:=by
 simp [Act.put,slot,h]
theorem size_put {a:Act} {x:Option Tmp} {v:Value}:(a.put x v).tmps.size=a.tmps.size:=by
 cases x<;>simp [Act.put]
structure Aside (ops:Array Oper) (o o' :Oper):Prop where
 sel:∀ cs b,o.op≠.select cs b
 look:∀ d,o'.dst=some d→d ∉ o.looksAt ops
 deps:∀ e∈o.after,Region.binds .any e=true→∀ oe,ops[e.on]? =some oe→∀ d,o'.dst=some d→oe.dst≠some d
theorem Aside.wanted {o o' :Oper} (h:Aside ops o o') (a:Act) (v:Value):Region.wanted o (yielded ops (a.put o'.dst v).tmps)=Region.wanted o (yielded ops a.tmps):=wanted_put o a o'.dst v h.look
theorem Aside.exec {o o' :Oper} (h:Aside ops o o') (a:Act) (v:Value):execOp (a.put o'.dst v).eval o=execOp a.eval o:=execOp_put (ops:=ops) o h.sel a o'.dst v h.look
theorem Aside.Zby {o o' :Oper} (h:Aside ops o o') (a:Act) (v:Value) (w:World):Z5 ops G o (a.put o'.dst v) w↔Z5 ops G o a w:=by
 constructor
 ·intro k e he hb oe hoe
  have:=k e he hb oe hoe
  rwa [QF (h.deps e he hb oe hoe)] at this
 ·intro k e he hb oe hoe
  rw [QF (h.deps e he hb oe hoe)]
  exact k e he hb oe hoe
theorem Aside.step {o o' :Oper} (h:Aside ops o o') (a:Act) (v:Value):StepOk P ops C G R o (a.put o'.dst v)↔StepOk P ops C G R o a:=by
 unfold StepOk Good
 rw [h.wanted,h.exec]
 simp only [h.Zby]
theorem Aside.may {o o' :Oper} (h:Aside ops o o') (a:Act) (v u:Value):May P ops C G o (a.put o'.dst v) u↔May P ops C G o a u:=by
 unfold May
 rw [h.wanted,h.exec]
 simp only [h.Zby]
variable {n N:Nat} {F:Act→Prop}
structure Shape (ops:Array Oper) (n N:Nat):Prop where
 dsts:VM ops N=true
 le:n≤ops.size
 back:∀ k o,ops[k]? =some o→k<n→∀ e∈o.after,Region.binds .any e=true→e.on<k
 aside:∀ k i ok oi,k<i→i<n→ops[k]? =some ok→ops[i]? =some oi→(∀ e∈oi.after,Region.binds .any e=true→e.on≠k)→ok.apart ops oi=true
 sel:∀ (j:Nat) (o:Oper) cs b,ops[j]? =some o→o.op≠.select cs b
theorem Shape.Zbx (h:Shape ops n N) {k i:Nat} {ok oi:Oper} (hki:k<i) (hi:i<n) (hk' :ops[k]? =some ok) (hi' :ops[i]? =some oi) (hno:∀ e∈oi.after,Region.binds .any e=true→e.on≠k):Aside ops oi ok∧Aside ops ok oi:=by
 obtain ⟨h1,h2,h3⟩:=Oper.apart_spec (h.aside k i ok oi hki hi hk' hi' hno)
 refine ⟨⟨fun cs b=>h.sel i oi cs b hi',h1,fun e he hb oe hoe d hd=>?_⟩,⟨fun cs b=>h.sel k ok cs b hk',h3,fun e he hb oe hoe d hd=>?_⟩⟩
 ·exact Uw h.dsts hk' hoe hd (hno e he hb)
 ·have:=h.back k ok hk' (by omega) e he hb
  exact Uw h.dsts hi' hoe hd (by omega)
section
variable (sh:Shape ops n N) (hmono:∀ d u w w',R w w' →G d u w→G d u w')
include sh hmono
theorem VV {S:Array Bool} {i:Nat} {oi:Oper} {a:Act} {u:Value} (hi:ops[i]? =some oi) {j:Nat} {oj:Oper} (hj:ops[j]? =some oj) (hji:j≠i):slot (a.put oi.dst u) oj.dst=slot a oj.dst:=
 QF fun d hd=>Uw sh.dsts hi hj hd hji
theorem Qt {i:Nat} {oi:Oper} {a:Act} {u:Value} (hN:a.tmps.size=N) (hi:ops[i]? =some oi) {w:World} (h:G oi.dst u w) (hu:oi.dst=none→G none undef w):G oi.dst (slot (a.put oi.dst u) oi.dst) w:=by
 cases hd:oi.dst with
 | none=>simpa [slot] using hu hd
 | some d=>
  rw [zS (by rw [hN];exact Gg sh.dsts hi hd),←hd]
  exact h
theorem StepOk.some_ {k:Nat} {o:Oper} {a:Act} {w:World} (h:StepOk P ops C G R o a) (hC:C w) (hD:Z5 ops G o a w) (hR:R w w):∃ u w',May P ops C G o a u∧C w' ∧R w w' ∧G o.dst u w' :=by
 unfold StepOk at h
 unfold May
 split at h
 ·rename_i hw
  simp only [hw,if_true]
  have hg:=h w hC hD
  unfold Good at hg
  have key:∀ r,(execOp a.eval o).run P w=r→WF P C G R o.dst w r→∃ u w',(∃ w,C w∧Z5 ops G o a w∧zq u ((execOp a.eval o).run P w))∧C w' ∧R w w' ∧G o.dst u w' :=by
   intro r hr hg
   cases r with
   | ok nx w' =>
    cases nx<;>simp only [WF] at hg
    case value u=>exact ⟨u,w',⟨w,hC,hD,by rw [hr];rfl⟩,hg.2.1,hg.2.2,hg.1⟩
    case skip=>exact ⟨undef,w',⟨w,hC,hD,by rw [hr];rfl⟩,hg.2.1,hg.2.2,hg.1⟩
    case enter f args=>
     obtain ⟨e,w2,fr,⟨u,_,h1,h2,h3⟩,_⟩:=hg []
     exact ⟨u,w2,⟨w,hC,hD,by rw [hr];trivial⟩,h2,h3,h1⟩
   | halt x w' =>simp only [WF] at hg
  exact key _ rfl hg
 ·rename_i hw
  simp only [hw,if_false]
  exact ⟨undef,w,rfl,hC,hR,h w hC⟩
theorem Wk.past {S:Array Bool} {i:Nat}:∀ (m k:Nat) (a:Act),i<k→i<S.size→Wk P ops C G R S F m k a→Wk P ops C G R (S.setIfInBounds i true) F m k a
 | 0,k,a,hk,hS,h=>fun ⟨w,hw,hg⟩=>h ⟨w,hw,fun j oj hj hs=>hg j oj hj (hs.imp (getD_set_true ·) id)⟩
 | m+1,k,a,hk,hS,h=>fun hI=>by
  obtain ⟨w,hw,hg⟩:=hI
  have hI' :Inh ops C G S k a:=⟨w,hw,fun j oj hj hs=>hg j oj hj (hs.imp (getD_set_true ·) id)⟩
  have h1:=h hI'
  cases ho:ops[k]? with
  | none=>simp only [ho] at h1
  | some o=>
   simp only [ho] at h1 ⊢
   rw [getD_set_ne false (by omega:i≠k)]
   split at h1
   ·rename_i hs
    simp only [hs,if_true]
    exact Wk.past m (k+1) a (by omega) hS h1
   ·rename_i hs
    simp only [hs,if_false]
    refine ⟨h1.1,fun u hu hI2=>Wk.past m (k+1) _ (by omega) hS (h1.2 u hu ?_)⟩
    obtain ⟨w,hw,hg⟩:=hI2
    exact ⟨w,hw,fun j oj hj hs=>hg j oj hj (hs.imp (getD_set_true ·) id)⟩
theorem Wk.front {S:Array Bool} {i:Nat} {oi:Oper} (hi:ops[i]? =some oi) (hin:i<n) (hS:S.size=ops.size) (hun:S.getD i false=false) (hw:∀ e∈oi.after,Region.binds .any e=true→S.getD e.on false=true) {u:Value}:
  ∀ (m k:Nat) (a:Act),k≤i→k+m=n→a.tmps.size=N→May P ops C G oi a u→Wk P ops C G R S F m k a→Wk P ops C G R (S.setIfInBounds i true) F m k (a.put oi.dst u)
 | 0,k,a,hk,hkm,_,_,h=>by omega
 | m+1,k,a,hk,hkm,hN,hu,h=>fun hI=>by
  have hiS:i<S.size:=by rw [hS];exact (Array.getElem?_eq_some_iff.1 hi).1
  obtain ⟨w,hw',hg⟩:=hI
  have hI' :Inh ops C G S k a:=⟨w,hw',fun j oj hj hs=>by
   have hji:j≠i:=by
    rintro rfl
    rcases hs with hs|hs
    ·rw [hun] at hs;cases hs
    ·omega
   have:=hg j oj hj (hs.imp (getD_set_true ·) id)
   rwa [VV sh hmono (S:=S) hi hj hji] at this⟩
  have h1:=h hI'
  by_cases hki:k=i
  ·subst hki
   simp only [hi,hun,if_false,Bool.false_eq_true] at h1
   simp only [hi]
   have hst:(S.setIfInBounds k true).getD k false=true:=by simp [hiS]
   simp only [hst,if_true]
   refine Wk.past sh hmono m (k+1) _ (by omega) hiS (h1.2 u hu ⟨w,hw',fun j oj hj hs=>hg j oj hj ?_⟩)
   by_cases hjk:j=k
   ·subst hjk;exact .inl hst
   ·rcases hs with hs|hs
    ·exact .inl (getD_set_true hs)
    ·exact .inr (by omega)
  ·cases ho:ops[k]? with
   | none=>simp only [ho] at h1
   | some o=>
    simp only [ho] at h1 ⊢
    rw [getD_set_ne false (Ne.symm hki)]
    split at h1
    ·rename_i hs
     simp only [hs,if_true]
     exact Wk.front hi hin hS hun hw m (k+1) a (by omega) (by omega) hN hu h1
    ·rename_i hs
     simp only [hs,if_false]
     have hno:∀ e∈oi.after,Region.binds .any e=true→e.on≠k:=fun e he hb hek=>by
      have:=hw e he hb
      rw [hek] at this
      exact hs this
     obtain ⟨as1,as2⟩:=sh.Zbx (show k<i by omega) hin ho hi hno
     refine ⟨(as2.step a u).2 h1.1,fun v hv hI2=>?_⟩
     rw [as2.may] at hv
     have hdd:∀ d,o.dst=some d→oi.dst≠some d:=fun d hd=>Uw sh.dsts ho hi hd (Ne.symm hki)
     have hcomm:(a.put oi.dst u).put o.dst v=(a.put o.dst v).put oi.dst u:=(Act.put_comm a v u hdd).symm
     rw [hcomm] at hI2 ⊢
     refine Wk.front hi hin hS hun hw m (k+1) _ (by omega) (by omega) (by rw [size_put];exact hN) ((as1.may a v u).2 hu) (h1.2 v hv ?_)
     obtain ⟨w2,hw2,hg2⟩:=hI2
     refine ⟨w2,hw2,fun j oj hj hs2=>?_⟩
     have hji:j≠i:=by
      rintro rfl
      rcases hs2 with hs2|hs2
      ·rw [hun] at hs2;cases hs2
      ·omega
     have:=hg2 j oj hj (hs2.imp (getD_set_true ·) id)
     rwa [VV sh hmono (S:=S) hi hj hji] at this
theorem Wk.ready {S:Array Bool} {i:Nat} {oi:Oper} (hR:∀ w,C w→R w w) (hu:∀ w,C w→G none undef w) (hi:ops[i]? =some oi) (hin:i<n) (hun:S.getD i false=false) (hw:∀ e∈oi.after,Region.binds .any e=true→S.getD e.on false=true):
  ∀ (m k:Nat) (a:Act) (w:World),k≤i→k+m=n→a.tmps.size=N→C w→(∀ j oj,ops[j]? =some oj→(S.getD j false=true∨j<k)→G oj.dst (slot a oj.dst) w)→Wk P ops C G R S F m k a→StepOk P ops C G R oi a
 | 0,k,a,w,hk,hkm,_,_,_,h=>by omega
 | m+1,k,a,w,hk,hkm,hN,hC,hg,h=>by
  have h1:=h ⟨w,hC,hg⟩
  by_cases hki:k=i
  ·subst hki
   simp only [hi,hun,if_false,Bool.false_eq_true] at h1
   exact h1.1
  ·cases ho:ops[k]? with
   | none=>simp only [ho] at h1
   | some o=>
    simp only [ho] at h1
    split at h1
    ·rename_i hs
     exact Wk.ready hR hu hi hin hun hw m (k+1) a w (by omega) (by omega) hN hC (fun j oj hj hs2=>hg j oj hj (by
      rcases hs2 with hs2|hs2
      ·exact .inl hs2
      ·rcases Nat.lt_or_ge j k with h' |h'
       ·exact .inr h'
       ·obtain rfl:j=k:=by omega
        exact .inl hs)) h1
    ·rename_i hs
     have hno:∀ e∈oi.after,Region.binds .any e=true→e.on≠k:=fun e he hb hek=>by
      have:=hw e he hb
      rw [hek] at this
      exact hs this
     obtain ⟨as1,as2⟩:=sh.Zbx (show k<i by omega) hin ho hi hno
     have hD:Z5 ops G o a w:=fun e he hb oe hoe=>hg e.on oe hoe (.inr (sh.back k o ho (by omega) e he hb))
     obtain ⟨u,w',hm,hC',hR',hG'⟩:=StepOk.some_ sh hmono (k:=k) h1.1 hC hD (hR w hC)
     have hg' :∀ j oj,ops[j]? =some oj→(S.getD j false=true∨j<k+1)→G oj.dst (slot (a.put o.dst u) oj.dst) w' :=fun j oj hj hs2=>by
      by_cases hjk:j=k
      ·subst hjk
       obtain rfl:o=oj:=Option.some.inj (ho.symm.trans hj)
       exact Qt sh hmono hN hj hG' (fun _=>hu w' hC')
      ·rw [VV sh hmono (S:=S) ho hj hjk]
       exact hmono _ _ _ _ hR' (hg j oj hj (hs2.imp id (by omega)))
     have:=Wk.ready hR hu hi hin hun hw m (k+1) (a.put o.dst u) w' (by omega) (by omega) (by rw [size_put];exact hN) hC' hg' (h1.2 u hm ⟨w',hC',hg'⟩)
     exact (as1.step a u).1 this
theorem Wk.done {S:Array Bool}:∀ (m k:Nat) (a:Act) (w:World),k+m=n→(∀ j,j<n→S.getD j false=true)→C w→(∀ j oj,ops[j]? =some oj→(S.getD j false=true∨j<k)→G oj.dst (slot a oj.dst) w)→Wk P ops C G R S F m k a→F a
 | 0,k,a,w,hkm,hall,hC,hg,h=>h ⟨w,hC,hg⟩
 | m+1,k,a,w,hkm,hall,hC,hg,h=>by
  have h1:=h ⟨w,hC,hg⟩
  have hk:=hall k (by omega)
  cases ho:ops[k]? with
  | none=>simp only [ho] at h1
  | some o=>
   simp only [ho,hk,if_true] at h1
   exact Wk.done m (k+1) a w (by omega) hall hC (fun j oj hj hs2=>hg j oj hj (by
    rcases hs2 with hs2|hs2
    ·exact .inl hs2
    ·exact .inl (hall j (by omega)))) h1
end
theorem count_one {i:Nat} {p q:Nat→Bool} (hp:p i=true) (hq:q i=false) (he:∀ j,j≠i→q j=p j):∀ l:List Nat,l.Nodup→(i∈l→l.countP p=l.countP q+1)∧(i ∉ l→l.countP p=l.countP q)
 | [],_=>⟨(fun h=>nomatch h),fun _=>rfl⟩
 | x::l,h=>by
  obtain ⟨h1,h2⟩:=List.nodup_cons.1 h
  obtain ⟨i1,i2⟩:=count_one hp hq he l h2
  by_cases hx:x=i
  ·subst hx
   refine ⟨fun _=>?_,fun hn=>absurd (List.mem_cons_self ..) hn⟩
   have:=i2 h1
   simp [List.countP_cons,hp,hq,this]
  ·refine ⟨fun hm=>?_,fun hn=>?_⟩
   ·have:=i1 ((List.mem_cons.1 hm).resolve_left (Ne.symm hx))
    simp only [List.countP_cons,he x hx,this]
    omega
   ·have:=i2 fun hm=>hn (List.mem_cons_of_mem _ hm)
    simp only [List.countP_cons,he x hx,this]
def unl (n:Nat) (S:Array Bool):Nat:=(List.range n).countP fun i=>S.getD i true==false
theorem ZaD {n i:Nat} {S:Array Bool} (hi:i<n) (hun:S.getD i true=false):unl n S=unl n (S.setIfInBounds i true)+1:=by
 refine ((count_one (i:=i) (by simp [hun]) ?_ fun j hj=>?_) (List.range n) List.nodup_range).1 (List.mem_range.2 hi)
 ·rcases Nat.lt_or_ge i S.size with h|h
  ·simp [h]
  ·simp [Array.getElem?_eq_none h] at hun
 ·rw [getD_set_ne true (Ne.symm hj)]
theorem Za1 {n:Nat} {S:Array Bool} (h:unl n S=0) (hs:n≤S.size):∀ j,j<n→S.getD j false=true:=fun j hj=>by
 have:=List.countP_eq_zero.1 h j (List.mem_range.2 hj)
 have hl:j<S.size:=by omega
 simpa [hl] using this
theorem Za3 {n m:Nat} {S:Array Bool} (h:unl n S=m+1):∃ j,j<n∧S.getD j true=false:=by
 have:0<(List.range n).countP fun i=>S.getD i true==false:=by unfold unl at h;omega
 obtain ⟨j,hj,hp⟩:=List.countP_pos_iff.1 this
 exact ⟨j,List.mem_range.1 hj,by simpa using hp⟩
theorem least {p:Nat→Prop}:∀ k,p k→∃ j,p j∧∀ i,i<j→¬p i:=fun k h=>by
 induction k using Nat.strongRecOn with
 | _ k ih=>
  by_cases hh:∃ i,i<k∧p i
  ·obtain ⟨i,hi,hp⟩:=hh;exact ih i hi hp
  ·exact ⟨k,h,fun i hi hp=>hh ⟨i,hi,hp⟩⟩
theorem Zat {o:Oper} {a:Act} {w:World} {K:Act→World→Prop} {Q:Exit→Act→World→Prop} (hC:C w) (hD:Z5 ops G o a w) (hw:Region.wanted o (yielded ops a.tmps)=true) (h:Good P C G R o a w)
  (hK:∀ u w',May P ops C G o a u→C w' →R w w' →G o.dst u w' →K (a.put o.dst u) w'):o.wp P a w K Q:=by
 unfold Good at h
 unfold May at hK
 simp only [hw,if_true] at hK
 unfold Oper.wp
 have key:∀ r,(execOp a.eval o).run P w=r→WF P C G R o.dst w r→Oper.upon P o a K Q r:=by
  intro r hr hg
  cases r with
  | ok nx w' =>
   cases nx<;>simp only [WF] at hg
   case value u=>exact hK u w' ⟨w,hC,hD,by rw [hr];rfl⟩ hg.2.1 hg.2.2 hg.1
   case skip=>exact hK undef w' ⟨w,hC,hD,by rw [hr];rfl⟩ hg.2.1 hg.2.2 hg.1
   case enter f args=>
    exact Calls.mono hg fun e w2 ⟨u,he,h1,h2,h3⟩=>by subst he;exact hK u w2 ⟨w,hC,hD,by rw [hr];trivial⟩ h2 h3 h1
  | halt x w' =>simp only [WF] at hg
 exact key _ rfl h
theorem Gd (sh:Shape ops n N) (hmono:∀ d u w w',R w w' →G d u w→G d u w') (hR:∀ w,C w→R w w) (hu:∀ w,C w→G none undef w) {g:Nat} {Q:Exit→Act→World→Prop} (S0:Array Bool)
  (htail:∀ S,HeadInv .any ops n S→(∀ j,S0.getD j false=true→S.getD j false=true)→(∃ i,i<n∧S.getD i true=false)→∀ t,n≤t→t ∉ Region.ready .any ops S)
  (hend:∀ S a w,HeadInv .any ops n S→(∀ j,j<n→S.getD j false=true)→C w→(∀ j oj,ops[j]? =some oj→j<n→G oj.dst (slot a oj.dst) w)→F a→wpAny P .any ops Q g S a w):
  ∀ (f:Nat) (S:Array Bool) (a:Act) (w:World),HeadInv .any ops n S→(∀ j,S0.getD j false=true→S.getD j false=true)→unl n S=f→a.tmps.size=N→Inv ops C G S a w→Wk P ops C G R S F n 0 a→wpAny P .any ops Q (f+g) S a w
 | 0,S,a,w,hd,h0s,hf,hN,hI,h=>by
  have hall:=Za1 hf (by rw [hd.size];exact sh.le)
  rw [Nat.zero_add]
  exact hend S a w hd hall hI.1 (fun j oj hj hjn=>hI.2 j oj hj (hall j hjn)) (Wk.done sh hmono n 0 a w (by omega) hall hI.1 (fun j oj hj hs=>hI.2 j oj hj (hs.resolve_right (by omega))) h)
 | f+1,S,a,w,hd,h0s,hf,hN,hI,h=>by
  obtain ⟨k0,hk0,hun0⟩:=Za3 hf
  obtain ⟨k,⟨hk,hun⟩,hmin⟩:=least (p:=fun j=>j<n∧S.getD j true=false) k0 ⟨hk0,hun0⟩
  have hrk:k∈Region.ready .any ops S:=by
   have hks:k<ops.size:=by have:=sh.le;omega
   refine mem_ready.2 ⟨hun,ops[k],Array.getElem?_eq_getElem hks,fun e he hb=>?_⟩
   have hlt:=sh.back k _ (Array.getElem?_eq_getElem hks) hk e he hb
   cases hS:S.getD e.on false with
   | true=>rfl
   | false=>exact absurd ⟨by omega,getD_in (by rw [hd.size];have:=sh.le;omega) hS⟩ (hmin e.on hlt)
  rw [show f+1+g=(f+g)+1 by omega]
  refine ⟨fun h0=>(by rw [h0] at hrk;cases hrk),fun i hi=>?_⟩
  have hin:i<n:=by
   rcases Nat.lt_or_ge i n with h' |h'
   ·exact h'
   ·exact absurd hi (htail S hd h0s ⟨k,hk,hun⟩ i h')
  obtain ⟨huni,oi,hoi,hall⟩:=mem_ready.1 hi
  have hunf:S.getD i false=false:=getD_both huni
  have hst:=Wk.ready sh hmono hR hu hoi hin hunf hall n 0 a w (by omega) (by omega) hN hI.1 (fun j oj hj hs=>hI.2 j oj hj (hs.resolve_right (by omega))) h
  have hD:Z5 ops G oi a w:=fun e he hb oe hoe=>hI.2 e.on oe hoe (hall e he hb)
  have hnext:∀ u w',May P ops C G oi a u→C w' →R w w' →G oi.dst u w' →wpAny P .any ops Q (f+g) (S.setIfInBounds i true) (a.put oi.dst u) w' :=fun u w' hm hC' hR' hG' =>by
   refine Gd sh hmono hR hu S0 htail hend f _ _ w' (hd.set hi hin) (fun j hj=>getD_set_true (h0s j hj)) ?_ (by rw [size_put];exact hN) ⟨hC',fun j oj hj hs=>?_⟩ (Wk.front sh hmono hoi hin (by rw [hd.size]) hunf hall n 0 a (by omega) (by omega) hN hm h)
   ·have:=ZaD hin huni;omega
   ·by_cases hji:j=i
    ·subst hji
     obtain rfl:oi=oj:=Option.some.inj (hoi.symm.trans hj)
     exact Qt sh hmono hN hj hG' (fun _=>hu w' hC')
    ·rw [VV sh hmono (S:=S) hoi hj hji]
     rw [getD_set_ne false (Ne.symm hji)] at hs
     exact hmono _ _ _ _ hR' (hI.2 j oj hj hs)
  unfold wpOp
  simp only [hoi]
  split
  ·rename_i hw
   refine .inl (Zat hI.1 hD hw ?_ hnext)
   unfold StepOk at hst
   simp only [hw,if_true] at hst
   exact hst w hI.1 hD
  ·rename_i hw
   unfold StepOk at hst
   rw [if_neg hw] at hst
   exact hnext undef w (by unfold May;rw [if_neg hw]) hI.1 (hR w hI.1) (hst w hI.1)
def X9 (n m:Nat):Array Bool:=(List.replicate n true++List.replicate (m - n) false).toArray
def GY (ops:Array Oper) (n:Nat):Bool:=(List.range n).all fun k=>match ops[k]? with
 | some o=>o.after.all fun e=>!Region.binds .any e||decide (e.on<k)
 | none=>true
def ZaZ (ops:Array Oper) (n:Nat):Bool:=(List.range n).all fun i=>(List.range i).all fun k=>match ops[i]?,ops[k]? with
 | some oi,some ok=>oi.after.any (fun e=>Region.binds .any e&&e.on==k)||ok.apart ops oi
 | _,_=>true
def zV (ops:Array Oper) (S0:Array Bool) (n:Nat):Bool:=(List.range n).all fun i=>S0.getD i false||(List.range (n+1)).any fun j=>decide (i<j)&&Region.waitsFor .any ops j i
def UT (ops:Array Oper) (S0:Array Bool) (n:Nat):Bool:=decide (S0.size=ops.size)&&(List.range ops.size).all fun j=>!S0.getD j false||(decide (j<n)&&match ops[j]? with
 | some o=>o.after.all fun e=>!Region.binds .any e||S0.getD e.on false
 | none=>true)
def U1 (ops:Array Oper) (n:Nat):Bool:=(List.range ops.size).all fun t=>decide (t≤n)||(List.range ops.size).any fun j=>decide (n≤j)&&Region.waitsFor .any ops t j
def VQ (ops:Array Oper) (S0:Array Bool) (n N:Nat):Bool:=
 Region.noSelect ops&&VM ops N&&decide (n≤ops.size)&&GY ops n&&ZaZ ops n&&(decide (n=ops.size)||(decide (n<ops.size)&&zV ops S0 n&&U1 ops n))&&UT ops S0 n
def Js (ops:Array Oper) (S0:Array Bool) (n N:Nat):Bool:=VQ ops S0 n N&&Region.seqB .any ops (ops.size - n) n (X9 n ops.size)
theorem Gi {S0:Array Bool} {n:Nat} (h:UT ops S0 n=true):HeadInv .any ops n S0:=by
 simp only [UT,Bool.and_eq_true,decide_eq_true_eq] at h
 have key:∀ j,S0.getD j false=true→j<ops.size∧j<n∧∀ o,ops[j]? =some o→∀ e∈o.after,Region.binds .any e=true→S0.getD e.on false=true:=fun j hj=>by
  have hjs:j<ops.size:=by
   rcases Nat.lt_or_ge j S0.size with h' |h'
   ·rw [←h.1];exact h'
   ·simp [Array.getElem?_eq_none h'] at hj
  have h1:=List.all_eq_true.1 h.2 j (List.mem_range.2 hjs)
  simp only [hj,Bool.not_true,Bool.false_or,Bool.and_eq_true,decide_eq_true_eq] at h1
  refine ⟨hjs,h1.1,fun o ho e he hb=>?_⟩
  have h2:=h1.2
  simp only [ho] at h2
  have h3:=Array.all_eq_true'.1 h2 e he
  simpa only [hb,Bool.not_true,Bool.false_or] using h3
 refine ⟨h.1,fun j oj hj hl e he hb=>(key j hl).2.2 oj hj e he hb,fun t ht htl=>?_⟩
 cases hS:S0.getD t true with
 | false=>rfl
 | true=>
  have:S0.getD t false=true:=by
   have hl:t<S0.size:=by rw [h.1];exact htl
   simpa [hl] using hS
  have:=(key t this).2.1
  omega
theorem ZcU {n:Nat} {S0 listed:Array Bool} (hs:zV ops S0 n=true) (hc:U1 ops n=true) (hn:n<ops.size) (inv:HeadInv .any ops n listed) (h0:∀ j,S0.getD j false=true→listed.getD j false=true):
  ∀ (d i:Nat),n - i=d→i<n→listed.getD i true=false→∀ t,n≤t→t ∉ Region.ready .any ops listed:=by
 intro d
 induction d using Nat.strongRecOn with
 | _ d ih=>
  intro i hd hi hun t ht hr
  obtain ⟨_,ot,hot,hall⟩:=mem_ready.1 hr
  have htlt:t<ops.size:=(Array.getElem?_eq_some_iff.1 hot).1
  by_cases htn:t=n
  ·subst htn
   have h1:=List.all_eq_true.1 hs i (List.mem_range.2 hi)
   have hnot:S0.getD i false=false:=by
    cases hS:S0.getD i false with
    | false=>rfl
    | true=>have:=h0 i hS;rw [getD_both hun] at this;cases this
   rw [hnot,Bool.false_or] at h1
   obtain ⟨j,hj,hj2⟩:=List.any_eq_true.1 h1
   simp only [Bool.and_eq_true,decide_eq_true_eq] at hj2
   obtain ⟨oj,hoj,e,he,hb,hon⟩:=Region.waitsFor_spec hj2.2
   have hjle:j≤t:=by have:=List.mem_range.1 hj;omega
   by_cases hjt:j=t
   ·subst hjt
    have:oj=ot:=Option.some.inj (hoj.symm.trans hot)
    subst this
    have h2:=hall e he hb
    rw [hon,getD_both hun] at h2
    cases h2
   ·cases hl:listed.getD j false with
    | true=>
     have h2:=inv.closed j oj hoj hl e he hb
     rw [hon,getD_both hun] at h2
     cases h2
    | false=>
     have hjs:j<listed.size:=by rw [inv.size];omega
     exact ih (t - j) (by omega) j rfl (by omega) (getD_in hjs hl) t (Nat.le_refl _) hr
  ·have h1:=List.all_eq_true.1 hc t (List.mem_range.2 htlt)
   simp only [Bool.or_eq_true,decide_eq_true_eq] at h1
   rcases h1 with h1|h1
   ·omega
   ·obtain ⟨j,hj,hj2⟩:=List.any_eq_true.1 h1
    simp only [Bool.and_eq_true,decide_eq_true_eq] at hj2
    obtain ⟨o',ho',e,he,hb,hon⟩:=Region.waitsFor_spec hj2.2
    have:o' =ot:=Option.some.inj (ho'.symm.trans hot)
    subst this
    have h2:=hall e he hb
    rw [hon,getD_both (inv.tail j hj2.1 (List.mem_range.1 hj))] at h2
    cases h2
theorem Ze4 {S0:Array Bool} {n N:Nat} (h:VQ ops S0 n N=true):Shape ops n N:=by
 simp only [VQ,Bool.and_eq_true,decide_eq_true_eq] at h
 obtain ⟨⟨⟨⟨⟨⟨hsel,hd⟩,hn⟩,hb⟩,ha⟩,_⟩,_⟩:=h
 refine ⟨hd,hn,fun k o hk hkn e he hbd=>?_,fun k i ok oi hki hin hk hi hno=>?_,Region.noSelect_spec hsel⟩
 ·have h1:=List.all_eq_true.1 hb k (List.mem_range.2 hkn)
  simp only [hk] at h1
  have h2:=Array.all_eq_true'.1 h1 e he
  simp only [hbd,Bool.not_true,Bool.false_or,decide_eq_true_eq] at h2
  exact h2
 ·have h1:=List.all_eq_true.1 (List.all_eq_true.1 ha i (List.mem_range.2 hin)) k (List.mem_range.2 hki)
  simp only [hk,hi,Bool.or_eq_true] at h1
  refine h1.resolve_left fun h2=>?_
  obtain ⟨e,he,hb2⟩:=Array.any_eq_true'.1 h2
  simp only [Bool.and_eq_true,beq_iff_eq] at hb2
  exact hno e he hb2.1 hb2.2
theorem zH {S:Array Bool} (hs:S.size=ops.size) (hn:n≤ops.size) (h1:∀ j,j<n→S.getD j false=true) (h2:∀ t,n≤t→t<ops.size→S.getD t true=false):S=X9 n ops.size:=by
 apply Array.ext
 ·simp [X9,hs];omega
 ·intro j hj hj'
  rcases Nat.lt_or_ge j n with h|h
  ·have:=h1 j h
   simp [hj] at this
   simp [X9,List.getElem_append,h,this]
  ·have:=h2 j h (by omega)
   simp [hj] at this
   simp [X9,List.getElem_append,Nat.not_lt.2 h,this]
def Zcm (ops:Array Oper) (C:World→Prop) (G:Option Tmp→Value→World→Prop) (k:Nat) (a:Act):Prop:=∃ w,C w∧∀ j oj,ops[j]? =some oj→j<k→G oj.dst (slot a oj.dst) w
def Zn (P:Program) (ops:Array Oper) (C:World→Prop) (G:Option Tmp→Value→World→Prop) (R:World→World→Prop) (S0:Array Bool) (F:Act→Prop):Nat→List Oper→Act→Prop
 | k,[],a=>Zcm ops C G k a→F a
 | k,o::rest,a=>if S0.getD k false=true then Zn P ops C G R S0 F (k+1) rest a else StepOk P ops C G R o a∧∀ u,May P ops C G o a u→(∀ d,o.dst=some d→∃ w,C w∧G (some d) u w)→Zn P ops C G R S0 F (k+1) rest (a.put o.dst u)
theorem UF {S0:Array Bool} (sh:Shape ops n N):∀ (l:List Oper) (k:Nat) (a:Act),(∀ j,j<l.length→l[j]? =ops[k+j]?)→k+l.length=n→a.tmps.size=N→Zn P ops C G R S0 F k l a→Wk P ops C G R S0 F l.length k a
 | [],k,a,_,hk,hN,h=>fun ⟨w,hw,hg⟩=>h ⟨w,hw,fun j oj hj hjk=>hg j oj hj (.inr hjk)⟩
 | o::l,k,a,hl,hk,hN,h=>fun _=>by
  have h0:ops[k]? =some o:=by simpa using (hl 0 (by simp)).symm
  simp only [h0]
  unfold Zn at h
  split at h
  ·rename_i hs
   simp only [hs,if_true]
   exact UF sh l (k+1) a (fun j hj=>by have:=hl (j+1) (by simp;omega);simpa [Nat.add_assoc,Nat.add_comm 1 j] using this) (by simp only [List.length_cons] at hk;omega) hN h
  ·rename_i hs
   rw [if_neg hs]
   refine ⟨h.1,fun u hu hI=>UF sh l (k+1) _ (fun j hj=>by have:=hl (j+1) (by simp;omega);simpa [Nat.add_assoc,Nat.add_comm 1 j] using this) (by simp only [List.length_cons] at hk;omega) (by rw [size_put];exact hN) (h.2 u hu fun d hd=>?_)⟩
   obtain ⟨w,hw,hg⟩:=hI
   refine ⟨w,hw,?_⟩
   have h1:=hg k o h0 (.inr (by omega))
   rw [hd,zS (by rw [hN];exact Gg sh.dsts h0 hd)] at h1
   exact h1
theorem ZcK {Q:Exit→Act→World→Prop} {a:Act} {w:World} {l:List Oper} (S0:Array Bool) (n N:Nat) (C:World→Prop) (G:Option Tmp→Value→World→Prop) (R:World→World→Prop) {fuel:Nat}
  (hB:VQ l.toArray S0 n N=true) (hf:fuel=unl n S0+(l.length - n)) (hN:a.tmps.size=N) (hmono:∀ d u w w',R w w' →G d u w→G d u w') (hR:∀ w,C w→R w w) (hu:∀ w,C w→G none undef w) (hC:C w)
  (h0:∀ j oj,l[j]? =some oj→S0.getD j false=true→G oj.dst (slot a oj.dst) w)
  (h:Zn P l.toArray C G R S0 (fun a' =>∀ w',C w' →(∀ j oj,l[j]? =some oj→j<n→G oj.dst (slot a' oj.dst) w')→wpAny P .any l.toArray Q (l.length - n) (X9 n l.length) a' w') 0 (l.take n) a):wpAny P .any l.toArray Q fuel S0 a w:=by
 have sh:=Ze4 hB
 have hB' :=hB
 simp only [VQ,Bool.and_eq_true,Bool.or_eq_true,decide_eq_true_eq] at hB'
 obtain ⟨⟨⟨⟨⟨⟨hsel,hd⟩,hn⟩,hb⟩,ha⟩,hsc⟩,hcl⟩:=hB'
 have hnl:n≤l.length:=by simpa using hn
 have htl:(l.take n).length=n:=by simp;omega
 have hw:=UF sh (l.take n) 0 a (fun j hj=>by
  have hj' :j<n:=by rw [htl] at hj;exact hj
  simp [hj']) (by simpa using htl) hN h
 rw [htl] at hw
 have:=Gd (Q:=Q) (g:=l.length - n) sh hmono hR hu S0 (fun S hI h0s hex t ht hr=>?_) (fun S a' w' hI hall hC' hg hF=>?_) _ S0 a w
  (Gi hcl) (fun _ h=>h) rfl hN ⟨hC,fun j oj hj hs=>h0 j oj (by simpa using hj) hs⟩ hw
 ·rw [hf];exact this
 ·obtain ⟨i,hi,hun⟩:=hex
  rcases hsc with hsc|⟨⟨hlt,hs⟩,hc⟩
  ·have:=(mem_ready.1 hr).2
   obtain ⟨o,ho,_⟩:=this
   have:=(Array.getElem?_eq_some_iff.1 ho).1
   omega
  ·exact ZcU hs hc hlt hI h0s _ i rfl hi hun t ht hr
 ·have hSeq:=zH hI.size hn hall hI.tail
  rw [show l.toArray.size=l.length from by simp] at hSeq
  rw [hSeq]
  exact hF w' hC' fun j oj hj hjn=>hg j oj (by simpa using hj) hjn
theorem Um {F F' :Act→Prop} (hF:∀ a,F a→F' a) {S0:Array Bool}:∀ (l' :List Oper) (k:Nat) (a:Act),Zn P ops C G R S0 F k l' a→Zn P ops C G R S0 F' k l' a
 | [],k,a,h=>fun hI=>hF a (h hI)
 | o::l',k,a,h=>by
  unfold Zn at h ⊢
  split
  ·rename_i hs;rw [if_pos hs] at h;exact Um hF l' _ _ h
  ·rename_i hs;rw [if_neg hs] at h;exact ⟨h.1,fun u hu hd=>Um hF l' _ _ (h.2 u hu hd)⟩
theorem Zey {Q:Exit→Act→World→Prop} {a:Act} {w:World} {l:List Oper} (S0:Array Bool) (n N:Nat) (C:World→Prop) (G:Option Tmp→Value→World→Prop) (R:World→World→Prop) {fuel:Nat}
  (hB:Js l.toArray S0 n N=true) (hf:fuel=unl n S0+(l.length - n)) (hN:a.tmps.size=N) (hmono:∀ d u w w',R w w' →G d u w→G d u w') (hR:∀ w,C w→R w w) (hu:∀ w,C w→G none undef w) (hC:C w)
  (h0:∀ j oj,l[j]? =some oj→S0.getD j false=true→G oj.dst (slot a oj.dst) w)
  (h:Zn P l.toArray C G R S0 (fun a' =>∀ w',C w' →(∀ j oj,l[j]? =some oj→j<n→G oj.dst (slot a' oj.dst) w')→wpList P l.toArray Q (l.drop n) a' w') 0 (l.take n) a):wpAny P .any l.toArray Q fuel S0 a w:=by
 simp only [Js,Bool.and_eq_true] at hB
 have hdl:(l.drop n).length=l.length - n:=by simp
 refine ZcK S0 n N C G R hB.1 hf hN hmono hR hu hC h0 (Um (fun a' hF w' hC' hg=>?_) _ _ _ h)
 have:=wpAny_of_seq (md:=.any) (Q' :=Q) (ops:=l.toArray) (l.drop n) n (X9 n l.length) a' w' (fun j=>by simp [List.getElem?_drop]) (by rw [hdl];simpa using hB.2) (hF w' hC' hg)
 rwa [hdl] at this
section
variable {o:Oper} {rest:List Oper} {a:Act} {k:Nat} {S0:Array Bool}
theorem ZE (h:F a):Zn P ops C G R S0 F k [] a:=fun _=>h
theorem ZdT (hS:S0.getD k false=false) (hw:Region.wanted o (yielded ops a.tmps)=false) (hG:∀ w,C w→G o.dst undef w) (hn:Zn P ops C G R S0 F (k+1) rest (a.put o.dst undef)):Zn P ops C G R S0 F k (o::rest) a:=by
 unfold Zn
 rw [hS,if_neg (by simp)]
 refine ⟨by unfold StepOk;simp only [hw,if_false,Bool.false_eq_true];exact hG,fun u hu _=>?_⟩
 unfold May at hu
 simp only [hw,if_false,Bool.false_eq_true] at hu
 subst hu
 exact hn
theorem zF (hR:∀ w,C w→R w w) (hS:S0.getD k false=false) (hw:Region.wanted o (yielded ops a.tmps)=true) (u:Value) (hrun:∀ w,C w→Z5 ops G o a w→(execOp a.eval o).run P w=.ok (.value u) w) (hG:∀ w,C w→Z5 ops G o a w→G o.dst u w) (hn:Zn P ops C G R S0 F (k+1) rest (a.put o.dst u)):Zn P ops C G R S0 F k (o::rest) a:=by
 unfold Zn
 rw [hS,if_neg (by simp)]
 refine ⟨by unfold StepOk;simp only [hw,if_true];intro w hC hD;unfold Good;rw [hrun w hC hD];exact ⟨hG w hC hD,hC,hR w hC⟩,fun x hx _=>?_⟩
 unfold May at hx
 simp only [hw,if_true] at hx
 obtain ⟨w,hC,hD,hm⟩:=hx
 rw [hrun w hC hD] at hm
 obtain rfl:x=u:=hm
 exact hn
theorem GL (hS:S0.getD k false=false) (hw:Region.wanted o (yielded ops a.tmps)=true) (f:FuncId) (args:Array Value) (d:Tmp) (hd:o.dst=some d) (hrun:∀ w,C w→Z5 ops G o a w→(execOp a.eval o).run P w=.ok (.enter f args) w)
  (hc:∀ w,C w→Z5 ops G o a w→Calls P f args w fun e w' =>∃ u,e=.returned u∧G (some d) u w' ∧C w' ∧R w w') (hn:∀ u w,C w→G (some d) u w→Zn P ops C G R S0 F (k+1) rest (a.put (some d) u)):Zn P ops C G R S0 F k (o::rest) a:=by
 unfold Zn
 rw [hS,if_neg (by simp)]
 refine ⟨by unfold StepOk;simp only [hw,if_true];intro w hC hD;unfold Good;rw [hrun w hC hD,hd];exact hc w hC hD,fun x _ hx=>?_⟩
 obtain ⟨w,hC,hg⟩:=hx d hd
 rw [hd]
 exact hn x w hC hg
theorem Zej (hS:S0.getD k false=false) (hw:Region.wanted o (yielded ops a.tmps)=true) (ob:Obj) (d:Tmp) (hd:o.dst=some d) (mk:Nat→Value) (hrun:∀ w,C w→Z5 ops G o a w→(execOp a.eval o).run P w=.ok (.value (mk w.heap.size)) (w.alloc ob))
  (hc:∀ w,C w→Z5 ops G o a w→G (some d) (mk w.heap.size) (w.alloc ob)∧C (w.alloc ob)∧R w (w.alloc ob)) (hn:∀ g w,C w→G (some d) (mk g) w→Zn P ops C G R S0 F (k+1) rest (a.put (some d) (mk g))):Zn P ops C G R S0 F k (o::rest) a:=by
 unfold Zn
 rw [hS,if_neg (by simp)]
 refine ⟨by unfold StepOk;simp only [hw,if_true];intro w hC hD;unfold Good;rw [hrun w hC hD,hd];exact hc w hC hD,fun x hm hx=>?_⟩
 obtain ⟨w,hC,hg⟩:=hx d hd
 unfold May at hm
 simp only [hw,if_true] at hm
 obtain ⟨w',hC',hD',hm⟩:=hm
 rw [hrun w' hC' hD'] at hm
 obtain rfl:x=mk w'.heap.size:=hm
 rw [hd]
 exact hn _ w hC hg
end
end
end Go.Proofs.YtnbbllkbefagmaaGreatDoor
namespace Go.Proofs.YtnbbllkbefagmaaGreatDoor
open Go
set_option linter.unusedVariables false
set_option linter.unusedSimpArgs false
abbrev Sp:=Tmp→Option (Value→Prop)
section
variable {P:Program} {C:World→Prop} {sp:Sp} {F:Act→Prop} {S0:Array Bool}
variable {ops:Array Oper} {o:Oper} {rest:List Oper} {a:Act} {k:Nat}
end
end Go.Proofs.YtnbbllkbefagmaaGreatDoor
namespace Go.Proofs.YtnbbllkbefagmaaGreatDoor
open Go.RowKit
set_option linter.unusedVariables false
set_option linter.unusedSimpArgs false
def Z6 (n:Nat) (u:Value):Prop:=∃ r:Nat,r<n∧u=.int .i64 r
section
variable {sp:Sp} {F:Act→Prop} {S0:Array Bool} {ops:Array Oper} {o:Oper} {rest:List Oper} {a:Act} {k:Nat} {M:Nat→Prop} {row:Option Nat} {w0:World} {L:List Hp} {T:Nat}
end
end Go.Proofs.YtnbbllkbefagmaaGreatDoor
namespace Go.Proofs.YtnbbllkbefagmaaGreatDoor
open Go.RowKit
set_option linter.unusedVariables false
set_option linter.unusedSimpArgs false
abbrev SpW:=Tmp→Option (Value→World→Prop)
def GW (sp:SpW) (d:Option Tmp) (u:Value) (w:World):Prop:=match d.bind sp with|some V=>V u w|none=>True
def RM (M:Nat→Prop) (w w' :World):Prop:=w.heap.size≤w'.heap.size∧∀ b,b<w.heap.size→¬M b→w'.heap[b]? =w.heap[b]?
theorem RM.refl (M:Nat→Prop) (w:World):RM M w w:=⟨Nat.le_refl _,fun _ _ _=>rfl⟩
theorem RM.trans {M:Nat→Prop} {a b c:World} (h:RM M a b) (k:RM M b c):RM M a c:=⟨Nat.le_trans h.1 k.1,fun x hx hn=>(k.2 x (Nat.lt_of_lt_of_le hx h.1) hn).trans (h.2 x hx hn)⟩
theorem RM.below {M:Nat→Prop} {w w' :World} (h:Below w.heap.size w w'):RM M w w' :=⟨h.size,fun b hb _=>h.block b hb⟩
theorem RM.grown {M:Nat→Prop} {w w' :World} {T:Nat} (h:w.grownBy w' (some T)) (hT:M T):RM M w w' :=⟨h.size,fun b hb hn=>h.block b hb (fun e=>by injection e with e;subst e;exact hn hT)⟩
theorem RM.alloc (M:Nat→Prop) (w:World) (o:Obj):RM M w (w.alloc o):=⟨by simp,fun b hb _=>Below.heap_alloc w o b hb⟩
theorem RM.ro {M:Nat→Prop} {w w' :World} (h:RM M w w') {S:World→Prop} (hs:Ro w M S):Ro w' M S:=hs.step h.1 h.2 (fun _ _ h=>h)
def Ug (M:Nat→Prop) (sp:SpW):Prop:=∀ d V,sp d=some V→∀ u w w',RM M w w' →V u w→V u w'
def spL (l:List (Tmp × (Value→World→Prop))):SpW:=fun d=>(l.find? fun p=>p.1==d).map (·.2)
theorem ZF (M:Nat→Prop):Ug M (spL []):=fun d V h=>nomatch h
theorem Ze {M:Nat→Prop} {d:Tmp} {V:Value→World→Prop} {l:List (Tmp × (Value→World→Prop))} (h:∀ u w w',RM M w w' →V u w→V u w') (hl:Ug M (spL l)):Ug M (spL ((d,V)::l)):=fun t V' hV=>by
 unfold spL at hV
 rw [List.find?_cons] at hV
 split at hV
 ·simp only [Option.map_some,Option.some.injEq] at hV
  subst hV
  exact h
 ·exact hl t V' hV
theorem QC {sp:SpW} {d:Option Tmp} {u:Value} {w:World} (h:d.bind sp=none):GW sp d u w:=by unfold GW;rw [h];trivial
theorem Zp {sp:SpW} {d:Tmp} {V:Value→World→Prop} (h:sp d=some V) {u:Value} {w:World}:GW sp (some d) u w↔V u w:=by unfold GW;simp only [Option.bind_some,h]
def Jp (ops:Array Oper) (S0:Array Bool) (sp:SpW):Bool:=(List.range ops.size).all fun j=>!S0.getD j false||(((ops[j]?).bind (·.dst)).bind sp).isNone
theorem J4 {ops:Array Oper} {S0:Array Bool} {sp:SpW} (h:Jp ops S0 sp=true) {j:Nat} {o:Oper} (ho:ops[j]? =some o) (hs:S0.getD j false=true) {u:Value} {w:World}:GW sp o.dst u w:=by
 have h1:=List.all_eq_true.1 h j (List.mem_range.2 (Array.getElem?_eq_some_iff.1 ho).1)
 simp only [hs,Bool.not_true,Bool.false_or,ho,Option.bind_some] at h1
 exact QC (Option.isNone_iff_eq_none.1 h1)
def HC (M:Nat→Prop) (row:Option Nat) (w0 w1:World) (L:List Hp) (w:World):Prop:=Hold M row w0 w L∧RM (Mut M L) w1 w
section
variable {P:Program} {M:Nat→Prop} {row:Option Nat} {w0 w1:World} {L:List Hp} {sp:SpW} {F:Act→Prop} {S0:Array Bool}
theorem ZH {Q:Exit→Act→World→Prop} {a:Act} {w:World} {l:List Oper} (n N:Nat) (L:List Hp) (sp:SpW) {fuel:Nat}
  (hB:Js l.toArray S0 n N=true) (hO:Jp l.toArray S0 sp=true) (hf:fuel=unl n S0+(l.length - n)) (hN:a.tmps.size=N) (hs:Ug (Mut M L) sp) (hC:Hold M row w0 w L)
  (h:Zn P l.toArray (HC M row w0 w L) (GW sp) (RM (Mut M L)) S0 (fun a' =>∀ w',Hold M row w0 w' L→RM (Mut M L) w w' →(∀ j oj,l[j]? =some oj→j<n→GW sp oj.dst (slot a' oj.dst) w')→wpList P l.toArray Q (l.drop n) a' w') 0 (l.take n) a):wpAny P .any l.toArray Q fuel S0 a w:=by
 refine Zey S0 n N (HC M row w0 w L) (GW sp) (RM (Mut M L)) hB hf hN (fun d u w w' hr hg=>?_) (fun w _=>RM.refl _ w) (fun _ _=>trivial) ⟨hC,RM.refl _ _⟩ (fun j oj hj hs=>J4 hO (by simpa using hj) hs) (Um (fun a' hF w' hC' hg=>hF w' hC'.1 hC'.2 hg) _ _ _ h)
 unfold GW at hg ⊢
 cases hd:d.bind sp with
 | none=>trivial
 | some V=>
  rw [hd] at hg
  obtain ⟨t,rfl,ht⟩:=Option.bind_eq_some_iff.1 hd
  exact hs t V ht u w w' hr hg
variable {ops:Array Oper} {o:Oper} {rest:List Oper} {a:Act} {k:Nat}
theorem V5 (hS:S0.getD k false=false) (hw:Region.wanted o (yielded ops a.tmps)=true) (hoff:o.dst.bind sp=none) (h:∃ u,(∀ w,Hold M row w0 w L→(execOp a.eval o).run P w=.ok (.value u) w)∧Zn P ops (HC M row w0 w1 L) (GW sp) (RM (Mut M L)) S0 F (k+1) rest (a.put o.dst u)):Zn P ops (HC M row w0 w1 L) (GW sp) (RM (Mut M L)) S0 F k (o::rest) a:=
 let ⟨u,h1,h2⟩:=h
 zF (fun w _=>RM.refl _ w) hS hw u (fun w hC _=>h1 w hC.1) (fun _ _ _=>QC hoff) h2
theorem dv {u:Value} (hS:S0.getD k false=false) (hw:Region.wanted o (yielded ops a.tmps)=true) (hoff:o.dst.bind sp=none) (h1:(∀ w,Hold M row w0 w L→(execOp a.eval o).run P w=.ok (.value u) w)) (h2:Zn P ops (HC M row w0 w1 L) (GW sp) (RM (Mut M L)) S0 F (k+1) rest (a.put o.dst u)):Zn P ops (HC M row w0 w1 L) (GW sp) (RM (Mut M L)) S0 F k (o::rest) a:=V5 hS hw hoff ⟨u,h1,h2⟩
theorem dw_skip (hS:S0.getD k false=false) (hw:Region.wanted o (yielded ops a.tmps)=false) (hoff:o.dst.bind sp=none) (hn:Zn P ops (HC M row w0 w1 L) (GW sp) (RM (Mut M L)) S0 F (k+1) rest (a.put o.dst undef)):Zn P ops (HC M row w0 w1 L) (GW sp) (RM (Mut M L)) S0 F k (o::rest) a:=
 ZdT hS hw (fun _ _=>QC hoff) hn
theorem ZaY {f:FuncId} {args:Array Value} (d:Tmp) (V:Value→World→Prop) (hS:S0.getD k false=false) (hw:Region.wanted o (yielded ops a.tmps)=true) (hd:o.dst=some d) (hsp:sp d=some V) (hrun:∀ w,(execOp a.eval o).run P w=.ok (.enter f args) w)
  (hc:∀ w,Hold M row w0 w L→Z5 ops (GW sp) o a w→Calls P f args w fun e w' =>∃ u,e=.returned u∧V u w' ∧Hold M row w0 w' L∧RM (Mut M L) w w') (hn:∀ u w,Hold M row w0 w L→V u w→Zn P ops (HC M row w0 w1 L) (GW sp) (RM (Mut M L)) S0 F (k+1) rest (a.put (some d) u)):Zn P ops (HC M row w0 w1 L) (GW sp) (RM (Mut M L)) S0 F k (o::rest) a:=
 GL hS hw f args d hd (fun w _ _=>hrun w) (fun w hC hD=>(hc w hC.1 hD).mono fun e' w' ⟨u,h1,h2,h3,h4⟩=>⟨u,h1,(Zp hsp).2 h2,⟨h3,hC.2.trans h4⟩,h4⟩) fun u w hC hu=>hn u w hC.1 ((Zp hsp).1 hu)
theorem Ye (cs:Array Value) (t:TypeId) (d:Tmp) (V:Value→World→Prop) (mk:Nat→Value) (hS:S0.getD k false=false) (hw:Region.wanted o (yielded ops a.tmps)=true) (hd:o.dst=some d) (hsp:sp d=some V) (hrun:∀ w,(execOp a.eval o).run P w=.ok (.value (mk w.heap.size)) (w.alloc (.cells cs t)))
  (hc:∀ w,Hold M row w0 w L→RM (Mut M L) w1 w→Z5 ops (GW sp) o a w→(∀ M',(∀ b,M' b→b<w.heap.size)→Ro (w.alloc (.cells cs t)) M' (fun w' =>w'.heap[w.heap.size]? =some (.cells cs t (0,0))))→V (mk w.heap.size) (w.alloc (.cells cs t))) (hn:∀ g w,Hold M row w0 w L→V (mk g) w→Zn P ops (HC M row w0 w1 L) (GW sp) (RM (Mut M L)) S0 F (k+1) rest (a.put (some d) (mk g))):Zn P ops (HC M row w0 w1 L) (GW sp) (RM (Mut M L)) S0 F k (o::rest) a:=
 Zej hS hw (.cells cs t) d hd mk (fun w _ _=>hrun w) (fun w hC hD=>⟨(Zp hsp).2 (hc w hC.1 hC.2 hD fun M' hM' w2 h1 h2=>(h2 w.heap.size (by simp) (fun hm=>Nat.lt_irrefl _ (hM' _ hm))).trans (heap_alloc_new w _)),⟨(hC.1.Za cs t).drop (List.sublist_cons_self _ _),hC.2.trans (RM.alloc _ w _)⟩,RM.alloc _ w _⟩) fun g w hC hg=>hn g w hC.1 ((Zp hsp).1 hg)
theorem ZV {w:World} (h:Z5 ops (GW sp) o a w) (j:Nat) {oj:Oper} (hj:ops[j]? =some oj) (he:(o.after.any fun e=>Region.binds .any e&&e.on==j)=true) {d:Tmp} (hd:oj.dst=some d) {V:Value→World→Prop} (hsp:sp d=some V):V (slot a (some d)) w:=by
 obtain ⟨e,hm,hb⟩:=Array.any_eq_true'.1 he
 simp only [Bool.and_eq_true,beq_iff_eq] at hb
 have:=h e hm hb.1 oj (by rw [hb.2];exact hj)
 rw [hd] at this
 exact (Zp hsp).1 this
end
section
variable {M:Nat→Prop} {row:Option Nat} {w0 w1:World} {L:List Hp} {sp:SpW} {F:Act→Prop} {S0:Array Bool} {ops:Array Oper} {o:Oper} {rest:List Oper} {a:Act} {k:Nat} {T:Nat}
theorem Yk (n:Nat) (i:Nat) (hi:L[i]? =some (.tp T)) (d:Tmp) (hS:S0.getD k false=false) (hw:Region.wanted o (yielded ops a.tmps)=true) (hd:o.dst=some d) (hsp:sp d=some (fun u _=>Z6 n u))
  (hrun:∀ w,(execOp a.eval o).run Tryz.prog w=.ok (.enter 31 #[.pointer (some ⟨T,0,none⟩),.int .i64 n]) w) (hn:∀ r:Nat,r<n→Zn Tryz.prog ops (HC M row w0 w1 L) (GW sp) (RM (Mut M L)) S0 F (k+1) rest (a.put (some d) (.int .i64 r)))
  (hpos:0<n:=by omega) (hmax:n≤9223372036854775807:=by omega):Zn Tryz.prog ops (HC M row w0 w1 L) (GW sp) (RM (Mut M L)) S0 F k (o::rest) a:=by
 refine ZaY d (fun u _=>Z6 n u) hS hw hd hsp hrun (fun w HC _=>?_) (fun u _ _ ⟨r,hr,hu⟩=>by subst hu;exact hn r hr)
 refine (ZQ T n w (HC.tp_ i hi) (by omega) (by omega)).mono ?_
 rintro e w5 ⟨r,rfl,r0,r1,t5,g5⟩
 exact ⟨_,rfl,⟨r.toNat,by omega,by rw [Int.toNat_of_nonneg r0]⟩,Hold.Zf HC i hi g5 t5,RM.grown g5 (.inr ⟨_,List.mem_of_getElem? hi,rfl⟩)⟩
end
end Go.Proofs.YtnbbllkbefagmaaGreatDoor
namespace Go.Proofs.YtnbbllkbefagmaaGreatDoor
open Go.RowKit
set_option linter.unusedVariables false
set_option linter.unusedSimpArgs false
section
variable {P:Program} {M:Nat→Prop} {row:Option Nat} {w0 w1:World} {L:List Hp} {sp:SpW} {F:Act→Prop} {S0:Array Bool}
variable {ops:Array Oper} {o:Oper} {rest:List Oper} {a:Act} {k:Nat}
theorem Zq {f:FuncId} {args:Array Value} (d:Tmp) (V:Value→World→Prop) (hS:S0.getD k false=false) (hw:Region.wanted o (yielded ops a.tmps)=true) (hd:o.dst=some d) (hsp:sp d=some V) (hrun:∀ w,(execOp a.eval o).run P w=.ok (.enter f args) w)
  (hc:∀ w,Hold M row w0 w L→RM (Mut M L) w1 w→Z5 ops (GW sp) o a w→Calls P f args w fun e w' =>∃ u,e=.returned u∧V u w' ∧Hold M row w0 w' L∧RM (Mut M L) w w') (hn:∀ u w,Hold M row w0 w L→V u w→Zn P ops (HC M row w0 w1 L) (GW sp) (RM (Mut M L)) S0 F (k+1) rest (a.put (some d) u)):Zn P ops (HC M row w0 w1 L) (GW sp) (RM (Mut M L)) S0 F k (o::rest) a:=
 GL hS hw f args d hd (fun w _ _=>hrun w) (fun w hC hD=>(hc w hC.1 hC.2 hD).mono fun e' w' ⟨u,h1,h2,h3,h4⟩=>⟨u,h1,(Zp hsp).2 h2,⟨h3,hC.2.trans h4⟩,h4⟩) fun u w hC hu=>hn u w hC.1 ((Zp hsp).1 hu)
end
theorem GG {M:Nat→Prop} {b0:Nat} (hM:∀ b,M b→b<b0) {w w' :World} (hr:RM M w w') {e:TypeId} {size n:Nat} {v:Value} {xs:List Value} (h:w.ownsRow b0 e size v n xs):w'.ownsRow b0 e size v n xs:=by
 refine ⟨h.1,?_⟩
 rcases h.2 with hn|⟨g,cap,cur,hv,hg,hh,rest⟩
 ·exact .inl hn
 ·exact .inr ⟨g,cap,cur,hv,hg,(hr.2 g (Blk.lt (t:=e) (cs:=cur) hh) (fun hm=>by have:=hM g hm;omega)).trans hh,rest⟩
theorem QK {w:World} {b0 b1:Nat} (h01:b0≤b1) {e:TypeId} {size n:Nat} {v:Value} {xs:List Value} (h:w.ownsRow b1 e size v n xs):w.ownsRow b0 e size v n xs:=by
 refine ⟨h.1,?_⟩
 rcases h.2 with hn|⟨g,cap,cur,hv,hg,rest⟩
 ·exact .inl hn
 ·exact .inr ⟨g,cap,cur,hv,Nat.le_trans h01 hg,rest⟩
theorem Hold.Zbt {M:Nat→Prop} {row:Option Nat} {w0 w1 w:World} {L:List Hp} (K1:Hold M row w0 w1 L) (K:Hold M row w0 w L) (hr:RM (Mut M L) w1 w) {e:TypeId} {size n:Nat} {v:Value} {xs:List Value} (ho:w.ownsRow w1.heap.size e size v n xs):
  Hold M row w0 w (.own e size v n xs::L):=by
 have hbase:∀ b,v.ownBlock=some b→w1.heap.size≤b∧b<w.heap.size:=fun b hf=>ho.lt b hf
 have ee:∀ b,b<w1.heap.size→Mut M (.own e size v n xs::L) b→Mut M L b:=fun b hl hb=>by
  rcases ZG.1 hb with hf|hm
  ·have:=(hbase b hf).1;omega
  ·exact hm
 refine ⟨K.grow,K.low,fun k hk=>?_,fun k hk b hf=>?_,⟨fun b hf k hk he=>?_,K.sep⟩⟩
 ·rcases List.mem_cons.1 hk with rfl|hk
  ·exact QK K1.grow.size ho
  ·have h1:=K1.sat k hk
   have h2:=K.sat k hk
   cases k with
   | blk g' t' cs' =>exact h2
   | own e s v n' xs=>exact h2
   | tp T=>
    refine ⟨h2.1,fun b hb' =>?_⟩
    have hT:T<w1.heap.size:=(K1.fresh _ hk T rfl).2
    rcases ZG.1 hb' with hf|hm'
    ·have:=(hbase b hf).1
     omega
    ·exact h2.2 b hm'
   | ro S=>exact Ro.step h1 hr.1 hr.2 ee
   | cst g' t' cs' =>exact Ro.step h1 hr.1 hr.2 ee
   | ob g' F' =>exact h2
 ·rcases List.mem_cons.1 hk with rfl|hk
  ·have:=hbase b hf
   exact ⟨.inl (Nat.le_trans K1.grow.size this.1),this.2⟩
  ·exact K.fresh k hk b hf
 ·have h1:=(hbase b hf).1
  have h2:=(K1.fresh k hk b he).2
  omega
def IsV (x:Value) (u:Value) (_:World):Prop:=u=x
theorem XN {M:Nat→Prop} {x:Value} (u:Value) (w w' :World) (_:RM M w w') (h:IsV x u w):IsV x u w' :=h
end Go.Proofs.YtnbbllkbefagmaaGreatDoor
namespace Go.Proofs.YtnbbllkbefagmaaGreatDoor
open Go.RowKit
set_option linter.unusedVariables false
set_option linter.unusedSimpArgs false
section
variable {P:Program} {M:Nat→Prop} {row:Option Nat} {w0 w1:World} {L:List Hp} {sp:SpW} {F:Act→Prop} {S0:Array Bool}
variable {ops:Array Oper} {o:Oper} {rest:List Oper} {a:Act} {k:Nat}
theorem ZdZ (d:Tmp) (V:Value→World→Prop) (hS:S0.getD k false=false) (hw:Region.wanted o (yielded ops a.tmps)=true) (hd:o.dst=some d) (hsp:sp d=some V) (u:Value) (hrun:∀ w,Hold M row w0 w L→(execOp a.eval o).run P w=.ok (.value u) w)
  (hV:∀ w,Hold M row w0 w L→Z5 ops (GW sp) o a w→V u w) (hn:Zn P ops (HC M row w0 w1 L) (GW sp) (RM (Mut M L)) S0 F (k+1) rest (a.put (some d) u)):Zn P ops (HC M row w0 w1 L) (GW sp) (RM (Mut M L)) S0 F k (o::rest) a:=
 zF (fun w _=>RM.refl _ w) hS hw u (fun w hC _=>hrun w hC.1) (fun w hC hD=>by rw [hd];exact (Zp hsp).2 (hV w hC.1 hD)) (by rw [hd];exact hn)
end
theorem Zfy (l:List Rw) (id:Int) (A:Option Addr) (n c:Nat) (vs:List Vl):Y1 l++[.int .i64 id,.slice A n c]=Y1 (l++[⟨id,A,n,c,vs⟩]):=by simp [Y1,Rw.cells]
theorem ZbD {M:Nat→Prop} {w:World} {rs:List Rw} {r:Rw} (h:Ro w M (WE rs)) (k:Ro w M (VlsIn r.A r.n r.vs)):Ro w M (WE (rs++[r])):=fun w2 h1 h2 x hx=>by
 rcases List.mem_append.1 hx with hx|hx
 ·exact h w2 h1 h2 x hx
 ·simp at hx;subst hx;exact k w2 h1 h2
theorem Zfs (w:World) (M:Nat→Prop):Ro w M (WE []):=fun _ _ _ r hr=>nomatch hr
end Go.Proofs.YtnbbllkbefagmaaGreatDoor
namespace Go.Proofs.YtnbbllkbefagmaaGreatDoor
open Go.RowKit
set_option linter.unusedVariables false
set_option linter.unusedSimpArgs false
section
variable {P:Program} {ops:Array Oper} {C:World→Prop} {G:Option Tmp→Value→World→Prop} {R:World→World→Prop} {F:Act→Prop} {o:Oper} {rest:List Oper} {a:Act} {k:Nat} {S0:Array Bool}
theorem Jn (hS:S0.getD k false=false) (hw:Region.wanted o (yielded ops a.tmps)=true) (d:Tmp) (hd:o.dst=some d) (hg:∀ w,C w→Z5 ops G o a w→∃ u w',(execOp a.eval o).run P w=.ok (.value u) w' ∧G (some d) u w' ∧C w' ∧R w w')
  (hn:∀ u w,C w→G (some d) u w→Zn P ops C G R S0 F (k+1) rest (a.put (some d) u)):Zn P ops C G R S0 F k (o::rest) a:=by
 unfold Zn
 rw [hS,if_neg (by simp)]
 refine ⟨by unfold StepOk;simp only [hw,if_true];intro w hC hD;obtain ⟨u,w',hr,h1,h2,h3⟩:=hg w hC hD;unfold Good;rw [hr,hd];exact ⟨h1,h2,h3⟩,fun x _ hx=>?_⟩
 obtain ⟨w,hC,h⟩:=hx d hd
 rw [hd];exact hn x w hC h
end
theorem ZgZ {w:World} {M:Nat→Prop} {b0:Nat} (hM:∀ b,M b→b<b0) {e:TypeId} {size n c:Nat} {A:Option Addr} {xs:List Value} (h:w.ownsRow b0 e size (.slice A n c) n xs):Ro w M (SlR size A n xs):=
 fun w2 h1 h2=>Rd.Un (GG hM ⟨h1,h2⟩ h)
theorem Zen {P:Program} {t e:TypeId} {size bytes:Nat} {z:Value} (hE:ElemT P t e size bytes z) (ty:TypeId) (w:World) {A:Option Addr} {m c:Nat} {ys:List Value} (hr:SlR size A m ys w) (h1:∀ u∈ys,u.oneCell' =true) (hq:m<140737488355328) (hb:m * bytes≤140737488355328):
  ∃ C' cap' w',(Builtin.append_ #[t,t] ty #[.slice none 0 0,.slice A m c]).run P w=.ok (.slice C' m cap') w' ∧m≤cap' ∧cap' ≤9223372036854775807∧w'.ownsRow w.heap.size e size (.slice C' m cap') m ys∧Below w.heap.size w w' :=by
 obtain ⟨i0,hi1,hi2,hi3,hi4⟩:=info_parts hE.hi
 have hown:=World.ownsRow_nil w w.heap.size e size
 have hz:A=none→m=0:=fun hA=>by
  rcases Nat.eq_zero_or_pos m with h0|h0
  ·exact h0
  ·obtain ⟨b,o,h,_⟩:=hr.2 h0
   rw [hA] at h;cases h
 rcases A with _|ad
 ·obtain rfl:=hz rfl
  have hn:ys=[]:=List.eq_nil_of_length_eq_zero (by simpa using hr.1)
  subst hn
  exact ⟨none,0,w,Gj w _ t _ _ i0 size hE.ht hi1 _ _ _ hown c,by omega,by omega,hown,Below.refl _ _⟩
 ·have hcells:∀ j u,ys[j]? =some u→w.cell? (ad.add j)=some u:=by
   intro j u hu
   have hpos:0<m:=by
    rcases Nat.eq_zero_or_pos m with h0|h0
    ·have hn:ys=[]:=List.eq_nil_of_length_eq_zero (by have:=hr.1;rw [h0] at this;simpa using this)
     rw [hn] at hu;simp at hu
    ·exact h0
   obtain ⟨b,o',hA,_,hc⟩:=hr.2 hpos
   injection hA with hA
   subst hA
   have:=hc j u hu
   rwa [Addr.add_lit]
  obtain ⟨v',w',hrun,h2,h3,_,h5⟩:=run_append_own_at (P:=P) w w.heap.size t ty e i0 z size bytes hE.ht hi1 hi2 hi3 hi4 hE.hzs hE.hsz _ 0 [] hown ad m c ys hr.1 hcells h1 (by unfold maxLen;omega) (by rw [Nat.zero_add];exact hb) (Nat.le_refl _)
  rw [Nat.zero_add,List.nil_append] at h2
  obtain ⟨C',cap',rfl⟩:=QX h2
  have hc:=Yx h2
  exact ⟨C',cap',w',hrun,hc.1,hc.2.1,h2,⟨h3.os,h3.tape,h3.output,h3.size,fun k hk=>h3.block k hk (by simp [Value.ownBlock])⟩⟩
section
variable {P:Program} {M:Nat→Prop} {row:Option Nat} {w0 w1:World} {L:List Hp} {sp:SpW} {F:Act→Prop} {S0:Array Bool}
variable {ops:Array Oper} {o:Oper} {rest:List Oper} {a:Act} {k:Nat}
end
end Go.Proofs.YtnbbllkbefagmaaGreatDoor
namespace Go.Proofs.YtnbbllkbefagmaaGreatDoor
open Go.RowKit
set_option linter.unusedVariables false
set_option linter.unusedSimpArgs false
theorem Yr {a b:ByteArray} (h:a.toList=b.toList):a=b:=Go.WideShapes.bytes_inj (by rw [←ByteArray.toList_eq,←ByteArray.toList_eq];exact h)
structure Tb where
 nm:ByteArray
 cs:List Col
 nx:Int
 rs:List Row
deriving DecidableEq
def Ju (w:World) (M:Nat→Prop) (v:Value) (t:Tb):Prop:=
 ∃ (A:Option Addr) (n c:Nat) (B:Option Addr) (m d:Nat) (l:List Rw),v=.agg #[.string t.nm,.slice A n c,.int .i64 t.nx,.slice B m d]∧n≤c∧c≤9223372036854775807∧m≤d∧d≤9223372036854775807∧Ro w M (ColsIn A n t.cs)∧Ro w M (RwsIn B m l)∧(∀ r∈l,r.ok)∧l.map Rw.row=t.rs
end Go.Proofs.YtnbbllkbefagmaaGreatDoor

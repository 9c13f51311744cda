import Derived.Test.YtnmnkbnmollpmaaGreatDoorBdDscSaidMB
import Derived.RangeFuncNested
import Derived.OwnWalkIn
set_option linter.unusedVariables false
set_option linter.unusedSimpArgs false
set_option maxHeartbeats 64000000
set_option maxRecDepth 100000
namespace Go.Proofs.YtnmnkbnmollpmaaGreatDoor
section
open Go.RowKit
def Zb7:ByteArray:=⟨#[105,100]⟩
def nmN:ByteArray:=⟨#[110]⟩
def nmS:ByteArray:=⟨#[115]⟩
def nmB:ByteArray:=⟨#[98]⟩
def nmM:ByteArray:=⟨#[109]⟩
def nmT:ByteArray:=⟨#[116]⟩
def nmU:ByteArray:=⟨#[117]⟩
def Xt:ByteArray:=⟨#[108,111,103]⟩
def Xr:List Col:=[⟨nmN,1,false,false⟩,⟨nmS,3,false,false⟩]
def W9:List Col:=[⟨Zb7,1,true,true⟩,⟨nmN,1,false,false⟩,⟨nmB,2,false,false⟩,⟨nmS,3,false,false⟩]
def Y3:List Col:=[⟨Zb7,1,true,true⟩,⟨nmN,1,true,false⟩,⟨nmM,1,false,false⟩]
def Wj (s:ByteArray):ByteArray × List Col:=
 if Xt.toList==s.toList then (Xt,Xr) else if nmT.toList==s.toList then (nmT,W9) else if nmU.toList==s.toList then (nmU,Y3) else (⟨#[]⟩,[])
def Zeo (w:World) (M:Nat→Prop) (e:Ending) (w' :World):Prop:=
 ∃ (g g0 g1 g2:Nat) (nl nt nu:ByteArray),nl=Xt∧nt=nmT∧nu=nmU∧e=.returned (.slice (some ⟨g,0,none⟩) 3 3)∧Below w.heap.size w w' ∧
  Ro w' M (fun w=>w.heap[g]? =some (.cells #[.string nl,.slice (some ⟨g0,0,none⟩) 2 2,.string nt,.slice (some ⟨g1,0,none⟩) 4 4,.string nu,.slice (some ⟨g2,0,none⟩) 3 3] 66 (0,0)))∧
  Ro w' M (SlR 4 (some ⟨g0,0,none⟩) 2 (Zf Xr))∧Ro w' M (SlR 4 (some ⟨g1,0,none⟩) 4 (Zf W9))∧Ro w' M (SlR 4 (some ⟨g2,0,none⟩) 3 (Zf Y3))
theorem Zc1 (M:Nat→Prop) (w:World) (hM:∀ b,M b→b<w.heap.size):Calls Tryz.prog 19 #[] w fun e w' =>Zeo w M e w' :=by
 have K0:=((((Hold.start M w hM).Za (Zf Xr).toArray 124).Za (Zf W9).toArray 124).Za (Zf Y3).toArray 124).Za
  #[.string Xt,.slice (some ⟨w.heap.size,0,none⟩) 2 2,.string nmT,.slice (some ⟨w.heap.size+1,0,none⟩) 4 4,.string nmU,.slice (some ⟨w.heap.size+1+1,0,none⟩) 3 3] 66
 simp only [World.size_alloc] at K0
 go_enter Tryz.func19,Tryz.ntmps19
 go_wp2
 go_ret
 refine ⟨w.heap.size+1+1+1,w.heap.size,w.heap.size+1,w.heap.size+1+1,Xt,nmT,nmU,rfl,rfl,rfl,rfl,K0.below,?_,?_,?_,?_⟩
 ·exact Ro.less (K0.get 0 rfl) fun b hb=>.inl hb
 ·exact (ZO (K0.get 3 rfl) (by rfl)).less fun b hb=>.inl hb
 ·exact (ZO (K0.get 2 rfl) (by rfl)).less fun b hb=>.inl hb
 ·exact (ZO (K0.get 1 rfl) (by rfl)).less fun b hb=>.inl hb
theorem Ro.JN {w:World} {M:Nat→Prop} {A:Option Addr} {n:Nat} {l:List Vl} (h:Ro w M (VlsIn A n l)) {k:Nat} {x:Vl} (hx:l[k]? =some x):
  ∃ b o,A=some ⟨b,o,none⟩∧Ro w M (fun w=>b<w.heap.size∧w.cell? ⟨b,o+k * 3,none⟩=some (.int .i64 x.k)∧w.cell? ⟨b,o+k * 3+1,none⟩=some (.int .i64 x.i)∧w.cell? ⟨b,o+k * 3+2,none⟩=some (.string x.s)):=by
 obtain ⟨b,o,e,_⟩:=h.now.at_ hx
 refine ⟨b,o,e,fun w2 h1 h2=>?_⟩
 obtain ⟨b',o',e',h3,h4,h5,h6⟩:=(h w2 h1 h2).at_ hx
 rw [e] at e'
 injection e' with e'
 injection e' with e1 e2
 subst e1;subst e2
 exact ⟨h3,h4,h5,h6⟩
theorem Hold.name {M:Nat→Prop} {row:Option Nat} {w0 w:World} {L:List Hp} (h:Hold M row w0 w L):∃ KL,KL=L∧Hold M row w0 w KL:=⟨L,rfl,h⟩
def Zan (w:World) (M:Nat→Prop) (nm:ByteArray) (l:List Col) (e:Ending) (w' :World):Prop:=
 ∃ (A:Option Addr) (n c:Nat),e=.returned (.agg #[.string nm,.slice A n c])∧n≤c∧c≤4∧Ro w' M (SlR 4 A n (Zf l))∧Below w.heap.size w w'
theorem Zk3 (M:Nat→Prop) (w:World) (hM:∀ b,M b→b<w.heap.size) (s:ByteArray):Calls Tryz.prog 35 #[.string s] w fun e w' =>Zan w M (Wj s).1 (Wj s).2 e w' :=by
 have K0:=(Hold.start M w hM).alloc #[.string ⟨#[]⟩,.slice none 0 0] 66
 go_enter Tryz.func35,Tryz.ntmps35
 go_wp2_with fail
 refine (Zc1 (Mut M _) _ K0.Zb).mono ?_
 rintro e w1 ⟨g,g0,g1,g2,nl,nt,nu,e1,e2,e3,rfl,b1,r,r0,r1,r2⟩
 have E1:=hid e1;have E2:=hid e2;have E3:=hid e3
 clear e1 e2 e3
 have K1:=((((K0.call b1).add r2).add (r1.less (X8 rfl))).add ((r0.less (X8 rfl)).less (X8 rfl))).Wp (((r.less (X8 rfl)).less (X8 rfl)).less (X8 rfl))
 clear b1 r r0 r1 r2 K0
 go_wp2_with fail
 go_loopw [7] (fun i wr=>∃ k:Nat,k≤3∧i=.int .i64 k∧(0<k→(nl.toList==s.toList)=false)∧(1<k→(nt.toList==s.toList)=false)∧(2<k→(nu.toList==s.toList)=false)∧
  Hold M none w wr [.cst g 66 #[.string nl,.slice (some ⟨g0,0,none⟩) 2 2,.string nt,.slice (some ⟨g1,0,none⟩) 4 4,.string nu,.slice (some ⟨g2,0,none⟩) 3 3],.ro (SlR 4 (some ⟨g0,0,none⟩) 2 (Zf Xr)),.ro (SlR 4 (some ⟨g1,0,none⟩) 4 (Zf W9)),.ro (SlR 4 (some ⟨g2,0,none⟩) 3 (Zf Y3)),.blk w.heap.size 66 #[.string ⟨#[]⟩,.slice none 0 0]]) (fun i _=>3 - (intOf i).toNat)
 case atStart=>exact ⟨0,by omega,rfl,fun h=>absurd h (by omega),fun h=>absurd h (by omega),fun h=>absurd h (by omega),K1⟩
 case round=>
  obtain ⟨k,hk,rfl,q0,q1,q2,H⟩:=hrel
  have F:=H.facts
  simp only [World.size_alloc,factsL,Zu,List.toList_toArray,Nat.reduceAdd,and_true,true_and] at F
  have hc:k=0∨k=1∨k=2∨k=3:=by omega
  rcases hc with rfl|rfl|rfl|rfl
  ·clear q0 q1 q2
   cases ht:(nl.toList==s.toList)
   ·have KN:=H.Za #[.string nl,.slice (some ⟨g0,0,none⟩) 2 2] 66
    go_wp2_with fail
    go_roundw
    case rel=>exact ⟨1,by omega,by go_num,by intros;first|exact ht|trivial,by intros;first|trivial|omega,by intros;first|trivial|omega,KN.drop (Kb _ _)⟩
    case measure=>simp [intOf]
   ·have HR:Hid (Wj s=(nl,Xr)):=by
     unfold Hid Wj
     have h:=ht
     rw [←E1.out,←E2.out,←E3.out,Lg h]
    have KN:=((H.store 4 rfl 0 (.string nl)).store 4 rfl 1 (.slice (some ⟨g0,0,none⟩) 2 2)).Za #[.string nl,.slice (some ⟨g0,0,none⟩) 2 2] 66
    go_wp2_with fail
    exact bodyPost_ret (v:=.agg #[.string nl,.slice (some ⟨g0,0,none⟩) 2 2]) (by simp [results,Tryz.results35,go_sem,F]) rfl ⟨some ⟨g0,0,none⟩,2,2,by rw [HR.out],by omega,by omega,by rw [HR.out];exact KN.ZN 2 rfl,KN.below⟩
  ·have Q0:=hid (q0 (by omega));clear q0 q1 q2
   cases ht:(nt.toList==s.toList)
   ·have KN:=H.Za #[.string nt,.slice (some ⟨g1,0,none⟩) 4 4] 66
    go_wp2_with fail
    go_roundw
    case rel=>exact ⟨2,by omega,by go_num,by intros;first|exact Q0.out|trivial,by intros;first|exact ht|trivial,by intros;first|trivial|omega,KN.drop (Kb _ _)⟩
    case measure=>simp [intOf]
   ·have HR:Hid (Wj s=(nt,W9)):=by
     unfold Hid Wj
     have h:=ht
     rw [←E1.out,←E2.out,←E3.out,Lf (by rw [Q0.out];simp),if_pos h]
    have KN:=((H.store 4 rfl 0 (.string nt)).store 4 rfl 1 (.slice (some ⟨g1,0,none⟩) 4 4)).Za #[.string nt,.slice (some ⟨g1,0,none⟩) 4 4] 66
    go_wp2_with fail
    exact bodyPost_ret (v:=.agg #[.string nt,.slice (some ⟨g1,0,none⟩) 4 4]) (by simp [results,Tryz.results35,go_sem,F]) rfl ⟨some ⟨g1,0,none⟩,4,4,by rw [HR.out],by omega,by omega,by rw [HR.out];exact KN.ZN 3 rfl,KN.below⟩
  ·have Q0:=hid (q0 (by omega));have Q1:=hid (q1 (by omega));clear q0 q1 q2
   cases ht:(nu.toList==s.toList)
   ·have KN:=H.Za #[.string nu,.slice (some ⟨g2,0,none⟩) 3 3] 66
    go_wp2_with fail
    go_roundw
    case rel=>exact ⟨3,by omega,by go_num,by intros;first|exact Q0.out|trivial,by intros;first|exact Q1.out|trivial,by intros;first|exact ht|trivial,KN.drop (Kb _ _)⟩
    case measure=>simp [intOf]
   ·have HR:Hid (Wj s=(nu,Y3)):=by
     unfold Hid Wj
     have h:=ht
     rw [←E1.out,←E2.out,←E3.out,Lf (by rw [Q0.out];simp),if_neg (by rw [Q1.out];simp),if_pos h]
    have KN:=((H.store 4 rfl 0 (.string nu)).store 4 rfl 1 (.slice (some ⟨g2,0,none⟩) 3 3)).Za #[.string nu,.slice (some ⟨g2,0,none⟩) 3 3] 66
    go_wp2_with fail
    exact bodyPost_ret (v:=.agg #[.string nu,.slice (some ⟨g2,0,none⟩) 3 3]) (by simp [results,Tryz.results35,go_sem,F]) rfl ⟨some ⟨g2,0,none⟩,3,3,by rw [HR.out],by omega,by omega,by rw [HR.out];exact KN.ZN 4 rfl,KN.below⟩
  ·have Q0:=hid (q0 (by omega));have Q1:=hid (q1 (by omega));have Q2:=hid (q2 (by omega));clear q0 q1 q2
   have HR:Hid (Wj s=(⟨#[]⟩,[])):=by
    unfold Hid Wj
    rw [←E1.out,←E2.out,←E3.out,Lf (by rw [Q0.out];simp),if_neg (by rw [Q1.out];simp),if_neg (by rw [Q2.out];simp)]
   have KN:=(H.store 4 rfl 0 (.string ⟨#[]⟩)).store 4 rfl 1 (.slice none 0 0)
   go_wp2_with fail
   exact bodyPost_ret (v:=.agg #[.string ⟨#[]⟩,.slice none 0 0]) (by simp [results,Tryz.results35,go_sem,F]) rfl ⟨none,0,0,by rw [HR.out],by omega,by omega,by rw [HR.out];exact WW,KN.below⟩
theorem Zcm {L:List Hp} (h:Apart L):∀ (is:List Nat),is.Nodup→Apart (is.filterMap (fun i=>L[i]?))
 | [],_=>trivial
 | i::is,hn=>by
  obtain ⟨h1,h2⟩:=List.nodup_cons.1 hn
  have ih:=Zcm h is h2
  rw [List.filterMap_cons]
  split
  ·exact ih
  ·rename_i a ha
   refine ⟨fun b hb k hk=>?_,ih⟩
   obtain ⟨j,hj,hjk⟩:=List.mem_filterMap.1 hk
   exact h.mem ha hjk (fun e=>h1 (e ▸ hj)) hb
theorem Hold.pick {M:Nat→Prop} {row:Option Nat} {w0 w:World} {L:List Hp} (K:Hold M row w0 w L) (is:List Nat) (hn:is.Nodup) {L' :List Hp} (hL:is.filterMap (fun i=>L[i]?)=L'):Hold M row w0 w L' :=by
 subst hL
 have hmem:∀ a∈is.filterMap (fun i=>L[i]?),a∈L:=fun a ha=>by
  obtain ⟨j,_,hj⟩:=List.mem_filterMap.1 ha
  exact Ka hj
 have e:∀ b,Mut M (is.filterMap (fun i=>L[i]?)) b→Mut M L b:=fun b hb=>by
  rcases hb with hb|⟨k,hk,hf⟩
  ·exact .inl hb
  ·exact .inr ⟨k,hmem k hk,hf⟩
 refine ⟨K.grow,K.low,fun k hk=>?_,fun k hk=>K.fresh k (hmem k hk),Zcm K.sep is hn⟩
 exact Hp.Xi (k:=k) (K.sat k (hmem k hk)) (Kg _) (fun _ _ _=>rfl) (fun b _ hb=>e b hb) (fun _ _=>rfl) (fun _ _ _ _=>rfl)
end
section
open Go.RowKit Go.Sort
def Xl (x y:Vl):Int:=Uk x.k x.i x.s y.k y.i y.s
end
section
open Go.RowKit
theorem ZcV {P:Program} {w:World} (t ty e:TypeId) (i:TypeInfo) (z:Value) (ht:P.underlying t=some (.slice e)) (hi:P.info? e=some i) (hz:i.zero=some z) (A:Option Addr) (c:Nat):
  (Builtin.append_ #[t,t] ty #[.slice none 0 0,.slice A 0 c]).run P w=.ok (.slice none 0 0) w:=by
 cases A<;>simp [Builtin.append_,run_underlying ht,sizeOf,typeInfo,zeroValue,hi,hz,Builtin.lenOf,Question.forced,Builtin.firstCells,loadCells,loadCellsFrom]
theorem WA {P:Program} {w:World} {ops:Array Oper} {rest:List Oper} {o:Oper} {a:Act} {Q:Exit→Act→World→Prop} (hgd:o.guard=none) (s x:Operand) (t:TypeId)
  (ho:o.op=.call { callee:=.builtin .append,args:=#[s,x],argTypes:=#[t,t] }) (e:TypeId) (i:TypeInfo) (z:Value) (ht:P.underlying t=some (.slice e)) (hi:P.info? e=some i) (hz:i.zero=some z) (A:Option Addr) (c:Nat)
  (hs:a.eval s=.slice none 0 0) (hx:a.eval x=.slice A 0 c)
  (h:wpList P ops Q rest (a.put o.dst (.slice none 0 0)) w):wpList P ops Q (o::rest) a w:=by
 refine wpList_plain hgd fun K hK' =>?_
 have hr:=ZcV (P:=P) (w:=w) t o.type e i z ht hi hz A c
 unfold Oper.wp execOp
 simp only [ho,resolve,invoke,builtin,Sem.run_bind,Sem.run_pure,Result.andThen_ok,List.map_toArray,List.map_cons,List.map_nil,hs,hx,hr]
 exact hK' _ _ h
def VO (P:Program) (ops:Array Oper) (Q:Exit→Act→World→Prop) (rest:List Oper):Exit→Act→World→Prop
 | .normal,a,w=>wpList P ops Q rest a w
 | e,a,w=>Q e a w
theorem ZhL {P:Program} {ops:Array Oper} {Q:Exit→Act→World→Prop} {rest:List Oper} (h:LetsOut (VO P ops Q rest)):LetsOut Q:=h
theorem Oper.Zmy {P:Program} {ops:Array Oper} {Q:Exit→Act→World→Prop} {rest:List Oper} {o:Oper} {a:Act} {w:World} {K K' :Act→World→Prop} (hk:∀ a w,K a w→K' a w) (h:o.wp P a w K (VO P ops Q rest)):o.wp P a w K' Q:=by
 unfold Oper.wp at *
 generalize (execOp a.eval o).run P w=r at *
 cases r with
 | ok n w' =>
  cases n<;>simp only [Oper.upon] at h ⊢<;>
   first
    | exact hk _ _ h
    | exact Calls.mono h (fun e w'' he=>by cases e<;>first|exact hk _ _ he|exact he)
    | exact Rows.mono h (fun _ _ he=>hk _ _ he)
 | halt x w' =>cases x<;>simp only [Oper.upon] at h ⊢<;>exact h
def ZhH (ops:Array Oper) (n:Nat):Bool:=(List.range n).all fun k=>match (ops[k]?).bind (·.guard) with
 | some (g,_)=>decide (g<n)
 | none=>true
def Ja (ops:Array Oper) (n:Nat):Bool:=decide (n<ops.size)&&zz ops (Array.replicate ops.size false) n&&Qf ops n&&ZhH ops n&&Gi ops n&&Region.seqB .any ops (ops.size - n) n (X5 n ops.size)
theorem take_at {l:List Oper} {n k:Nat} (hk:k<n):(l.take n).toArray[k]? =l.toArray[k]? :=by
 rw [List.getElem?_toArray,List.getElem?_toArray,List.getElem?_take_of_lt hk]
theorem Zmo {P:Program} {Q:Exit→Act→World→Prop} {l:List Oper} {n:Nat} (hB:Ja l.toArray n=true):
  ∀ (f:Nat) (S S' :Array Bool) (a:Act) (w:World),HeadInv .any l.toArray n S→S'.size=n→(∀ j,j<n→∀ b,S'.getD j b=S.getD j b)→unl n S=f→wpAny P .any (l.take n).toArray (VO P l.toArray Q (l.drop n)) f S' a w→wpAny P .any l.toArray Q (f+(l.length - n)) S a w:=by
 simp only [Ja,Bool.and_eq_true,decide_eq_true_eq] at hB
 obtain ⟨⟨⟨⟨⟨hn,hs⟩,hl⟩,hg⟩,hbk⟩,hseq⟩:=hB
 have hsz:l.toArray.size=l.length:=by simp
 have hnl:n<l.length:=by omega
 have htk:(l.take n).toArray.size=n:=by simp;omega
 intro f
 induction f with
 | zero=>
  intro S S' a w hI hS' hSS hf h
  have hall:=zP hf (by rw [hI.size];omega)
  rw [Nat.zero_add]
  have hSeq:=GR hI.size (by omega) hall hI.tail
  rw [hSeq]
  have hdl:(l.drop n).length=l.length - n:=by simp
  have:=wpAny_of_seq (md:=.any) (Q' :=Q) (ops:=l.toArray) (l.drop n) n (X5 n l.toArray.size) a w (fun j=>by simp [List.getElem?_drop]) (by rw [hdl];simpa using hseq) h.2
  rwa [hdl] at this
 | succ f ih=>
  intro S S' a w hI hS' hSS hf h
  obtain ⟨k0,hk0,hun0⟩:=zN hf
  rw [show f+1+(l.length - n)=(f+(l.length - n))+1 by omega]
  have hin:∀ i,i∈Region.ready .any l.toArray S→i<n:=fun i hi=>by
   rcases Nat.lt_or_ge i n with h' |h'
   ·exact h'
   ·exact absurd hi (Zdp hs hl hn hI (fun j hj=>by rw [ZbF] at hj;cases hj) _ k0 rfl hk0 hun0 i h')
  have hf0:∀ j,S'.getD j false=S.getD j false:=fun j=>by
   rcases Nat.lt_or_ge j n with h' |h'
   ·exact hSS j h' false
   ·have e1:S'.getD j false=false:=by simp [Array.getD_eq_getD_getElem?,Array.getElem?_eq_none (show S'.size≤j by omega)]
    rw [e1]
    rcases Nat.lt_or_ge j l.toArray.size with h2|h2
    ·exact (getD_both (hI.tail j h' h2)).symm
    ·simp [Array.getD_eq_getD_getElem?,Array.getElem?_eq_none (show S.size≤j by rw [hI.size];exact h2)]
  have hrd:∀ i,i<n→i∈Region.ready .any l.toArray S→i∈Region.ready .any (l.take n).toArray S' :=fun i hi hm=>by
   obtain ⟨h1,o,ho,h2⟩:=mem_ready.1 hm
   exact mem_ready.2 ⟨by rw [hSS i hi];exact h1,o,by rw [take_at hi];exact ho,fun e he hb=>by rw [hf0];exact h2 e he hb⟩
  refine ⟨fun h0=>?_,fun i hi=>?_⟩
  ·obtain ⟨k,⟨hk,hun⟩,hmin⟩:=least (p:=fun j=>j<n∧S.getD j true=false) k0 ⟨hk0,hun0⟩
   have hks:k<l.toArray.size:=by omega
   have hrk:k∈Region.ready .any l.toArray S:=by
    refine mem_ready.2 ⟨hun,l.toArray[k],Lb hks,fun e he hb=>?_⟩
    have h1:=Kw.1 hbk k (Ku.2 hk)
    simp only [Array.getElem?_eq_getElem hks] at h1
    have h2:=Array.all_eq_true'.1 h1 e he
    simp only [hb,Bool.not_true,Bool.false_or,decide_eq_true_eq] at h2
    cases hS:S.getD e.on false with
    | true=>rfl
    | false=>exact absurd ⟨by omega,getD_in (by rw [hI.size];omega) hS⟩ (hmin e.on h2)
   rw [h0] at hrk
   cases hrk
  ·have hin' :=hin i hi
   have h1:=h.2 i (hrd i hin' hi)
   have hun:=(mem_ready.1 hi).1
   have hnext:∀ a' w',wpAny P .any (l.take n).toArray (VO P l.toArray Q (l.drop n)) f (S'.setIfInBounds i true) a' w' →wpAny P .any l.toArray Q (f+(l.length - n)) (S.setIfInBounds i true) a' w' :=fun a' w' h2=>by
    refine ih _ _ a' w' (hI.set hi hin') (by simpa using hS') (fun j hj b=>?_) ?_ h2
    ·by_cases hji:j=i
     ·subst hji
      have e1:j<S'.size:=by omega
      have e2:j<S.size:=by rw [hI.size];omega
      simp [e1,e2]
     ·rw [getD_set_ne b (Ne.symm hji),getD_set_ne b (Ne.symm hji)]
      exact hSS j hj b
    ·have:=zO hin' hun
     omega
   unfold wpOp at h1 ⊢
   rw [take_at hin'] at h1
   cases ho:l.toArray[i]? with
   | none=>rw [ho] at h1;exact hnext _ _ h1
   | some o=>
    rw [ho] at h1
    simp only at h1 ⊢
    have hwt:Region.wanted o (yielded (l.take n).toArray a.tmps)=Region.wanted o (yielded l.toArray a.tmps):=by
     unfold Region.wanted
     have h2:=Kw.1 hg i (Ku.2 hin')
     simp only [ho,Option.bind_some] at h2
     split at h2
     ·rename_i g b hgd
      simp only [decide_eq_true_eq] at h2
      simp only [hgd,yielded,take_at h2]
     ·rename_i hgd
      simp only [hgd]
    rw [hwt] at h1
    split
    ·rename_i hw
     rw [Lg hw] at h1
     exact h1.imp (Oper.Zmy hnext) fun h2=>⟨h2.1,ZhL h2.2⟩
    ·rename_i hw
     rw [Lf hw] at h1
     exact hnext _ _ h1
theorem ZdN {P:Program} {id:Nat} {Q:Exit→Act→World→Prop} {a:Act} {w:World} {l:List Oper} (n:Nat) (hm:P.follows .mixedOrders=true) (hB:Ja l.toArray n=true)
  (h:wpAny P .any (l.take n).toArray (VO P l.toArray Q (l.drop n)) n (Array.replicate n false) a w.drew):(Code.region id l.toArray true).wp P Q a w:=by
 refine Lj hm ?_
 have hn:n<l.length:=by
  simp only [Ja,Bool.and_eq_true,decide_eq_true_eq] at hB
  have:=hB.1.1.1.1.1
  simpa using this
 have hsz:l.toArray.size=l.length:=by simp
 have h1:=Zmo hB n (Array.replicate l.toArray.size false) (Array.replicate n false) a w.drew ⟨by simp,(fun j oj _ hs=>by rw [ZbF] at hs;cases hs),(fun t _ ht=>by simp at ht;simp [ht])⟩ (by simp) (fun j hj b=>by
  have:j<l.length:=by omega
  simp [hj,this]) (by
  unfold unl
  rw [List.countP_eq_length.2 fun j hj=>?_,List.length_range]
  have hj2:j<l.length:=by have:=Ku.1 hj;omega
  simp [hj2]) h
 rw [show l.toArray.size=n+(l.length - n) by omega] at h1 ⊢
 exact h1
theorem Zmd {l n:Nat} {P:Program} {o:Oper} {a:Act} {K:Act→World→Prop} {Q:Exit→Act→World→Prop} {r:Result Next} (h:o.upon P a K Q r):o.uponIn (Fence.wide.inRound l) n P a K Q r:=by
 cases r with
 | ok nx w' =>
  cases nx with
  | value v=>exact h
  | skip=>exact h
  | defer d=>exact h
  | enter f args=>exact ⟨fun h=>by simp [Fence.wide] at h,(callsIn_wide (n:=n - 1)).2 h⟩
  | row row args=>exact ⟨fun h=>by simp [Fence.wide] at h,fun c cs _=>let ⟨v,w2,r,s⟩:=h c cs;⟨v,w2,r,stepsIn_wide.2 s⟩⟩
  | _=>exact h.elim
 | halt x w' =>
  cases x with
  | panic v=>exact h
  | _=>exact h.elim
def Uq (o:Oper):Bool:=match o.op with|.defer _=>true|_=>false
theorem ZhW {o:Oper} (h:Uq o=false):∀ c,o.op≠.defer c:=fun c hc=>by simp [Uq,hc] at h
theorem Zmx {l n:Nat} {P:Program} {ops:Array Oper} {Q:Exit→Act→World→Prop} {i:Nat} {K:Act→World→Prop} {a:Act} {w:World} (hd:ops.all (fun o=>!Uq o)=true) (hq:¬LetsOut Q) (h:wpOp P ops Q i K a w):wpOpIn (Fence.wide.inRound l) n P ops Q i K a w:=by
 unfold wpOp at h
 unfold wpOpIn
 cases ho:ops[i]? with
 | none=>rw [ho] at h;exact h
 | some o=>
  rw [ho] at h
  simp only at h ⊢
  by_cases hw:Region.wanted o (yielded ops a.tmps)=true
  ·rw [Lg hw] at h ⊢
   rcases h with h|h
   ·refine ⟨fun _ _=>trivial,?_⟩
    have hno:Uq o=false:=by
     obtain ⟨hi,rfl⟩:=KG.1 ho
     have:=Array.all_eq_true.1 hd i hi
     simpa using this
    rw [Oper.semAt_eq _ _ _ (ZhW hno)]
    exact Zmd h
   ·exact absurd h.2 hq
  ·rw [Lf hw] at h ⊢
   exact ⟨fun _ _=>trivial,h⟩
theorem ZdK {l n:Nat} {P:Program} {ops:Array Oper} {Q:Exit→Act→World→Prop} (hd:ops.all (fun o=>!Uq o)=true) (hq:¬LetsOut Q):∀ (fuel:Nat) (S:Array Bool) (a:Act) (w:World),wpAny P .any ops Q fuel S a w→wpAnyIn (Fence.wide.inRound l) n P .any ops Q fuel S a w
 | 0,S,a,w,h=>h
 | fuel+1,S,a,w,h=>⟨h.1,fun i hi=>Zmx hd hq (wpOp_mono (fun a w=>ZdK hd hq fuel _ a w) (h.2 i hi))⟩
theorem Zms {l n id:Nat} {P:Program} {ops:Array Oper} {Q:Exit→Act→World→Prop} {a:Act} {w:World} (hm:P.follows .mixedOrders=true) (hd:ops.all (fun o=>!Uq o)=true) (hq:¬LetsOut Q) (h:wpAny P .any ops Q ops.size (Array.replicate ops.size false) a w.drew):(Code.region id ops true).wpIn (Fence.wide.inRound l) n P Q a w:=
 wpIn_region_any hm (ZdK hd hq _ _ _ _ h)
end
end Go.Proofs.YtnmnkbnmollpmaaGreatDoor

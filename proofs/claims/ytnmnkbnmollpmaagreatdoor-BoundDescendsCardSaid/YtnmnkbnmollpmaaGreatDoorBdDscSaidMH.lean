import Derived.Test.YtnmnkbnmollpmaaGreatDoorBdDscSaidMB
import Derived.StillTailTactics
import Derived.Test.YtnmnkbnmollpmaaGreatDoorBdDscSaidME
set_option linter.unusedVariables false
set_option linter.unusedSimpArgs false
set_option maxHeartbeats 64000000
set_option maxRecDepth 100000
namespace Go.Proofs.YtnmnkbnmollpmaaGreatDoor
section
open Go.RowKit
theorem Zaa {P:Program} (w0:World) (cs:Array Value) {ops:Array Oper} {rest:List Oper} {o:Oper} {a:Act} {Q:Exit→Act→World→Prop} (hgd:o.guard=none) (s x:Operand) (t:TypeId)
  (ho:o.op=.call { callee:=.builtin .append,args:=#[s,x],argTypes:=#[t,t] })
  (base:Nat) (e:TypeId) (size bytes:Nat) (z:Value) (ht:P.underlying t=some (.slice e)) (hi:(P.info? e).map (fun i=>(i.zero,i.size,i.bytes))=some (some z,size,bytes))
  (hzs:z.cells.size=size) (hsz:0<size)
  (v:Value) (n:Nat) (xs:List Value) (hs:a.eval s=v) (hown:w0.ownsRow base e size v n xs)
  (H:Nat) (hH:w0.heap.size=H) (hx:a.eval x=.slice (some ⟨H,0,none⟩) 1 1) (hl:cs.size=size) (h1:∀ u∈cs.toList,u.oneCell' =true)
  (hn:n<140737488355328) (hbytes:(n+1) * bytes≤140737488355328) (hbase:base≤w0.heap.size)
  (h:∀ g cap w',w'.ownsRow base e size (.slice (some ⟨g,0,none⟩) (n+1) cap) (n+1) (xs++cs.toList)→(w0.alloc (.cells cs e)).grownBy w' v.ownBlock→(v.ownBlock=some g∨(w0.alloc (.cells cs e)).heap.size≤g)→g<w'.heap.size→
   wpList P ops Q rest (a.put o.dst (.slice (some ⟨g,0,none⟩) (n+1) cap)) w'):
  wpList P ops Q (o::rest) a (w0.alloc (.cells cs e)):=by
 subst hH
 obtain ⟨i,hi1,hi2,hi3,hi4⟩:=info_parts hi
 refine wpList_append_lies (w:=w0.alloc (.cells cs e)) hgd s x t ho base e i z size bytes ht hi1 hi2 hi3 hi4 hzs hsz v n xs hs (hown.alloc _) ⟨w0.heap.size,0,none⟩ 1 1 cs.toList hx (by simpa using hl) ?_ h1 (by omega) (by unfold maxLen;omega) hbytes (by simp;omega) (w0.heap.size+1) (by simp) ?_
 ·exact World.news_of_block (heap_alloc_new w0 _)
 ·intro g cap w' h2 h3 h4 h5
  exact h g cap w' h2 h3 (h4.imp id fun e=>by rw [e];simp) h5
end
section
open Go.RowKit
structure ElemT (P:Program) (t e:TypeId) (size bytes:Nat) (z:Value):Prop where
 ht:P.underlying t=some (.slice e)
 hi:(P.info? e).map (fun i=>(i.zero,i.size,i.bytes))=some (some z,size,bytes)
 hzs:z.cells.size=size
 hsz:0<size
section
variable {P:Program} {M:Nat→Prop} {row:Option Nat} {w0 w w' :World} {L L' :List Hp}
theorem ZM {w:World} {base:Nat} {e:TypeId} {size n m c:Nat} {A:Option Addr} {xs:List Value} (h:w.ownsRow base e size (.slice A n c) m xs):m≤c∧c≤9223372036854775807∧n=m:=by
 obtain ⟨h1,⟨h2,h3⟩|⟨g,cap,cur,hv,_,_,hle,hm,_⟩⟩:=h
 ·have e1:=(Value.slice.inj h2).2.2
  have e2:=(Value.slice.inj h2).2.1
  omega
 ·have e1:=(Value.slice.inj hv).2.2
  have e2:=(Value.slice.inj hv).2.1
  unfold maxLen at hm
  omega
theorem Jl {w:World} {base:Nat} {e:TypeId} {size n m c:Nat} {A:Option Addr} {xs:List Value} (h:w.ownsRow base e size (.slice A n c) m xs):(A=none∧m=0∧c=0)∨∃ g,A=some ⟨g,0,none⟩∧base≤g:=by
 obtain ⟨h1,⟨h2,h3⟩|⟨g,cap,cur,hv,hb,_⟩⟩:=h
 ·exact .inl ⟨(Value.slice.inj h2).1,h3,(Value.slice.inj h2).2.2⟩
 ·exact .inr ⟨g,(Value.slice.inj hv).1,hb⟩
theorem ZJ (K:Hold M row w0 w L) (i:Nat) {t e:TypeId} {size bytes q cap:Nat} {C:Option Addr} {xs:List Value} {z:Value} (hi:L[i]? =some (.own e size (.slice C q cap) q xs)) (hE:ElemT P t e size bytes z)
  (cs:Array Value) {ops:Array Oper} {rest:List Oper} {o:Oper} {a:Act} {Q:Exit→Act→World→Prop} (hgd:o.guard=none) (s x:Operand) (ho:o.op=.call { callee:=.builtin .append,args:=#[s,x],argTypes:=#[t,t] })
  (hs:a.eval s=.slice C q cap) (H:Nat) (hH:w.heap.size=H) (hx:a.eval x=.slice (some ⟨H,0,none⟩) 1 1) (hl:cs.size=size) (h1:∀ u∈cs.toList,u.oneCell' =true) (hq:q<140737488355328) (hb:(q+1) * bytes≤140737488355328)
  (h:∀ g cap' w',q+1≤cap' →cap' ≤9223372036854775807→Hold M row w0 w' (L.set i (.own e size (.slice (some ⟨g,0,none⟩) (q+1) cap') (q+1) (xs++cs.toList)))→wpList P ops Q rest (a.put o.dst (.slice (some ⟨g,0,none⟩) (q+1) cap')) w'):
  wpList P ops Q (o::rest) a (w.alloc (.cells cs e)):=by
 refine Zaa w cs hgd s x t ho w0.heap.size e size bytes z hE.ht hE.hi hE.hzs hE.hsz (.slice C q cap) q xs hs (K.get i hi) H hH hx hl h1 hq hb K.grow.size ?_
 intro g cap' w' ho' hg hd hl'
 obtain ⟨c1,c2,_⟩:=ZM ho'
 have K1:=K.Za cs e
 have K2:=K1.append (i+1) (by simpa using hi) ho' hg hd hl'
 refine h g cap' w' c1 c2 (K2.drop ?_)
 simp
theorem ZkP (w:World) (base:Nat) (t ty e:TypeId) (i:TypeInfo) (size:Nat) (ht:P.underlying t=some (.slice e)) (hi:P.info? e=some i)
  (v:Value) (n:Nat) (xs:List Value) (hown:w.ownsRow base e size v n xs) (c:Nat):(Builtin.append_ #[t,t] ty #[v,.slice none 0 c]).run P w=.ok v w:=by
 rcases hown.2 with ⟨rfl,rfl⟩|⟨g,cap,cur,rfl,_,_,hnc,_⟩
 ·simp [Builtin.append_,run_underlying ht,sizeOf,typeInfo,hi,Builtin.lenOf,Builtin.firstCells]
 ·simp [Builtin.append_,run_underlying ht,sizeOf,typeInfo,hi,Builtin.lenOf,Builtin.firstCells,hnc,storeCells]
theorem ZX (K:Hold M row w0 w L) (i:Nat) {t e:TypeId} {size bytes q cap:Nat} {C:Option Addr} {xs:List Value} {z:Value} (hi:L[i]? =some (.own e size (.slice C q cap) q xs)) (hE:ElemT P t e size bytes z)
  {A:Option Addr} {m c:Nat} {ys:List Value} (hr:SlR size A m ys w) {ops:Array Oper} {rest:List Oper} {o:Oper} {a:Act} {Q:Exit→Act→World→Prop} (hgd:o.guard=none) (s x:Operand) (ho:o.op=.call { callee:=.builtin .append,args:=#[s,x],argTypes:=#[t,t] })
  (hs:a.eval s=.slice C q cap) (hx:a.eval x=.slice A m c) (h1:∀ u∈ys,u.oneCell' =true) (hq:q+m<140737488355328) (hb:(q+m) * bytes≤140737488355328)
  (h:∀ C' cap' w',q+m≤cap' →cap' ≤9223372036854775807→Hold M row w0 w' (L.set i (.own e size (.slice C' (q+m) cap') (q+m) (xs++ys)))→wpList P ops Q rest (a.put o.dst (.slice C' (q+m) cap')) w'):
  wpList P ops Q (o::rest) a w:=by
 obtain ⟨i0,hi1,hi2,hi3,hi4⟩:=info_parts hE.hi
 have hown:=K.get i hi
 have hrun:∃ C' cap' w',(Builtin.append_ #[t,t] o.type #[.slice C q cap,.slice A m c]).run P w=.ok (.slice C' (q+m) cap') w' ∧q+m≤cap' ∧cap' ≤9223372036854775807∧Hold M row w0 w' (L.set i (.own e size (.slice C' (q+m) cap') (q+m) (xs++ys))):=by
  have hz:A=none→m=0:=fun hA=>by
   rcases Nat.eq_zero_or_pos m with h0|h0
   ·exact h0
   ·obtain ⟨b,o,h,_⟩:=hr.2 h0
    rw [hA] at h;cases h
  rcases A with _|ad
  ·obtain rfl:=hz rfl
   have hn:ys=[]:=List.eq_nil_of_length_eq_zero (by simpa using hr.1)
   subst hn
   have hc:=ZM hown
   have e:L.set i (.own e size (.slice C (q+0) cap) (q+0) (xs++[]))=L:=by
    rw [Nat.add_zero,List.append_nil]
    apply List.ext_getElem?
    intro j
    rw [List.getElem?_set]
    split
    ·subst i;split
     ·exact hi.symm
     ·rw [List.getElem?_eq_none (by omega)]
    ·rfl
   exact ⟨C,cap,w,ZkP w _ t _ _ i0 size hE.ht hi1 _ _ _ hown c,hc.1,hc.2.1,by rw [e];exact K⟩
  ·have hcells:∀ j u,ys[j]? =some u→w.cell? (ad.add j)=some u:=by
    intro j u hu
    have hpos:0<m:=by
     rcases Nat.eq_zero_or_pos m with h0|h0
     ·have hn:ys=[]:=List.eq_nil_of_length_eq_zero (by have:=hr.1;rw [h0] at this;simpa using this)
      rw [hn] at hu;simp at hu
     ·exact h0
    obtain ⟨b,o',hA,_,hc⟩:=hr.2 hpos
    injection hA with hA
    subst hA
    have:=hc j u hu
    rwa [Addr.add_lit]
   obtain ⟨v',w',hrun,h2,h3,_,h5⟩:=run_append_own_at (P:=P) w w0.heap.size t o.type e i0 z size bytes hE.ht hi1 hi2 hi3 hi4 hE.hzs hE.hsz _ q xs hown ad m c ys hr.1 hcells h1 (by unfold maxLen;omega) hb K.grow.size
   obtain ⟨C',cap',rfl⟩:=Zjc h2
   have hc:=ZM h2
   refine ⟨C',cap',w',hrun,hc.1,hc.2.1,?_⟩
   refine K.turn i hi h3.size ⟨h3.os,h3.tape,h3.output⟩ (fun b hl hne=>h3.block b hl fun e=>hne e.symm) (fun b hf=>?_) h2 (fun T hT=>by cases hT)
   have hlt:=(h2.lt b hf).2
   refine ⟨?_,hlt⟩
   have hf' :Value.ownBlock (.slice C' (q+m) cap')=some b:=hf
   rcases h5 with h5|h5
   ·left;rw [h5] at hf';exact hf'
   ·right;rw [h5] at hf';injection hf' with hf';omega
 obtain ⟨C',cap',w',hr',c1,c2,hK⟩:=hrun
 refine wpList_plain hgd fun K' hK' =>?_
 unfold Oper.wp execOp
 simp only [ho,resolve,invoke,builtin,Sem.run_bind,Sem.run_pure,Result.andThen_ok,List.map_toArray,List.map_cons,List.map_nil,hs,hx,hr']
 exact hK' _ _ (h C' cap' w' c1 c2 hK)
theorem Hold.QQ (K:Hold M row w0 w L) {e:TypeId} {size n:Nat} {v:Value} {xs:List Value} (hb:Below w.heap.size w w') (ho:w'.ownsRow w.heap.size e size v n xs):Hold M row w0 w' (.own e size v n xs::L):=by
 have h1:=K.call hb
 have hbase:∀ b,v.ownBlock=some b→w.heap.size≤b∧b<w'.heap.size:=fun b hf=>ho.lt b hf
 have ee:∀ b,b<w.heap.size→Mut M (.own e size v n xs::L) b→Mut M L b:=fun b hl hb=>by
  rcases ZL.1 hb with hf|hm
  ·have:=(hbase b hf).1;omega
  ·exact hm
 refine ⟨h1.grow,h1.low,fun k hk=>?_,fun k hk b hf=>?_,⟨fun b hf k hk he=>?_,K.sep⟩⟩
 ·rcases Kv.1 hk with rfl|hk
  ·refine ⟨ho.1,?_⟩
   rcases ho.2 with hn|⟨g,cap,cur,hv,hg,rest⟩
   ·exact .inl hn
   ·exact .inr ⟨g,cap,cur,hv,KI K.grow.size hg,rest⟩
  ·exact Hp.Xi (k:=k) (K.sat k hk) hb.size (fun b hl _=>hb.block b hl) ee (fun b hf=>hb.block b (K.fresh k hk b hf).2)
    (fun T hT b hlt=>by
     have:=K.fresh k hk T (by subst hT;rfl)
     exact hb.block b (by omega))
 ·rcases Kv.1 hk with rfl|hk
  ·have:=hbase b hf
   exact ⟨.inl (KI K.grow.size this.1),this.2⟩
  ·exact h1.fresh k hk b hf
 ·have:=(hbase b hf).1
  have h2:=(K.fresh k hk b he).2
  omega
theorem Gh:∀ {L:List Hp},Apart L↔L.Pairwise fun h k=>∀ b,h.foot=some b→k.foot≠some b
 | []=>⟨fun _=>List.Pairwise.nil,fun _=>trivial⟩
 | h::L=>by
  rw [List.pairwise_cons,←Gh]
  exact ⟨fun ⟨a,b⟩=>⟨fun k hk x hx=>a x hx k hk,b⟩,fun ⟨a,b⟩=>⟨fun x hx k hk=>a k hk x hx,b⟩⟩
theorem Hold.perm (K:Hold M row w0 w L) (hp:L.Perm L'):Hold M row w0 w L' :=by
 have hm:∀ b,Mut M L' b→Mut M L b:=fun b hb=>hb.imp id fun ⟨k,hk,hf⟩=>⟨k,hp.symm.subset hk,hf⟩
 refine ⟨K.grow,K.low,fun k hk=>?_,fun k hk=>K.fresh k (hp.symm.subset hk),Gh.2 ((hp.pairwise_iff fun h b hy hx=>h b hx hy).1 (Gh.1 K.sep))⟩
 exact Hp.Xi (k:=k) (K.sat k (hp.symm.subset hk)) (Kg _) (fun _ _ _=>rfl) (fun b _ hb=>hm b hb) (fun _ _=>rfl) (fun _ _ _ _=>rfl)
theorem Hold.zy {a:Hp} (K:Hold M row w0 w (a::L)) (i:Nat):Hold M row w0 w (L.take i++a::L.drop i):=by
 refine K.perm (List.Perm.trans ?_ List.perm_middle.symm)
 rw [List.take_append_drop]
theorem Hold.ZT (K:Hold M row w0 w L) (i:Nat) {S S' :World→Prop} (hi:L[i]? =some (.ro S)) (hr:Ro w (Mut M L) S'):Hold M row w0 w (L.set i (.ro S')):=by
 refine K.turn i hi (Kg _) ⟨rfl,rfl,rfl⟩ (fun _ _ _=>rfl) (fun b hf=>by cases hf) ?_ (fun T hT=>by cases hT)
 refine hr.less fun b hb=>?_
 rcases hb with hb|⟨k,hk,hf⟩
 ·exact .inl hb
 ·rcases List.mem_or_eq_of_mem_set hk with hk|rfl
  ·exact .inr ⟨k,hk,hf⟩
  ·cases hf
theorem Hold.ZfS (K:Hold M row w0 w L) (i:Nat) {e:TypeId} {size n m cap g:Nat} {xs:List Value} (hi:L[i]? =some (.own e size (.slice (some ⟨g,0,none⟩) m cap) m xs)) (hn:n≤m):
  Hold M row w0 w (L.set i (.own e size (.slice (some ⟨g,0,none⟩) n cap) n (xs.take (n * size)))):=by
 have hown:=K.get i hi
 have hkm:=Ka hi
 refine K.turn i hi (Kg _) ⟨rfl,rfl,rfl⟩ (fun _ _ _=>rfl) (fun b hf=>⟨.inl hf,(K.fresh _ hkm b hf).2⟩) ?_ (fun T hT=>by cases hT)
 have h1:=hown.1
 refine ⟨by rw [List.length_take,h1];exact Nat.min_eq_left (Nat.mul_le_mul_right _ hn),?_⟩
 rcases hown.2 with ⟨h,_⟩|⟨g',cap',cur,hv,hb,hg,hle,hm,hcs,ht⟩
 ·cases h
 ·obtain ⟨e1,_,e2⟩:=Value.slice.inj hv
  injection e1 with e1;injection e1 with e1
  subst e1 e2
  refine .inr ⟨g,cap,cur,rfl,hb,hg,by omega,hm,hcs,?_⟩
  rw [←ht,List.take_take,Nat.min_eq_left (Nat.mul_le_mul_right _ hn)]
end
end
section
open Go.RowKit
abbrev ColsIn (A:Option Addr) (n:Nat) (l:List Col):World→Prop:=SlR 4 A n (Zf l)
theorem Ji (l:List Col):∀ u∈Zf l,u.oneCell' =true:=fun u hu=>by
 unfold Zf at hu
 rw [List.mem_flatMap] at hu
 obtain ⟨x,_,hx⟩:=hu
 simp only [Col.cells,List.mem_cons,List.not_mem_nil,or_false] at hx
 rcases hx with rfl|rfl|rfl|rfl<;>rfl
theorem Tryz.Xz:ElemT Tryz.prog 70 30 3 32 (.agg #[.int .i64 0,.int .i64 0,.string ⟨#[]⟩]):=⟨Tryz.underlying70,by kernel_rfl,rfl,by omega⟩
theorem Tryz.U6:ElemT Tryz.prog 64 124 4 32 (.agg #[.string ⟨#[]⟩,.int .i64 0,.bool false,.bool false]):=⟨Tryz.underlying64,by kernel_rfl,rfl,by omega⟩
theorem Tryz.Xy:ElemT Tryz.prog 67 72 2 32 (.agg #[.int .i64 0,.slice none 0 0]):=⟨Tryz.underlying67,by kernel_rfl,rfl,by omega⟩
def UN (size:Nat) (xs:List Value) (k:Nat) (w:World) (M:Nat→Prop) (e:Ending) (w' :World):Prop:=
 ∃ (A:Option Addr) (n c:Nat),e=.returned (.slice A n c)∧n=k∧n≤c∧c≤9223372036854775807∧Ro w' M (SlR size A n xs)∧Below w.heap.size w w'
theorem Gt (M:Nat→Prop) (w:World) (hM:∀ b,M b→b<w.heap.size) (A:Option Addr) (n c:Nat) (l:List Vl) (hD:Ro w M (VlsIn A n l)) (hn:n≤4398046511104):
  Calls Tryz.prog 162 #[.slice A n c] w fun e w' =>UN 3 (ZH l) l.length w M e w' :=by
 have hl:=hid (show l.length=n from hD.now.len)
 have hq:∀ (w:World) (a:Option Addr) (n c:Nat),(binOp .eql 70 (.slice a n c) (.slice none 0 0)).run Tryz.prog w=.ok (.bool a.isNone) w:=fun w a n c=>Go.Lib.run_eql_slice_nil w _ _ a n c 0 0 Tryz.underlying70
 rcases A with _|a
 ·have h0:n=0:=by
   rcases Nat.eq_zero_or_pos n with h|h
   ·exact h
   ·obtain ⟨_,_,e,_⟩:=(show Rd w w.heap.size 3 none n (ZH l) from hD.now).2 h;cases e
  subst h0
  obtain rfl:l=[]:=List.length_eq_zero_iff.1 hl.out
  go_enter Tryz.func162,Tryz.ntmps162
  go_wp2_with fail
  go_ret
  exact ⟨none,0,0,rfl,rfl,by omega,by omega,WW,Below.refl _ _⟩
 ·have K0:=(Hold.start M w hM).add (hD.less (by simp [Mut]))
  have K1:=K0.QN #[] 30 3 0 (by unfold maxLen;omega) rfl
  have hr:=hid (show VlsIn (some a) n l _ from (K1.ro 1 rfl).now)
  have h1:=hid (G8 l)
  go_enter Tryz.func162,Tryz.ntmps162
  go_wp2_with (at_builtin;go_must (refine ZX K1 0 rfl Tryz.Xz hr.out rfl (.tmp 5) (.tmp 6) rfl rfl rfl h1.out (by omega) (by omega) ?_);intro C' cap' w2 hc1 hm1 K2)
  have KS:=K2.Zq 0 rfl
  go_ret
  simp only [Nat.zero_add,List.nil_append,List.set_cons_zero] at KS hc1
  exact ⟨C',n,cap',by first|rfl|simp,hl.out.symm,hc1,hm1,KS.ZN 0 rfl,KS.below⟩
theorem ZaG (M:Nat→Prop) (w:World) (hM:∀ b,M b→b<w.heap.size) (A:Option Addr) (n c:Nat) (l:List Col) (hD:Ro w M (ColsIn A n l)) (hn:n≤4398046511104):
  Calls Tryz.prog 108 #[.slice A n c] w fun e w' =>UN 4 (Zf l) l.length w M e w' :=by
 have hl:=hid (show l.length=n from (RdC.ZW hD.now).len)
 have hq:∀ (w:World) (a:Option Addr) (n c:Nat),(binOp .eql 64 (.slice a n c) (.slice none 0 0)).run Tryz.prog w=.ok (.bool a.isNone) w:=fun w a n c=>Go.Lib.run_eql_slice_nil w _ _ a n c 0 0 Tryz.underlying64
 rcases A with _|a
 ·have h0:n=0:=by
   rcases Nat.eq_zero_or_pos n with h|h
   ·exact h
   ·obtain ⟨_,_,e,_⟩:=(show Rd w w.heap.size 4 none n (Zf l) from hD.now).2 h;cases e
  subst h0
  obtain rfl:l=[]:=List.length_eq_zero_iff.1 hl.out
  go_enter Tryz.func108,Tryz.ntmps108
  go_wp2_with fail
  go_ret
  exact ⟨none,0,0,rfl,rfl,by omega,by omega,WW,Below.refl _ _⟩
 ·have K0:=(Hold.start M w hM).add (hD.less (by simp [Mut]))
  have K1:=K0.QN #[] 124 4 0 (by unfold maxLen;omega) rfl
  have hr:=hid (show ColsIn (some a) n l _ from (K1.ro 1 rfl).now)
  have h1:=hid (Ji l)
  go_enter Tryz.func108,Tryz.ntmps108
  go_wp2_with (at_builtin;go_must (refine ZX K1 0 rfl Tryz.U6 hr.out rfl (.tmp 5) (.tmp 6) rfl rfl rfl h1.out (by omega) (by omega) ?_);intro C' cap' w2 hc1 hm1 K2)
  have KS:=K2.Zq 0 rfl
  go_ret
  simp only [Nat.zero_add,List.nil_append,List.set_cons_zero] at KS hc1
  exact ⟨C',n,cap',by first|rfl|simp,hl.out.symm,hc1,hm1,KS.ZN 0 rfl,KS.below⟩
theorem Xe (M:Nat→Prop) (w:World) (hM:∀ b,M b→b<w.heap.size) (A:Option Addr) (n c:Nat) (l:List Vl) (hD:Ro w M (VlsIn A n l)) (hn:n≤4398046511104):
  Calls Tryz.prog 51 #[.slice A n c] w fun e w' =>UN 3 (ZH l) l.length w M e w' :=by
 have hl:=hid (show l.length=n from hD.now.len)
 have K0:=((Hold.start M w hM).add (hD.less (by simp [Mut]))).nil 30 3
 have hr:=hid (show VlsIn A n l _ from (K0.ro 1 rfl).now)
 have h1:=hid (G8 l)
 go_enter Tryz.func51,Tryz.ntmps51
 go_wp2_with (at_builtin;go_must (refine ZX K0 0 rfl Tryz.Xz hr.out rfl (.const (.slice none 0 0)) (.tmp 3) rfl rfl rfl h1.out (by omega) (by omega) ?_);intro C' cap' w2 hc1 hm1 K2)
 have KS:=K2.Zq 0 rfl
 go_ret
 simp only [Nat.zero_add,List.nil_append,List.set_cons_zero] at KS hc1
 exact ⟨C',n,cap',by first|rfl|simp,hl.out.symm,hc1,hm1,KS.ZN 0 rfl,KS.below⟩
def Zj (rs:List Row) (id:Int):Option (List Vl):=(rs.find? fun r=>r.1==id).map (·.2)
theorem ZhB {rs:List Row} {j:Nat} {r:Row} {id:Int} (hr:rs[j]? =some r) (h:r.1=id):Zj (rs.drop j) id=some r.2:=by
 unfold Zj;rw [Yr hr,List.find?_cons,show (r.1==id)=true by simpa using h];rfl
theorem ZhD {rs:List Row} {j:Nat} {r:Row} {id:Int} (hr:rs[j]? =some r) (h:r.1≠id):Zj (rs.drop j) id=Zj (rs.drop (j+1)) id:=by
 unfold Zj;rw [Yr hr,List.find?_cons,show (r.1==id)=false by simpa using h]
def Zea (w:World) (M:Nat→Prop) (o:Option (List Vl)) (e:Ending) (w' :World):Prop:=
 ∃ (A:Option Addr) (n c:Nat),e=.returned (.tuple #[.slice A n c,.bool o.isSome])∧n=(o.getD []).length∧n≤c∧c≤9223372036854775807∧Ro w' M (VlsIn A n (o.getD []))∧Below w.heap.size w w'
theorem Jz (M:Nat→Prop) (w:World) (hM:∀ b,M b→b<w.heap.size) (x0:Value) (x1:Value) (x2:Value) (B:Option Addr) (m d:Nat) (l:List Rw) (id:Int) (hE:Ro w M (RwsIn B m l)) (hm:m≤4611686018427387904) (hok:∀ r∈l,r.n≤4398046511104):
  Calls Tryz.prog 59 #[.agg #[x0,x1,x2,.slice B m d],.int .i64 id] w fun e w' =>Zea w M (Zj (l.map Rw.row) id) e w' :=by
 have HL:=hid hE.now.len
 have K0:=((Hold.start M w hM).add (hE.less (by simp [Mut]))).Za #[x0,x1,x2,.slice B m d] 69
 have F0:=K0.facts
 simp only [zg] at F0
 clear hE
 go_enter Tryz.func59,Tryz.ntmps59
 go_wp2_with fail
 clear F0
 go_loopw [11] (fun iv wr=>∃ (j:Nat),j≤m∧iv=.int .i64 j∧Hid (Zj (l.map Rw.row) id=Zj ((l.map Rw.row).drop j) id)∧Hold M none w wr [.cst w.heap.size 69 #[x0,x1,x2,.slice B m d],.ro (RwsIn B m l)]) (fun iv _=>m - (intOf iv).toNat)
 case atStart=>exact ⟨0,by omega,rfl,hid rfl,K0⟩
 case round=>
  clear K0
  obtain ⟨j,hj,rfl,HS,H⟩:=hrel
  by_cases hlt:j<m
  ·have hdd:decide ((j:Int)<(m:Int))=true:=by simp;omega
   have j0:(0:Int)≤(j:Int):=by omega
   obtain ⟨x,hx⟩:=Zl HL.out hlt
   obtain ⟨g,o,rfl,hgb,c0,c1,hvi⟩:=(H.ro 1 rfl).now.at_ hx
   have hrok:=hok x (Ka hx)
   have HX:=hid (show (l.map Rw.row)[j]? =some (x.id,x.vs) by simp [hx,Rw.row])
   have HXM:=hid (Ka hx)
   have K2:=H.Za #[.int .i64 x.id,.slice x.A x.n x.c] 72
   clear hx
   by_cases hi:x.id=id
   ·have hid_:(x.id==id)=true:=by simp [hi]
    have HN:=hid (show Zj (l.map Rw.row) id=some x.vs by rw [HS.out];exact ZhB HX.out hi)
    have hVR:Ro _ (Mut M _) (VlsIn x.A x.n x.vs):=(K2.ro 2 rfl).imp fun w2 h2=>h2.2 x HXM.out
    clear hi
    go_wp2_with fail
    refine (Xe _ _ K2.Zb x.A x.n x.c x.vs hVR hrok).mono ?_
    rintro e w3 ⟨A3,n3,c3,rfl,hn3,hc3,hc32,r3,b3⟩
    have K3:=K2.call b3
    have r4:Ro w3 M (SlR 3 A3 n3 (ZH x.vs)):=r3.less fun b hb=>.inl hb
    have HN3:=hid hn3
    clear hn3
    go_wp2_with fail
    go_ret2
    rw [HN.out]
    exact ⟨A3,n3,c3,rfl,HN3.out,hc3,hc32,r4,K3.below⟩
   ·have hid_:(x.id==id)=false:=by simpa using hi
    have HS2:=hid (show Zj (l.map Rw.row) id=Zj ((l.map Rw.row).drop (j+1)) id by rw [HS.out];exact ZhD HX.out hi)
    clear hi
    go_wp2_with fail
    go_roundw
    case rel=>exact ⟨j+1,by omega,by go_num,HS2,K2.drop (Kb _ _)⟩
    case measure=>simp [intOf];omega
  ·obtain rfl:j=m:=by omega
   have hdd:decide ((j:Int)<(j:Int))=false:=by simp
   have HN:=hid (show Zj (l.map Rw.row) id=none by rw [HS.out,Ld (by rw [Kj,HL.out];exact Kg _)];rfl)
   go_wp2_with fail
   go_ret2
   rw [HN.out]
   exact ⟨none,0,0,rfl,rfl,by omega,by omega,WW,H.below⟩
theorem Yc {a b:ByteArray} (h:a.toList=b.toList):a=b:=Go.WideShapes.bytes_inj (by rw [←ByteArray.toList_eq,←ByteArray.toList_eq];exact h)
theorem Zdq {α:Type} {xs ys:List α} {k:Nat} {x y:α} (hx:xs[k]? =some x) (hy:ys[k]? =some y) (h:xs.take k=ys.take k) (he:x=y):xs.take (k+1)=ys.take (k+1):=by
 rw [Kq,Kq,hx,hy,h,he]
structure Tb where
 nm:ByteArray
 cs:List Col
 nx:Int
 rs:List Row
deriving DecidableEq
def Wo (w:World) (M:Nat→Prop) (v:Value) (t:Tb):Prop:=
 ∃ (A:Option Addr) (n c:Nat) (B:Option Addr) (m d:Nat) (l:List Rw),v=.agg #[.string t.nm,.slice A n c,.int .i64 t.nx,.slice B m d]∧n≤c∧c≤9223372036854775807∧m≤d∧d≤9223372036854775807∧Ro w M (ColsIn A n t.cs)∧Ro w M (RwsIn B m l)∧(∀ r∈l,r.ok)∧l.map Rw.row=t.rs
theorem ZeV {a b:ByteArray} (h:a.toList=b.toList):a=b:=Go.WideShapes.bytes_inj (by rw [←ByteArray.toList_eq,←ByteArray.toList_eq];exact h)
theorem ZeU {a b:ByteArray}:(a.toList==b.toList)=true↔a=b:=by
 rw [beq_iff_eq];exact ⟨ZeV,fun h=>by rw [h]⟩
def Zv (l:List ByteArray):List Value:=l.map .string
def StrsIn (A:Option Addr) (n:Nat) (l:List ByteArray):World→Prop:=SlR 1 A n (Zv l)
theorem Tryz.QV:ElemT Tryz.prog 46 9 1 16 (.string ⟨#[]⟩):=⟨Tryz.underlying46,by kernel_rfl,rfl,by omega⟩
theorem StrsIn.len {w:World} {A:Option Addr} {n:Nat} {l:List ByteArray} (h:StrsIn A n l w):l.length=n:=by
 have:=(show Rd w w.heap.size 1 A n (Zv l) from h).1
 simpa [Zv] using this
theorem StrsIn.at_ {w:World} {A:Option Addr} {n:Nat} {l:List ByteArray} (h:StrsIn A n l w) {k:Nat} {x:ByteArray} (hx:l[k]? =some x):
  ∃ b o,A=some ⟨b,o,none⟩∧b<w.heap.size∧w.cell? ⟨b,o+k,none⟩=some (.string x):=by
 have hk:k<n:=by rw [←h.len];exact (Kc.1 hx).1
 obtain ⟨b,o,e,hb,hc⟩:=(show Rd w w.heap.size 1 A n (Zv l) from h).2 (by omega)
 exact ⟨b,o,e,hb,hc k _ (by simp [Zv,hx])⟩
end
section
open Go.RowKit Go.Sort
theorem Zlq {α:Type} [Inhabited α] (enc:α→Value) (w:World) (g m:Nat) (d:Array α) (os:Array Obj) {b:Nat} (hb:b<w.heap.size) (hne:b≠g):(sortWorld enc w g 0 m d os).heap[b]? =w.heap[b]? :=by
 show ((w.heap.modify g _)++os)[b]? =_
 rw [Array.getElem?_append,if_pos (by simpa using hb),Array.getElem?_modify,if_neg (fun e=>hne e.symm)]
theorem Zdd {α:Type} [Inhabited α] (enc:α→Value) (w:World) (g m:Nat) (d:Array α) (os:Array Obj):w.heap.size≤(sortWorld enc w g 0 m d os).heap.size:=by
 show _≤((w.heap.modify g _)++os).size
 simp
theorem Zlp {α:Type} [Inhabited α] (enc:α→Value) (w:World) (g m:Nat) (d:Array α) (os:Array Obj) {cs:Array Value} {t:TypeId} (h:w.heap[g]? =some (.cells cs t (0,0))):(sortWorld enc w g 0 m d os).heap[g]? =some (.cells (Go.Sort.putCells enc 0 d cs) t (0,0)):=by
 have hb:g<w.heap.size:=(KG.1 h).1
 show ((w.heap.modify g _)++os)[g]? =_
 rw [Array.getElem?_append,if_pos (by simpa using hb),Array.getElem?_modify,if_pos rfl,h]
 rfl
section
variable {α:Type} [Inhabited α] (enc:α→List Value) (k:Nat) (hk:∀ x,(enc x).length=k)
include hk
end
end
section
open Go.RowKit Go.Sort
theorem Zjd {α:Type} [Inhabited α] (enc:α→Value) {w:World} {base:Nat} {e:TypeId} {g q cap:Nat} {xs:List Value} (ho:w.ownsRow base e 1 (.slice (some ⟨g,0,none⟩) q cap) q xs) {d' :Array α} (hs:d'.size=q) (m:Nat) (os:Array Obj):(sortWorld enc w g 0 m d' os).ownsRow base e 1 (.slice (some ⟨g,0,none⟩) q cap) q (d'.toList.map enc):=by
 have hl:(d'.toList.map enc).length=q * 1:=by simp [hs]
 obtain ⟨hlen2,⟨hv0,_⟩|⟨g',cap',cur,hveq,hbase,hcell,hqc,hcm,hcs,htk⟩⟩:=ho
 ·cases hv0
 ·injection hveq with e1 e2 e3
  iterate 2
   injection e1 with e1
  subst e1;subst e3
  refine ⟨hl,.inr ⟨g,cap,_,rfl,hbase,Zlp enc w g m d' os hcell,hqc,hcm,?_,?_⟩⟩
  ·rw [←hcs]
   show (cur.mapIdx _).size=_
   simp
  ·refine List.ext_getElem? fun j=>?_
   by_cases hj:j<q
   ·have hj2:j<d'.size:=by omega
    have hr:(d'.toList.map enc)[j]? =some (enc d'[j]!):=by
     rw [KQ,Array.getElem?_toList,Lb hj2,getElem!_pos d' j hj2];rfl
    rw [List.getElem?_take,Lg (by omega),hr]
    have hjc:j<cur.size:=by rw [hcs];omega
    show ((cur.mapIdx fun i x=>if 0≤i∧i<0+d'.size then enc d'[i - 0]! else x).toList)[j]? =_
    rw [Array.getElem?_toList,Array.getElem?_mapIdx,Lb hjc]
    simp only [Option.map_some,Nat.zero_add,Nat.sub_zero,Nat.zero_le,true_and]
    rw [Lg hj2]
   ·rw [List.getElem?_eq_none (by rw [List.length_take];omega),List.getElem?_eq_none (by rw [hl];omega)]
theorem Hold.Zdc {α:Type} [Inhabited α] (enc:α→Value) {M:Nat→Prop} {row:Option Nat} {w0 w:World} {L:List Hp} (K:Hold M row w0 w L) (i:Nat) {e:TypeId} {g q cap:Nat} {xs:List Value} (hi:L[i]? =some (.own e 1 (.slice (some ⟨g,0,none⟩) q cap) q xs)) {d' :Array α} (hs:d'.size=q) (m:Nat) (os:Array Obj):Hold M row w0 (sortWorld enc w g 0 m d' os) (L.set i (.own e 1 (.slice (some ⟨g,0,none⟩) q cap) q (d'.toList.map enc))):=by
 have hg:g<w.heap.size:=(K.fresh _ (Ka hi) g rfl).2
 exact K.append (w' :=sortWorld enc w g 0 m d' os) i hi (Zjd enc (K.get i hi) hs m os) ⟨rfl,rfl,rfl,Zdd enc w g m d' os,fun b hb hne=>Zlq enc w g m d' os hb fun e=>hne (by rw [e];rfl)⟩ (.inl rfl) (La hg (Zdd enc w g m d' os))
def bytesOf (s:ByteArray):List UInt8:=s.data.toList
def strOf (z:List UInt8):ByteArray:=⟨z.toArray⟩
theorem JE (s:ByteArray):strOf (bytesOf s)=s:=by simp [strOf,bytesOf]
theorem ZlF (ss:List ByteArray):(ss.map bytesOf).map encStr=Zv ss:=by
 unfold Zv
 rw [List.map_map]
 refine List.map_congr_left fun s _=>?_
 show Value.string (strOf (bytesOf s))=_
 rw [JE]
theorem Za6 (zs:List (List UInt8)):zs.map encStr=Zv (zs.map strOf):=by
 unfold Zv
 rw [List.map_map];rfl
theorem ZlE (ss:List ByteArray):(ss.map bytesOf).map strOf=ss:=by
 rw [List.map_map]
 conv=>rhs;rw [←List.map_id ss]
 exact List.map_congr_left fun s _=>JE s
theorem ZbK {w:World} {base:Nat} {e:TypeId} {g q cap:Nat} {ss:List ByteArray} (ho:w.ownsRow base e 1 (.slice (some ⟨g,0,none⟩) q cap) q (Zv ss)):Holds encStr w g 0 (ss.map bytesOf).toArray:=fun j hj=>by
 have hl:ss.length=q:=by have:=ho.1;simpa [Zv] using this
 have hj2:j<q:=by simpa [hl] using hj
 rw [Nat.zero_add]
 refine ⟨(ho.cellAt j (by omega)).trans ?_,ho.frozenAt j⟩
 have hx:(ss.map bytesOf).toArray[j]! =(ss.map bytesOf)[j]'(by simpa using hj):=by rw [getElem!_pos (ss.map bytesOf).toArray j hj];simp
 rw [←ZlF,List.getElem?_map,hx,List.getElem?_eq_getElem (by simpa using hj)]
 rfl
theorem Zls {M:Nat→Prop} {row:Option Nat} {w0 w:World} {L:List Hp} (K:Hold M row w0 w L) (i:Nat) {e:TypeId} {g q cap:Nat} {ss:List ByteArray} (hi:L[i]? =some (.own e 1 (.slice (some ⟨g,0,none⟩) q cap) q (Zv ss))) (hq:q<4611686018427387904):
  Calls Tryz.prog 120 #[.slice (some ⟨g,0,none⟩) q cap] w fun e' w' =>e' =.returned (.tuple #[])∧∃ ss' :List ByteArray,ss'.Perm ss∧Hold M row w0 w' (L.set i (.own e 1 (.slice (some ⟨g,0,none⟩) q cap) q (Zv ss'))):=by
 have ho:=K.get i hi
 have hg:g<w.heap.size:=(K.fresh _ (Ka hi) g rfl).2
 have hl:ss.length=q:=by have:=ho.1;simpa [Zv] using this
 have hc:=AnyM.slices_Sort_string Tryz.sortStr g 0 cap (ss.map bytesOf) w (ZbK ho) hg (by rw [Kj,hl];exact hq)
 rw [Kj,hl] at hc
 refine Calls.mono (show Calls Tryz.prog 120 _ w _ from hc) ?_
 rintro e' w' ⟨rfl,n,os,rfl⟩
 refine ⟨rfl,((ss.map bytesOf).mergeSort fun x y=>decide (x≤y)).map strOf,?_,?_⟩
 ·have:=(List.mergeSort_perm (ss.map bytesOf) fun x y=>decide (x≤y)).map strOf
  rwa [ZlE] at this
 ·rw [←Za6]
  exact K.Zdc encStr i hi (d' :=((ss.map bytesOf).mergeSort fun x y=>decide (x≤y)).toArray) (by simp [hl]) n os
theorem ZaL {α:Type} [Inhabited α] [DecidableEq α] (d:Array α) (m:Nat):∀ j,j<m→d[j]! ∈Lib.compactUpTo d m
 | 0,h=>List.mem_map.2 ⟨0,List.mem_filter.2 ⟨List.mem_range.2 h,by simp [Lib.keeps]⟩,rfl⟩
 | j+1,h=>by
  by_cases hk:Lib.keeps d (j+1)=true
  ·exact Kt.2 ⟨j+1,List.mem_filter.2 ⟨Ku.2 h,hk⟩,rfl⟩
  ·have he:d[j+1]! =d[j]! :=by simpa [Lib.keeps] using hk
   rw [he]
   exact ZaL d m j (by omega)
theorem ZaM {α:Type} [Inhabited α] [DecidableEq α] (zs:List α) (z:α):z∈Lib.compact zs↔z∈zs:=by
 constructor
 ·intro h
  obtain ⟨j,hj,rfl⟩:=Kt.1 h
  have hj2:=Ku.1 (List.mem_filter.1 hj).1
  rw [getElem!_pos _ _ (by simpa using hj2)]
  simp
 ·intro h
  obtain ⟨j,hj,rfl⟩:=List.getElem_of_mem h
  have:=ZaL zs.toArray zs.length j hj
  rwa [getElem!_pos _ _ (by simpa using hj)] at this
theorem ZfJ {M:Nat→Prop} {row:Option Nat} {w0 w:World} {L:List Hp} (K:Hold M row w0 w L) (i:Nat) {e:TypeId} {g q cap:Nat} {ss:List ByteArray} (hi:L[i]? =some (.own e 1 (.slice (some ⟨g,0,none⟩) q cap) q (Zv ss))) (hq:q≤9223372036854775807):
  Calls Tryz.prog 121 #[.slice (some ⟨g,0,none⟩) q cap] w fun e' w' =>∃ (q' :Nat) (ss' :List ByteArray),e' =.returned (.slice (some ⟨g,0,none⟩) q' cap)∧q' ≤q∧(∀ s,s∈ss' ↔s∈ss)∧Hold M row w0 w' (L.set i (.own e 1 (.slice (some ⟨g,0,none⟩) q' cap) q' (Zv ss'))):=by
 have ho:=K.get i hi
 have hl:ss.length=q:=by have:=ho.1;simpa [Zv] using this
 have hcap:=ZM ho
 have hc:=AnyG.slices_Compact_string Tryz.ZfG g 0 cap (ss.map bytesOf) w (ZbK ho) (by rw [Kj,hl];exact hq) (by rw [Kj,hl];exact hcap.1)
 rw [Kj,hl] at hc
 refine Calls.mono (show Calls Tryz.prog 121 _ w _ from hc) ?_
 rintro e' w' ⟨rfl,n,rfl⟩
 have hle:(Lib.compact (ss.map bytesOf)).length≤q:=by
  have h1:(Lib.compact (ss.map bytesOf)).length≤(ss.map bytesOf).length:=by
   unfold Lib.compact Lib.compactUpTo
   rw [Kj]
   exact Nat.le_trans (List.length_filter_le _ _) (by simp)
  rwa [Kj,hl] at h1
 refine ⟨_,(Lib.compact (ss.map bytesOf)).map strOf,rfl,hle,fun s=>?_,?_⟩
 ·rw [Kt]
  constructor
  ·rintro ⟨z,hz,rfl⟩
   obtain ⟨x,hx,rfl⟩:=Kt.1 ((ZaM _ _).1 hz)
   rwa [JE]
  ·intro hs
   exact ⟨bytesOf s,(ZaM _ _).2 (Ko hs),JE s⟩
 ·have K1:=K.Zdc encStr i hi (d' :=(Lib.compact (ss.map bytesOf)++List.replicate (q - (Lib.compact (ss.map bytesOf)).length) []).toArray) (by simp;omega) n #[]
  have hi2:(L.set i (.own e 1 (.slice (some ⟨g,0,none⟩) q cap) q ((Lib.compact (ss.map bytesOf)++List.replicate (q - (Lib.compact (ss.map bytesOf)).length) []).toArray.toList.map encStr)))[i]? =some (.own e 1 (.slice (some ⟨g,0,none⟩) q cap) q ((Lib.compact (ss.map bytesOf)++List.replicate (q - (Lib.compact (ss.map bytesOf)).length) []).toArray.toList.map encStr)):=List.getElem?_set_self (Kc.1 hi).1
  have K2:=K1.ZfS i (n:=(Lib.compact (ss.map bytesOf)).length) hi2 hle
  rw [List.set_set,List.map_append,Nat.mul_one,List.take_left' (by simp),Za6] at K2
  have e:sortWorld encStr w g 0 n (Lib.compact (ss.map bytesOf)++List.replicate (q - (Lib.compact (ss.map bytesOf)).length) []).toArray #[]=putRow encStr (Sort.ahead w n) g 0 (Lib.compact (ss.map bytesOf)++List.replicate (q - (Lib.compact (ss.map bytesOf)).length) []).toArray:=grow_empty _
  rw [e] at K2
  exact K2
end
section
open Go.RowKit
theorem ZhU (w:World):Calls Tryz.prog 187 #[.slice none 0 0,.int .i64 0,.int .i64 0] w fun e w' =>e=.returned (.tuple #[])∧Below w.heap.size w w' :=by
 go_enter Tryz.func187,Tryz.ntmps187
 go_wp2_with fail
 go_loopw [6] (fun i wr=>i=.int .i64 1∧wr=w) (fun _ _=>0)
 case atStart=>exact ⟨rfl,rfl⟩
 case round=>
  obtain ⟨rfl,rfl⟩:=hrel
  go_wp2_with fail
  exact bodyPost_end (v:=.tuple #[]) (by simp [results,Tryz.results187,go_sem]) rfl ⟨rfl,Below.refl _ _⟩
theorem Zif (w:World):Calls Tryz.prog 197 #[.int .u64 0] w fun e w' =>e=.returned (.int .i64 0)∧Below w.heap.size w w' :=by
 go_enter Tryz.func197,Tryz.ntmps197
 go_wp2_with fail
 go_ret
 exact ⟨by first|rfl|(simp;rw [show Lib.len8 0=0 from by kernel_rfl];kernel_rfl),Below.refl _ _⟩
theorem Zig (w:World):Calls Tryz.prog 158 #[.int .u64 0] w fun e w' =>e=.returned (.int .i64 0)∧Below w.heap.size w w' :=by
 go_enter Tryz.func158,Tryz.ntmps158
 go_wp2_with fail
 refine (Zif w).mono ?_
 rintro e w1 ⟨rfl,b1⟩
 go_wp2_with fail
 go_ret
 exact ⟨rfl,b1⟩
theorem Zji (w:World):Calls Tryz.prog 157 #[.slice none 0 0,.int .i64 0,.int .i64 0,.int .i64 0] w fun e w' =>e=.returned (.tuple #[])∧Below w.heap.size w w' :=by
 go_enter Tryz.func157,Tryz.ntmps157
 go_wp2_with fail
 go_loopw [1,2,3] (fun x y z wr=>x=.int .i64 0∧y=.int .i64 0∧z=.int .i64 0∧wr=w) (fun _ _ _ _=>0)
 case atStart=>exact ⟨rfl,rfl,rfl,rfl⟩
 case round=>
  obtain ⟨rfl,rfl,rfl,rfl⟩:=hrel
  go_wp2_with fail
  refine (ZhU wr).mono ?_
  rintro e w1 ⟨rfl,b1⟩
  go_wp2_with fail
  exact bodyPost_ret (v:=.tuple #[]) (by simp [results,Tryz.results157,go_sem]) rfl ⟨rfl,b1⟩
theorem Zlr (w:World):Calls Tryz.prog 120 #[.slice none 0 0] w fun e w' =>e=.returned (.tuple #[])∧Below w.heap.size w w' :=by
 go_enter Tryz.func120,Tryz.ntmps120
 go_wp2_with fail
 refine (Zig w).mono ?_
 rintro e w1 ⟨rfl,b1⟩
 go_wp2_with fail
 refine (Zji w1).mono ?_
 rintro e w2 ⟨rfl,b2⟩
 go_wp2_with fail
 exact bodyPost_end (v:=.tuple #[]) (by simp [results,Tryz.results120,go_sem]) rfl ⟨rfl,b1.trans (b2.mono b1.size)⟩
theorem ZfI (w:World):Calls Tryz.prog 121 #[.slice none 0 0] w fun e w' =>e=.returned (.slice none 0 0)∧Below w.heap.size w w' :=by
 go_enter Tryz.func121,Tryz.ntmps121
 go_wp2_with fail
 go_ret
 exact ⟨rfl,Below.refl _ _⟩
end
end Go.Proofs.YtnmnkbnmollpmaaGreatDoor

import Derived.Test.YtnbbllkbefagmaaGreatDoorRkCtsSaidMD
namespace Go.Proofs.YtnbbllkbefagmaaGreatDoor
open Go.RowKit
set_option linter.unusedVariables false
set_option linter.unusedSimpArgs false
theorem Xp {w:World} {M:Nat→Prop} {size n:Nat} {A:Option Addr} {xs:List Value} {g:Nat} {t:TypeId} {cs:Array Value} (h:Ro w M (SlR size A n xs)) (hg:w.heap[g]? =some (.cells cs t (0,0))) (hno:n=0∨∀ o:Nat,¬∀ (j:Nat) (u:Value),xs[j]? =some u→cs[o+j]? =some u):Ro w (fun b=>M b∨b=g) (SlR size A n xs):=by
 have h0:Rd w w.heap.size size A n xs:=h.now
 rcases hno with hn|hno
 ·exact fun w2 _ _=>⟨h0.1,fun k=>absurd k (by omega)⟩
 ·rcases Nat.eq_zero_or_pos n with hn|hn
  ·exact fun w2 _ _=>⟨h0.1,fun k=>absurd k (by omega)⟩
  ·obtain ⟨b,o,hA,hb,hc⟩:=h0.2 hn
   have hbg:b≠g:=by
    rintro rfl
    refine hno o fun j u hu=>?_
    have:=hc j u hu
    rw [cell_of_row w b _ _ t (0,0) hg] at this
    exact this
   intro w2 h1 h2
   have hgl:g<w.heap.size:=(List.getElem?_eq_some_iff.1 (by simpa using hg:w.heap.toList[g]? =_)).1
   have hne:∀ x,x≠g→(w2.heap.setIfInBounds g (.cells cs t (0,0)))[x]? =w2.heap[x]? :=fun x hx=>by
    rw [Array.getElem?_setIfInBounds,if_neg (fun e=>hx e.symm)]
   have h3:Rd { w2 with heap:=w2.heap.setIfInBounds g (.cells cs t (0,0)) } _ size A n xs:=h { w2 with heap:=w2.heap.setIfInBounds g (.cells cs t (0,0)) } (by simpa using h1) (fun x hx hm=>by
    show (w2.heap.setIfInBounds g _)[x]? =_
    by_cases hxg:x=g
    ·subst hxg
     rw [Array.getElem?_setIfInBounds_self_of_lt (by omega),hg]
    ·exact (hne x hxg).trans (h2 x hx (fun k=>k.elim hm hxg)))
   obtain ⟨b',o',e,_,hc'⟩:=h3.2 hn
   obtain ⟨rfl,rfl⟩:b=b' ∧o=o' :=by rw [hA] at e;injection e with e;injection e with a1 a2;exact ⟨a1,a2⟩
   refine ⟨h3.1,fun _=>⟨b,o,hA,by omega,fun j u hu=>?_⟩⟩
   rw [←hc' j u hu]
   exact (World.cell?_of_block (w:=w2) (w' :={ w2 with heap:=w2.heap.setIfInBounds g (.cells cs t (0,0)) }) (a:=⟨b,o+j,none⟩) (hne b hbg)).symm
def XO:Array Value:=#[.string ⟨#[]⟩,.int .i64 0,.int .i64 0,.bool false,.int .i64 0,.int .i64 0,.string ⟨#[]⟩,.string ⟨#[]⟩,.string ⟨#[]⟩,.slice none 0 0,.slice none 0 0]
theorem Q8 {l:List Ex} {n:Nat} (hl:l.length=n) (hk:∀ a∈l,1≤a.kind):n=0∨∀ o:Nat,¬∀ (j:Nat) (u:Value),(Zl l)[j]? =some u→XO[o+j]? =some u:=by
 cases l with
 | nil=>left;simpa using hl.symm
 | cons a l=>
  refine .inr fun o h=>?_
  have h0:=h 0 (.int .i64 a.kind) rfl
  have hk:=hk a (List.mem_cons_self ..)
  rcases o with _|_|_|_|_|_|_|_|_|_|_|o<;>simp [XO] at h0<;>omega
theorem ZbM {l:List Qu} {n:Nat} (hl:l.length=n):n=0∨∀ o:Nat,¬∀ (j:Nat) (u:Value),(YU l)[j]? =some u→XO[o+j]? =some u:=by
 cases l with
 | nil=>left;simpa using hl.symm
 | cons a l=>
  refine .inr fun o h=>?_
  have h0:=h 0 (.bool a.star) rfl
  have h1:=h 1 (.slice a.A a.n a.c) rfl
  rcases o with _|_|_|_|_|_|_|_|_|_|_|o<;>simp [XO] at h0 h1
theorem ExGd.kind {d:Nat} {e:Ex} (h:ExGd d e):1≤e.kind:=by
 cases d with
 | zero=>exact h.elim
 | succ d=>exact h.2.1.1
theorem Us {w:World} {g:Nat} {t:TypeId} (hg:w.heap[g]? =some (.cells XO t (0,0))) {M:Nat→Prop}:∀ {d:Nat} {e:Ex},ExGd d e→Ro w M (ExIn d e)→Ro w (fun b=>M b∨b=g) (ExIn d e)
 | 0,_,h,_=>h.elim
 | d+1,e,⟨h1,h4,h2,h3⟩,hr=>by
  have a1:Ro w M (SlR 10 e.A e.n (Zl e.args)):=hr.imp fun w2 h=>h.1
  have a3:Ro w M (SlR 4 e.B e.m (YU e.sub)):=hr.imp fun w2 h=>h.2.2.1
  have l1:e.args.length=e.n:=by
   have:=(show Rd _ _ 10 e.A e.n (Zl e.args) from a1.now).1
   rw [X8] at this
   omega
  have l3:e.sub.length=e.m:=by
   have:=(show Rd _ _ 4 e.B e.m (YU e.sub) from a3.now).1
   rw [Qb] at this
   omega
  have b1:=Xp a1 hg (Q8 l1 fun a ha=>(h2 a ha).kind)
  have b3:=Xp a3 hg (ZbM l3)
  have b2:∀ a∈e.args,Ro w (fun b=>M b∨b=g) (ExIn d a):=fun a ha=>Us hg (h2 a ha) (hr.imp fun w2 h=>h.2.1 a ha)
  have b4:∀ q∈e.sub,Ro w (fun b=>M b∨b=g) (QuIn d q):=fun q hq=>by
   have c1:Ro w M (SlR 10 q.A q.n (Zl q.items)):=hr.imp fun w2 h=>(h.2.2.2 q hq).1.1
   have c2:Ro w M (SlR 10 q.B q.m (Zl q.wh)):=hr.imp fun w2 h=>(h.2.2.2 q hq).2.1
   have m1:q.items.length=q.n:=by
    have:=(show Rd _ _ 10 q.A q.n (Zl q.items) from c1.now).1
    rw [X8] at this
    omega
   have m2:q.wh.length=q.m:=by
    have:=(show Rd _ _ 10 q.B q.m (Zl q.wh) from c2.now).1
    rw [X8] at this
    omega
   have e1:=Xp c1 hg (Q8 m1 fun a ha=>((h3 q hq).2.2.1 a ha).kind)
   have e2:=Xp c2 hg (Q8 m2 fun a ha=>((h3 q hq).2.2.2 a ha).kind)
   have e3:∀ a∈q.items,Ro w (fun b=>M b∨b=g) (ExIn d a):=fun a ha=>Us hg ((h3 q hq).2.2.1 a ha) (hr.imp fun w2 h=>(h.2.2.2 q hq).1.2 a ha)
   have e4:∀ a∈q.wh,Ro w (fun b=>M b∨b=g) (ExIn d a):=fun a ha=>Us hg ((h3 q hq).2.2.2 a ha) (hr.imp fun w2 h=>(h.2.2.2 q hq).2.2 a ha)
   exact fun w2 g1 g2=>⟨⟨e1 w2 g1 g2,fun a ha=>e3 a ha w2 g1 g2⟩,e2 w2 g1 g2,fun a ha=>e4 a ha w2 g1 g2⟩
  exact fun w2 g1 g2=>⟨b1 w2 g1 g2,fun a ha=>b2 a ha w2 g1 g2,b3 w2 g1 g2,fun q hq=>b4 q hq w2 g1 g2⟩
end Go.Proofs.YtnbbllkbefagmaaGreatDoor

import Derived.Test.YtnmnkbnmollpmaaGreatDoorBdDscSaidMH
import Derived.Test.YtnmnkbnmollpmaaGreatDoorBdDscSaidMG
import Derived.Test.YtnmnkbnmollpmaaGreatDoorBdDscSaidMF
import Derived.Deep.DeepCutAuto
import Derived.Test.YtnmnkbnmollpmaaGreatDoorBdDscSaidMI
set_option linter.unusedVariables false
set_option linter.unusedSimpArgs false
set_option maxHeartbeats 64000000
set_option maxRecDepth 100000
namespace Go.Proofs.YtnmnkbnmollpmaaGreatDoor
section
open Go.RowKit
structure Sl where
 A:Option Addr
 n:Nat
 c:Nat
 vs:List Vl
def Sl.cells (r:Sl):List Value:=[.slice r.A r.n r.c]
def Qq (l:List Sl):List Value:=l.flatMap Sl.cells
theorem Zlm (l:List Sl):(Qq l).length=l.length:=by have:=YL Sl.cells 1 (fun _=>rfl) l;simpa [Qq] using this
def SlsIn (A:Option Addr) (n:Nat) (l:List Sl) (w:World):Prop:=SlR 1 A n (Qq l) w∧∀ r∈l,VlsIn r.A r.n r.vs w
theorem SlsIn.len {w:World} {A:Option Addr} {n:Nat} {l:List Sl} (h:SlsIn A n l w):l.length=n:=by
 have:=(show Rd w w.heap.size 1 A n (Qq l) from h.1).1
 rw [Zlm] at this
 omega
theorem SlsIn.at_ {w:World} {A:Option Addr} {n:Nat} {l:List Sl} (h:SlsIn A n l w) {k:Nat} {x:Sl} (hx:l[k]? =some x):
  ∃ b o,A=some ⟨b,o,none⟩∧b<w.heap.size∧w.cell? ⟨b,o+k,none⟩=some (.slice x.A x.n x.c)∧VlsIn x.A x.n x.vs w:=by
 have hk:k<n:=by rw [←h.len];exact (Kc.1 hx).1
 obtain ⟨b,o,e,hb,hc⟩:=(show Rd w w.heap.size 1 A n (Qq l) from h.1).2 (by omega)
 have h0:=flat_get Sl.cells 1 (fun _=>rfl) l k 0 x (by omega) hx
 rw [Nat.mul_one,Nat.add_zero] at h0
 exact ⟨b,o,e,hb,hc _ _ h0,h.2 x (Ka hx)⟩
structure Sl.ok (r:Sl):Prop where
 nc:r.n≤r.c
 c:r.c≤9223372036854775807
 vs:∀ v∈r.vs,v.ok
structure Pr where
 id:Int
 oA:Option Addr
 on:Nat
 oc:Nat
 old:List Vl
 nA:Option Addr
 nn:Nat
 nc:Nat
 new:List Vl
def Pr.cells (r:Pr):List Value:=[.int .i64 r.id,.slice r.oA r.on r.oc,.slice r.nA r.nn r.nc]
def ZB (l:List Pr):List Value:=l.flatMap Pr.cells
theorem Zjn (l:List Pr):(ZB l).length=l.length * 3:=YL _ 3 (fun _=>rfl) l
def PrsIn (A:Option Addr) (n:Nat) (l:List Pr) (w:World):Prop:=SlR 3 A n (ZB l) w∧∀ r∈l,VlsIn r.oA r.on r.old w∧VlsIn r.nA r.nn r.new w
theorem PrsIn.len {w:World} {A:Option Addr} {n:Nat} {l:List Pr} (h:PrsIn A n l w):l.length=n:=by
 have:=(show Rd w w.heap.size 3 A n (ZB l) from h.1).1
 rw [Zjn] at this
 omega
theorem PrsIn.at_ {w:World} {A:Option Addr} {n:Nat} {l:List Pr} (h:PrsIn A n l w) {k:Nat} {x:Pr} (hx:l[k]? =some x):
  ∃ b o,A=some ⟨b,o,none⟩∧b<w.heap.size∧w.cell? ⟨b,o+k * 3,none⟩=some (.int .i64 x.id)∧w.cell? ⟨b,o+k * 3+1,none⟩=some (.slice x.oA x.on x.oc)∧w.cell? ⟨b,o+k * 3+2,none⟩=some (.slice x.nA x.nn x.nc)∧VlsIn x.oA x.on x.old w∧VlsIn x.nA x.nn x.new w:=by
 have hk:k<n:=by rw [←h.len];exact (Kc.1 hx).1
 obtain ⟨b,o,e,hb,hc⟩:=(show Rd w w.heap.size 3 A n (ZB l) from h.1).2 (by omega)
 have h2:=h.2 x (Ka hx)
 exact ⟨b,o,e,hb,hc _ _ (flat_get Pr.cells 3 (fun _=>rfl) l k 0 x (by omega) hx),hc _ _ (flat_get Pr.cells 3 (fun _=>rfl) l k 1 x (by omega) hx),hc _ _ (flat_get Pr.cells 3 (fun _=>rfl) l k 2 x (by omega) hx),h2.1,h2.2⟩
structure Pr.ok (r:Pr):Prop where
 id:I64 r.id
 oc:r.on≤r.oc
 oc2:r.oc≤9223372036854775807
 nc:r.nn≤r.nc
 nc2:r.nc≤9223372036854775807
 old:∀ v∈r.old,v.ok
 new:∀ v∈r.new,v.ok
abbrev Upd:=Int × List Vl × List Vl
def Pr.upd (r:Pr):Upd:=(r.id,r.old,r.new)
def Yo (rs:List Row) (gone:List Int):Option Int→List Int→Bool
 | _,[]=>true
 | last,id::ids=>(Zj rs id).isSome&&!(last.any fun p=>decide (p≥id))&&!gone.contains id&&Yo rs gone (some id) ids
theorem ZcM {rs:List Row} {gone ids:List Int} {k:Nat} {id:Int} {last:Option Int} (hx:ids[k]? =some id) (h:(Zj rs id).isSome=false∨(last.any fun p=>decide (p≥id))=true∨gone.contains id=true):Yo rs gone last (ids.drop k)=false:=by
 rw [Yr hx,Yo]
 rcases h with h|h|h
 ·rw [h];rfl
 ·rw [h];simp
 ·rw [h];simp
theorem ZcN {rs:List Row} {gone ids:List Int} {k:Nat} {id:Int} {last:Option Int} (hx:ids[k]? =some id) (h1:(Zj rs id).isSome=true) (h2:(last.any fun p=>decide (p≥id))=false) (h3:gone.contains id=false):Yo rs gone last (ids.drop k)=Yo rs gone (some id) (ids.drop (k+1)):=by
 rw [Yr hx,Yo,h1,h2,h3];rfl
theorem Zkq {rs:List Row} {gone ids:List Int} {k:Nat} {last:Option Int} (h:ids.length≤k):Yo rs gone last (ids.drop k)=true:=by rw [Ld h];rfl
def Ua (ids:List Int) (k:Nat) (last:Option Int):Prop:=(k=0→last=none)∧∀ p,k=p+1→∃ z,ids[p]? =some z∧last=some z
end
section
open Go.RowKit
def YP (M:Nat→Prop) (x:Upd) (u:Value) (w:World):Prop:=∃ p:Pr,u=.agg #[.int .i64 p.id,.slice p.oA p.on p.oc,.slice p.nA p.nn p.nc]∧p.upd=x∧p.ok∧Ro w M (VlsIn p.oA p.on p.old)∧Ro w M (VlsIn p.nA p.nn p.new)
def YX (M:Nat→Prop) (l:List Upd) (u:Value) (w:World):Prop:=∃ (A:Option Addr) (n c:Nat) (ps:List Pr),u=.slice A n c∧n≤c∧c≤9223372036854775807∧ps.map Pr.upd=l∧(∀ p∈ps,p.ok)∧Ro w M (PrsIn A n ps)
def Zeq (M:Nat→Prop) (l:List (List Vl)) (u:Value) (w:World):Prop:=∃ (A:Option Addr) (n c:Nat) (ps:List Sl),u=.slice A n c∧n≤c∧c≤9223372036854775807∧ps.map Sl.vs=l∧(∀ p∈ps,p.ok)∧Ro w M (SlsIn A n ps)
def Zed (M:Nat→Prop) (l:List Int) (u:Value) (w:World):Prop:=∃ (A:Option Addr) (n c:Nat),u=.slice A n c∧n≤c∧c≤9223372036854775807∧Ro w M (IsIn A n l)
def Zad (M:Nat→Prop) (ins:List (List Vl)) (dels:List Int) (us:List Upd) (u:Value) (w:World):Prop:=∃ a b c:Value,u=.agg #[a,b,c]∧Zeq M ins a w∧Zed M dels b w∧YX M us c w
def ZdP (M:Nat→Prop) (r:Int × Tb) (u:Value) (w:World):Prop:=∃ v,u=.tuple #[v,.int .i64 r.1]∧Wo w M v r.2
def Yp (M:Nat→Prop) (H:Nat) (t:TypeId) (cs:Array Value) (u:Value) (w:World):Prop:=∃ g:Nat,u=.pointer (some ⟨g,0,none⟩)∧H≤g∧Ro w M (fun w=>w.heap[g]? =some (.cells cs t (0,0)))
theorem VS {M:Nat→Prop} {H:Nat} {t:TypeId} {cs:Array Value} (u:Value) (w w' :World) (hr:RM M w w') (h:Yp M H t cs u w):Yp M H t cs u w' :=by
 obtain ⟨g,h1,h2,h3⟩:=h
 exact ⟨g,h1,h2,hr.ro h3⟩
theorem Hold.VI {M:Nat→Prop} {row:Option Nat} {w0 w1 w:World} {L:List Hp} (K1:Hold M row w0 w1 L) (K:Hold M row w0 w L) (hr:RM (Mut M L) w1 w) {g:Nat} {t:TypeId} {cs:Array Value} (hg:w1.heap.size≤g) (hb:w.heap[g]? =some (.cells cs t (0,0))):
  Hold M row w0 w (.blk g t cs::L):=by
 have hgl:g<w.heap.size:=Blk.lt (t:=t) (cs:=cs) hb
 have hno:∀ k∈L,k.foot≠some g:=fun k hk hf=>by have:=(K1.fresh k hk g hf).2;omega
 have ee:∀ b,b<w1.heap.size→Mut M (.blk g t cs::L) b→Mut M L b:=fun b hl hb=>by
  rcases ZL.1 hb with hf|hm
  ·have:some g=some b:=hf
   injection this with this
   omega
  ·exact hm
 refine ⟨K.grow,K.low,fun k hk=>?_,fun k hk b hf=>?_,⟨fun b hf k hk he=>?_,K.sep⟩⟩
 ·rcases Kv.1 hk with rfl|hk
  ·exact hb
  ·have h1:=K1.sat k hk
   have h2:=K.sat k hk
   cases k with
   | blk g' t' cs' =>exact h2
   | own e s v n' xs=>exact h2
   | tp T=>
    refine ⟨h2.1,fun b hb' =>?_⟩
    have hT:T<w1.heap.size:=(K1.fresh _ hk T rfl).2
    rcases ZL.1 hb' with hf|hm'
    ·have:some g=some b:=hf
     injection this with this
     omega
    ·exact h2.2 b hm'
   | ro S=>exact Ro.step h1 hr.1 hr.2 ee
   | cst g' t' cs' =>exact Ro.step h1 hr.1 hr.2 ee
   | ob g' F' =>exact h2
 ·rcases Kv.1 hk with rfl|hk
  ·have:some g=some b:=hf
   injection this with this
   subst this
   exact ⟨.inl (KI K1.grow.size hg),hgl⟩
  ·exact K.fresh k hk b hf
 ·have:some g=some b:=hf
  injection this with this
  subst this
  exact hno k hk he
theorem Ro.UV {w:World} {Q:Nat→Prop} {size n:Nat} {A:Option Addr} {xs:List Value} (h:Ro w Q (SlR size A n xs)) {ga:Nat} {t:TypeId} {cs:Array Value} (hg:w.heap[ga]? =some (.cells cs t (0,0))) (hx:n=0∨∃ u,xs[0]? =some u∧u ∉ cs.toList):Ro w (fun b=>b=ga∨Q b) (SlR size A n xs):=by
 rcases hx with rfl|⟨u0,hu0,hnu⟩
 ·exact fun w2 _ _=>⟨(show Rd w w.heap.size size A 0 xs from h.now).1,fun h0=>absurd h0 (by omega)⟩
 ·intro w2 h1 h2
  have hgl:ga<w.heap.size:=Blk.lt (t:=t) (cs:=cs) hg
  have hgs:(w2.heap.setIfInBounds ga (.cells cs t (0,0)))[ga]? =some (.cells cs t (0,0)):=by
   rw [Array.getElem?_setIfInBounds,Lg rfl,Lg (by omega)]
  have hne:∀ b,b≠ga→(w2.heap.setIfInBounds ga (.cells cs t (0,0)))[b]? =w2.heap[b]? :=fun b hb=>by
   rw [Array.getElem?_setIfInBounds,Lf (fun e=>hb e.symm)]
  have h3:Rd { w2 with heap:=w2.heap.setIfInBounds ga (.cells cs t (0,0)) } _ size A n xs:=h { w2 with heap:=w2.heap.setIfInBounds ga (.cells cs t (0,0)) } (by simpa using h1) (fun b hb hn=>by
   by_cases e:b=ga
   ·subst e;exact hgs.trans hg.symm
   ·exact (hne b e).trans (h2 b hb (fun hm=>hm.elim e hn)))
  refine ⟨h3.1,fun hn=>?_⟩
  obtain ⟨b,o,e,hb,hc⟩:=h3.2 hn
  have hbg:b≠ga:=by
   rintro rfl
   have h4:=hc 0 u0 hu0
   rw [Li _ _ _ _ _ _ hgs] at h4
   exact hnu (Array.mem_toList_iff.2 (Array.mem_of_getElem? h4))
  refine ⟨b,o,e,by simpa using hb,fun j u hu=>?_⟩
  rw [←hc j u hu]
  exact (World.cell?_of_block (w:=w2) (w' :={ w2 with heap:=w2.heap.setIfInBounds ga (.cells cs t (0,0)) }) (a:=⟨b,o+j,none⟩) (hne b hbg)).symm
section
variable {M:Nat→Prop}
theorem Vq {x:Upd} (u:Value) (w w' :World) (hr:RM M w w') (h:YP M x u w):YP M x u w' :=by
 obtain ⟨p,h1,h2,h3,h4,h5⟩:=h
 exact ⟨p,h1,h2,h3,hr.ro h4,hr.ro h5⟩
theorem Jr {l:List Upd} (u:Value) (w w' :World) (hr:RM M w w') (h:YX M l u w):YX M l u w' :=by
 obtain ⟨A,n,c,ps,h1,h2,h3,h4,h5,h6⟩:=h
 exact ⟨A,n,c,ps,h1,h2,h3,h4,h5,hr.ro h6⟩
theorem Jo {id:Int} {old new:List Vl} {a b:Value} {w:World} (hid:I64 id) (ho:∀ v∈old,v.ok) (hn:∀ v∈new,v.ok) (h:Zx M old a w) (k:Zx M new b w):YP M (id,old,new) (.agg #[.int .i64 id,a,b]) w:=by
 obtain ⟨A,n,c,rfl,h1,h2,h3,h4⟩:=h
 obtain ⟨B,m,d,rfl,k1,k2,k3,k4⟩:=k
 exact ⟨⟨id,A,n,c,old,B,m,d,new⟩,rfl,rfl,⟨hid,h2,h3,k2,k3,ho,hn⟩,h4,k4⟩
theorem ZmD {x y:Upd} {a b:Value} {w:World} {g:Nat} {t:TypeId} {cs:Array Value} (hg:Ro w M (fun w=>w.heap[g]? =some (.cells cs t (0,0)))) (hc:∀ i j k i' j' k',a=.agg #[i,j,k]→b=.agg #[i',j',k']→cs=#[i,j,k,i',j',k']) (h:YP M x a w) (k:YP M y b w):YX M [x,y] (.slice (some ⟨g,0,none⟩) 2 2) w:=by
 obtain ⟨p,rfl,rfl,h3,h4,h5⟩:=h
 obtain ⟨q,rfl,rfl,k3,k4,k5⟩:=k
 obtain rfl:=hc _ _ _ _ _ _ rfl rfl
 refine ⟨_,2,2,[p,q],rfl,by omega,by omega,rfl,fun z hz=>?_,?_⟩
 ·simp only [List.mem_cons,List.not_mem_nil,or_false] at hz
  rcases hz with rfl|rfl<;>assumption
 ·exact (show Ro w M (SlR 3 (some ⟨g,0,none⟩) 2 (ZB [p,q])) from ZO hg rfl).and fun w2 h1 h2 r hr=>by
   simp only [List.mem_cons,List.not_mem_nil,or_false] at hr
   rcases hr with rfl|rfl
   ·exact ⟨h4 w2 h1 h2,h5 w2 h1 h2⟩
   ·exact ⟨k4 w2 h1 h2,k5 w2 h1 h2⟩
theorem Js {x:Upd} {a:Value} {w:World} {g:Nat} {t:TypeId} {cs:Array Value} (hg:Ro w M (fun w=>w.heap[g]? =some (.cells cs t (0,0)))) (hc:∀ i j k,a=.agg #[i,j,k]→cs=#[i,j,k]) (h:YP M x a w):YX M [x] (.slice (some ⟨g,0,none⟩) 1 1) w:=by
 obtain ⟨p,rfl,rfl,h3,h4,h5⟩:=h
 obtain rfl:=hc _ _ _ rfl
 refine ⟨_,1,1,[p],rfl,by omega,by omega,rfl,fun z hz=>?_,?_⟩
 ·simp only [List.mem_cons,List.not_mem_nil,or_false] at hz
  subst hz;assumption
 ·exact (show Ro w M (SlR 3 (some ⟨g,0,none⟩) 1 (ZB [p])) from ZO hg rfl).and fun w2 h1 h2 r hr=>by
   simp only [List.mem_cons,List.not_mem_nil,or_false] at hr
   subst hr
   exact ⟨h4 w2 h1 h2,h5 w2 h1 h2⟩
end
end
section
open Go.RowKit
def Yt (cs:List Col):List (List Vl)→Int
 | []=>0
 | v::r=>if Zt cs v=0 then Yt cs r else Zt cs v
def XB (cs:List Col) (news ins:List (List Vl)):Int:=if Yt cs news=0 then Yt cs ins else Yt cs news
theorem Zbr {cs:List Col} {l:List (List Vl)} {k:Nat} {v:List Vl} (hx:l[k]? =some v) (h:Zt cs v=0):Yt cs (l.drop k)=Yt cs (l.drop (k+1)):=by rw [Yr hx,Yt,Lg h]
theorem Zbp {cs:List Col} {l:List (List Vl)} {k:Nat} {v:List Vl} (hx:l[k]? =some v) (h:Zt cs v≠0):Yt cs (l.drop k)=Zt cs v:=by rw [Yr hx,Yt,Lf h]
theorem Zbq {cs:List Col} {l:List (List Vl)} {k:Nat} (h:l.length≤k):Yt cs (l.drop k)=0:=by rw [Ld h];rfl
structure QuP (α:Type) where
 star:Bool
 A:Option Addr
 n:Nat
 c:Nat
 items:List α
 src:ByteArray
 B:Option Addr
 m:Nat
 d:Nat
 wh:List α
structure Ex where
 kind:Int
 op:Int
 nt:Bool
 v:Vl
 tab:ByteArray
 nm:ByteArray
 A:Option Addr
 n:Nat
 c:Nat
 args:List Ex
 B:Option Addr
 m:Nat
 d:Nat
 sub:List (QuP Ex)
abbrev Qu:=QuP Ex
def Ex.cells (e:Ex):List Value:=[.int .i64 e.kind,.int .i64 e.op,.bool e.nt,.int .i64 e.v.k,.int .i64 e.v.i,.string e.v.s,.string e.tab,.string e.nm,.slice e.A e.n e.c,.slice e.B e.m e.d]
def Ex.val (e:Ex):Value:=.agg #[.int .i64 e.kind,.int .i64 e.op,.bool e.nt,.int .i64 e.v.k,.int .i64 e.v.i,.string e.v.s,.string e.tab,.string e.nm,.slice e.A e.n e.c,.slice e.B e.m e.d]
def Qu.cells (q:Qu):List Value:=[.bool q.star,.slice q.A q.n q.c,.string q.src,.slice q.B q.m q.d]
def XA (l:List Ex):List Value:=l.flatMap Ex.cells
def Qm (l:List Qu):List Value:=l.flatMap Qu.cells
theorem U9 (l:List Ex):(XA l).length=l.length * 10:=YL _ 10 (fun _=>rfl) l
theorem Zjt (l:List Qu):(Qm l).length=l.length * 4:=YL _ 4 (fun _=>rfl) l
def ExIn:Nat→Ex→World→Prop
 | 0,_,_=>False
 | d+1,e,w=>SlR 10 e.A e.n (XA e.args) w∧(∀ a∈e.args,ExIn d a w)∧SlR 4 e.B e.m (Qm e.sub) w∧∀ q∈e.sub,(SlR 10 q.A q.n (XA q.items) w∧∀ a∈q.items,ExIn d a w)∧SlR 10 q.B q.m (XA q.wh) w∧∀ a∈q.wh,ExIn d a w
def QuIn (d:Nat) (q:Qu) (w:World):Prop:=(SlR 10 q.A q.n (XA q.items) w∧∀ a∈q.items,ExIn d a w)∧SlR 10 q.B q.m (XA q.wh) w∧∀ a∈q.wh,ExIn d a w
def ExsIn (d:Nat) (A:Option Addr) (n:Nat) (l:List Ex) (w:World):Prop:=SlR 10 A n (XA l) w∧∀ e∈l,ExIn d e w
theorem ExIn.succ {d:Nat} {e:Ex} {w:World}:ExIn (d+1) e w↔ExsIn d e.A e.n e.args w∧SlR 4 e.B e.m (Qm e.sub) w∧∀ q∈e.sub,QuIn d q w:=by
 constructor
 ·rintro ⟨h1,h2,h3,h4⟩;exact ⟨⟨h1,h2⟩,h3,h4⟩
 ·rintro ⟨⟨h1,h2⟩,h3,h4⟩;exact ⟨h1,h2,h3,h4⟩
theorem ExIn.more {w:World}:∀ {d:Nat} {e:Ex},ExIn d e w→ExIn (d+1) e w
 | 0,_,h=>h.elim
 | d+1,e,⟨h1,h2,h3,h4⟩=>⟨h1,fun a ha=>(h2 a ha).more,h3,fun q hq=>⟨⟨(h4 q hq).1.1,fun a ha=>((h4 q hq).1.2 a ha).more⟩,(h4 q hq).2.1,fun a ha=>((h4 q hq).2.2 a ha).more⟩⟩
theorem ExIn.le {w:World} {d d' :Nat} {e:Ex} (h:ExIn d e w) (hd:d≤d'):ExIn d' e w:=by
 obtain ⟨k,rfl⟩:∃ k,d' =d+k:=⟨d' - d,by omega⟩
 clear hd
 induction k with
 | zero=>exact h
 | succ k ih=>exact ih.more
theorem ExsIn.len {d:Nat} {A:Option Addr} {n:Nat} {l:List Ex} {w:World} (h:ExsIn d A n l w):l.length=n:=by
 have:=(show Rd w w.heap.size 10 A n (XA l) from h.1).1
 rw [U9] at this
 omega
theorem ExsIn.at_ {d:Nat} {w:World} {A:Option Addr} {n:Nat} {l:List Ex} (h:ExsIn d A n l w) {k:Nat} {x:Ex} (hx:l[k]? =some x):
  ∃ b o,A=some ⟨b,o,none⟩∧b<w.heap.size∧(∀ j u,j<10→x.cells[j]? =some u→w.cell? ⟨b,o+k * 10+j,none⟩=some u)∧ExIn d x w:=by
 have hk:k<n:=by rw [←h.len];exact (Kc.1 hx).1
 obtain ⟨b,o,e,hb,hc⟩:=(show Rd w w.heap.size 10 A n (XA l) from h.1).2 (by omega)
 refine ⟨b,o,e,hb,fun j u hj hu=>?_,h.2 x (Ka hx)⟩
 rw [Nat.add_assoc]
 exact hc _ _ ((flat_get Ex.cells 10 (fun _=>rfl) l k j x hj hx).trans hu)
def vlZ:Vl:=⟨0,0,⟨#[]⟩⟩
def ZF (v:Vl):Ex:=⟨1,0,false,v,⟨#[]⟩,⟨#[]⟩,none,0,0,[],none,0,0,[]⟩
def ZU (t n:ByteArray):Ex:=⟨2,0,false,vlZ,t,n,none,0,0,[],none,0,0,[]⟩
def opE (kind op:Int) (nt:Bool) (g k:Nat) (l:List Ex):Ex:=⟨kind,op,nt,vlZ,⟨#[]⟩,⟨#[]⟩,some ⟨g,0,none⟩,k,k,l,none,0,0,[]⟩
def WE (x:Ex) (n:Int):Prop:=(0≤n∧x=ZF ⟨1,n,⟨#[]⟩⟩)∨(n<0∧∃ g,x=opE 4 0 false g 1 [ZF ⟨1,-n,⟨#[]⟩⟩])
theorem ZG (size:Nat) (w:World):SlR size none 0 [] w:=⟨by simp,fun h=>absurd h (Nat.lt_irrefl 0)⟩
theorem ZbZ (v:Vl) (w:World):ExIn 1 (ZF v) w:=⟨ZG 10 w,fun a ha=>(nomatch ha),ZG 4 w,fun q hq=>(nomatch hq)⟩
theorem ZaK (t n:ByteArray) (w:World):ExIn 1 (ZU t n) w:=⟨ZG 10 w,fun a ha=>(nomatch ha),ZG 4 w,fun q hq=>(nomatch hq)⟩
theorem G9 {d:Nat} {kind op:Int} {nt:Bool} {g k:Nat} {l:List Ex} {w:World} (h:ExsIn d (some ⟨g,0,none⟩) k l w):ExIn (d+1) (opE kind op nt g k l) w:=⟨h.1,h.2,ZG 4 w,fun q hq=>(nomatch hq)⟩
theorem ZiX (x:Ex):∀ u∈x.cells,u.oneCell' =true:=fun u hu=>by
 simp only [Ex.cells,List.mem_cons,List.not_mem_nil,or_false] at hu
 rcases hu with rfl|rfl|rfl|rfl|rfl|rfl|rfl|rfl|rfl|rfl<;>rfl
theorem Qb {d:Nat} {w:World} {M:Nat→Prop} {g:Nat} {t:TypeId} {cs:Array Value} {l:List Ex} (h:Ro w M (fun w=>w.heap[g]? =some (.cells cs t (0,0)))) (hl:cs.toList=XA l) (hr:∀ x∈l,Ro w M (ExIn d x)):Ro w M (ExsIn d (some ⟨g,0,none⟩) l.length l):=by
 have h1:Ro w M (SlR 10 (some ⟨g,0,none⟩) l.length cs.toList):=ZO h (by rw [hl,U9])
 rw [hl] at h1
 exact h1.and fun w2 a b x hx=>hr x hx w2 a b
structure SlP (α:Type) where
 A:Option Addr
 n:Nat
 c:Nat
 l:List α
def SlP.v {α:Type} (s:SlP α):Value:=.slice s.A s.n s.c
def SlP.nil {α:Type}:SlP α:=⟨none,0,0,[]⟩
def SlP.In {α:Type} (s:SlP α) (k:Nat) (cel:α→List Value) (P:α→World→Prop) (w:World):Prop:=SlR k s.A s.n (s.l.flatMap cel) w∧∀ x∈s.l,P x w
theorem SlP.In.len {α:Type} {s:SlP α} {k:Nat} {cel:α→List Value} {P:α→World→Prop} {w:World} (h:s.In k cel P w) (hk:0<k) (hc:∀ x,(cel x).length=k):s.l.length=s.n:=by
 have:=(show Rd w w.heap.size k s.A s.n (s.l.flatMap cel) from h.1).1
 rw [YL cel k hc] at this
 exact Nat.eq_of_mul_eq_mul_right hk this
theorem SlP.In.at_ {α:Type} {s:SlP α} {k:Nat} {cel:α→List Value} {P:α→World→Prop} {w:World} (h:s.In k cel P w) (hk:0<k) (hc:∀ x,(cel x).length=k) {i:Nat} {x:α} (hx:s.l[i]? =some x):
  ∃ b o,s.A=some ⟨b,o,none⟩∧b<w.heap.size∧(∀ j u,j<k→(cel x)[j]? =some u→w.cell? ⟨b,o+i * k+j,none⟩=some u)∧P x w:=by
 have hi:i<s.n:=by rw [←h.len hk hc];exact (Kc.1 hx).1
 obtain ⟨b,o,e,hb,hcl⟩:=(show Rd w w.heap.size k s.A s.n (s.l.flatMap cel) from h.1).2 (by omega)
 refine ⟨b,o,e,hb,fun j u hj hu=>?_,h.2 x (Ka hx)⟩
 rw [Nat.add_assoc]
 exact hcl _ _ ((flat_get cel k hc s.l i j x hj hx).trans hu)
theorem SlP.YM {α:Type} (k:Nat) (cel:α→List Value) (P:α→World→Prop) (w:World):(SlP.nil:SlP α).In k cel P w:=⟨ZG k w,fun _ hx=>(nomatch hx)⟩
structure Se where
 col:ByteArray
 e:Ex
def Se.cells (s:Se):List Value:=.string s.col::s.e.cells
structure Rk where
 tab:ByteArray
 col:ByteArray
 lo:Int
 hi:Int
def Rk.cells (r:Rk):List Value:=[.string r.tab,.string r.col,.int .i64 r.lo,.int .i64 r.hi]
structure Ac where
 kind:Int
 tab:ByteArray
 rows:SlP (SlP Ex)
 qs:SlP Qu
 sets:SlP Se
 wh:SlP Ex
 text:ByteArray
def Ac.cells (a:Ac):List Value:=[.int .i64 a.kind,.string a.tab,a.rows.v,a.qs.v,a.sets.v,a.wh.v,.string a.text]
structure Tg where
 name:ByteArray
 tab:ByteArray
 before:Bool
 event:Int
 cols:SlP ByteArray
 each:Bool
 prec:SlP ByteArray
 foll:SlP ByteArray
 rank:SlP Rk
 cond:SlP Ex
 acts:SlP Ac
def Tg.cells (t:Tg):List Value:=[.string t.name,.string t.tab,.bool t.before,.int .i64 t.event,t.cols.v,.bool t.each,t.prec.v,t.foll.v,t.rank.v,t.cond.v,t.acts.v]
def Yq (d:Nat) (s:Se) (w:World):Prop:=ExIn d s.e w
def AcIn (d:Nat) (a:Ac) (w:World):Prop:=
 a.rows.In 1 (fun r=>[r.v]) (fun r w=>r.In 10 Ex.cells (ExIn d) w) w∧a.qs.In 4 Qu.cells (QuIn d) w∧a.sets.In 11 Se.cells (Yq d) w∧a.wh.In 10 Ex.cells (ExIn d) w
def Yg (s:ByteArray):List Value:=[.string s]
def TgIn (d:Nat) (t:Tg) (w:World):Prop:=
 t.cols.In 1 Yg (fun _ _=>True) w∧t.prec.In 1 Yg (fun _ _=>True) w∧t.foll.In 1 Yg (fun _ _=>True) w∧t.rank.In 4 Rk.cells (fun _ _=>True) w∧t.cond.In 10 Ex.cells (ExIn d) w∧t.acts.In 7 Ac.cells (AcIn d) w
def Zal (r:Rk):Prop:=I64 r.lo∧I64 r.hi
def YR:Nat→Ex→Ex
 | 0,e=>e
 | d+1,e=>if e.kind=5∧e.op=2 then (match e.args with|a::_=>YR d a|[]=>e) else e
def Vm (e:Ex) (tab col:ByteArray):Bool:=(e.kind==2)&&(e.nm.toList==col.toList)&&(e.tab.toList.isEmpty||e.tab.toList==tab.toList)
def Yj (e:Ex):Int × Bool:=
 match e.args with
 | [a]=>if e.kind=4∧a.kind=1 then (IntKind.i64.wrap (-a.v.i),decide (a.v.k=1)) else (e.v.i,decide (e.kind=1)&&decide (e.v.k=1))
 | _=>(e.v.i,decide (e.kind=1)&&decide (e.v.k=1))
def VN (d:Nat) (a:Ac) (col:ByteArray):Option (Int × Int):=
 match a.wh.l with
 | []=>none
 | e0::_=>
  let e:=YR d e0
  if a.kind=2∧e.kind=7 then
   match e.args with
   | [x,y,z]=>if Vm x a.tab col∧(Yj y).2∧(Yj z).2 then some ((Yj y).1,(Yj z).1) else none
   | _=>none
  else none
def Vw (s:Se) (tab:ByteArray):Option Int:=
 match s.e.args with
 | [c,k]=>if s.e.kind=5∧(s.e.op=9∨s.e.op=10)∧c.kind=2∧c.nm=s.col∧(c.tab=⟨#[]⟩∨c.tab=tab)∧k.kind=1∧k.v.k=1 then some (if s.e.op=9 then 3 else 4) else none
 | _=>none
def WP (tab col:ByteArray) (s:Se):Option Int:=
 if s.col=col∧Vw s tab=some 4 then (match s.e.args with|[_,k]=>some k.v.i|_=>none) else none
def Wx (a:Ac) (col:ByteArray):Option Int:=if a.kind=2 then a.sets.l.findSome? (WP a.tab col) else none
def WU (d:Nat) (r:Rk) (a:Ac):Bool:=
 decide (a.kind=4)||(decide (a.tab=r.tab)&&(match Wx a r.col,VN d a r.col with|some k,some (lo,hi)=>decide (1≤k)&&decide (r.lo≤lo)&&decide (hi≤r.hi)|_,_=>false))
def Wh (d:Nat) (t:Tg) (r:Rk):Bool:=t.acts.l.all (WU d r)
def YZ (a:Ac):List ByteArray:=if a.kind=2 then a.sets.l.map Se.col else []
def Xo (r:Rk) (a:Ac):Bool:=
 if a.tab=r.tab then (if a.kind=1 then false else if a.kind=2∧((YZ a).any fun c=>decide (c=r.col))=true then (Wx a r.col).isSome else true) else true
theorem ZbP (w:World) (e:Ex) (t c:ByteArray):Calls Tryz.prog 146 #[e.val,.string t,.string c] w fun r w' =>r=.returned (.bool (Vm e t c))∧Below w.heap.size w w' :=by
 have K0:=(Hold.Yi w).Za #[.int .i64 e.kind,.int .i64 e.op,.bool e.nt,.int .i64 e.v.k,.int .i64 e.v.i,.string e.v.s,.string e.tab,.string e.nm,.slice e.A e.n e.c,.slice e.B e.m e.d] 34
 have F:=K0.facts
 simp only [zg] at F
 have HB:=hid K0.below
 rw [show e.val=.agg #[.int .i64 e.kind,.int .i64 e.op,.bool e.nt,.int .i64 e.v.k,.int .i64 e.v.i,.string e.v.s,.string e.tab,.string e.nm,.slice e.A e.n e.c,.slice e.B e.m e.d] from rfl]
 go_enter Tryz.func146,Tryz.ntmps146
 go_wp2_with fail
 all_goals
  go_ret
  exact ⟨by simp_all [Vm],Q4 _ _⟩
theorem Zbs (w:World) (A:Option Addr) (c:Nat):Calls Tryz.prog 145 #[.slice A 0 c] w fun r w' =>r=.returned (.tuple #[.agg #[.int .i64 0,.int .i64 0,.bool false,.int .i64 0,.int .i64 0,.string ⟨#[]⟩,.string ⟨#[]⟩,.string ⟨#[]⟩,.slice none 0 0,.slice none 0 0],.bool false])∧Below w.heap.size w w' :=by
 go_enter Tryz.func145,Tryz.ntmps145
 go_wp2_with fail
 exact bodyPost_ret (v:=.tuple #[.agg #[.int .i64 0,.int .i64 0,.bool false,.int .i64 0,.int .i64 0,.string ⟨#[]⟩,.string ⟨#[]⟩,.string ⟨#[]⟩,.slice none 0 0,.slice none 0 0],.bool false]) (by simp [results,Tryz.results145,go_sem]) rfl ⟨rfl,Q4 _ _⟩
theorem Zhx {d:Nat} {e a:Ex} {l:List Ex} (h1:e.kind=5) (h2:e.op=2) (h3:e.args=a::l):YR (d+1) e=YR d a:=by
 simp [YR,h1,h2,h3]
theorem Zhw {d:Nat} {e:Ex} (h:¬(e.kind=5∧e.op=2∧e.args≠[])):YR d e=e:=by
 cases d with
 | zero=>rfl
 | succ d=>
  simp only [YR]
  split
  ·split
   ·rename_i h1 _ _ _ h2
    exact absurd ⟨h1.1,h1.2,by rw [h2];exact List.cons_ne_nil _ _⟩ h
   ·rfl
  ·rfl
theorem Zhe (M:Nat→Prop) (w:World) (hM:∀ b,M b→b<w.heap.size) (A:Option Addr) (n c d:Nat) (x:Ex) (l:List Ex) (hl:Ro w M (ExsIn d A n (x::l))) (hn:n≤9223372036854775807):Calls Tryz.prog 145 #[.slice A n c] w fun r w' =>r=.returned (.tuple #[(YR d x).val,.bool true])∧Below w.heap.size w w' :=by
 have hlen:=hl.now.len
 have K0:=((Hold.start M w hM).add (hl.less (by simp [Mut]))).alloc #[.int .i64 0,.int .i64 0,.bool false,.int .i64 0,.int .i64 0,.string ⟨#[]⟩,.string ⟨#[]⟩,.string ⟨#[]⟩,.slice none 0 0,.slice none 0 0] 34
 have hd:((n:Int)==0)=false:=by simp at hlen;simp;omega
 have h1:0<n:=by simp at hlen;omega
 obtain ⟨b,o,rfl,hb,hc,hx⟩:=(K0.ro 1 rfl).now.at_ (k:=0) (x:=x) rfl
 have c0:=hc 0 _ (by omega) rfl
 have c1:=hc 1 _ (by omega) rfl
 have c2:=hc 2 _ (by omega) rfl
 have c3:=hc 3 _ (by omega) rfl
 have c4:=hc 4 _ (by omega) rfl
 have c5:=hc 5 _ (by omega) rfl
 have c6:=hc 6 _ (by omega) rfl
 have c7:=hc 7 _ (by omega) rfl
 have c8:=hc 8 _ (by omega) rfl
 have c9:=hc 9 _ (by omega) rfl
 simp only [Nat.zero_mul,Nat.add_zero] at c0 c1 c2 c3 c4 c5 c6 c7 c8 c9
 clear hc hlen
 have F:=K0.facts
 simp only [zg] at F
 go_enter Tryz.func145,Tryz.ntmps145
 go_wp2_with fail
 have K1:=((K0.add (S:=ExIn d x) ((K0.ro 1 rfl).imp fun w2 h2=>h2.2 x (Kl ..))).perm (L' :=[.ro (ExIn d x),.blk w.heap.size 34 #[.int .i64 0,.int .i64 0,.bool false,.int .i64 0,.int .i64 0,.string ⟨#[]⟩,.string ⟨#[]⟩,.string ⟨#[]⟩,.slice none 0 0,.slice none 0 0],.ro (ExsIn d (some ⟨b,o,none⟩) n (x::l))]) (List.Perm.refl _)).alloc #[.int .i64 x.kind,.int .i64 x.op,.bool x.nt,.int .i64 x.v.k,.int .i64 x.v.i,.string x.v.s,.string x.tab,.string x.nm,.slice x.A x.n x.c,.slice x.B x.m x.d] 34
 simp only [World.size_alloc] at K1
 clear c0 c1 c2 c3 c4 c5 c6 c7 c8 c9 F hx K0
 go_loopg [] d (fun gh wr=>∃ e:Ex,Hid (YR d x=YR gh e)∧Hold M none w wr [.blk (w.heap.size+1) 34 #[.int .i64 e.kind,.int .i64 e.op,.bool e.nt,.int .i64 e.v.k,.int .i64 e.v.i,.string e.v.s,.string e.tab,.string e.nm,.slice e.A e.n e.c,.slice e.B e.m e.d],.ro (ExIn gh e),.blk w.heap.size 34 #[.int .i64 0,.int .i64 0,.bool false,.int .i64 0,.int .i64 0,.string ⟨#[]⟩,.string ⟨#[]⟩,.string ⟨#[]⟩,.slice none 0 0,.slice none 0 0]])
 case atStart=>exact ⟨x,hid rfl,K1.drop (Ki _ (.cons_cons _ (.cons_cons _ (KV _))))⟩
 case round=>
  clear K1
  obtain ⟨⟨k,op,nt,v,tab,nm,A,n2,c2,args,B,m,d2,sub⟩,HE,H⟩:=hrel
  obtain _|gh:=gk
  ·exact ((H.ro 1 rfl).now).elim
  have hx:=ExIn.succ.1 (H.ro 1 rfl).now
  have hlen:=hx.1.len
  simp only at hlen H
  have F:=H.facts
  simp only [zg] at F
  by_cases hk:k=5∧op=2∧args≠[]
  ·obtain ⟨rfl,rfl,h3⟩:=hk
   obtain ⟨a,t,rfl⟩:=List.exists_cons_of_ne_nil h3
   obtain ⟨b2,o2,rfl,hb2,hc,ha⟩:=hx.1.at_ (k:=0) (x:=a) rfl
   have y0:=hc 0 _ (by omega) rfl
   have y1:=hc 1 _ (by omega) rfl
   have y2:=hc 2 _ (by omega) rfl
   have y3:=hc 3 _ (by omega) rfl
   have y4:=hc 4 _ (by omega) rfl
   have y5:=hc 5 _ (by omega) rfl
   have y6:=hc 6 _ (by omega) rfl
   have y7:=hc 7 _ (by omega) rfl
   have y8:=hc 8 _ (by omega) rfl
   have y9:=hc 9 _ (by omega) rfl
   simp only [Nat.zero_mul,Nat.add_zero] at y0 y1 y2 y3 y4 y5 y6 y7 y8 y9
   have hn2:decide ((n2:Int) > 0)=true:=by simp at hlen;simp;omega
   have h0:0<n2:=by simp at hlen;omega
   clear hc hx ha
   have KA:=H.add (S:=ExIn gh a) ((H.ro 1 rfl).imp fun w2 h2=>(ExIn.succ.1 h2).1.2 a (Kl ..))
   have KB:=KA.perm (L' :=[.blk (w.heap.size+1) 34 #[.int .i64 5,.int .i64 2,.bool nt,.int .i64 v.k,.int .i64 v.i,.string v.s,.string tab,.string nm,.slice (some ⟨b2,o2,none⟩) n2 c2,.slice B m d2],.ro (ExIn gh a),.blk w.heap.size 34 #[.int .i64 0,.int .i64 0,.bool false,.int .i64 0,.int .i64 0,.string ⟨#[]⟩,.string ⟨#[]⟩,.string ⟨#[]⟩,.slice none 0 0,.slice none 0 0],.ro (ExIn (gh+1) ⟨5,2,nt,v,tab,nm,some ⟨b2,o2,none⟩,n2,c2,a::t,B,m,d2,sub⟩)]) ((List.Perm.swap _ _ _).trans (((List.Perm.swap _ _ _).cons _).cons _))
   have K2:=(((((((((KB.store 0 rfl 0 (.int .i64 a.kind)).store 0 rfl 1 (.int .i64 a.op)).store 0 rfl 2 (.bool a.nt)).store 0 rfl 3 (.int .i64 a.v.k)).store 0 rfl 4 (.int .i64 a.v.i)).store 0 rfl 5 (.string a.v.s)).store 0 rfl 6 (.string a.tab)).store 0 rfl 7 (.string a.nm)).store 0 rfl 8 (.slice a.A a.n a.c)).store 0 rfl 9 (.slice a.B a.m a.d)
   simp only [zl] at K2
   have K3:=K2.drop (Ki _ (.cons_cons _ (.cons_cons _ (KV _))))
   clear KA KB K2
   go_wp2_with fail
   go_roundg gh
   case rel=>exact ⟨a,hid (HE.out.trans (Zhx rfl rfl rfl)),K3⟩
   case measure=>omega
  ·have HF:=hid (Zhw (d:=gh+1) (e:=⟨k,op,nt,v,tab,nm,A,n2,c2,args,B,m,d2,sub⟩) hk)
   have HC:k≠5∨(k=5∧op≠2)∨(k=5∧op=2∧n2=0):=by
    by_cases h5:k=5
    ·by_cases h2:op=2
     ·refine .inr (.inr ⟨h5,h2,?_⟩)
      have:args=[]:=Classical.byContradiction fun h=>hk ⟨h5,h2,h⟩
      rw [this] at hlen
      exact hlen.symm
     ·exact .inr (.inl ⟨h5,h2⟩)
    ·exact .inl h5
   clear hx hlen hk
   rcases HC with h|⟨rfl,h⟩|⟨rfl,rfl,rfl⟩
   ·have hq:(k==5)=false:=by simpa using h
    have K2:=(((((((((H.store 2 rfl 0 (.int .i64 k)).store 2 rfl 1 (.int .i64 op)).store 2 rfl 2 (.bool nt)).store 2 rfl 3 (.int .i64 v.k)).store 2 rfl 4 (.int .i64 v.i)).store 2 rfl 5 (.string v.s)).store 2 rfl 6 (.string tab)).store 2 rfl 7 (.string nm)).store 2 rfl 8 (.slice A n2 c2)).store 2 rfl 9 (.slice B m d2)
    simp only [zl] at K2
    have F2:=K2.facts
    simp only [zg] at F2
    have HB:=hid K2.below
    clear K2 H
    go_wp2_with fail
    refine Lh (v:=.tuple #[.agg #[.int .i64 k,.int .i64 op,.bool nt,.int .i64 v.k,.int .i64 v.i,.string v.s,.string tab,.string nm,.slice A n2 c2,.slice B m d2],.bool true]) ?_ rfl ⟨by rw [HE.out,HF.out];rfl,HB.out⟩
    simp [results,Tryz.results145,go_sem,F2]
   ·have hq:(op==2)=false:=by simpa using h
    have K2:=(((((((((H.store 2 rfl 0 (.int .i64 5)).store 2 rfl 1 (.int .i64 op)).store 2 rfl 2 (.bool nt)).store 2 rfl 3 (.int .i64 v.k)).store 2 rfl 4 (.int .i64 v.i)).store 2 rfl 5 (.string v.s)).store 2 rfl 6 (.string tab)).store 2 rfl 7 (.string nm)).store 2 rfl 8 (.slice A n2 c2)).store 2 rfl 9 (.slice B m d2)
    simp only [zl] at K2
    have F2:=K2.facts
    simp only [zg] at F2
    have HB:=hid K2.below
    clear K2 H
    go_wp2_with fail
    refine Lh (v:=.tuple #[.agg #[.int .i64 5,.int .i64 op,.bool nt,.int .i64 v.k,.int .i64 v.i,.string v.s,.string tab,.string nm,.slice A n2 c2,.slice B m d2],.bool true]) ?_ rfl ⟨by rw [HE.out,HF.out];rfl,HB.out⟩
    simp [results,Tryz.results145,go_sem,F2]
   ·skip
    have K2:=(((((((((H.store 2 rfl 0 (.int .i64 5)).store 2 rfl 1 (.int .i64 2)).store 2 rfl 2 (.bool nt)).store 2 rfl 3 (.int .i64 v.k)).store 2 rfl 4 (.int .i64 v.i)).store 2 rfl 5 (.string v.s)).store 2 rfl 6 (.string tab)).store 2 rfl 7 (.string nm)).store 2 rfl 8 (.slice A 0 c2)).store 2 rfl 9 (.slice B m d2)
    simp only [zl] at K2
    have F2:=K2.facts
    simp only [zg] at F2
    have HB:=hid K2.below
    clear K2 H
    go_wp2_with fail
    refine Lh (v:=.tuple #[.agg #[.int .i64 5,.int .i64 2,.bool nt,.int .i64 v.k,.int .i64 v.i,.string v.s,.string tab,.string nm,.slice A 0 c2,.slice B m d2],.bool true]) ?_ rfl ⟨by rw [HE.out,HF.out];rfl,HB.out⟩
    simp [results,Tryz.results145,go_sem,F2]
theorem ZaJ (w:World) (t n:ByteArray):Calls Tryz.prog 7 #[.string t,.string n] w fun e w' =>e=.returned (ZU t n).val∧Below w.heap.size w w' :=by
 have K0:=(Hold.Yi w).alloc #[.int .i64 2,.int .i64 0,.bool false,.int .i64 0,.int .i64 0,.string ⟨#[]⟩,.string t,.string n,.slice none 0 0,.slice none 0 0] 34
 have F:=K0.facts
 simp only [zg] at F
 have HB:=hid K0.below
 go_enter Tryz.func7,Tryz.ntmps7
 go_wp2_with fail
 exact bodyPost_ret (v:=(ZU t n).val) (by simp [results,Tryz.results7,go_sem,F,Ex.val,ZU,vlZ]) rfl ⟨rfl,HB.out⟩
theorem Zih (w:World) (v:Vl):Calls Tryz.prog 18 #[.agg #[.int .i64 v.k,.int .i64 v.i,.string v.s]] w fun e w' =>e=.returned (ZF v).val∧Below w.heap.size w w' :=by
 have K0:=((Hold.Yi w).Za #[.int .i64 v.k,.int .i64 v.i,.string v.s] 30).alloc #[.int .i64 1,.int .i64 0,.bool false,.int .i64 v.k,.int .i64 v.i,.string v.s,.string ⟨#[]⟩,.string ⟨#[]⟩,.slice none 0 0,.slice none 0 0] 34
 have F:=K0.facts
 simp only [zg] at F
 have HB:=hid K0.below
 go_enter Tryz.func18,Tryz.ntmps18
 go_wp2_with fail
 exact bodyPost_ret (v:=(ZF v).val) (by simp [results,Tryz.results18,go_sem,F,Ex.val,ZF,vlZ]) rfl ⟨rfl,HB.out⟩
theorem Zfb (M:Nat→Prop) (w:World) (hM:∀ b,M b→b<w.heap.size) (op:Int) (a b:Ex) (d:Nat) (ha:Ro w M (ExIn d a)) (hb:Ro w M (ExIn d b)):Calls Tryz.prog 6 #[.int .i64 op,.agg #[.int .i64 a.kind,.int .i64 a.op,.bool a.nt,.int .i64 a.v.k,.int .i64 a.v.i,.string a.v.s,.string a.tab,.string a.nm,.slice a.A a.n a.c,.slice a.B a.m a.d],.agg #[.int .i64 b.kind,.int .i64 b.op,.bool b.nt,.int .i64 b.v.k,.int .i64 b.v.i,.string b.v.s,.string b.tab,.string b.nm,.slice b.A b.n b.c,.slice b.B b.m b.d]] w fun e w' =>∃ g:Nat,e=.returned (opE 5 op false g 2 [a,b]).val∧Ro w' M (ExIn (d+1) (opE 5 op false g 2 [a,b]))∧Below w.heap.size w w' :=by
 have K0:=(((((Hold.start M w hM).add (hb.less (by simp [Mut]))).add (ha.less (by simp [Mut,Hp.foot]))).Za #[.int .i64 a.kind,.int .i64 a.op,.bool a.nt,.int .i64 a.v.k,.int .i64 a.v.i,.string a.v.s,.string a.tab,.string a.nm,.slice a.A a.n a.c,.slice a.B a.m a.d] 34).Za #[.int .i64 b.kind,.int .i64 b.op,.bool b.nt,.int .i64 b.v.k,.int .i64 b.v.i,.string b.v.s,.string b.tab,.string b.nm,.slice b.A b.n b.c,.slice b.B b.m b.d] 34).alloc #[.int .i64 5,.int .i64 op,.bool false,.int .i64 0,.int .i64 0,.string ⟨#[]⟩,.string ⟨#[]⟩,.string ⟨#[]⟩,.slice (some ⟨w.heap.size+1+1+1,0,none⟩) 2 2,.slice none 0 0] 34
 simp only [World.size_alloc] at K0
 have K1:=K0.Za #[.int .i64 a.kind,.int .i64 a.op,.bool a.nt,.int .i64 a.v.k,.int .i64 a.v.i,.string a.v.s,.string a.tab,.string a.nm,.slice a.A a.n a.c,.slice a.B a.m a.d,.int .i64 b.kind,.int .i64 b.op,.bool b.nt,.int .i64 b.v.k,.int .i64 b.v.i,.string b.v.s,.string b.tab,.string b.nm,.slice b.A b.n b.c,.slice b.B b.m b.d] 34
 simp only [World.size_alloc] at K1
 have F:=K1.facts
 simp only [zg] at F
 have hr:=Qb (d:=d) (l:=[a,b]) (K1.get 0 rfl) rfl (fun x hx=>by
  simp only [List.mem_cons,List.not_mem_nil,or_false] at hx
  rcases hx with rfl|rfl
  ·exact K1.ro 4 rfl
  ·exact K1.ro 5 rfl)
 have HR:=hid (show Ro _ M (ExIn (d+1) (opE 5 op false (w.heap.size+1+1+1) 2 [a,b])) from (hr.less fun b hb=>.inl hb).imp fun w2 h2=>G9 h2)
 have HB:=hid K1.below
 clear K0 K1 hr
 go_enter Tryz.func6,Tryz.ntmps6
 go_wp2_with fail
 exact bodyPost_ret (v:=(opE 5 op false (w.heap.size+1+1+1) 2 [a,b]).val) (by simp [results,Tryz.results6,go_sem,F,Ex.val,opE,vlZ]) rfl ⟨_,rfl,HR.out,HB.out⟩
theorem Zb8 (w:World) (n:Int) (h:0≤n):Calls Tryz.prog 8 #[.int .i64 n] w fun e w' =>e=.returned (ZF ⟨1,n,⟨#[]⟩⟩).val∧Below w.heap.size w w' :=by
 have K0:=(Hold.Yi w).alloc #[.int .i64 0,.int .i64 0,.bool false,.int .i64 0,.int .i64 0,.string ⟨#[]⟩,.string ⟨#[]⟩,.string ⟨#[]⟩,.slice none 0 0,.slice none 0 0] 34
 have hd:decide (n<0)=false:=by simp;omega
 have hd2:¬n<0:=by omega
 obtain ⟨g,hg⟩:∃ g,g=w.heap.size:=⟨_,rfl⟩
 rw [←hg] at K0
 go_enter Tryz.func8,Tryz.ntmps8
 go_wp2_with fail
 rw [←hg]
 have HG:=hid hg
 clear hg
 refine (Zih _ ⟨1,n,⟨#[]⟩⟩).mono ?_
 rintro e w1 ⟨rfl,b1⟩
 have K1:=K0.call b1
 clear K0 b1
 have F:=K1.facts
 simp only [zg] at F
 have K2:=((((((((((K1.store 0 rfl 0 (.int .i64 1)).store 0 rfl 1 (.int .i64 0)).store 0 rfl 2 (.bool false)).store 0 rfl 3 (.int .i64 1)).store 0 rfl 4 (.int .i64 n)).store 0 rfl 5 (.string ⟨#[]⟩)).store 0 rfl 6 (.string ⟨#[]⟩)).store 0 rfl 7 (.string ⟨#[]⟩)).store 0 rfl 8 (.slice none 0 0)).store 0 rfl 9 (.slice none 0 0))
 simp only [zl] at K2
 have HB:=hid K2.below
 rw [show (ZF ⟨1,n,⟨#[]⟩⟩).val=.agg #[.int .i64 1,.int .i64 0,.bool false,.int .i64 1,.int .i64 n,.string ⟨#[]⟩,.string ⟨#[]⟩,.string ⟨#[]⟩,.slice none 0 0,.slice none 0 0] from rfl]
 go_wp2_with fail
 exact bodyPost_ret (v:=.agg #[.int .i64 1,.int .i64 0,.bool false,.int .i64 1,.int .i64 n,.string ⟨#[]⟩,.string ⟨#[]⟩,.string ⟨#[]⟩,.slice none 0 0,.slice none 0 0]) (by simp [results,Tryz.results8,go_sem,F]) rfl ⟨rfl,HB.out⟩
theorem ZiN (M:Nat→Prop) (w:World) (hM:∀ b,M b→b<w.heap.size) (n:Int) (h:n<0) (h2:-4611686018427387904≤n):Calls Tryz.prog 8 #[.int .i64 n] w fun e w' =>∃ g:Nat,e=.returned (opE 4 0 false g 1 [ZF ⟨1,-n,⟨#[]⟩⟩]).val∧Ro w' M (ExIn 2 (opE 4 0 false g 1 [ZF ⟨1,-n,⟨#[]⟩⟩]))∧Below w.heap.size w w' :=by
 have K0:=(Hold.start M w hM).alloc #[.int .i64 0,.int .i64 0,.bool false,.int .i64 0,.int .i64 0,.string ⟨#[]⟩,.string ⟨#[]⟩,.string ⟨#[]⟩,.slice none 0 0,.slice none 0 0] 34
 have hd:decide (n<0)=true:=by simp;omega
 have hw:IntKind.i64.wrap (-n)=-n:=by rw [Kn];omega
 obtain ⟨g,hg⟩:∃ g,g=w.heap.size:=⟨_,rfl⟩
 rw [←hg] at K0
 go_enter Tryz.func8,Tryz.ntmps8
 go_wp2_with fail
 rw [←hg]
 have HG:=hid hg
 clear hg
 refine (Zb8 _ (-n) (by omega)).mono ?_
 rintro e w1 ⟨rfl,b1⟩
 have KA:=K0.call b1
 have K1:=KA.Za #[.int .i64 1,.int .i64 0,.bool false,.int .i64 1,.int .i64 (-n),.string ⟨#[]⟩,.string ⟨#[]⟩,.string ⟨#[]⟩,.slice none 0 0,.slice none 0 0] 34
 clear KA b1
 obtain ⟨g2,hg2⟩:∃ g,g=w1.heap.size:=⟨_,rfl⟩
 rw [←hg2] at K1
 have F:=K1.facts
 simp only [zg] at F
 have K2:=((((((((((K1.store 1 rfl 0 (.int .i64 4)).store 1 rfl 1 (.int .i64 0)).store 1 rfl 2 (.bool false)).store 1 rfl 3 (.int .i64 0)).store 1 rfl 4 (.int .i64 0)).store 1 rfl 5 (.string ⟨#[]⟩)).store 1 rfl 6 (.string ⟨#[]⟩)).store 1 rfl 7 (.string ⟨#[]⟩)).store 1 rfl 8 (.slice (some ⟨g2,0,none⟩) 1 1)).store 1 rfl 9 (.slice none 0 0))
 simp only [zl] at K2
 clear K1 K0
 have F2:=K2.facts
 simp only [zg] at F2
 have hr:=Qb (d:=1) (l:=[ZF ⟨1,-n,⟨#[]⟩⟩]) (K2.get 0 rfl) rfl (fun x hx w2 _ _=>by
  simp only [List.mem_cons,List.not_mem_nil,or_false] at hx
  subst hx
  exact ZbZ _ _)
 have HR:=hid (show Ro _ M (ExIn 2 (opE 4 0 false g2 1 [ZF ⟨1,-n,⟨#[]⟩⟩])) from (hr.less fun b hb=>.inl hb).imp fun w2 h2=>G9 h2)
 have HB:=hid K2.below
 rw [show (ZF ⟨1,-n,⟨#[]⟩⟩).val=.agg #[.int .i64 1,.int .i64 0,.bool false,.int .i64 1,.int .i64 (-n),.string ⟨#[]⟩,.string ⟨#[]⟩,.string ⟨#[]⟩,.slice none 0 0,.slice none 0 0] from rfl]
 clear hr K2
 go_wp2_with fail
 rw [←hg2]
 have HG2:=hid hg2
 clear hg2
 refine Lh (v:=(opE 4 0 false g2 1 [ZF ⟨1,-n,⟨#[]⟩⟩]).val) ?_ rfl ⟨_,rfl,HR.out,HB.out⟩
 have HO:(opE 4 0 false g2 1 [ZF ⟨1,-n,⟨#[]⟩⟩]).val=.agg #[.int .i64 4,.int .i64 0,.bool false,.int .i64 0,.int .i64 0,.string ⟨#[]⟩,.string ⟨#[]⟩,.string ⟨#[]⟩,.slice (some ⟨g2,0,none⟩) 1 1,.slice none 0 0]:=rfl
 rw [HO]
 clear HO HR HB
 simp [results,Tryz.results8,go_sem,F2]
theorem JW (M:Nat→Prop) (w:World) (hM:∀ b,M b→b<w.heap.size) (n:Int) (h2:-4611686018427387904≤n):Calls Tryz.prog 8 #[.int .i64 n] w fun e w' =>∃ x:Ex,e=.returned x.val∧WE x n∧Ro w' M (ExIn 2 x)∧Below w.heap.size w w' :=by
 by_cases h:n<0
 ·refine (ZiN M w hM n h h2).mono ?_
  rintro e w1 ⟨g,rfl,r,b⟩
  exact ⟨_,rfl,.inr ⟨h,g,rfl⟩,r,b⟩
 ·refine (Zb8 w n (by omega)).mono ?_
  rintro e w1 ⟨rfl,b⟩
  exact ⟨_,rfl,.inl ⟨by omega,rfl⟩,fun w2 _ _=>(ZbZ _ _).more,b⟩
theorem Zfa (M:Nat→Prop) (w:World) (hM:∀ b,M b→b<w.heap.size) (s:ByteArray) (lo hi:Int) (h1:-4611686018427387904≤lo) (h2:-4611686018427387904≤hi):Calls Tryz.prog 9 #[.string s,.int .i64 lo,.int .i64 hi] w fun e w' =>∃ (g:Nat) (x y:Ex),e=.returned (opE 7 0 false g 3 [ZU ⟨#[]⟩ s,x,y]).val∧WE x lo∧WE y hi∧Ro w' M (ExIn 3 (opE 7 0 false g 3 [ZU ⟨#[]⟩ s,x,y]))∧Below w.heap.size w w' :=by
 have K0:=(Hold.start M w hM).alloc #[.int .i64 0,.int .i64 0,.bool false,.int .i64 0,.int .i64 0,.string ⟨#[]⟩,.string ⟨#[]⟩,.string ⟨#[]⟩,.slice none 0 0,.slice none 0 0] 34
 obtain ⟨g,hg⟩:∃ g,g=w.heap.size:=⟨_,rfl⟩
 rw [←hg] at K0
 go_enter Tryz.func9,Tryz.ntmps9
 go_wp2_with fail
 rw [←hg]
 have HG:=hid hg
 clear hg
 refine (ZaJ _ ⟨#[]⟩ s).mono ?_
 rintro e w1 ⟨rfl,b1⟩
 have K1:=K0.call b1
 clear K0 b1
 go_wp2_with fail
 refine (JW _ _ K1.Zb lo h1).mono ?_
 rintro e w2 ⟨x,rfl,hx,rx,b1⟩
 have K2:=(K1.call b1).add rx
 have HX:=hid hx
 clear K1 b1 rx hx
 go_wp2_with fail
 refine (JW _ _ K2.Zb hi h2).mono ?_
 rintro e w3 ⟨y,rfl,hy,ry,b1⟩
 have K3:=((K2.call b1).add ry).perm (L' :=[.blk g 34 #[.int .i64 0,.int .i64 0,.bool false,.int .i64 0,.int .i64 0,.string ⟨#[]⟩,.string ⟨#[]⟩,.string ⟨#[]⟩,.slice none 0 0,.slice none 0 0],.ro (ExIn 2 x),.ro (ExIn 2 y)]) (List.reverse_perm _).symm
 have HY:=hid hy
 clear K2 b1 ry hy
 have K1:=K3.Za #[.int .i64 2,.int .i64 0,.bool false,.int .i64 0,.int .i64 0,.string ⟨#[]⟩,.string ⟨#[]⟩,.string s,.slice none 0 0,.slice none 0 0,.int .i64 x.kind,.int .i64 x.op,.bool x.nt,.int .i64 x.v.k,.int .i64 x.v.i,.string x.v.s,.string x.tab,.string x.nm,.slice x.A x.n x.c,.slice x.B x.m x.d,.int .i64 y.kind,.int .i64 y.op,.bool y.nt,.int .i64 y.v.k,.int .i64 y.v.i,.string y.v.s,.string y.tab,.string y.nm,.slice y.A y.n y.c,.slice y.B y.m y.d] 34
 obtain ⟨g2,hg2⟩:∃ g,g=w3.heap.size:=⟨_,rfl⟩
 rw [←hg2] at K1
 have F:=K1.facts
 simp only [zg] at F
 have K2:=((((((((((K1.store 1 rfl 0 (.int .i64 7)).store 1 rfl 1 (.int .i64 0)).store 1 rfl 2 (.bool false)).store 1 rfl 3 (.int .i64 0)).store 1 rfl 4 (.int .i64 0)).store 1 rfl 5 (.string ⟨#[]⟩)).store 1 rfl 6 (.string ⟨#[]⟩)).store 1 rfl 7 (.string ⟨#[]⟩)).store 1 rfl 8 (.slice (some ⟨g2,0,none⟩) 3 3)).store 1 rfl 9 (.slice none 0 0))
 simp only [zl] at K2
 clear K1 K3
 have F2:=K2.facts
 simp only [zg] at F2
 have hr:=Qb (d:=2) (l:=[ZU ⟨#[]⟩ s,x,y]) (K2.get 0 rfl) rfl (fun z hz=>by
  simp only [List.mem_cons,List.not_mem_nil,or_false] at hz
  rcases hz with rfl|rfl|rfl
  ·exact fun w2 _ _=>(ZaK _ _ _).more
  ·exact K2.ro 2 rfl
  ·exact K2.ro 3 rfl)
 have HR:=hid (show Ro _ M (ExIn 3 (opE 7 0 false g2 3 [ZU ⟨#[]⟩ s,x,y])) from (hr.less fun b hb=>.inl hb).imp fun w2 h2=>G9 h2)
 have HB:=hid K2.below
 rw [show (ZU ⟨#[]⟩ s).val=.agg #[.int .i64 2,.int .i64 0,.bool false,.int .i64 0,.int .i64 0,.string ⟨#[]⟩,.string ⟨#[]⟩,.string s,.slice none 0 0,.slice none 0 0] from rfl,show x.val=.agg #[.int .i64 x.kind,.int .i64 x.op,.bool x.nt,.int .i64 x.v.k,.int .i64 x.v.i,.string x.v.s,.string x.tab,.string x.nm,.slice x.A x.n x.c,.slice x.B x.m x.d] from rfl,show y.val=.agg #[.int .i64 y.kind,.int .i64 y.op,.bool y.nt,.int .i64 y.v.k,.int .i64 y.v.i,.string y.v.s,.string y.tab,.string y.nm,.slice y.A y.n y.c,.slice y.B y.m y.d] from rfl]
 clear hr K2
 go_wp2_with fail
 rw [←hg2]
 have HG2:=hid hg2
 clear hg2
 refine Lh (v:=(opE 7 0 false g2 3 [ZU ⟨#[]⟩ s,x,y]).val) ?_ rfl ⟨_,x,y,rfl,HX.out,HY.out,HR.out,HB.out⟩
 have HO:(opE 7 0 false g2 3 [ZU ⟨#[]⟩ s,x,y]).val=.agg #[.int .i64 7,.int .i64 0,.bool false,.int .i64 0,.int .i64 0,.string ⟨#[]⟩,.string ⟨#[]⟩,.string ⟨#[]⟩,.slice (some ⟨g2,0,none⟩) 3 3,.slice none 0 0]:=rfl
 rw [HO]
 clear HO HR HB HX HY
 simp [results,Tryz.results9,go_sem,F2]
def Se.val (s:Se):Value:=.agg #[.string s.col,.int .i64 s.e.kind,.int .i64 s.e.op,.bool s.e.nt,.int .i64 s.e.v.k,.int .i64 s.e.v.i,.string s.e.v.s,.string s.e.tab,.string s.e.nm,.slice s.e.A s.e.n s.e.c,.slice s.e.B s.e.m s.e.d]
def XC (s:Se) (tab:ByteArray):Int × Bool:=match Vw s tab with|some m=>(m,true)|none=>(0,false)
theorem Zaw (a b:ByteArray):(a.toList==b.toList)=decide (a=b):=by
 by_cases h:a=b
 ·subst h;simp
 ·have:a.toList≠b.toList:=fun e=>h (Yc e)
  simp [h,this]
theorem Zlw (w:World) (s:Se) (t:ByteArray) (h:¬(s.e.kind=5∧(s.e.op=9∨s.e.op=10)∧s.e.n=2)):Calls Tryz.prog 144 #[s.val,.string t] w fun r w' =>r=.returned (.tuple #[.int .i64 0,.bool false])∧Below w.heap.size w w' :=by
 obtain ⟨col,k,op,nt,⟨vk,vi,vs⟩,tab,nm,A,n,c,args,B,m,d2,sub⟩:=s
 simp only [Se.val] at h ⊢
 have K0:=((Hold.Yi w).Za #[.string col,.int .i64 k,.int .i64 op,.bool nt,.int .i64 vk,.int .i64 vi,.string vs,.string tab,.string nm,.slice A n c,.slice B m d2] 39).Za #[.int .i64 k,.int .i64 op,.bool nt,.int .i64 vk,.int .i64 vi,.string vs,.string tab,.string nm,.slice A n c,.slice B m d2] 34
 simp only [World.size_alloc] at K0
 have F:=K0.facts
 simp only [zg] at F
 have HB:=hid K0.below
 clear K0
 have HC:¬k=5∨(k=5∧¬op=9∧¬op=10)∨(k=5∧op=9∧¬(n:Int)=2)∨(k=5∧op=10∧¬(n:Int)=2):=by omega
 clear h
 rcases HC with q1|⟨rfl,q2,q3⟩|⟨rfl,rfl,q4⟩|⟨rfl,rfl,q4⟩
 all_goals
  go_enter Tryz.func144,Tryz.ntmps144
  go_wp2_with fail
  all_goals first
   | (exfalso;omega)
   | (refine Lh (results_tmp2 rfl _ _ _) rfl ?_;exact ⟨rfl,HB.out⟩)
theorem Zlx (M:Nat→Prop) (w:World) (hM:∀ b,M b→b<w.heap.size) (s:Se) (t:ByteArray) (x y:Ex) (d:Nat) (he:Ro w M (ExIn (d+1) s.e)) (h:s.e.kind=5) (ho:s.e.op=9∨s.e.op=10) (ha:s.e.args=[x,y]):Calls Tryz.prog 144 #[s.val,.string t] w fun r w' =>r=.returned (.tuple #[.int .i64 (XC s t).1,.bool (XC s t).2])∧Below w.heap.size w w' :=by
 have HS:=hid (show XC s t=if x.kind=2∧x.nm.toList=s.col.toList∧(x.tab.toList=[]∨x.tab.toList=t.toList)∧y.kind=1∧(y.v.k !=1)=false then ((if s.e.op=9 then 3 else 4),true) else (0,false) by
  have e1:x.nm.toList=s.col.toList↔x.nm=s.col:=⟨Yc,fun h=>by rw [h]⟩
  have e2:x.tab.toList=[]↔x.tab=⟨#[]⟩:=⟨fun h=>Yc (by rw [h,ByteArray.toList_eq]),fun h=>by rw [h,ByteArray.toList_eq]⟩
  have e3:x.tab.toList=t.toList↔x.tab=t:=⟨Yc,fun h=>by rw [h]⟩
  have e4:(y.v.k !=1)=false↔y.v.k=1:=by simp
  simp only [XC,Vw,ha,h,true_and,ho,e1,e2,e3,e4]
  split<;>rename_i q<;>split at q<;>simp_all)
 generalize XC s t=R at *
 obtain ⟨col,k,op,nt,⟨vk,vi,vs⟩,tab,nm,A,n,c,args,B,m,d2,sub⟩:=s
 obtain ⟨xk,xop,xnt,⟨xvk,xvi,xvs⟩,xtab,xnm,xA,xn,xc,xargs,xB,xm,xd,xsub⟩:=x
 obtain ⟨yk,yop,ynt,⟨yvk,yvi,yvs⟩,ytab,ynm,yA,yn,yc,yargs,yB,ym,yd,ysub⟩:=y
 simp only [Se.val] at h ho ha HS ⊢
 subst h
 subst ha
 have K0:=(((Hold.start M w hM).add (he.less (by simp [Mut]))).Za #[.string col,.int .i64 5,.int .i64 op,.bool nt,.int .i64 vk,.int .i64 vi,.string vs,.string tab,.string nm,.slice A n c,.slice B m d2] 39).Za #[.int .i64 5,.int .i64 op,.bool nt,.int .i64 vk,.int .i64 vi,.string vs,.string tab,.string nm,.slice A n c,.slice B m d2] 34
 simp only [World.size_alloc] at K0
 have hx:=ExIn.succ.1 (K0.ro 2 rfl).now
 have hlen:2=n:=hx.1.len
 subst hlen
 obtain ⟨b2,o2,rfl,hb2,hc,-⟩:=hx.1.at_ (k:=0) (x:=⟨xk,xop,xnt,⟨xvk,xvi,xvs⟩,xtab,xnm,xA,xn,xc,xargs,xB,xm,xd,xsub⟩) rfl
 obtain ⟨b3,o3,e3,hb3,hc3,-⟩:=hx.1.at_ (k:=1) (x:=⟨yk,yop,ynt,⟨yvk,yvi,yvs⟩,ytab,ynm,yA,yn,yc,yargs,yB,ym,yd,ysub⟩) rfl
 simp only [Option.some.injEq,Addr.mk.injEq,and_true] at e3
 obtain ⟨rfl,rfl⟩:=e3
 have x0:=hc 0 _ (by omega) rfl
 have y0:=hc3 0 _ (by omega) rfl
 have x1:=hc 1 _ (by omega) rfl
 have y1:=hc3 1 _ (by omega) rfl
 have x2:=hc 2 _ (by omega) rfl
 have y2:=hc3 2 _ (by omega) rfl
 have x3:=hc 3 _ (by omega) rfl
 have y3:=hc3 3 _ (by omega) rfl
 have x4:=hc 4 _ (by omega) rfl
 have y4:=hc3 4 _ (by omega) rfl
 have x5:=hc 5 _ (by omega) rfl
 have y5:=hc3 5 _ (by omega) rfl
 have x6:=hc 6 _ (by omega) rfl
 have y6:=hc3 6 _ (by omega) rfl
 have x7:=hc 7 _ (by omega) rfl
 have y7:=hc3 7 _ (by omega) rfl
 have x8:=hc 8 _ (by omega) rfl
 have y8:=hc3 8 _ (by omega) rfl
 have x9:=hc 9 _ (by omega) rfl
 have y9:=hc3 9 _ (by omega) rfl
 simp only [Nat.zero_mul,Nat.one_mul,Nat.add_zero] at x0 x1 x2 x3 x4 x5 x6 x7 x8 x9 y0 y1 y2 y3 y4 y5 y6 y7 y8 y9
 clear hc hc3 hx
 have F:=K0.facts
 simp only [zg] at F
 rcases ho with rfl|rfl
 ·go_enter Tryz.func144,Tryz.ntmps144
  go_wp2_with fail
  clear F
  generalize (w.alloc (.cells #[.string col,.int .i64 5,.int .i64 9,.bool nt,.int .i64 vk,.int .i64 vi,.string vs,.string tab,.string nm,.slice (some ⟨b2,o2,none⟩) 2 c,.slice B m d2] 39)).alloc (.cells #[.int .i64 5,.int .i64 9,.bool nt,.int .i64 vk,.int .i64 vi,.string vs,.string tab,.string nm,.slice (some ⟨b2,o2,none⟩) 2 c,.slice B m d2] 34)=wk at *
  have F:=K0.facts
  simp only [zg] at F
  go_cut [7,8] (fun s7 s8 wx=>∃ (g7 g8:Nat),s7=.pointer (some ⟨g7,0,none⟩)∧s8=.pointer (some ⟨g8,0,none⟩)∧∃ L,Hold M none w wx (.blk g7 34 #[.int .i64 xk,.int .i64 xop,.bool xnt,.int .i64 xvk,.int .i64 xvi,.string xvs,.string xtab,.string xnm,.slice xA xn xc,.slice xB xm xd]::.blk g8 34 #[.int .i64 yk,.int .i64 yop,.bool ynt,.int .i64 yvk,.int .i64 yvi,.string yvs,.string ytab,.string ynm,.slice yA yn yc,.slice yB ym yd]::.cst (w.heap.size+1) 34 #[.int .i64 5,.int .i64 9,.bool nt,.int .i64 vk,.int .i64 vi,.string vs,.string tab,.string nm,.slice (some ⟨b2,o2,none⟩) 2 c,.slice B m d2]::.cst w.heap.size 39 #[.string col,.int .i64 5,.int .i64 9,.bool nt,.int .i64 vk,.int .i64 vi,.string vs,.string tab,.string nm,.slice (some ⟨b2,o2,none⟩) 2 c,.slice B m d2]::L))
  case first=>
   go_region
   ·go_wp2_with fail
    go_meet
    have KA:=((K0.alloc #[.int .i64 xk,.int .i64 xop,.bool xnt,.int .i64 xvk,.int .i64 xvi,.string xvs,.string xtab,.string xnm,.slice xA xn xc,.slice xB xm xd] 34).alloc #[.int .i64 yk,.int .i64 yop,.bool ynt,.int .i64 yvk,.int .i64 yvi,.string yvs,.string ytab,.string ynm,.slice yA yn yc,.slice yB ym yd] 34).drew
    rw [KP] at KA
    exact ⟨_,_,rfl,rfl,_,KA.perm (List.Perm.swap _ _ _)⟩
   ·go_wp2_with fail
    go_meet
    have KA:=((K0.alloc #[.int .i64 yk,.int .i64 yop,.bool ynt,.int .i64 yvk,.int .i64 yvi,.string yvs,.string ytab,.string ynm,.slice yA yn yc,.slice yB ym yd] 34).alloc #[.int .i64 xk,.int .i64 xop,.bool xnt,.int .i64 xvk,.int .i64 xvi,.string xvs,.string xtab,.string xnm,.slice xA xn xc,.slice xB xm xd] 34).drew
    rw [KP] at KA
    exact ⟨_,_,rfl,rfl,_,KA⟩
  case rest=>
   obtain ⟨g7,g8,rfl,rfl,L,K⟩:=hcut
   clear F x0 x1 x2 x3 x4 x5 x6 x7 x8 x9 y0 y1 y2 y3 y4 y5 y6 y7 y8 y9 K0 hb2 hb3
   have F:=K.facts
   simp only [zg] at F
   have HB:=hid K.below
   clear K
   go_wp2_with fail
   all_goals
    clear F
    refine Lh (results_tmp2 rfl _ _ _) rfl ⟨?_,HB.out⟩
    rw [HS.out]
    simp [*]
 ·go_enter Tryz.func144,Tryz.ntmps144
  go_wp2_with fail
  clear F
  generalize (w.alloc (.cells #[.string col,.int .i64 5,.int .i64 10,.bool nt,.int .i64 vk,.int .i64 vi,.string vs,.string tab,.string nm,.slice (some ⟨b2,o2,none⟩) 2 c,.slice B m d2] 39)).alloc (.cells #[.int .i64 5,.int .i64 10,.bool nt,.int .i64 vk,.int .i64 vi,.string vs,.string tab,.string nm,.slice (some ⟨b2,o2,none⟩) 2 c,.slice B m d2] 34)=wk at *
  have F:=K0.facts
  simp only [zg] at F
  go_cut [7,8] (fun s7 s8 wx=>∃ (g7 g8:Nat),s7=.pointer (some ⟨g7,0,none⟩)∧s8=.pointer (some ⟨g8,0,none⟩)∧∃ L,Hold M none w wx (.blk g7 34 #[.int .i64 xk,.int .i64 xop,.bool xnt,.int .i64 xvk,.int .i64 xvi,.string xvs,.string xtab,.string xnm,.slice xA xn xc,.slice xB xm xd]::.blk g8 34 #[.int .i64 yk,.int .i64 yop,.bool ynt,.int .i64 yvk,.int .i64 yvi,.string yvs,.string ytab,.string ynm,.slice yA yn yc,.slice yB ym yd]::.cst (w.heap.size+1) 34 #[.int .i64 5,.int .i64 10,.bool nt,.int .i64 vk,.int .i64 vi,.string vs,.string tab,.string nm,.slice (some ⟨b2,o2,none⟩) 2 c,.slice B m d2]::.cst w.heap.size 39 #[.string col,.int .i64 5,.int .i64 10,.bool nt,.int .i64 vk,.int .i64 vi,.string vs,.string tab,.string nm,.slice (some ⟨b2,o2,none⟩) 2 c,.slice B m d2]::L))
  case first=>
   go_region
   ·go_wp2_with fail
    go_meet
    have KA:=((K0.alloc #[.int .i64 xk,.int .i64 xop,.bool xnt,.int .i64 xvk,.int .i64 xvi,.string xvs,.string xtab,.string xnm,.slice xA xn xc,.slice xB xm xd] 34).alloc #[.int .i64 yk,.int .i64 yop,.bool ynt,.int .i64 yvk,.int .i64 yvi,.string yvs,.string ytab,.string ynm,.slice yA yn yc,.slice yB ym yd] 34).drew
    rw [KP] at KA
    exact ⟨_,_,rfl,rfl,_,KA.perm (List.Perm.swap _ _ _)⟩
   ·go_wp2_with fail
    go_meet
    have KA:=((K0.alloc #[.int .i64 yk,.int .i64 yop,.bool ynt,.int .i64 yvk,.int .i64 yvi,.string yvs,.string ytab,.string ynm,.slice yA yn yc,.slice yB ym yd] 34).alloc #[.int .i64 xk,.int .i64 xop,.bool xnt,.int .i64 xvk,.int .i64 xvi,.string xvs,.string xtab,.string xnm,.slice xA xn xc,.slice xB xm xd] 34).drew
    rw [KP] at KA
    exact ⟨_,_,rfl,rfl,_,KA⟩
  case rest=>
   obtain ⟨g7,g8,rfl,rfl,L,K⟩:=hcut
   clear F x0 x1 x2 x3 x4 x5 x6 x7 x8 x9 y0 y1 y2 y3 y4 y5 y6 y7 y8 y9 K0 hb2 hb3
   have F:=K.facts
   simp only [zg] at F
   have HB:=hid K.below
   clear K
   go_wp2_with fail
   all_goals
    clear F
    refine Lh (results_tmp2 rfl _ _ _) rfl ⟨?_,HB.out⟩
    rw [HS.out]
    simp [*]
theorem Zly (M:Nat→Prop) (w:World) (hM:∀ b,M b→b<w.heap.size) (s:Se) (t:ByteArray) (d:Nat) (he:Ro w M (ExIn (d+1) s.e)):Calls Tryz.prog 144 #[s.val,.string t] w fun r w' =>r=.returned (.tuple #[.int .i64 (XC s t).1,.bool (XC s t).2])∧Below w.heap.size w w' :=by
 have hlen:=(ExIn.succ.1 he.now).1.len
 by_cases h:s.e.kind=5∧(s.e.op=9∨s.e.op=10)∧s.e.n=2
 ·obtain ⟨x,y,hxy⟩:∃ x y,s.e.args=[x,y]:=by
   match hm:s.e.args with
   | []=>rw [hm] at hlen;simp at hlen;omega
   | [_]=>rw [hm] at hlen;simp at hlen;omega
   | [x,y]=>exact ⟨x,y,rfl⟩
   | _::_::_::_=>rw [hm] at hlen;simp at hlen;omega
  exact Zlx M w hM s t x y d he h.1 h.2.1 hxy
 ·have hs:XC s t=(0,false):=by
   have:Vw s t=none:=by
    unfold Vw
    split
    ·rename_i c k hm
     rw [hm] at hlen
     simp at hlen
     rw [Lf]
     exact fun hc=>h ⟨hc.1,hc.2.1,by omega⟩
    ·rfl
   simp [XC,this]
  rw [hs]
  exact Zlw w s t h
def Ac.val (a:Ac):Value:=.agg #[.int .i64 a.kind,.string a.tab,.slice a.rows.A a.rows.n a.rows.c,.slice a.qs.A a.qs.n a.qs.c,.slice a.sets.A a.sets.n a.sets.c,.slice a.wh.A a.wh.n a.wh.c,.string a.text]
def Tg.val (t:Tg):Value:=.agg #[.string t.name,.string t.tab,.bool t.before,.int .i64 t.event,.slice t.cols.A t.cols.n t.cols.c,.bool t.each,.slice t.prec.A t.prec.n t.prec.c,.slice t.foll.A t.foll.n t.foll.c,.slice t.rank.A t.rank.n t.rank.c,.slice t.cond.A t.cond.n t.cond.c,.slice t.acts.A t.acts.n t.acts.c]
def Vy (l:List Tg):List Value:=l.flatMap Tg.cells
def TgsIn (d:Nat) (A:Option Addr) (n:Nat) (l:List Tg) (w:World):Prop:=SlR 11 A n (Vy l) w∧∀ t∈l,TgIn d t w
def Ga (d:Nat) (l:List Tg) (w:World):Prop:=∀ t∈l,TgIn d t w
theorem ZlR (l:List Tg) (x:Tg):Vy (l++[x])=Vy l++x.cells:=by simp [Vy]
theorem TgsIn.len {d:Nat} {A:Option Addr} {n:Nat} {l:List Tg} {w:World} (h:TgsIn d A n l w):l.length=n:=SlP.In.len (s:=⟨A,n,0,l⟩) (k:=11) (cel:=Tg.cells) (P:=TgIn d) h (by omega) (fun _=>rfl)
theorem TgsIn.at_ {d:Nat} {w:World} {A:Option Addr} {n:Nat} {l:List Tg} (h:TgsIn d A n l w) {k:Nat} {x:Tg} (hx:l[k]? =some x):
  ∃ b o,A=some ⟨b,o,none⟩∧b<w.heap.size∧(∀ j u,j<11→x.cells[j]? =some u→w.cell? ⟨b,o+k * 11+j,none⟩=some u)∧TgIn d x w:=SlP.In.at_ (s:=⟨A,n,0,l⟩) (k:=11) (cel:=Tg.cells) (P:=TgIn d) h (by omega) (fun _=>rfl) hx
structure Fr where
 nm:ByteArray
 strict:Bool
 cols:SlP Col
 vals:SlP Vl
def Fr.cells (f:Fr):List Value:=[.string f.nm,.bool f.strict,f.cols.v,f.vals.v]
def Qc (l:List Fr):List Value:=l.flatMap Fr.cells
structure Sm where
 nm:ByteArray
 cols:SlP Col
def SlP.ColsIn (s:SlP Col) (w:World):Prop:=s.In 4 Col.cells (fun _ _=>True) w
def FrIn (f:Fr) (w:World):Prop:=f.cols.ColsIn w∧f.vals.In 3 Vl.cells (fun _ _=>True) w
def J8 (s:Sm) (w:World):Prop:=s.cols.ColsIn w
def FrsIn (s:SlP Fr) (w:World):Prop:=s.In 4 Fr.cells FrIn w
def Yw:Nat→Ex→Prop
 | 0,_=>False
 | d+1,e=>(I64 e.kind∧I64 e.op∧I64 e.v.k∧(I64 e.v.i∧e.v.s.size≤maxLen)∧e.n≤e.c∧e.c≤9223372036854775807∧e.m≤e.d∧e.d≤9223372036854775807)∧(1≤e.kind∧e.args.length≤3∧e.sub.length≤1)∧(∀ a∈e.args,Yw d a)∧∀ q∈e.sub,(q.n≤q.c∧q.c≤9223372036854775807∧q.m≤q.d∧q.d≤9223372036854775807)∧(q.items.length≤8∧q.wh.length≤1)∧(∀ a∈q.items,Yw d a)∧∀ a∈q.wh,Yw d a
theorem FrsIn.len {s:SlP Fr} {w:World} (h:FrsIn s w):s.l.length=s.n:=SlP.In.len (s:=s) (k:=4) (cel:=Fr.cells) (P:=FrIn) h (by omega) (fun _=>rfl)
theorem FrsIn.at_ {s:SlP Fr} {w:World} (h:FrsIn s w) {k:Nat} {x:Fr} (hx:s.l[k]? =some x):
  ∃ b o,s.A=some ⟨b,o,none⟩∧b<w.heap.size∧(∀ j u,j<4→x.cells[j]? =some u→w.cell? ⟨b,o+k * 4+j,none⟩=some u)∧FrIn x w:=SlP.In.at_ (s:=s) (k:=4) (cel:=Fr.cells) (P:=FrIn) h (by omega) (fun _=>rfl) hx
theorem FrIn.cols {f:Fr} {w:World} (h:FrIn f w):SlR 4 f.cols.A f.cols.n (Zf f.cols.l) w:=h.1.1
theorem Q9 {α:Type} {l:List α} {n k:Nat} (h:l.length=n) (hk:k<n):∃ c,l[k]? =some c:=⟨l[k]'(by omega),Ky _⟩
theorem Tryz.Zgz:ElemT Tryz.prog 31 34 10 136 (.agg #[.int .i64 0,.int .i64 0,.bool false,.int .i64 0,.int .i64 0,.string ⟨#[]⟩,.string ⟨#[]⟩,.string ⟨#[]⟩,.slice none 0 0,.slice none 0 0]):=⟨Tryz.underlying31,by kernel_rfl,rfl,by omega⟩
def Xg (a:Ac) (col:ByteArray):Int × Bool:=match Wx a col with|some k=>(k,true)|none=>(0,false)
def SesIn (d:Nat) (A:Option Addr) (n:Nat) (l:List Se) (w:World):Prop:=SlR 11 A n (l.flatMap Se.cells) w∧∀ x∈l,Yq d x w
theorem SesIn.len {d:Nat} {A:Option Addr} {n:Nat} {l:List Se} {w:World} (h:SesIn d A n l w):l.length=n:=SlP.In.len (s:=⟨A,n,0,l⟩) (k:=11) (cel:=Se.cells) (P:=Yq d) h (by omega) (fun _=>rfl)
theorem SesIn.at_ {d:Nat} {w:World} {A:Option Addr} {n:Nat} {l:List Se} (h:SesIn d A n l w) {k:Nat} {x:Se} (hx:l[k]? =some x):
  ∃ b o,A=some ⟨b,o,none⟩∧b<w.heap.size∧(∀ j u,j<11→x.cells[j]? =some u→w.cell? ⟨b,o+k * 11+j,none⟩=some u)∧Yq d x w:=SlP.In.at_ (s:=⟨A,n,0,l⟩) (k:=11) (cel:=Se.cells) (P:=Yq d) h (by omega) (fun _=>rfl) hx
theorem Ya {α:Type} {l:List α} {n k:Nat} (h:l.length=n) (hk:k<n):∃ c,l[k]? =some c:=⟨l[k]'(by omega),Ky _⟩
theorem GI {α β:Type} {f:α→Option β} {l:List α} {k:Nat} {x:α} (hx:l[k]? =some x) (hf:f x=none) (h:l.findSome? f=(l.drop k).findSome? f):l.findSome? f=(l.drop (k+1)).findSome? f:=by
 have hk:k<l.length:=(Kc.1 hx).1
 rw [h,Le hk]
 have:l[k]=x:=(Kc.1 hx).2
 simp [this,hf]
theorem Zg8 {α β:Type} {f:α→Option β} {l:List α} {k:Nat} {x:α} {y:β} (hx:l[k]? =some x) (hf:f x=some y) (h:l.findSome? f=(l.drop k).findSome? f):l.findSome? f=some y:=by
 have hk:k<l.length:=(Kc.1 hx).1
 rw [h,Le hk]
 have:l[k]=x:=(Kc.1 hx).2
 simp [this,hf]
theorem Zb1 (M:Nat→Prop) (w:World) (hM:∀ b,M b→b<w.heap.size) (a:Ac) (col:ByteArray) (d:Nat) (ha:Ro w M (AcIn (d+1) a)) (hn:a.sets.n≤9223372036854775807):Calls Tryz.prog 111 #[a.val,.string col] w fun r w' =>r=.returned (.tuple #[.int .i64 (Xg a col).1,.bool (Xg a col).2])∧Below w.heap.size w w' :=by
 have hD:Ro w M (SesIn (d+1) a.sets.A a.sets.n a.sets.l):=ha.imp fun w2 h2=>h2.2.2.1
 obtain ⟨ak,atab,⟨rA,rn,rc,rl⟩,⟨qA,qn,qc,ql⟩,⟨sA,sn,sc,sl⟩,⟨wA,wn,wc,wl⟩,text⟩:=a
 simp only [Ac.val] at hD hn ⊢
 clear ha
 by_cases hk:ak=2
 ·subst hk
  have HR:=hid (show Xg ⟨2,atab,⟨rA,rn,rc,rl⟩,⟨qA,qn,qc,ql⟩,⟨sA,sn,sc,sl⟩,⟨wA,wn,wc,wl⟩,text⟩ col=match sl.findSome? (WP atab col) with|some k=>(k,true)|none=>(0,false) by simp [Xg,Wx])
  generalize Xg ⟨2,atab,⟨rA,rn,rc,rl⟩,⟨qA,qn,qc,ql⟩,⟨sA,sn,sc,sl⟩,⟨wA,wn,wc,wl⟩,text⟩ col=R at *
  have HL:=hid hD.now.len
  have K0:=((Hold.start M w hM).add (hD.less (by simp [Mut]))).Za #[.int .i64 2,.string atab,.slice rA rn rc,.slice qA qn qc,.slice sA sn sc,.slice wA wn wc,.string text] 44
  have F:=K0.facts
  simp only [zg] at F
  go_enter Tryz.func111,Tryz.ntmps111
  go_wp2_with fail
  clear F
  go_loopw [16] (fun i wr=>∃ k:Nat,k≤sn∧i=.int .i64 k∧Hid (sl.findSome? (WP atab col)=(sl.drop k).findSome? (WP atab col))∧Hold M none w wr [.cst w.heap.size 44 #[.int .i64 2,.string atab,.slice rA rn rc,.slice qA qn qc,.slice sA sn sc,.slice wA wn wc,.string text],.ro (SesIn (d+1) sA sn sl)]) (fun i _=>sn - (intOf i).toNat)
  case atStart=>exact ⟨0,by omega,rfl,hid rfl,K0⟩
  case round=>
   clear K0
   obtain ⟨k,hk,rfl,HF,H⟩:=hrel
   by_cases hlt:k<sn
   ·obtain ⟨⟨xcol,⟨xk,xop,xnt,⟨xvk,xvi,xvs⟩,xtab,xnm,xA,xn,xc,xargs,xB,xm,xd,xsub⟩⟩,hc⟩:=Ya HL.out hlt
    obtain ⟨b,o,rfl,hb,hcl,-⟩:=(H.ro 1 rfl).now.at_ hc
    have c0:=hcl 0 _ (by omega) rfl
    have c1:=hcl 1 _ (by omega) rfl
    have c2:=hcl 2 _ (by omega) rfl
    have c3:=hcl 3 _ (by omega) rfl
    have c4:=hcl 4 _ (by omega) rfl
    have c5:=hcl 5 _ (by omega) rfl
    have c6:=hcl 6 _ (by omega) rfl
    have c7:=hcl 7 _ (by omega) rfl
    have c8:=hcl 8 _ (by omega) rfl
    have c9:=hcl 9 _ (by omega) rfl
    have c10:=hcl 10 _ (by omega) rfl
    simp only [Nat.add_zero] at c0
    clear hcl
    have HC:=hid hc;clear hc
    have F:=H.facts
    simp only [zg] at F
    by_cases hcol:xcol=col
    ·subst hcol
     have K1:=(H.add (S:=ExIn (d+1) ⟨xk,xop,xnt,⟨xvk,xvi,xvs⟩,xtab,xnm,xA,xn,xc,xargs,xB,xm,xd,xsub⟩) ((H.ro 1 rfl).imp fun w2 h2=>h2.2 _ (Ka HC.out))).Za #[.string xcol,.int .i64 xk,.int .i64 xop,.bool xnt,.int .i64 xvk,.int .i64 xvi,.string xvs,.string xtab,.string xnm,.slice xA xn xc,.slice xB xm xd] 39
     have F1:=K1.facts
     simp only [zg] at F1
     have hce:=Zly _ _ K1.Zb ⟨xcol,⟨xk,xop,xnt,⟨xvk,xvi,xvs⟩,xtab,xnm,xA,xn,xc,xargs,xB,xm,xd,xsub⟩⟩ atab d (K1.ro 1 rfl)
     rcases hst:Vw ⟨xcol,⟨xk,xop,xnt,⟨xvk,xvi,xvs⟩,xtab,xnm,xA,xn,xc,xargs,xB,xm,xd,xsub⟩⟩ atab with _|m
     ·rw [show XC ⟨xcol,⟨xk,xop,xnt,⟨xvk,xvi,xvs⟩,xtab,xnm,xA,xn,xc,xargs,xB,xm,xd,xsub⟩⟩ atab=(0,false) by simp [XC,hst]] at hce
      have HST:=hid hst;clear hst
      go_wp2_with fail
      refine hce.mono ?_
      rintro e w1 ⟨rfl,b1⟩
      have K2:=K1.call b1
      clear K1 F1 F b1
      go_wp2_with fail
      go_roundw
      case rel=>exact ⟨k+1,by omega,by go_num,hid (GI HC.out (by simp [WP,HST.out]) HF.out),K2.drop (List.Sublist.cons _ (List.Sublist.cons _ (List.Sublist.refl _)))⟩
      case measure=>simp [intOf];omega
     ·rw [show XC ⟨xcol,⟨xk,xop,xnt,⟨xvk,xvi,xvs⟩,xtab,xnm,xA,xn,xc,xargs,xB,xm,xd,xsub⟩⟩ atab=(m,true) by simp [XC,hst]] at hce
      by_cases hm:m=4
      ·subst hm
       obtain ⟨x0,⟨yk,yop,ynt,⟨yvk,yvi,yvs⟩,ytab,ynm,yA,yn,yc,yargs,yB,ym,yd,ysub⟩,rfl⟩:∃ x y,xargs=[x,y]:=by
        unfold Vw at hst
        split at hst
        ·rename_i c k h;exact ⟨_,_,h⟩
        ·cases hst
       have HST:=hid hst;clear hst
       go_wp2_with fail
       refine hce.mono ?_
       rintro e w1 ⟨rfl,b1⟩
       have K2:=K1.call b1
       have F2:=K2.facts
       simp only [zg] at F2
       clear K1 F1 F b1 c0 c1 c2 c3 c4 c5 c6 c7 c8 c9 c10
       have hx:=(ExIn.succ.1 (K2.ro 1 rfl).now).1
       have hlen:2=xn:=hx.len
       subst hlen
       obtain ⟨b2,o2,rfl,hb2,hcl,-⟩:=hx.at_ (k:=1) (x:=⟨yk,yop,ynt,⟨yvk,yvi,yvs⟩,ytab,ynm,yA,yn,yc,yargs,yB,ym,yd,ysub⟩) rfl
       have y4:=hcl 4 _ (by omega) rfl
       simp only [Nat.one_mul] at y4
       clear hcl hx
       go_wp2_with fail
       refine Lh (results_tmp2 rfl _ _ _) rfl ⟨?_,K2.below⟩
       rw [HR.out,Zg8 HC.out (y:=yvi) (by simp [WP,HST.out]) HF.out]
       rfl
      ·have HST:=hid hst;clear hst
       go_wp2_with fail
       refine hce.mono ?_
       rintro e w1 ⟨rfl,b1⟩
       have K2:=K1.call b1
       clear K1 F1 F b1
       go_wp2_with fail
       go_roundw
       case rel=>exact ⟨k+1,by omega,by go_num,hid (GI HC.out (by simp [WP,HST.out,hm]) HF.out),K2.drop (List.Sublist.cons _ (List.Sublist.cons _ (List.Sublist.refl _)))⟩
       case measure=>simp [intOf];omega
    ·have e1:¬xcol.toList=col.toList:=fun h=>hcol (Yc h)
     have e2:(xcol.toList==col.toList)=false:=by simpa using e1
     have K1:=H.alloc #[.string xcol,.int .i64 xk,.int .i64 xop,.bool xnt,.int .i64 xvk,.int .i64 xvi,.string xvs,.string xtab,.string xnm,.slice xA xn xc,.slice xB xm xd] 39
     have F1:=K1.facts
     simp only [zg] at F1
     go_wp2_with fail
     go_roundw
     case rel=>exact ⟨k+1,by omega,by go_num,hid (GI HC.out (by simp [WP,hcol]) HF.out),K1.drop (List.sublist_cons_self _ _)⟩
     case measure=>simp [intOf];omega
   ·have F:=H.facts
    simp only [zg] at F
    have hks:k=sn:=by omega
    go_wp2_with fail
    refine Lh (results_tmp2 rfl _ _ _) rfl ⟨?_,H.below⟩
    rw [HR.out,HF.out,List.drop_eq_nil_of_le (by rw [HL.out];omega)]
    rfl
 ·have K0:=(Hold.Yi w).Za #[.int .i64 ak,.string atab,.slice rA rn rc,.slice qA qn qc,.slice sA sn sc,.slice wA wn wc,.string text] 44
  have F:=K0.facts
  simp only [zg] at F
  have HB:=hid K0.below
  clear K0
  rw [show Xg ⟨ak,atab,⟨rA,rn,rc,rl⟩,⟨qA,qn,qc,ql⟩,⟨sA,sn,sc,sl⟩,⟨wA,wn,wc,wl⟩,text⟩ col=(0,false) by simp [Xg,Wx,hk]]
  go_enter Tryz.func111,Tryz.ntmps111
  go_wp2_with fail
  all_goals first
   | (exfalso;omega)
   | (refine Lh (results_tmp2 rfl _ _ _) rfl ?_;exact ⟨rfl,HB.out⟩)
theorem ZaN (w:World) (e:Ex) (h:e.kind≠4):Calls Tryz.prog 147 #[e.val] w fun r w' =>r=.returned (.tuple #[.int .i64 e.v.i,.bool ((e.kind==1)&&(e.v.k==1))])∧Below w.heap.size w w' :=by
 obtain ⟨k,op,nt,⟨vk,vi,vs⟩,tab,nm,A,n,c,args,B,m,d,sub⟩:=e
 simp only [Ex.val] at h ⊢
 have hq:(k==4)=false:=by simpa using h
 have K0:=(Hold.Yi w).Za #[.int .i64 k,.int .i64 op,.bool nt,.int .i64 vk,.int .i64 vi,.string vs,.string tab,.string nm,.slice A n c,.slice B m d] 34
 have F:=K0.facts
 simp only [zg] at F
 have hB:=fun q=>(K0.drewN q).below
 have HB:=hid hB
 clear hB K0
 cases hk:(k==1)
 ·go_enter Tryz.func147,Tryz.ntmps147
  go_wp2_with fail
  go_quiet (fail)
  go_wp2_with fail
  refine Lh (results_tmp2 rfl _ _ _) rfl ?_
  exact ⟨by simp [hk],HB.out _⟩
 ·go_enter Tryz.func147,Tryz.ntmps147
  go_wp2_with fail
  go_quiet (fail)
  go_wp2_with fail
  refine Lh (results_tmp2 rfl _ _ _) rfl ?_
  exact ⟨by simp [hk],HB.out _⟩
theorem ZfK (M:Nat→Prop) (w:World) (hM:∀ b,M b→b<w.heap.size) (e a:Ex) (d:Nat) (he:Ro w M (ExIn (d+1) e)) (h:e.kind=4) (ha:e.args=[a]) (hk:a.kind=1):Calls Tryz.prog 147 #[e.val] w fun r w' =>r=.returned (.tuple #[.int .i64 (IntKind.i64.wrap (-a.v.i)),.bool (a.v.k==1)])∧Below w.heap.size w w' :=by
 obtain ⟨k,op,nt,⟨vk,vi,vs⟩,tab,nm,A,n,c,args,B,m,d2,sub⟩:=e
 obtain ⟨ak,aop,ant,⟨avk,avi,avs⟩,atab,anm,aA,an,ac,aargs,aB,am,ad,asub⟩:=a
 simp only [Ex.val] at h ha hk ⊢
 subst h
 subst ha
 subst hk
 have K0:=((Hold.start M w hM).add (he.less (by simp [Mut]))).Za #[.int .i64 4,.int .i64 op,.bool nt,.int .i64 vk,.int .i64 vi,.string vs,.string tab,.string nm,.slice A n c,.slice B m d2] 34
 have hx:=ExIn.succ.1 (K0.ro 1 rfl).now
 have hlen:1=n:=hx.1.len
 subst hlen
 obtain ⟨b2,o2,rfl,hb2,hc,hal⟩:=hx.1.at_ (k:=0) (x:=⟨1,aop,ant,⟨avk,avi,avs⟩,atab,anm,aA,an,ac,aargs,aB,am,ad,asub⟩) rfl
 have y0:=hc 0 _ (by omega) rfl
 have y1:=hc 1 _ (by omega) rfl
 have y2:=hc 2 _ (by omega) rfl
 have y3:=hc 3 _ (by omega) rfl
 have y4:=hc 4 _ (by omega) rfl
 have y5:=hc 5 _ (by omega) rfl
 have y6:=hc 6 _ (by omega) rfl
 have y7:=hc 7 _ (by omega) rfl
 have y8:=hc 8 _ (by omega) rfl
 have y9:=hc 9 _ (by omega) rfl
 simp only [Nat.zero_mul,Nat.add_zero] at y0 y1 y2 y3 y4 y5 y6 y7 y8 y9
 clear hc hx hal
 have F:=K0.facts
 simp only [zg] at F
 go_enter Tryz.func147,Tryz.ntmps147
 go_wp2_with fail
 refine (ZaN _ ⟨1,aop,ant,⟨avk,avi,avs⟩,atab,anm,aA,an,ac,aargs,aB,am,ad,asub⟩ (show (1:Int)≠4 by decide)).mono ?_
 rintro r w1 ⟨rfl,b1⟩
 have K1:=K0.call b1
 clear K0 b1
 have HB:=hid K1.below
 rw [show (((1:Int)==1)&&(avk==1))=(avk==1) from rfl]
 go_wp2_with fail
 refine Lh (results_tmp2 rfl _ _ _) rfl ?_
 exact ⟨by first|rfl|(simp;(first|(simp [wrap64,IntKind.wrap_i64];done)|(rw [Kn];rfl)|(rw [Kn];unfold wrap64;omega))),HB.out⟩
theorem Gd {b o b2 o2:Nat} (h:some (⟨b,o,none⟩:Addr)=some ⟨b2,o2,none⟩):b=b2∧o=o2:=by
 injection h with h
 injection h with e1 e2
 exact ⟨e1,e2⟩
theorem GN:∀ l:List ByteArray,l.flatMap Yg=Zv l
 | []=>rfl
 | x::l=>by
  have ih:=GN l
  simp only [List.flatMap_cons,Zv,List.map_cons,Yg,List.cons_append,List.nil_append] at ih ⊢
  rw [←ih]
theorem Zdm {A:Option Addr} {n:Nat} {l:List ByteArray} {w:World} (h:SlR 1 A n (l.flatMap Yg) w):StrsIn A n l w:=by
 rw [GN] at h
 exact h
def Zeh (w:World) (l:List ByteArray) (e:Ending) (w' :World):Prop:=
 ∃ (A:Option Addr) (n c:Nat),e=.returned (.slice A n c)∧n=l.length∧w'.ownsRow w.heap.size 9 1 (.slice A n c) n (Zv l)∧Below w.heap.size w w'
theorem Zi3 (l:List ByteArray):∀ u∈Zv l,u.oneCell' =true:=fun u hu=>by
 obtain ⟨x,_,rfl⟩:=Kt.1 hu
 rfl
def YG (xs:List ByteArray) (x:ByteArray):Bool:=decide (x∈xs)
theorem ZfM {xs:List ByteArray} {k:Nat} {x y:ByteArray} (h:xs[k]? =some y) (e:y=x):YG xs x=true:=by
 unfold YG;rw [decide_eq_true_iff,←e];exact Ka h
theorem ZfN {xs:List ByteArray} {k:Nat} {x y:ByteArray} (h:xs[k]? =some y) (e:y≠x) (hc:YG (xs.take k) x=false):YG (xs.take (k+1)) x=false:=by
 unfold YG at *
 rw [decide_eq_false_iff_not] at *
 rw [Kq,h,Kk]
 rintro (h1|h1)
 ·exact hc h1
 ·simp at h1;exact e h1.symm
theorem Zlk (w:World) (A:Option Addr) (n c:Nat) (xs:List ByteArray) (x:ByteArray) (hD:StrsIn A n xs w) (hn:n≤9223372036854775807):
  Calls Tryz.prog 153 #[.slice A n c,.string x] w fun e w' =>(∃ r:Int,e=.returned (.int .i64 r)∧decide (r≥0)=YG xs x)∧w=w' :=by
 have HL:=hid hD.len
 go_enter Tryz.func153,Tryz.ntmps153
 go_wp2_with fail
 go_loopw [8] (fun iv wr=>∃ (k:Nat),k≤n∧iv=.int .i64 k∧wr=w∧Hid (YG (xs.take k) x=false)) (fun iv _=>n - (intOf iv).toNat)
 case atStart=>exact ⟨0,by omega,rfl,rfl,hid (by simp [YG])⟩
 case round=>
  obtain ⟨k,hk,rfl,rfl,HC⟩:=hrel
  by_cases hlt:k<n
  ·have hd:decide ((k:Int)<(n:Int))=true:=by simp;omega
   have i0:(0:Int)≤(k:Int):=by omega
   have i1:(k:Int)<(n:Int):=by omega
   obtain ⟨y,hy⟩:=Zl HL.out hlt
   obtain ⟨b,o,rfl,_,ck⟩:=hD.at_ hy
   have HX:=hid hy
   clear hy
   cases e1:(x.toList==y.toList)
   ·have e2:(y.toList==x.toList)=false:=by rw [beq_eq_false_iff_ne] at *;exact fun h=>e1 h.symm
    have HN:=hid (ZfN HX.out (fun e=>by rw [e] at e1;simp at e1) HC.out)
    go_wp2_with fail
    go_roundw
    case rel=>exact ⟨k+1,by omega,by go_num,by first|rfl|trivial,HN⟩
    case measure=>simp [intOf];omega
   ·have e2:(y.toList==x.toList)=true:=by rw [beq_iff_eq] at *;exact e1.symm
    have HN:=hid (ZfM HX.out (ZeU.1 e2))
    go_wp2_with fail
    go_ret
    exact ⟨⟨k,rfl,by rw [HN.out];simp⟩,rfl⟩
  ·obtain rfl:n=k:=by omega
   have hd:decide ((n:Int)<(n:Int))=false:=by simp
   have HN:=hid (show YG xs x=false by have h:=HC.out;rwa [Kh (by rw [HL.out];exact Kg _)] at h)
   go_wp2_with fail
   go_ret
   exact ⟨⟨-1,rfl,by rw [HN.out];rfl⟩,rfl⟩
theorem JB (w:World) (A:Option Addr) (n c:Nat) (xs:List ByteArray) (x:ByteArray) (hD:StrsIn A n xs w) (hn:n≤9223372036854775807):
  Calls Tryz.prog 117 #[.slice A n c,.string x] w fun e w' =>e=.returned (.bool (YG xs x))∧w=w' :=by
 go_enter Tryz.func117,Tryz.ntmps117
 go_wp2_with fail
 refine (Zlk w A n c xs x hD hn).mono ?_
 rintro e w1 ⟨⟨r,rfl,hr⟩,rfl⟩
 go_wp2_with fail
 go_ret
 exact ⟨by first|rw [hr]<;>rfl|simp [←hr],rfl⟩
def YE (t:Tg):List ByteArray:=t.acts.l.flatMap fun a=>if a.kind=5 then a.sets.l.map Se.col else []
def Xu (r:Rk) (t:Tg):Bool:=
 if t.before=true then !(decide (t.tab=r.tab)&&decide (t.event=2)&&t.each&&(YE t).any fun c=>decide (c=r.col)) else t.acts.l.all (Xo r)
def XR (ts:List Tg) (r:Rk):Bool:=ts.all (Xu r)
def WJ (cs:List Col) (c:ByteArray):Bool:=match cs.find? (fun x=>decide (x.name=c)) with|some x=>decide (x.ty=1)&&!x.key|none=>false
def Vs (d:Nat) (ts:List Tg) (tabs:List (ByteArray × List Col)) (t:Tg) (r:Rk):Bool:=
 (match tabs.find? (fun x=>decide (x.1=r.tab)) with|some x=>WJ x.2 r.col|none=>false)&&(decide (r.lo≤r.hi)&&decide (r.hi - r.lo≤1048576))&&Wh d t r&&XR ts r
def YO (d:Nat) (ts:List Tg) (tabs:List (ByteArray × List Col)) (i:Int):Bool:=
 if 0≤i then (match ts[i.toNat]? with
  | some t=>if t.before=true then false else (match t.rank.l with|r::_=>Vs d ts tabs t r|[]=>false)
  | none=>false) else false
theorem ZaP {x:Ex} {n:Int} (h:WE x n) (hn:I64 n):Yj x=(n,true):=by
 rcases h with ⟨h0,rfl⟩|⟨h0,g,rfl⟩
 ·simp [Yj,ZF]
 ·simp only [Yj,opE,ZF]
  have:IntKind.i64.wrap n=n:=IntWalk.i64_in _ hn
  simp [this]
theorem Qi {x:Ex} {n:Int} (h:WE x n) (h0:0≤n):x=ZF ⟨1,n,⟨#[]⟩⟩:=by
 rcases h with ⟨_,rfl⟩|⟨h1,_⟩
 ·rfl
 ·omega
def XH (u c:ByteArray) (k lo hi:Int) (a:Ac):Prop:=
 a.kind=2∧a.tab=u∧∃ (g1 g2:Nat) (kE x y:Ex),a.sets.l=[⟨c,opE 5 10 false g1 2 [ZU ⟨#[]⟩ c,kE]⟩]∧a.wh.l=[opE 7 0 false g2 3 [ZU ⟨#[]⟩ c,x,y]]∧WE kE k∧WE x lo∧WE y hi
theorem Zb0 {u c:ByteArray} {k lo hi:Int} {a:Ac} (h:XH u c k lo hi a) (hk:0≤k):Wx a c=some k:=by
 obtain ⟨h1,h2,g1,g2,kE,x,y,hs,hw,hkE,hx,hy⟩:=h
 rw [Qi hkE hk] at hs
 simp [Wx,h1,hs,WP,Vw,opE,ZU,ZF]
theorem Zii {u c:ByteArray} {k lo hi:Int} {a:Ac} (d:Nat) (h:XH u c k lo hi a) (h3:I64 lo) (h4:I64 hi):VN (d+1) a c=some (lo,hi):=by
 obtain ⟨h1,h2,g1,g2,kE,x,y,hs,hw,hkE,hx,hy⟩:=h
 simp [VN,h1,hw,YR,opE,Vm,ZU,ZaP hx h3,ZaP hy h4]
theorem Zik {u c:ByteArray} {k lo hi L H:Int} {a:Ac} (d:Nat) (h:XH u c k lo hi a) (hk:0≤k) (h3:I64 lo) (h4:I64 hi):WU (d+1) ⟨u,c,L,H⟩ a=(decide (1≤k)&&decide (L≤lo)&&decide (hi≤H)):=by
 have e1:a.kind=2:=h.1
 have e2:a.tab=u:=h.2.1
 simp [WU,Zb0 h hk,Zii d h h3 h4,e1,e2]
theorem Zij {u c:ByteArray} {k lo hi L H:Int} {a:Ac} (h:XH u c k lo hi a) (hk:0≤k):Xo ⟨u,c,L,H⟩ a=true:=by
 have e1:a.kind=2:=h.1
 have e2:a.tab=u:=h.2.1
 simp [Xo,Zb0 h hk,e1,e2]
def hasB (l:List ByteArray) (c:ByteArray):Bool:=l.any fun x=>decide (x=c)
theorem Qd {l:List ByteArray} {c:ByteArray}:hasB l c=true↔c∈l:=by
 unfold hasB;rw [List.any_eq_true]
 exact ⟨fun ⟨x,hx,h⟩=>of_decide_eq_true h ▸ hx,fun h=>⟨c,h,decide_eq_true rfl⟩⟩
def Xb (tab:ByteArray) (sl:List ByteArray) (t:Tg):Bool:=t.before&&decide (t.tab=tab)&&decide (t.event=2)&&t.each&&(decide (t.cols.l=[])||t.cols.l.any fun c=>hasB sl c)
def XX (ts:List Tg) (a:Ac) (c:ByteArray):Bool:=hasB (YZ a) c||ts.any fun t=>Xb a.tab (YZ a) t&&hasB (YE t) c
def Vf (ts:List Tg) (u:Tg) (a:Ac):Bool:=
 (decide (a.kind=1)||decide (a.kind=2)||decide (a.kind=3))&&(!u.before&&decide (a.tab=u.tab)&&decide (a.kind=u.event)&&(decide (u.cols.l=[])||u.cols.l.any fun c=>decide (a.kind=2)&&XX ts a c))
theorem Zll (w:World) (f:FuncId) (cv:Value) (p:ByteArray→Bool) (hcf:∀ args w,Sem.run Tryz.prog (callFunc f args) w=.ok (.enter f args) w) (hf:∀ s,Calls Tryz.prog f #[.string s,cv] w fun e w' =>e=.returned (.bool (p s))∧w=w') (B:Option Addr) (m q:Nat) (os:List ByteArray) (hl:StrsIn B m os w) (hm:m≤1000000):Calls Tryz.prog 181 #[.slice B m q,.func (.func f) #[] #[cv]] w fun e w' =>(∃ r:Int,e=.returned (.int .i64 r)∧decide (r≥0)=os.any p)∧w=w' :=by
 have HL:=hid hl.len
 have HF:=hid hf
 have HCF:=hid hcf
 clear hf hcf
 go_enter Tryz.func181,Tryz.ntmps181
 go_wp2_with fail
 go_loopw [8] (fun iv wr=>∃ j:Nat,j≤m∧iv=.int .i64 j∧Hid ((os.take j).any p=false)∧wr=w) (fun iv _=>m - (intOf iv).toNat)
 case atStart=>exact ⟨0,by omega,rfl,hid rfl,rfl⟩
 case round=>
  obtain ⟨j,hj,rfl,HP,rfl⟩:=hrel
  by_cases hlt:j<m
  ·have j0:(0:Int)≤(j:Int):=by omega
   have j1:(j:Int)<(m:Int):=by omega
   obtain ⟨x,hx⟩:=Zl HL.out hlt
   obtain ⟨b,o,rfl,hb,c0⟩:=hl.at_ hx
   have HXX:=hid hx
   clear hx
   go_wp2_with fail
   rw [HCF.out]
   refine (HF.out x).mono ?_
   rintro e w2 ⟨rfl,rfl⟩
   obtain ⟨z,hz⟩:∃ z:Bool,p x=z:=⟨_,rfl⟩
   rw [hz]
   have HZ:=hid hz
   clear hz
   cases z
   ·go_wp2_with fail
    go_roundw
    case rel=>exact ⟨j+1,by omega,by go_num,hid (by rw [Kq,HXX.out,List.any_append,HP.out];simp [HZ.out]),by first|rfl|trivial⟩
    case measure=>simp [intOf];omega
   ·go_wp2_with fail
    go_ret
    exact ⟨⟨_,rfl,by rw [show os.any p=true from List.any_eq_true.2 ⟨x,Ka HXX.out,HZ.out⟩];simp⟩,rfl⟩
  ·obtain rfl:m=j:=by omega
   go_wp2_with fail
   go_ret
   exact ⟨⟨_,rfl,by
    have h:=HP.out
    rw [Kh (by rw [HL.out];exact Kg _)] at h
    rw [h]
    rfl⟩,rfl⟩
theorem ZcZ (w:World) (f:FuncId) (cv:Value) (p:ByteArray→Bool) (hcf:∀ args w,Sem.run Tryz.prog (callFunc f args) w=.ok (.enter f args) w) (hf:∀ s,Calls Tryz.prog f #[.string s,cv] w fun e w' =>e=.returned (.bool (p s))∧w=w') (B:Option Addr) (m q:Nat) (os:List ByteArray) (hl:StrsIn B m os w) (hm:m≤1000000):Calls Tryz.prog 154 #[.slice B m q,.func (.func f) #[] #[cv]] w fun e w' =>e=.returned (.bool (os.any p))∧w=w' :=by
 go_enter Tryz.func154,Tryz.ntmps154
 go_wp2_with fail
 refine (Zll w f cv p hcf hf B m q os hl hm).mono ?_
 rintro e w2 ⟨⟨r,rfl,hr⟩,rfl⟩
 have HR:=hid hr
 clear hr
 go_wp2_with fail
 go_ret
 exact ⟨by rw [←HR.out]<;>rfl,rfl⟩
end
end Go.Proofs.YtnmnkbnmollpmaaGreatDoor

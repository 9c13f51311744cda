import Derived.Test.YtnmnkbnmollpmaaGreatDoorBdDscSaidMA
import Derived.Lib.ConvBytes
import Derived.Shelf.SlSortCmp.QuietGrown
set_option linter.unusedVariables false
set_option linter.unusedSimpArgs false
set_option maxHeartbeats 64000000
set_option maxRecDepth 100000
namespace Go.Proofs.YtnmnkbnmollpmaaGreatDoor
section
open Go.RowKit
inductive Hp where
 | blk (g:Nat) (t:TypeId) (cs:Array Value)
 | own (e:TypeId) (size:Nat) (v:Value) (n:Nat) (xs:List Value)
 | tp (T:Nat)
 | ro (S:World→Prop)
 | cst (g:Nat) (t:TypeId) (cs:Array Value)
 | ob (g:Nat) (F:World→Prop)
def Hp.foot:Hp→Option Nat
 | .blk g _ _=>some g
 | .own _ _ v _ _=>v.ownBlock
 | .tp T=>some T
 | .ro _=>none
 | .cst _ _ _=>none
 | .ob g _=>some g
def Mut (M:Nat→Prop) (L:List Hp) (b:Nat):Prop:=M b∨∃ h∈L,h.foot=some b
def Ro (w:World) (M:Nat→Prop) (S:World→Prop):Prop:=
 ∀ w' :World,w.heap.size≤w'.heap.size→(∀ b,b<w.heap.size→¬M b→w'.heap[b]? =w.heap[b]?)→S w'
theorem Ro.now {w:World} {M:Nat→Prop} {S:World→Prop} (h:Ro w M S):S w:=h w (Kg _) (fun _ _ _=>rfl)
theorem Ro.step {w w' :World} {M M' :Nat→Prop} {S:World→Prop} (h:Ro w M S) (hs:w.heap.size≤w'.heap.size) (hb:∀ b,b<w.heap.size→¬M b→w'.heap[b]? =w.heap[b]?)
  (hM:∀ b,b<w.heap.size→M' b→M b):Ro w' M' S:=fun w2 h1 h2=>h w2 (KI hs h1) fun b hbl hn=>(h2 b (La hbl hs) (fun hm=>hn (hM b hbl hm))).trans (hb b hbl hn)
theorem Ro.less {w:World} {M M' :Nat→Prop} {S:World→Prop} (h:Ro w M S) (hM:∀ b,M' b→M b):Ro w M' S:=h.step (Kg _) (fun _ _ _=>rfl) (fun b _ hb=>hM b hb)
theorem Ro.imp {w:World} {M:Nat→Prop} {S S' :World→Prop} (h:Ro w M S) (hi:∀ w,S w→S' w):Ro w M S' :=fun w2 h1 h2=>hi _ (h w2 h1 h2)
theorem Ro.and {w:World} {M:Nat→Prop} {S S' :World→Prop} (h:Ro w M S) (k:Ro w M S'):Ro w M (fun w=>S w∧S' w):=fun w2 h1 h2=>⟨h w2 h1 h2,k w2 h1 h2⟩
def Hp.sat (B:Nat) (w:World) (M:Nat→Prop):Hp→Prop
 | .blk g t cs=>w.heap[g]? =some (.cells cs t (0,0))
 | .own e size v n xs=>w.ownsRow B e size v n xs
 | .tp T=>Tp w T∧∀ b,M b→T≤b
 | .ro S=>Ro w M S
 | .cst g t cs=>Ro w M (fun w=>w.heap[g]? =some (.cells cs t (0,0)))
 | .ob g F=>∀ w' :World,w'.heap[g]? =w.heap[g]? →F w'
def Apart:List Hp→Prop
 | []=>True
 | h::L=>(∀ b,h.foot=some b→∀ k∈L,k.foot≠some b)∧Apart L
structure Hold (M:Nat→Prop) (row:Option Nat) (w0 w:World) (L:List Hp):Prop where
 grow:w0.grownBy w row
 low:∀ b,M b→b<w0.heap.size
 sat:∀ h∈L,h.sat w0.heap.size w (Mut M L)
 fresh:∀ h∈L,∀ b,h.foot=some b→(w0.heap.size≤b∨(row=some b∧h=.tp b))∧b<w.heap.size
 sep:Apart L
section
variable {M:Nat→Prop} {row:Option Nat} {w0 w w' :World} {L L' :List Hp}
theorem Hold.start (M:Nat→Prop) (w:World) (h:∀ b,M b→b<w.heap.size):Hold M none w w []:=
 ⟨World.grownBy.refl _ _,h,(fun _ h=>nomatch h),(fun _ h=>nomatch h),trivial⟩
theorem Hold.zG (M:Nat→Prop) (w:World) (T:Nat) (h:∀ b,M b→b<w.heap.size) (ht:Tp w T) (hM:∀ b,M b→T≤b):Hold M (some T) w w [.tp T]:=by
 refine ⟨World.grownBy.refl _ _,h,fun k hm=>?_,fun k hm b hf=>?_,⟨fun _ _ k hk=>by simp at hk,trivial⟩⟩
 ·simp only [List.mem_singleton] at hm;subst hm
  refine ⟨ht,fun b hb=>?_⟩
  rcases hb with hb|⟨k,hm,hf⟩
  ·exact hM b hb
  ·simp only [List.mem_singleton] at hm;subst hm;injection hf with hf;omega
 ·simp only [List.mem_singleton] at hm;subst hm;injection hf with hf;subst hf;exact ⟨.inr ⟨rfl,rfl⟩,ht.lt⟩
theorem Hold.Zb (h:Hold M row w0 w L):∀ b,Mut M L b→b<w.heap.size:=fun b hb=>by
 rcases hb with hb|⟨k,hk,hf⟩
 ·exact La (h.low b hb) h.grow.size
 ·exact (h.fresh k hk b hf).2
theorem Hold.below (h:Hold M none w0 w L):Below w0.heap.size w0 w:=⟨h.grow.os,h.grow.tape,h.grow.output,h.grow.size,fun k hk=>h.grow.block k hk (by simp)⟩
theorem ZL {k:Hp} {b:Nat}:Mut M (k::L) b↔(k.foot=some b∨Mut M L b):=by
 unfold Mut;simp only [List.mem_cons,exists_eq_or_imp]
 constructor
 ·rintro (h|h|h)
  ·exact .inr (.inl h)
  ·exact .inl h
  ·exact .inr (.inr h)
 ·rintro (h|h|h)
  ·exact .inr (.inl h)
  ·exact .inl h
  ·exact .inr (.inr h)
theorem Hp.Xi {B:Nat} {M M' :Nat→Prop} {k:Hp} (h:k.sat B w M) (hs:w.heap.size≤w'.heap.size) (hb:∀ b,b<w.heap.size→¬M b→w'.heap[b]? =w.heap[b]?)
  (hM:∀ b,b<w.heap.size→M' b→M b) (hT:∀ b,k.foot=some b→w'.heap[b]? =w.heap[b]?) (hlow:∀ T,k=.tp T→(∀ b,b<T→w'.heap[b]? =w.heap[b]?)):k.sat B w' M' :=by
 cases k with
 | blk g t cs=>exact (hT g rfl).trans h
 | own e size v n xs=>
  refine ⟨h.1,?_⟩
  rcases h.2 with hn|⟨g,cap,cur,rfl,hb',hgg,rest⟩
  ·exact .inl hn
  ·exact .inr ⟨g,cap,cur,rfl,hb',(hT g rfl).trans hgg,rest⟩
 | tp T=>
  refine ⟨h.1.keep fun b hbT=>?_,fun b hb' =>?_⟩
  ·rcases Nat.lt_or_ge b T with hlt|hge
   ·exact hlow T rfl b hlt
   ·obtain rfl:b=T:=by omega
    exact hT b rfl
  ·rcases Nat.lt_or_ge b w.heap.size with hlt|hge
   ·exact h.2 b (hM b hlt hb')
   ·have:=h.1.lt;omega
 | ro S=>exact h.step hs hb hM
 | cst g t cs=>exact Ro.step h hs hb hM
 | ob g F=>exact fun w2 h2=>h w2 (h2.trans (hT g rfl))
theorem Hold.call (h:Hold M row w0 w L) (hb:Below w.heap.size w w'):Hold M row w0 w' L:=
 ⟨Zi4 h.grow hb,h.low,
  fun k hk=>Hp.Xi (k:=k) (h.sat k hk) hb.size (fun b hl _=>hb.block b hl) (fun _ _ hm=>hm) (fun b hf=>hb.block b (h.fresh k hk b hf).2)
   (fun T hT b hlt=>by
    have:=h.fresh k hk T (by subst hT;rfl)
    exact hb.block b (by omega)),
  fun k hk b hf=>⟨(h.fresh k hk b hf).1,La (h.fresh k hk b hf).2 hb.size⟩,h.sep⟩
theorem Hold.drew (h:Hold M row w0 w L):Hold M row w0 w.drew L:=
 ⟨Zi5 h.grow,h.low,fun k hk=>Hp.Xi (k:=k) (h.sat k hk) (Kg _) (fun _ _ _=>rfl) (fun _ _ hm=>hm) (fun _ _=>rfl) (fun _ _ _ _=>rfl),h.fresh,h.sep⟩
theorem Hold.drewN (h:Hold M row w0 w L) (n:Nat):Hold M row w0 (w.drewN n) L:=
 ⟨Jk h.grow n,h.low,fun k hk=>Hp.Xi (k:=k) (h.sat k hk) (Kg _) (fun _ _ _=>rfl) (fun _ _ hm=>hm) (fun _ _=>rfl) (fun _ _ _ _=>rfl),h.fresh,h.sep⟩
theorem Hold.alloc (h:Hold M row w0 w L) (cs:Array Value) (t:TypeId):Hold M row w0 (w.alloc (.cells cs t)) (.blk w.heap.size t cs::L):=by
 have hsz:(w.alloc (.cells cs t)).heap.size=w.heap.size+1:=by simp
 have hMM:∀ b,b<w.heap.size→Mut M (.blk w.heap.size t cs::L) b→Mut M L b:=fun b hl hm=>by
  rcases ZL.1 hm with hf|hm
  ·injection hf with hf;omega
  ·exact hm
 refine ⟨Jj h.grow _,h.low,fun k hk=>?_,fun k hk b hf=>?_,⟨fun b hf k hk he=>?_,h.sep⟩⟩
 ·rcases Kv.1 hk with rfl|hk
  ·exact heap_alloc_new w _
  ·exact Hp.Xi (k:=k) (h.sat k hk) (by omega) (fun b hl _=>Below.heap_alloc w _ b hl) hMM (fun b hf=>Below.heap_alloc w _ b (h.fresh k hk b hf).2)
    (fun T hT b hlt=>by
     have:=h.fresh k hk T (by subst hT;rfl)
     exact Below.heap_alloc w _ b (by omega))
 ·rcases Kv.1 hk with rfl|hk
  ·injection hf with hf;subst hf;exact ⟨.inl h.grow.size,by omega⟩
  ·exact ⟨(h.fresh k hk b hf).1,by have:=(h.fresh k hk b hf).2;omega⟩
 ·injection hf with hf;subst hf
  have:=(h.fresh k hk _ he).2;omega
theorem Apart.mem (h:Apart L) {i j:Nat} {a b:Hp} (hi:L[i]? =some a) (hj:L[j]? =some b) (hij:i≠j) {x:Nat} (ha:a.foot=some x):b.foot≠some x:=by
 induction L generalizing i j with
 | nil=>cases hi
 | cons c L ih=>
  obtain ⟨h1,h2⟩:=h
  cases i with
  | zero=>
   cases j with
   | zero=>exact absurd rfl hij
   | succ j=>simp only [List.getElem?_cons_zero,Option.some.injEq] at hi;subst hi;exact h1 x ha b (List.mem_of_getElem? (by simpa using hj))
  | succ i=>
   cases j with
   | zero=>
    simp only [List.getElem?_cons_zero,Option.some.injEq] at hj;subst hj
    intro hb
    exact h1 x hb a (List.mem_of_getElem? (by simpa using hi)) ha
   | succ j=>exact ih h2 (by simpa using hi) (by simpa using hj) (fun e=>hij (by omega))
theorem ZeP (h:∀ (i j:Nat) (a b:Hp),L[i]? =some a→L[j]? =some b→i≠j→∀ x,a.foot=some x→b.foot≠some x):Apart L:=by
 induction L with
 | nil=>trivial
 | cons c L ih=>
  refine ⟨fun x hx k hk=>?_,ih fun i j a b hi hj hij=>h (i+1) (j+1) a b (by simpa using hi) (by simpa using hj) (by omega)⟩
  obtain ⟨n,hn⟩:=List.getElem?_of_mem hk
  exact h 0 (n+1) c k rfl (by simpa using hn) (by omega) x hx
theorem VY {k:Hp} {i j:Nat} {a:Hp} (h:(L.set i k)[j]? =some a):(i=j∧a=k)∨(i≠j∧L[j]? =some a):=by
 by_cases e:i=j
 ·subst e
  left
  rw [List.getElem?_set] at h
  simp only [if_true] at h
  split at h
  ·injection h with h;exact ⟨rfl,h.symm⟩
  ·cases h
 ·right
  rw [List.getElem?_set,Lf e] at h
  exact ⟨e,h⟩
theorem Hold.turn (h:Hold M row w0 w L) (i:Nat) {k k' :Hp} (hi:L[i]? =some k) (hsz:w.heap.size≤w'.heap.size) (hos:w'.os=w.os∧w'.tape=w.tape∧w'.output=w.output)
  (hb:∀ b,b<w.heap.size→k.foot≠some b→w'.heap[b]? =w.heap[b]?)
  (hf:∀ b,k'.foot=some b→(k.foot=some b∨w.heap.size≤b)∧b<w'.heap.size)
  (hs:k'.sat w0.heap.size w' (Mut M (L.set i k'))) (hnt:∀ T,k=.tp T→k' =.tp T):Hold M row w0 w' (L.set i k'):=by
 have hkm:k∈L:=Ka hi
 have hMM:∀ b,b<w.heap.size→Mut M (L.set i k') b→Mut M L b:=fun b hl hm=>by
  rcases hm with hm|⟨a,ha,hfa⟩
  ·exact .inl hm
  ·obtain ⟨j,hj⟩:=List.getElem?_of_mem ha
   rcases VY hj with ⟨rfl,rfl⟩|⟨_,hj⟩
   ·rcases (hf b hfa).1 with h1|h1
    ·exact .inr ⟨k,hkm,h1⟩
    ·omega
   ·exact .inr ⟨a,Ka hj,hfa⟩
 have hkM:∀ b,k.foot=some b→Mut M L b:=fun b hb=>.inr ⟨k,hkm,hb⟩
 refine ⟨⟨hos.1.trans h.grow.os,hos.2.1.trans h.grow.tape,hos.2.2.trans h.grow.output,KI h.grow.size hsz,fun b hl hne=>?_⟩,h.low,fun a ha=>?_,fun a ha b hfa=>?_,?_⟩
 ·refine (hb b (La hl h.grow.size) fun hk=>?_).trans (h.grow.block b hl hne)
  rcases (h.fresh k hkm b hk).1 with h1|h1
  ·omega
  ·exact hne h1.1.symm
 ·obtain ⟨j,hj⟩:=List.getElem?_of_mem ha
  rcases VY hj with ⟨rfl,rfl⟩|⟨hij,hj⟩
  ·exact hs
  ·have ham:=Ka hj
   refine Hp.Xi (k:=a) (h.sat a ham) hsz (fun b hl hn=>hb b hl fun hk=>hn (hkM b hk)) hMM (fun b hfb=>hb b (h.fresh a ham b hfb).2 (h.sep.mem hj hi (fun e=>hij e.symm) hfb)) (fun T hT b hlt=>?_)
   subst hT
   have h1:=(h.fresh _ ham T rfl).2
   refine hb b (by omega) fun hk=>?_
   have h2:=(h.sat _ ham).2 b (hkM b hk)
   omega
 ·obtain ⟨j,hj⟩:=List.getElem?_of_mem ha
  rcases VY hj with ⟨rfl,rfl⟩|⟨hij,hj⟩
  ·obtain ⟨h1,h2⟩:=hf b hfa
   rcases h1 with h1|h1
   ·refine ⟨?_,h2⟩
    rcases (h.fresh k hkm b h1).1 with h3|⟨h3,h4⟩
    ·exact .inl h3
    ·exact .inr ⟨h3,hnt b h4⟩
   ·exact ⟨.inl (KI h.grow.size h1),h2⟩
  ·have ham:=Ka hj
   exact ⟨(h.fresh a ham b hfa).1,La (h.fresh a ham b hfa).2 hsz⟩
 ·refine ZeP fun x y a b hx hy hxy g hg=>?_
  rcases VY hx with ⟨rfl,rfl⟩|⟨hix,hx'⟩<;>rcases VY hy with ⟨rfl,rfl⟩|⟨hiy,hy'⟩
  ·exact absurd rfl hxy
  ·rcases (hf g hg).1 with h1|h1
   ·exact h.sep.mem hi hy' hxy h1
   ·intro he;have:=(h.fresh b (Ka hy') g he).2;omega
  ·intro he
   rcases (hf g he).1 with h1|h1
   ·exact h.sep.mem hx' hi hxy hg h1
   ·have:=(h.fresh a (Ka hx') g hg).2;omega
  ·exact h.sep.mem hx' hy' hxy hg
theorem Hold.store (h:Hold M row w0 w L) (i:Nat) {g:Nat} {t:TypeId} {cs:Array Value} (hi:L[i]? =some (.blk g t cs)) (j:Nat) (u:Value):
  Hold M row w0 (w.setCell ⟨g,j,none⟩ u) (L.set i (.blk g t (cs.setIfInBounds j u))):=by
 have hkm:=Ka hi
 refine h.turn i hi (by simp [World.setCell]) ⟨rfl,rfl,rfl⟩ (fun b _ hne=>Below.heap_setCell w _ u b fun e=>hne (by rw [e];rfl)) (fun b hf=>?_) (Gl (h.sat _ hkm) j u) (fun T hT=>by cases hT)
 have:some g=some b:=hf
 injection this with this
 subst this
 exact ⟨.inl rfl,by have:=(h.fresh _ hkm g rfl).2;simpa [World.setCell] using this⟩
theorem Hold.Vr (h:Hold M row w0 w L) (i:Nat) {e:TypeId} {size n cap g:Nat} {xs:List Value} (hi:L[i]? =some (.own e size (.slice (some ⟨g,0,none⟩) n cap) n xs)) (j:Nat) (u:Value):
  Hold M row w0 (w.setCell ⟨g,j,none⟩ u) (L.set i (.own e size (.slice (some ⟨g,0,none⟩) n cap) n (xs.set j u))):=by
 have hkm:=Ka hi
 have hs:=World.ownsRow.stored (h.sat _ hkm) j u
 refine h.turn i hi (by simp [World.setCell]) ⟨rfl,rfl,rfl⟩ (fun b _ hne=>Below.heap_setCell w _ u b fun e=>hne (by rw [e];rfl)) (fun b hf=>?_) hs.1 (fun T hT=>by cases hT)
 have:some g=some b:=hf
 injection this with this
 subst this
 exact ⟨.inl rfl,by have:=(h.fresh _ hkm g rfl).2;simpa [World.setCell] using this⟩
theorem Hold.append (h:Hold M row w0 w L) (i:Nat) {e:TypeId} {size n n' g cap:Nat} {v:Value} {xs ys:List Value} (hi:L[i]? =some (.own e size v n xs))
  (ho:w'.ownsRow w0.heap.size e size (.slice (some ⟨g,0,none⟩) n' cap) n' ys) (hg:w.grownBy w' v.ownBlock) (hd:v.ownBlock=some g∨w.heap.size≤g) (hl:g<w'.heap.size):
  Hold M row w0 w' (L.set i (.own e size (.slice (some ⟨g,0,none⟩) n' cap) n' ys)):=by
 refine h.turn i hi hg.size ⟨hg.os,hg.tape,hg.output⟩ (fun b hl hne=>hg.block b hl fun e=>hne e.symm) (fun b hf=>?_) ho (fun T hT=>by cases hT)
 have:some g=some b:=hf
 injection this with this
 subst this
 exact ⟨hd,hl⟩
theorem Hold.Xk (h:Hold M row w0 w L) (i:Nat) {T:Nat} (hi:L[i]? =some (.tp T)) (hg:w.grownBy w' (some T)) (ht:Tp w' T):Hold M row w0 w' L:=by
 have hkm:=Ka hi
 have hlt:=(h.fresh _ hkm T rfl).2
 have:=h.turn (k' :=.tp T) i hi hg.size ⟨hg.os,hg.tape,hg.output⟩ (fun b hl hne=>hg.block b hl fun e=>hne e.symm) (fun b hf=>⟨.inl hf,by
  injection hf with hf;subst hf;exact La hlt hg.size⟩) ⟨ht,fun b hb=>by
   have hb' :Mut M L b:=by
    rcases hb with hb|⟨a,ha,hfa⟩
    ·exact .inl hb
    ·obtain ⟨j,hj⟩:=List.getElem?_of_mem ha
     rcases VY hj with ⟨rfl,rfl⟩|⟨_,hj⟩
     ·exact .inr ⟨_,hkm,hfa⟩
     ·exact .inr ⟨a,Ka hj,hfa⟩
   exact (h.sat _ hkm).2 b hb'⟩ (fun T' hT' =>by injection hT' with hT';rw [hT'])
 have e:L.set i (.tp T)=L:=by
  apply List.ext_getElem?
  intro j
  rw [List.getElem?_set]
  split
  ·subst i;split
   ·exact hi.symm
   ·rw [List.getElem?_eq_none (by omega)]
  ·rfl
 rwa [e] at this
theorem Hold.add (h:Hold M row w0 w L) {S:World→Prop} (hr:Ro w (Mut M L) S):Hold M row w0 w (.ro S::L):=by
 have e:∀ b,Mut M (.ro S::L) b→Mut M L b:=fun b hb=>by
  rcases ZL.1 hb with hf|hm
  ·cases hf
  ·exact hm
 refine ⟨h.grow,h.low,fun k hk=>?_,fun k hk b hf=>?_,⟨(fun b hf=>nomatch hf),h.sep⟩⟩
 ·rcases Kv.1 hk with rfl|hk
  ·exact hr.less e
  ·exact Hp.Xi (k:=k) (h.sat k hk) (Kg _) (fun _ _ _=>rfl) (fun b _ hb=>e b hb) (fun _ _=>rfl) (fun _ _ _ _=>rfl)
 ·rcases Kv.1 hk with rfl|hk
  ·cases hf
  ·exact h.fresh k hk b hf
theorem Hold.nil (h:Hold M row w0 w L) (e:TypeId) (size:Nat):Hold M row w0 w (.own e size (.slice none 0 0) 0 []::L):=by
 have ee:∀ b,Mut M (.own e size (.slice none 0 0) 0 []::L) b→Mut M L b:=fun b hb=>by
  rcases ZL.1 hb with hf|hm
  ·cases hf
  ·exact hm
 refine ⟨h.grow,h.low,fun k hk=>?_,fun k hk b hf=>?_,⟨(fun b hf=>nomatch hf),h.sep⟩⟩
 ·rcases Kv.1 hk with rfl|hk
  ·exact World.ownsRow_nil _ _ _ _
  ·exact Hp.Xi (k:=k) (h.sat k hk) (Kg _) (fun _ _ _=>rfl) (fun b _ hb=>ee b hb) (fun _ _=>rfl) (fun _ _ _ _=>rfl)
 ·rcases Kv.1 hk with rfl|hk
  ·cases hf
  ·exact h.fresh k hk b hf
theorem Hold.QN (h:Hold M row w0 w L) (cs:Array Value) (t:TypeId) (size n:Nat) (hm:n≤maxLen) (hs:cs.size=n * size):
  Hold M row w0 (w.alloc (.cells cs t)) (.own t size (.slice (some ⟨w.heap.size,0,none⟩) n n) n cs.toList::L):=by
 have h1:=h.alloc cs t
 exact h1.turn (k' :=.own t size (.slice (some ⟨w.heap.size,0,none⟩) n n) n cs.toList) 0 rfl (Kg _) ⟨rfl,rfl,rfl⟩ (fun _ _ _=>rfl) (fun b hf=>⟨.inl hf,(h1.fresh _ (Kl ..) b hf).2⟩)
  (World.ownsRow_lit w cs n h.grow.size hm hs) (fun T hT=>by cases hT)
theorem Hold.drop (h:Hold M row w0 w L) (hL:List.Sublist L' L):Hold M row w0 w L' :=by
 have e:∀ b,Mut M L' b→Mut M L b:=fun b hb=>by
  rcases hb with hb|⟨k,hk,hf⟩
  ·exact .inl hb
  ·exact .inr ⟨k,hL.subset hk,hf⟩
 refine ⟨h.grow,h.low,fun k hk=>Hp.Xi (k:=k) (h.sat k (hL.subset hk)) (Kg _) (fun _ _ _=>rfl) (fun b _ hb=>e b hb) (fun _ _=>rfl) (fun _ _ _ _=>rfl),fun k hk=>h.fresh k (hL.subset hk),?_⟩
 have h1:=h.sep
 clear h e
 induction hL with
 | slnil=>trivial
 | cons _ _ ih=>exact ih h1.2
 | cons_cons a hs ih=>exact ⟨fun b hb k hk=>h1.1 b hb k (hs.subset hk),ih h1.2⟩
theorem Hold.Zc3 (h:Hold M row w0 w L) (i:Nat) {k k' :Hp} (hi:L[i]? =some k) (hk:∀ T,k≠.tp T) (hk' :k'.foot=none) {S:World→Prop}
  (hS:∀ w2:World,k.sat w0.heap.size w (Mut M L)→(∀ b,k.foot=some b→w2.heap[b]? =w.heap[b]?)→S w2) (hs:Ro w (Mut M (L.set i k')) S→k'.sat w0.heap.size w (Mut M (L.set i k'))):Hold M row w0 w (L.set i k'):=by
 have hkm:=Ka hi
 refine h.turn i hi (Kg _) ⟨rfl,rfl,rfl⟩ (fun _ _ _=>rfl) (fun b hf=>by rw [hk'] at hf;cases hf) (hs ?_) (fun T hT=>absurd hT (hk T))
 intro w2 h1 h2
 refine hS w2 (h.sat k hkm) fun b hf=>h2 b (h.fresh k hkm b hf).2 ?_
 rintro (hm|⟨a,ha,hfa⟩)
 ·rcases (h.fresh k hkm b hf).1 with h3|⟨h3,h4⟩
  ·have:=h.low b hm;omega
  ·exact absurd h4 (hk b)
 ·obtain ⟨j,hj⟩:=List.getElem?_of_mem ha
  rcases VY hj with ⟨rfl,rfl⟩|⟨hij,hj⟩
  ·rw [hk'] at hfa;cases hfa
  ·exact h.sep.mem hi hj hij hf hfa
theorem Hold.Zc2 (h:Hold M row w0 w L) (i:Nat) {k:Hp} (hi:L[i]? =some k) (hk:∀ T,k≠.tp T) {S:World→Prop}
  (hS:∀ w2:World,k.sat w0.heap.size w (Mut M L)→(∀ b,k.foot=some b→w2.heap[b]? =w.heap[b]?)→S w2):Hold M row w0 w (L.set i (.ro S)):=
 h.Zc3 i hi hk rfl hS id
theorem Hold.GM (h:Hold M row w0 w L) (i:Nat) {g:Nat} {t:TypeId} {cs:Array Value} (hi:L[i]? =some (.blk g t cs)):Hold M row w0 w (L.set i (.cst g t cs)):=
 h.Zc3 i hi (fun T e=>nomatch e) rfl (S:=fun w=>w.heap[g]? =some (.cells cs t (0,0))) (fun w2 h1 h2=>(h2 g rfl).trans h1) id
theorem Hold.Za (h:Hold M row w0 w L) (cs:Array Value) (t:TypeId):Hold M row w0 (w.alloc (.cells cs t)) (.cst w.heap.size t cs::L):=(h.alloc cs t).GM 0 rfl
theorem Hold.ZiI (h:Hold M row w0 w L) {T:Nat} (hb:Below w.heap.size w w') (ht:Tp w' T) (hT:w.heap.size≤T) (hm:∀ b,¬Mut M L b):Hold M row w0 w' (.tp T::L):=by
 have h1:=h.call hb
 have hM:∀ b,Mut M (.tp T::L) b→b=T:=fun b hb=>by
  rcases ZL.1 hb with hf|hm'
  ·injection hf with hf;exact hf.symm
  ·exact absurd hm' (hm b)
 have hfo:∀ k∈L,∀ b,k.foot≠some b:=fun k hk b hf=>hm b (.inr ⟨k,hk,hf⟩)
 refine ⟨h1.grow,h.low,fun k hk=>?_,fun k hk b hf=>?_,⟨fun b _ k hk=>hfo k hk b,h.sep⟩⟩
 ·rcases Kv.1 hk with rfl|hk
  ·exact ⟨ht,fun b hb=>by rw [hM b hb];exact Kg _⟩
  ·exact Hp.Xi (k:=k) (h.sat k hk) hb.size (fun b hl _=>hb.block b hl) (fun b hl hm' =>by have:=hM b hm';omega) (fun b hf=>absurd hf (hfo k hk b)) (fun T' hT' =>absurd (by rw [hT'];rfl) (hfo k hk T'))
 ·rcases Kv.1 hk with rfl|hk
  ·injection hf with hf;subst hf;exact ⟨.inl (KI h.grow.size hT),ht.lt⟩
  ·exact absurd hf (hfo k hk b)
end
def Zu (w:World) (g:Nat):Nat→List Value→Prop
 | _,[]=>True
 | i,x::r=>w.cell? ⟨g,i,none⟩=some x∧w.frozen? ⟨g,i,none⟩=false∧Zu w g (i+1) r
def factsL (w:World):List Hp→Prop
 | []=>True
 | .blk g t cs::L=>g<w.heap.size∧Zu w g 0 cs.toList∧factsL w L
 | .own _ _ _ _ _::L=>factsL w L
 | .tp _::L=>factsL w L
 | .ro _::L=>factsL w L
 | .cst g t cs::L=>g<w.heap.size∧Zu w g 0 cs.toList∧factsL w L
 | .ob _ _::L=>factsL w L
theorem Gn {w:World} {g:Nat} {t:TypeId} {cs:Array Value} (h:w.heap[g]? =some (.cells cs t (0,0))):∀ (l:List Value) (i:Nat),(∀ j,l[j]? =cs[i+j]?)→Zu w g i l
 | [],_,_=>trivial
 | x::r,i,hl=>by
  refine ⟨?_,ZbD h i,Gn h r (i+1) fun j=>?_⟩
  ·rw [cell_of_row w g i cs t (0,0) h];exact (hl 0).symm
  ·have:=hl (j+1);rw [show i+1+j=i+(j+1) from by omega];simpa using this
theorem VM {w:World} {B:Nat} {M:Nat→Prop}:∀ {L:List Hp},(∀ h∈L,h.sat B w M)→(∀ h∈L,∀ b,h.foot=some b→b<w.heap.size)→factsL w L
 | [],_,_=>trivial
 | .blk g t cs::L,h,k=>⟨k _ (List.mem_cons_self ..) g rfl,Gn (h _ (List.mem_cons_self ..)) cs.toList 0 (by simp),VM (fun a ha=>h a (List.mem_cons_of_mem _ ha)) (fun a ha=>k a (List.mem_cons_of_mem _ ha))⟩
 | .own ..::L,h,k=>VM (L:=L) (fun a ha=>h a (Kr _ ha)) (fun a ha=>k a (Kr _ ha))
 | .tp _::L,h,k=>VM (L:=L) (fun a ha=>h a (Kr _ ha)) (fun a ha=>k a (Kr _ ha))
 | .ro _::L,h,k=>VM (L:=L) (fun a ha=>h a (Kr _ ha)) (fun a ha=>k a (Kr _ ha))
 | .ob _ _::L,h,k=>VM (L:=L) (fun a ha=>h a (Kr _ ha)) (fun a ha=>k a (Kr _ ha))
 | .cst g t cs::L,h,k=>by
  have h1:w.heap[g]? =some (.cells cs t (0,0)):=Ro.now (show Ro w M (fun w=>w.heap[g]? =some (.cells cs t (0,0))) from h _ (Kl ..))
  refine ⟨?_,Gn h1 cs.toList 0 (by simp),VM (fun a ha=>h a (List.mem_cons_of_mem _ ha)) (fun a ha=>k a (List.mem_cons_of_mem _ ha))⟩
  rcases Nat.lt_or_ge g w.heap.size with hlt|hge
  ·exact hlt
  ·rw [Array.getElem?_eq_none hge] at h1;cases h1
theorem Hold.facts {M:Nat→Prop} {row:Option Nat} {w0 w:World} {L:List Hp} (h:Hold M row w0 w L):factsL w L:=VM h.sat fun a ha b hb=>(h.fresh a ha b hb).2
def neF (g:Nat):List Hp→Prop
 | []=>True
 | .blk g' _ _::L=>¬g=g' ∧¬g' =g∧neF g L
 | .own _ _ _ _ _::L=>neF g L
 | .tp T::L=>¬g=T∧¬T=g∧neF g L
 | .ro _::L=>neF g L
 | .cst _ _ _::L=>neF g L
 | .ob g' _::L=>¬g=g' ∧¬g' =g∧neF g L
def X9:List Hp→Prop
 | []=>True
 | .blk g _ _::L=>neF g L∧X9 L
 | .own _ _ _ _ _::L=>X9 L
 | .tp T::L=>neF T L∧X9 L
 | .ro _::L=>X9 L
 | .cst _ _ _::L=>X9 L
 | .ob g _::L=>neF g L∧X9 L
theorem WR {g:Nat}:∀ {L:List Hp},(∀ k∈L,k.foot≠some g)→neF g L
 | [],_=>trivial
 | .blk g' _ _::L,h=>⟨fun e=>h _ (Kl ..) (by rw [e];rfl),fun e=>h _ (Kl ..) (by rw [←e];rfl),WR fun k hk=>h k (Kr _ hk)⟩
 | .own ..::L,h=>WR (L:=L) fun k hk=>h k (Kr _ hk)
 | .tp T::L,h=>⟨fun e=>h _ (Kl ..) (by rw [e];rfl),fun e=>h _ (Kl ..) (by rw [←e];rfl),WR fun k hk=>h k (Kr _ hk)⟩
 | .ro _::L,h=>WR (L:=L) fun k hk=>h k (Kr _ hk)
 | .cst ..::L,h=>WR (L:=L) fun k hk=>h k (Kr _ hk)
 | .ob g' _::L,h=>⟨fun e=>h _ (Kl ..) (by rw [e];rfl),fun e=>h _ (Kl ..) (by rw [←e];rfl),WR fun k hk=>h k (Kr _ hk)⟩
theorem VR:∀ {L:List Hp},Apart L→X9 L
 | [],_=>trivial
 | .blk g _ _::L,h=>⟨WR (h.1 g rfl),VR h.2⟩
 | .own ..::L,h=>VR (L:=L) h.2
 | .tp T::L,h=>⟨WR (h.1 T rfl),VR h.2⟩
 | .ro _::L,h=>VR (L:=L) h.2
 | .cst ..::L,h=>VR (L:=L) h.2
 | .ob g _::L,h=>⟨WR (h.1 g rfl),VR h.2⟩
theorem Hold.nes {M:Nat→Prop} {row:Option Nat} {w0 w:World} {L:List Hp} (h:Hold M row w0 w L):X9 L:=VR h.sep
theorem Hold.get {M:Nat→Prop} {row:Option Nat} {w0 w:World} {L:List Hp} (h:Hold M row w0 w L) (i:Nat) {k:Hp} (hi:L[i]? =some k):k.sat w0.heap.size w (Mut M L):=h.sat k (Ka hi)
theorem Hold.ro {M:Nat→Prop} {row:Option Nat} {w0 w:World} {L:List Hp} (h:Hold M row w0 w L) (i:Nat) {S:World→Prop} (hi:L[i]? =some (.ro S)):Ro w (Mut M L) S:=h.get i hi
theorem Hold.Zg {M:Nat→Prop} {row:Option Nat} {w0 w:World} {L:List Hp} (h:Hold M row w0 w L) (i:Nat) {g:Nat} {t:TypeId} {cs:Array Value} (hi:L[i]? =some (.cst g t cs)):Blk w g t cs:=Ro.now (S:=fun w=>w.heap[g]? =some (.cells cs t (0,0))) (h.get i hi)
theorem Hold.Ym {M:Nat→Prop} {row:Option Nat} {w0 w:World} {L:List Hp} (h:Hold M row w0 w L) (i:Nat) {g:Nat} {t:TypeId} {cs:Array Value} (hi:L[i]? =some (.blk g t cs)):Blk w g t cs:=h.get i hi
theorem Hold.tp_ {M:Nat→Prop} {row:Option Nat} {w0 w:World} {L:List Hp} (h:Hold M row w0 w L) (i:Nat) {T:Nat} (hi:L[i]? =some (.tp T)):Tp w T:=(h.get i hi).1
theorem Hold.ZN {M:Nat→Prop} {row:Option Nat} {w0 w:World} {L:List Hp} (h:Hold M row w0 w L) (i:Nat) {S:World→Prop} (hi:L[i]? =some (.ro S)):Ro w M S:=(h.ro i hi).less fun b hb=>.inl hb
theorem Hold.Zaq {M:Nat→Prop} {row:Option Nat} {w0 w:World} {L:List Hp} (h:Hold M row w0 w L) (o:Obj) (F:World→Prop) (hF:∀ w' :World,w'.heap[w.heap.size]? =some o→F w'):Hold M row w0 (w.alloc o) (.ob w.heap.size F::L):=by
 have hsz:(w.alloc o).heap.size=w.heap.size+1:=by simp
 have hnew:(w.alloc o).heap[w.heap.size]? =some o:=heap_alloc_new w _
 have hMM:∀ b,b<w.heap.size→Mut M (.ob w.heap.size F::L) b→Mut M L b:=fun b hl hm=>by
  rcases ZL.1 hm with hf|hm
  ·injection hf with hf;omega
  ·exact hm
 refine ⟨Jj h.grow _,h.low,fun k hk=>?_,fun k hk b hf=>?_,⟨fun b hf k hk he=>?_,h.sep⟩⟩
 ·rcases Kv.1 hk with rfl|hk
  ·exact fun w' hw' =>hF w' (hw'.trans hnew)
  ·exact Hp.Xi (k:=k) (h.sat k hk) (by omega) (fun b hl _=>Below.heap_alloc w _ b hl) hMM (fun b hf=>Below.heap_alloc w _ b (h.fresh k hk b hf).2)
    (fun T hT b hlt=>by
     have:=h.fresh k hk T (by subst hT;rfl)
     exact Below.heap_alloc w _ b (by omega))
 ·rcases Kv.1 hk with rfl|hk
  ·injection hf with hf;subst hf;exact ⟨.inl h.grow.size,by omega⟩
  ·exact ⟨(h.fresh k hk b hf).1,by have:=(h.fresh k hk b hf).2;omega⟩
 ·injection hf with hf;subst hf
  have:=(h.fresh k hk _ he).2;omega
theorem Hold.QA {M:Nat→Prop} {row:Option Nat} {w0 w w' :World} {L:List Hp} (h:Hold M row w0 w L) (i:Nat) {g:Nat} {F F' :World→Prop} (hi:L[i]? =some (.ob g F)) (hg:w.grownBy w' (some g)) (hF:∀ w2:World,w2.heap[g]? =w'.heap[g]? →F' w2):Hold M row w0 w' (L.set i (.ob g F')):=by
 have hkm:=Ka hi
 refine h.turn i hi hg.size ⟨hg.os,hg.tape,hg.output⟩ (fun b hl hne=>hg.block b hl fun e=>hne e.symm) (fun b hf=>⟨.inl hf,by
  injection hf with hf;subst hf;exact La (h.fresh _ hkm g rfl).2 hg.size⟩) hF (fun T hT=>by cases hT)
theorem Hold.ob_ {M:Nat→Prop} {row:Option Nat} {w0 w:World} {L:List Hp} (h:Hold M row w0 w L) (i:Nat) {g:Nat} {F:World→Prop} (hi:L[i]? =some (.ob g F)):F w:=h.get i hi w rfl
def Zc (b:Nat):Prop:=False
theorem Hold.Yi (w:World):Hold Zc none w w []:=Hold.start Zc w (fun b hb=>hb.elim)
theorem zm {M:Nat→Prop} {L:List Hp}:∀ b,M b→Mut M L b:=fun b hb=>.inl hb
theorem zn {M:Nat→Prop}:∀ b,Zc b→M b:=fun b h=>h.elim
theorem zg:(∀ w:World,factsL w []=True)∧(∀ (w:World) g t (cs:Array Value) L,factsL w (.blk g t cs::L)=(g<w.heap.size∧Zu w g 0 cs.toList∧factsL w L))∧(∀ (w:World) a b c d e L,factsL w (.own a b c d e::L)=factsL w L)∧(∀ (w:World) T L,factsL w (.tp T::L)=factsL w L)∧(∀ (w:World) S L,factsL w (.ro S::L)=factsL w L)∧(∀ (w:World) g t (cs:Array Value) L,factsL w (.cst g t cs::L)=(g<w.heap.size∧Zu w g 0 cs.toList∧factsL w L))∧(∀ (w:World) g F L,factsL w (.ob g F::L)=factsL w L)∧(∀ (w:World) g i,Zu w g i []=True)∧(∀ (w:World) g x r,Zu w g 0 (x::r)=(w.cell? ⟨g,0,none⟩=some x∧w.frozen? ⟨g,0,none⟩=false∧Zu w g 1 r))∧(∀ (w:World) g x r,Zu w g 1 (x::r)=(w.cell? ⟨g,1,none⟩=some x∧w.frozen? ⟨g,1,none⟩=false∧Zu w g 2 r))∧(∀ (w:World) g x r,Zu w g 2 (x::r)=(w.cell? ⟨g,2,none⟩=some x∧w.frozen? ⟨g,2,none⟩=false∧Zu w g 3 r))∧(∀ (w:World) g x r,Zu w g 3 (x::r)=(w.cell? ⟨g,3,none⟩=some x∧w.frozen? ⟨g,3,none⟩=false∧Zu w g 4 r))∧(∀ (w:World) g x r,Zu w g 4 (x::r)=(w.cell? ⟨g,4,none⟩=some x∧w.frozen? ⟨g,4,none⟩=false∧Zu w g 5 r))∧(∀ (w:World) g x r,Zu w g 5 (x::r)=(w.cell? ⟨g,5,none⟩=some x∧w.frozen? ⟨g,5,none⟩=false∧Zu w g 6 r))∧(∀ (w:World) g x r,Zu w g 6 (x::r)=(w.cell? ⟨g,6,none⟩=some x∧w.frozen? ⟨g,6,none⟩=false∧Zu w g 7 r))∧(∀ (w:World) g x r,Zu w g 7 (x::r)=(w.cell? ⟨g,7,none⟩=some x∧w.frozen? ⟨g,7,none⟩=false∧Zu w g 8 r))∧(∀ (w:World) g x r,Zu w g 8 (x::r)=(w.cell? ⟨g,8,none⟩=some x∧w.frozen? ⟨g,8,none⟩=false∧Zu w g 9 r))∧(∀ (w:World) g x r,Zu w g 9 (x::r)=(w.cell? ⟨g,9,none⟩=some x∧w.frozen? ⟨g,9,none⟩=false∧Zu w g 10 r))∧(∀ (w:World) g x r,Zu w g 10 (x::r)=(w.cell? ⟨g,10,none⟩=some x∧w.frozen? ⟨g,10,none⟩=false∧Zu w g 11 r))∧(∀ (w:World) g x r,Zu w g 11 (x::r)=(w.cell? ⟨g,11,none⟩=some x∧w.frozen? ⟨g,11,none⟩=false∧Zu w g 12 r))∧(∀ (w:World) g x r,Zu w g 12 (x::r)=(w.cell? ⟨g,12,none⟩=some x∧w.frozen? ⟨g,12,none⟩=false∧Zu w g 13 r))∧(∀ (w:World) g x r,Zu w g 13 (x::r)=(w.cell? ⟨g,13,none⟩=some x∧w.frozen? ⟨g,13,none⟩=false∧Zu w g 14 r))∧(∀ (w:World) g x r,Zu w g 14 (x::r)=(w.cell? ⟨g,14,none⟩=some x∧w.frozen? ⟨g,14,none⟩=false∧Zu w g 15 r))∧(∀ (w:World) g x r,Zu w g 15 (x::r)=(w.cell? ⟨g,15,none⟩=some x∧w.frozen? ⟨g,15,none⟩=false∧Zu w g 16 r))∧(∀ (w:World) g x r,Zu w g 16 (x::r)=(w.cell? ⟨g,16,none⟩=some x∧w.frozen? ⟨g,16,none⟩=false∧Zu w g 17 r))∧(∀ (w:World) (o:Obj),(w.alloc o).heap.size=w.heap.size+1)∧(∀ w:World,w.drew.heap.size=w.heap.size)∧(∀ {α:Type} {l:List α},l.toArray.toList=l)∧(∀ p:Prop,(p∧True)=p)∧(∀ p:Prop,(True∧p)=p)∧(∀ {α:Type} {x:α} {xs:List α} {a:α},(x::xs).set 0 a=a::xs)∧(∀ {α:Type} {x:α} {xs:List α} {i:Nat} {a:α},(x::xs).set (i+1) a=x::xs.set i a)∧(∀ {α:Type} (l:List α) (i:Nat) (a:α),l.toArray.setIfInBounds i a=(l.set i a).toArray):=⟨fun _=>rfl,fun _ _ _ _ _=>rfl,fun _ _ _ _ _ _ _=>rfl,fun _ _ _=>rfl,fun _ _ _=>rfl,fun _ _ _ _ _=>rfl,fun _ _ _ _=>rfl,fun _ _ _=>rfl,fun _ _ _ _=>rfl,fun _ _ _ _=>rfl,fun _ _ _ _=>rfl,fun _ _ _ _=>rfl,fun _ _ _ _=>rfl,fun _ _ _ _=>rfl,fun _ _ _ _=>rfl,fun _ _ _ _=>rfl,fun _ _ _ _=>rfl,fun _ _ _ _=>rfl,fun _ _ _ _=>rfl,fun _ _ _ _=>rfl,fun _ _ _ _=>rfl,fun _ _ _ _=>rfl,fun _ _ _ _=>rfl,fun _ _ _ _=>rfl,fun _ _ _ _=>rfl,KP,World.size_drew,List.toList_toArray,and_true,true_and,List.set_cons_zero,List.set_cons_succ,List.setIfInBounds_toArray⟩
theorem Lh:type_of% @bodyPost_ret:=@bodyPost_ret
theorem Li:type_of% @cell_of_row:=@cell_of_row
theorem Lj:type_of% @wp_region_any:=@wp_region_any
end
section
open Go.RowKit
def SlR (size:Nat) (A:Option Addr) (n:Nat) (xs:List Value) (w:World):Prop:=Rd w w.heap.size size A n xs
section
variable {w w' :World} {M:Nat→Prop} {B size n:Nat} {A:Option Addr} {xs:List Value}
theorem Rd.ro (h:Rd w B size A n xs) (hB:B≤w.heap.size) (hM:∀ b,b<B→¬M b):Ro w M (SlR size A n xs):=fun w2 h1 h2=>
 (h.keep fun p hp=>World.cell?_of_block (w:=w) (h2 p.block (by omega) (hM _ hp))).more (by omega)
theorem ZO {g:Nat} {t:TypeId} {cs:Array Value} (h:Ro w M (fun w=>w.heap[g]? =some (.cells cs t (0,0)))) (hl:cs.toList.length=n * size):Ro w M (SlR size (some ⟨g,0,none⟩) n cs.toList):=
 h.imp fun w2 h2=>⟨hl,fun _=>⟨g,0,rfl,Blk.lt (t:=t) (cs:=cs) h2,fun j u hu=>by
  rw [Li w2 g (0+j) cs t (0,0) h2,Nat.zero_add];simpa using hu⟩⟩
theorem WW:Ro w M (SlR size none 0 []):=fun _ _ _=>Rd.none_
theorem Hold.ZeJ {row:Option Nat} {w0:World} {L:List Hp} (h:Hold M row w0 w L) {k' :Hp} (hk' :k'.foot=none) (hs:k'.sat w0.heap.size w (Mut M (k' ::L))):Hold M row w0 w (k' ::L):=by
 have e:∀ b,Mut M (k' ::L) b→Mut M L b:=fun b hb=>by
  rcases ZL.1 hb with hf|hm
  ·rw [hk'] at hf;cases hf
  ·exact hm
 refine ⟨h.grow,h.low,fun k hk=>?_,fun k hk b hf=>?_,⟨(fun b hf=>by rw [hk'] at hf;cases hf),h.sep⟩⟩
 ·rcases Kv.1 hk with rfl|hk
  ·exact hs
  ·exact Hp.Xi (k:=k) (h.sat k hk) (Kg _) (fun _ _ _=>rfl) (fun b _ hb=>e b hb) (fun _ _=>rfl) (fun _ _ _ _=>rfl)
 ·rcases Kv.1 hk with rfl|hk
  ·rw [hk'] at hf;cases hf
  ·exact h.fresh k hk b hf
theorem X8 {k' :Hp} (hk' :k'.foot=none) {L:List Hp}:∀ b,Mut M (k' ::L) b→Mut M L b:=fun b hb=>by
 rcases ZL.1 hb with hf|hm
 ·rw [hk'] at hf;cases hf
 ·exact hm
theorem Hold.Wp {row:Option Nat} {w0:World} {L:List Hp} (h:Hold M row w0 w L) {g:Nat} {t:TypeId} {cs:Array Value} (hr:Ro w (Mut M L) (fun w=>w.heap[g]? =some (.cells cs t (0,0)))):Hold M row w0 w (.cst g t cs::L):=
 h.ZeJ rfl (hr.less (X8 rfl))
theorem Hold.Zq {row:Option Nat} {w0:World} {L:List Hp} (h:Hold M row w0 w L) (i:Nat) {e:TypeId} {A:Option Addr} {c:Nat} (hi:L[i]? =some (.own e size (.slice A n c) n xs)):
  Hold M row w0 w (L.set i (.ro (SlR size A n xs))):=
 h.Zc2 i hi (fun T e=>nomatch e) fun w2 h1 h2=>by
  have h3:w2.ownsRow w0.heap.size e size (.slice A n c) n xs:=by
   refine ⟨h1.1,?_⟩
   rcases h1.2 with hn|⟨g,cap,cur,hv,hb,hgg,rest⟩
   ·exact .inl hn
   ·injection hv with hv1 hv2 hv3
    subst hv1 hv3
    exact .inr ⟨g,c,cur,rfl,hb,(h2 g rfl).trans hgg,rest⟩
  exact Rd.Us h3
end
theorem Zl {α:Type} {l:List α} {n k:Nat} (h:l.length=n) (hk:k<n):∃ x,l[k]? =some x:=⟨l[k]'(by omega),Ky _⟩
end
section
open Go.RowKit
def WO (x:Nat):Bool:=decide (97≤x)&&decide (x≤122)
def Gv (x:Nat):Bool:=decide (48≤x)&&decide (x≤57)
def XQ (x:Nat):Bool:=WO x||Gv x||x==95
def Yf (s:ByteArray):Bool:=decide (1≤s.size)&&decide (s.size≤12)&&WO (s.data.toList.getD 0 0).toNat&&s.data.toList.all (fun c=>XQ c.toNat)
theorem ZiA {s:ByteArray} (h:s.size<1):Yf s=false:=by simp [Yf];omega
theorem ZiB {s:ByteArray} (h:12<s.size):Yf s=false:=by simp [Yf];omega
theorem Ziz {s:ByteArray} {c:UInt8} (hc:s.data.toList.getD 0 0=c) (h:WO c.toNat=false):Yf s=false:=by
 unfold Yf;rw [hc,h];simp
theorem Ziy {s:ByteArray} {k:Nat} {c:UInt8} (hk:s.data.toList[k]? =some c) (h:XQ c.toNat=false):Yf s=false:=by
 have:s.data.toList.all (fun c=>XQ c.toNat)=false:=by
  rw [List.all_eq_false]
  exact ⟨c,List.mem_of_getElem? hk,by simp [h]⟩
 unfold Yf;rw [this,Bool.and_false]
theorem ZiC {s:ByteArray} {c:UInt8} (h1:1≤s.size) (h2:s.size≤12) (hc:s.data.toList.getD 0 0=c) (hl:WO c.toNat=true) (ha:s.data.toList.all (fun c=>XQ c.toNat)=true):Yf s=true:=by
 unfold Yf;rw [hc,hl,ha];simp [h1,h2]
theorem Gf {s:ByteArray} {k:Nat} {c:UInt8} {p:UInt8→Bool} (hk:s.data.toList[k]? =some c) (ha:(s.data.toList.take k).all p=true) (hp:p c=true):(s.data.toList.take (k+1)).all p=true:=by
 obtain ⟨h,rfl⟩:=Kc.1 hk
 rw [List.take_succ_eq_append_getElem h,List.all_append,ha]
 simpa using hp
theorem ZeM {s:ByteArray} {p:UInt8→Bool} (ha:(s.data.toList.take s.size).all p=true):s.data.toList.all p=true:=by
 rwa [List.take_of_length_le (by simp)] at ha
theorem byte_at (s:ByteArray) {k:Nat} (h:k<s.size):s.data.toList[k]? =some s[k]:=by
 rw [List.getElem?_eq_getElem (by simpa using h)];rfl
theorem Zhf (s:ByteArray) (h:0<s.size):s.data.toList.getD 0 0=s[0]:=by
 simp only [List.getD,byte_at s h,Option.getD_some]
theorem ZiE {x:Nat} (h1:¬(97≤x∧x≤122)) (h2:¬(48≤x∧x≤57)) (h3:x≠95):XQ x=false:=by
 simp [XQ,WO,Gv];omega
theorem ZiF {x:Nat} (h1:97≤x) (h2:x≤122):XQ x=true:=by simp [XQ,WO,h1,h2]
theorem ZiD {x:Nat} (h1:48≤x) (h2:x≤57):XQ x=true:=by simp [XQ,Gv,h1,h2]
end
section
open Go.RowKit
def VE (n:Nat) (u:Value):Prop:=∃ r:Nat,r<n∧u=.int .i64 r
section
variable {sp:Sp} {F:Act→Prop} {S0:Array Bool} {ops:Array Oper} {o:Oper} {rest:List Oper} {a:Act} {k:Nat} {M:Nat→Prop} {row:Option Nat} {w0:World} {L:List Hp} {T:Nat}
end
end
section
open Go.RowKit
theorem RdC.ZW {w:World} {A:Option Addr} {n:Nat} {l:List Col} (h:SlR 4 A n (Zf l) w):RdC w w.heap.size A n l:=h
theorem X4 {l:List Col} {n k:Nat} (h:l.length=n) (hk:k<n):∃ c,l[k]? =some c:=⟨l[k]'(by omega),Ky _⟩
theorem Zhb (nm:ByteArray) (ty:Int) (nn key:Bool) (g:Nat) (s:ByteArray) (w:World) (hg:w.cell? ⟨g,0,none⟩=some (.string s)) (hlt:g<w.heap.size):
  Calls Tryz.prog 110 #[.agg #[.string nm,.int .i64 ty,.bool nn,.bool key],.pointer (some ⟨g,0,none⟩)] w fun e w' =>e=.returned (.bool (nm.toList==s.toList))∧Below w.heap.size w w' :=by
 go_enter Tryz.func110,Tryz.ntmps110
 go_wp2
 go_ret
 exact ⟨rfl,Q4 _ _⟩
theorem ZhO (M:Nat→Prop) (w:World) (hM:∀ b,M b→b<w.heap.size) (A:Option Addr) (n c:Nat) (l:List Col) (hD:Ro w M (SlR 4 A n (Zf l))) (hn:n≤9223372036854775807) (g:Nat) (s:ByteArray) (hS:Ro w M (fun w=>w.heap[g]? =some (.cells #[.string s] 9 (0,0)))):
  Calls Tryz.prog 109 #[.slice A n c,.func (.func 110) #[] #[.pointer (some ⟨g,0,none⟩)]] w fun e w' =>e=.returned (.int .i64 (Ze (named s) l))∧Below w.heap.size w w' :=by
 have HL:=hid (RdC.ZW hD.now).len
 have K0:=((Hold.start M w hM).add (hD.less (by simp [Mut]))).add (S:=fun w=>w.heap[g]? =some (.cells #[.string s] 9 (0,0))) (hS.less (by simp [Mut,Hp.foot]))
 go_enter Tryz.func109,Tryz.ntmps109
 go_wp2_with fail
 go_loopw [8] (fun i wr=>∃ k:Nat,k≤n∧i=.int .i64 k∧Ze (named s) l=Zy (named s) k (l.drop k)∧Hold M none w wr [.ro (fun w=>w.heap[g]? =some (.cells #[.string s] 9 (0,0))),.ro (SlR 4 A n (Zf l))]) (fun i _=>n - (intOf i).toNat)
 case atStart=>exact ⟨0,by omega,rfl,rfl,K0⟩
 case round=>
  obtain ⟨k,hk,rfl,hf,H⟩:=hrel
  have HF:=hid hf;clear hf
  by_cases hlt:k<n
  ·obtain ⟨⟨nm,ty,nn,key⟩,hc⟩:=X4 HL.out hlt
   obtain ⟨b,o,rfl,hb,c0,c1,c2,c3⟩:=(RdC.ZW (H.ro 1 rfl).now).at_ hc
   have HC:=hid hc;clear hc
   have hB:Blk _ g 9 #[.string s]:=(H.ro 0 rfl).now
   simp only at c0 c1 c2 c3
   cases hp:(nm.toList==s.toList)
   all_goals
    go_wp2_with fail
    refine (Zhb nm ty nn key g s _ (hB.cell 0) hB.lt).mono ?_
    rintro e w1 ⟨rfl,b1⟩
    have K1:=Hold.call H b1
    rw [hp]
    go_wp2_with fail
   ·go_roundw
    case rel=>exact ⟨k+1,by omega,by go_num,XZ HF.out HC.out hp,K1⟩
    case measure=>simp [intOf];omega
   ·go_ret
    exact ⟨by rw [Ww HF.out HC.out hp]<;>rfl,K1.below⟩
  ·go_wp2
   go_ret
   exact ⟨by rw [XY HF.out (by rw [HL.out];omega)]<;>rfl,H.below⟩
theorem Q5 (M:Nat→Prop) (w:World) (hM:∀ b,M b→b<w.heap.size) (nm:ByteArray) (A:Option Addr) (n c:Nat) (l:List Col) (s:ByteArray) (hD:Ro w M (SlR 4 A n (Zf l))) (hn:n≤9223372036854775807):
  Calls Tryz.prog 71 #[.agg #[.string nm,.slice A n c],.string s] w fun e w' =>e=.returned (.int .i64 (Ze (named s) l))∧Below w.heap.size w w' :=by
 have K0:=(((Hold.start M w hM).add (hD.less (by simp [Mut]))).Za #[.string nm,.slice A n c] 66).Za #[.string s] 9
 simp only [World.size_alloc] at K0
 go_enter Tryz.func71,Tryz.ntmps71
 go_wp2_with fail
 refine (ZhO (Mut M _) _ K0.Zb A n c l (K0.ro 2 rfl) hn _ s (K0.get 0 rfl)).mono ?_
 rintro e w1 ⟨rfl,b1⟩
 have K1:=Hold.call K0 b1
 go_wp2
 go_ret
 exact ⟨rfl,K1.below⟩
theorem Zki (M:Nat→Prop) (w:World) (hM:∀ b,M b→b<w.heap.size) (nm0:ByteArray) (A:Option Addr) (n c:Nat) (l:List Col) (hD:Ro w M (SlR 4 A n (Zf l))) (hn:n≤9223372036854775807):
  Calls Tryz.prog 97 #[.agg #[.string nm0,.slice A n c]] w fun e w' =>e=.returned (.int .i64 (Ze Col.key l))∧Below w.heap.size w w' :=by
 have HL:=hid (RdC.ZW hD.now).len
 have K0:=((Hold.start M w hM).add (hD.less (by simp [Mut]))).Za #[.string nm0,.slice A n c] 66
 go_enter Tryz.func97,Tryz.ntmps97
 go_wp2_with fail
 go_loopw [8] (fun i wr=>∃ k:Nat,k≤n∧i=.int .i64 k∧Ze Col.key l=Zy Col.key k (l.drop k)∧Hold M none w wr [.cst w.heap.size 66 #[.string nm0,.slice A n c],.ro (SlR 4 A n (Zf l))]) (fun i _=>n - (intOf i).toNat)
 case atStart=>exact ⟨0,by omega,rfl,rfl,K0⟩
 case round=>
  obtain ⟨k,hk,rfl,hf,H⟩:=hrel
  have HF:=hid hf;clear hf
  by_cases hlt:k<n
  ·obtain ⟨⟨nm,ty,nn,key⟩,hc⟩:=X4 HL.out hlt
   obtain ⟨b,o,rfl,hb,c0,c1,c2,c3⟩:=(RdC.ZW (H.ro 1 rfl).now).at_ hc
   have HC:=hid hc;clear hc
   simp only at c0 c1 c2 c3
   cases key
   ·have K1:=H.Za #[.string nm,.int .i64 ty,.bool nn,.bool false] 124
    go_wp2_with fail
    go_roundw
    case rel=>exact ⟨k+1,by omega,by go_num,XZ HF.out HC.out rfl,K1.drop (Kb _ _)⟩
    case measure=>simp [intOf];omega
   ·have K1:=H.Za #[.string nm,.int .i64 ty,.bool nn,.bool true] 124
    go_wp2_with fail
    go_ret
    exact ⟨by rw [Ww HF.out HC.out rfl]<;>rfl,K1.below⟩
  ·go_wp2
   go_ret
   exact ⟨by rw [XY HF.out (by rw [HL.out];omega)]<;>rfl,H.below⟩
theorem Vt (M:Nat→Prop) (w:World) (hM:∀ b,M b→b<w.heap.size) (nm0:ByteArray) (A:Option Addr) (n c:Nat) (l:List Col) (s:ByteArray) (hD:Ro w M (SlR 4 A n (Zf l))) (hn:n≤9223372036854775807):
  Calls Tryz.prog 92 #[.agg #[.string nm0,.slice A n c],.string s] w fun e w' =>e=.returned (.int .i64 (Ze (named s) l))∧Below w.heap.size w w' :=by
 have HL:=hid (RdC.ZW hD.now).len
 have K0:=((Hold.start M w hM).add (hD.less (by simp [Mut]))).Za #[.string nm0,.slice A n c] 66
 go_enter Tryz.func92,Tryz.ntmps92
 go_wp2_with fail
 go_loopw [10] (fun i wr=>∃ k:Nat,k≤n∧i=.int .i64 k∧Ze (named s) l=Zy (named s) k (l.drop k)∧Hold M none w wr [.cst w.heap.size 66 #[.string nm0,.slice A n c],.ro (SlR 4 A n (Zf l))]) (fun i _=>n - (intOf i).toNat)
 case atStart=>exact ⟨0,by omega,rfl,rfl,K0⟩
 case round=>
  obtain ⟨k,hk,rfl,hf,H⟩:=hrel
  have HF:=hid hf;clear hf
  by_cases hlt:k<n
  ·obtain ⟨⟨nm,ty,nn,key⟩,hc⟩:=X4 HL.out hlt
   obtain ⟨b,o,rfl,hb,c0,c1,c2,c3⟩:=(RdC.ZW (H.ro 1 rfl).now).at_ hc
   have HC:=hid hc;clear hc
   simp only at c0 c1 c2 c3
   cases hp:(nm.toList==s.toList)
   ·have K1:=H.Za #[.string nm,.int .i64 ty,.bool nn,.bool key] 124
    go_wp2_with fail
    go_roundw
    case rel=>exact ⟨k+1,by omega,by go_num,XZ HF.out HC.out hp,K1.drop (Kb _ _)⟩
    case measure=>simp [intOf];omega
   ·have K1:=H.Za #[.string nm,.int .i64 ty,.bool nn,.bool key] 124
    go_wp2_with fail
    go_ret
    exact ⟨by rw [Ww HF.out HC.out hp]<;>rfl,K1.below⟩
  ·go_wp2
   go_ret
   exact ⟨by rw [XY HF.out (by rw [HL.out];omega)]<;>rfl,H.below⟩
end
section
open Go.RowKit
abbrev SpW:=Tmp→Option (Value→World→Prop)
def GW (sp:SpW) (d:Option Tmp) (u:Value) (w:World):Prop:=match d.bind sp with|some V=>V u w|none=>True
def RM (M:Nat→Prop) (w w' :World):Prop:=w.heap.size≤w'.heap.size∧∀ b,b<w.heap.size→¬M b→w'.heap[b]? =w.heap[b]?
theorem RM.refl (M:Nat→Prop) (w:World):RM M w w:=⟨Kg _,fun _ _ _=>rfl⟩
theorem RM.trans {M:Nat→Prop} {a b c:World} (h:RM M a b) (k:RM M b c):RM M a c:=⟨KI h.1 k.1,fun x hx hn=>(k.2 x (La hx h.1) hn).trans (h.2 x hx hn)⟩
theorem RM.below {M:Nat→Prop} {w w' :World} (h:Below w.heap.size w w'):RM M w w' :=⟨h.size,fun b hb _=>h.block b hb⟩
theorem RM.grown {M:Nat→Prop} {w w' :World} {T:Nat} (h:w.grownBy w' (some T)) (hT:M T):RM M w w' :=⟨h.size,fun b hb hn=>h.block b hb (fun e=>by injection e with e;subst e;exact hn hT)⟩
theorem RM.alloc (M:Nat→Prop) (w:World) (o:Obj):RM M w (w.alloc o):=⟨by simp,fun b hb _=>Below.heap_alloc w o b hb⟩
theorem RM.ro {M:Nat→Prop} {w w' :World} (h:RM M w w') {S:World→Prop} (hs:Ro w M S):Ro w' M S:=hs.step h.1 h.2 (fun _ _ h=>h)
def UQ (M:Nat→Prop) (sp:SpW):Prop:=∀ d V,sp d=some V→∀ u w w',RM M w w' →V u w→V u w'
def spL (l:List (Tmp × (Value→World→Prop))):SpW:=fun d=>(l.find? fun p=>p.1==d).map (·.2)
theorem Zm (M:Nat→Prop):UQ M (spL []):=fun d V h=>nomatch h
theorem Zd {M:Nat→Prop} {d:Tmp} {V:Value→World→Prop} {l:List (Tmp × (Value→World→Prop))} (h:∀ u w w',RM M w w' →V u w→V u w') (hl:UQ M (spL l)):UQ M (spL ((d,V)::l)):=fun t V' hV=>by
 unfold spL at hV
 rw [List.find?_cons] at hV
 split at hV
 ·simp only [Option.map_some,Option.some.injEq] at hV
  subst hV
  exact h
 ·exact hl t V' hV
theorem J3 {sp:SpW} {d:Option Tmp} {u:Value} {w:World} (h:d.bind sp=none):GW sp d u w:=by unfold GW;rw [h];trivial
theorem Zo {sp:SpW} {d:Tmp} {V:Value→World→Prop} (h:sp d=some V) {u:Value} {w:World}:GW sp (some d) u w↔V u w:=by unfold GW;simp only [Option.bind_some,h]
def G6 (ops:Array Oper) (S0:Array Bool) (sp:SpW):Bool:=(List.range ops.size).all fun j=>!S0.getD j false||(((ops[j]?).bind (·.dst)).bind sp).isNone
theorem Zcf {ops:Array Oper} {S0:Array Bool} {sp:SpW} (h:G6 ops S0 sp=true) {j:Nat} {o:Oper} (ho:ops[j]? =some o) (hs:S0.getD j false=true) {u:Value} {w:World}:GW sp o.dst u w:=by
 have h1:=Kw.1 h j (Ku.2 (KG.1 ho).1)
 simp only [hs,Bool.not_true,Bool.false_or,ho,Option.bind_some] at h1
 exact J3 (Option.isNone_iff_eq_none.1 h1)
def HC (M:Nat→Prop) (row:Option Nat) (w0 w1:World) (L:List Hp) (w:World):Prop:=Hold M row w0 w L∧RM (Mut M L) w1 w
section
variable {P:Program} {M:Nat→Prop} {row:Option Nat} {w0 w1:World} {L:List Hp} {sp:SpW} {F:Act→Prop} {S0:Array Bool}
theorem Zn {Q:Exit→Act→World→Prop} {a:Act} {w:World} {l:List Oper} (n N:Nat) (L:List Hp) (sp:SpW) {fuel:Nat}
  (hB:ze l.toArray S0 n N=true) (hO:G6 l.toArray S0 sp=true) (hf:fuel=unl n S0+(l.length - n)) (hN:a.tmps.size=N) (hs:UQ (Mut M L) sp) (hC:Hold M row w0 w L)
  (h:Zz P l.toArray (HC M row w0 w L) (GW sp) (RM (Mut M L)) S0 (fun a' =>∀ w',Hold M row w0 w' L→RM (Mut M L) w w' →(∀ j oj,l[j]? =some oj→j<n→GW sp oj.dst (slot a' oj.dst) w')→wpList P l.toArray Q (l.drop n) a' w') 0 (l.take n) a):wpAny P .any l.toArray Q fuel S0 a w:=by
 refine Zmp S0 n N (HC M row w0 w L) (GW sp) (RM (Mut M L)) hB hf hN (fun d u w w' hr hg=>?_) (fun w _=>RM.refl _ w) (fun _ _=>trivial) ⟨hC,RM.refl _ _⟩ (fun j oj hj hs=>Zcf hO (by simpa using hj) hs) (QD (fun a' hF w' hC' hg=>hF w' hC'.1 hC'.2 hg) _ _ _ h)
 unfold GW at hg ⊢
 cases hd:d.bind sp with
 | none=>trivial
 | some V=>
  rw [hd] at hg
  obtain ⟨t,rfl,ht⟩:=Option.bind_eq_some_iff.1 hd
  exact hs t V ht u w w' hr hg
variable {ops:Array Oper} {o:Oper} {rest:List Oper} {a:Act} {k:Nat}
theorem Wu (hS:S0.getD k false=false) (hw:Region.wanted o (yielded ops a.tmps)=true) (hoff:o.dst.bind sp=none) (h:∃ u,(∀ w,Hold M row w0 w L→(execOp a.eval o).run P w=.ok (.value u) w)∧Zz P ops (HC M row w0 w1 L) (GW sp) (RM (Mut M L)) S0 F (k+1) rest (a.put o.dst u)):Zz P ops (HC M row w0 w1 L) (GW sp) (RM (Mut M L)) S0 F k (o::rest) a:=
 let ⟨u,h1,h2⟩:=h
 ZcD (fun w _=>RM.refl _ w) hS hw u (fun w hC _=>h1 w hC.1) (fun _ _ _=>J3 hoff) h2
theorem dv {u:Value} (hS:S0.getD k false=false) (hw:Region.wanted o (yielded ops a.tmps)=true) (hoff:o.dst.bind sp=none) (h1:(∀ w,Hold M row w0 w L→(execOp a.eval o).run P w=.ok (.value u) w)) (h2:Zz P ops (HC M row w0 w1 L) (GW sp) (RM (Mut M L)) S0 F (k+1) rest (a.put o.dst u)):Zz P ops (HC M row w0 w1 L) (GW sp) (RM (Mut M L)) S0 F k (o::rest) a:=Wu hS hw hoff ⟨u,h1,h2⟩
theorem dw_skip (hS:S0.getD k false=false) (hw:Region.wanted o (yielded ops a.tmps)=false) (hoff:o.dst.bind sp=none) (hn:Zz P ops (HC M row w0 w1 L) (GW sp) (RM (Mut M L)) S0 F (k+1) rest (a.put o.dst undef)):Zz P ops (HC M row w0 w1 L) (GW sp) (RM (Mut M L)) S0 F k (o::rest) a:=
 Zj0 hS hw (fun _ _=>J3 hoff) hn
theorem Zgm {f:FuncId} {args:Array Value} (d:Tmp) (V:Value→World→Prop) (hS:S0.getD k false=false) (hw:Region.wanted o (yielded ops a.tmps)=true) (hd:o.dst=some d) (hsp:sp d=some V) (hrun:∀ w,(execOp a.eval o).run P w=.ok (.enter f args) w)
  (hc:∀ w,Hold M row w0 w L→Yv ops (GW sp) o a w→Calls P f args w fun e w' =>∃ u,e=.returned u∧V u w' ∧Hold M row w0 w' L∧RM (Mut M L) w w') (hn:∀ u w,Hold M row w0 w L→V u w→Zz P ops (HC M row w0 w1 L) (GW sp) (RM (Mut M L)) S0 F (k+1) rest (a.put (some d) u)):Zz P ops (HC M row w0 w1 L) (GW sp) (RM (Mut M L)) S0 F k (o::rest) a:=
 ZcC hS hw f args d hd (fun w _ _=>hrun w) (fun w hC hD=>(hc w hC.1 hD).mono fun e' w' ⟨u,h1,h2,h3,h4⟩=>⟨u,h1,(Zo hsp).2 h2,⟨h3,hC.2.trans h4⟩,h4⟩) fun u w hC hu=>hn u w hC.1 ((Zo hsp).1 hu)
theorem Z8 (cs:Array Value) (t:TypeId) (d:Tmp) (V:Value→World→Prop) (mk:Nat→Value) (hS:S0.getD k false=false) (hw:Region.wanted o (yielded ops a.tmps)=true) (hd:o.dst=some d) (hsp:sp d=some V) (hrun:∀ w,(execOp a.eval o).run P w=.ok (.value (mk w.heap.size)) (w.alloc (.cells cs t)))
  (hc:∀ w,Hold M row w0 w L→RM (Mut M L) w1 w→Yv ops (GW sp) o a w→(∀ M',(∀ b,M' b→b<w.heap.size)→Ro (w.alloc (.cells cs t)) M' (fun w' =>w'.heap[w.heap.size]? =some (.cells cs t (0,0))))→V (mk w.heap.size) (w.alloc (.cells cs t))) (hn:∀ g w,Hold M row w0 w L→V (mk g) w→Zz P ops (HC M row w0 w1 L) (GW sp) (RM (Mut M L)) S0 F (k+1) rest (a.put (some d) (mk g))):Zz P ops (HC M row w0 w1 L) (GW sp) (RM (Mut M L)) S0 F k (o::rest) a:=
 ZjZ hS hw (.cells cs t) d hd mk (fun w _ _=>hrun w) (fun w hC hD=>⟨(Zo hsp).2 (hc w hC.1 hC.2 hD fun M' hM' w2 h1 h2=>(h2 w.heap.size (by simp) (fun hm=>Nat.lt_irrefl _ (hM' _ hm))).trans (heap_alloc_new w _)),⟨(hC.1.Za cs t).drop (List.sublist_cons_self _ _),hC.2.trans (RM.alloc _ w _)⟩,RM.alloc _ w _⟩) fun g w hC hg=>hn g w hC.1 ((Zo hsp).1 hg)
theorem ZI {w:World} (h:Yv ops (GW sp) o a w) (j:Nat) {oj:Oper} (hj:ops[j]? =some oj) (he:(o.after.any fun e=>Region.binds .any e&&e.on==j)=true) {d:Tmp} (hd:oj.dst=some d) {V:Value→World→Prop} (hsp:sp d=some V):V (slot a (some d)) w:=by
 obtain ⟨e,hm,hb⟩:=Array.any_eq_true'.1 he
 simp only [Bool.and_eq_true,beq_iff_eq] at hb
 have:=h e hm hb.1 oj (by rw [hb.2];exact hj)
 rw [hd] at this
 exact (Zo hsp).1 this
end
section
variable {M:Nat→Prop} {row:Option Nat} {w0 w1:World} {L:List Hp} {sp:SpW} {F:Act→Prop} {S0:Array Bool} {ops:Array Oper} {o:Oper} {rest:List Oper} {a:Act} {k:Nat} {T:Nat}
theorem U5 (n:Nat) (i:Nat) (hi:L[i]? =some (.tp T)) (d:Tmp) (hS:S0.getD k false=false) (hw:Region.wanted o (yielded ops a.tmps)=true) (hd:o.dst=some d) (hsp:sp d=some (fun u _=>VE n u))
  (hrun:∀ w,(execOp a.eval o).run Tryz.prog w=.ok (.enter 42 #[.pointer (some ⟨T,0,none⟩),.int .i64 n]) w) (hn:∀ r:Nat,r<n→Zz Tryz.prog ops (HC M row w0 w1 L) (GW sp) (RM (Mut M L)) S0 F (k+1) rest (a.put (some d) (.int .i64 r)))
  (hpos:0<n:=by omega) (hmax:n≤9223372036854775807:=by omega):Zz Tryz.prog ops (HC M row w0 w1 L) (GW sp) (RM (Mut M L)) S0 F k (o::rest) a:=by
 refine Zgm d (fun u _=>VE n u) hS hw hd hsp hrun (fun w HC _=>?_) (fun u _ _ ⟨r,hr,hu⟩=>by subst hu;exact hn r hr)
 refine (Wd T n w (HC.tp_ i hi) (by omega) (by omega)).mono ?_
 rintro e w5 ⟨r,rfl,r0,r1,t5,g5⟩
 exact ⟨_,rfl,⟨r.toNat,by omega,by rw [Int.toNat_of_nonneg r0]⟩,Hold.Xk HC i hi g5 t5,RM.grown g5 (.inr ⟨_,Ka hi,rfl⟩)⟩
end
end
section
open Go.RowKit
theorem JA (s:ByteArray) (w:World):
  Calls Tryz.prog 130 #[.string s] w fun e w' =>e=.returned (.bool (Yf s))∧w=w' :=by
 by_cases h1:s.size<1
 ·have HN:=hid (ZiA h1)
  go_enter Tryz.func130,Tryz.ntmps130
  go_wp2
  go_ret
  exact ⟨by rw [HN.out]<;>rfl,rfl⟩
 by_cases h2:12<s.size
 ·have HN:=hid (ZiB h2)
  go_enter Tryz.func130,Tryz.ntmps130
  go_wp2
  go_ret
  exact ⟨by rw [HN.out]<;>rfl,rfl⟩
 have p0:0<s.size:=by omega
 have p1:1≤s.size:=by omega
 have p2:s.size≤12:=by omega
 have hf:=hid (Zhf s p0)
 have hlt:s[0].toNat<256:=s[0].toNat_lt
 by_cases h3:s[0].toNat<97∨122<s[0].toNat
 ·have HN:=hid (Ziz hf.out (by simp [WO];omega))
  rcases h3 with h3|h3
  ·go_enter Tryz.func130,Tryz.ntmps130
   go_wp2
   go_ret
   exact ⟨by rw [HN.out]<;>rfl,rfl⟩
  ·have h97:97≤s[0].toNat:=by omega
   have d1:decide ((s[0].toNat:Int)≤122)=false:=by simp;omega
   have d0:decide ((97:Int)≤(s[0].toNat:Int))=true:=by simp;omega
   go_enter Tryz.func130,Tryz.ntmps130
   go_wp2
   go_ret
   exact ⟨by rw [HN.out]<;>rfl,rfl⟩
 have h97:97≤s[0].toNat:=by omega
 have h122:s[0].toNat≤122:=by omega
 have hl:=hid (show WO s[0].toNat=true by simp [WO];omega)
 clear h3
 have d1:decide ((s[0].toNat:Int)≤122)=true:=by simp;omega
 have d0:decide ((97:Int)≤(s[0].toNat:Int))=true:=by simp;omega
 go_enter Tryz.func130,Tryz.ntmps130
 go_wp2
 go_loop [3] (fun i=>∃ k:Nat,k≤s.size∧i=.int .i64 k∧(s.data.toList.take k).all (fun c=>XQ c.toNat)=true) (fun i=>s.size - (intOf i).toNat)
 case atStart=>exact ⟨0,by omega,rfl,rfl⟩
 case round=>
  obtain ⟨k,hk,rfl,hall⟩:=hrel
  have HA:=hid hall;clear hall
  by_cases hlt:k<s.size
  ·have HK:=hid (byte_at s hlt)
   have hx:s[k].toNat<256:=s[k].toNat_lt
   by_cases hcls:(97≤s[k].toNat∧s[k].toNat≤122)∨(48≤s[k].toNat∧s[k].toNat≤57)∨s[k].toNat=95
   ·have HN:Hid (XQ s[k].toNat=true):=by
     unfold Hid
     rcases hcls with ⟨a,b⟩|⟨a,b⟩|a
     ·exact ZiF a b
     ·exact ZiD a b
     ·rw [a];rfl
    rcases hcls with ⟨a,b⟩|⟨a,b⟩|a
    ·have e0:decide ((97:Int)≤(s[k].toNat:Int))=true:=by simp;omega
     have e1:decide ((s[k].toNat:Int)≤122)=true:=by simp;omega
     go_wp2
     go_round
     case rel=>exact ⟨k+1,by omega,by go_num,Gf HK.out HA.out HN.out⟩
     case measure=>simp [intOf];omega
    ·have c1:s[k].toNat<97:=by omega
     have e0:decide ((97:Int)≤(s[k].toNat:Int))=false:=by simp;omega
     have e2:decide ((48:Int)≤(s[k].toNat:Int))=true:=by simp;omega
     have e3:decide ((s[k].toNat:Int)≤57)=true:=by simp;omega
     go_wp2
     go_round
     case rel=>exact ⟨k+1,by omega,by go_num,Gf HK.out HA.out HN.out⟩
     case measure=>simp [intOf];omega
    ·have c1:s[k].toNat<97:=by omega
     have c2:57<s[k].toNat:=by omega
     have c3:((s[k].toNat:Int) !=95)=false:=by rw [bne_eq_false_iff_eq];omega
     have e0:decide ((97:Int)≤(s[k].toNat:Int))=false:=by simp;omega
     have e2:decide ((48:Int)≤(s[k].toNat:Int))=true:=by simp;omega
     have e3:decide ((s[k].toNat:Int)≤57)=false:=by simp;omega
     clear a
     go_wp2
     go_round
     case rel=>exact ⟨k+1,by omega,by go_num,Gf HK.out HA.out HN.out⟩
     case measure=>simp [intOf];omega
   ·have HN:Hid (Yf s=false):=Ziy HK.out (ZiE (by omega) (by omega) (by omega))
    have c3:((s[k].toNat:Int) !=95)=true:=by rw [bne_iff_ne];omega
    have hx:s[k].toNat<48∨(57<s[k].toNat∧s[k].toNat<97)∨122<s[k].toNat:=by omega
    clear hcls
    rcases hx with h|⟨h,h'⟩|h
    ·have e0:decide ((97:Int)≤(s[k].toNat:Int))=false:=by simp;omega
     have e2:decide ((48:Int)≤(s[k].toNat:Int))=false:=by simp;omega
     go_wp2
     go_ret
     exact ⟨by rw [HN.out]<;>rfl,rfl⟩
    ·have e0:decide ((97:Int)≤(s[k].toNat:Int))=false:=by simp;omega
     have e2:decide ((48:Int)≤(s[k].toNat:Int))=true:=by simp;omega
     have e3:decide ((s[k].toNat:Int)≤57)=false:=by simp;omega
     go_wp2
     go_ret
     exact ⟨by rw [HN.out]<;>rfl,rfl⟩
    ·have e0:decide ((97:Int)≤(s[k].toNat:Int))=true:=by simp;omega
     have e1:decide ((s[k].toNat:Int)≤122)=false:=by simp;omega
     have e2:decide ((48:Int)≤(s[k].toNat:Int))=true:=by simp;omega
     have e3:decide ((s[k].toNat:Int)≤57)=false:=by simp;omega
     go_wp2
     go_ret
     exact ⟨by rw [HN.out]<;>rfl,rfl⟩
  ·obtain rfl:k=s.size:=by omega
   have HN:=hid (ZiC p1 p2 hf.out hl.out (ZeM HA.out))
   go_wp2
   go_ret
   exact ⟨by rw [HN.out]<;>rfl,rfl⟩
theorem ZkR (s:ByteArray) (w:World) (hs:s.size≤maxLen):
  Calls Tryz.prog 130 #[.string s] w fun e w' =>e=.returned (.bool (Yf s))∧w=w' :=JA s w
end
section
open Go.RowKit Go.Maps
structure KeyFam (P:Program) (k:TypeId) (κ:Type) where
 val:κ→Value
 ok:κ→Prop
 key:∀ x,ok x→∃ kl,keyOf P k (val x)=some kl
 inj:∀ x y,val x=val y→x=y
structure SetT (P:Program) (t k e:TypeId):Prop where
 ht:P.underlying t=some (.map k e)
 he:P.underlying e=some .bool
 hz:∀ w:World,(zeroValue e).run P w=.ok (.bool false) w
 law:Keyed P k
def MSet {P:Program} {k:TypeId} {κ:Type} (e:TypeId) (F:KeyFam P k κ) (b n:Nat) (S:κ→Prop) (w:World):Prop:=
 ∃ D:DataW Unit,w.ownsMap P k (plainElem P e) b n D∧∀ x,F.ok x→∀ kl,keyOf P k (F.val x)=some kl→∃ c:Bool,D.atKey kl (.lit (.bool false))=.lit (.bool c)∧(c=true↔S x)
section
variable {P:Program} {t k e:TypeId} {κ:Type} {F:KeyFam P k κ} {b n:Nat} {S:κ→Prop} {w w' :World}
theorem MSet.stay (h:MSet e F b n S w) (hb:w'.heap[b]? =w.heap[b]?):MSet e F b n S w' :=by
 obtain ⟨D,⟨es,clock,h1,h2⟩,h3⟩:=h
 exact ⟨D,⟨es,clock,hb.trans h1,h2⟩,h3⟩
theorem MSet.made (e:TypeId) (F:KeyFam P k κ) (w:World) (h:w.heap[b]? =some (.map #[] 0)):MSet e F b 0 (fun _=>False) w:=by
 have h0:=World.ownsMap_made w P k (plainElem (H:=Unit) P e)
 obtain ⟨es,clock,h1,h2⟩:=h0
 have h3:(w.alloc (.map #[] 0)).heap[w.heap.size]? =some (.map #[] 0):=heap_alloc_new w _
 rw [h3] at h1
 injection h1 with h1
 injection h1 with h4 h5
 subst h4 h5
 refine ⟨.map [],⟨#[],0,h,h2⟩,fun x _ kl _=>⟨false,rfl,by simp⟩⟩
theorem Zjj {H:Type} (he:P.underlying e=some .bool) {v:Value} {z:DataW H × List MemPlace} (h:plainElem P e v=some z):∃ c,v=.bool c∧z=(.lit (.bool c),[]):=by
 unfold plainElem at h
 rw [he] at h
 cases v<;>simp at h
 subst h
 exact ⟨_,rfl,rfl⟩
theorem MSet.look (T:SetT P t k e) (h:MSet e F b n S w) {x:κ} (hx:F.ok x):∃ c:Bool,(Instr.lookup t (.map (some b)) (F.val x) false).run P w=.ok (.bool c) w∧(c=true↔S x):=by
 obtain ⟨D,h1,h2⟩:=h
 obtain ⟨kl,hk⟩:=F.key x hx
 obtain ⟨c,h3,h4⟩:=h2 x hx kl hk
 obtain ⟨v,ps,hrun,hv⟩:=h1.lookup T.law T.ht (T.hz w) (plainElem_bool T.he false) hk
 obtain ⟨c',rfl,h5⟩:=Zjj T.he hv
 rw [h3] at h5
 iterate 3
  injection h5 with h5
 subst h5
 exact ⟨c,hrun,h4⟩
theorem MSet.put (T:SetT P t k e) (h:MSet e F b n S w) {x:κ} (hx:F.ok x) (hn:n<maxLen):∃ w',(Instr.mapUpdate t (.map (some b)) (F.val x) (.bool true)).run P w=.ok () w' ∧MSet e F b (n+1) (fun y=>y=x∨S y) w' ∧w.grownBy w' (some b):=by
 obtain ⟨D,h1,h2⟩:=h
 obtain ⟨kl,hk⟩:=F.key x hx
 obtain ⟨w',hrun,h3,h4⟩:=h1.update T.law T.ht hn hk (plainElem_bool T.he true)
 refine ⟨w',hrun,⟨_,h3,fun y hy kl' hk' =>?_⟩,h4⟩
 by_cases hxy:y=x
 ·subst hxy
  rw [hk] at hk'
  injection hk' with hk'
  subst hk'
  refine ⟨true,?_,by simp⟩
  have hD:IsMap D:=by
   obtain ⟨es,clock,_,_,_,rfl⟩:=h1
   exact ⟨_,rfl⟩
  rw [atKey_put_same hD (T.law.key hk)]
 ·have hne:kl' ≠kl:=fun e=>by
   subst e
   exact hxy (F.inj _ _ (T.law.inj hk' hk))
  obtain ⟨c,h5,h6⟩:=h2 y hy kl' hk'
  exact ⟨c,by rw [atKey_put_other hne];exact h5,by rw [h6];simp [hxy]⟩
end
section
variable {P:Program} {M:Nat→Prop} {row:Option Nat} {w0 w:World} {L:List Hp} {t k e:TypeId} {κ:Type} {F:KeyFam P k κ} {b n:Nat} {S:κ→Prop}
theorem Hold.Jg (K:Hold M row w0 w L) (e:TypeId) (F:KeyFam P k κ):Hold M row w0 (w.alloc (.map #[] 0)) (.ob w.heap.size (MSet e F w.heap.size 0 (fun _=>False))::L):=
 K.Zaq _ _ fun w' hw' =>MSet.made e F w' hw'
theorem JX (K:Hold M row w0 w L) (i:Nat) (hi:L[i]? =some (.ob b (MSet e F b n S))) (T:SetT P t k e) {ops:Array Oper} {rest:List Oper} {o:Oper} {a:Act} {Q:Exit→Act→World→Prop}
  (hg:o.guard=none) (m x:Operand) (hop:o.op=Op.lookup t m x false) (hm:a.eval m=.map (some b)) (y:κ) (hx:a.eval x=F.val y) (hy:F.ok y)
  (h:∀ c:Bool,(c=true↔S y)→wpList P ops Q rest (a.put o.dst (.bool c)) w):wpList P ops Q (o::rest) a w:=by
 refine wpList_plain hg fun K' hK' =>?_
 obtain ⟨c,hrun,hc⟩:=(K.ob_ i hi).look T hy
 unfold Oper.wp
 simp [execOp,hop,hm,hx,hrun,Result.andThen]
 exact hK' _ _ (h c hc)
theorem JY (K:Hold M row w0 w L) (i:Nat) (hi:L[i]? =some (.ob b (MSet e F b n S))) (T:SetT P t k e) {ops:Array Oper} {rest:List Oper} {o:Oper} {a:Act} {Q:Exit→Act→World→Prop}
  (hg:o.guard=none) (m x v:Operand) (hop:o.op=Op.mapUpdate t m x v) (hm:a.eval m=.map (some b)) (y:κ) (hx:a.eval x=F.val y) (hv:a.eval v=.bool true) (hy:F.ok y) (hn:n<maxLen)
  (h:∀ w',Hold M row w0 w' (L.set i (.ob b (MSet e F b (n+1) (fun z=>z=y∨S z))))→wpList P ops Q rest (a.put o.dst undef) w'):wpList P ops Q (o::rest) a w:=by
 refine wpList_plain hg fun K' hK' =>?_
 obtain ⟨w',hrun,h1,h2⟩:=(K.ob_ i hi).put T hy hn
 unfold Oper.wp
 simp [execOp,hop,hm,hx,hv,hrun,Result.andThen]
 exact hK' _ _ (h w' (K.QA i hi h2 fun w2 hw2=>h1.stay hw2))
end
theorem ZhY {P : Program} {k : TypeId} {f0 f1 f2 : Field} (hu : P.underlying k = some (.struct #[f0, f1, f2])) (hk : P.keyType k = true) (hc : P.cellsOf k = 3) (hs : 0 < P.types.size) (n0 : (f0.name != "_") = true) (n1 : (f1.name != "_") = true) (n2 : (f2.name != "_") = true)
  (o0:f0.offset=0) (o1:f1.offset=1) (o2:f2.offset=2) (u0:P.underlying f0.type=some (.int .i64)) (u1:P.underlying f1.type=some (.int .i64)) (u2:P.underlying f2.type=some .string) (c0:P.cellsOf f0.type=1) (c1:P.cellsOf f1.type=1) (c2:P.cellsOf f2.type=1)
  {a b:Int} {s:ByteArray} (wa:(Lit.int .i64 a).wf=true) (wb:(Lit.int .i64 b).wf=true) (hl:s.size≤maxLen):∃ kl,keyOf P k (.agg #[.int .i64 a,.int .i64 b,.string s])=some kl:=by
 obtain ⟨m,hm⟩:∃ m,P.types.size=m+1:=⟨P.types.size - 1,by omega⟩
 simp [keyOf,hu,hk,Value.formed,hc,hm,Program.keyLits,Value.cells,n0,n1,n2,o0,o1,o2,u0,u1,u2,c0,c1,c2,wa,wb,hl]
end
section
open Go.RowKit
def Vl.val (x:Vl):Value:=.agg #[.int .i64 x.k,.int .i64 x.i,.string x.s]
def Vl.cells (x:Vl):List Value:=[.int .i64 x.k,.int .i64 x.i,.string x.s]
def Vl.ok (x:Vl):Prop:=I64 x.k∧I64 x.i∧x.s.size≤maxLen
def ZH (l:List Vl):List Value:=l.flatMap Vl.cells
theorem zU (l:List Vl):(ZH l).length=l.length * 3:=YL _ 3 (fun _=>rfl) l
def VlsIn (A:Option Addr) (n:Nat) (l:List Vl):World→Prop:=SlR 3 A n (ZH l)
theorem VlsIn.len {w:World} {A:Option Addr} {n:Nat} {l:List Vl} (h:VlsIn A n l w):l.length=n:=by
 have:=(show Rd w w.heap.size 3 A n (ZH l) from h).1
 rw [zU] at this
 omega
theorem VlsIn.at_ {w:World} {A:Option Addr} {n:Nat} {l:List Vl} (h:VlsIn A n l w) {k:Nat} {x:Vl} (hx:l[k]? =some x):
  ∃ b o,A=some ⟨b,o,none⟩∧b<w.heap.size∧w.cell? ⟨b,o+k * 3,none⟩=some (.int .i64 x.k)∧w.cell? ⟨b,o+k * 3+1,none⟩=some (.int .i64 x.i)∧w.cell? ⟨b,o+k * 3+2,none⟩=some (.string x.s):=by
 have hk:k<n:=by rw [←h.len];exact (Kc.1 hx).1
 obtain ⟨b,o,e,hb,hc⟩:=(show Rd w w.heap.size 3 A n (ZH l) from h).2 (by omega)
 exact ⟨b,o,e,hb,hc _ _ (flat_get Vl.cells 3 (fun _=>rfl) l k 0 x (by omega) hx),hc _ _ (flat_get Vl.cells 3 (fun _=>rfl) l k 1 x (by omega) hx),hc _ _ (flat_get Vl.cells 3 (fun _=>rfl) l k 2 x (by omega) hx)⟩
theorem G8 (l:List Vl):∀ u∈ZH l,u.oneCell' =true:=fun u hu=>by
 unfold ZH at hu
 rw [List.mem_flatMap] at hu
 obtain ⟨x,_,hx⟩:=hu
 simp only [Vl.cells,List.mem_cons,List.not_mem_nil,or_false] at hx
 rcases hx with rfl|rfl|rfl<;>rfl
structure Rw where
 id:Int
 A:Option Addr
 n:Nat
 c:Nat
 vs:List Vl
def Rw.cells (r:Rw):List Value:=[.int .i64 r.id,.slice r.A r.n r.c]
def Zp (l:List Rw):List Value:=l.flatMap Rw.cells
theorem zq (l:List Rw):(Zp l).length=l.length * 2:=YL _ 2 (fun _=>rfl) l
def Yl (l:List Rw) (w:World):Prop:=∀ r∈l,VlsIn r.A r.n r.vs w
def RwsIn (A:Option Addr) (n:Nat) (l:List Rw) (w:World):Prop:=SlR 2 A n (Zp l) w∧Yl l w
theorem RwsIn.len {w:World} {A:Option Addr} {n:Nat} {l:List Rw} (h:RwsIn A n l w):l.length=n:=by
 have:=(show Rd w w.heap.size 2 A n (Zp l) from h.1).1
 rw [zq] at this
 omega
theorem RwsIn.at_ {w:World} {A:Option Addr} {n:Nat} {l:List Rw} (h:RwsIn A n l w) {k:Nat} {x:Rw} (hx:l[k]? =some x):
  ∃ b o,A=some ⟨b,o,none⟩∧b<w.heap.size∧w.cell? ⟨b,o+k * 2,none⟩=some (.int .i64 x.id)∧w.cell? ⟨b,o+k * 2+1,none⟩=some (.slice x.A x.n x.c)∧VlsIn x.A x.n x.vs w:=by
 have hk:k<n:=by rw [←h.len];exact (Kc.1 hx).1
 obtain ⟨b,o,e,hb,hc⟩:=(show Rd w w.heap.size 2 A n (Zp l) from h.1).2 (by omega)
 exact ⟨b,o,e,hb,hc _ _ (flat_get Rw.cells 2 (fun _=>rfl) l k 0 x (by omega) hx),hc _ _ (flat_get Rw.cells 2 (fun _=>rfl) l k 1 x (by omega) hx),h.2 x (Ka hx)⟩
structure Rw.ok (r:Rw):Prop where
 id:I64 r.id
 nc:r.n≤r.c
 c:r.c≤9223372036854775807
 vs:∀ v∈r.vs,v.ok
abbrev Row:=Int × List Vl
def Rw.row (r:Rw):Row:=(r.id,r.vs)
def Z9 (c:Col) (v:Vl):Int:=if Z7 v.k v.i v.s then (if v.k==0 then (if c.nn then 8 else 0) else if v.k==c.ty then 0 else 5) else 17
def YK:List Col→List Vl→Int
 | c::cs,v::vs=>if Z9 c v=0 then YK cs vs else Z9 c v
 | _,_=>0
def Zt (cs:List Col) (vs:List Vl):Int:=if vs.length=cs.length then YK cs vs else 17
theorem Zhm {cs:List Col} {vs:List Vl} {k:Nat} {c:Col} {v:Vl} (hc:cs[k]? =some c) (hv:vs[k]? =some v) (h:Z9 c v=0):YK (cs.drop k) (vs.drop k)=YK (cs.drop (k+1)) (vs.drop (k+1)):=by
 rw [Yr hc,Yr hv,YK,Lg h]
theorem Zhk {cs:List Col} {vs:List Vl} {k:Nat} {c:Col} {v:Vl} (hc:cs[k]? =some c) (hv:vs[k]? =some v) (h:Z9 c v≠0):YK (cs.drop k) (vs.drop k)=Z9 c v:=by
 rw [Yr hc,Yr hv,YK,Lf h]
theorem Zhl {cs:List Col} {vs:List Vl} {k:Nat} (h:cs.length≤k):YK (cs.drop k) (vs.drop k)=0:=by
 rw [Ld h]
 cases vs.drop k<;>rfl
def ZV (k:Int):List Vl→List (List Vl)→Bool
 | _,[]=>false
 | seen,r::rs=>if 0≤k then match r[k.toNat]? with
  | some v=>if v∈seen then true else ZV k (v::seen) rs
  | none=>ZV k seen rs
  else ZV k seen rs
def YH (cs:List Col) (rs:List Row):Bool:=ZV (Ze Col.key cs) [] (rs.map (·.2))
theorem Gy {k:Int} (h:k<0):∀ (seen:List Vl) (rs:List (List Vl)),ZV k seen rs=false
 | _,[]=>rfl
 | seen,r::rs=>by rw [ZV,Lf (by omega)];exact Gy h seen rs
def okR (cs:List Col) (next:Int):Int→List Row→Bool
 | _,[]=>true
 | last,r::rs=>decide (last<r.1)&&decide (r.1<next)&&decide (Zt cs r.2=0)&&okR cs next r.1 rs
def Y5 (l:List Col) (k:Nat) (c:Col):Bool:=Yf c.name&&(Ze (named c.name) l==(k:Int))&&decide (1≤c.ty)&&decide (c.ty≤3)&&(!c.key||c.nn)
def Yx (nm:ByteArray) (l:List Col):Bool:=Yf nm&&decide (1≤l.length)&&decide (l.length≤6)&&YC (Y5 l) 0 l&&decide ((l.filter Col.key).length≤1)
theorem ZiG (c:Col):named c.name c=true:=by simp [named]
theorem Zk0 {nm:ByteArray} {l:List Col} (h:YC (Y5 l) 0 l=false):Yx nm l=false:=by simp [Yx,h]
theorem Zk1 {nm:ByteArray} {l:List Col} {n:Nat} (hv:Yf nm=true) (hl:l.length=n) (h1:1≤n) (h2:n≤6) (h:YC (Y5 l) 0 l=true):Yx nm l=decide (((l.filter Col.key).length:Int)≤1):=by
 simp [Yx,hv,hl,h1,h2,h];omega
theorem Zh7 {l:List Col} {n:Nat} (hl:l.length=n):((l.take n).filter Col.key).length=(l.filter Col.key).length:=by rw [Kh (by omega)]
theorem GX (l:List Col) (k:Nat):((l.take k).filter Col.key).length≤k:=KI (List.length_filter_le _ _) (List.length_take_le _ _)
theorem Xw (s:ByteArray) (w:World) (hs:s.size≤maxLen):Calls Tryz.prog 130 #[.string s] w fun e w' =>e=.returned (.bool (Yf s))∧Below w.heap.size w w' :=
 (ZkR s w hs).mono fun e w' ⟨h1,h2⟩=>⟨h1,by subst h2;exact Below.refl _ _⟩
theorem ZkH (M:Nat→Prop) (w:World) (hM:∀ b,M b→b<w.heap.size) (nm:ByteArray) (A:Option Addr) (n c:Nat) (l:List Col) (hD:Ro w M (SlR 4 A n (Zf l))) (hn:n≤9223372036854775807) (hs:nm.size≤maxLen) (hok:∀ x∈l,x.name.size≤maxLen):
  Calls Tryz.prog 98 #[.agg #[.string nm,.slice A n c]] w fun e w' =>e=.returned (.bool (Yx nm l))∧Below w.heap.size w w' :=by
 have HL:=hid (RdC.ZW hD.now).len
 have K0:=((Hold.start M w hM).add (hD.less (by simp [Mut]))).Za #[.string nm,.slice A n c] 66
 cases hv:Yf nm
 ·have HN:Hid (Yx nm l=false):=by unfold Hid;simp [Yx,hv]
  have HV:=hid hv;clear hv
  go_enter Tryz.func98,Tryz.ntmps98
  go_wp2_with fail
  refine (Xw nm _ hs).mono ?_
  rintro e w1 ⟨rfl,b1⟩
  have K1:=Hold.call (K0) b1
  clear b1
  try simp only [World.size_alloc] at K1
  have F1:=K1.facts
  simp only [zg] at F1
  rw [HV.out]
  go_wp2_with fail
  go_ret
  exact ⟨by rw [HN.out]<;>rfl,K1.below⟩
 have HV:=hid hv;clear hv
 by_cases h1:n<1
 ·have HN:Hid (Yx nm l=false):=by unfold Hid;have:=HL.out;simp [Yx];intros;omega
  go_enter Tryz.func98,Tryz.ntmps98
  go_wp2_with fail
  refine (Xw nm _ hs).mono ?_
  rintro e w1 ⟨rfl,b1⟩
  have K1:=Hold.call (K0) b1
  clear b1
  try simp only [World.size_alloc] at K1
  have F1:=K1.facts
  simp only [zg] at F1
  rw [HV.out]
  go_wp2_with fail
  go_ret
  exact ⟨by rw [HN.out]<;>rfl,K1.below⟩
 by_cases h6:6<n
 ·have HN:Hid (Yx nm l=false):=by unfold Hid;have:=HL.out;simp [Yx];intros;omega
  go_enter Tryz.func98,Tryz.ntmps98
  go_wp2_with fail
  refine (Xw nm _ hs).mono ?_
  rintro e w1 ⟨rfl,b1⟩
  have K1:=Hold.call (K0) b1
  clear b1
  try simp only [World.size_alloc] at K1
  have F1:=K1.facts
  simp only [zg] at F1
  rw [HV.out]
  go_wp2_with fail
  go_ret
  exact ⟨by rw [HN.out]<;>rfl,K1.below⟩
 have n1:1≤n:=by omega
 have n6:n≤6:=by omega
 go_enter Tryz.func98,Tryz.ntmps98
 go_wp2_with fail
 refine (Xw nm _ hs).mono ?_
 rintro e w1 ⟨rfl,b1⟩
 have K1:=Hold.call (K0) b1
 clear b1
 try simp only [World.size_alloc] at K1
 have F1:=K1.facts
 simp only [zg] at F1
 rw [HV.out]
 go_wp2_with fail
 go_loopw [3,25] (fun q i wr=>∃ k:Nat,k≤n∧i=.int .i64 k∧q=.int .i64 ((l.take k).filter Col.key).length∧YC (Y5 l) 0 l=YC (Y5 l) k (l.drop k)∧Hold M none w wr [.cst w.heap.size 66 #[.string nm,.slice A n c],.ro (SlR 4 A n (Zf l))]) (fun _ i _=>n - (intOf i).toNat)
 case atStart=>exact ⟨0,by omega,rfl,rfl,rfl,K1⟩
 case round=>
  obtain ⟨k,hk,rfl,rfl,hf,H⟩:=hrel
  have HF:=hid hf;clear hf F1
  by_cases hlt:k<n
  ·obtain ⟨x,hc⟩:=X4 HL.out hlt
   have hx:x.name.size≤maxLen:=hok x (Ka hc)
   have hfl:=Zbm (ZiG x) hc
   have HQ:=hid (Zg7 Col.key hc)
   have hql:=GX l k
   have hql1:=GX l (k+1)
   obtain ⟨b,o,rfl,hb,c0,c1,c2,c3⟩:=(RdC.ZW (H.ro 1 rfl).now).at_ hc
   have HOk:Hid (Y5 l k x=(Yf x.name&&(Ze (named x.name) l==(k:Int))&&decide (1≤x.ty)&&decide (x.ty≤3)&&(!x.key||x.nn))):=rfl
   have HBad:Hid (Y5 l k x=false→Yx nm l=false):=fun h=>Zk0 (ZiT HF.out hc h)
   have HGood:Hid (Y5 l k x=true→YC (Y5 l) 0 l=YC (Y5 l) (k+1) (l.drop (k+1))):=fun h=>ZiV HF.out hc h
   obtain ⟨nx,ty,nn,key⟩:=x
   simp only at c0 c1 c2 c3 hx hfl
   have HX:=hid (Q5 M)
   obtain ⟨f,hfe⟩:∃ f,f=Ze (named nx) l:=⟨_,rfl⟩
   rw [←hfe] at hfl
   have HFE:=hid hfe;clear hfe
   obtain ⟨q,hqe⟩:∃ q,q=((l.take k).filter Col.key).length:=⟨_,rfl⟩
   rw [←hqe] at hql
   have HQE:=hid hqe
   rw [←hqe]
   clear hqe hc
   simp only at HOk HQ
   rw [←HFE.out] at HOk
   cases hvx:Yf nx
   ·have HC:Hid (Y5 l k ⟨nx,ty,nn,key⟩=false):=by unfold Hid;rw [HOk.out,hvx];rfl
    have HVX:=hid hvx;clear hvx
    have KB:=H.Za #[.string nx,.int .i64 ty,.bool nn,.bool key] 124
    go_wp2_with fail
    refine (Xw nx _ hx).mono ?_
    rintro e w2 ⟨rfl,b2⟩
    have K2:=Hold.call (KB) b2
    clear b2
    try simp only [World.size_alloc] at K2
    have F2:=K2.facts
    simp only [zg] at F2
    rw [HVX.out]
    go_wp2_with fail
    go_ret
    exact ⟨by rw [HBad.out HC.out]<;>rfl,K2.below⟩
   have HVX:=hid hvx;clear hvx
   by_cases hlo:ty<1
   ·have HC:Hid (Y5 l k ⟨nx,ty,nn,key⟩=false):=by unfold Hid;rw [HOk.out,show decide (1≤ty)=false from by simp;omega];simp
    have KB:=H.Za #[.string nx,.int .i64 ty,.bool nn,.bool key] 124
    go_wp2_with fail
    refine (Xw nx _ hx).mono ?_
    rintro e w2 ⟨rfl,b2⟩
    have K2:=Hold.call (KB) b2
    clear b2
    try simp only [World.size_alloc] at K2
    have F2:=K2.facts
    simp only [zg] at F2
    rw [HVX.out]
    go_wp2_with fail
    go_ret
    exact ⟨by rw [HBad.out HC.out]<;>rfl,K2.below⟩
   have hlo1:1≤ty:=by omega
   by_cases hhi:3<ty
   ·have HC:Hid (Y5 l k ⟨nx,ty,nn,key⟩=false):=by unfold Hid;rw [HOk.out,show decide (ty≤3)=false from by simp;omega];simp
    have KB:=H.Za #[.string nx,.int .i64 ty,.bool nn,.bool key] 124
    go_wp2_with fail
    refine (Xw nx _ hx).mono ?_
    rintro e w2 ⟨rfl,b2⟩
    have K2:=Hold.call (KB) b2
    clear b2
    try simp only [World.size_alloc] at K2
    have F2:=K2.facts
    simp only [zg] at F2
    rw [HVX.out]
    go_wp2_with fail
    go_ret
    exact ⟨by rw [HBad.out HC.out]<;>rfl,K2.below⟩
   have hhi3:ty≤3:=by omega
   by_cases hkn:key=false∨nn=true
   rotate_left
   ·obtain ⟨rfl,rfl⟩:key=true∧nn=false:=by cases key<;>cases nn<;>simp at hkn ⊢
    have HC:Hid (Y5 l k ⟨nx,ty,false,true⟩=false):=by unfold Hid;rw [HOk.out];simp
    clear hkn
    have KB:=H.Za #[.string nx,.int .i64 ty,.bool false,.bool true] 124
    go_wp2_with fail
    refine (Xw nx _ hx).mono ?_
    rintro e w2 ⟨rfl,b2⟩
    have K2:=Hold.call (KB) b2
    clear b2
    try simp only [World.size_alloc] at K2
    have F2:=K2.facts
    simp only [zg] at F2
    rw [HVX.out]
    go_wp2_with fail
    go_ret
    exact ⟨by rw [HBad.out HC.out]<;>rfl,K2.below⟩
   by_cases hfk:f<k
   ·have HC:Hid (Y5 l k ⟨nx,ty,nn,key⟩=false):=by unfold Hid;rw [HOk.out,show (f==(k:Int))=false from by rw [beq_eq_false_iff_ne];omega];simp
    have hne:(f !=(k:Int))=true:=by rw [bne_iff_ne];omega
    rcases hkn with rfl|rfl
    ·have KB:=H.Za #[.string nx,.int .i64 ty,.bool nn,.bool false] 124
     go_wp2_with fail
     refine (Xw nx _ hx).mono ?_
     rintro e w2 ⟨rfl,b2⟩
     have K2:=Hold.call (KB) b2
     clear b2
     try simp only [World.size_alloc] at K2
     have F2:=K2.facts
     simp only [zg] at F2
     rw [HVX.out]
     go_wp2_with fail
     refine (Vt (Mut M _) _ K2.Zb nm _ n c l nx (K2.ro 2 rfl) hn).mono ?_
     rintro e w3 ⟨rfl,b3⟩
     have K3:=Hold.call K2 b3
     clear b3
     rw [←HFE.out]
     have F3:=K3.facts
     simp only [zg] at F3
     go_wp2_with fail
     go_ret
     exact ⟨by rw [HBad.out HC.out]<;>rfl,K3.below⟩
    ·cases key
     ·have KB:=H.Za #[.string nx,.int .i64 ty,.bool true,.bool false] 124
      go_wp2_with fail
      refine (Xw nx _ hx).mono ?_
      rintro e w2 ⟨rfl,b2⟩
      have K2:=Hold.call (KB) b2
      clear b2
      try simp only [World.size_alloc] at K2
      have F2:=K2.facts
      simp only [zg] at F2
      rw [HVX.out]
      go_wp2_with fail
      refine (Vt (Mut M _) _ K2.Zb nm _ n c l nx (K2.ro 2 rfl) hn).mono ?_
      rintro e w3 ⟨rfl,b3⟩
      have K3:=Hold.call K2 b3
      clear b3
      rw [←HFE.out]
      have F3:=K3.facts
      simp only [zg] at F3
      go_wp2_with fail
      go_ret
      exact ⟨by rw [HBad.out HC.out]<;>rfl,K3.below⟩
     ·have KB:=H.Za #[.string nx,.int .i64 ty,.bool true,.bool true] 124
      go_wp2_with fail
      refine (Xw nx _ hx).mono ?_
      rintro e w2 ⟨rfl,b2⟩
      have K2:=Hold.call (KB) b2
      clear b2
      try simp only [World.size_alloc] at K2
      have F2:=K2.facts
      simp only [zg] at F2
      rw [HVX.out]
      go_wp2_with fail
      refine (Vt (Mut M _) _ K2.Zb nm _ n c l nx (K2.ro 2 rfl) hn).mono ?_
      rintro e w3 ⟨rfl,b3⟩
      have K3:=Hold.call K2 b3
      clear b3
      rw [←HFE.out]
      have F3:=K3.facts
      simp only [zg] at F3
      go_wp2_with fail
      go_ret
      exact ⟨by rw [HBad.out HC.out]<;>rfl,K3.below⟩
   have hfe:f=k:=by omega
   have hne:(f !=(k:Int))=false:=by rw [bne_eq_false_iff_eq];omega
   have HFK:=hid hfe;clear hfe
   have HC:Hid (Y5 l k ⟨nx,ty,nn,key⟩=true):=by unfold Hid;rw [HOk.out,HVX.out,HFK.out,show decide (1≤ty)=true from by simp;omega,show decide (ty≤3)=true from by simp;omega];rcases hkn with rfl|rfl<;>simp
   rcases hkn with rfl|rfl
   ·have HQ0:Hid (((l.take (k+1)).filter Col.key).length=q):=by unfold Hid;rw [HQ.out,HQE.out];rfl
    have KB:=H.Za #[.string nx,.int .i64 ty,.bool nn,.bool false] 124
    go_wp2_with fail
    refine (Xw nx _ hx).mono ?_
    rintro e w2 ⟨rfl,b2⟩
    have K2:=Hold.call (KB) b2
    clear b2
    try simp only [World.size_alloc] at K2
    have F2:=K2.facts
    simp only [zg] at F2
    rw [HVX.out]
    go_wp2_with fail
    refine (Vt (Mut M _) _ K2.Zb nm _ n c l nx (K2.ro 2 rfl) hn).mono ?_
    rintro e w3 ⟨rfl,b3⟩
    have K3:=Hold.call K2 b3
    clear b3
    rw [←HFE.out]
    have F3:=K3.facts
    simp only [zg] at F3
    go_wp2_with fail
    go_roundw
    case rel=>exact ⟨k+1,by omega,by go_num,by rw [HQ0.out],HGood.out HC.out,K3.drop (Kb _ _)⟩
    case measure=>simp [intOf];omega
   ·cases key
    ·have HQ0:Hid (((l.take (k+1)).filter Col.key).length=q):=by unfold Hid;rw [HQ.out,HQE.out];rfl
     have KB:=H.Za #[.string nx,.int .i64 ty,.bool true,.bool false] 124
     go_wp2_with fail
     refine (Xw nx _ hx).mono ?_
     rintro e w2 ⟨rfl,b2⟩
     have K2:=Hold.call (KB) b2
     clear b2
     try simp only [World.size_alloc] at K2
     have F2:=K2.facts
     simp only [zg] at F2
     rw [HVX.out]
     go_wp2_with fail
     refine (Vt (Mut M _) _ K2.Zb nm _ n c l nx (K2.ro 2 rfl) hn).mono ?_
     rintro e w3 ⟨rfl,b3⟩
     have K3:=Hold.call K2 b3
     clear b3
     rw [←HFE.out]
     have F3:=K3.facts
     simp only [zg] at F3
     go_wp2_with fail
     go_roundw
     case rel=>exact ⟨k+1,by omega,by go_num,by rw [HQ0.out],HGood.out HC.out,K3.drop (Kb _ _)⟩
     case measure=>simp [intOf];omega
    ·have HQ0:Hid (((l.take (k+1)).filter Col.key).length=q+1):=by unfold Hid;rw [HQ.out,HQE.out];rfl
     have KB:=H.Za #[.string nx,.int .i64 ty,.bool true,.bool true] 124
     go_wp2_with fail
     refine (Xw nx _ hx).mono ?_
     rintro e w2 ⟨rfl,b2⟩
     have K2:=Hold.call (KB) b2
     clear b2
     try simp only [World.size_alloc] at K2
     have F2:=K2.facts
     simp only [zg] at F2
     rw [HVX.out]
     go_wp2_with fail
     refine (Vt (Mut M _) _ K2.Zb nm _ n c l nx (K2.ro 2 rfl) hn).mono ?_
     rintro e w3 ⟨rfl,b3⟩
     have K3:=Hold.call K2 b3
     clear b3
     rw [←HFE.out]
     have F3:=K3.facts
     simp only [zg] at F3
     go_wp2_with fail
     go_roundw
     case rel=>exact ⟨k+1,by omega,by go_num,by rw [HQ0.out];go_num,HGood.out HC.out,K3.drop (Kb _ _)⟩
     case measure=>simp [intOf];omega
  ·obtain rfl:k=n:=by omega
   have HN:=hid (Zk1 HV.out HL.out n1 n6 (ZiU HF.out (by rw [HL.out];omega)))
   have HK:=hid (Zh7 HL.out)
   have hql:=GX l k
   obtain ⟨q,hqe⟩:∃ q,q=((l.take k).filter Col.key).length:=⟨_,rfl⟩
   rw [←hqe] at hql HK
   rw [←hqe]
   clear hqe
   go_wp2_with fail
   go_ret
   exact ⟨by rw [HN.out,←HK.out]<;>rfl,H.below⟩
end
section
open Go.RowKit
section
variable {P:Program} {M:Nat→Prop} {row:Option Nat} {w0 w1:World} {L:List Hp} {sp:SpW} {F:Act→Prop} {S0:Array Bool}
variable {ops:Array Oper} {o:Oper} {rest:List Oper} {a:Act} {k:Nat}
theorem Zi {f:FuncId} {args:Array Value} (d:Tmp) (V:Value→World→Prop) (hS:S0.getD k false=false) (hw:Region.wanted o (yielded ops a.tmps)=true) (hd:o.dst=some d) (hsp:sp d=some V) (hrun:∀ w,(execOp a.eval o).run P w=.ok (.enter f args) w)
  (hc:∀ w,Hold M row w0 w L→RM (Mut M L) w1 w→Yv ops (GW sp) o a w→Calls P f args w fun e w' =>∃ u,e=.returned u∧V u w' ∧Hold M row w0 w' L∧RM (Mut M L) w w') (hn:∀ u w,Hold M row w0 w L→V u w→Zz P ops (HC M row w0 w1 L) (GW sp) (RM (Mut M L)) S0 F (k+1) rest (a.put (some d) u)):Zz P ops (HC M row w0 w1 L) (GW sp) (RM (Mut M L)) S0 F k (o::rest) a:=
 ZcC hS hw f args d hd (fun w _ _=>hrun w) (fun w hC hD=>(hc w hC.1 hC.2 hD).mono fun e' w' ⟨u,h1,h2,h3,h4⟩=>⟨u,h1,(Zo hsp).2 h2,⟨h3,hC.2.trans h4⟩,h4⟩) fun u w hC hu=>hn u w hC.1 ((Zo hsp).1 hu)
end
theorem Zcl {M:Nat→Prop} {b0:Nat} (hM:∀ b,M b→b<b0) {w w' :World} (hr:RM M w w') {e:TypeId} {size n:Nat} {v:Value} {xs:List Value} (h:w.ownsRow b0 e size v n xs):w'.ownsRow b0 e size v n xs:=by
 refine ⟨h.1,?_⟩
 rcases h.2 with hn|⟨g,cap,cur,hv,hg,hh,rest⟩
 ·exact .inl hn
 ·exact .inr ⟨g,cap,cur,hv,hg,(hr.2 g (Blk.lt (t:=e) (cs:=cur) hh) (fun hm=>by have:=hM g hm;omega)).trans hh,rest⟩
theorem Zjb {w:World} {b0 b1:Nat} (h01:b0≤b1) {e:TypeId} {size n:Nat} {v:Value} {xs:List Value} (h:w.ownsRow b1 e size v n xs):w.ownsRow b0 e size v n xs:=by
 refine ⟨h.1,?_⟩
 rcases h.2 with hn|⟨g,cap,cur,hv,hg,rest⟩
 ·exact .inl hn
 ·exact .inr ⟨g,cap,cur,hv,KI h01 hg,rest⟩
theorem Hold.ZeK {M:Nat→Prop} {row:Option Nat} {w0 w1 w:World} {L:List Hp} (K1:Hold M row w0 w1 L) (K:Hold M row w0 w L) (hr:RM (Mut M L) w1 w) {e:TypeId} {size n:Nat} {v:Value} {xs:List Value} (ho:w.ownsRow w1.heap.size e size v n xs):
  Hold M row w0 w (.own e size v n xs::L):=by
 have hbase:∀ b,v.ownBlock=some b→w1.heap.size≤b∧b<w.heap.size:=fun b hf=>ho.lt b hf
 have ee:∀ b,b<w1.heap.size→Mut M (.own e size v n xs::L) b→Mut M L b:=fun b hl hb=>by
  rcases ZL.1 hb with hf|hm
  ·have:=(hbase b hf).1;omega
  ·exact hm
 refine ⟨K.grow,K.low,fun k hk=>?_,fun k hk b hf=>?_,⟨fun b hf k hk he=>?_,K.sep⟩⟩
 ·rcases Kv.1 hk with rfl|hk
  ·exact Zjb K1.grow.size ho
  ·have h1:=K1.sat k hk
   have h2:=K.sat k hk
   cases k with
   | blk g' t' cs' =>exact h2
   | own e s v n' xs=>exact h2
   | tp T=>
    refine ⟨h2.1,fun b hb' =>?_⟩
    have hT:T<w1.heap.size:=(K1.fresh _ hk T rfl).2
    rcases ZL.1 hb' with hf|hm'
    ·have:=(hbase b hf).1
     omega
    ·exact h2.2 b hm'
   | ro S=>exact Ro.step h1 hr.1 hr.2 ee
   | cst g' t' cs' =>exact Ro.step h1 hr.1 hr.2 ee
   | ob g' F' =>exact h2
 ·rcases Kv.1 hk with rfl|hk
  ·have:=hbase b hf
   exact ⟨.inl (KI K1.grow.size this.1),this.2⟩
  ·exact K.fresh k hk b hf
 ·have h1:=(hbase b hf).1
  have h2:=(K1.fresh k hk b he).2
  omega
def IsV (x:Value) (u:Value) (_:World):Prop:=u=x
theorem Yu {M:Nat→Prop} {x:Value} (u:Value) (w w' :World) (_:RM M w w') (h:IsV x u w):IsV x u w' :=h
end
section
open Go.RowKit Go.Sort
def Gr (w w' :World):Prop:=∃ (q:Nat) (os:Array Obj),w' =grow (w.drewN q) os
end
end Go.Proofs.YtnmnkbnmollpmaaGreatDoor

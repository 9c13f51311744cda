import Derived.Test.YtnbbllkbefagmaaGreatDoorRkCtsSaidMA
import Derived.Test.YtnbbllkbefagmaaGreatDoorRkCtsSaidMC
import Derived.Maps.AppendAt
import Derived.OwnWalk
import Derived.Laws.MakeOwn
import Derived.WalkSpells
import Derived.StillTailTactics
namespace Go.Proofs.YtnbbllkbefagmaaGreatDoor
open Go.RowKit
set_option linter.unusedVariables false
theorem flat_get {α β:Type} (f:α→List β) (n:Nat) (hf:∀ a,(f a).length=n):∀ (l:List α) (k j:Nat) (a:α),j<n→l[k]? =some a→(l.flatMap f)[k * n+j]? =(f a)[j]?
 | [],k,j,a,_,h=>by simp at h
 | x::l,0,j,a,hj,h=>by
  simp only [List.getElem?_cons_zero,Option.some.injEq] at h
  subst h
  simp only [List.flatMap_cons,Nat.zero_mul,Nat.zero_add]
  rw [List.getElem?_append_left (by rw [hf];exact hj)]
 | x::l,k+1,j,a,hj,h=>by
  simp only [List.getElem?_cons_succ] at h
  simp only [List.flatMap_cons]
  rw [List.getElem?_append_right (by rw [hf,Nat.succ_mul];omega),hf,show (k+1) * n+j - n=k * n+j by rw [Nat.succ_mul];omega]
  exact flat_get f n hf l k j a hj h
theorem Yu {α β:Type} (f:α→List β) (n:Nat) (hf:∀ a,(f a).length=n) (l:List α):(l.flatMap f).length=l.length * n:=by
 induction l with
 | nil=>simp
 | cons x l ih=>simp [List.flatMap_cons,hf,ih,Nat.succ_mul];omega
theorem ZgP {α β:Type} (f:α→List β) (n:Nat) (hn:0<n) (hf:∀ a,(f a).length=n) (l:List α) (j:Nat) (u:β) (h:(l.flatMap f)[j]? =some u):
  ∃ a,l[j / n]? =some a∧(f a)[j % n]? =some u:=by
 have hl:=(List.getElem?_eq_some_iff.1 h).1
 rw [Yu f n hf] at hl
 have h1:j / n<l.length:=by rwa [Nat.div_lt_iff_lt_mul hn]
 have h2:l[j / n]? =some (l[j / n]):=List.getElem?_eq_getElem h1
 have h3:=flat_get f n hf l (j / n) (j % n) _ (Nat.mod_lt _ hn) h2
 rw [show j / n * n+j % n=j by rw [Nat.mul_comm];exact Nat.div_add_mod j n] at h3
 exact ⟨_,h2,by rw [←h3];exact h⟩
structure Col where
 name:ByteArray
 ty:Int
 nn:Bool
 key:Bool
deriving DecidableEq
def Col.cells (c:Col):List Value:=[.string c.name,.int .i64 c.ty,.bool c.nn,.bool c.key]
def Zd (l:List Col):List Value:=l.flatMap Col.cells
theorem Zhe (l:List Col):(Zd l).length=l.length * 4:=Yu _ 4 (fun _=>rfl) l
theorem ZgM {l:List Col} {k:Nat} {c:Col} (h:l[k]? =some c):(Zd l)[k * 4]? =some (.string c.name)∧(Zd l)[k * 4+1]? =some (.int .i64 c.ty)∧(Zd l)[k * 4+2]? =some (.bool c.nn)∧(Zd l)[k * 4+3]? =some (.bool c.key):=
 ⟨flat_get Col.cells 4 (fun _=>rfl) l k 0 c (by omega) h,flat_get Col.cells 4 (fun _=>rfl) l k 1 c (by omega) h,flat_get Col.cells 4 (fun _=>rfl) l k 2 c (by omega) h,flat_get Col.cells 4 (fun _=>rfl) l k 3 c (by omega) h⟩
def RdC (w:World) (B:Nat) (A:Option Addr) (n:Nat) (l:List Col):Prop:=Rd w B 4 A n (Zd l)
theorem RdC.len {w:World} {B n:Nat} {A:Option Addr} {l:List Col} (h:RdC w B A n l):l.length=n:=by
 have:=h.1
 rw [Zhe] at this
 omega
theorem RdC.at_ {w:World} {B n:Nat} {A:Option Addr} {l:List Col} (h:RdC w B A n l) {k:Nat} {c:Col} (hc:l[k]? =some c):
  ∃ b o,A=some ⟨b,o,none⟩∧b<B∧w.cell? ⟨b,o+k * 4,none⟩=some (.string c.name)∧w.cell? ⟨b,o+k * 4+1,none⟩=some (.int .i64 c.ty)∧w.cell? ⟨b,o+k * 4+2,none⟩=some (.bool c.nn)∧w.cell? ⟨b,o+k * 4+3,none⟩=some (.bool c.key):=by
 have hk:k<n:=by rw [←h.len];exact (List.getElem?_eq_some_iff.1 hc).1
 obtain ⟨b,o,e,hb,hcell⟩:=h.2 (by omega)
 obtain ⟨h0,h1,h2,h3⟩:=ZgM hc
 exact ⟨b,o,e,hb,hcell _ _ h0,hcell _ _ h1,hcell _ _ h2,hcell _ _ h3⟩
end Go.Proofs.YtnbbllkbefagmaaGreatDoor
namespace Go.Proofs.YtnbbllkbefagmaaGreatDoor
open Go.RowKit
set_option linter.unusedVariables false
def SlR (size:Nat) (A:Option Addr) (n:Nat) (xs:List Value) (w:World):Prop:=Rd w w.heap.size size A n xs
section
variable {w w' :World} {M:Nat→Prop} {B size n:Nat} {A:Option Addr} {xs:List Value}
theorem Rd.ro (h:Rd w B size A n xs) (hB:B≤w.heap.size) (hM:∀ b,b<B→¬M b):Ro w M (SlR size A n xs):=fun w2 h1 h2=>
 (h.keep fun p hp=>World.cell?_of_block (w:=w) (h2 p.block (by omega) (hM _ hp))).more (by omega)
theorem ZJ {g:Nat} {t:TypeId} {cs:Array Value} (h:Ro w M (fun w=>w.heap[g]? =some (.cells cs t (0,0)))) (hl:cs.toList.length=n * size):Ro w M (SlR size (some ⟨g,0,none⟩) n cs.toList):=
 h.imp fun w2 h2=>⟨hl,fun _=>⟨g,0,rfl,Blk.lt (t:=t) (cs:=cs) h2,fun j u hu=>by
  rw [cell_of_row w2 g (0+j) cs t (0,0) h2,Nat.zero_add];simpa using hu⟩⟩
theorem Qz:Ro w M (SlR size none 0 []):=fun _ _ _=>Rd.none_
theorem Hold.Zhw {row:Option Nat} {w0:World} {L:List Hp} (h:Hold M row w0 w L) {k' :Hp} (hk' :k'.foot=none) (hs:k'.sat w0.heap.size w (Mut M (k' ::L))):Hold M row w0 w (k' ::L):=by
 have e:∀ b,Mut M (k' ::L) b→Mut M L b:=fun b hb=>by
  rcases ZG.1 hb with hf|hm
  ·rw [hk'] at hf;cases hf
  ·exact hm
 refine ⟨h.grow,h.low,fun k hk=>?_,fun k hk b hf=>?_,⟨(fun b hf=>by rw [hk'] at hf;cases hf),h.sep⟩⟩
 ·rcases List.mem_cons.1 hk with rfl|hk
  ·exact hs
  ·exact Hp.YZ (k:=k) (h.sat k hk) (Nat.le_refl _) (fun _ _ _=>rfl) (fun b _ hb=>e b hb) (fun _ _=>rfl) (fun _ _ _ _=>rfl)
 ·rcases List.mem_cons.1 hk with rfl|hk
  ·rw [hk'] at hf;cases hf
  ·exact h.fresh k hk b hf
theorem XF {k' :Hp} (hk' :k'.foot=none) {L:List Hp}:∀ b,Mut M (k' ::L) b→Mut M L b:=fun b hb=>by
 rcases ZG.1 hb with hf|hm
 ·rw [hk'] at hf;cases hf
 ·exact hm
theorem Hold.JL {row:Option Nat} {w0:World} {L:List Hp} (h:Hold M row w0 w L) {g:Nat} {t:TypeId} {cs:Array Value} (hr:Ro w (Mut M L) (fun w=>w.heap[g]? =some (.cells cs t (0,0)))):Hold M row w0 w (.cst g t cs::L):=
 h.Zhw rfl (hr.less (XF rfl))
theorem Hold.ZC {row:Option Nat} {w0:World} {L:List Hp} (h:Hold M row w0 w L) (i:Nat) {e:TypeId} {A:Option Addr} {c:Nat} (hi:L[i]? =some (.own e size (.slice A n c) n xs)):
  Hold M row w0 w (L.set i (.ro (SlR size A n xs))):=
 h.Zhp i hi (fun T e=>nomatch e) fun w2 h1 h2=>by
  have h3:w2.ownsRow w0.heap.size e size (.slice A n c) n xs:=by
   refine ⟨h1.1,?_⟩
   rcases h1.2 with hn|⟨g,cap,cur,hv,hb,hgg,rest⟩
   ·exact .inl hn
   ·injection hv with hv1 hv2 hv3
    subst hv1 hv3
    exact .inr ⟨g,c,cur,rfl,hb,(h2 g rfl).trans hgg,rest⟩
  exact Rd.Un h3
end
theorem Z4 {α:Type} {l:List α} {n k:Nat} (h:l.length=n) (hk:k<n):∃ x,l[k]? =some x:=⟨l[k]'(by omega),List.getElem?_eq_getElem _⟩
end Go.Proofs.YtnbbllkbefagmaaGreatDoor
namespace Go.Proofs.YtnbbllkbefagmaaGreatDoor
open Go.RowKit
set_option linter.unusedVariables false
theorem UK {α:Type} {l:List α} {k:Nat} {c:α} (h:l[k]? =some c):l.drop k=c::l.drop (k+1):=by
 obtain ⟨hk,rfl⟩:=List.getElem?_eq_some_iff.1 h
 exact List.drop_eq_getElem_cons hk
def ZN {α:Type} (p:α→Bool) (k:Nat):List α→Int
 | []=>-1
 | c::r=>if p c then (k:Int) else ZN p (k+1) r
def Zr {α:Type} (p:α→Bool) (l:List α):Int:=ZN p 0 l
section
variable {α:Type} {p:α→Bool} {l:List α} {k:Nat} {c:α}
theorem VL (h:Zr p l=ZN p k (l.drop k)) (hc:l[k]? =some c) (hp:p c=true):Zr p l=k:=by
 rw [h,UK hc,ZN,if_pos hp]
theorem Uk (h:Zr p l=ZN p k (l.drop k)) (hc:l[k]? =some c) (hp:p c=false):Zr p l=ZN p (k+1) (l.drop (k+1)):=by
 rw [h,UK hc,ZN,if_neg (by simp [hp])]
theorem VD (h:Zr p l=ZN p k (l.drop k)) (hk:l.length≤k):Zr p l=-1:=by
 rw [h,List.drop_of_length_le hk,ZN]
theorem GI (p:α→Bool):∀ (l:List α) (k:Nat),ZN p k l=-1∨((k:Int)≤ZN p k l∧ZN p k l<k+l.length)
 | [],k=>.inl rfl
 | c::r,k=>by
  simp only [ZN]
  split
  ·right;simp;omega
  ·rcases GI p r (k+1) with h|⟨h1,h2⟩
   ·exact .inl h
   ·right
    have h1' :(k:Int)+1≤ZN p (k+1) r:=by simpa using h1
    refine ⟨by omega,?_⟩
    simp only [List.length_cons]
    have h2' :ZN p (k+1) r<(k:Int)+1+r.length:=by simpa using h2
    omega
theorem Zan (p:α→Bool) (c:α) (hp:p c=true):∀ (l:List α) (k i:Nat),l[i]? =some c→(k:Int)≤ZN p k l∧ZN p k l≤k+i
 | [],k,i,h=>by simp at h
 | x::r,k,0,h=>by
  simp only [List.getElem?_cons_zero,Option.some.injEq] at h
  subst h
  rw [ZN,if_pos hp];omega
 | x::r,k,i+1,h=>by
  simp only [List.getElem?_cons_succ] at h
  rw [ZN]
  split
  ·omega
  ·have:=Zan p c hp r (k+1) i h
   omega
theorem Zb2 (hp:p c=true) {i:Nat} (h:l[i]? =some c):0≤Zr p l∧Zr p l≤i:=by
 have:=Zan p c hp l 0 i h
 simpa [Zr] using this
theorem find_range (p:α→Bool) (l:List α):-1≤Zr p l∧Zr p l<max l.length 1:=by
 have:=GI p l 0
 unfold Zr
 omega
end
def named (s:ByteArray) (c:Col):Bool:=c.name.toList==s.toList
def Yw {α:Type} (t:Nat→α→Bool) (k:Nat):List α→Bool
 | []=>true
 | c::r=>t k c&&Yw t (k+1) r
section
variable {α:Type} {t:Nat→α→Bool} {l:List α} {k:Nat} {c:α}
theorem Zeq (h:Yw t 0 l=Yw t k (l.drop k)) (hc:l[k]? =some c) (hp:t k c=false):Yw t 0 l=false:=by
 rw [h,UK hc,Yw,hp,Bool.false_and]
theorem Zdr (h:Yw t 0 l=Yw t k (l.drop k)) (hc:l[k]? =some c) (hp:t k c=true):Yw t 0 l=Yw t (k+1) (l.drop (k+1)):=by
 rw [h,UK hc,Yw,hp,Bool.true_and]
theorem ZgG (h:Yw t 0 l=Yw t k (l.drop k)) (hk:l.length≤k):Yw t 0 l=true:=by
 rw [h,List.drop_of_length_le hk,Yw]
end
theorem take_snoc' {α:Type} {l:List α} {k:Nat} {c:α} (h:l[k]? =some c):l.take (k+1)=l.take k++[c]:=by
 obtain ⟨hk,rfl⟩:=List.getElem?_eq_some_iff.1 h
 exact List.take_succ_eq_append_getElem hk
theorem Zg0 {α:Type} {l:List α} {k:Nat} {c:α} (p:α→Bool) (h:l[k]? =some c):((l.take (k+1)).filter p).length=((l.take k).filter p).length+(if p c then 1 else 0):=by
 rw [take_snoc' h,List.filter_append,List.length_append]
 congr 1
 cases hp:p c<;>simp [List.filter,hp]
end Go.Proofs.YtnbbllkbefagmaaGreatDoor
namespace Go.Proofs.YtnbbllkbefagmaaGreatDoor
open Go.RowKit
set_option linter.unusedVariables false
set_option linter.unusedSimpArgs false
def Vl.cells (x:Vl):List Value:=[.int .i64 x.k,.int .i64 x.i,.string x.s]
def Vl.ok (x:Vl):Prop:=I64 x.k∧I64 x.i∧x.s.size≤maxLen
def YS (l:List Vl):List Value:=l.flatMap Vl.cells
theorem ZeV (l:List Vl):(YS l).length=l.length * 3:=Yu _ 3 (fun _=>rfl) l
def VlsIn (A:Option Addr) (n:Nat) (l:List Vl):World→Prop:=SlR 3 A n (YS l)
theorem VlsIn.len {w:World} {A:Option Addr} {n:Nat} {l:List Vl} (h:VlsIn A n l w):l.length=n:=by
 have:=(show Rd w w.heap.size 3 A n (YS l) from h).1
 rw [ZeV] at this
 omega
theorem VlsIn.at_ {w:World} {A:Option Addr} {n:Nat} {l:List Vl} (h:VlsIn A n l w) {k:Nat} {x:Vl} (hx:l[k]? =some x):
  ∃ b o,A=some ⟨b,o,none⟩∧b<w.heap.size∧w.cell? ⟨b,o+k * 3,none⟩=some (.int .i64 x.k)∧w.cell? ⟨b,o+k * 3+1,none⟩=some (.int .i64 x.i)∧w.cell? ⟨b,o+k * 3+2,none⟩=some (.string x.s):=by
 have hk:k<n:=by rw [←h.len];exact (List.getElem?_eq_some_iff.1 hx).1
 obtain ⟨b,o,e,hb,hc⟩:=(show Rd w w.heap.size 3 A n (YS l) from h).2 (by omega)
 exact ⟨b,o,e,hb,hc _ _ (flat_get Vl.cells 3 (fun _=>rfl) l k 0 x (by omega) hx),hc _ _ (flat_get Vl.cells 3 (fun _=>rfl) l k 1 x (by omega) hx),hc _ _ (flat_get Vl.cells 3 (fun _=>rfl) l k 2 x (by omega) hx)⟩
theorem Zao (l:List Vl):∀ u∈YS l,u.oneCell' =true:=fun u hu=>by
 unfold YS at hu
 rw [List.mem_flatMap] at hu
 obtain ⟨x,_,hx⟩:=hu
 simp only [Vl.cells,List.mem_cons,List.not_mem_nil,or_false] at hx
 rcases hx with rfl|rfl|rfl<;>rfl
structure Rw where
 id:Int
 A:Option Addr
 n:Nat
 c:Nat
 vs:List Vl
def Rw.cells (r:Rw):List Value:=[.int .i64 r.id,.slice r.A r.n r.c]
def Y1 (l:List Rw):List Value:=l.flatMap Rw.cells
theorem Qp (l:List Rw):(Y1 l).length=l.length * 2:=Yu _ 2 (fun _=>rfl) l
def WE (l:List Rw) (w:World):Prop:=∀ r∈l,VlsIn r.A r.n r.vs w
def RwsIn (A:Option Addr) (n:Nat) (l:List Rw) (w:World):Prop:=SlR 2 A n (Y1 l) w∧WE l w
theorem RwsIn.len {w:World} {A:Option Addr} {n:Nat} {l:List Rw} (h:RwsIn A n l w):l.length=n:=by
 have:=(show Rd w w.heap.size 2 A n (Y1 l) from h.1).1
 rw [Qp] at this
 omega
theorem RwsIn.at_ {w:World} {A:Option Addr} {n:Nat} {l:List Rw} (h:RwsIn A n l w) {k:Nat} {x:Rw} (hx:l[k]? =some x):
  ∃ b o,A=some ⟨b,o,none⟩∧b<w.heap.size∧w.cell? ⟨b,o+k * 2,none⟩=some (.int .i64 x.id)∧w.cell? ⟨b,o+k * 2+1,none⟩=some (.slice x.A x.n x.c)∧VlsIn x.A x.n x.vs w:=by
 have hk:k<n:=by rw [←h.len];exact (List.getElem?_eq_some_iff.1 hx).1
 obtain ⟨b,o,e,hb,hc⟩:=(show Rd w w.heap.size 2 A n (Y1 l) from h.1).2 (by omega)
 exact ⟨b,o,e,hb,hc _ _ (flat_get Rw.cells 2 (fun _=>rfl) l k 0 x (by omega) hx),hc _ _ (flat_get Rw.cells 2 (fun _=>rfl) l k 1 x (by omega) hx),h.2 x (List.mem_of_getElem? hx)⟩
structure Rw.ok (r:Rw):Prop where
 id:I64 r.id
 nc:r.n≤r.c
 c:r.c≤9223372036854775807
 vs:∀ v∈r.vs,v.ok
abbrev Row:=Int × List Vl
def Rw.row (r:Rw):Row:=(r.id,r.vs)
def Xe (c:Col) (v:Vl):Int:=if YA v.k v.i v.s then (if v.k==0 then (if c.nn then 8 else 0) else if v.k==c.ty then 0 else 5) else 17
def Qd:List Col→List Vl→Int
 | c::cs,v::vs=>if Xe c v=0 then Qd cs vs else Xe c v
 | _,_=>0
def Wh (cs:List Col) (vs:List Vl):Int:=if vs.length=cs.length then Qd cs vs else 17
def XB (k:Int):List Vl→List (List Vl)→Bool
 | _,[]=>false
 | seen,r::rs=>if 0≤k then match r[k.toNat]? with
  | some v=>if v∈seen then true else XB k (v::seen) rs
  | none=>XB k seen rs
  else XB k seen rs
def WP (cs:List Col) (rs:List Row):Bool:=XB (Zr Col.key cs) [] (rs.map (·.2))
theorem GX {k:Int} (h:k<0):∀ (seen:List Vl) (rs:List (List Vl)),XB k seen rs=false
 | _,[]=>rfl
 | seen,r::rs=>by rw [XB,if_neg (by omega)];exact GX h seen rs
def okR (cs:List Col) (next:Int):Int→List Row→Bool
 | _,[]=>true
 | last,r::rs=>decide (last<r.1)&&decide (r.1<next)&&decide (Wh cs r.2=0)&&okR cs next r.1 rs
theorem Zfg {P:Program} (w0:World) (cs:Array Value) {ops:Array Oper} {rest:List Oper} {o:Oper} {a:Act} {Q:Exit→Act→World→Prop} (hgd:o.guard=none) (s x:Operand) (t:TypeId)
  (ho:o.op=.call { callee:=.builtin .append,args:=#[s,x],argTypes:=#[t,t] })
  (base:Nat) (e:TypeId) (size bytes:Nat) (z:Value) (ht:P.underlying t=some (.slice e)) (hi:(P.info? e).map (fun i=>(i.zero,i.size,i.bytes))=some (some z,size,bytes))
  (hzs:z.cells.size=size) (hsz:0<size)
  (v:Value) (n:Nat) (xs:List Value) (hs:a.eval s=v) (hown:w0.ownsRow base e size v n xs)
  (H:Nat) (hH:w0.heap.size=H) (hx:a.eval x=.slice (some ⟨H,0,none⟩) 1 1) (hl:cs.size=size) (h1:∀ u∈cs.toList,u.oneCell' =true)
  (hn:n<140737488355328) (hbytes:(n+1) * bytes≤140737488355328) (hbase:base≤w0.heap.size)
  (h:∀ g cap w',w'.ownsRow base e size (.slice (some ⟨g,0,none⟩) (n+1) cap) (n+1) (xs++cs.toList)→(w0.alloc (.cells cs e)).grownBy w' v.ownBlock→(v.ownBlock=some g∨(w0.alloc (.cells cs e)).heap.size≤g)→g<w'.heap.size→
   wpList P ops Q rest (a.put o.dst (.slice (some ⟨g,0,none⟩) (n+1) cap)) w'):
  wpList P ops Q (o::rest) a (w0.alloc (.cells cs e)):=by
 subst hH
 obtain ⟨i,hi1,hi2,hi3,hi4⟩:=info_parts hi
 refine wpList_append_lies (w:=w0.alloc (.cells cs e)) hgd s x t ho base e i z size bytes ht hi1 hi2 hi3 hi4 hzs hsz v n xs hs (hown.alloc _) ⟨w0.heap.size,0,none⟩ 1 1 cs.toList hx (by simpa using hl) ?_ h1 (by omega) (by unfold maxLen;omega) hbytes (by simp;omega) (w0.heap.size+1) (by simp) ?_
 ·exact World.news_of_block (heap_alloc_new w0 _)
 ·intro g cap w' h2 h3 h4 h5
  exact h g cap w' h2 h3 (h4.imp id fun e=>by rw [e];simp) h5
end Go.Proofs.YtnbbllkbefagmaaGreatDoor
namespace Go.Proofs.YtnbbllkbefagmaaGreatDoor
open Go.RowKit
set_option linter.unusedVariables false
structure ElemT (P:Program) (t e:TypeId) (size bytes:Nat) (z:Value):Prop where
 ht:P.underlying t=some (.slice e)
 hi:(P.info? e).map (fun i=>(i.zero,i.size,i.bytes))=some (some z,size,bytes)
 hzs:z.cells.size=size
 hsz:0<size
section
variable {P:Program} {M:Nat→Prop} {row:Option Nat} {w0 w w' :World} {L L' :List Hp}
theorem Yx {w:World} {base:Nat} {e:TypeId} {size n m c:Nat} {A:Option Addr} {xs:List Value} (h:w.ownsRow base e size (.slice A n c) m xs):m≤c∧c≤9223372036854775807∧n=m:=by
 obtain ⟨h1,⟨h2,h3⟩|⟨g,cap,cur,hv,_,_,hle,hm,_⟩⟩:=h
 ·have e1:=(Value.slice.inj h2).2.2
  have e2:=(Value.slice.inj h2).2.1
  omega
 ·have e1:=(Value.slice.inj hv).2.2
  have e2:=(Value.slice.inj hv).2.1
  unfold maxLen at hm
  omega
theorem JG {w:World} {base:Nat} {e:TypeId} {size n m c:Nat} {A:Option Addr} {xs:List Value} (h:w.ownsRow base e size (.slice A n c) m xs):(A=none∧m=0∧c=0)∨∃ g,A=some ⟨g,0,none⟩∧base≤g:=by
 obtain ⟨h1,⟨h2,h3⟩|⟨g,cap,cur,hv,hb,_⟩⟩:=h
 ·exact .inl ⟨(Value.slice.inj h2).1,h3,(Value.slice.inj h2).2.2⟩
 ·exact .inr ⟨g,(Value.slice.inj hv).1,hb⟩
theorem Zx (K:Hold M row w0 w L) (i:Nat) {t e:TypeId} {size bytes q cap:Nat} {C:Option Addr} {xs:List Value} {z:Value} (hi:L[i]? =some (.own e size (.slice C q cap) q xs)) (hE:ElemT P t e size bytes z)
  (cs:Array Value) {ops:Array Oper} {rest:List Oper} {o:Oper} {a:Act} {Q:Exit→Act→World→Prop} (hgd:o.guard=none) (s x:Operand) (ho:o.op=.call { callee:=.builtin .append,args:=#[s,x],argTypes:=#[t,t] })
  (hs:a.eval s=.slice C q cap) (H:Nat) (hH:w.heap.size=H) (hx:a.eval x=.slice (some ⟨H,0,none⟩) 1 1) (hl:cs.size=size) (h1:∀ u∈cs.toList,u.oneCell' =true) (hq:q<140737488355328) (hb:(q+1) * bytes≤140737488355328)
  (h:∀ g cap' w',q+1≤cap' →cap' ≤9223372036854775807→Hold M row w0 w' (L.set i (.own e size (.slice (some ⟨g,0,none⟩) (q+1) cap') (q+1) (xs++cs.toList)))→wpList P ops Q rest (a.put o.dst (.slice (some ⟨g,0,none⟩) (q+1) cap')) w'):
  wpList P ops Q (o::rest) a (w.alloc (.cells cs e)):=by
 refine Zfg w cs hgd s x t ho w0.heap.size e size bytes z hE.ht hE.hi hE.hzs hE.hsz (.slice C q cap) q xs hs (K.get i hi) H hH hx hl h1 hq hb K.grow.size ?_
 intro g cap' w' ho' hg hd hl'
 obtain ⟨c1,c2,_⟩:=Yx ho'
 have K1:=K.Za cs e
 have K2:=K1.append (i+1) (by simpa using hi) ho' hg hd hl'
 refine h g cap' w' c1 c2 (K2.drop ?_)
 simp
theorem Gj (w:World) (base:Nat) (t ty e:TypeId) (i:TypeInfo) (size:Nat) (ht:P.underlying t=some (.slice e)) (hi:P.info? e=some i)
  (v:Value) (n:Nat) (xs:List Value) (hown:w.ownsRow base e size v n xs) (c:Nat):(Builtin.append_ #[t,t] ty #[v,.slice none 0 c]).run P w=.ok v w:=by
 rcases hown.2 with ⟨rfl,rfl⟩|⟨g,cap,cur,rfl,_,_,hnc,_⟩
 ·simp [Builtin.append_,run_underlying ht,sizeOf,typeInfo,hi,Builtin.lenOf,Builtin.firstCells]
 ·simp [Builtin.append_,run_underlying ht,sizeOf,typeInfo,hi,Builtin.lenOf,Builtin.firstCells,hnc,storeCells]
theorem Yy (K:Hold M row w0 w L) (i:Nat) {t e:TypeId} {size bytes q cap:Nat} {C:Option Addr} {xs:List Value} {z:Value} (hi:L[i]? =some (.own e size (.slice C q cap) q xs)) (hE:ElemT P t e size bytes z)
  {A:Option Addr} {m c:Nat} {ys:List Value} (hr:SlR size A m ys w) {ops:Array Oper} {rest:List Oper} {o:Oper} {a:Act} {Q:Exit→Act→World→Prop} (hgd:o.guard=none) (s x:Operand) (ho:o.op=.call { callee:=.builtin .append,args:=#[s,x],argTypes:=#[t,t] })
  (hs:a.eval s=.slice C q cap) (hx:a.eval x=.slice A m c) (h1:∀ u∈ys,u.oneCell' =true) (hq:q+m<140737488355328) (hb:(q+m) * bytes≤140737488355328)
  (h:∀ C' cap' w',q+m≤cap' →cap' ≤9223372036854775807→Hold M row w0 w' (L.set i (.own e size (.slice C' (q+m) cap') (q+m) (xs++ys)))→wpList P ops Q rest (a.put o.dst (.slice C' (q+m) cap')) w'):
  wpList P ops Q (o::rest) a w:=by
 obtain ⟨i0,hi1,hi2,hi3,hi4⟩:=info_parts hE.hi
 have hown:=K.get i hi
 have hrun:∃ C' cap' w',(Builtin.append_ #[t,t] o.type #[.slice C q cap,.slice A m c]).run P w=.ok (.slice C' (q+m) cap') w' ∧q+m≤cap' ∧cap' ≤9223372036854775807∧Hold M row w0 w' (L.set i (.own e size (.slice C' (q+m) cap') (q+m) (xs++ys))):=by
  have hz:A=none→m=0:=fun hA=>by
   rcases Nat.eq_zero_or_pos m with h0|h0
   ·exact h0
   ·obtain ⟨b,o,h,_⟩:=hr.2 h0
    rw [hA] at h;cases h
  rcases A with _|ad
  ·obtain rfl:=hz rfl
   have hn:ys=[]:=List.eq_nil_of_length_eq_zero (by simpa using hr.1)
   subst hn
   have hc:=Yx hown
   have e:L.set i (.own e size (.slice C (q+0) cap) (q+0) (xs++[]))=L:=by
    rw [Nat.add_zero,List.append_nil]
    apply List.ext_getElem?
    intro j
    rw [List.getElem?_set]
    split
    ·subst i;split
     ·exact hi.symm
     ·rw [List.getElem?_eq_none (by omega)]
    ·rfl
   exact ⟨C,cap,w,Gj w _ t _ _ i0 size hE.ht hi1 _ _ _ hown c,hc.1,hc.2.1,by rw [e];exact K⟩
  ·have hcells:∀ j u,ys[j]? =some u→w.cell? (ad.add j)=some u:=by
    intro j u hu
    have hpos:0<m:=by
     rcases Nat.eq_zero_or_pos m with h0|h0
     ·have hn:ys=[]:=List.eq_nil_of_length_eq_zero (by have:=hr.1;rw [h0] at this;simpa using this)
      rw [hn] at hu;simp at hu
     ·exact h0
    obtain ⟨b,o',hA,_,hc⟩:=hr.2 hpos
    injection hA with hA
    subst hA
    have:=hc j u hu
    rwa [Addr.add_lit]
   obtain ⟨v',w',hrun,h2,h3,_,h5⟩:=run_append_own_at (P:=P) w w0.heap.size t o.type e i0 z size bytes hE.ht hi1 hi2 hi3 hi4 hE.hzs hE.hsz _ q xs hown ad m c ys hr.1 hcells h1 (by unfold maxLen;omega) hb K.grow.size
   obtain ⟨C',cap',rfl⟩:=QX h2
   have hc:=Yx h2
   refine ⟨C',cap',w',hrun,hc.1,hc.2.1,?_⟩
   refine K.turn i hi h3.size ⟨h3.os,h3.tape,h3.output⟩ (fun b hl hne=>h3.block b hl fun e=>hne e.symm) (fun b hf=>?_) h2 (fun T hT=>by cases hT)
   have hlt:=(h2.lt b hf).2
   refine ⟨?_,hlt⟩
   have hf' :Value.ownBlock (.slice C' (q+m) cap')=some b:=hf
   rcases h5 with h5|h5
   ·left;rw [h5] at hf';exact hf'
   ·right;rw [h5] at hf';injection hf' with hf';omega
 obtain ⟨C',cap',w',hr',c1,c2,hK⟩:=hrun
 refine wpList_plain hgd fun K' hK' =>?_
 unfold Oper.wp execOp
 simp only [ho,resolve,invoke,builtin,Sem.run_bind,Sem.run_pure,Result.andThen_ok,List.map_toArray,List.map_cons,List.map_nil,hs,hx,hr']
 exact hK' _ _ (h C' cap' w' c1 c2 hK)
theorem Hold.JO (K:Hold M row w0 w L) {e:TypeId} {size n:Nat} {v:Value} {xs:List Value} (hb:Below w.heap.size w w') (ho:w'.ownsRow w.heap.size e size v n xs):Hold M row w0 w' (.own e size v n xs::L):=by
 have h1:=K.call hb
 have hbase:∀ b,v.ownBlock=some b→w.heap.size≤b∧b<w'.heap.size:=fun b hf=>ho.lt b hf
 have ee:∀ b,b<w.heap.size→Mut M (.own e size v n xs::L) b→Mut M L b:=fun b hl hb=>by
  rcases ZG.1 hb with hf|hm
  ·have:=(hbase b hf).1;omega
  ·exact hm
 refine ⟨h1.grow,h1.low,fun k hk=>?_,fun k hk b hf=>?_,⟨fun b hf k hk he=>?_,K.sep⟩⟩
 ·rcases List.mem_cons.1 hk with rfl|hk
  ·refine ⟨ho.1,?_⟩
   rcases ho.2 with hn|⟨g,cap,cur,hv,hg,rest⟩
   ·exact .inl hn
   ·exact .inr ⟨g,cap,cur,hv,Nat.le_trans K.grow.size hg,rest⟩
  ·exact Hp.YZ (k:=k) (K.sat k hk) hb.size (fun b hl _=>hb.block b hl) ee (fun b hf=>hb.block b (K.fresh k hk b hf).2)
    (fun T hT b hlt=>by
     have:=K.fresh k hk T (by subst hT;rfl)
     exact hb.block b (by omega))
 ·rcases List.mem_cons.1 hk with rfl|hk
  ·have:=hbase b hf
   exact ⟨.inl (Nat.le_trans K.grow.size this.1),this.2⟩
  ·exact h1.fresh k hk b hf
 ·have:=(hbase b hf).1
  have h2:=(K.fresh k hk b he).2
  omega
theorem ZbJ {t e:TypeId} {size bytes:Nat} {z:Value} (hE:ElemT P t e size bytes z) (n:Nat) (hb:bytes * n≤281474976710656) (h63:n≤9223372036854775807) (w:World):
  (Instr.makeSlice t (.int .i64 (n:Int)) (.int .i64 (n:Int))).run P w=.ok (.slice (some ⟨w.heap.size,0,none⟩) n n) (w.alloc (.cells (madeCells z.cells (n * size)) e)):=by
 obtain ⟨i0,hi1,hi2,hi3,hi4⟩:=info_parts hE.hi
 have hb' :(i0.bytes:Int) * (n:Int)≤281474976710656:=by
  have h:((i0.bytes * n:Nat):Int)≤281474976710656:=by rw [hi4];omega
  rwa [Int.natCast_mul] at h
 have hr:=run_make (P:=P) w t e i0 z hE.ht hi1 hi2 .i64 .i64 n n (by omega) (by omega) hb' (by omega)
 simp only [Int.toNat_natCast,hi3] at hr
 exact hr
theorem QQ:∀ {L:List Hp},Apart L↔L.Pairwise fun h k=>∀ b,h.foot=some b→k.foot≠some b
 | []=>⟨fun _=>List.Pairwise.nil,fun _=>trivial⟩
 | h::L=>by
  rw [List.pairwise_cons,←QQ]
  exact ⟨fun ⟨a,b⟩=>⟨fun k hk x hx=>a x hx k hk,b⟩,fun ⟨a,b⟩=>⟨fun x hx k hk=>a k hk x hx,b⟩⟩
theorem Hold.perm (K:Hold M row w0 w L) (hp:L.Perm L'):Hold M row w0 w L' :=by
 have hm:∀ b,Mut M L' b→Mut M L b:=fun b hb=>hb.imp id fun ⟨k,hk,hf⟩=>⟨k,hp.symm.subset hk,hf⟩
 refine ⟨K.grow,K.low,fun k hk=>?_,fun k hk=>K.fresh k (hp.symm.subset hk),QQ.2 ((hp.pairwise_iff fun h b hy hx=>h b hx hy).1 (QQ.1 K.sep))⟩
 exact Hp.YZ (k:=k) (K.sat k (hp.symm.subset hk)) (Nat.le_refl _) (fun _ _ _=>rfl) (fun b _ hb=>hm b hb) (fun _ _=>rfl) (fun _ _ _ _=>rfl)
theorem Hold.JN {a:Hp} (K:Hold M row w0 w (a::L)) (i:Nat):Hold M row w0 w (L.take i++a::L.drop i):=by
 refine K.perm (List.Perm.trans ?_ List.perm_middle.symm)
 rw [List.take_append_drop]
theorem Hold.WL (K:Hold M row w0 w L) (i:Nat) {S S' :World→Prop} (hi:L[i]? =some (.ro S)) (hr:Ro w (Mut M L) S'):Hold M row w0 w (L.set i (.ro S')):=by
 refine K.turn i hi (Nat.le_refl _) ⟨rfl,rfl,rfl⟩ (fun _ _ _=>rfl) (fun b hf=>by cases hf) ?_ (fun T hT=>by cases hT)
 refine hr.less fun b hb=>?_
 rcases hb with hb|⟨k,hk,hf⟩
 ·exact .inl hb
 ·rcases List.mem_or_eq_of_mem_set hk with hk|rfl
  ·exact .inr ⟨k,hk,hf⟩
  ·cases hf
theorem Hold.Zhs (K:Hold M row w0 w L) (i:Nat) {e:TypeId} {size n m cap g:Nat} {xs:List Value} (hi:L[i]? =some (.own e size (.slice (some ⟨g,0,none⟩) m cap) m xs)) (hn:n≤m):
  Hold M row w0 w (L.set i (.own e size (.slice (some ⟨g,0,none⟩) n cap) n (xs.take (n * size)))):=by
 have hown:=K.get i hi
 have hkm:=List.mem_of_getElem? hi
 refine K.turn i hi (Nat.le_refl _) ⟨rfl,rfl,rfl⟩ (fun _ _ _=>rfl) (fun b hf=>⟨.inl hf,(K.fresh _ hkm b hf).2⟩) ?_ (fun T hT=>by cases hT)
 have h1:=hown.1
 refine ⟨by rw [List.length_take,h1];exact Nat.min_eq_left (Nat.mul_le_mul_right _ hn),?_⟩
 rcases hown.2 with ⟨h,_⟩|⟨g',cap',cur,hv,hb,hg,hle,hm,hcs,ht⟩
 ·cases h
 ·obtain ⟨e1,_,e2⟩:=Value.slice.inj hv
  injection e1 with e1;injection e1 with e1
  subst e1 e2
  refine .inr ⟨g,cap,cur,rfl,hb,hg,by omega,hm,hcs,?_⟩
  rw [←ht,List.take_take,Nat.min_eq_left (Nat.mul_le_mul_right _ hn)]
end
end Go.Proofs.YtnbbllkbefagmaaGreatDoor
namespace Go.Proofs.YtnbbllkbefagmaaGreatDoor
open Go.RowKit
set_option linter.unusedVariables false
set_option linter.unusedSimpArgs false
theorem RdC.Zw {w:World} {A:Option Addr} {n:Nat} {l:List Col} (h:SlR 4 A n (Zd l) w):RdC w w.heap.size A n l:=h
theorem YC {l:List Col} {n k:Nat} (h:l.length=n) (hk:k<n):∃ c,l[k]? =some c:=⟨l[k]'(by omega),List.getElem?_eq_getElem _⟩
set_option maxHeartbeats 400000 in
theorem Zfb (nm:ByteArray) (ty:Int) (nn key:Bool) (g:Nat) (s:ByteArray) (w:World) (hg:w.cell? ⟨g,0,none⟩=some (.string s)) (hlt:g<w.heap.size):
  Calls Tryz.prog 137 #[.agg #[.string nm,.int .i64 ty,.bool nn,.bool key],.pointer (some ⟨g,0,none⟩)] w fun e w' =>e=.returned (.bool (nm.toList==s.toList))∧Below w.heap.size w w' :=by
 go_enter Tryz.func137,Tryz.ntmps137
 go_wp2
 go_ret
 exact ⟨rfl,Qa _ _⟩
set_option maxHeartbeats 2000000 in
theorem Zc3 (M:Nat→Prop) (w:World) (hM:∀ b,M b→b<w.heap.size) (A:Option Addr) (n c:Nat) (l:List Col) (hD:Ro w M (SlR 4 A n (Zd l))) (hn:n≤9223372036854775807) (g:Nat) (s:ByteArray) (hS:Ro w M (fun w=>w.heap[g]? =some (.cells #[.string s] 9 (0,0)))):
  Calls Tryz.prog 136 #[.slice A n c,.func (.func 137) #[] #[.pointer (some ⟨g,0,none⟩)]] w fun e w' =>e=.returned (.int .i64 (Zr (named s) l))∧Below w.heap.size w w' :=by
 have HL:=hid (RdC.Zw hD.now).len
 have K0:=((Hold.start M w hM).add (hD.less (by simp [Mut]))).add (S:=fun w=>w.heap[g]? =some (.cells #[.string s] 9 (0,0))) (hS.less (by simp [Mut,Hp.foot]))
 go_enter Tryz.func136,Tryz.ntmps136
 go_wp2_with fail
 go_loopw [8] (fun i wr=>∃ k:Nat,k≤n∧i=.int .i64 k∧Zr (named s) l=ZN (named s) k (l.drop k)∧Hold M none w wr [.ro (fun w=>w.heap[g]? =some (.cells #[.string s] 9 (0,0))),.ro (SlR 4 A n (Zd l))]) (fun i _=>n - (intOf i).toNat)
 case atStart=>exact ⟨0,by omega,rfl,rfl,K0⟩
 case round=>
  obtain ⟨k,hk,rfl,hf,H⟩:=hrel
  have HF:=hid hf;clear hf
  by_cases hlt:k<n
  ·obtain ⟨⟨nm,ty,nn,key⟩,hc⟩:=YC HL.out hlt
   obtain ⟨b,o,rfl,hb,c0,c1,c2,c3⟩:=(RdC.Zw (H.ro 1 rfl).now).at_ hc
   have HC:=hid hc;clear hc
   have hB:Blk _ g 9 #[.string s]:=(H.ro 0 rfl).now
   simp only at c0 c1 c2 c3
   cases hp:(nm.toList==s.toList)
   all_goals
    go_wp2_with fail
    refine (Zfb nm ty nn key g s _ (hB.cell 0) hB.lt).mono ?_
    rintro e w1 ⟨rfl,b1⟩
    have K1:=Hold.call H b1
    rw [hp]
    go_wp2_with fail
   ·go_roundw
    case rel=>exact ⟨k+1,by omega,by go_num,Uk HF.out HC.out hp,K1⟩
    case measure=>simp [intOf];omega
   ·go_ret
    exact ⟨by rw [VL HF.out HC.out hp]<;>rfl,K1.below⟩
  ·go_wp2
   go_ret
   exact ⟨by rw [VD HF.out (by rw [HL.out];omega)]<;>rfl,H.below⟩
set_option maxHeartbeats 1000000 in
theorem Qo (M:Nat→Prop) (w:World) (hM:∀ b,M b→b<w.heap.size) (nm:ByteArray) (A:Option Addr) (n c:Nat) (l:List Col) (s:ByteArray) (hD:Ro w M (SlR 4 A n (Zd l))) (hn:n≤9223372036854775807):
  Calls Tryz.prog 82 #[.agg #[.string nm,.slice A n c],.string s] w fun e w' =>e=.returned (.int .i64 (Zr (named s) l))∧Below w.heap.size w w' :=by
 have K0:=(((Hold.start M w hM).add (hD.less (by simp [Mut]))).Za #[.string nm,.slice A n c] 49).Za #[.string s] 9
 simp only [World.size_alloc] at K0
 go_enter Tryz.func82,Tryz.ntmps82
 go_wp2_with fail
 refine (Zc3 (Mut M _) _ K0.Zc A n c l (K0.ro 2 rfl) hn _ s (K0.get 0 rfl)).mono ?_
 rintro e w1 ⟨rfl,b1⟩
 have K1:=Hold.call K0 b1
 go_wp2
 go_ret
 exact ⟨rfl,K1.below⟩
set_option maxHeartbeats 2000000 in
theorem Xz (M:Nat→Prop) (w:World) (hM:∀ b,M b→b<w.heap.size) (nm0:ByteArray) (A:Option Addr) (n c:Nat) (l:List Col) (s:ByteArray) (hD:Ro w M (SlR 4 A n (Zd l))) (hn:n≤9223372036854775807):
  Calls Tryz.prog 53 #[.agg #[.string nm0,.slice A n c],.string s] w fun e w' =>e=.returned (.int .i64 (Zr (named s) l))∧Below w.heap.size w w' :=by
 have HL:=hid (RdC.Zw hD.now).len
 have K0:=((Hold.start M w hM).add (hD.less (by simp [Mut]))).Za #[.string nm0,.slice A n c] 49
 go_enter Tryz.func53,Tryz.ntmps53
 go_wp2_with fail
 go_loopw [10] (fun i wr=>∃ k:Nat,k≤n∧i=.int .i64 k∧Zr (named s) l=ZN (named s) k (l.drop k)∧Hold M none w wr [.cst w.heap.size 49 #[.string nm0,.slice A n c],.ro (SlR 4 A n (Zd l))]) (fun i _=>n - (intOf i).toNat)
 case atStart=>exact ⟨0,by omega,rfl,rfl,K0⟩
 case round=>
  obtain ⟨k,hk,rfl,hf,H⟩:=hrel
  have HF:=hid hf;clear hf
  by_cases hlt:k<n
  ·obtain ⟨⟨nm,ty,nn,key⟩,hc⟩:=YC HL.out hlt
   obtain ⟨b,o,rfl,hb,c0,c1,c2,c3⟩:=(RdC.Zw (H.ro 1 rfl).now).at_ hc
   have HC:=hid hc;clear hc
   simp only at c0 c1 c2 c3
   cases hp:(nm.toList==s.toList)
   ·have K1:=H.Za #[.string nm,.int .i64 ty,.bool nn,.bool key] 158
    go_wp2_with fail
    go_roundw
    case rel=>exact ⟨k+1,by omega,by go_num,Uk HF.out HC.out hp,K1.drop (List.sublist_cons_self _ _)⟩
    case measure=>simp [intOf];omega
   ·have K1:=H.Za #[.string nm,.int .i64 ty,.bool nn,.bool key] 158
    go_wp2_with fail
    go_ret
    exact ⟨by rw [VL HF.out HC.out hp]<;>rfl,K1.below⟩
  ·go_wp2
   go_ret
   exact ⟨by rw [VD HF.out (by rw [HL.out];omega)]<;>rfl,H.below⟩
abbrev ColsIn (A:Option Addr) (n:Nat) (l:List Col):World→Prop:=SlR 4 A n (Zd l)
theorem WV (l:List Col):∀ u∈Zd l,u.oneCell' =true:=fun u hu=>by
 unfold Zd at hu
 rw [List.mem_flatMap] at hu
 obtain ⟨x,_,hx⟩:=hu
 simp only [Col.cells,List.mem_cons,List.not_mem_nil,or_false] at hx
 rcases hx with rfl|rfl|rfl|rfl<;>rfl
theorem Tryz.XE:ElemT Tryz.prog 51 122 3 32 (.agg #[.int .i64 0,.int .i64 0,.string ⟨#[]⟩]):=⟨Tryz.underlying51,by kernel_rfl,rfl,by omega⟩
theorem Tryz.WH:ElemT Tryz.prog 47 158 4 32 (.agg #[.string ⟨#[]⟩,.int .i64 0,.bool false,.bool false]):=⟨Tryz.underlying47,by kernel_rfl,rfl,by omega⟩
theorem Tryz.Zbs:ElemT Tryz.prog 41 124 2 32 (.agg #[.int .i64 0,.slice none 0 0]):=⟨Tryz.underlying41,by kernel_rfl,rfl,by omega⟩
def Jb (size:Nat) (xs:List Value) (k:Nat) (w:World) (M:Nat→Prop) (e:Ending) (w' :World):Prop:=
 ∃ (A:Option Addr) (n c:Nat),e=.returned (.slice A n c)∧n=k∧n≤c∧c≤9223372036854775807∧Ro w' M (SlR size A n xs)∧Below w.heap.size w w'
set_option maxHeartbeats 4000000 in
set_option maxRecDepth 100000 in
theorem ZhA (M:Nat→Prop) (w:World) (hM:∀ b,M b→b<w.heap.size) (A:Option Addr) (n c:Nat) (l:List Vl) (hD:Ro w M (VlsIn A n l)) (hn:n≤4398046511104):
  Calls Tryz.prog 174 #[.slice A n c] w fun e w' =>Jb 3 (YS l) l.length w M e w' :=by
 have hl:=hid (show l.length=n from hD.now.len)
 have hq:∀ (w:World) (a:Option Addr) (n c:Nat),(binOp .eql 51 (.slice a n c) (.slice none 0 0)).run Tryz.prog w=.ok (.bool a.isNone) w:=fun w a n c=>Go.Lib.run_eql_slice_nil w _ _ a n c 0 0 Tryz.underlying51
 rcases A with _|a
 ·have h0:n=0:=by
   rcases Nat.eq_zero_or_pos n with h|h
   ·exact h
   ·obtain ⟨_,_,e,_⟩:=(show Rd w w.heap.size 3 none n (YS l) from hD.now).2 h;cases e
  subst h0
  obtain rfl:l=[]:=List.length_eq_zero_iff.1 hl.out
  go_enter Tryz.func174,Tryz.ntmps174
  go_wp2_with fail
  go_ret
  exact ⟨none,0,0,rfl,rfl,by omega,by omega,Qz,Below.refl _ _⟩
 ·have K0:=(Hold.start M w hM).add (hD.less (by simp [Mut]))
  have K1:=K0.Zbw #[] 122 3 0 (by unfold maxLen;omega) rfl
  have hr:=hid (show VlsIn (some a) n l _ from (K1.ro 1 rfl).now)
  have h1:=hid (Zao l)
  go_enter Tryz.func174,Tryz.ntmps174
  go_wp2_with (at_builtin;go_must (refine Yy K1 0 rfl Tryz.XE hr.out rfl (.tmp 5) (.tmp 6) rfl rfl rfl h1.out (by omega) (by omega) ?_);intro C' cap' w2 hc1 hm1 K2)
  have KS:=K2.ZC 0 rfl
  go_ret
  simp only [Nat.zero_add,List.nil_append,List.set_cons_zero] at KS hc1
  exact ⟨C',n,cap',by first|rfl|simp,hl.out.symm,hc1,hm1,KS.YM 0 rfl,KS.below⟩
set_option maxHeartbeats 4000000 in
set_option maxRecDepth 100000 in
theorem Zcj (M:Nat→Prop) (w:World) (hM:∀ b,M b→b<w.heap.size) (A:Option Addr) (n c:Nat) (l:List Col) (hD:Ro w M (ColsIn A n l)) (hn:n≤4398046511104):
  Calls Tryz.prog 112 #[.slice A n c] w fun e w' =>Jb 4 (Zd l) l.length w M e w' :=by
 have hl:=hid (show l.length=n from (RdC.Zw hD.now).len)
 have hq:∀ (w:World) (a:Option Addr) (n c:Nat),(binOp .eql 47 (.slice a n c) (.slice none 0 0)).run Tryz.prog w=.ok (.bool a.isNone) w:=fun w a n c=>Go.Lib.run_eql_slice_nil w _ _ a n c 0 0 Tryz.underlying47
 rcases A with _|a
 ·have h0:n=0:=by
   rcases Nat.eq_zero_or_pos n with h|h
   ·exact h
   ·obtain ⟨_,_,e,_⟩:=(show Rd w w.heap.size 4 none n (Zd l) from hD.now).2 h;cases e
  subst h0
  obtain rfl:l=[]:=List.length_eq_zero_iff.1 hl.out
  go_enter Tryz.func112,Tryz.ntmps112
  go_wp2_with fail
  go_ret
  exact ⟨none,0,0,rfl,rfl,by omega,by omega,Qz,Below.refl _ _⟩
 ·have K0:=(Hold.start M w hM).add (hD.less (by simp [Mut]))
  have K1:=K0.Zbw #[] 158 4 0 (by unfold maxLen;omega) rfl
  have hr:=hid (show ColsIn (some a) n l _ from (K1.ro 1 rfl).now)
  have h1:=hid (WV l)
  go_enter Tryz.func112,Tryz.ntmps112
  go_wp2_with (at_builtin;go_must (refine Yy K1 0 rfl Tryz.WH hr.out rfl (.tmp 5) (.tmp 6) rfl rfl rfl h1.out (by omega) (by omega) ?_);intro C' cap' w2 hc1 hm1 K2)
  have KS:=K2.ZC 0 rfl
  go_ret
  simp only [Nat.zero_add,List.nil_append,List.set_cons_zero] at KS hc1
  exact ⟨C',n,cap',by first|rfl|simp,hl.out.symm,hc1,hm1,KS.YM 0 rfl,KS.below⟩
set_option maxHeartbeats 4000000 in
set_option maxRecDepth 100000 in
theorem UJ (M:Nat→Prop) (w:World) (hM:∀ b,M b→b<w.heap.size) (A:Option Addr) (n c:Nat) (l:List Vl) (hD:Ro w M (VlsIn A n l)) (hn:n≤4398046511104):
  Calls Tryz.prog 55 #[.slice A n c] w fun e w' =>Jb 3 (YS l) l.length w M e w' :=by
 have hl:=hid (show l.length=n from hD.now.len)
 have K0:=((Hold.start M w hM).add (hD.less (by simp [Mut]))).nil 122 3
 have hr:=hid (show VlsIn A n l _ from (K0.ro 1 rfl).now)
 have h1:=hid (Zao l)
 go_enter Tryz.func55,Tryz.ntmps55
 go_wp2_with (at_builtin;go_must (refine Yy K0 0 rfl Tryz.XE hr.out rfl (.const (.slice none 0 0)) (.tmp 3) rfl rfl rfl h1.out (by omega) (by omega) ?_);intro C' cap' w2 hc1 hm1 K2)
 have KS:=K2.ZC 0 rfl
 go_ret
 simp only [Nat.zero_add,List.nil_append,List.set_cons_zero] at KS hc1
 exact ⟨C',n,cap',by first|rfl|simp,hl.out.symm,hc1,hm1,KS.YM 0 rfl,KS.below⟩
def ZeA (rs:List Row) (id:Int):Option (List Vl):=(rs.find? fun r=>r.1==id).map (·.2)

structure Pr where
 id:Int
 oA:Option Addr
 on:Nat
 oc:Nat
 old:List Vl
 nA:Option Addr
 nn:Nat
 nc:Nat
 new:List Vl
abbrev Upd:=Int × List Vl × List Vl
structure QuP (α:Type) where
 star:Bool
 A:Option Addr
 n:Nat
 c:Nat
 items:List α
 src:ByteArray
 B:Option Addr
 m:Nat
 d:Nat
 wh:List α
structure Ex where
 kind:Int
 op:Int
 nt:Bool
 v:Vl
 tab:ByteArray
 nm:ByteArray
 A:Option Addr
 n:Nat
 c:Nat
 args:List Ex
 B:Option Addr
 m:Nat
 d:Nat
 sub:List (QuP Ex)
abbrev Qu:=QuP Ex
def Ex.cells (e:Ex):List Value:=[.int .i64 e.kind,.int .i64 e.op,.bool e.nt,.int .i64 e.v.k,.int .i64 e.v.i,.string e.v.s,.string e.tab,.string e.nm,.slice e.A e.n e.c,.slice e.B e.m e.d]
def Ex.val (e:Ex):Value:=.agg #[.int .i64 e.kind,.int .i64 e.op,.bool e.nt,.int .i64 e.v.k,.int .i64 e.v.i,.string e.v.s,.string e.tab,.string e.nm,.slice e.A e.n e.c,.slice e.B e.m e.d]
def Qu.cells (q:Qu):List Value:=[.bool q.star,.slice q.A q.n q.c,.string q.src,.slice q.B q.m q.d]
def Zl (l:List Ex):List Value:=l.flatMap Ex.cells
def YU (l:List Qu):List Value:=l.flatMap Qu.cells
theorem X8 (l:List Ex):(Zl l).length=l.length * 10:=Yu _ 10 (fun _=>rfl) l
theorem Qb (l:List Qu):(YU l).length=l.length * 4:=Yu _ 4 (fun _=>rfl) l
def ExIn:Nat→Ex→World→Prop
 | 0,_,_=>False
 | d+1,e,w=>SlR 10 e.A e.n (Zl e.args) w∧(∀ a∈e.args,ExIn d a w)∧SlR 4 e.B e.m (YU e.sub) w∧∀ q∈e.sub,(SlR 10 q.A q.n (Zl q.items) w∧∀ a∈q.items,ExIn d a w)∧SlR 10 q.B q.m (Zl q.wh) w∧∀ a∈q.wh,ExIn d a w
def QuIn (d:Nat) (q:Qu) (w:World):Prop:=(SlR 10 q.A q.n (Zl q.items) w∧∀ a∈q.items,ExIn d a w)∧SlR 10 q.B q.m (Zl q.wh) w∧∀ a∈q.wh,ExIn d a w
def ExsIn (d:Nat) (A:Option Addr) (n:Nat) (l:List Ex) (w:World):Prop:=SlR 10 A n (Zl l) w∧∀ e∈l,ExIn d e w
theorem ExIn.succ {d:Nat} {e:Ex} {w:World}:ExIn (d+1) e w↔ExsIn d e.A e.n e.args w∧SlR 4 e.B e.m (YU e.sub) w∧∀ q∈e.sub,QuIn d q w:=by
 constructor
 ·rintro ⟨h1,h2,h3,h4⟩;exact ⟨⟨h1,h2⟩,h3,h4⟩
 ·rintro ⟨⟨h1,h2⟩,h3,h4⟩;exact ⟨h1,h2,h3,h4⟩
theorem ExIn.more {w:World}:∀ {d:Nat} {e:Ex},ExIn d e w→ExIn (d+1) e w
 | 0,_,h=>h.elim
 | d+1,e,⟨h1,h2,h3,h4⟩=>⟨h1,fun a ha=>(h2 a ha).more,h3,fun q hq=>⟨⟨(h4 q hq).1.1,fun a ha=>((h4 q hq).1.2 a ha).more⟩,(h4 q hq).2.1,fun a ha=>((h4 q hq).2.2 a ha).more⟩⟩
theorem ExIn.le {w:World} {d d' :Nat} {e:Ex} (h:ExIn d e w) (hd:d≤d'):ExIn d' e w:=by
 obtain ⟨k,rfl⟩:∃ k,d' =d+k:=⟨d' - d,by omega⟩
 clear hd
 induction k with
 | zero=>exact h
 | succ k ih=>exact ih.more
theorem ExsIn.len {d:Nat} {A:Option Addr} {n:Nat} {l:List Ex} {w:World} (h:ExsIn d A n l w):l.length=n:=by
 have:=(show Rd w w.heap.size 10 A n (Zl l) from h.1).1
 rw [X8] at this
 omega
theorem ExsIn.at_ {d:Nat} {w:World} {A:Option Addr} {n:Nat} {l:List Ex} (h:ExsIn d A n l w) {k:Nat} {x:Ex} (hx:l[k]? =some x):
  ∃ b o,A=some ⟨b,o,none⟩∧b<w.heap.size∧(∀ j u,j<10→x.cells[j]? =some u→w.cell? ⟨b,o+k * 10+j,none⟩=some u)∧ExIn d x w:=by
 have hk:k<n:=by rw [←h.len];exact (List.getElem?_eq_some_iff.1 hx).1
 obtain ⟨b,o,e,hb,hc⟩:=(show Rd w w.heap.size 10 A n (Zl l) from h.1).2 (by omega)
 refine ⟨b,o,e,hb,fun j u hj hu=>?_,h.2 x (List.mem_of_getElem? hx)⟩
 rw [Nat.add_assoc]
 exact hc _ _ ((flat_get Ex.cells 10 (fun _=>rfl) l k j x hj hx).trans hu)
def vlZ:Vl:=⟨0,0,⟨#[]⟩⟩
def Zz (v:Vl):Ex:=⟨1,0,false,v,⟨#[]⟩,⟨#[]⟩,none,0,0,[],none,0,0,[]⟩
def Zk (t n:ByteArray):Ex:=⟨2,0,false,vlZ,t,n,none,0,0,[],none,0,0,[]⟩
def opE (kind op:Int) (nt:Bool) (g k:Nat) (l:List Ex):Ex:=⟨kind,op,nt,vlZ,⟨#[]⟩,⟨#[]⟩,some ⟨g,0,none⟩,k,k,l,none,0,0,[]⟩
def Xv (x:Ex) (n:Int):Prop:=(0≤n∧x=Zz ⟨1,n,⟨#[]⟩⟩)∨(n<0∧∃ g,x=opE 4 0 false g 1 [Zz ⟨1,-n,⟨#[]⟩⟩])
theorem ZR (size:Nat) (w:World):SlR size none 0 [] w:=⟨by simp,fun h=>absurd h (Nat.lt_irrefl 0)⟩
theorem WB (v:Vl) (w:World):ExIn 1 (Zz v) w:=⟨ZR 10 w,fun a ha=>(nomatch ha),ZR 4 w,fun q hq=>(nomatch hq)⟩
theorem Xc (t n:ByteArray) (w:World):ExIn 1 (Zk t n) w:=⟨ZR 10 w,fun a ha=>(nomatch ha),ZR 4 w,fun q hq=>(nomatch hq)⟩
theorem W9 {d:Nat} {kind op:Int} {nt:Bool} {g k:Nat} {l:List Ex} {w:World} (h:ExsIn d (some ⟨g,0,none⟩) k l w):ExIn (d+1) (opE kind op nt g k l) w:=⟨h.1,h.2,ZR 4 w,fun q hq=>(nomatch hq)⟩
theorem Zcz (x:Ex):∀ u∈x.cells,u.oneCell' =true:=fun u hu=>by
 simp only [Ex.cells,List.mem_cons,List.not_mem_nil,or_false] at hu
 rcases hu with rfl|rfl|rfl|rfl|rfl|rfl|rfl|rfl|rfl|rfl<;>rfl
theorem XC {d:Nat} {w:World} {M:Nat→Prop} {g:Nat} {t:TypeId} {cs:Array Value} {l:List Ex} (h:Ro w M (fun w=>w.heap[g]? =some (.cells cs t (0,0)))) (hl:cs.toList=Zl l) (hr:∀ x∈l,Ro w M (ExIn d x)):Ro w M (ExsIn d (some ⟨g,0,none⟩) l.length l):=by
 have h1:Ro w M (SlR 10 (some ⟨g,0,none⟩) l.length cs.toList):=ZJ h (by rw [hl,X8])
 rw [hl] at h1
 exact h1.and fun w2 a b x hx=>hr x hx w2 a b
structure SlP (α:Type) where
 A:Option Addr
 n:Nat
 c:Nat
 l:List α
def SlP.v {α:Type} (s:SlP α):Value:=.slice s.A s.n s.c
def SlP.nil {α:Type}:SlP α:=⟨none,0,0,[]⟩
def SlP.In {α:Type} (s:SlP α) (k:Nat) (cel:α→List Value) (P:α→World→Prop) (w:World):Prop:=SlR k s.A s.n (s.l.flatMap cel) w∧∀ x∈s.l,P x w
theorem SlP.In.len {α:Type} {s:SlP α} {k:Nat} {cel:α→List Value} {P:α→World→Prop} {w:World} (h:s.In k cel P w) (hk:0<k) (hc:∀ x,(cel x).length=k):s.l.length=s.n:=by
 have:=(show Rd w w.heap.size k s.A s.n (s.l.flatMap cel) from h.1).1
 rw [Yu cel k hc] at this
 exact Nat.eq_of_mul_eq_mul_right hk this
theorem SlP.In.at_ {α:Type} {s:SlP α} {k:Nat} {cel:α→List Value} {P:α→World→Prop} {w:World} (h:s.In k cel P w) (hk:0<k) (hc:∀ x,(cel x).length=k) {i:Nat} {x:α} (hx:s.l[i]? =some x):
  ∃ b o,s.A=some ⟨b,o,none⟩∧b<w.heap.size∧(∀ j u,j<k→(cel x)[j]? =some u→w.cell? ⟨b,o+i * k+j,none⟩=some u)∧P x w:=by
 have hi:i<s.n:=by rw [←h.len hk hc];exact (List.getElem?_eq_some_iff.1 hx).1
 obtain ⟨b,o,e,hb,hcl⟩:=(show Rd w w.heap.size k s.A s.n (s.l.flatMap cel) from h.1).2 (by omega)
 refine ⟨b,o,e,hb,fun j u hj hu=>?_,h.2 x (List.mem_of_getElem? hx)⟩
 rw [Nat.add_assoc]
 exact hcl _ _ ((flat_get cel k hc s.l i j x hj hx).trans hu)
theorem SlP.Zi {α:Type} (k:Nat) (cel:α→List Value) (P:α→World→Prop) (w:World):(SlP.nil:SlP α).In k cel P w:=⟨ZR k w,fun _ hx=>(nomatch hx)⟩
structure Se where
 col:ByteArray
 e:Ex
def Se.cells (s:Se):List Value:=.string s.col::s.e.cells
structure Rk where
 tab:ByteArray
 col:ByteArray
 lo:Int
 hi:Int
def Rk.cells (r:Rk):List Value:=[.string r.tab,.string r.col,.int .i64 r.lo,.int .i64 r.hi]
structure Ac where
 kind:Int
 tab:ByteArray
 rows:SlP (SlP Ex)
 qs:SlP Qu
 sets:SlP Se
 wh:SlP Ex
 text:ByteArray
def Ac.cells (a:Ac):List Value:=[.int .i64 a.kind,.string a.tab,a.rows.v,a.qs.v,a.sets.v,a.wh.v,.string a.text]
structure Tg where
 name:ByteArray
 tab:ByteArray
 before:Bool
 event:Int
 cols:SlP ByteArray
 each:Bool
 prec:SlP ByteArray
 foll:SlP ByteArray
 rank:SlP Rk
 cond:SlP Ex
 acts:SlP Ac
def Tg.cells (t:Tg):List Value:=[.string t.name,.string t.tab,.bool t.before,.int .i64 t.event,t.cols.v,.bool t.each,t.prec.v,t.foll.v,t.rank.v,t.cond.v,t.acts.v]
def ZY (d:Nat) (s:Se) (w:World):Prop:=ExIn d s.e w
def AcIn (d:Nat) (a:Ac) (w:World):Prop:=
 a.rows.In 1 (fun r=>[r.v]) (fun r w=>r.In 10 Ex.cells (ExIn d) w) w∧a.qs.In 4 Qu.cells (QuIn d) w∧a.sets.In 11 Se.cells (ZY d) w∧a.wh.In 10 Ex.cells (ExIn d) w
def Zt (s:ByteArray):List Value:=[.string s]
def TgIn (d:Nat) (t:Tg) (w:World):Prop:=
 t.cols.In 1 Zt (fun _ _=>True) w∧t.prec.In 1 Zt (fun _ _=>True) w∧t.foll.In 1 Zt (fun _ _=>True) w∧t.rank.In 4 Rk.cells (fun _ _=>True) w∧t.cond.In 10 Ex.cells (ExIn d) w∧t.acts.In 7 Ac.cells (AcIn d) w
def QN (r:Rk):Prop:=I64 r.lo∧I64 r.hi
def Z9:Nat→Ex→Ex
 | 0,e=>e
 | d+1,e=>if e.kind=5∧e.op=2 then (match e.args with|a::_=>Z9 d a|[]=>e) else e
def Yz (e:Ex) (tab col:ByteArray):Bool:=(e.kind==2)&&(e.nm.toList==col.toList)&&(e.tab.toList.isEmpty||e.tab.toList==tab.toList)
def ZL (e:Ex):Int × Bool:=
 match e.args with
 | [a]=>if e.kind=4∧a.kind=1 then (IntKind.i64.wrap (-a.v.i),decide (a.v.k=1)) else (e.v.i,decide (e.kind=1)&&decide (e.v.k=1))
 | _=>(e.v.i,decide (e.kind=1)&&decide (e.v.k=1))
def XI (d:Nat) (a:Ac) (col:ByteArray):Option (Int × Int):=
 match a.wh.l with
 | []=>none
 | e0::_=>
  let e:=Z9 d e0
  if a.kind=2∧e.kind=7 then
   match e.args with
   | [x,y,z]=>if Yz x a.tab col∧(ZL y).2∧(ZL z).2 then some ((ZL y).1,(ZL z).1) else none
   | _=>none
  else none
def XJ (s:Se) (tab:ByteArray):Option Int:=
 match s.e.args with
 | [c,k]=>if s.e.kind=5∧(s.e.op=9∨s.e.op=10)∧c.kind=2∧c.nm=s.col∧(c.tab=⟨#[]⟩∨c.tab=tab)∧k.kind=1∧k.v.k=1 then some (if s.e.op=9 then 3 else 4) else none
 | _=>none
def Yq (tab col:ByteArray) (s:Se):Option Int:=
 if s.col=col∧XJ s tab=some 4 then (match s.e.args with|[_,k]=>some k.v.i|_=>none) else none
def YN (a:Ac) (col:ByteArray):Option Int:=if a.kind=2 then a.sets.l.findSome? (Yq a.tab col) else none
def YH (d:Nat) (r:Rk) (a:Ac):Bool:=
 decide (a.kind=4)||(decide (a.tab=r.tab)&&(match YN a r.col,XI d a r.col with|some k,some (lo,hi)=>decide (1≤k)&&decide (r.lo≤lo)&&decide (hi≤r.hi)|_,_=>false))
def YO (d:Nat) (t:Tg) (r:Rk):Bool:=t.acts.l.all (YH d r)
def Xy (a:Ac):List ByteArray:=if a.kind=2 then a.sets.l.map Se.col else []
def Ya (r:Rk) (a:Ac):Bool:=
 if a.tab=r.tab then (if a.kind=1 then false else if a.kind=2∧((Xy a).any fun c=>decide (c=r.col))=true then (YN a r.col).isSome else true) else true
structure Fr where
 nm:ByteArray
 strict:Bool
 cols:SlP Col
 vals:SlP Vl
def Fr.cells (f:Fr):List Value:=[.string f.nm,.bool f.strict,f.cols.v,f.vals.v]
def XQ (l:List Fr):List Value:=l.flatMap Fr.cells
structure Sm where
 nm:ByteArray
 cols:SlP Col
def Sm.cells (s:Sm):List Value:=[.string s.nm,s.cols.v]
def WN (l:List Sm):List Value:=l.flatMap Sm.cells
theorem Zgc (l:List Sm):(WN l).length=l.length * 2:=Yu _ 2 (fun _=>rfl) l
def SlP.ColsIn (s:SlP Col) (w:World):Prop:=s.In 4 Col.cells (fun _ _=>True) w
def FrIn (f:Fr) (w:World):Prop:=f.cols.ColsIn w∧f.vals.In 3 Vl.cells (fun _ _=>True) w
def ZK (s:Sm) (w:World):Prop:=s.cols.ColsIn w
def FrsIn (s:SlP Fr) (w:World):Prop:=s.In 4 Fr.cells FrIn w
def SmsIn (s:SlP Sm) (w:World):Prop:=s.In 2 Sm.cells ZK w
def ExGd:Nat→Ex→Prop
 | 0,_=>False
 | d+1,e=>(I64 e.kind∧I64 e.op∧I64 e.v.k∧I64 e.v.i∧e.n≤e.c∧e.c≤9223372036854775807∧e.m≤e.d∧e.d≤9223372036854775807)∧(1≤e.kind∧e.args.length≤3∧e.sub.length≤1)∧(∀ a∈e.args,ExGd d a)∧∀ q∈e.sub,(q.n≤q.c∧q.c≤9223372036854775807∧q.m≤q.d∧q.d≤9223372036854775807)∧(q.items.length≤8∧q.wh.length≤1)∧(∀ a∈q.items,ExGd d a)∧∀ a∈q.wh,ExGd d a
def Jl (w:World) (T:Nat) (M:Nat→Prop) (d:Nat) (e:Ending) (w' :World):Prop:=
 ∃ x:Ex,e=.returned x.val∧ExGd d x∧Ro w' M (ExIn d x)∧Tp w' T∧w.grownBy w' (some T)
theorem Zo (n:Int) (h:(-9223372036854775808:Int)≤n∧n≤9223372036854775807):I64 n:=h
theorem Wu (v:Vl) (h1:I64 v.k) (h2:I64 v.i):ExGd 1 (Zz v):=⟨⟨Zo 1 (by decide),Zo 0 (by decide),h1,h2,Nat.le_refl _,by simp [Zz],Nat.le_refl _,by simp [Zz]⟩,⟨by simp [Zz],by simp [Zz],by simp [Zz]⟩,fun a ha=>(nomatch ha),fun q hq=>(nomatch hq)⟩
theorem Xa (t n:ByteArray):ExGd 1 (Zk t n):=⟨⟨Zo 2 (by decide),Zo 0 (by decide),Zo 0 (by decide),Zo 0 (by decide),Nat.le_refl _,by simp [Zk],Nat.le_refl _,by simp [Zk]⟩,⟨by simp [Zk],by simp [Zk],by simp [Zk]⟩,fun a ha=>(nomatch ha),fun q hq=>(nomatch hq)⟩
theorem YE {d:Nat} {kind op:Int} {nt:Bool} {g k:Nat} {l:List Ex} (h1:I64 kind) (h2:I64 op) (hk:k≤9223372036854775807) (h:∀ a∈l,ExGd d a) (hl:l.length≤3:=by simp) (hk0:1≤kind:=by omega):ExGd (d+1) (opE kind op nt g k l):=⟨⟨h1,h2,Zo 0 (by decide),Zo 0 (by decide),Nat.le_refl _,hk,Nat.le_refl _,by simp [opE]⟩,⟨hk0,hl,by simp [opE]⟩,h,fun q hq=>(nomatch hq)⟩
theorem ExGd.more:∀ {d:Nat} {e:Ex},ExGd d e→ExGd (d+1) e
 | 0,_,h=>h.elim
 | d+1,e,⟨h1,h4,h2,h3⟩=>⟨h1,h4,fun a ha=>(h2 a ha).more,fun q hq=>⟨(h3 q hq).1,(h3 q hq).2.1,fun a ha=>((h3 q hq).2.2.1 a ha).more,fun a ha=>((h3 q hq).2.2.2 a ha).more⟩⟩
theorem ExGd.le {d d' :Nat} {e:Ex} (h:ExGd d e) (hd:d≤d'):ExGd d' e:=by
 obtain ⟨k,rfl⟩:∃ k,d' =d+k:=⟨d' - d,by omega⟩
 clear hd
 induction k with
 | zero=>exact h
 | succ k ih=>exact ih.more
end Go.Proofs.YtnbbllkbefagmaaGreatDoor

import Derived.Test.YtnbbllkbefagmaaGreatDoorRkCtsSaidMA
import Derived.SizedLaws
import Derived.ProofKit
import Derived.OpenShut
import Derived.Lib.LaidTab
import Derived.Test.YtnbbllkbefagmaaGreatDoorProg
import Derived.WalkSpells
import Derived.Deep.QuietTactic
import Derived.BigQuiet
import Derived.WalkLawsBesides
import Derived.Deep.RegionHeld3
import Derived.Test.YtnbbllkbefagmaaGreatDoorRows
import Derived.Deep.DeepHandedRow
import Derived.Deep.AppendLies
namespace Go.Proofs.YtnbbllkbefagmaaGreatDoor
open Go.ChangeShapes Go.WideShapes Go.ChangeAt Go.RowKit
set_option linter.unusedVariables false
section
variable {H:Type} {enc:TypeId × Value→H} {P:Program}
theorem J6 {x:Int} (h:(Lit.int .i64 x).wf=true):I64 x:=by
 simp [Lit.wf,IntKind.min,IntKind.max,IntKind.signed,IntKind.bits] at h
 exact ⟨by omega,by omega⟩
theorem Zg6 {t e:TypeId} {W:World} {r:Reach} {b0:Nat} {v:Value} {d:DataW H} {p:List MemPlace} (ht:P.underlying t=some (.slice e)) (he:P.underlying e=some (.int .i64)) (hc:P.cellsOf e=1)
  (hok:Value.okWide P W r b0 t v) (h:DataW.Trod enc P W 0 (fun _=>true) true t v d p):
  ∃ A n c zs,v=.slice A n c∧Rd W W.heap.size 1 A n (zs.map (Value.int .i64))∧Ints zs∧n≤c∧c≤maxLen∧((d=.nil∧n=0)∨∃ el sp,d=.slice el sp∧el.length+sp.length=c):=by
 obtain ⟨A,n,c,rfl⟩:=okWide_slice ht hok
 obtain ⟨fuel,hf⟩:=h
 rcases open_ints ht he hc (by simpa [Value.cells] using hf) with ⟨hcs,hx⟩|⟨a,len,cap,zs,hcs,_,hl,hm,hz,hx,hcell,hwz⟩
 ·simp at hcs;obtain ⟨rfl,rfl,rfl⟩:=hcs
  simp only [Prod.mk.injEq] at hx
  exact ⟨none,0,0,[],rfl,Rd.none_,fun _ h=>(nomatch h),Nat.le_refl _,Nat.zero_le _,.inl ⟨hx.1,rfl⟩⟩
 ·simp at hcs;obtain ⟨rfl,rfl,rfl⟩:=hcs
  simp only [if_true] at hz
  simp only [Prod.mk.injEq] at hx
  refine ⟨some a,n,c,zs.take n,rfl,⟨by simp [hz];omega,fun hn=>?_⟩,fun x hx=>J6 (hwz x (List.mem_of_mem_take hx)),hl,hm,.inr ⟨_,_,hx.1,by simp [lits,hz];omega⟩⟩
  obtain ⟨b,off,rfl,hcc⟩:=ints_at hcell (by omega)
  refine ⟨b,off,rfl,World.block_lt_of_cell? W ⟨b,off+0,none⟩ (hcc 0 (by omega)),fun j u hu=>?_⟩
  have hj:j<n:=by have:=(List.getElem?_eq_some_iff.1 hu).1;simp [hz] at this;omega
  rw [hcc j (by omega)]
  rw [←hu]
  simp [List.getElem?_take_of_lt hj,List.getD,show j<zs.length by omega]
end
end Go.Proofs.YtnbbllkbefagmaaGreatDoor
namespace Go.Proofs.YtnbbllkbefagmaaGreatDoor
open Go.ChangeShapes Go.WideShapes Go.ChangeAt Go.RowKit
set_option linter.unusedVariables false
theorem Zag {P:Program} {W:World} {name:String} {bs:List (List UInt8)} {rest:List (String × DataW Unit)} {g:Nat} {t e:TypeId} {n:Nat}
  (hg:P.globalNamed name=some g) (hty:(P.globals[g]?).map (·.type)=some t) (ht:P.underlying t=some (.array n e)) (he:P.underlying e=some .string) (hce:P.cellsOf e=1)
  (h:laidMet P ((name,.agg (bs.map fun b=>.lit (.string b)))::rest) W):∀ i,i<n→∃ s:ByteArray,W.cell? ⟨g,i,none⟩=some (.string s)∧bs[i]? =some s.data.toList∧s.size≤maxLen:=by
 obtain ⟨ps,⟨g',t',cs,fuel,p,q,hg',ht',hvar,hd,_,_⟩,_⟩:=h
 obtain rfl:=Option.some.inj (hg.symm.trans hg')
 obtain rfl:=Option.some.inj (hty.symm.trans ht')
 obtain ⟨xs,m,_,hx,hlen,hxl,hel⟩:=DataW.trod_array ht hd
 intro i hi
 have h1:=hel i hi
 rw [hce,Nat.mul_one] at h1
 have hxi:xs[i]? =some (xs[i]'(by omega)):=List.getElem?_eq_getElem (by omega)
 rw [hxi] at h1
 obtain ⟨s,hs,hv,hm⟩:=DataW.trod_string he h1
 refine ⟨s,?_,?_,hm⟩
 ·have hc:=World.var?_cell hg hvar i
  rw [hc]
  have:(cs.toList.drop i).take 1=[.string s]:=hs
  have h2:cs.toList[i]? =some (.string s):=by
   have h3:((cs.toList.drop i).take 1)[0]? =some (.string s):=by rw [this];rfl
   simpa using h3
  simpa using h2
 ·have h4:(xs.map (·.1))[i]? =some (xs[i]'(by omega)).1:=by simp [hxi]
  simp only [Prod.mk.injEq] at hx
  have h5:(bs.map fun b=>(DataW.lit (.string b):DataW Unit))=xs.map (·.1):=by
   have:=hx.1;injection this
  rw [←h5,hv] at h4
  simp only [List.getElem?_map,Option.map_eq_some_iff] at h4
  obtain ⟨b,hb,hb2⟩:=h4
  injection hb2 with hb3
  injection hb3 with hb4
  rw [hb,hb4]
end Go.Proofs.YtnbbllkbefagmaaGreatDoor
namespace Go.Proofs.YtnbbllkbefagmaaGreatDoor
open Go.RowKit
set_option linter.unusedVariables false
def Tp (w:World) (T:Nat):Prop:=
 ∃ (A:Option Addr) (n c p:Nat) (zs:List Int),w.heap[T]? =some (.cells #[.slice A n c,.int .i64 p] 101 (0,0))∧p≤n∧n≤500∧Rd w T 1 A n (zs.map (Value.int .i64))∧Ints zs
theorem Tp.lt {w:World} {T:Nat} (h:Tp w T):T<w.heap.size:=by
 obtain ⟨A,n,c,p,zs,h,_⟩:=h
 rcases Nat.lt_or_ge T w.heap.size with hlt|hge
 ·exact hlt
 ·rw [Array.getElem?_eq_none hge] at h;cases h
theorem Tp.keep {w w' :World} {T:Nat} (h:Tp w T) (hk:∀ k,k≤T→w'.heap[k]? =w.heap[k]?):Tp w' T:=by
 obtain ⟨A,n,c,p,zs,h1,h2,h3,h4,h5⟩:=h
 exact ⟨A,n,c,p,zs,(hk T (Nat.le_refl _)).trans h1,h2,h3,h4.keep fun q hq=>World.cell?_of_block (w:=w) (hk q.block (by omega)),h5⟩
theorem Tp.grown {w w' :World} {T:Nat} {row:Option Nat} (h:Tp w T) (hg:w.grownBy w' row) (hr:∀ g,row=some g→T<g):Tp w' T:=
 h.keep fun k hk=>hg.block k (by have:=h.lt;omega) (fun e=>by have:=hr k e.symm;omega)
theorem Tp.alloc {w:World} {T:Nat} (h:Tp w T) (o:Obj):Tp (w.alloc o) T:=h.keep fun k hk=>Below.heap_alloc w o k (by have:=h.lt;omega)
theorem Tp.drewN {w:World} {T:Nat} (h:Tp w T) (n:Nat):Tp (w.drewN n) T:=h
theorem Tp.setCell {w:World} {T:Nat} (h:Tp w T) {p:Addr} (hp:T<p.block) (u:Value):Tp (w.setCell p u) T:=h.keep fun k hk=>Below.heap_setCell w p u k (by omega)
theorem Zgh (v n:Int) (h:0<n):(if v.tmod n<0 then v.tmod n+n else v.tmod n)=v % n:=by
 have h1:-n<v.tmod n:=Int.lt_tmod_of_pos v h
 have h2:v.tmod n<n:=Int.tmod_lt_of_pos v h
 have h3:v=n * (v.tdiv n)+v.tmod n:=(Int.mul_tdiv_add_tmod v n).symm
 split
 ·rename_i hlt
  have:v=(v.tmod n+n)+n * (v.tdiv n - 1):=by rw [Int.mul_sub,Int.mul_one];omega
  conv=>rhs;rw [this]
  rw [Int.add_mul_emod_self_left,Int.emod_eq_of_lt (by omega) (by omega)]
 ·conv=>rhs;rw [h3]
  rw [Int.add_comm,Int.add_mul_emod_self_left,Int.emod_eq_of_lt (by omega) (by omega)]
theorem Zbe {a b:Int} (h:a=b):Ending.returned (.int .i64 a)=.returned (.int .i64 b):=by rw [h]
set_option maxHeartbeats 400000 in
theorem ZaN (v n:Int) (w:World) (hv:I64 v) (h0:0<n) (h1:n≤9223372036854775807):
  Calls Tryz.prog 17 #[.int .i64 v,.int .i64 n] w fun e w' =>e=.returned (.int .i64 (v % n))∧w=w' :=by
 have hm:=Zgh v n h0
 have b1:-n<v.tmod n:=Int.lt_tmod_of_pos v h0
 have b2:v.tmod n<n:=Int.tmod_lt_of_pos v h0
 have hn:(n==0)=false:=by simp;omega
 obtain ⟨t,ht,ht'⟩:∃ t,IntKind.i64.wrap (v.tmod n)=t∧v.tmod n=t:=⟨_,IntWalk.i64_in _ (by omega),rfl⟩
 rw [ht'] at hm b1 b2
 obtain ⟨hv0,hv1⟩:=hv
 by_cases hlt:t<0
 ·have HM:Hid (t+n=v % n):=by rw [if_pos hlt] at hm;exact hm
  clear hm
  go_enter Tryz.func17,Tryz.ntmps17
  go_wp2
  go_ret
  exact ⟨Zbe HM.out,rfl⟩
 ·have HM:Hid (t=v % n):=by rw [if_neg hlt] at hm;exact hm
  clear hm
  go_enter Tryz.func17,Tryz.ntmps17
  go_wp2
  go_ret
  exact ⟨Zbe HM.out,rfl⟩
def Zgf (w:World) (T:Nat) (n:Int) (e:Ending) (w' :World):Prop:=
 ∃ r:Int,e=.returned (.int .i64 r)∧0≤r∧r<n∧Tp w' T∧w.grownBy w' (some T)
set_option maxHeartbeats 1000000 in
theorem ZQ (T:Nat) (n:Int) (w:World) (ht:Tp w T) (h0:0<n) (h1:n≤9223372036854775807):
  Calls Tryz.prog 31 #[.pointer (some ⟨T,0,none⟩),.int .i64 n] w fun e w' =>Zgf w T n e w' :=by
 obtain ⟨A,m,c,p,zs,hb,hp,hm,hr,hz⟩:=ht
 have hc0:w.cell? ⟨T,0,none⟩=some (.slice A m c):=cell_of_row w T 0 _ _ _ hb
 have hc1:w.cell? ⟨T,1,none⟩=some (.int .i64 p):=cell_of_row w T 1 _ _ _ hb
 have hf:w.frozen? ⟨T,1,none⟩=false:=by simp [World.frozen?,hb]
 have hl:zs.length=m:=by simpa using hr.1
 have HL:=hid hl;clear hl
 have HB:=hid hb;clear hb
 by_cases hlt:p<m
 ·obtain ⟨b,o,rfl,hbT,hc⟩:=hr.at1 hlt
  rw [Zfa _ _ _ (by rw [HL.out];omega)] at hc
  have bz:=hz.at_ p
  have HZ:=hid bz;clear bz
  go_enter Tryz.func31,Tryz.ntmps31
  go_wp2_with fail
  go_quiet (fail)
  go_wp2_with fail
  go_quiet ((go_at_call 17;first|exact Zds (ZaN _ _ _ HZ.out h0 h1)|exact ZcJ (ZaN _ _ _ HZ.out h0 h1)))
  go_wp2_with fail
  go_ret
  refine ⟨zs.getD p 0 % n,by simp [List.getD],Int.emod_nonneg _ (by omega),Int.emod_lt_of_pos _ h0,Tp.drewN ⟨_,m,c,p+1,zs,JV (g:=T) (w:=World.drewN _ _) HB.out 1 _,by omega,hm,Rd.setCell (Rd.drewN hr _) (Nat.le_refl _) _,hz⟩ _,?_⟩
  exact UL (UE (UL (World.grownBy.refl _ _) _) (.inl rfl) _) _
 ·go_enter Tryz.func31,Tryz.ntmps31
  go_wp2_with fail
  go_quiet (fail)
  go_wp2_with fail
  go_ret
  exact ⟨0,rfl,by omega,h0,Tp.drewN ⟨A,m,c,p,zs,HB.out,hp,hm,hr,hz⟩ _,UL (World.grownBy.refl _ _) _⟩
def Zdl (w:World) (T:Nat) (e:Ending) (w' :World):Prop:=
 ∃ r:Int,e=.returned (.int .i64 r)∧I64 r∧Tp w' T∧w.grownBy w' (some T)
set_option maxHeartbeats 1000000 in
theorem ZaF (T:Nat) (w:World) (ht:Tp w T):
  Calls Tryz.prog 34 #[.pointer (some ⟨T,0,none⟩)] w fun e w' =>Zdl w T e w' :=by
 go_enter Tryz.func34,Tryz.ntmps34
 go_wp2_with fail
 refine (ZQ T 8 _ ht (by omega) (by omega)).mono ?_
 rintro e w1 ⟨r,rfl,r0,r1,t1,g1⟩
 have hcase:r=0∨r=1∨r=2∨((r==0)=false∧(r==1)=false∧(r==2)=false):=by
  simp only [beq_eq_false_iff_ne];omega
 rcases hcase with rfl|rfl|rfl|⟨k0,k1,k2⟩
 ·go_wp2_with fail
  refine (ZQ T 3 _ t1 (by omega) (by omega)).mono ?_
  rintro e w2 ⟨s,rfl,s0,s1,t2,g2⟩
  go_wp2
  go_ret
  exact ⟨9223372036854775807 - s,rfl,by unfold I64;omega,t2,Ww g1 g2⟩
 ·go_wp2_with fail
  refine (ZQ T 3 _ t1 (by omega) (by omega)).mono ?_
  rintro e w2 ⟨s,rfl,s0,s1,t2,g2⟩
  go_wp2
  go_ret
  exact ⟨-9223372036854775808+s,rfl,by unfold I64;omega,t2,Ww g1 g2⟩
 ·go_wp2_with fail
  refine (ZQ T 9 _ t1 (by omega) (by omega)).mono ?_
  rintro e w2 ⟨s,rfl,s0,s1,t2,g2⟩
  go_wp2
  go_ret
  exact ⟨-s,rfl,by unfold I64;omega,t2,Ww g1 g2⟩
 ·go_wp2_with fail
  refine (ZQ T 9 _ t1 (by omega) (by omega)).mono ?_
  rintro e w2 ⟨s,rfl,s0,s1,t2,g2⟩
  go_wp2
  go_ret
  exact ⟨s,rfl,by unfold I64;omega,t2,Ww g1 g2⟩
def ZbR (w:World) (e:Ending) (w' :World):Prop:=
 ∃ T,e=.returned (.pointer (some ⟨T,0,none⟩))∧w.heap.size≤T∧Tp w' T∧Below w.heap.size w w'
set_option maxHeartbeats 1000000 in
theorem ZfZ (A:Option Addr) (n c:Nat) (zs:List Int) (w:World) (hr:Rd w w.heap.size 1 A n (zs.map (Value.int .i64))) (hz:Ints zs) (hn:n≤c) (hc:c≤9223372036854775807):
  Calls Tryz.prog 8 #[.slice A n c] w fun e w' =>ZbR w e w' :=by
 by_cases hlt:500<n
 ·go_enter Tryz.func8,Tryz.ntmps8
  go_wp2
  go_ret
  refine ⟨w.heap.size,rfl,Nat.le_refl _,⟨A,500,c,0,zs.take 500,heap_alloc_new w _,by omega,by omega,?_,fun x hx=>hz x (List.mem_of_mem_take hx)⟩,(Below.refl _ _).alloc (Nat.le_refl _) _⟩
  have:=(hr.Zhm (k:=500) (by omega)).alloc (Nat.le_refl _) (.cells #[.slice A 500 c,.int .i64 0] 101)
  simpa [List.map_take] using this
 ·go_enter Tryz.func8,Tryz.ntmps8
  go_wp2
  go_ret
  exact ⟨w.heap.size,rfl,Nat.le_refl _,⟨A,n,c,0,zs,heap_alloc_new w _,by omega,by omega,hr.alloc (Nat.le_refl _) _,hz⟩,(Below.refl _ _).alloc (Nat.le_refl _) _⟩
end Go.Proofs.YtnbbllkbefagmaaGreatDoor
namespace Go.Proofs.YtnbbllkbefagmaaGreatDoor
open Go.RowKit
set_option linter.unusedVariables false
set_option linter.unusedSimpArgs false
def Zev (w:World) (T:Nat) (e:Ending) (w' :World):Prop:=
 ∃ b:Bool,e=.returned (.bool b)∧Tp w' T∧w.grownBy w' (some T)
set_option maxHeartbeats 400000 in
theorem ZZ (T:Nat) (n:Int) (w:World) (ht:Tp w T) (h0:0<n) (h1:n≤9223372036854775807):
  Calls Tryz.prog 33 #[.pointer (some ⟨T,0,none⟩),.int .i64 n] w fun e w' =>Zev w T e w' :=by
 go_enter Tryz.func33,Tryz.ntmps33
 go_wp2_with fail
 refine (ZQ T n _ ht h0 h1).mono ?_
 rintro e w1 ⟨r,rfl,r0,r1,t1,g1⟩
 go_wp2
 go_ret
 exact ⟨_,rfl,t1,g1⟩
structure Vl where
 k:Int
 i:Int
 s:ByteArray
deriving DecidableEq
def Vy (c:UInt8):Bool:=decide (32≤c.toNat∧c.toNat≤126)
def Xo (s:ByteArray):Bool:=s.data.toList.all Vy&&decide (s.size≤64)
def YA (k i:Int) (s:ByteArray):Bool:=
 if k=0 then i==0&&s.toList.isEmpty else if k=1 then s.toList.isEmpty else if k=2 then (i==0||i==1)&&s.toList.isEmpty else if k=3 then i==0&&Xo s else false
end Go.Proofs.YtnbbllkbefagmaaGreatDoor
namespace Go.Proofs.YtnbbllkbefagmaaGreatDoor
open Go.RowKit
set_option linter.unusedVariables false
def Blk (w:World) (g:Nat) (t:TypeId) (cs:Array Value):Prop:=w.heap[g]? =some (.cells cs t (0,0))
section
variable {w w' w1:World} {g:Nat} {t:TypeId} {cs:Array Value}
theorem Blk.lt (h:Blk w g t cs):g<w.heap.size:=by
 rcases Nat.lt_or_ge g w.heap.size with hlt|hge
 ·exact hlt
 ·unfold Blk at h;rw [Array.getElem?_eq_none hge] at h;cases h
theorem Blk.cell (h:Blk w g t cs) (i:Nat):w.cell? ⟨g,i,none⟩=cs[i]? :=cell_of_row w g i cs t (0,0) h
theorem Blk.frozen (h:Blk w g t cs) (i:Nat):w.frozen? ⟨g,i,none⟩=false:=Gc h i
theorem Blk.new (w:World) (t:TypeId) (cs:Array Value):Blk (w.alloc (.cells cs t)) w.heap.size t cs:=heap_alloc_new w _
theorem Blk.grown {row:Option Nat} (h:Blk w g t cs) (hb:w.grownBy w' row) (hg:some g≠row):Blk w' g t cs:=(hb.block g h.lt hg).trans h
theorem Blk.c3 {x y z:Value} (h:Blk w g t #[x,y,z]):w.cell? ⟨g,0,none⟩=some x∧w.cell? ⟨g,1,none⟩=some y∧w.cell? ⟨g,2,none⟩=some z∧g<w.heap.size:=⟨h.cell 0,h.cell 1,h.cell 2,h.lt⟩
end
theorem Qa (w:World) (o:Obj):Below w.heap.size w (w.alloc o):=(Below.refl _ _).alloc (Nat.le_refl _) _
theorem ZeM (w:World) (o o' :Obj):Below w.heap.size w ((w.alloc o).alloc o'):=(Qa w o).alloc (by simp) _
end Go.Proofs.YtnbbllkbefagmaaGreatDoor
namespace Go.Proofs.YtnbbllkbefagmaaGreatDoor
open Go.RowKit
set_option linter.unusedVariables false
set_option linter.unusedSimpArgs false
def Wds (w:World):Prop:=∀ j,j<6→∃ s:ByteArray,w.cell? ⟨1,j,none⟩=some (.string s)∧Xo s=true∧s.size≤4
theorem Wds.keep {w w' :World} (h:Wds w) (hk:w'.heap[1]? =w.heap[1]?):Wds w' :=fun j hj=>by
 obtain ⟨s,h1,h2⟩:=h j hj
 exact ⟨s,(World.cell?_of_block (w:=w) (a:=⟨1,j,none⟩) hk).trans h1,h2⟩
theorem Wds.below {w w' :World} {B:Nat} (h:Wds w) (hb:Below B w w') (hB:1<B):Wds w' :=h.keep (hb.block _ hB)
theorem Wds.lt {w:World} (h:Wds w):1<w.heap.size:=by
 obtain ⟨s,h1,_⟩:=h 0 (by omega)
 exact World.block_lt_of_cell? w ⟨1,0,none⟩ h1
theorem Wds.grown {w w' :World} {row:Option Nat} (h:Wds w) (hg:w.grownBy w' row) (hr:some 1≠row):Wds w' :=h.keep (hg.block _ h.lt hr)
def Zg1 (w:World) (T:Nat) (e:Ending) (w' :World):Prop:=
 ∃ s:ByteArray,e=.returned (.string s)∧Xo s=true∧s.size≤4∧Tp w' T∧w.grownBy w' (some T)
set_option maxHeartbeats 400000 in
theorem ZaG (T:Nat) (w:World) (ht:Tp w T) (hw:Wds w) (hT:1<T):
  Calls Tryz.prog 157 #[.pointer (some ⟨T,0,none⟩)] w fun e w' =>Zg1 w T e w' :=by
 go_enter Tryz.func157,Tryz.ntmps157
 go_wp2_with fail
 refine (ZQ T 6 _ ht (by omega) (by omega)).mono ?_
 rintro e w1 ⟨r,rfl,r0,r1,t1,g1⟩
 have hw1:=hw.grown g1 (by intro e;injection e with e;omega)
 obtain ⟨r,rfl⟩:=Int.eq_ofNat_of_zero_le r0
 obtain ⟨s,hs,hp,hl⟩:=hw1 r (by omega)
 have HP:=hid hp;clear hp hw1 hw
 go_wp2
 go_ret
 exact ⟨s,rfl,HP.out,hl,t1,g1⟩
def J3 (w:World) (T:Nat) (K:Int→Int→ByteArray→Prop) (e:Ending) (w' :World):Prop:=
 ∃ (k i:Int) (s:ByteArray),e=.returned (.agg #[.int .i64 k,.int .i64 i,.string s])∧K k i s∧s.size≤80∧I64 i∧Tp w' T∧Wds w' ∧w.grownBy w' (some T)
def WY (kind k i:Int) (s:ByteArray):Prop:=YA k i s=true∧((kind=1∨kind=2∨kind=3)→k=kind)∧(¬(kind=1∨kind=2∨kind=3)→k=0)
theorem Zap:(⟨#[]⟩:ByteArray).toList=[]:=by kernel_rfl
theorem Zfv {w:World} {T g:Nat} (h:Tp w T) (hg:T<g) (x y z:Value):Tp (((w.setCell ⟨g,0,none⟩ x).setCell ⟨g,1,none⟩ y).setCell ⟨g,2,none⟩ z) T:=
 Tp.setCell (p:=⟨g,2,none⟩) (Tp.setCell (p:=⟨g,1,none⟩) (Tp.setCell (p:=⟨g,0,none⟩) h hg x) hg y) hg z
theorem ZgQ {a w:World} {T g:Nat} (h:a.grownBy w (some T)) (hg:a.heap.size≤g) (x y z:Value):a.grownBy (((w.setCell ⟨g,0,none⟩ x).setCell ⟨g,1,none⟩ y).setCell ⟨g,2,none⟩ z) (some T):=
 UE (p:=⟨g,2,none⟩) (UE (p:=⟨g,1,none⟩) (UE (p:=⟨g,0,none⟩) h (.inr hg) x) (.inr hg) y) (.inr hg) z
theorem Qh {w w1:World} {T g:Nat} {K:Int→Int→ByteArray→Prop} {k i:Int} {s:ByteArray} (hK:K k i s) (hs:s.size≤80) (hi:I64 i) (t1:Tp w1 T) (hTw:T<w.heap.size) (hw:Wds w) (hT:1<T)
  (g1:w.grownBy w1 (some T)) (hg:w.heap.size≤g):J3 w T K (.returned (.agg #[.int .i64 k,.int .i64 i,.string s])) (((w1.setCell ⟨g,0,none⟩ (.int .i64 k)).setCell ⟨g,1,none⟩ (.int .i64 i)).setCell ⟨g,2,none⟩ (.string s)):=by
 have g2:=ZgQ g1 hg (.int .i64 k) (.int .i64 i) (.string s)
 exact ⟨k,i,s,rfl,hK,hs,hi,Zfv t1 (by omega) _ _ _,hw.grown g2 (by intro e;injection e with e;omega),g2⟩
theorem Zd9 {kind:Int} (h:¬(kind=1∨kind=2∨kind=3)):WY kind 0 0 ⟨#[]⟩:=⟨by kernel_rfl,fun k=>absurd k h,fun _=>rfl⟩
theorem Zew (x:Int):WY 1 1 x ⟨#[]⟩:=⟨by simp [YA,Zap],fun _=>rfl,fun h=>absurd (.inl rfl) h⟩
theorem Zgn {x:Int} (h0:0≤x) (h1:x<2):WY 2 2 x ⟨#[]⟩:=⟨by
 obtain rfl|rfl:x=0∨x=1:=by omega
 all_goals simp [YA,Zap],fun _=>rfl,fun h=>absurd (.inr (.inl rfl)) h⟩
theorem Zf8 {s:ByteArray} (h:Xo s=true):WY 3 3 0 s:=⟨by simp [YA,h],fun _=>rfl,fun h=>absurd (.inr (.inr rfl)) h⟩
set_option maxHeartbeats 1000000 in
theorem UB (T:Nat) (kind:Int) (w:World) (ht:Tp w T) (hw:Wds w) (hT:1<T):
  Calls Tryz.prog 125 #[.pointer (some ⟨T,0,none⟩),.int .i64 kind] w fun e w' =>J3 w T (WY kind) e w' :=by
 have hlt:=ht.lt
 have B0:=Blk.new w 122 #[.int .i64 0,.int .i64 0,.string ⟨#[]⟩]
 have t0:=ht.alloc (.cells #[.int .i64 0,.int .i64 0,.string ⟨#[]⟩] 122)
 have g0:w.grownBy (w.alloc (.cells #[.int .i64 0,.int .i64 0,.string ⟨#[]⟩] 122)) (some T):=Jq (World.grownBy.refl _ _) _
 have w0:Wds (w.alloc (.cells #[.int .i64 0,.int .i64 0,.string ⟨#[]⟩] 122)):=hw.grown g0 (by intro e;injection e with e;omega)
 have hI0:I64 0:=by unfold I64;omega
 by_cases h1:kind=1
 ·subst h1
  go_enter Tryz.func125,Tryz.ntmps125
  go_wp2_with fail
  refine (ZaF T _ t0).mono ?_
  rintro e w1 ⟨x,rfl,hx,t1,g1⟩
  have B1:=B0.grown g1 (by intro e;injection e with e;omega)
  have g2:=Ww g0 g1
  obtain ⟨c0,c1,c2,cl⟩:=B1.c3
  have f0:=B1.frozen 0;have f1:=B1.frozen 1;have f2:=B1.frozen 2
  clear t0 g0 B0 w0 g1
  go_wp2
  exact bodyPost_ret (v:=.agg #[.int .i64 1,.int .i64 x,.string ⟨#[]⟩]) (by simp [results,Tryz.results125,go_sem,c0,c1,c2]) rfl (Qh (Zew x) (by decide) hx t1 hlt hw hT g2 (Nat.le_refl _))
 by_cases h2:kind=2
 ·subst h2
  go_enter Tryz.func125,Tryz.ntmps125
  go_wp2_with fail
  refine (ZQ T 2 _ t0 (by omega) (by omega)).mono ?_
  rintro e w1 ⟨x,rfl,x0,x1,t1,g1⟩
  have B1:=B0.grown g1 (by intro e;injection e with e;omega)
  have g2:=Ww g0 g1
  obtain ⟨c0,c1,c2,cl⟩:=B1.c3
  have f0:=B1.frozen 0;have f1:=B1.frozen 1;have f2:=B1.frozen 2
  clear t0 g0 B0 w0 g1
  go_wp2
  exact bodyPost_ret (v:=.agg #[.int .i64 2,.int .i64 x,.string ⟨#[]⟩]) (by simp [results,Tryz.results125,go_sem,c0,c1,c2]) rfl (Qh (Zgn x0 x1) (by decide) (by unfold I64;omega) t1 hlt hw hT g2 (Nat.le_refl _))
 by_cases h3:kind=3
 ·subst h3
  go_enter Tryz.func125,Tryz.ntmps125
  go_wp2_with fail
  refine (ZaG T _ t0 w0 hT).mono ?_
  rintro e w1 ⟨s,rfl,hp,hs,t1,g1⟩
  have B1:=B0.grown g1 (by intro e;injection e with e;omega)
  have g2:=Ww g0 g1
  obtain ⟨c0,c1,c2,cl⟩:=B1.c3
  have f0:=B1.frozen 0;have f1:=B1.frozen 1;have f2:=B1.frozen 2
  clear t0 g0 B0 w0 g1
  go_wp2
  exact bodyPost_ret (v:=.agg #[.int .i64 3,.int .i64 0,.string s]) (by simp [results,Tryz.results125,go_sem,c0,c1,c2]) rfl (Qh (Zf8 hp) (by omega) hI0 t1 hlt hw hT g2 (Nat.le_refl _))
 ·have k1:(kind==1)=false:=by simpa using h1
  have k2:(kind==2)=false:=by simpa using h2
  have k3:(kind==3)=false:=by simpa using h3
  have hn:¬(kind=1∨kind=2∨kind=3):=by omega
  have HN:=hid (Zd9 hn);clear hn
  go_enter Tryz.func125,Tryz.ntmps125
  clear h1 h2 h3
  go_wp2
  refine bodyPost_ret (v:=.agg #[.int .i64 0,.int .i64 0,.string ⟨#[]⟩]) (by simp [results,Tryz.results125,go_sem]) rfl ?_
  exact ⟨0,0,⟨#[]⟩,rfl,HN.out,by decide,hI0,t0,w0,g0⟩
end Go.Proofs.YtnbbllkbefagmaaGreatDoor
namespace Go.Proofs.YtnbbllkbefagmaaGreatDoor
open Go.ChangeShapes Go.WideShapes Go.ChangeAt Go.RowKit
set_option linter.unusedVariables false
set_option linter.unusedSimpArgs false
theorem Zgo : Tryz.prog.globalNamed "triggerstore/triggerstoreworld.words" = some 1 := by kernel_rfl
theorem Zeb:(Tryz.prog.globals[1]?).map (·.type)=some 279:=by kernel_rfl
def Zaj:List (List UInt8):=[[],[97],[98],[105,116,39,115],[90,32,122],[126]]
theorem Zfc:∀ b∈Zaj,(b.all Vy&&decide (b.length≤4))=true:=by decide
theorem ZcP {W : World} {rest : List (String × DataW Unit)} (h : laidMet Tryz.prog (("triggerstore/triggerstoreworld.words", Rows.laid_triggerstore_triggerstoreworld_words) :: rest) W) : Wds W := by
 intro j hj
 obtain ⟨s,h1,h2,_⟩:=Zag (bs:=Zaj) (rest:=rest) Zgo Zeb Tryz.underlying279 Tryz.underlying9 (by kernel_rfl) h j hj
 have h3:=Zfc _ (List.mem_of_getElem? h2)
 simp only [Bool.and_eq_true,decide_eq_true_eq] at h3
 have hs:s.size=s.data.toList.length:=(Array.length_toList (xs:=s.data)).symm
 refine ⟨s,h1,?_,by omega⟩
 unfold Xo
 rw [h3.1,Bool.true_and,decide_eq_true_eq]
 omega
noncomputable def Zbl (os:Os):World:=
 { World.holding Tryz.prog os ⟨#[],#[],[]⟩ with heap:=(World.holding Tryz.prog os ⟨#[],#[],[]⟩).heap.modify 1 fun
   | .cells _ t frozen=>.cells #[.string ⟨#[]⟩,.string ⟨#[97]⟩,.string ⟨#[98]⟩,.string ⟨#[105,116,39,115]⟩,.string ⟨#[90,32,122]⟩,.string ⟨#[126]⟩] t frozen
   | o=>o }
end Go.Proofs.YtnbbllkbefagmaaGreatDoor
namespace Go.Proofs.YtnbbllkbefagmaaGreatDoor
open Go.RowKit
set_option linter.unusedVariables false
inductive Hp where
 | blk (g:Nat) (t:TypeId) (cs:Array Value)
 | own (e:TypeId) (size:Nat) (v:Value) (n:Nat) (xs:List Value)
 | tp (T:Nat)
 | ro (S:World→Prop)
 | cst (g:Nat) (t:TypeId) (cs:Array Value)
 | ob (g:Nat) (F:World→Prop)
def Hp.foot:Hp→Option Nat
 | .blk g _ _=>some g
 | .own _ _ v _ _=>v.ownBlock
 | .tp T=>some T
 | .ro _=>none
 | .cst _ _ _=>none
 | .ob g _=>some g
def Mut (M:Nat→Prop) (L:List Hp) (b:Nat):Prop:=M b∨∃ h∈L,h.foot=some b
def Ro (w:World) (M:Nat→Prop) (S:World→Prop):Prop:=
 ∀ w' :World,w.heap.size≤w'.heap.size→(∀ b,b<w.heap.size→¬M b→w'.heap[b]? =w.heap[b]?)→S w'
theorem Ro.now {w:World} {M:Nat→Prop} {S:World→Prop} (h:Ro w M S):S w:=h w (Nat.le_refl _) (fun _ _ _=>rfl)
theorem Ro.step {w w' :World} {M M' :Nat→Prop} {S:World→Prop} (h:Ro w M S) (hs:w.heap.size≤w'.heap.size) (hb:∀ b,b<w.heap.size→¬M b→w'.heap[b]? =w.heap[b]?)
  (hM:∀ b,b<w.heap.size→M' b→M b):Ro w' M' S:=fun w2 h1 h2=>h w2 (Nat.le_trans hs h1) fun b hbl hn=>(h2 b (Nat.lt_of_lt_of_le hbl hs) (fun hm=>hn (hM b hbl hm))).trans (hb b hbl hn)
theorem Ro.less {w:World} {M M' :Nat→Prop} {S:World→Prop} (h:Ro w M S) (hM:∀ b,M' b→M b):Ro w M' S:=h.step (Nat.le_refl _) (fun _ _ _=>rfl) (fun b _ hb=>hM b hb)
theorem Ro.imp {w:World} {M:Nat→Prop} {S S' :World→Prop} (h:Ro w M S) (hi:∀ w,S w→S' w):Ro w M S' :=fun w2 h1 h2=>hi _ (h w2 h1 h2)
theorem Ro.and {w:World} {M:Nat→Prop} {S S' :World→Prop} (h:Ro w M S) (k:Ro w M S'):Ro w M (fun w=>S w∧S' w):=fun w2 h1 h2=>⟨h w2 h1 h2,k w2 h1 h2⟩
theorem Ro.grown {w w' :World} {M:Nat→Prop} {S:World→Prop} {T:Nat} (h:Ro w M S) (hb:w.grownBy w' (some T)) (hT:M T):Ro w' M S:=
 h.step hb.size (fun b hl hn=>hb.block b hl (fun e=>by injection e with e;subst e;exact hn hT)) (fun _ _ hm=>hm)
def Hp.sat (B:Nat) (w:World) (M:Nat→Prop):Hp→Prop
 | .blk g t cs=>w.heap[g]? =some (.cells cs t (0,0))
 | .own e size v n xs=>w.ownsRow B e size v n xs
 | .tp T=>Tp w T∧∀ b,M b→T≤b
 | .ro S=>Ro w M S
 | .cst g t cs=>Ro w M (fun w=>w.heap[g]? =some (.cells cs t (0,0)))
 | .ob g F=>∀ w' :World,w'.heap[g]? =w.heap[g]? →F w'
def Apart:List Hp→Prop
 | []=>True
 | h::L=>(∀ b,h.foot=some b→∀ k∈L,k.foot≠some b)∧Apart L
structure Hold (M:Nat→Prop) (row:Option Nat) (w0 w:World) (L:List Hp):Prop where
 grow:w0.grownBy w row
 low:∀ b,M b→b<w0.heap.size
 sat:∀ h∈L,h.sat w0.heap.size w (Mut M L)
 fresh:∀ h∈L,∀ b,h.foot=some b→(w0.heap.size≤b∨(row=some b∧h=.tp b))∧b<w.heap.size
 sep:Apart L
section
variable {M:Nat→Prop} {row:Option Nat} {w0 w w' :World} {L L' :List Hp}
theorem Hold.start (M:Nat→Prop) (w:World) (h:∀ b,M b→b<w.heap.size):Hold M none w w []:=
 ⟨World.grownBy.refl _ _,h,(fun _ h=>nomatch h),(fun _ h=>nomatch h),trivial⟩
theorem Hold.YY (M:Nat→Prop) (w:World) (T:Nat) (h:∀ b,M b→b<w.heap.size) (ht:Tp w T) (hM:∀ b,M b→T≤b):Hold M (some T) w w [.tp T]:=by
 refine ⟨World.grownBy.refl _ _,h,fun k hm=>?_,fun k hm b hf=>?_,⟨fun _ _ k hk=>by simp at hk,trivial⟩⟩
 ·simp only [List.mem_singleton] at hm;subst hm
  refine ⟨ht,fun b hb=>?_⟩
  rcases hb with hb|⟨k,hm,hf⟩
  ·exact hM b hb
  ·simp only [List.mem_singleton] at hm;subst hm;injection hf with hf;omega
 ·simp only [List.mem_singleton] at hm;subst hm;injection hf with hf;subst hf;exact ⟨.inr ⟨rfl,rfl⟩,ht.lt⟩
theorem Hold.Zc (h:Hold M row w0 w L):∀ b,Mut M L b→b<w.heap.size:=fun b hb=>by
 rcases hb with hb|⟨k,hk,hf⟩
 ·exact Nat.lt_of_lt_of_le (h.low b hb) h.grow.size
 ·exact (h.fresh k hk b hf).2
theorem Hold.below (h:Hold M none w0 w L):Below w0.heap.size w0 w:=⟨h.grow.os,h.grow.tape,h.grow.output,h.grow.size,fun k hk=>h.grow.block k hk (by simp)⟩
theorem ZG {k:Hp} {b:Nat}:Mut M (k::L) b↔(k.foot=some b∨Mut M L b):=by
 unfold Mut;simp only [List.mem_cons,exists_eq_or_imp]
 constructor
 ·rintro (h|h|h)
  ·exact .inr (.inl h)
  ·exact .inl h
  ·exact .inr (.inr h)
 ·rintro (h|h|h)
  ·exact .inr (.inl h)
  ·exact .inl h
  ·exact .inr (.inr h)
theorem Hp.YZ {B:Nat} {M M' :Nat→Prop} {k:Hp} (h:k.sat B w M) (hs:w.heap.size≤w'.heap.size) (hb:∀ b,b<w.heap.size→¬M b→w'.heap[b]? =w.heap[b]?)
  (hM:∀ b,b<w.heap.size→M' b→M b) (hT:∀ b,k.foot=some b→w'.heap[b]? =w.heap[b]?) (hlow:∀ T,k=.tp T→(∀ b,b<T→w'.heap[b]? =w.heap[b]?)):k.sat B w' M' :=by
 cases k with
 | blk g t cs=>exact (hT g rfl).trans h
 | own e size v n xs=>
  refine ⟨h.1,?_⟩
  rcases h.2 with hn|⟨g,cap,cur,rfl,hb',hgg,rest⟩
  ·exact .inl hn
  ·exact .inr ⟨g,cap,cur,rfl,hb',(hT g rfl).trans hgg,rest⟩
 | tp T=>
  refine ⟨h.1.keep fun b hbT=>?_,fun b hb' =>?_⟩
  ·rcases Nat.lt_or_ge b T with hlt|hge
   ·exact hlow T rfl b hlt
   ·obtain rfl:b=T:=by omega
    exact hT b rfl
  ·rcases Nat.lt_or_ge b w.heap.size with hlt|hge
   ·exact h.2 b (hM b hlt hb')
   ·have:=h.1.lt;omega
 | ro S=>exact h.step hs hb hM
 | cst g t cs=>exact Ro.step h hs hb hM
 | ob g F=>exact fun w2 h2=>h w2 (h2.trans (hT g rfl))
theorem Hold.call (h:Hold M row w0 w L) (hb:Below w.heap.size w w'):Hold M row w0 w' L:=
 ⟨Zeu h.grow hb,h.low,
  fun k hk=>Hp.YZ (k:=k) (h.sat k hk) hb.size (fun b hl _=>hb.block b hl) (fun _ _ hm=>hm) (fun b hf=>hb.block b (h.fresh k hk b hf).2)
   (fun T hT b hlt=>by
    have:=h.fresh k hk T (by subst hT;rfl)
    exact hb.block b (by omega)),
  fun k hk b hf=>⟨(h.fresh k hk b hf).1,Nat.lt_of_lt_of_le (h.fresh k hk b hf).2 hb.size⟩,h.sep⟩
theorem Hold.drew (h:Hold M row w0 w L):Hold M row w0 w.drew L:=
 ⟨ZgB h.grow,h.low,fun k hk=>Hp.YZ (k:=k) (h.sat k hk) (Nat.le_refl _) (fun _ _ _=>rfl) (fun _ _ hm=>hm) (fun _ _=>rfl) (fun _ _ _ _=>rfl),h.fresh,h.sep⟩
theorem Hold.drewN (h:Hold M row w0 w L) (n:Nat):Hold M row w0 (w.drewN n) L:=
 ⟨UL h.grow n,h.low,fun k hk=>Hp.YZ (k:=k) (h.sat k hk) (Nat.le_refl _) (fun _ _ _=>rfl) (fun _ _ hm=>hm) (fun _ _=>rfl) (fun _ _ _ _=>rfl),h.fresh,h.sep⟩
theorem Hold.alloc (h:Hold M row w0 w L) (cs:Array Value) (t:TypeId):Hold M row w0 (w.alloc (.cells cs t)) (.blk w.heap.size t cs::L):=by
 have hsz:(w.alloc (.cells cs t)).heap.size=w.heap.size+1:=by simp
 have hMM:∀ b,b<w.heap.size→Mut M (.blk w.heap.size t cs::L) b→Mut M L b:=fun b hl hm=>by
  rcases ZG.1 hm with hf|hm
  ·injection hf with hf;omega
  ·exact hm
 refine ⟨Jq h.grow _,h.low,fun k hk=>?_,fun k hk b hf=>?_,⟨fun b hf k hk he=>?_,h.sep⟩⟩
 ·rcases List.mem_cons.1 hk with rfl|hk
  ·exact heap_alloc_new w _
  ·exact Hp.YZ (k:=k) (h.sat k hk) (by omega) (fun b hl _=>Below.heap_alloc w _ b hl) hMM (fun b hf=>Below.heap_alloc w _ b (h.fresh k hk b hf).2)
    (fun T hT b hlt=>by
     have:=h.fresh k hk T (by subst hT;rfl)
     exact Below.heap_alloc w _ b (by omega))
 ·rcases List.mem_cons.1 hk with rfl|hk
  ·injection hf with hf;subst hf;exact ⟨.inl h.grow.size,by omega⟩
  ·exact ⟨(h.fresh k hk b hf).1,by have:=(h.fresh k hk b hf).2;omega⟩
 ·injection hf with hf;subst hf
  have:=(h.fresh k hk _ he).2;omega
theorem Apart.mem (h:Apart L) {i j:Nat} {a b:Hp} (hi:L[i]? =some a) (hj:L[j]? =some b) (hij:i≠j) {x:Nat} (ha:a.foot=some x):b.foot≠some x:=by
 induction L generalizing i j with
 | nil=>cases hi
 | cons c L ih=>
  obtain ⟨h1,h2⟩:=h
  cases i with
  | zero=>
   cases j with
   | zero=>exact absurd rfl hij
   | succ j=>simp only [List.getElem?_cons_zero,Option.some.injEq] at hi;subst hi;exact h1 x ha b (List.mem_of_getElem? (by simpa using hj))
  | succ i=>
   cases j with
   | zero=>
    simp only [List.getElem?_cons_zero,Option.some.injEq] at hj;subst hj
    intro hb
    exact h1 x hb a (List.mem_of_getElem? (by simpa using hi)) ha
   | succ j=>exact ih h2 (by simpa using hi) (by simpa using hj) (fun e=>hij (by omega))
theorem ZfC (h:∀ (i j:Nat) (a b:Hp),L[i]? =some a→L[j]? =some b→i≠j→∀ x,a.foot=some x→b.foot≠some x):Apart L:=by
 induction L with
 | nil=>trivial
 | cons c L ih=>
  refine ⟨fun x hx k hk=>?_,ih fun i j a b hi hj hij=>h (i+1) (j+1) a b (by simpa using hi) (by simpa using hj) (by omega)⟩
  obtain ⟨n,hn⟩:=List.getElem?_of_mem hk
  exact h 0 (n+1) c k rfl (by simpa using hn) (by omega) x hx
theorem Vb {k:Hp} {i j:Nat} {a:Hp} (h:(L.set i k)[j]? =some a):(i=j∧a=k)∨(i≠j∧L[j]? =some a):=by
 by_cases e:i=j
 ·subst e
  left
  rw [List.getElem?_set] at h
  simp only [if_true] at h
  split at h
  ·injection h with h;exact ⟨rfl,h.symm⟩
  ·cases h
 ·right
  rw [List.getElem?_set,if_neg e] at h
  exact ⟨e,h⟩
theorem Hold.turn (h:Hold M row w0 w L) (i:Nat) {k k' :Hp} (hi:L[i]? =some k) (hsz:w.heap.size≤w'.heap.size) (hos:w'.os=w.os∧w'.tape=w.tape∧w'.output=w.output)
  (hb:∀ b,b<w.heap.size→k.foot≠some b→w'.heap[b]? =w.heap[b]?)
  (hf:∀ b,k'.foot=some b→(k.foot=some b∨w.heap.size≤b)∧b<w'.heap.size)
  (hs:k'.sat w0.heap.size w' (Mut M (L.set i k'))) (hnt:∀ T,k=.tp T→k' =.tp T):Hold M row w0 w' (L.set i k'):=by
 have hkm:k∈L:=List.mem_of_getElem? hi
 have hMM:∀ b,b<w.heap.size→Mut M (L.set i k') b→Mut M L b:=fun b hl hm=>by
  rcases hm with hm|⟨a,ha,hfa⟩
  ·exact .inl hm
  ·obtain ⟨j,hj⟩:=List.getElem?_of_mem ha
   rcases Vb hj with ⟨rfl,rfl⟩|⟨_,hj⟩
   ·rcases (hf b hfa).1 with h1|h1
    ·exact .inr ⟨k,hkm,h1⟩
    ·omega
   ·exact .inr ⟨a,List.mem_of_getElem? hj,hfa⟩
 have hkM:∀ b,k.foot=some b→Mut M L b:=fun b hb=>.inr ⟨k,hkm,hb⟩
 refine ⟨⟨hos.1.trans h.grow.os,hos.2.1.trans h.grow.tape,hos.2.2.trans h.grow.output,Nat.le_trans h.grow.size hsz,fun b hl hne=>?_⟩,h.low,fun a ha=>?_,fun a ha b hfa=>?_,?_⟩
 ·refine (hb b (Nat.lt_of_lt_of_le hl h.grow.size) fun hk=>?_).trans (h.grow.block b hl hne)
  rcases (h.fresh k hkm b hk).1 with h1|h1
  ·omega
  ·exact hne h1.1.symm
 ·obtain ⟨j,hj⟩:=List.getElem?_of_mem ha
  rcases Vb hj with ⟨rfl,rfl⟩|⟨hij,hj⟩
  ·exact hs
  ·have ham:=List.mem_of_getElem? hj
   refine Hp.YZ (k:=a) (h.sat a ham) hsz (fun b hl hn=>hb b hl fun hk=>hn (hkM b hk)) hMM (fun b hfb=>hb b (h.fresh a ham b hfb).2 (h.sep.mem hj hi (fun e=>hij e.symm) hfb)) (fun T hT b hlt=>?_)
   subst hT
   have h1:=(h.fresh _ ham T rfl).2
   refine hb b (by omega) fun hk=>?_
   have h2:=(h.sat _ ham).2 b (hkM b hk)
   omega
 ·obtain ⟨j,hj⟩:=List.getElem?_of_mem ha
  rcases Vb hj with ⟨rfl,rfl⟩|⟨hij,hj⟩
  ·obtain ⟨h1,h2⟩:=hf b hfa
   rcases h1 with h1|h1
   ·refine ⟨?_,h2⟩
    rcases (h.fresh k hkm b h1).1 with h3|⟨h3,h4⟩
    ·exact .inl h3
    ·exact .inr ⟨h3,hnt b h4⟩
   ·exact ⟨.inl (Nat.le_trans h.grow.size h1),h2⟩
  ·have ham:=List.mem_of_getElem? hj
   exact ⟨(h.fresh a ham b hfa).1,Nat.lt_of_lt_of_le (h.fresh a ham b hfa).2 hsz⟩
 ·refine ZfC fun x y a b hx hy hxy g hg=>?_
  rcases Vb hx with ⟨rfl,rfl⟩|⟨hix,hx'⟩<;>rcases Vb hy with ⟨rfl,rfl⟩|⟨hiy,hy'⟩
  ·exact absurd rfl hxy
  ·rcases (hf g hg).1 with h1|h1
   ·exact h.sep.mem hi hy' hxy h1
   ·intro he;have:=(h.fresh b (List.mem_of_getElem? hy') g he).2;omega
  ·intro he
   rcases (hf g he).1 with h1|h1
   ·exact h.sep.mem hx' hi hxy hg h1
   ·have:=(h.fresh a (List.mem_of_getElem? hx') g hg).2;omega
  ·exact h.sep.mem hx' hy' hxy hg
theorem Hold.store (h:Hold M row w0 w L) (i:Nat) {g:Nat} {t:TypeId} {cs:Array Value} (hi:L[i]? =some (.blk g t cs)) (j:Nat) (u:Value):
  Hold M row w0 (w.setCell ⟨g,j,none⟩ u) (L.set i (.blk g t (cs.setIfInBounds j u))):=by
 have hkm:=List.mem_of_getElem? hi
 refine h.turn i hi (by simp [World.setCell]) ⟨rfl,rfl,rfl⟩ (fun b _ hne=>Below.heap_setCell w _ u b fun e=>hne (by rw [e];rfl)) (fun b hf=>?_) (JV (h.sat _ hkm) j u) (fun T hT=>by cases hT)
 have:some g=some b:=hf
 injection this with this
 subst this
 exact ⟨.inl rfl,by have:=(h.fresh _ hkm g rfl).2;simpa [World.setCell] using this⟩
theorem Hold.XT (h:Hold M row w0 w L) (i:Nat) {e:TypeId} {size n cap g:Nat} {xs:List Value} (hi:L[i]? =some (.own e size (.slice (some ⟨g,0,none⟩) n cap) n xs)) (j:Nat) (u:Value):
  Hold M row w0 (w.setCell ⟨g,j,none⟩ u) (L.set i (.own e size (.slice (some ⟨g,0,none⟩) n cap) n (xs.set j u))):=by
 have hkm:=List.mem_of_getElem? hi
 have hs:=World.ownsRow.stored (h.sat _ hkm) j u
 refine h.turn i hi (by simp [World.setCell]) ⟨rfl,rfl,rfl⟩ (fun b _ hne=>Below.heap_setCell w _ u b fun e=>hne (by rw [e];rfl)) (fun b hf=>?_) hs.1 (fun T hT=>by cases hT)
 have:some g=some b:=hf
 injection this with this
 subst this
 exact ⟨.inl rfl,by have:=(h.fresh _ hkm g rfl).2;simpa [World.setCell] using this⟩
theorem Hold.append (h:Hold M row w0 w L) (i:Nat) {e:TypeId} {size n n' g cap:Nat} {v:Value} {xs ys:List Value} (hi:L[i]? =some (.own e size v n xs))
  (ho:w'.ownsRow w0.heap.size e size (.slice (some ⟨g,0,none⟩) n' cap) n' ys) (hg:w.grownBy w' v.ownBlock) (hd:v.ownBlock=some g∨w.heap.size≤g) (hl:g<w'.heap.size):
  Hold M row w0 w' (L.set i (.own e size (.slice (some ⟨g,0,none⟩) n' cap) n' ys)):=by
 refine h.turn i hi hg.size ⟨hg.os,hg.tape,hg.output⟩ (fun b hl hne=>hg.block b hl fun e=>hne e.symm) (fun b hf=>?_) ho (fun T hT=>by cases hT)
 have:some g=some b:=hf
 injection this with this
 subst this
 exact ⟨hd,hl⟩
theorem Hold.Zf (h:Hold M row w0 w L) (i:Nat) {T:Nat} (hi:L[i]? =some (.tp T)) (hg:w.grownBy w' (some T)) (ht:Tp w' T):Hold M row w0 w' L:=by
 have hkm:=List.mem_of_getElem? hi
 have hlt:=(h.fresh _ hkm T rfl).2
 have:=h.turn (k' :=.tp T) i hi hg.size ⟨hg.os,hg.tape,hg.output⟩ (fun b hl hne=>hg.block b hl fun e=>hne e.symm) (fun b hf=>⟨.inl hf,by
  injection hf with hf;subst hf;exact Nat.lt_of_lt_of_le hlt hg.size⟩) ⟨ht,fun b hb=>by
   have hb' :Mut M L b:=by
    rcases hb with hb|⟨a,ha,hfa⟩
    ·exact .inl hb
    ·obtain ⟨j,hj⟩:=List.getElem?_of_mem ha
     rcases Vb hj with ⟨rfl,rfl⟩|⟨_,hj⟩
     ·exact .inr ⟨_,hkm,hfa⟩
     ·exact .inr ⟨a,List.mem_of_getElem? hj,hfa⟩
   exact (h.sat _ hkm).2 b hb'⟩ (fun T' hT' =>by injection hT' with hT';rw [hT'])
 have e:L.set i (.tp T)=L:=by
  apply List.ext_getElem?
  intro j
  rw [List.getElem?_set]
  split
  ·subst i;split
   ·exact hi.symm
   ·rw [List.getElem?_eq_none (by omega)]
  ·rfl
 rwa [e] at this
theorem Hold.add (h:Hold M row w0 w L) {S:World→Prop} (hr:Ro w (Mut M L) S):Hold M row w0 w (.ro S::L):=by
 have e:∀ b,Mut M (.ro S::L) b→Mut M L b:=fun b hb=>by
  rcases ZG.1 hb with hf|hm
  ·cases hf
  ·exact hm
 refine ⟨h.grow,h.low,fun k hk=>?_,fun k hk b hf=>?_,⟨(fun b hf=>nomatch hf),h.sep⟩⟩
 ·rcases List.mem_cons.1 hk with rfl|hk
  ·exact hr.less e
  ·exact Hp.YZ (k:=k) (h.sat k hk) (Nat.le_refl _) (fun _ _ _=>rfl) (fun b _ hb=>e b hb) (fun _ _=>rfl) (fun _ _ _ _=>rfl)
 ·rcases List.mem_cons.1 hk with rfl|hk
  ·cases hf
  ·exact h.fresh k hk b hf
theorem Hold.nil (h:Hold M row w0 w L) (e:TypeId) (size:Nat):Hold M row w0 w (.own e size (.slice none 0 0) 0 []::L):=by
 have ee:∀ b,Mut M (.own e size (.slice none 0 0) 0 []::L) b→Mut M L b:=fun b hb=>by
  rcases ZG.1 hb with hf|hm
  ·cases hf
  ·exact hm
 refine ⟨h.grow,h.low,fun k hk=>?_,fun k hk b hf=>?_,⟨(fun b hf=>nomatch hf),h.sep⟩⟩
 ·rcases List.mem_cons.1 hk with rfl|hk
  ·exact World.ownsRow_nil _ _ _ _
  ·exact Hp.YZ (k:=k) (h.sat k hk) (Nat.le_refl _) (fun _ _ _=>rfl) (fun b _ hb=>ee b hb) (fun _ _=>rfl) (fun _ _ _ _=>rfl)
 ·rcases List.mem_cons.1 hk with rfl|hk
  ·cases hf
  ·exact h.fresh k hk b hf
theorem Hold.Zbw (h:Hold M row w0 w L) (cs:Array Value) (t:TypeId) (size n:Nat) (hm:n≤maxLen) (hs:cs.size=n * size):
  Hold M row w0 (w.alloc (.cells cs t)) (.own t size (.slice (some ⟨w.heap.size,0,none⟩) n n) n cs.toList::L):=by
 have h1:=h.alloc cs t
 exact h1.turn (k' :=.own t size (.slice (some ⟨w.heap.size,0,none⟩) n n) n cs.toList) 0 rfl (Nat.le_refl _) ⟨rfl,rfl,rfl⟩ (fun _ _ _=>rfl) (fun b hf=>⟨.inl hf,(h1.fresh _ (List.mem_cons_self ..) b hf).2⟩)
  (World.ownsRow_lit w cs n h.grow.size hm hs) (fun T hT=>by cases hT)
theorem Hold.drop (h:Hold M row w0 w L) (hL:List.Sublist L' L):Hold M row w0 w L' :=by
 have e:∀ b,Mut M L' b→Mut M L b:=fun b hb=>by
  rcases hb with hb|⟨k,hk,hf⟩
  ·exact .inl hb
  ·exact .inr ⟨k,hL.subset hk,hf⟩
 refine ⟨h.grow,h.low,fun k hk=>Hp.YZ (k:=k) (h.sat k (hL.subset hk)) (Nat.le_refl _) (fun _ _ _=>rfl) (fun b _ hb=>e b hb) (fun _ _=>rfl) (fun _ _ _ _=>rfl),fun k hk=>h.fresh k (hL.subset hk),?_⟩
 have h1:=h.sep
 clear h e
 induction hL with
 | slnil=>trivial
 | cons _ _ ih=>exact ih h1.2
 | cons_cons a hs ih=>exact ⟨fun b hb k hk=>h1.1 b hb k (hs.subset hk),ih h1.2⟩
theorem Hold.Zbu (h:Hold M row w0 w L) (i:Nat) {k k' :Hp} (hi:L[i]? =some k) (hk:∀ T,k≠.tp T) (hk' :k'.foot=none) {S:World→Prop}
  (hS:∀ w2:World,k.sat w0.heap.size w (Mut M L)→(∀ b,k.foot=some b→w2.heap[b]? =w.heap[b]?)→S w2) (hs:Ro w (Mut M (L.set i k')) S→k'.sat w0.heap.size w (Mut M (L.set i k'))):Hold M row w0 w (L.set i k'):=by
 have hkm:=List.mem_of_getElem? hi
 refine h.turn i hi (Nat.le_refl _) ⟨rfl,rfl,rfl⟩ (fun _ _ _=>rfl) (fun b hf=>by rw [hk'] at hf;cases hf) (hs ?_) (fun T hT=>absurd hT (hk T))
 intro w2 h1 h2
 refine hS w2 (h.sat k hkm) fun b hf=>h2 b (h.fresh k hkm b hf).2 ?_
 rintro (hm|⟨a,ha,hfa⟩)
 ·rcases (h.fresh k hkm b hf).1 with h3|⟨h3,h4⟩
  ·have:=h.low b hm;omega
  ·exact absurd h4 (hk b)
 ·obtain ⟨j,hj⟩:=List.getElem?_of_mem ha
  rcases Vb hj with ⟨rfl,rfl⟩|⟨hij,hj⟩
  ·rw [hk'] at hfa;cases hfa
  ·exact h.sep.mem hi hj hij hf hfa
theorem Hold.Zhp (h:Hold M row w0 w L) (i:Nat) {k:Hp} (hi:L[i]? =some k) (hk:∀ T,k≠.tp T) {S:World→Prop}
  (hS:∀ w2:World,k.sat w0.heap.size w (Mut M L)→(∀ b,k.foot=some b→w2.heap[b]? =w.heap[b]?)→S w2):Hold M row w0 w (L.set i (.ro S)):=
 h.Zbu i hi hk rfl hS id
theorem Hold.JP (h:Hold M row w0 w L) (i:Nat) {g:Nat} {t:TypeId} {cs:Array Value} (hi:L[i]? =some (.blk g t cs)):Hold M row w0 w (L.set i (.cst g t cs)):=
 h.Zbu i hi (fun T e=>nomatch e) rfl (S:=fun w=>w.heap[g]? =some (.cells cs t (0,0))) (fun w2 h1 h2=>(h2 g rfl).trans h1) id
theorem Hold.Za (h:Hold M row w0 w L) (cs:Array Value) (t:TypeId):Hold M row w0 (w.alloc (.cells cs t)) (.cst w.heap.size t cs::L):=(h.alloc cs t).JP 0 rfl
theorem Hold.Zhu (h:Hold M row w0 w L) {T:Nat} (hb:Below w.heap.size w w') (ht:Tp w' T) (hT:w.heap.size≤T) (hm:∀ b,¬Mut M L b):Hold M row w0 w' (.tp T::L):=by
 have h1:=h.call hb
 have hM:∀ b,Mut M (.tp T::L) b→b=T:=fun b hb=>by
  rcases ZG.1 hb with hf|hm'
  ·injection hf with hf;exact hf.symm
  ·exact absurd hm' (hm b)
 have hfo:∀ k∈L,∀ b,k.foot≠some b:=fun k hk b hf=>hm b (.inr ⟨k,hk,hf⟩)
 refine ⟨h1.grow,h.low,fun k hk=>?_,fun k hk b hf=>?_,⟨fun b _ k hk=>hfo k hk b,h.sep⟩⟩
 ·rcases List.mem_cons.1 hk with rfl|hk
  ·exact ⟨ht,fun b hb=>by rw [hM b hb];exact Nat.le_refl _⟩
  ·exact Hp.YZ (k:=k) (h.sat k hk) hb.size (fun b hl _=>hb.block b hl) (fun b hl hm' =>by have:=hM b hm';omega) (fun b hf=>absurd hf (hfo k hk b)) (fun T' hT' =>absurd (by rw [hT'];rfl) (hfo k hk T'))
 ·rcases List.mem_cons.1 hk with rfl|hk
  ·injection hf with hf;subst hf;exact ⟨.inl (Nat.le_trans h.grow.size hT),ht.lt⟩
  ·exact absurd hf (hfo k hk b)
end
def Zm (w:World) (g:Nat):Nat→List Value→Prop
 | _,[]=>True
 | i,x::r=>w.cell? ⟨g,i,none⟩=some x∧w.frozen? ⟨g,i,none⟩=false∧Zm w g (i+1) r
def factsL (w:World):List Hp→Prop
 | []=>True
 | .blk g t cs::L=>g<w.heap.size∧Zm w g 0 cs.toList∧factsL w L
 | .own _ _ _ _ _::L=>factsL w L
 | .tp _::L=>factsL w L
 | .ro _::L=>factsL w L
 | .cst g t cs::L=>g<w.heap.size∧Zm w g 0 cs.toList∧factsL w L
 | .ob _ _::L=>factsL w L
theorem Qf {w:World} {g:Nat} {t:TypeId} {cs:Array Value} (h:w.heap[g]? =some (.cells cs t (0,0))):∀ (l:List Value) (i:Nat),(∀ j,l[j]? =cs[i+j]?)→Zm w g i l
 | [],_,_=>trivial
 | x::r,i,hl=>by
  refine ⟨?_,Gc h i,Qf h r (i+1) fun j=>?_⟩
  ·rw [cell_of_row w g i cs t (0,0) h];exact (hl 0).symm
  ·have:=hl (j+1);rw [show i+1+j=i+(j+1) from by omega];simpa using this
theorem WQ {w:World} {B:Nat} {M:Nat→Prop}:∀ {L:List Hp},(∀ h∈L,h.sat B w M)→(∀ h∈L,∀ b,h.foot=some b→b<w.heap.size)→factsL w L
 | [],_,_=>trivial
 | .blk g t cs::L,h,k=>⟨k _ (List.mem_cons_self ..) g rfl,Qf (h _ (List.mem_cons_self ..)) cs.toList 0 (by simp),WQ (fun a ha=>h a (List.mem_cons_of_mem _ ha)) (fun a ha=>k a (List.mem_cons_of_mem _ ha))⟩
 | .own ..::L,h,k=>WQ (L:=L) (fun a ha=>h a (List.mem_cons_of_mem _ ha)) (fun a ha=>k a (List.mem_cons_of_mem _ ha))
 | .tp _::L,h,k=>WQ (L:=L) (fun a ha=>h a (List.mem_cons_of_mem _ ha)) (fun a ha=>k a (List.mem_cons_of_mem _ ha))
 | .ro _::L,h,k=>WQ (L:=L) (fun a ha=>h a (List.mem_cons_of_mem _ ha)) (fun a ha=>k a (List.mem_cons_of_mem _ ha))
 | .ob _ _::L,h,k=>WQ (L:=L) (fun a ha=>h a (List.mem_cons_of_mem _ ha)) (fun a ha=>k a (List.mem_cons_of_mem _ ha))
 | .cst g t cs::L,h,k=>by
  have h1:w.heap[g]? =some (.cells cs t (0,0)):=Ro.now (show Ro w M (fun w=>w.heap[g]? =some (.cells cs t (0,0))) from h _ (List.mem_cons_self ..))
  refine ⟨?_,Qf h1 cs.toList 0 (by simp),WQ (fun a ha=>h a (List.mem_cons_of_mem _ ha)) (fun a ha=>k a (List.mem_cons_of_mem _ ha))⟩
  rcases Nat.lt_or_ge g w.heap.size with hlt|hge
  ·exact hlt
  ·rw [Array.getElem?_eq_none hge] at h1;cases h1
theorem Hold.facts {M:Nat→Prop} {row:Option Nat} {w0 w:World} {L:List Hp} (h:Hold M row w0 w L):factsL w L:=WQ h.sat fun a ha b hb=>(h.fresh a ha b hb).2
def neF (g:Nat):List Hp→Prop
 | []=>True
 | .blk g' _ _::L=>¬g=g' ∧¬g' =g∧neF g L
 | .own _ _ _ _ _::L=>neF g L
 | .tp T::L=>¬g=T∧¬T=g∧neF g L
 | .ro _::L=>neF g L
 | .cst _ _ _::L=>neF g L
 | .ob g' _::L=>¬g=g' ∧¬g' =g∧neF g L
def Wj:List Hp→Prop
 | []=>True
 | .blk g _ _::L=>neF g L∧Wj L
 | .own _ _ _ _ _::L=>Wj L
 | .tp T::L=>neF T L∧Wj L
 | .ro _::L=>Wj L
 | .cst _ _ _::L=>Wj L
 | .ob g _::L=>neF g L∧Wj L
theorem Wd {g:Nat}:∀ {L:List Hp},(∀ k∈L,k.foot≠some g)→neF g L
 | [],_=>trivial
 | .blk g' _ _::L,h=>⟨fun e=>h _ (List.mem_cons_self ..) (by rw [e];rfl),fun e=>h _ (List.mem_cons_self ..) (by rw [←e];rfl),Wd fun k hk=>h k (List.mem_cons_of_mem _ hk)⟩
 | .own ..::L,h=>Wd (L:=L) fun k hk=>h k (List.mem_cons_of_mem _ hk)
 | .tp T::L,h=>⟨fun e=>h _ (List.mem_cons_self ..) (by rw [e];rfl),fun e=>h _ (List.mem_cons_self ..) (by rw [←e];rfl),Wd fun k hk=>h k (List.mem_cons_of_mem _ hk)⟩
 | .ro _::L,h=>Wd (L:=L) fun k hk=>h k (List.mem_cons_of_mem _ hk)
 | .cst ..::L,h=>Wd (L:=L) fun k hk=>h k (List.mem_cons_of_mem _ hk)
 | .ob g' _::L,h=>⟨fun e=>h _ (List.mem_cons_self ..) (by rw [e];rfl),fun e=>h _ (List.mem_cons_self ..) (by rw [←e];rfl),Wd fun k hk=>h k (List.mem_cons_of_mem _ hk)⟩
theorem WX:∀ {L:List Hp},Apart L→Wj L
 | [],_=>trivial
 | .blk g _ _::L,h=>⟨Wd (h.1 g rfl),WX h.2⟩
 | .own ..::L,h=>WX (L:=L) h.2
 | .tp T::L,h=>⟨Wd (h.1 T rfl),WX h.2⟩
 | .ro _::L,h=>WX (L:=L) h.2
 | .cst ..::L,h=>WX (L:=L) h.2
 | .ob g _::L,h=>⟨Wd (h.1 g rfl),WX h.2⟩
theorem Hold.nes {M:Nat→Prop} {row:Option Nat} {w0 w:World} {L:List Hp} (h:Hold M row w0 w L):Wj L:=WX h.sep
theorem Hold.get {M:Nat→Prop} {row:Option Nat} {w0 w:World} {L:List Hp} (h:Hold M row w0 w L) (i:Nat) {k:Hp} (hi:L[i]? =some k):k.sat w0.heap.size w (Mut M L):=h.sat k (List.mem_of_getElem? hi)
theorem Hold.ro {M:Nat→Prop} {row:Option Nat} {w0 w:World} {L:List Hp} (h:Hold M row w0 w L) (i:Nat) {S:World→Prop} (hi:L[i]? =some (.ro S)):Ro w (Mut M L) S:=h.get i hi
theorem Hold.ZB {M:Nat→Prop} {row:Option Nat} {w0 w:World} {L:List Hp} (h:Hold M row w0 w L) (i:Nat) {g:Nat} {t:TypeId} {cs:Array Value} (hi:L[i]? =some (.cst g t cs)):Blk w g t cs:=Ro.now (S:=fun w=>w.heap[g]? =some (.cells cs t (0,0))) (h.get i hi)
theorem Hold.Zy {M:Nat→Prop} {row:Option Nat} {w0 w:World} {L:List Hp} (h:Hold M row w0 w L) (i:Nat) {g:Nat} {t:TypeId} {cs:Array Value} (hi:L[i]? =some (.blk g t cs)):Blk w g t cs:=h.get i hi
theorem Hold.tp_ {M:Nat→Prop} {row:Option Nat} {w0 w:World} {L:List Hp} (h:Hold M row w0 w L) (i:Nat) {T:Nat} (hi:L[i]? =some (.tp T)):Tp w T:=(h.get i hi).1
theorem Hold.YM {M:Nat→Prop} {row:Option Nat} {w0 w:World} {L:List Hp} (h:Hold M row w0 w L) (i:Nat) {S:World→Prop} (hi:L[i]? =some (.ro S)):Ro w M S:=(h.ro i hi).less fun b hb=>.inl hb
theorem Hold.Zht {M:Nat→Prop} {row:Option Nat} {w0 w:World} {L:List Hp} (h:Hold M row w0 w L) (o:Obj) (F:World→Prop) (hF:∀ w' :World,w'.heap[w.heap.size]? =some o→F w'):Hold M row w0 (w.alloc o) (.ob w.heap.size F::L):=by
 have hsz:(w.alloc o).heap.size=w.heap.size+1:=by simp
 have hnew:(w.alloc o).heap[w.heap.size]? =some o:=heap_alloc_new w _
 have hMM:∀ b,b<w.heap.size→Mut M (.ob w.heap.size F::L) b→Mut M L b:=fun b hl hm=>by
  rcases ZG.1 hm with hf|hm
  ·injection hf with hf;omega
  ·exact hm
 refine ⟨Jq h.grow _,h.low,fun k hk=>?_,fun k hk b hf=>?_,⟨fun b hf k hk he=>?_,h.sep⟩⟩
 ·rcases List.mem_cons.1 hk with rfl|hk
  ·exact fun w' hw' =>hF w' (hw'.trans hnew)
  ·exact Hp.YZ (k:=k) (h.sat k hk) (by omega) (fun b hl _=>Below.heap_alloc w _ b hl) hMM (fun b hf=>Below.heap_alloc w _ b (h.fresh k hk b hf).2)
    (fun T hT b hlt=>by
     have:=h.fresh k hk T (by subst hT;rfl)
     exact Below.heap_alloc w _ b (by omega))
 ·rcases List.mem_cons.1 hk with rfl|hk
  ·injection hf with hf;subst hf;exact ⟨.inl h.grow.size,by omega⟩
  ·exact ⟨(h.fresh k hk b hf).1,by have:=(h.fresh k hk b hf).2;omega⟩
 ·injection hf with hf;subst hf
  have:=(h.fresh k hk _ he).2;omega
theorem Hold.Zhy {M:Nat→Prop} {row:Option Nat} {w0 w w' :World} {L:List Hp} (h:Hold M row w0 w L) (i:Nat) {g:Nat} {F F' :World→Prop} (hi:L[i]? =some (.ob g F)) (hg:w.grownBy w' (some g)) (hF:∀ w2:World,w2.heap[g]? =w'.heap[g]? →F' w2):Hold M row w0 w' (L.set i (.ob g F')):=by
 have hkm:=List.mem_of_getElem? hi
 refine h.turn i hi hg.size ⟨hg.os,hg.tape,hg.output⟩ (fun b hl hne=>hg.block b hl fun e=>hne e.symm) (fun b hf=>⟨.inl hf,by
  injection hf with hf;subst hf;exact Nat.lt_of_lt_of_le (h.fresh _ hkm g rfl).2 hg.size⟩) hF (fun T hT=>by cases hT)
theorem Hold.ob_ {M:Nat→Prop} {row:Option Nat} {w0 w:World} {L:List Hp} (h:Hold M row w0 w L) (i:Nat) {g:Nat} {F:World→Prop} (hi:L[i]? =some (.ob g F)):F w:=h.get i hi w rfl
def Zb (b:Nat):Prop:=False
theorem Hold.YD (w:World):Hold Zb none w w []:=Hold.start Zb w (fun b hb=>hb.elim)
theorem zm {M:Nat→Prop} {L:List Hp}:∀ b,M b→Mut M L b:=fun b hb=>.inl hb
theorem zn {M:Nat→Prop}:∀ b,Zb b→M b:=fun b h=>h.elim
theorem zg:(∀ w:World,factsL w []=True)∧(∀ (w:World) g t (cs:Array Value) L,factsL w (.blk g t cs::L)=(g<w.heap.size∧Zm w g 0 cs.toList∧factsL w L))∧(∀ (w:World) a b c d e L,factsL w (.own a b c d e::L)=factsL w L)∧(∀ (w:World) T L,factsL w (.tp T::L)=factsL w L)∧(∀ (w:World) S L,factsL w (.ro S::L)=factsL w L)∧(∀ (w:World) g t (cs:Array Value) L,factsL w (.cst g t cs::L)=(g<w.heap.size∧Zm w g 0 cs.toList∧factsL w L))∧(∀ (w:World) g F L,factsL w (.ob g F::L)=factsL w L)∧(∀ (w:World) g i,Zm w g i []=True)∧(∀ (w:World) g x r,Zm w g 0 (x::r)=(w.cell? ⟨g,0,none⟩=some x∧w.frozen? ⟨g,0,none⟩=false∧Zm w g 1 r))∧(∀ (w:World) g x r,Zm w g 1 (x::r)=(w.cell? ⟨g,1,none⟩=some x∧w.frozen? ⟨g,1,none⟩=false∧Zm w g 2 r))∧(∀ (w:World) g x r,Zm w g 2 (x::r)=(w.cell? ⟨g,2,none⟩=some x∧w.frozen? ⟨g,2,none⟩=false∧Zm w g 3 r))∧(∀ (w:World) g x r,Zm w g 3 (x::r)=(w.cell? ⟨g,3,none⟩=some x∧w.frozen? ⟨g,3,none⟩=false∧Zm w g 4 r))∧(∀ (w:World) g x r,Zm w g 4 (x::r)=(w.cell? ⟨g,4,none⟩=some x∧w.frozen? ⟨g,4,none⟩=false∧Zm w g 5 r))∧(∀ (w:World) g x r,Zm w g 5 (x::r)=(w.cell? ⟨g,5,none⟩=some x∧w.frozen? ⟨g,5,none⟩=false∧Zm w g 6 r))∧(∀ (w:World) g x r,Zm w g 6 (x::r)=(w.cell? ⟨g,6,none⟩=some x∧w.frozen? ⟨g,6,none⟩=false∧Zm w g 7 r))∧(∀ (w:World) g x r,Zm w g 7 (x::r)=(w.cell? ⟨g,7,none⟩=some x∧w.frozen? ⟨g,7,none⟩=false∧Zm w g 8 r))∧(∀ (w:World) g x r,Zm w g 8 (x::r)=(w.cell? ⟨g,8,none⟩=some x∧w.frozen? ⟨g,8,none⟩=false∧Zm w g 9 r))∧(∀ (w:World) g x r,Zm w g 9 (x::r)=(w.cell? ⟨g,9,none⟩=some x∧w.frozen? ⟨g,9,none⟩=false∧Zm w g 10 r))∧(∀ (w:World) g x r,Zm w g 10 (x::r)=(w.cell? ⟨g,10,none⟩=some x∧w.frozen? ⟨g,10,none⟩=false∧Zm w g 11 r))∧(∀ (w:World) g x r,Zm w g 11 (x::r)=(w.cell? ⟨g,11,none⟩=some x∧w.frozen? ⟨g,11,none⟩=false∧Zm w g 12 r))∧(∀ (w:World) g x r,Zm w g 12 (x::r)=(w.cell? ⟨g,12,none⟩=some x∧w.frozen? ⟨g,12,none⟩=false∧Zm w g 13 r))∧(∀ (w:World) g x r,Zm w g 13 (x::r)=(w.cell? ⟨g,13,none⟩=some x∧w.frozen? ⟨g,13,none⟩=false∧Zm w g 14 r))∧(∀ (w:World) g x r,Zm w g 14 (x::r)=(w.cell? ⟨g,14,none⟩=some x∧w.frozen? ⟨g,14,none⟩=false∧Zm w g 15 r))∧(∀ (w:World) g x r,Zm w g 15 (x::r)=(w.cell? ⟨g,15,none⟩=some x∧w.frozen? ⟨g,15,none⟩=false∧Zm w g 16 r))∧(∀ (w:World) g x r,Zm w g 16 (x::r)=(w.cell? ⟨g,16,none⟩=some x∧w.frozen? ⟨g,16,none⟩=false∧Zm w g 17 r))∧(∀ (w:World) (o:Obj),(w.alloc o).heap.size=w.heap.size+1)∧(∀ w:World,w.drew.heap.size=w.heap.size)∧(∀ {α:Type} {l:List α},l.toArray.toList=l)∧(∀ p:Prop,(p∧True)=p)∧(∀ p:Prop,(True∧p)=p)∧(∀ {α:Type} {x:α} {xs:List α} {a:α},(x::xs).set 0 a=a::xs)∧(∀ {α:Type} {x:α} {xs:List α} {i:Nat} {a:α},(x::xs).set (i+1) a=x::xs.set i a)∧(∀ {α:Type} (l:List α) (i:Nat) (a:α),l.toArray.setIfInBounds i a=(l.set i a).toArray):=⟨fun _=>rfl,fun _ _ _ _ _=>rfl,fun _ _ _ _ _ _ _=>rfl,fun _ _ _=>rfl,fun _ _ _=>rfl,fun _ _ _ _ _=>rfl,fun _ _ _ _=>rfl,fun _ _ _=>rfl,fun _ _ _ _=>rfl,fun _ _ _ _=>rfl,fun _ _ _ _=>rfl,fun _ _ _ _=>rfl,fun _ _ _ _=>rfl,fun _ _ _ _=>rfl,fun _ _ _ _=>rfl,fun _ _ _ _=>rfl,fun _ _ _ _=>rfl,fun _ _ _ _=>rfl,fun _ _ _ _=>rfl,fun _ _ _ _=>rfl,fun _ _ _ _=>rfl,fun _ _ _ _=>rfl,fun _ _ _ _=>rfl,fun _ _ _ _=>rfl,fun _ _ _ _=>rfl,World.size_alloc,World.size_drew,List.toList_toArray,and_true,true_and,List.set_cons_zero,List.set_cons_succ,List.setIfInBounds_toArray⟩
end Go.Proofs.YtnbbllkbefagmaaGreatDoor

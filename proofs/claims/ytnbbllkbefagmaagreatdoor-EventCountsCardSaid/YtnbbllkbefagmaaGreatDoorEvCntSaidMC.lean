import Derived.Test.YtnbbllkbefagmaaGreatDoorEvCntSaidMA
import Derived.SizedLaws
import Derived.ProofKit
import Derived.OpenShut
import Derived.Lib.LaidTab
import Derived.Test.YtnbbllkbefagmaaGreatDoorProg
import Derived.WalkSpells
import Derived.Deep.QuietTactic
import Derived.BigQuiet
import Derived.WalkLawsBesides
import Derived.Deep.RegionHeld3
import Derived.Test.YtnbbllkbefagmaaGreatDoorRows
import Derived.Deep.DeepHandedRow
import Derived.Deep.AppendLies
import Derived.Maps.AppendAt
import Derived.OwnWalk
import Derived.Laws.MakeOwn
import Derived.StillTailTactics
namespace Go.Proofs.YtnbbllkbefagmaaGreatDoor
open Go.ChangeShapes Go.WideShapes Go.ChangeAt Go.RowKit
set_option linter.unusedVariables false
section
variable {H:Type} {enc:TypeId × Value→H} {P:Program}
theorem Zev {x:Int} (h:(Lit.int .i64 x).wf=true):I64 x:=by
 simp [Lit.wf,IntKind.min,IntKind.max,IntKind.signed,IntKind.bits] at h
 exact ⟨by omega,by omega⟩
theorem ZgI {t e:TypeId} {W:World} {r:Reach} {b0:Nat} {v:Value} {d:DataW H} {p:List MemPlace} (ht:P.underlying t=some (.slice e)) (he:P.underlying e=some (.int .i64)) (hc:P.cellsOf e=1)
  (hok:Value.okWide P W r b0 t v) (h:DataW.Trod enc P W 0 (fun _=>true) true t v d p):
  ∃ A n c zs,v=.slice A n c∧Rd W W.heap.size 1 A n (zs.map (Value.int .i64))∧Ints zs∧n≤c∧c≤maxLen∧((d=.nil∧n=0)∨∃ el sp,d=.slice el sp∧el.length+sp.length=c):=by
 obtain ⟨A,n,c,rfl⟩:=okWide_slice ht hok
 obtain ⟨fuel,hf⟩:=h
 rcases open_ints ht he hc (by simpa [Value.cells] using hf) with ⟨hcs,hx⟩|⟨a,len,cap,zs,hcs,_,hl,hm,hz,hx,hcell,hwz⟩
 ·simp at hcs;obtain ⟨rfl,rfl,rfl⟩:=hcs
  simp only [Prod.mk.injEq] at hx
  exact ⟨none,0,0,[],rfl,Rd.none_,fun _ h=>(nomatch h),Nat.le_refl _,Nat.zero_le _,.inl ⟨hx.1,rfl⟩⟩
 ·simp at hcs;obtain ⟨rfl,rfl,rfl⟩:=hcs
  simp only [if_true] at hz
  simp only [Prod.mk.injEq] at hx
  refine ⟨some a,n,c,zs.take n,rfl,⟨by simp [hz];omega,fun hn=>?_⟩,fun x hx=>Zev (hwz x (List.mem_of_mem_take hx)),hl,hm,.inr ⟨_,_,hx.1,by simp [lits,hz];omega⟩⟩
  obtain ⟨b,off,rfl,hcc⟩:=ints_at hcell (by omega)
  refine ⟨b,off,rfl,World.block_lt_of_cell? W ⟨b,off+0,none⟩ (hcc 0 (by omega)),fun j u hu=>?_⟩
  have hj:j<n:=by have:=(List.getElem?_eq_some_iff.1 hu).1;simp [hz] at this;omega
  rw [hcc j (by omega)]
  rw [←hu]
  simp [List.getElem?_take_of_lt hj,List.getD,show j<zs.length by omega]
end
end Go.Proofs.YtnbbllkbefagmaaGreatDoor
namespace Go.Proofs.YtnbbllkbefagmaaGreatDoor
open Go.ChangeShapes Go.WideShapes Go.ChangeAt Go.RowKit
set_option linter.unusedVariables false
theorem ZaW {P:Program} {W:World} {name:String} {bs:List (List UInt8)} {rest:List (String × DataW Unit)} {g:Nat} {t e:TypeId} {n:Nat}
  (hg:P.globalNamed name=some g) (hty:(P.globals[g]?).map (·.type)=some t) (ht:P.underlying t=some (.array n e)) (he:P.underlying e=some .string) (hce:P.cellsOf e=1)
  (h:laidMet P ((name,.agg (bs.map fun b=>.lit (.string b)))::rest) W):∀ i,i<n→∃ s:ByteArray,W.cell? ⟨g,i,none⟩=some (.string s)∧bs[i]? =some s.data.toList∧s.size≤maxLen:=by
 obtain ⟨ps,⟨g',t',cs,fuel,p,q,hg',ht',hvar,hd,_,_⟩,_⟩:=h
 obtain rfl:=Option.some.inj (hg.symm.trans hg')
 obtain rfl:=Option.some.inj (hty.symm.trans ht')
 obtain ⟨xs,m,_,hx,hlen,hxl,hel⟩:=DataW.trod_array ht hd
 intro i hi
 have h1:=hel i hi
 rw [hce,Nat.mul_one] at h1
 have hxi:xs[i]? =some (xs[i]'(by omega)):=List.getElem?_eq_getElem (by omega)
 rw [hxi] at h1
 obtain ⟨s,hs,hv,hm⟩:=DataW.trod_string he h1
 refine ⟨s,?_,?_,hm⟩
 ·have hc:=World.var?_cell hg hvar i
  rw [hc]
  have:(cs.toList.drop i).take 1=[.string s]:=hs
  have h2:cs.toList[i]? =some (.string s):=by
   have h3:((cs.toList.drop i).take 1)[0]? =some (.string s):=by rw [this];rfl
   simpa using h3
  simpa using h2
 ·have h4:(xs.map (·.1))[i]? =some (xs[i]'(by omega)).1:=by simp [hxi]
  simp only [Prod.mk.injEq] at hx
  have h5:(bs.map fun b=>(DataW.lit (.string b):DataW Unit))=xs.map (·.1):=by
   have:=hx.1;injection this
  rw [←h5,hv] at h4
  simp only [List.getElem?_map,Option.map_eq_some_iff] at h4
  obtain ⟨b,hb,hb2⟩:=h4
  injection hb2 with hb3
  injection hb3 with hb4
  rw [hb,hb4]
end Go.Proofs.YtnbbllkbefagmaaGreatDoor
namespace Go.Proofs.YtnbbllkbefagmaaGreatDoor
open Go.RowKit
set_option linter.unusedVariables false
def Tp (w:World) (T:Nat):Prop:=
 ∃ (A:Option Addr) (n c p:Nat) (zs:List Int),w.heap[T]? =some (.cells #[.slice A n c,.int .i64 p] 101 (0,0))∧p≤n∧n≤500∧Rd w T 1 A n (zs.map (Value.int .i64))∧Ints zs
theorem Tp.lt {w:World} {T:Nat} (h:Tp w T):T<w.heap.size:=by
 obtain ⟨A,n,c,p,zs,h,_⟩:=h
 rcases Nat.lt_or_ge T w.heap.size with hlt|hge
 ·exact hlt
 ·rw [Array.getElem?_eq_none hge] at h;cases h
theorem Tp.keep {w w' :World} {T:Nat} (h:Tp w T) (hk:∀ k,k≤T→w'.heap[k]? =w.heap[k]?):Tp w' T:=by
 obtain ⟨A,n,c,p,zs,h1,h2,h3,h4,h5⟩:=h
 exact ⟨A,n,c,p,zs,(hk T (Nat.le_refl _)).trans h1,h2,h3,h4.keep fun q hq=>World.cell?_of_block (w:=w) (hk q.block (by omega)),h5⟩
theorem Tp.grown {w w' :World} {T:Nat} {row:Option Nat} (h:Tp w T) (hg:w.grownBy w' row) (hr:∀ g,row=some g→T<g):Tp w' T:=
 h.keep fun k hk=>hg.block k (by have:=h.lt;omega) (fun e=>by have:=hr k e.symm;omega)
theorem Tp.alloc {w:World} {T:Nat} (h:Tp w T) (o:Obj):Tp (w.alloc o) T:=h.keep fun k hk=>Below.heap_alloc w o k (by have:=h.lt;omega)
theorem Tp.drewN {w:World} {T:Nat} (h:Tp w T) (n:Nat):Tp (w.drewN n) T:=h
theorem Tp.setCell {w:World} {T:Nat} (h:Tp w T) {p:Addr} (hp:T<p.block) (u:Value):Tp (w.setCell p u) T:=h.keep fun k hk=>Below.heap_setCell w p u k (by omega)
theorem Zf8 (v n:Int) (h:0<n):(if v.tmod n<0 then v.tmod n+n else v.tmod n)=v % n:=by
 have h1:-n<v.tmod n:=Int.lt_tmod_of_pos v h
 have h2:v.tmod n<n:=Int.tmod_lt_of_pos v h
 have h3:v=n * (v.tdiv n)+v.tmod n:=(Int.mul_tdiv_add_tmod v n).symm
 split
 ·rename_i hlt
  have:v=(v.tmod n+n)+n * (v.tdiv n - 1):=by rw [Int.mul_sub,Int.mul_one];omega
  conv=>rhs;rw [this]
  rw [Int.add_mul_emod_self_left,Int.emod_eq_of_lt (by omega) (by omega)]
 ·conv=>rhs;rw [h3]
  rw [Int.add_comm,Int.add_mul_emod_self_left,Int.emod_eq_of_lt (by omega) (by omega)]
theorem Zbf {a b:Int} (h:a=b):Ending.returned (.int .i64 a)=.returned (.int .i64 b):=by rw [h]
set_option maxHeartbeats 400000 in
theorem Zbt (v n:Int) (w:World) (hv:I64 v) (h0:0<n) (h1:n≤9223372036854775807):
  Calls Tryz.prog 17 #[.int .i64 v,.int .i64 n] w fun e w' =>e=.returned (.int .i64 (v % n))∧w=w' :=by
 have hm:=Zf8 v n h0
 have b1:-n<v.tmod n:=Int.lt_tmod_of_pos v h0
 have b2:v.tmod n<n:=Int.tmod_lt_of_pos v h0
 have hn:(n==0)=false:=by simp;omega
 obtain ⟨t,ht,ht'⟩:∃ t,IntKind.i64.wrap (v.tmod n)=t∧v.tmod n=t:=⟨_,IntWalk.i64_in _ (by omega),rfl⟩
 rw [ht'] at hm b1 b2
 obtain ⟨hv0,hv1⟩:=hv
 by_cases hlt:t<0
 ·have HM:Hid (t+n=v % n):=by rw [if_pos hlt] at hm;exact hm
  clear hm
  go_enter Tryz.func17,Tryz.ntmps17
  go_wp2
  go_ret
  exact ⟨Zbf HM.out,rfl⟩
 ·have HM:Hid (t=v % n):=by rw [if_neg hlt] at hm;exact hm
  clear hm
  go_enter Tryz.func17,Tryz.ntmps17
  go_wp2
  go_ret
  exact ⟨Zbf HM.out,rfl⟩
def Zc1 (w:World) (T:Nat) (n:Int) (e:Ending) (w' :World):Prop:=
 ∃ r:Int,e=.returned (.int .i64 r)∧0≤r∧r<n∧Tp w' T∧w.grownBy w' (some T)
set_option maxHeartbeats 1000000 in
theorem ZT (T:Nat) (n:Int) (w:World) (ht:Tp w T) (h0:0<n) (h1:n≤9223372036854775807):
  Calls Tryz.prog 31 #[.pointer (some ⟨T,0,none⟩),.int .i64 n] w fun e w' =>Zc1 w T n e w' :=by
 obtain ⟨A,m,c,p,zs,hb,hp,hm,hr,hz⟩:=ht
 have hc0:w.cell? ⟨T,0,none⟩=some (.slice A m c):=cell_of_row w T 0 _ _ _ hb
 have hc1:w.cell? ⟨T,1,none⟩=some (.int .i64 p):=cell_of_row w T 1 _ _ _ hb
 have hf:w.frozen? ⟨T,1,none⟩=false:=by simp [World.frozen?,hb]
 have hl:zs.length=m:=by simpa using hr.1
 have HL:=hid hl;clear hl
 have HB:=hid hb;clear hb
 by_cases hlt:p<m
 ·obtain ⟨b,o,rfl,hbT,hc⟩:=hr.at1 hlt
  rw [ZcT _ _ _ (by rw [HL.out];omega)] at hc
  have bz:=hz.at_ p
  have HZ:=hid bz;clear bz
  go_enter Tryz.func31,Tryz.ntmps31
  go_wp2_with fail
  go_quiet (fail)
  go_wp2_with fail
  go_quiet ((go_at_call 17;first|exact ZcH (Zbt _ _ _ HZ.out h0 h1)|exact Zhw (Zbt _ _ _ HZ.out h0 h1)))
  go_wp2_with fail
  go_ret
  refine ⟨zs.getD p 0 % n,by simp [List.getD],Int.emod_nonneg _ (by omega),Int.emod_lt_of_pos _ h0,Tp.drewN ⟨_,m,c,p+1,zs,Za6 (g:=T) (w:=World.drewN _ _) HB.out 1 _,by omega,hm,Rd.setCell (Rd.drewN hr _) (Nat.le_refl _) _,hz⟩ _,?_⟩
  exact Qi (Qy (Qi (World.grownBy.refl _ _) _) (.inl rfl) _) _
 ·go_enter Tryz.func31,Tryz.ntmps31
  go_wp2_with fail
  go_quiet (fail)
  go_wp2_with fail
  go_ret
  exact ⟨0,rfl,by omega,h0,Tp.drewN ⟨A,m,c,p,zs,HB.out,hp,hm,hr,hz⟩ _,Qi (World.grownBy.refl _ _) _⟩
def ZcE (w:World) (T:Nat) (e:Ending) (w' :World):Prop:=
 ∃ r:Int,e=.returned (.int .i64 r)∧I64 r∧Tp w' T∧w.grownBy w' (some T)
set_option maxHeartbeats 1000000 in
theorem Zcn (T:Nat) (w:World) (ht:Tp w T):
  Calls Tryz.prog 34 #[.pointer (some ⟨T,0,none⟩)] w fun e w' =>ZcE w T e w' :=by
 go_enter Tryz.func34,Tryz.ntmps34
 go_wp2_with fail
 refine (ZT T 8 _ ht (by omega) (by omega)).mono ?_
 rintro e w1 ⟨r,rfl,r0,r1,t1,g1⟩
 have hcase:r=0∨r=1∨r=2∨((r==0)=false∧(r==1)=false∧(r==2)=false):=by
  simp only [beq_eq_false_iff_ne];omega
 rcases hcase with rfl|rfl|rfl|⟨k0,k1,k2⟩
 ·go_wp2_with fail
  refine (ZT T 3 _ t1 (by omega) (by omega)).mono ?_
  rintro e w2 ⟨s,rfl,s0,s1,t2,g2⟩
  go_wp2
  go_ret
  exact ⟨9223372036854775807 - s,rfl,by unfold I64;omega,t2,X8 g1 g2⟩
 ·go_wp2_with fail
  refine (ZT T 3 _ t1 (by omega) (by omega)).mono ?_
  rintro e w2 ⟨s,rfl,s0,s1,t2,g2⟩
  go_wp2
  go_ret
  exact ⟨-9223372036854775808+s,rfl,by unfold I64;omega,t2,X8 g1 g2⟩
 ·go_wp2_with fail
  refine (ZT T 9 _ t1 (by omega) (by omega)).mono ?_
  rintro e w2 ⟨s,rfl,s0,s1,t2,g2⟩
  go_wp2
  go_ret
  exact ⟨-s,rfl,by unfold I64;omega,t2,X8 g1 g2⟩
 ·go_wp2_with fail
  refine (ZT T 9 _ t1 (by omega) (by omega)).mono ?_
  rintro e w2 ⟨s,rfl,s0,s1,t2,g2⟩
  go_wp2
  go_ret
  exact ⟨s,rfl,by unfold I64;omega,t2,X8 g1 g2⟩
def Zck (w:World) (e:Ending) (w' :World):Prop:=
 ∃ T,e=.returned (.pointer (some ⟨T,0,none⟩))∧w.heap.size≤T∧Tp w' T∧Below w.heap.size w w'
set_option maxHeartbeats 1000000 in
theorem Zdm (A:Option Addr) (n c:Nat) (zs:List Int) (w:World) (hr:Rd w w.heap.size 1 A n (zs.map (Value.int .i64))) (hz:Ints zs) (hn:n≤c) (hc:c≤9223372036854775807):
  Calls Tryz.prog 8 #[.slice A n c] w fun e w' =>Zck w e w' :=by
 by_cases hlt:500<n
 ·go_enter Tryz.func8,Tryz.ntmps8
  go_wp2
  go_ret
  refine ⟨w.heap.size,rfl,Nat.le_refl _,⟨A,500,c,0,zs.take 500,heap_alloc_new w _,by omega,by omega,?_,fun x hx=>hz x (List.mem_of_mem_take hx)⟩,(Below.refl _ _).alloc (Nat.le_refl _) _⟩
  have:=(hr.Zif (k:=500) (by omega)).alloc (Nat.le_refl _) (.cells #[.slice A 500 c,.int .i64 0] 101)
  simpa [List.map_take] using this
 ·go_enter Tryz.func8,Tryz.ntmps8
  go_wp2
  go_ret
  exact ⟨w.heap.size,rfl,Nat.le_refl _,⟨A,n,c,0,zs,heap_alloc_new w _,by omega,by omega,hr.alloc (Nat.le_refl _) _,hz⟩,(Below.refl _ _).alloc (Nat.le_refl _) _⟩
end Go.Proofs.YtnbbllkbefagmaaGreatDoor
namespace Go.Proofs.YtnbbllkbefagmaaGreatDoor
open Go.RowKit
set_option linter.unusedVariables false
set_option linter.unusedSimpArgs false
def Zhz (w:World) (T:Nat) (e:Ending) (w' :World):Prop:=
 ∃ b:Bool,e=.returned (.bool b)∧Tp w' T∧w.grownBy w' (some T)
set_option maxHeartbeats 400000 in
theorem Z8 (T:Nat) (n:Int) (w:World) (ht:Tp w T) (h0:0<n) (h1:n≤9223372036854775807):
  Calls Tryz.prog 33 #[.pointer (some ⟨T,0,none⟩),.int .i64 n] w fun e w' =>Zhz w T e w' :=by
 go_enter Tryz.func33,Tryz.ntmps33
 go_wp2_with fail
 refine (ZT T n _ ht h0 h1).mono ?_
 rintro e w1 ⟨r,rfl,r0,r1,t1,g1⟩
 go_wp2
 go_ret
 exact ⟨_,rfl,t1,g1⟩
structure Vl where
 k:Int
 i:Int
 s:ByteArray
deriving DecidableEq
def V7 (c:UInt8):Bool:=decide (32≤c.toNat∧c.toNat≤126)
def XB (s:ByteArray):Bool:=s.data.toList.all V7&&decide (s.size≤64)
def Yq (k i:Int) (s:ByteArray):Bool:=
 if k=0 then i==0&&s.toList.isEmpty else if k=1 then s.toList.isEmpty else if k=2 then (i==0||i==1)&&s.toList.isEmpty else if k=3 then i==0&&XB s else false
end Go.Proofs.YtnbbllkbefagmaaGreatDoor
namespace Go.Proofs.YtnbbllkbefagmaaGreatDoor
open Go.RowKit
set_option linter.unusedVariables false
def Blk (w:World) (g:Nat) (t:TypeId) (cs:Array Value):Prop:=w.heap[g]? =some (.cells cs t (0,0))
section
variable {w w' w1:World} {g:Nat} {t:TypeId} {cs:Array Value}
theorem Blk.lt (h:Blk w g t cs):g<w.heap.size:=by
 rcases Nat.lt_or_ge g w.heap.size with hlt|hge
 ·exact hlt
 ·unfold Blk at h;rw [Array.getElem?_eq_none hge] at h;cases h
theorem Blk.cell (h:Blk w g t cs) (i:Nat):w.cell? ⟨g,i,none⟩=cs[i]? :=cell_of_row w g i cs t (0,0) h
theorem Blk.frozen (h:Blk w g t cs) (i:Nat):w.frozen? ⟨g,i,none⟩=false:=ZaK h i
theorem Blk.new (w:World) (t:TypeId) (cs:Array Value):Blk (w.alloc (.cells cs t)) w.heap.size t cs:=heap_alloc_new w _
theorem Blk.grown {row:Option Nat} (h:Blk w g t cs) (hb:w.grownBy w' row) (hg:some g≠row):Blk w' g t cs:=(hb.block g h.lt hg).trans h
theorem Blk.c3 {x y z:Value} (h:Blk w g t #[x,y,z]):w.cell? ⟨g,0,none⟩=some x∧w.cell? ⟨g,1,none⟩=some y∧w.cell? ⟨g,2,none⟩=some z∧g<w.heap.size:=⟨h.cell 0,h.cell 1,h.cell 2,h.lt⟩
end
theorem Zac (w:World) (o:Obj):Below w.heap.size w (w.alloc o):=(Below.refl _ _).alloc (Nat.le_refl _) _
theorem ZaN (w:World) (o o' :Obj):Below w.heap.size w ((w.alloc o).alloc o'):=(Zac w o).alloc (by simp) _
theorem ZgC (w:World) (o o' o'' :Obj):Below w.heap.size w (((w.alloc o).alloc o').alloc o''):=(ZaN w o o').alloc (by simp;omega) _
end Go.Proofs.YtnbbllkbefagmaaGreatDoor
namespace Go.Proofs.YtnbbllkbefagmaaGreatDoor
open Go.RowKit
set_option linter.unusedVariables false
set_option linter.unusedSimpArgs false
def Wds (w:World):Prop:=∀ j,j<6→∃ s:ByteArray,w.cell? ⟨1,j,none⟩=some (.string s)∧XB s=true∧s.size≤4
theorem Wds.keep {w w' :World} (h:Wds w) (hk:w'.heap[1]? =w.heap[1]?):Wds w' :=fun j hj=>by
 obtain ⟨s,h1,h2⟩:=h j hj
 exact ⟨s,(World.cell?_of_block (w:=w) (a:=⟨1,j,none⟩) hk).trans h1,h2⟩
theorem Wds.below {w w' :World} {B:Nat} (h:Wds w) (hb:Below B w w') (hB:1<B):Wds w' :=h.keep (hb.block _ hB)
theorem Wds.lt {w:World} (h:Wds w):1<w.heap.size:=by
 obtain ⟨s,h1,_⟩:=h 0 (by omega)
 exact World.block_lt_of_cell? w ⟨1,0,none⟩ h1
theorem Wds.grown {w w' :World} {row:Option Nat} (h:Wds w) (hg:w.grownBy w' row) (hr:some 1≠row):Wds w' :=h.keep (hg.block _ h.lt hr)
def ZhZ (w:World) (T:Nat) (e:Ending) (w' :World):Prop:=
 ∃ s:ByteArray,e=.returned (.string s)∧XB s=true∧s.size≤4∧Tp w' T∧w.grownBy w' (some T)
set_option maxHeartbeats 400000 in
theorem zx (T:Nat) (w:World) (ht:Tp w T) (hw:Wds w) (hT:1<T):
  Calls Tryz.prog 157 #[.pointer (some ⟨T,0,none⟩)] w fun e w' =>ZhZ w T e w' :=by
 go_enter Tryz.func157,Tryz.ntmps157
 go_wp2_with fail
 refine (ZT T 6 _ ht (by omega) (by omega)).mono ?_
 rintro e w1 ⟨r,rfl,r0,r1,t1,g1⟩
 have hw1:=hw.grown g1 (by intro e;injection e with e;omega)
 obtain ⟨r,rfl⟩:=Int.eq_ofNat_of_zero_le r0
 obtain ⟨s,hs,hp,hl⟩:=hw1 r (by omega)
 have HP:=hid hp;clear hp hw1 hw
 go_wp2
 go_ret
 exact ⟨s,rfl,HP.out,hl,t1,g1⟩
def Gq (w:World) (T:Nat) (K:Int→Int→ByteArray→Prop) (e:Ending) (w' :World):Prop:=
 ∃ (k i:Int) (s:ByteArray),e=.returned (.agg #[.int .i64 k,.int .i64 i,.string s])∧K k i s∧s.size≤80∧I64 i∧Tp w' T∧Wds w' ∧w.grownBy w' (some T)
def Vk (kind k i:Int) (s:ByteArray):Prop:=Yq k i s=true∧((kind=1∨kind=2∨kind=3)→k=kind)∧(¬(kind=1∨kind=2∨kind=3)→k=0)
theorem zA:(⟨#[]⟩:ByteArray).toList=[]:=by kernel_rfl
theorem ZcF {w:World} {T g:Nat} (h:Tp w T) (hg:T<g) (x y z:Value):Tp (((w.setCell ⟨g,0,none⟩ x).setCell ⟨g,1,none⟩ y).setCell ⟨g,2,none⟩ z) T:=
 Tp.setCell (p:=⟨g,2,none⟩) (Tp.setCell (p:=⟨g,1,none⟩) (Tp.setCell (p:=⟨g,0,none⟩) h hg x) hg y) hg z
theorem ZdB {a w:World} {T g:Nat} (h:a.grownBy w (some T)) (hg:a.heap.size≤g) (x y z:Value):a.grownBy (((w.setCell ⟨g,0,none⟩ x).setCell ⟨g,1,none⟩ y).setCell ⟨g,2,none⟩ z) (some T):=
 Qy (p:=⟨g,2,none⟩) (Qy (p:=⟨g,1,none⟩) (Qy (p:=⟨g,0,none⟩) h (.inr hg) x) (.inr hg) y) (.inr hg) z
theorem Qv {w w1:World} {T g:Nat} {K:Int→Int→ByteArray→Prop} {k i:Int} {s:ByteArray} (hK:K k i s) (hs:s.size≤80) (hi:I64 i) (t1:Tp w1 T) (hTw:T<w.heap.size) (hw:Wds w) (hT:1<T)
  (g1:w.grownBy w1 (some T)) (hg:w.heap.size≤g):Gq w T K (.returned (.agg #[.int .i64 k,.int .i64 i,.string s])) (((w1.setCell ⟨g,0,none⟩ (.int .i64 k)).setCell ⟨g,1,none⟩ (.int .i64 i)).setCell ⟨g,2,none⟩ (.string s)):=by
 have g2:=ZdB g1 hg (.int .i64 k) (.int .i64 i) (.string s)
 exact ⟨k,i,s,rfl,hK,hs,hi,ZcF t1 (by omega) _ _ _,hw.grown g2 (by intro e;injection e with e;omega),g2⟩
theorem ZfY {kind:Int} (h:¬(kind=1∨kind=2∨kind=3)):Vk kind 0 0 ⟨#[]⟩:=⟨by kernel_rfl,fun k=>absurd k h,fun _=>rfl⟩
theorem Zei (x:Int):Vk 1 1 x ⟨#[]⟩:=⟨by simp [Yq,zA],fun _=>rfl,fun h=>absurd (.inl rfl) h⟩
theorem ZcK {x:Int} (h0:0≤x) (h1:x<2):Vk 2 2 x ⟨#[]⟩:=⟨by
 obtain rfl|rfl:x=0∨x=1:=by omega
 all_goals simp [Yq,zA],fun _=>rfl,fun h=>absurd (.inr (.inl rfl)) h⟩
theorem ZeN {s:ByteArray} (h:XB s=true):Vk 3 3 0 s:=⟨by simp [Yq,h],fun _=>rfl,fun h=>absurd (.inr (.inr rfl)) h⟩
set_option maxHeartbeats 1000000 in
theorem UG (T:Nat) (kind:Int) (w:World) (ht:Tp w T) (hw:Wds w) (hT:1<T):
  Calls Tryz.prog 125 #[.pointer (some ⟨T,0,none⟩),.int .i64 kind] w fun e w' =>Gq w T (Vk kind) e w' :=by
 have hlt:=ht.lt
 have B0:=Blk.new w 122 #[.int .i64 0,.int .i64 0,.string ⟨#[]⟩]
 have t0:=ht.alloc (.cells #[.int .i64 0,.int .i64 0,.string ⟨#[]⟩] 122)
 have g0:w.grownBy (w.alloc (.cells #[.int .i64 0,.int .i64 0,.string ⟨#[]⟩] 122)) (some T):=QU (World.grownBy.refl _ _) _
 have w0:Wds (w.alloc (.cells #[.int .i64 0,.int .i64 0,.string ⟨#[]⟩] 122)):=hw.grown g0 (by intro e;injection e with e;omega)
 have hI0:I64 0:=by unfold I64;omega
 by_cases h1:kind=1
 ·subst h1
  go_enter Tryz.func125,Tryz.ntmps125
  go_wp2_with fail
  refine (Zcn T _ t0).mono ?_
  rintro e w1 ⟨x,rfl,hx,t1,g1⟩
  have B1:=B0.grown g1 (by intro e;injection e with e;omega)
  have g2:=X8 g0 g1
  obtain ⟨c0,c1,c2,cl⟩:=B1.c3
  have f0:=B1.frozen 0;have f1:=B1.frozen 1;have f2:=B1.frozen 2
  clear t0 g0 B0 w0 g1
  go_wp2
  exact bodyPost_ret (v:=.agg #[.int .i64 1,.int .i64 x,.string ⟨#[]⟩]) (by simp [results,Tryz.results125,go_sem,c0,c1,c2]) rfl (Qv (Zei x) (by decide) hx t1 hlt hw hT g2 (Nat.le_refl _))
 by_cases h2:kind=2
 ·subst h2
  go_enter Tryz.func125,Tryz.ntmps125
  go_wp2_with fail
  refine (ZT T 2 _ t0 (by omega) (by omega)).mono ?_
  rintro e w1 ⟨x,rfl,x0,x1,t1,g1⟩
  have B1:=B0.grown g1 (by intro e;injection e with e;omega)
  have g2:=X8 g0 g1
  obtain ⟨c0,c1,c2,cl⟩:=B1.c3
  have f0:=B1.frozen 0;have f1:=B1.frozen 1;have f2:=B1.frozen 2
  clear t0 g0 B0 w0 g1
  go_wp2
  exact bodyPost_ret (v:=.agg #[.int .i64 2,.int .i64 x,.string ⟨#[]⟩]) (by simp [results,Tryz.results125,go_sem,c0,c1,c2]) rfl (Qv (ZcK x0 x1) (by decide) (by unfold I64;omega) t1 hlt hw hT g2 (Nat.le_refl _))
 by_cases h3:kind=3
 ·subst h3
  go_enter Tryz.func125,Tryz.ntmps125
  go_wp2_with fail
  refine (zx T _ t0 w0 hT).mono ?_
  rintro e w1 ⟨s,rfl,hp,hs,t1,g1⟩
  have B1:=B0.grown g1 (by intro e;injection e with e;omega)
  have g2:=X8 g0 g1
  obtain ⟨c0,c1,c2,cl⟩:=B1.c3
  have f0:=B1.frozen 0;have f1:=B1.frozen 1;have f2:=B1.frozen 2
  clear t0 g0 B0 w0 g1
  go_wp2
  exact bodyPost_ret (v:=.agg #[.int .i64 3,.int .i64 0,.string s]) (by simp [results,Tryz.results125,go_sem,c0,c1,c2]) rfl (Qv (ZeN hp) (by omega) hI0 t1 hlt hw hT g2 (Nat.le_refl _))
 ·have k1:(kind==1)=false:=by simpa using h1
  have k2:(kind==2)=false:=by simpa using h2
  have k3:(kind==3)=false:=by simpa using h3
  have hn:¬(kind=1∨kind=2∨kind=3):=by omega
  have HN:=hid (ZfY hn);clear hn
  go_enter Tryz.func125,Tryz.ntmps125
  clear h1 h2 h3
  go_wp2
  refine bodyPost_ret (v:=.agg #[.int .i64 0,.int .i64 0,.string ⟨#[]⟩]) (by simp [results,Tryz.results125,go_sem]) rfl ?_
  exact ⟨0,0,⟨#[]⟩,rfl,HN.out,by decide,hI0,t0,w0,g0⟩
set_option maxHeartbeats 1000000 in
theorem zP (T:Nat) (w:World) (ht:Tp w T) (hw:Wds w) (hT:1<T):
  Calls Tryz.prog 68 #[.pointer (some ⟨T,0,none⟩)] w fun e w' =>Gq w T (fun k i s=>Yq k i s=true) e w' :=by
 have hlt:=ht.lt
 have B0:=Blk.new w 122 #[.int .i64 0,.int .i64 0,.string ⟨#[]⟩]
 have t0:=ht.alloc (.cells #[.int .i64 0,.int .i64 0,.string ⟨#[]⟩] 122)
 have g0:w.grownBy (w.alloc (.cells #[.int .i64 0,.int .i64 0,.string ⟨#[]⟩] 122)) (some T):=QU (World.grownBy.refl _ _) _
 have w0:Wds (w.alloc (.cells #[.int .i64 0,.int .i64 0,.string ⟨#[]⟩] 122)):=hw.grown g0 (by intro e;injection e with e;omega)
 go_enter Tryz.func68,Tryz.ntmps68
 go_wp2_with fail
 refine (ZT T 4 _ t0 (by omega) (by omega)).mono ?_
 rintro e w1 ⟨x,rfl,x0,x1,t1,g1⟩
 have w1' :=w0.grown g1 (by intro e;injection e with e;omega)
 have B1:=B0.grown g1 (by intro e;injection e with e;omega)
 go_wp2_with fail
 refine (UG T x _ t1 w1' hT).mono ?_
 rintro e w2 ⟨k,i,s,rfl,⟨hv,_,_⟩,hs,hi,t2,_,g2⟩
 have B2:=B1.grown g2 (by intro e;injection e with e;omega)
 have g3:=X8 (X8 g0 g1) g2
 obtain ⟨c0,c1,c2,cl⟩:=B2.c3
 have f0:=B2.frozen 0;have f1:=B2.frozen 1;have f2:=B2.frozen 2
 have HV:=hid hv
 clear t0 g0 B0 w0 g1 B1 g2 w1' t1 hv
 go_wp2
 exact bodyPost_ret (v:=.agg #[.int .i64 k,.int .i64 i,.string s]) (by simp [results,Tryz.results68,go_sem,c0,c1,c2]) rfl (Qv HV.out hs hi t2 hlt hw hT g3 (Nat.le_refl _))
end Go.Proofs.YtnbbllkbefagmaaGreatDoor
namespace Go.Proofs.YtnbbllkbefagmaaGreatDoor
open Go.ChangeShapes Go.WideShapes Go.ChangeAt Go.RowKit
set_option linter.unusedVariables false
set_option linter.unusedSimpArgs false
theorem Zha : Tryz.prog.globalNamed "triggerstore/triggerstoreworld.words" = some 1 := by kernel_rfl
theorem ZeP:(Tryz.prog.globals[1]?).map (·.type)=some 279:=by kernel_rfl
def Zba:List (List UInt8):=[[],[97],[98],[105,116,39,115],[90,32,122],[126]]
theorem ZgQ:∀ b∈Zba,(b.all V7&&decide (b.length≤4))=true:=by decide
theorem ZeJ {W : World} {rest : List (String × DataW Unit)} (h : laidMet Tryz.prog (("triggerstore/triggerstoreworld.words", Rows.laid_triggerstore_triggerstoreworld_words) :: rest) W) : Wds W := by
 intro j hj
 obtain ⟨s,h1,h2,_⟩:=ZaW (bs:=Zba) (rest:=rest) Zha ZeP Tryz.underlying279 Tryz.underlying9 (by kernel_rfl) h j hj
 have h3:=ZgQ _ (List.mem_of_getElem? h2)
 simp only [Bool.and_eq_true,decide_eq_true_eq] at h3
 have hs:s.size=s.data.toList.length:=(Array.length_toList (xs:=s.data)).symm
 refine ⟨s,h1,?_,by omega⟩
 unfold XB
 rw [h3.1,Bool.true_and,decide_eq_true_eq]
 omega
noncomputable def ZbV (os:Os):World:=
 { World.holding Tryz.prog os ⟨#[],#[],[]⟩ with heap:=(World.holding Tryz.prog os ⟨#[],#[],[]⟩).heap.modify 1 fun
   | .cells _ t frozen=>.cells #[.string ⟨#[]⟩,.string ⟨#[97]⟩,.string ⟨#[98]⟩,.string ⟨#[105,116,39,115]⟩,.string ⟨#[90,32,122]⟩,.string ⟨#[126]⟩] t frozen
   | o=>o }
end Go.Proofs.YtnbbllkbefagmaaGreatDoor
namespace Go.Proofs.YtnbbllkbefagmaaGreatDoor
open Go.RowKit
set_option linter.unusedVariables false
inductive Hp where
 | blk (g:Nat) (t:TypeId) (cs:Array Value)
 | own (e:TypeId) (size:Nat) (v:Value) (n:Nat) (xs:List Value)
 | tp (T:Nat)
 | ro (S:World→Prop)
 | cst (g:Nat) (t:TypeId) (cs:Array Value)
 | ob (g:Nat) (F:World→Prop)
def Hp.foot:Hp→Option Nat
 | .blk g _ _=>some g
 | .own _ _ v _ _=>v.ownBlock
 | .tp T=>some T
 | .ro _=>none
 | .cst _ _ _=>none
 | .ob g _=>some g
def Mut (M:Nat→Prop) (L:List Hp) (b:Nat):Prop:=M b∨∃ h∈L,h.foot=some b
def Ro (w:World) (M:Nat→Prop) (S:World→Prop):Prop:=
 ∀ w' :World,w.heap.size≤w'.heap.size→(∀ b,b<w.heap.size→¬M b→w'.heap[b]? =w.heap[b]?)→S w'
theorem Ro.now {w:World} {M:Nat→Prop} {S:World→Prop} (h:Ro w M S):S w:=h w (Nat.le_refl _) (fun _ _ _=>rfl)
theorem Ro.step {w w' :World} {M M' :Nat→Prop} {S:World→Prop} (h:Ro w M S) (hs:w.heap.size≤w'.heap.size) (hb:∀ b,b<w.heap.size→¬M b→w'.heap[b]? =w.heap[b]?)
  (hM:∀ b,b<w.heap.size→M' b→M b):Ro w' M' S:=fun w2 h1 h2=>h w2 (Nat.le_trans hs h1) fun b hbl hn=>(h2 b (Nat.lt_of_lt_of_le hbl hs) (fun hm=>hn (hM b hbl hm))).trans (hb b hbl hn)
theorem Ro.less {w:World} {M M' :Nat→Prop} {S:World→Prop} (h:Ro w M S) (hM:∀ b,M' b→M b):Ro w M' S:=h.step (Nat.le_refl _) (fun _ _ _=>rfl) (fun b _ hb=>hM b hb)
theorem Ro.imp {w:World} {M:Nat→Prop} {S S' :World→Prop} (h:Ro w M S) (hi:∀ w,S w→S' w):Ro w M S' :=fun w2 h1 h2=>hi _ (h w2 h1 h2)
theorem Ro.and {w:World} {M:Nat→Prop} {S S' :World→Prop} (h:Ro w M S) (k:Ro w M S'):Ro w M (fun w=>S w∧S' w):=fun w2 h1 h2=>⟨h w2 h1 h2,k w2 h1 h2⟩
theorem Ro.grown {w w' :World} {M:Nat→Prop} {S:World→Prop} {T:Nat} (h:Ro w M S) (hb:w.grownBy w' (some T)) (hT:M T):Ro w' M S:=
 h.step hb.size (fun b hl hn=>hb.block b hl (fun e=>by injection e with e;subst e;exact hn hT)) (fun _ _ hm=>hm)
def Hp.sat (B:Nat) (w:World) (M:Nat→Prop):Hp→Prop
 | .blk g t cs=>w.heap[g]? =some (.cells cs t (0,0))
 | .own e size v n xs=>w.ownsRow B e size v n xs
 | .tp T=>Tp w T∧∀ b,M b→T≤b
 | .ro S=>Ro w M S
 | .cst g t cs=>Ro w M (fun w=>w.heap[g]? =some (.cells cs t (0,0)))
 | .ob g F=>∀ w' :World,w'.heap[g]? =w.heap[g]? →F w'
def Apart:List Hp→Prop
 | []=>True
 | h::L=>(∀ b,h.foot=some b→∀ k∈L,k.foot≠some b)∧Apart L
structure Hold (M:Nat→Prop) (row:Option Nat) (w0 w:World) (L:List Hp):Prop where
 grow:w0.grownBy w row
 low:∀ b,M b→b<w0.heap.size
 sat:∀ h∈L,h.sat w0.heap.size w (Mut M L)
 fresh:∀ h∈L,∀ b,h.foot=some b→(w0.heap.size≤b∨(row=some b∧h=.tp b))∧b<w.heap.size
 sep:Apart L
section
variable {M:Nat→Prop} {row:Option Nat} {w0 w w' :World} {L L' :List Hp}
theorem Hold.start (M:Nat→Prop) (w:World) (h:∀ b,M b→b<w.heap.size):Hold M none w w []:=
 ⟨World.grownBy.refl _ _,h,(fun _ h=>nomatch h),(fun _ h=>nomatch h),trivial⟩
theorem Hold.Y5 (M:Nat→Prop) (w:World) (T:Nat) (h:∀ b,M b→b<w.heap.size) (ht:Tp w T) (hM:∀ b,M b→T≤b):Hold M (some T) w w [.tp T]:=by
 refine ⟨World.grownBy.refl _ _,h,fun k hm=>?_,fun k hm b hf=>?_,⟨fun _ _ k hk=>by simp at hk,trivial⟩⟩
 ·simp only [List.mem_singleton] at hm;subst hm
  refine ⟨ht,fun b hb=>?_⟩
  rcases hb with hb|⟨k,hm,hf⟩
  ·exact hM b hb
  ·simp only [List.mem_singleton] at hm;subst hm;injection hf with hf;omega
 ·simp only [List.mem_singleton] at hm;subst hm;injection hf with hf;subst hf;exact ⟨.inr ⟨rfl,rfl⟩,ht.lt⟩
theorem Hold.Zb (h:Hold M row w0 w L):∀ b,Mut M L b→b<w.heap.size:=fun b hb=>by
 rcases hb with hb|⟨k,hk,hf⟩
 ·exact Nat.lt_of_lt_of_le (h.low b hb) h.grow.size
 ·exact (h.fresh k hk b hf).2
theorem Hold.below (h:Hold M none w0 w L):Below w0.heap.size w0 w:=⟨h.grow.os,h.grow.tape,h.grow.output,h.grow.size,fun k hk=>h.grow.block k hk (by simp)⟩
theorem ZI {k:Hp} {b:Nat}:Mut M (k::L) b↔(k.foot=some b∨Mut M L b):=by
 unfold Mut;simp only [List.mem_cons,exists_eq_or_imp]
 constructor
 ·rintro (h|h|h)
  ·exact .inr (.inl h)
  ·exact .inl h
  ·exact .inr (.inr h)
 ·rintro (h|h|h)
  ·exact .inr (.inl h)
  ·exact .inl h
  ·exact .inr (.inr h)
theorem Hp.Xj {B:Nat} {M M' :Nat→Prop} {k:Hp} (h:k.sat B w M) (hs:w.heap.size≤w'.heap.size) (hb:∀ b,b<w.heap.size→¬M b→w'.heap[b]? =w.heap[b]?)
  (hM:∀ b,b<w.heap.size→M' b→M b) (hT:∀ b,k.foot=some b→w'.heap[b]? =w.heap[b]?) (hlow:∀ T,k=.tp T→(∀ b,b<T→w'.heap[b]? =w.heap[b]?)):k.sat B w' M' :=by
 cases k with
 | blk g t cs=>exact (hT g rfl).trans h
 | own e size v n xs=>
  refine ⟨h.1,?_⟩
  rcases h.2 with hn|⟨g,cap,cur,rfl,hb',hgg,rest⟩
  ·exact .inl hn
  ·exact .inr ⟨g,cap,cur,rfl,hb',(hT g rfl).trans hgg,rest⟩
 | tp T=>
  refine ⟨h.1.keep fun b hbT=>?_,fun b hb' =>?_⟩
  ·rcases Nat.lt_or_ge b T with hlt|hge
   ·exact hlow T rfl b hlt
   ·obtain rfl:b=T:=by omega
    exact hT b rfl
  ·rcases Nat.lt_or_ge b w.heap.size with hlt|hge
   ·exact h.2 b (hM b hlt hb')
   ·have:=h.1.lt;omega
 | ro S=>exact h.step hs hb hM
 | cst g t cs=>exact Ro.step h hs hb hM
 | ob g F=>exact fun w2 h2=>h w2 (h2.trans (hT g rfl))
theorem Hold.call (h:Hold M row w0 w L) (hb:Below w.heap.size w w'):Hold M row w0 w' L:=
 ⟨Zdv h.grow hb,h.low,
  fun k hk=>Hp.Xj (k:=k) (h.sat k hk) hb.size (fun b hl _=>hb.block b hl) (fun _ _ hm=>hm) (fun b hf=>hb.block b (h.fresh k hk b hf).2)
   (fun T hT b hlt=>by
    have:=h.fresh k hk T (by subst hT;rfl)
    exact hb.block b (by omega)),
  fun k hk b hf=>⟨(h.fresh k hk b hf).1,Nat.lt_of_lt_of_le (h.fresh k hk b hf).2 hb.size⟩,h.sep⟩
theorem Hold.drew (h:Hold M row w0 w L):Hold M row w0 w.drew L:=
 ⟨Zfk h.grow,h.low,fun k hk=>Hp.Xj (k:=k) (h.sat k hk) (Nat.le_refl _) (fun _ _ _=>rfl) (fun _ _ hm=>hm) (fun _ _=>rfl) (fun _ _ _ _=>rfl),h.fresh,h.sep⟩
theorem Hold.drewN (h:Hold M row w0 w L) (n:Nat):Hold M row w0 (w.drewN n) L:=
 ⟨Qi h.grow n,h.low,fun k hk=>Hp.Xj (k:=k) (h.sat k hk) (Nat.le_refl _) (fun _ _ _=>rfl) (fun _ _ hm=>hm) (fun _ _=>rfl) (fun _ _ _ _=>rfl),h.fresh,h.sep⟩
theorem Hold.alloc (h:Hold M row w0 w L) (cs:Array Value) (t:TypeId):Hold M row w0 (w.alloc (.cells cs t)) (.blk w.heap.size t cs::L):=by
 have hsz:(w.alloc (.cells cs t)).heap.size=w.heap.size+1:=by simp
 have hMM:∀ b,b<w.heap.size→Mut M (.blk w.heap.size t cs::L) b→Mut M L b:=fun b hl hm=>by
  rcases ZI.1 hm with hf|hm
  ·injection hf with hf;omega
  ·exact hm
 refine ⟨QU h.grow _,h.low,fun k hk=>?_,fun k hk b hf=>?_,⟨fun b hf k hk he=>?_,h.sep⟩⟩
 ·rcases List.mem_cons.1 hk with rfl|hk
  ·exact heap_alloc_new w _
  ·exact Hp.Xj (k:=k) (h.sat k hk) (by omega) (fun b hl _=>Below.heap_alloc w _ b hl) hMM (fun b hf=>Below.heap_alloc w _ b (h.fresh k hk b hf).2)
    (fun T hT b hlt=>by
     have:=h.fresh k hk T (by subst hT;rfl)
     exact Below.heap_alloc w _ b (by omega))
 ·rcases List.mem_cons.1 hk with rfl|hk
  ·injection hf with hf;subst hf;exact ⟨.inl h.grow.size,by omega⟩
  ·exact ⟨(h.fresh k hk b hf).1,by have:=(h.fresh k hk b hf).2;omega⟩
 ·injection hf with hf;subst hf
  have:=(h.fresh k hk _ he).2;omega
theorem Apart.mem (h:Apart L) {i j:Nat} {a b:Hp} (hi:L[i]? =some a) (hj:L[j]? =some b) (hij:i≠j) {x:Nat} (ha:a.foot=some x):b.foot≠some x:=by
 induction L generalizing i j with
 | nil=>cases hi
 | cons c L ih=>
  obtain ⟨h1,h2⟩:=h
  cases i with
  | zero=>
   cases j with
   | zero=>exact absurd rfl hij
   | succ j=>simp only [List.getElem?_cons_zero,Option.some.injEq] at hi;subst hi;exact h1 x ha b (List.mem_of_getElem? (by simpa using hj))
  | succ i=>
   cases j with
   | zero=>
    simp only [List.getElem?_cons_zero,Option.some.injEq] at hj;subst hj
    intro hb
    exact h1 x hb a (List.mem_of_getElem? (by simpa using hi)) ha
   | succ j=>exact ih h2 (by simpa using hi) (by simpa using hj) (fun e=>hij (by omega))
theorem ZcQ (h:∀ (i j:Nat) (a b:Hp),L[i]? =some a→L[j]? =some b→i≠j→∀ x,a.foot=some x→b.foot≠some x):Apart L:=by
 induction L with
 | nil=>trivial
 | cons c L ih=>
  refine ⟨fun x hx k hk=>?_,ih fun i j a b hi hj hij=>h (i+1) (j+1) a b (by simpa using hi) (by simpa using hj) (by omega)⟩
  obtain ⟨n,hn⟩:=List.getElem?_of_mem hk
  exact h 0 (n+1) c k rfl (by simpa using hn) (by omega) x hx
theorem Vi {k:Hp} {i j:Nat} {a:Hp} (h:(L.set i k)[j]? =some a):(i=j∧a=k)∨(i≠j∧L[j]? =some a):=by
 by_cases e:i=j
 ·subst e
  left
  rw [List.getElem?_set] at h
  simp only [if_true] at h
  split at h
  ·injection h with h;exact ⟨rfl,h.symm⟩
  ·cases h
 ·right
  rw [List.getElem?_set,if_neg e] at h
  exact ⟨e,h⟩
theorem Hold.turn (h:Hold M row w0 w L) (i:Nat) {k k' :Hp} (hi:L[i]? =some k) (hsz:w.heap.size≤w'.heap.size) (hos:w'.os=w.os∧w'.tape=w.tape∧w'.output=w.output)
  (hb:∀ b,b<w.heap.size→k.foot≠some b→w'.heap[b]? =w.heap[b]?)
  (hf:∀ b,k'.foot=some b→(k.foot=some b∨w.heap.size≤b)∧b<w'.heap.size)
  (hs:k'.sat w0.heap.size w' (Mut M (L.set i k'))) (hnt:∀ T,k=.tp T→k' =.tp T):Hold M row w0 w' (L.set i k'):=by
 have hkm:k∈L:=List.mem_of_getElem? hi
 have hMM:∀ b,b<w.heap.size→Mut M (L.set i k') b→Mut M L b:=fun b hl hm=>by
  rcases hm with hm|⟨a,ha,hfa⟩
  ·exact .inl hm
  ·obtain ⟨j,hj⟩:=List.getElem?_of_mem ha
   rcases Vi hj with ⟨rfl,rfl⟩|⟨_,hj⟩
   ·rcases (hf b hfa).1 with h1|h1
    ·exact .inr ⟨k,hkm,h1⟩
    ·omega
   ·exact .inr ⟨a,List.mem_of_getElem? hj,hfa⟩
 have hkM:∀ b,k.foot=some b→Mut M L b:=fun b hb=>.inr ⟨k,hkm,hb⟩
 refine ⟨⟨hos.1.trans h.grow.os,hos.2.1.trans h.grow.tape,hos.2.2.trans h.grow.output,Nat.le_trans h.grow.size hsz,fun b hl hne=>?_⟩,h.low,fun a ha=>?_,fun a ha b hfa=>?_,?_⟩
 ·refine (hb b (Nat.lt_of_lt_of_le hl h.grow.size) fun hk=>?_).trans (h.grow.block b hl hne)
  rcases (h.fresh k hkm b hk).1 with h1|h1
  ·omega
  ·exact hne h1.1.symm
 ·obtain ⟨j,hj⟩:=List.getElem?_of_mem ha
  rcases Vi hj with ⟨rfl,rfl⟩|⟨hij,hj⟩
  ·exact hs
  ·have ham:=List.mem_of_getElem? hj
   refine Hp.Xj (k:=a) (h.sat a ham) hsz (fun b hl hn=>hb b hl fun hk=>hn (hkM b hk)) hMM (fun b hfb=>hb b (h.fresh a ham b hfb).2 (h.sep.mem hj hi (fun e=>hij e.symm) hfb)) (fun T hT b hlt=>?_)
   subst hT
   have h1:=(h.fresh _ ham T rfl).2
   refine hb b (by omega) fun hk=>?_
   have h2:=(h.sat _ ham).2 b (hkM b hk)
   omega
 ·obtain ⟨j,hj⟩:=List.getElem?_of_mem ha
  rcases Vi hj with ⟨rfl,rfl⟩|⟨hij,hj⟩
  ·obtain ⟨h1,h2⟩:=hf b hfa
   rcases h1 with h1|h1
   ·refine ⟨?_,h2⟩
    rcases (h.fresh k hkm b h1).1 with h3|⟨h3,h4⟩
    ·exact .inl h3
    ·exact .inr ⟨h3,hnt b h4⟩
   ·exact ⟨.inl (Nat.le_trans h.grow.size h1),h2⟩
  ·have ham:=List.mem_of_getElem? hj
   exact ⟨(h.fresh a ham b hfa).1,Nat.lt_of_lt_of_le (h.fresh a ham b hfa).2 hsz⟩
 ·refine ZcQ fun x y a b hx hy hxy g hg=>?_
  rcases Vi hx with ⟨rfl,rfl⟩|⟨hix,hx'⟩<;>rcases Vi hy with ⟨rfl,rfl⟩|⟨hiy,hy'⟩
  ·exact absurd rfl hxy
  ·rcases (hf g hg).1 with h1|h1
   ·exact h.sep.mem hi hy' hxy h1
   ·intro he;have:=(h.fresh b (List.mem_of_getElem? hy') g he).2;omega
  ·intro he
   rcases (hf g he).1 with h1|h1
   ·exact h.sep.mem hx' hi hxy hg h1
   ·have:=(h.fresh a (List.mem_of_getElem? hx') g hg).2;omega
  ·exact h.sep.mem hx' hy' hxy hg
theorem Hold.store (h:Hold M row w0 w L) (i:Nat) {g:Nat} {t:TypeId} {cs:Array Value} (hi:L[i]? =some (.blk g t cs)) (j:Nat) (u:Value):
  Hold M row w0 (w.setCell ⟨g,j,none⟩ u) (L.set i (.blk g t (cs.setIfInBounds j u))):=by
 have hkm:=List.mem_of_getElem? hi
 refine h.turn i hi (by simp [World.setCell]) ⟨rfl,rfl,rfl⟩ (fun b _ hne=>Below.heap_setCell w _ u b fun e=>hne (by rw [e];rfl)) (fun b hf=>?_) (Za6 (h.sat _ hkm) j u) (fun T hT=>by cases hT)
 have:some g=some b:=hf
 injection this with this
 subst this
 exact ⟨.inl rfl,by have:=(h.fresh _ hkm g rfl).2;simpa [World.setCell] using this⟩
theorem Hold.Y0 (h:Hold M row w0 w L) (i:Nat) {e:TypeId} {size n cap g:Nat} {xs:List Value} (hi:L[i]? =some (.own e size (.slice (some ⟨g,0,none⟩) n cap) n xs)) (j:Nat) (u:Value):
  Hold M row w0 (w.setCell ⟨g,j,none⟩ u) (L.set i (.own e size (.slice (some ⟨g,0,none⟩) n cap) n (xs.set j u))):=by
 have hkm:=List.mem_of_getElem? hi
 have hs:=World.ownsRow.stored (h.sat _ hkm) j u
 refine h.turn i hi (by simp [World.setCell]) ⟨rfl,rfl,rfl⟩ (fun b _ hne=>Below.heap_setCell w _ u b fun e=>hne (by rw [e];rfl)) (fun b hf=>?_) hs.1 (fun T hT=>by cases hT)
 have:some g=some b:=hf
 injection this with this
 subst this
 exact ⟨.inl rfl,by have:=(h.fresh _ hkm g rfl).2;simpa [World.setCell] using this⟩
theorem Hold.append (h:Hold M row w0 w L) (i:Nat) {e:TypeId} {size n n' g cap:Nat} {v:Value} {xs ys:List Value} (hi:L[i]? =some (.own e size v n xs))
  (ho:w'.ownsRow w0.heap.size e size (.slice (some ⟨g,0,none⟩) n' cap) n' ys) (hg:w.grownBy w' v.ownBlock) (hd:v.ownBlock=some g∨w.heap.size≤g) (hl:g<w'.heap.size):
  Hold M row w0 w' (L.set i (.own e size (.slice (some ⟨g,0,none⟩) n' cap) n' ys)):=by
 refine h.turn i hi hg.size ⟨hg.os,hg.tape,hg.output⟩ (fun b hl hne=>hg.block b hl fun e=>hne e.symm) (fun b hf=>?_) ho (fun T hT=>by cases hT)
 have:some g=some b:=hf
 injection this with this
 subst this
 exact ⟨hd,hl⟩
theorem Hold.Zf (h:Hold M row w0 w L) (i:Nat) {T:Nat} (hi:L[i]? =some (.tp T)) (hg:w.grownBy w' (some T)) (ht:Tp w' T):Hold M row w0 w' L:=by
 have hkm:=List.mem_of_getElem? hi
 have hlt:=(h.fresh _ hkm T rfl).2
 have:=h.turn (k' :=.tp T) i hi hg.size ⟨hg.os,hg.tape,hg.output⟩ (fun b hl hne=>hg.block b hl fun e=>hne e.symm) (fun b hf=>⟨.inl hf,by
  injection hf with hf;subst hf;exact Nat.lt_of_lt_of_le hlt hg.size⟩) ⟨ht,fun b hb=>by
   have hb' :Mut M L b:=by
    rcases hb with hb|⟨a,ha,hfa⟩
    ·exact .inl hb
    ·obtain ⟨j,hj⟩:=List.getElem?_of_mem ha
     rcases Vi hj with ⟨rfl,rfl⟩|⟨_,hj⟩
     ·exact .inr ⟨_,hkm,hfa⟩
     ·exact .inr ⟨a,List.mem_of_getElem? hj,hfa⟩
   exact (h.sat _ hkm).2 b hb'⟩ (fun T' hT' =>by injection hT' with hT';rw [hT'])
 have e:L.set i (.tp T)=L:=by
  apply List.ext_getElem?
  intro j
  rw [List.getElem?_set]
  split
  ·subst i;split
   ·exact hi.symm
   ·rw [List.getElem?_eq_none (by omega)]
  ·rfl
 rwa [e] at this
theorem Hold.add (h:Hold M row w0 w L) {S:World→Prop} (hr:Ro w (Mut M L) S):Hold M row w0 w (.ro S::L):=by
 have e:∀ b,Mut M (.ro S::L) b→Mut M L b:=fun b hb=>by
  rcases ZI.1 hb with hf|hm
  ·cases hf
  ·exact hm
 refine ⟨h.grow,h.low,fun k hk=>?_,fun k hk b hf=>?_,⟨(fun b hf=>nomatch hf),h.sep⟩⟩
 ·rcases List.mem_cons.1 hk with rfl|hk
  ·exact hr.less e
  ·exact Hp.Xj (k:=k) (h.sat k hk) (Nat.le_refl _) (fun _ _ _=>rfl) (fun b _ hb=>e b hb) (fun _ _=>rfl) (fun _ _ _ _=>rfl)
 ·rcases List.mem_cons.1 hk with rfl|hk
  ·cases hf
  ·exact h.fresh k hk b hf
theorem Hold.nil (h:Hold M row w0 w L) (e:TypeId) (size:Nat):Hold M row w0 w (.own e size (.slice none 0 0) 0 []::L):=by
 have ee:∀ b,Mut M (.own e size (.slice none 0 0) 0 []::L) b→Mut M L b:=fun b hb=>by
  rcases ZI.1 hb with hf|hm
  ·cases hf
  ·exact hm
 refine ⟨h.grow,h.low,fun k hk=>?_,fun k hk b hf=>?_,⟨(fun b hf=>nomatch hf),h.sep⟩⟩
 ·rcases List.mem_cons.1 hk with rfl|hk
  ·exact World.ownsRow_nil _ _ _ _
  ·exact Hp.Xj (k:=k) (h.sat k hk) (Nat.le_refl _) (fun _ _ _=>rfl) (fun b _ hb=>ee b hb) (fun _ _=>rfl) (fun _ _ _ _=>rfl)
 ·rcases List.mem_cons.1 hk with rfl|hk
  ·cases hf
  ·exact h.fresh k hk b hf
theorem Hold.GZ (h:Hold M row w0 w L) (cs:Array Value) (t:TypeId) (size n:Nat) (hm:n≤maxLen) (hs:cs.size=n * size):
  Hold M row w0 (w.alloc (.cells cs t)) (.own t size (.slice (some ⟨w.heap.size,0,none⟩) n n) n cs.toList::L):=by
 have h1:=h.alloc cs t
 exact h1.turn (k' :=.own t size (.slice (some ⟨w.heap.size,0,none⟩) n n) n cs.toList) 0 rfl (Nat.le_refl _) ⟨rfl,rfl,rfl⟩ (fun _ _ _=>rfl) (fun b hf=>⟨.inl hf,(h1.fresh _ (List.mem_cons_self ..) b hf).2⟩)
  (World.ownsRow_lit w cs n h.grow.size hm hs) (fun T hT=>by cases hT)
theorem Hold.drop (h:Hold M row w0 w L) (hL:List.Sublist L' L):Hold M row w0 w L' :=by
 have e:∀ b,Mut M L' b→Mut M L b:=fun b hb=>by
  rcases hb with hb|⟨k,hk,hf⟩
  ·exact .inl hb
  ·exact .inr ⟨k,hL.subset hk,hf⟩
 refine ⟨h.grow,h.low,fun k hk=>Hp.Xj (k:=k) (h.sat k (hL.subset hk)) (Nat.le_refl _) (fun _ _ _=>rfl) (fun b _ hb=>e b hb) (fun _ _=>rfl) (fun _ _ _ _=>rfl),fun k hk=>h.fresh k (hL.subset hk),?_⟩
 have h1:=h.sep
 clear h e
 induction hL with
 | slnil=>trivial
 | cons _ _ ih=>exact ih h1.2
 | cons_cons a hs ih=>exact ⟨fun b hb k hk=>h1.1 b hb k (hs.subset hk),ih h1.2⟩
theorem Hold.Zb9 (h:Hold M row w0 w L) (i:Nat) {k k' :Hp} (hi:L[i]? =some k) (hk:∀ T,k≠.tp T) (hk' :k'.foot=none) {S:World→Prop}
  (hS:∀ w2:World,k.sat w0.heap.size w (Mut M L)→(∀ b,k.foot=some b→w2.heap[b]? =w.heap[b]?)→S w2) (hs:Ro w (Mut M (L.set i k')) S→k'.sat w0.heap.size w (Mut M (L.set i k'))):Hold M row w0 w (L.set i k'):=by
 have hkm:=List.mem_of_getElem? hi
 refine h.turn i hi (Nat.le_refl _) ⟨rfl,rfl,rfl⟩ (fun _ _ _=>rfl) (fun b hf=>by rw [hk'] at hf;cases hf) (hs ?_) (fun T hT=>absurd hT (hk T))
 intro w2 h1 h2
 refine hS w2 (h.sat k hkm) fun b hf=>h2 b (h.fresh k hkm b hf).2 ?_
 rintro (hm|⟨a,ha,hfa⟩)
 ·rcases (h.fresh k hkm b hf).1 with h3|⟨h3,h4⟩
  ·have:=h.low b hm;omega
  ·exact absurd h4 (hk b)
 ·obtain ⟨j,hj⟩:=List.getElem?_of_mem ha
  rcases Vi hj with ⟨rfl,rfl⟩|⟨hij,hj⟩
  ·rw [hk'] at hfa;cases hfa
  ·exact h.sep.mem hi hj hij hf hfa
theorem Hold.Zie (h:Hold M row w0 w L) (i:Nat) {k:Hp} (hi:L[i]? =some k) (hk:∀ T,k≠.tp T) {S:World→Prop}
  (hS:∀ w2:World,k.sat w0.heap.size w (Mut M L)→(∀ b,k.foot=some b→w2.heap[b]? =w.heap[b]?)→S w2):Hold M row w0 w (L.set i (.ro S)):=
 h.Zb9 i hi hk rfl hS id
theorem Hold.Zcb (h:Hold M row w0 w L) (i:Nat) {g:Nat} {t:TypeId} {cs:Array Value} (hi:L[i]? =some (.blk g t cs)):Hold M row w0 w (L.set i (.cst g t cs)):=
 h.Zb9 i hi (fun T e=>nomatch e) rfl (S:=fun w=>w.heap[g]? =some (.cells cs t (0,0))) (fun w2 h1 h2=>(h2 g rfl).trans h1) id
theorem Hold.Za (h:Hold M row w0 w L) (cs:Array Value) (t:TypeId):Hold M row w0 (w.alloc (.cells cs t)) (.cst w.heap.size t cs::L):=(h.alloc cs t).Zcb 0 rfl
theorem Hold.Zin (h:Hold M row w0 w L) {T:Nat} (hb:Below w.heap.size w w') (ht:Tp w' T) (hT:w.heap.size≤T) (hm:∀ b,¬Mut M L b):Hold M row w0 w' (.tp T::L):=by
 have h1:=h.call hb
 have hM:∀ b,Mut M (.tp T::L) b→b=T:=fun b hb=>by
  rcases ZI.1 hb with hf|hm'
  ·injection hf with hf;exact hf.symm
  ·exact absurd hm' (hm b)
 have hfo:∀ k∈L,∀ b,k.foot≠some b:=fun k hk b hf=>hm b (.inr ⟨k,hk,hf⟩)
 refine ⟨h1.grow,h.low,fun k hk=>?_,fun k hk b hf=>?_,⟨fun b _ k hk=>hfo k hk b,h.sep⟩⟩
 ·rcases List.mem_cons.1 hk with rfl|hk
  ·exact ⟨ht,fun b hb=>by rw [hM b hb];exact Nat.le_refl _⟩
  ·exact Hp.Xj (k:=k) (h.sat k hk) hb.size (fun b hl _=>hb.block b hl) (fun b hl hm' =>by have:=hM b hm';omega) (fun b hf=>absurd hf (hfo k hk b)) (fun T' hT' =>absurd (by rw [hT'];rfl) (hfo k hk T'))
 ·rcases List.mem_cons.1 hk with rfl|hk
  ·injection hf with hf;subst hf;exact ⟨.inl (Nat.le_trans h.grow.size hT),ht.lt⟩
  ·exact absurd hf (hfo k hk b)
end
def Zt (w:World) (g:Nat):Nat→List Value→Prop
 | _,[]=>True
 | i,x::r=>w.cell? ⟨g,i,none⟩=some x∧w.frozen? ⟨g,i,none⟩=false∧Zt w g (i+1) r
def ZU (w:World):List Hp→Prop
 | []=>True
 | .blk g t cs::L=>g<w.heap.size∧Zt w g 0 cs.toList∧ZU w L
 | .own _ _ _ _ _::L=>ZU w L
 | .tp _::L=>ZU w L
 | .ro _::L=>ZU w L
 | .cst g t cs::L=>g<w.heap.size∧Zt w g 0 cs.toList∧ZU w L
 | .ob _ _::L=>ZU w L
theorem Je {w:World} {g:Nat} {t:TypeId} {cs:Array Value} (h:w.heap[g]? =some (.cells cs t (0,0))):∀ (l:List Value) (i:Nat),(∀ j,l[j]? =cs[i+j]?)→Zt w g i l
 | [],_,_=>trivial
 | x::r,i,hl=>by
  refine ⟨?_,ZaK h i,Je h r (i+1) fun j=>?_⟩
  ·rw [cell_of_row w g i cs t (0,0) h];exact (hl 0).symm
  ·have:=hl (j+1);rw [show i+1+j=i+(j+1) from by omega];simpa using this
theorem Vh {w:World} {B:Nat} {M:Nat→Prop}:∀ {L:List Hp},(∀ h∈L,h.sat B w M)→(∀ h∈L,∀ b,h.foot=some b→b<w.heap.size)→ZU w L
 | [],_,_=>trivial
 | .blk g t cs::L,h,k=>⟨k _ (List.mem_cons_self ..) g rfl,Je (h _ (List.mem_cons_self ..)) cs.toList 0 (by simp),Vh (fun a ha=>h a (List.mem_cons_of_mem _ ha)) (fun a ha=>k a (List.mem_cons_of_mem _ ha))⟩
 | .own ..::L,h,k=>Vh (L:=L) (fun a ha=>h a (List.mem_cons_of_mem _ ha)) (fun a ha=>k a (List.mem_cons_of_mem _ ha))
 | .tp _::L,h,k=>Vh (L:=L) (fun a ha=>h a (List.mem_cons_of_mem _ ha)) (fun a ha=>k a (List.mem_cons_of_mem _ ha))
 | .ro _::L,h,k=>Vh (L:=L) (fun a ha=>h a (List.mem_cons_of_mem _ ha)) (fun a ha=>k a (List.mem_cons_of_mem _ ha))
 | .ob _ _::L,h,k=>Vh (L:=L) (fun a ha=>h a (List.mem_cons_of_mem _ ha)) (fun a ha=>k a (List.mem_cons_of_mem _ ha))
 | .cst g t cs::L,h,k=>by
  have h1:w.heap[g]? =some (.cells cs t (0,0)):=Ro.now (show Ro w M (fun w=>w.heap[g]? =some (.cells cs t (0,0))) from h _ (List.mem_cons_self ..))
  refine ⟨?_,Je h1 cs.toList 0 (by simp),Vh (fun a ha=>h a (List.mem_cons_of_mem _ ha)) (fun a ha=>k a (List.mem_cons_of_mem _ ha))⟩
  rcases Nat.lt_or_ge g w.heap.size with hlt|hge
  ·exact hlt
  ·rw [Array.getElem?_eq_none hge] at h1;cases h1
theorem Hold.facts {M:Nat→Prop} {row:Option Nat} {w0 w:World} {L:List Hp} (h:Hold M row w0 w L):ZU w L:=Vh h.sat fun a ha b hb=>(h.fresh a ha b hb).2
def neF (g:Nat):List Hp→Prop
 | []=>True
 | .blk g' _ _::L=>¬g=g' ∧¬g' =g∧neF g L
 | .own _ _ _ _ _::L=>neF g L
 | .tp T::L=>¬g=T∧¬T=g∧neF g L
 | .ro _::L=>neF g L
 | .cst _ _ _::L=>neF g L
 | .ob g' _::L=>¬g=g' ∧¬g' =g∧neF g L
def XG:List Hp→Prop
 | []=>True
 | .blk g _ _::L=>neF g L∧XG L
 | .own _ _ _ _ _::L=>XG L
 | .tp T::L=>neF T L∧XG L
 | .ro _::L=>XG L
 | .cst _ _ _::L=>XG L
 | .ob g _::L=>neF g L∧XG L
theorem Wo {g:Nat}:∀ {L:List Hp},(∀ k∈L,k.foot≠some g)→neF g L
 | [],_=>trivial
 | .blk g' _ _::L,h=>⟨fun e=>h _ (List.mem_cons_self ..) (by rw [e];rfl),fun e=>h _ (List.mem_cons_self ..) (by rw [←e];rfl),Wo fun k hk=>h k (List.mem_cons_of_mem _ hk)⟩
 | .own ..::L,h=>Wo (L:=L) fun k hk=>h k (List.mem_cons_of_mem _ hk)
 | .tp T::L,h=>⟨fun e=>h _ (List.mem_cons_self ..) (by rw [e];rfl),fun e=>h _ (List.mem_cons_self ..) (by rw [←e];rfl),Wo fun k hk=>h k (List.mem_cons_of_mem _ hk)⟩
 | .ro _::L,h=>Wo (L:=L) fun k hk=>h k (List.mem_cons_of_mem _ hk)
 | .cst ..::L,h=>Wo (L:=L) fun k hk=>h k (List.mem_cons_of_mem _ hk)
 | .ob g' _::L,h=>⟨fun e=>h _ (List.mem_cons_self ..) (by rw [e];rfl),fun e=>h _ (List.mem_cons_self ..) (by rw [←e];rfl),Wo fun k hk=>h k (List.mem_cons_of_mem _ hk)⟩
theorem Vm:∀ {L:List Hp},Apart L→XG L
 | [],_=>trivial
 | .blk g _ _::L,h=>⟨Wo (h.1 g rfl),Vm h.2⟩
 | .own ..::L,h=>Vm (L:=L) h.2
 | .tp T::L,h=>⟨Wo (h.1 T rfl),Vm h.2⟩
 | .ro _::L,h=>Vm (L:=L) h.2
 | .cst ..::L,h=>Vm (L:=L) h.2
 | .ob g _::L,h=>⟨Wo (h.1 g rfl),Vm h.2⟩
theorem Hold.nes {M:Nat→Prop} {row:Option Nat} {w0 w:World} {L:List Hp} (h:Hold M row w0 w L):XG L:=Vm h.sep
theorem Hold.get {M:Nat→Prop} {row:Option Nat} {w0 w:World} {L:List Hp} (h:Hold M row w0 w L) (i:Nat) {k:Hp} (hi:L[i]? =some k):k.sat w0.heap.size w (Mut M L):=h.sat k (List.mem_of_getElem? hi)
theorem Hold.ro {M:Nat→Prop} {row:Option Nat} {w0 w:World} {L:List Hp} (h:Hold M row w0 w L) (i:Nat) {S:World→Prop} (hi:L[i]? =some (.ro S)):Ro w (Mut M L) S:=h.get i hi
theorem Hold.ZB {M:Nat→Prop} {row:Option Nat} {w0 w:World} {L:List Hp} (h:Hold M row w0 w L) (i:Nat) {g:Nat} {t:TypeId} {cs:Array Value} (hi:L[i]? =some (.cst g t cs)):Blk w g t cs:=Ro.now (S:=fun w=>w.heap[g]? =some (.cells cs t (0,0))) (h.get i hi)
theorem Hold.ZF {M:Nat→Prop} {row:Option Nat} {w0 w:World} {L:List Hp} (h:Hold M row w0 w L) (i:Nat) {g:Nat} {t:TypeId} {cs:Array Value} (hi:L[i]? =some (.blk g t cs)):Blk w g t cs:=h.get i hi
theorem Hold.tp_ {M:Nat→Prop} {row:Option Nat} {w0 w:World} {L:List Hp} (h:Hold M row w0 w L) (i:Nat) {T:Nat} (hi:L[i]? =some (.tp T)):Tp w T:=(h.get i hi).1
theorem Hold.ZP {M:Nat→Prop} {row:Option Nat} {w0 w:World} {L:List Hp} (h:Hold M row w0 w L) (i:Nat) {S:World→Prop} (hi:L[i]? =some (.ro S)):Ro w M S:=(h.ro i hi).less fun b hb=>.inl hb
theorem Hold.Zix {M:Nat→Prop} {row:Option Nat} {w0 w:World} {L:List Hp} (h:Hold M row w0 w L) (o:Obj) (F:World→Prop) (hF:∀ w' :World,w'.heap[w.heap.size]? =some o→F w'):Hold M row w0 (w.alloc o) (.ob w.heap.size F::L):=by
 have hsz:(w.alloc o).heap.size=w.heap.size+1:=by simp
 have hnew:(w.alloc o).heap[w.heap.size]? =some o:=heap_alloc_new w _
 have hMM:∀ b,b<w.heap.size→Mut M (.ob w.heap.size F::L) b→Mut M L b:=fun b hl hm=>by
  rcases ZI.1 hm with hf|hm
  ·injection hf with hf;omega
  ·exact hm
 refine ⟨QU h.grow _,h.low,fun k hk=>?_,fun k hk b hf=>?_,⟨fun b hf k hk he=>?_,h.sep⟩⟩
 ·rcases List.mem_cons.1 hk with rfl|hk
  ·exact fun w' hw' =>hF w' (hw'.trans hnew)
  ·exact Hp.Xj (k:=k) (h.sat k hk) (by omega) (fun b hl _=>Below.heap_alloc w _ b hl) hMM (fun b hf=>Below.heap_alloc w _ b (h.fresh k hk b hf).2)
    (fun T hT b hlt=>by
     have:=h.fresh k hk T (by subst hT;rfl)
     exact Below.heap_alloc w _ b (by omega))
 ·rcases List.mem_cons.1 hk with rfl|hk
  ·injection hf with hf;subst hf;exact ⟨.inl h.grow.size,by omega⟩
  ·exact ⟨(h.fresh k hk b hf).1,by have:=(h.fresh k hk b hf).2;omega⟩
 ·injection hf with hf;subst hf
  have:=(h.fresh k hk _ he).2;omega
theorem Hold.Zit {M:Nat→Prop} {row:Option Nat} {w0 w w' :World} {L:List Hp} (h:Hold M row w0 w L) (i:Nat) {g:Nat} {F F' :World→Prop} (hi:L[i]? =some (.ob g F)) (hg:w.grownBy w' (some g)) (hF:∀ w2:World,w2.heap[g]? =w'.heap[g]? →F' w2):Hold M row w0 w' (L.set i (.ob g F')):=by
 have hkm:=List.mem_of_getElem? hi
 refine h.turn i hi hg.size ⟨hg.os,hg.tape,hg.output⟩ (fun b hl hne=>hg.block b hl fun e=>hne e.symm) (fun b hf=>⟨.inl hf,by
  injection hf with hf;subst hf;exact Nat.lt_of_lt_of_le (h.fresh _ hkm g rfl).2 hg.size⟩) hF (fun T hT=>by cases hT)
theorem Hold.ob_ {M:Nat→Prop} {row:Option Nat} {w0 w:World} {L:List Hp} (h:Hold M row w0 w L) (i:Nat) {g:Nat} {F:World→Prop} (hi:L[i]? =some (.ob g F)):F w:=h.get i hi w rfl
def Zc (b:Nat):Prop:=False
theorem Hold.XP (w:World):Hold Zc none w w []:=Hold.start Zc w (fun b hb=>hb.elim)
theorem zm {M:Nat→Prop} {L:List Hp}:∀ b,M b→Mut M L b:=fun b hb=>.inl hb
theorem zn {M:Nat→Prop}:∀ b,Zc b→M b:=fun b h=>h.elim
theorem zg:(∀ w:World,ZU w []=True)∧(∀ (w:World) g t (cs:Array Value) L,ZU w (.blk g t cs::L)=(g<w.heap.size∧Zt w g 0 cs.toList∧ZU w L))∧(∀ (w:World) a b c d e L,ZU w (.own a b c d e::L)=ZU w L)∧(∀ (w:World) T L,ZU w (.tp T::L)=ZU w L)∧(∀ (w:World) S L,ZU w (.ro S::L)=ZU w L)∧(∀ (w:World) g t (cs:Array Value) L,ZU w (.cst g t cs::L)=(g<w.heap.size∧Zt w g 0 cs.toList∧ZU w L))∧(∀ (w:World) g F L,ZU w (.ob g F::L)=ZU w L)∧(∀ (w:World) g i,Zt w g i []=True)∧(∀ (w:World) g x r,Zt w g 0 (x::r)=(w.cell? ⟨g,0,none⟩=some x∧w.frozen? ⟨g,0,none⟩=false∧Zt w g 1 r))∧(∀ (w:World) g x r,Zt w g 1 (x::r)=(w.cell? ⟨g,1,none⟩=some x∧w.frozen? ⟨g,1,none⟩=false∧Zt w g 2 r))∧(∀ (w:World) g x r,Zt w g 2 (x::r)=(w.cell? ⟨g,2,none⟩=some x∧w.frozen? ⟨g,2,none⟩=false∧Zt w g 3 r))∧(∀ (w:World) g x r,Zt w g 3 (x::r)=(w.cell? ⟨g,3,none⟩=some x∧w.frozen? ⟨g,3,none⟩=false∧Zt w g 4 r))∧(∀ (w:World) g x r,Zt w g 4 (x::r)=(w.cell? ⟨g,4,none⟩=some x∧w.frozen? ⟨g,4,none⟩=false∧Zt w g 5 r))∧(∀ (w:World) g x r,Zt w g 5 (x::r)=(w.cell? ⟨g,5,none⟩=some x∧w.frozen? ⟨g,5,none⟩=false∧Zt w g 6 r))∧(∀ (w:World) g x r,Zt w g 6 (x::r)=(w.cell? ⟨g,6,none⟩=some x∧w.frozen? ⟨g,6,none⟩=false∧Zt w g 7 r))∧(∀ (w:World) g x r,Zt w g 7 (x::r)=(w.cell? ⟨g,7,none⟩=some x∧w.frozen? ⟨g,7,none⟩=false∧Zt w g 8 r))∧(∀ (w:World) g x r,Zt w g 8 (x::r)=(w.cell? ⟨g,8,none⟩=some x∧w.frozen? ⟨g,8,none⟩=false∧Zt w g 9 r))∧(∀ (w:World) g x r,Zt w g 9 (x::r)=(w.cell? ⟨g,9,none⟩=some x∧w.frozen? ⟨g,9,none⟩=false∧Zt w g 10 r))∧(∀ (w:World) g x r,Zt w g 10 (x::r)=(w.cell? ⟨g,10,none⟩=some x∧w.frozen? ⟨g,10,none⟩=false∧Zt w g 11 r))∧(∀ (w:World) g x r,Zt w g 11 (x::r)=(w.cell? ⟨g,11,none⟩=some x∧w.frozen? ⟨g,11,none⟩=false∧Zt w g 12 r))∧(∀ (w:World) g x r,Zt w g 12 (x::r)=(w.cell? ⟨g,12,none⟩=some x∧w.frozen? ⟨g,12,none⟩=false∧Zt w g 13 r))∧(∀ (w:World) g x r,Zt w g 13 (x::r)=(w.cell? ⟨g,13,none⟩=some x∧w.frozen? ⟨g,13,none⟩=false∧Zt w g 14 r))∧(∀ (w:World) g x r,Zt w g 14 (x::r)=(w.cell? ⟨g,14,none⟩=some x∧w.frozen? ⟨g,14,none⟩=false∧Zt w g 15 r))∧(∀ (w:World) g x r,Zt w g 15 (x::r)=(w.cell? ⟨g,15,none⟩=some x∧w.frozen? ⟨g,15,none⟩=false∧Zt w g 16 r))∧(∀ (w:World) g x r,Zt w g 16 (x::r)=(w.cell? ⟨g,16,none⟩=some x∧w.frozen? ⟨g,16,none⟩=false∧Zt w g 17 r))∧(∀ (w:World) (o:Obj),(w.alloc o).heap.size=w.heap.size+1)∧(∀ w:World,w.drew.heap.size=w.heap.size)∧(∀ {α:Type} {l:List α},l.toArray.toList=l)∧(∀ p:Prop,(p∧True)=p)∧(∀ p:Prop,(True∧p)=p)∧(∀ {α:Type} {x:α} {xs:List α} {a:α},(x::xs).set 0 a=a::xs)∧(∀ {α:Type} {x:α} {xs:List α} {i:Nat} {a:α},(x::xs).set (i+1) a=x::xs.set i a)∧(∀ {α:Type} (l:List α) (i:Nat) (a:α),l.toArray.setIfInBounds i a=(l.set i a).toArray):=⟨fun _=>rfl,fun _ _ _ _ _=>rfl,fun _ _ _ _ _ _ _=>rfl,fun _ _ _=>rfl,fun _ _ _=>rfl,fun _ _ _ _ _=>rfl,fun _ _ _ _=>rfl,fun _ _ _=>rfl,fun _ _ _ _=>rfl,fun _ _ _ _=>rfl,fun _ _ _ _=>rfl,fun _ _ _ _=>rfl,fun _ _ _ _=>rfl,fun _ _ _ _=>rfl,fun _ _ _ _=>rfl,fun _ _ _ _=>rfl,fun _ _ _ _=>rfl,fun _ _ _ _=>rfl,fun _ _ _ _=>rfl,fun _ _ _ _=>rfl,fun _ _ _ _=>rfl,fun _ _ _ _=>rfl,fun _ _ _ _=>rfl,fun _ _ _ _=>rfl,fun _ _ _ _=>rfl,World.size_alloc,World.size_drew,List.toList_toArray,and_true,true_and,List.set_cons_zero,List.set_cons_succ,List.setIfInBounds_toArray⟩
end Go.Proofs.YtnbbllkbefagmaaGreatDoor
namespace Go.Proofs.YtnbbllkbefagmaaGreatDoor
open Go.RowKit
set_option linter.unusedVariables false
theorem flat_get {α β:Type} (f:α→List β) (n:Nat) (hf:∀ a,(f a).length=n):∀ (l:List α) (k j:Nat) (a:α),j<n→l[k]? =some a→(l.flatMap f)[k * n+j]? =(f a)[j]?
 | [],k,j,a,_,h=>by simp at h
 | x::l,0,j,a,hj,h=>by
  simp only [List.getElem?_cons_zero,Option.some.injEq] at h
  subst h
  simp only [List.flatMap_cons,Nat.zero_mul,Nat.zero_add]
  rw [List.getElem?_append_left (by rw [hf];exact hj)]
 | x::l,k+1,j,a,hj,h=>by
  simp only [List.getElem?_cons_succ] at h
  simp only [List.flatMap_cons]
  rw [List.getElem?_append_right (by rw [hf,Nat.succ_mul];omega),hf,show (k+1) * n+j - n=k * n+j by rw [Nat.succ_mul];omega]
  exact flat_get f n hf l k j a hj h
theorem Yu {α β:Type} (f:α→List β) (n:Nat) (hf:∀ a,(f a).length=n) (l:List α):(l.flatMap f).length=l.length * n:=by
 induction l with
 | nil=>simp
 | cons x l ih=>simp [List.flatMap_cons,hf,ih,Nat.succ_mul];omega
structure Col where
 name:ByteArray
 ty:Int
 nn:Bool
 key:Bool
deriving DecidableEq
def Col.cells (c:Col):List Value:=[.string c.name,.int .i64 c.ty,.bool c.nn,.bool c.key]
def Zd (l:List Col):List Value:=l.flatMap Col.cells
theorem Zh3 (l:List Col):(Zd l).length=l.length * 4:=Yu _ 4 (fun _=>rfl) l
theorem Zg4 {l:List Col} {k:Nat} {c:Col} (h:l[k]? =some c):(Zd l)[k * 4]? =some (.string c.name)∧(Zd l)[k * 4+1]? =some (.int .i64 c.ty)∧(Zd l)[k * 4+2]? =some (.bool c.nn)∧(Zd l)[k * 4+3]? =some (.bool c.key):=
 ⟨flat_get Col.cells 4 (fun _=>rfl) l k 0 c (by omega) h,flat_get Col.cells 4 (fun _=>rfl) l k 1 c (by omega) h,flat_get Col.cells 4 (fun _=>rfl) l k 2 c (by omega) h,flat_get Col.cells 4 (fun _=>rfl) l k 3 c (by omega) h⟩
def RdC (w:World) (B:Nat) (A:Option Addr) (n:Nat) (l:List Col):Prop:=Rd w B 4 A n (Zd l)
theorem RdC.len {w:World} {B n:Nat} {A:Option Addr} {l:List Col} (h:RdC w B A n l):l.length=n:=by
 have:=h.1
 rw [Zh3] at this
 omega
theorem RdC.at_ {w:World} {B n:Nat} {A:Option Addr} {l:List Col} (h:RdC w B A n l) {k:Nat} {c:Col} (hc:l[k]? =some c):
  ∃ b o,A=some ⟨b,o,none⟩∧b<B∧w.cell? ⟨b,o+k * 4,none⟩=some (.string c.name)∧w.cell? ⟨b,o+k * 4+1,none⟩=some (.int .i64 c.ty)∧w.cell? ⟨b,o+k * 4+2,none⟩=some (.bool c.nn)∧w.cell? ⟨b,o+k * 4+3,none⟩=some (.bool c.key):=by
 have hk:k<n:=by rw [←h.len];exact (List.getElem?_eq_some_iff.1 hc).1
 obtain ⟨b,o,e,hb,hcell⟩:=h.2 (by omega)
 obtain ⟨h0,h1,h2,h3⟩:=Zg4 hc
 exact ⟨b,o,e,hb,hcell _ _ h0,hcell _ _ h1,hcell _ _ h2,hcell _ _ h3⟩
end Go.Proofs.YtnbbllkbefagmaaGreatDoor
namespace Go.Proofs.YtnbbllkbefagmaaGreatDoor
open Go.RowKit
set_option linter.unusedVariables false
def SlR (size:Nat) (A:Option Addr) (n:Nat) (xs:List Value) (w:World):Prop:=Rd w w.heap.size size A n xs
section
variable {w w' :World} {M:Nat→Prop} {B size n:Nat} {A:Option Addr} {xs:List Value}
theorem Rd.ro (h:Rd w B size A n xs) (hB:B≤w.heap.size) (hM:∀ b,b<B→¬M b):Ro w M (SlR size A n xs):=fun w2 h1 h2=>
 (h.keep fun p hp=>World.cell?_of_block (w:=w) (h2 p.block (by omega) (hM _ hp))).more (by omega)
theorem ZL {g:Nat} {t:TypeId} {cs:Array Value} (h:Ro w M (fun w=>w.heap[g]? =some (.cells cs t (0,0)))) (hl:cs.toList.length=n * size):Ro w M (SlR size (some ⟨g,0,none⟩) n cs.toList):=
 h.imp fun w2 h2=>⟨hl,fun _=>⟨g,0,rfl,Blk.lt (t:=t) (cs:=cs) h2,fun j u hu=>by
  rw [cell_of_row w2 g (0+j) cs t (0,0) h2,Nat.zero_add];simpa using hu⟩⟩
theorem VJ:Ro w M (SlR size none 0 []):=fun _ _ _=>Rd.none_
theorem Hold.Zic {row:Option Nat} {w0:World} {L:List Hp} (h:Hold M row w0 w L) {k' :Hp} (hk' :k'.foot=none) (hs:k'.sat w0.heap.size w (Mut M (k' ::L))):Hold M row w0 w (k' ::L):=by
 have e:∀ b,Mut M (k' ::L) b→Mut M L b:=fun b hb=>by
  rcases ZI.1 hb with hf|hm
  ·rw [hk'] at hf;cases hf
  ·exact hm
 refine ⟨h.grow,h.low,fun k hk=>?_,fun k hk b hf=>?_,⟨(fun b hf=>by rw [hk'] at hf;cases hf),h.sep⟩⟩
 ·rcases List.mem_cons.1 hk with rfl|hk
  ·exact hs
  ·exact Hp.Xj (k:=k) (h.sat k hk) (Nat.le_refl _) (fun _ _ _=>rfl) (fun b _ hb=>e b hb) (fun _ _=>rfl) (fun _ _ _ _=>rfl)
 ·rcases List.mem_cons.1 hk with rfl|hk
  ·rw [hk'] at hf;cases hf
  ·exact h.fresh k hk b hf
theorem Xa {k' :Hp} (hk' :k'.foot=none) {L:List Hp}:∀ b,Mut M (k' ::L) b→Mut M L b:=fun b hb=>by
 rcases ZI.1 hb with hf|hm
 ·rw [hk'] at hf;cases hf
 ·exact hm
theorem Hold.GX {row:Option Nat} {w0:World} {L:List Hp} (h:Hold M row w0 w L) {g:Nat} {t:TypeId} {cs:Array Value} (hr:Ro w (Mut M L) (fun w=>w.heap[g]? =some (.cells cs t (0,0)))):Hold M row w0 w (.cst g t cs::L):=
 h.Zic rfl (hr.less (Xa rfl))
theorem Hold.Zu {row:Option Nat} {w0:World} {L:List Hp} (h:Hold M row w0 w L) (i:Nat) {e:TypeId} {A:Option Addr} {c:Nat} (hi:L[i]? =some (.own e size (.slice A n c) n xs)):
  Hold M row w0 w (L.set i (.ro (SlR size A n xs))):=
 h.Zie i hi (fun T e=>nomatch e) fun w2 h1 h2=>by
  have h3:w2.ownsRow w0.heap.size e size (.slice A n c) n xs:=by
   refine ⟨h1.1,?_⟩
   rcases h1.2 with hn|⟨g,cap,cur,hv,hb,hgg,rest⟩
   ·exact .inl hn
   ·injection hv with hv1 hv2 hv3
    subst hv1 hv3
    exact .inr ⟨g,c,cur,rfl,hb,(h2 g rfl).trans hgg,rest⟩
  exact Rd.U9 h3
end
theorem Zq {α:Type} {l:List α} {n k:Nat} (h:l.length=n) (hk:k<n):∃ x,l[k]? =some x:=⟨l[k]'(by omega),List.getElem?_eq_getElem _⟩
end Go.Proofs.YtnbbllkbefagmaaGreatDoor
namespace Go.Proofs.YtnbbllkbefagmaaGreatDoor
open Go.RowKit
set_option linter.unusedVariables false
theorem Yv {α:Type} {l:List α} {k:Nat} {c:α} (h:l[k]? =some c):l.drop k=c::l.drop (k+1):=by
 obtain ⟨hk,rfl⟩:=List.getElem?_eq_some_iff.1 h
 exact List.drop_eq_getElem_cons hk
def Z7 {α:Type} (p:α→Bool) (k:Nat):List α→Int
 | []=>-1
 | c::r=>if p c then (k:Int) else Z7 p (k+1) r
def Zi {α:Type} (p:α→Bool) (l:List α):Int:=Z7 p 0 l
section
variable {α:Type} {p:α→Bool} {l:List α} {k:Nat} {c:α}
theorem VU (h:Zi p l=Z7 p k (l.drop k)) (hc:l[k]? =some c) (hp:p c=true):Zi p l=k:=by
 rw [h,Yv hc,Z7,if_pos hp]
theorem Vv (h:Zi p l=Z7 p k (l.drop k)) (hc:l[k]? =some c) (hp:p c=false):Zi p l=Z7 p (k+1) (l.drop (k+1)):=by
 rw [h,Yv hc,Z7,if_neg (by simp [hp])]
theorem WY (h:Zi p l=Z7 p k (l.drop k)) (hk:l.length≤k):Zi p l=-1:=by
 rw [h,List.drop_of_length_le hk,Z7]
theorem ZbI (p:α→Bool):∀ (l:List α) (k:Nat),Z7 p k l=-1∨((k:Int)≤Z7 p k l∧Z7 p k l<k+l.length)
 | [],k=>.inl rfl
 | c::r,k=>by
  simp only [Z7]
  split
  ·right;simp;omega
  ·rcases ZbI p r (k+1) with h|⟨h1,h2⟩
   ·exact .inl h
   ·right
    have h1' :(k:Int)+1≤Z7 p (k+1) r:=by simpa using h1
    refine ⟨by omega,?_⟩
    simp only [List.length_cons]
    have h2' :Z7 p (k+1) r<(k:Int)+1+r.length:=by simpa using h2
    omega
theorem Zai (p:α→Bool) (c:α) (hp:p c=true):∀ (l:List α) (k i:Nat),l[i]? =some c→(k:Int)≤Z7 p k l∧Z7 p k l≤k+i
 | [],k,i,h=>by simp at h
 | x::r,k,0,h=>by
  simp only [List.getElem?_cons_zero,Option.some.injEq] at h
  subst h
  rw [Z7,if_pos hp];omega
 | x::r,k,i+1,h=>by
  simp only [List.getElem?_cons_succ] at h
  rw [Z7]
  split
  ·omega
  ·have:=Zai p c hp r (k+1) i h
   omega
theorem ZbW (hp:p c=true) {i:Nat} (h:l[i]? =some c):0≤Zi p l∧Zi p l≤i:=by
 have:=Zai p c hp l 0 i h
 simpa [Zi] using this
theorem find_range (p:α→Bool) (l:List α):-1≤Zi p l∧Zi p l<max l.length 1:=by
 have:=ZbI p l 0
 unfold Zi
 omega
end
def named (s:ByteArray) (c:Col):Bool:=c.name.toList==s.toList
def YF {α:Type} (t:Nat→α→Bool) (k:Nat):List α→Bool
 | []=>true
 | c::r=>t k c&&YF t (k+1) r
section
variable {α:Type} {t:Nat→α→Bool} {l:List α} {k:Nat} {c:α}
theorem ZdR (h:YF t 0 l=YF t k (l.drop k)) (hc:l[k]? =some c) (hp:t k c=false):YF t 0 l=false:=by
 rw [h,Yv hc,YF,hp,Bool.false_and]
theorem ZhY (h:YF t 0 l=YF t k (l.drop k)) (hc:l[k]? =some c) (hp:t k c=true):YF t 0 l=YF t (k+1) (l.drop (k+1)):=by
 rw [h,Yv hc,YF,hp,Bool.true_and]
theorem Zc6 (h:YF t 0 l=YF t k (l.drop k)) (hk:l.length≤k):YF t 0 l=true:=by
 rw [h,List.drop_of_length_le hk,YF]
end
theorem take_snoc' {α:Type} {l:List α} {k:Nat} {c:α} (h:l[k]? =some c):l.take (k+1)=l.take k++[c]:=by
 obtain ⟨hk,rfl⟩:=List.getElem?_eq_some_iff.1 h
 exact List.take_succ_eq_append_getElem hk
theorem Zcf {α:Type} {l:List α} {k:Nat} {c:α} (p:α→Bool) (h:l[k]? =some c):((l.take (k+1)).filter p).length=((l.take k).filter p).length+(if p c then 1 else 0):=by
 rw [take_snoc' h,List.filter_append,List.length_append]
 congr 1
 cases hp:p c<;>simp [List.filter,hp]
end Go.Proofs.YtnbbllkbefagmaaGreatDoor
namespace Go.Proofs.YtnbbllkbefagmaaGreatDoor
open Go.RowKit
set_option linter.unusedVariables false
set_option linter.unusedSimpArgs false
def Vl.val (x:Vl):Value:=.agg #[.int .i64 x.k,.int .i64 x.i,.string x.s]
def Vl.cells (x:Vl):List Value:=[.int .i64 x.k,.int .i64 x.i,.string x.s]
def Vl.ok (x:Vl):Prop:=I64 x.k∧I64 x.i∧x.s.size≤maxLen
def Z5 (l:List Vl):List Value:=l.flatMap Vl.cells
theorem JQ (l:List Vl):(Z5 l).length=l.length * 3:=Yu _ 3 (fun _=>rfl) l
def VlsIn (A:Option Addr) (n:Nat) (l:List Vl):World→Prop:=SlR 3 A n (Z5 l)
theorem VlsIn.len {w:World} {A:Option Addr} {n:Nat} {l:List Vl} (h:VlsIn A n l w):l.length=n:=by
 have:=(show Rd w w.heap.size 3 A n (Z5 l) from h).1
 rw [JQ] at this
 omega
theorem VlsIn.at_ {w:World} {A:Option Addr} {n:Nat} {l:List Vl} (h:VlsIn A n l w) {k:Nat} {x:Vl} (hx:l[k]? =some x):
  ∃ b o,A=some ⟨b,o,none⟩∧b<w.heap.size∧w.cell? ⟨b,o+k * 3,none⟩=some (.int .i64 x.k)∧w.cell? ⟨b,o+k * 3+1,none⟩=some (.int .i64 x.i)∧w.cell? ⟨b,o+k * 3+2,none⟩=some (.string x.s):=by
 have hk:k<n:=by rw [←h.len];exact (List.getElem?_eq_some_iff.1 hx).1
 obtain ⟨b,o,e,hb,hc⟩:=(show Rd w w.heap.size 3 A n (Z5 l) from h).2 (by omega)
 exact ⟨b,o,e,hb,hc _ _ (flat_get Vl.cells 3 (fun _=>rfl) l k 0 x (by omega) hx),hc _ _ (flat_get Vl.cells 3 (fun _=>rfl) l k 1 x (by omega) hx),hc _ _ (flat_get Vl.cells 3 (fun _=>rfl) l k 2 x (by omega) hx)⟩
theorem QB (l:List Vl):∀ u∈Z5 l,u.oneCell' =true:=fun u hu=>by
 unfold Z5 at hu
 rw [List.mem_flatMap] at hu
 obtain ⟨x,_,hx⟩:=hu
 simp only [Vl.cells,List.mem_cons,List.not_mem_nil,or_false] at hx
 rcases hx with rfl|rfl|rfl<;>rfl
structure Rw where
 id:Int
 A:Option Addr
 n:Nat
 c:Nat
 vs:List Vl
def Rw.cells (r:Rw):List Value:=[.int .i64 r.id,.slice r.A r.n r.c]
def ZJ (l:List Rw):List Value:=l.flatMap Rw.cells
theorem GJ (l:List Rw):(ZJ l).length=l.length * 2:=Yu _ 2 (fun _=>rfl) l
def YT (l:List Rw) (w:World):Prop:=∀ r∈l,VlsIn r.A r.n r.vs w
def RwsIn (A:Option Addr) (n:Nat) (l:List Rw) (w:World):Prop:=SlR 2 A n (ZJ l) w∧YT l w
theorem RwsIn.len {w:World} {A:Option Addr} {n:Nat} {l:List Rw} (h:RwsIn A n l w):l.length=n:=by
 have:=(show Rd w w.heap.size 2 A n (ZJ l) from h.1).1
 rw [GJ] at this
 omega
theorem RwsIn.at_ {w:World} {A:Option Addr} {n:Nat} {l:List Rw} (h:RwsIn A n l w) {k:Nat} {x:Rw} (hx:l[k]? =some x):
  ∃ b o,A=some ⟨b,o,none⟩∧b<w.heap.size∧w.cell? ⟨b,o+k * 2,none⟩=some (.int .i64 x.id)∧w.cell? ⟨b,o+k * 2+1,none⟩=some (.slice x.A x.n x.c)∧VlsIn x.A x.n x.vs w:=by
 have hk:k<n:=by rw [←h.len];exact (List.getElem?_eq_some_iff.1 hx).1
 obtain ⟨b,o,e,hb,hc⟩:=(show Rd w w.heap.size 2 A n (ZJ l) from h.1).2 (by omega)
 exact ⟨b,o,e,hb,hc _ _ (flat_get Rw.cells 2 (fun _=>rfl) l k 0 x (by omega) hx),hc _ _ (flat_get Rw.cells 2 (fun _=>rfl) l k 1 x (by omega) hx),h.2 x (List.mem_of_getElem? hx)⟩
structure Rw.ok (r:Rw):Prop where
 id:I64 r.id
 nc:r.n≤r.c
 c:r.c≤9223372036854775807
 vs:∀ v∈r.vs,v.ok
abbrev Row:=Int × List Vl
def Rw.row (r:Rw):Row:=(r.id,r.vs)
def YH (c:Col) (v:Vl):Int:=if Yq v.k v.i v.s then (if v.k==0 then (if c.nn then 8 else 0) else if v.k==c.ty then 0 else 5) else 17
def Xk:List Col→List Vl→Int
 | c::cs,v::vs=>if YH c v=0 then Xk cs vs else YH c v
 | _,_=>0
def ZC (cs:List Col) (vs:List Vl):Int:=if vs.length=cs.length then Xk cs vs else 17
theorem ZfL {cs:List Col} {vs:List Vl} {k:Nat} {c:Col} {v:Vl} (hc:cs[k]? =some c) (hv:vs[k]? =some v) (h:YH c v=0):Xk (cs.drop k) (vs.drop k)=Xk (cs.drop (k+1)) (vs.drop (k+1)):=by
 rw [Yv hc,Yv hv,Xk,if_pos h]
theorem ZeB {cs:List Col} {vs:List Vl} {k:Nat} {c:Col} {v:Vl} (hc:cs[k]? =some c) (hv:vs[k]? =some v) (h:YH c v≠0):Xk (cs.drop k) (vs.drop k)=YH c v:=by
 rw [Yv hc,Yv hv,Xk,if_neg h]
theorem ZhM {cs:List Col} {vs:List Vl} {k:Nat} (h:cs.length≤k):Xk (cs.drop k) (vs.drop k)=0:=by
 rw [List.drop_of_length_le h]
 cases vs.drop k<;>rfl
def Yi (k:Int):List Vl→List (List Vl)→Bool
 | _,[]=>false
 | seen,r::rs=>if 0≤k then match r[k.toNat]? with
  | some v=>if v∈seen then true else Yi k (v::seen) rs
  | none=>Yi k seen rs
  else Yi k seen rs
def YW (cs:List Col) (rs:List Row):Bool:=Yi (Zi Col.key cs) [] (rs.map (·.2))
theorem GA {k:Int} (h:k<0):∀ (seen:List Vl) (rs:List (List Vl)),Yi k seen rs=false
 | _,[]=>rfl
 | seen,r::rs=>by rw [Yi,if_neg (by omega)];exact GA h seen rs
def okR (cs:List Col) (next:Int):Int→List Row→Bool
 | _,[]=>true
 | last,r::rs=>decide (last<r.1)&&decide (r.1<next)&&decide (ZC cs r.2=0)&&okR cs next r.1 rs
theorem ZfO {P:Program} (w0:World) (cs:Array Value) {ops:Array Oper} {rest:List Oper} {o:Oper} {a:Act} {Q:Exit→Act→World→Prop} (hgd:o.guard=none) (s x:Operand) (t:TypeId)
  (ho:o.op=.call { callee:=.builtin .append,args:=#[s,x],argTypes:=#[t,t] })
  (base:Nat) (e:TypeId) (size bytes:Nat) (z:Value) (ht:P.underlying t=some (.slice e)) (hi:(P.info? e).map (fun i=>(i.zero,i.size,i.bytes))=some (some z,size,bytes))
  (hzs:z.cells.size=size) (hsz:0<size)
  (v:Value) (n:Nat) (xs:List Value) (hs:a.eval s=v) (hown:w0.ownsRow base e size v n xs)
  (H:Nat) (hH:w0.heap.size=H) (hx:a.eval x=.slice (some ⟨H,0,none⟩) 1 1) (hl:cs.size=size) (h1:∀ u∈cs.toList,u.oneCell' =true)
  (hn:n<140737488355328) (hbytes:(n+1) * bytes≤140737488355328) (hbase:base≤w0.heap.size)
  (h:∀ g cap w',w'.ownsRow base e size (.slice (some ⟨g,0,none⟩) (n+1) cap) (n+1) (xs++cs.toList)→(w0.alloc (.cells cs e)).grownBy w' v.ownBlock→(v.ownBlock=some g∨(w0.alloc (.cells cs e)).heap.size≤g)→g<w'.heap.size→
   wpList P ops Q rest (a.put o.dst (.slice (some ⟨g,0,none⟩) (n+1) cap)) w'):
  wpList P ops Q (o::rest) a (w0.alloc (.cells cs e)):=by
 subst hH
 obtain ⟨i,hi1,hi2,hi3,hi4⟩:=info_parts hi
 refine wpList_append_lies (w:=w0.alloc (.cells cs e)) hgd s x t ho base e i z size bytes ht hi1 hi2 hi3 hi4 hzs hsz v n xs hs (hown.alloc _) ⟨w0.heap.size,0,none⟩ 1 1 cs.toList hx (by simpa using hl) ?_ h1 (by omega) (by unfold maxLen;omega) hbytes (by simp;omega) (w0.heap.size+1) (by simp) ?_
 ·exact World.news_of_block (heap_alloc_new w0 _)
 ·intro g cap w' h2 h3 h4 h5
  exact h g cap w' h2 h3 (h4.imp id fun e=>by rw [e];simp) h5
end Go.Proofs.YtnbbllkbefagmaaGreatDoor
namespace Go.Proofs.YtnbbllkbefagmaaGreatDoor
open Go.RowKit
set_option linter.unusedVariables false
structure ElemT (P:Program) (t e:TypeId) (size bytes:Nat) (z:Value):Prop where
 ht:P.underlying t=some (.slice e)
 hi:(P.info? e).map (fun i=>(i.zero,i.size,i.bytes))=some (some z,size,bytes)
 hzs:z.cells.size=size
 hsz:0<size
section
variable {P:Program} {M:Nat→Prop} {row:Option Nat} {w0 w w' :World} {L L' :List Hp}
theorem ZR {w:World} {base:Nat} {e:TypeId} {size n m c:Nat} {A:Option Addr} {xs:List Value} (h:w.ownsRow base e size (.slice A n c) m xs):m≤c∧c≤9223372036854775807∧n=m:=by
 obtain ⟨h1,⟨h2,h3⟩|⟨g,cap,cur,hv,_,_,hle,hm,_⟩⟩:=h
 ·have e1:=(Value.slice.inj h2).2.2
  have e2:=(Value.slice.inj h2).2.1
  omega
 ·have e1:=(Value.slice.inj hv).2.2
  have e2:=(Value.slice.inj hv).2.1
  unfold maxLen at hm
  omega
theorem U5 {w:World} {base:Nat} {e:TypeId} {size n m c:Nat} {A:Option Addr} {xs:List Value} (h:w.ownsRow base e size (.slice A n c) m xs):(A=none∧m=0∧c=0)∨∃ g,A=some ⟨g,0,none⟩∧base≤g:=by
 obtain ⟨h1,⟨h2,h3⟩|⟨g,cap,cur,hv,hb,_⟩⟩:=h
 ·exact .inl ⟨(Value.slice.inj h2).1,h3,(Value.slice.inj h2).2.2⟩
 ·exact .inr ⟨g,(Value.slice.inj hv).1,hb⟩
theorem ZH (K:Hold M row w0 w L) (i:Nat) {t e:TypeId} {size bytes q cap:Nat} {C:Option Addr} {xs:List Value} {z:Value} (hi:L[i]? =some (.own e size (.slice C q cap) q xs)) (hE:ElemT P t e size bytes z)
  (cs:Array Value) {ops:Array Oper} {rest:List Oper} {o:Oper} {a:Act} {Q:Exit→Act→World→Prop} (hgd:o.guard=none) (s x:Operand) (ho:o.op=.call { callee:=.builtin .append,args:=#[s,x],argTypes:=#[t,t] })
  (hs:a.eval s=.slice C q cap) (H:Nat) (hH:w.heap.size=H) (hx:a.eval x=.slice (some ⟨H,0,none⟩) 1 1) (hl:cs.size=size) (h1:∀ u∈cs.toList,u.oneCell' =true) (hq:q<140737488355328) (hb:(q+1) * bytes≤140737488355328)
  (h:∀ g cap' w',q+1≤cap' →cap' ≤9223372036854775807→Hold M row w0 w' (L.set i (.own e size (.slice (some ⟨g,0,none⟩) (q+1) cap') (q+1) (xs++cs.toList)))→wpList P ops Q rest (a.put o.dst (.slice (some ⟨g,0,none⟩) (q+1) cap')) w'):
  wpList P ops Q (o::rest) a (w.alloc (.cells cs e)):=by
 refine ZfO w cs hgd s x t ho w0.heap.size e size bytes z hE.ht hE.hi hE.hzs hE.hsz (.slice C q cap) q xs hs (K.get i hi) H hH hx hl h1 hq hb K.grow.size ?_
 intro g cap' w' ho' hg hd hl'
 obtain ⟨c1,c2,_⟩:=ZR ho'
 have K1:=K.Za cs e
 have K2:=K1.append (i+1) (by simpa using hi) ho' hg hd hl'
 refine h g cap' w' c1 c2 (K2.drop ?_)
 simp
theorem Zab (w:World) (base:Nat) (t ty e:TypeId) (i:TypeInfo) (size:Nat) (ht:P.underlying t=some (.slice e)) (hi:P.info? e=some i)
  (v:Value) (n:Nat) (xs:List Value) (hown:w.ownsRow base e size v n xs) (c:Nat):(Builtin.append_ #[t,t] ty #[v,.slice none 0 c]).run P w=.ok v w:=by
 rcases hown.2 with ⟨rfl,rfl⟩|⟨g,cap,cur,rfl,_,_,hnc,_⟩
 ·simp [Builtin.append_,run_underlying ht,sizeOf,typeInfo,hi,Builtin.lenOf,Builtin.firstCells]
 ·simp [Builtin.append_,run_underlying ht,sizeOf,typeInfo,hi,Builtin.lenOf,Builtin.firstCells,hnc,storeCells]
theorem ZW (K:Hold M row w0 w L) (i:Nat) {t e:TypeId} {size bytes q cap:Nat} {C:Option Addr} {xs:List Value} {z:Value} (hi:L[i]? =some (.own e size (.slice C q cap) q xs)) (hE:ElemT P t e size bytes z)
  {A:Option Addr} {m c:Nat} {ys:List Value} (hr:SlR size A m ys w) {ops:Array Oper} {rest:List Oper} {o:Oper} {a:Act} {Q:Exit→Act→World→Prop} (hgd:o.guard=none) (s x:Operand) (ho:o.op=.call { callee:=.builtin .append,args:=#[s,x],argTypes:=#[t,t] })
  (hs:a.eval s=.slice C q cap) (hx:a.eval x=.slice A m c) (h1:∀ u∈ys,u.oneCell' =true) (hq:q+m<140737488355328) (hb:(q+m) * bytes≤140737488355328)
  (h:∀ C' cap' w',q+m≤cap' →cap' ≤9223372036854775807→Hold M row w0 w' (L.set i (.own e size (.slice C' (q+m) cap') (q+m) (xs++ys)))→wpList P ops Q rest (a.put o.dst (.slice C' (q+m) cap')) w'):
  wpList P ops Q (o::rest) a w:=by
 obtain ⟨i0,hi1,hi2,hi3,hi4⟩:=info_parts hE.hi
 have hown:=K.get i hi
 have hrun:∃ C' cap' w',(Builtin.append_ #[t,t] o.type #[.slice C q cap,.slice A m c]).run P w=.ok (.slice C' (q+m) cap') w' ∧q+m≤cap' ∧cap' ≤9223372036854775807∧Hold M row w0 w' (L.set i (.own e size (.slice C' (q+m) cap') (q+m) (xs++ys))):=by
  have hz:A=none→m=0:=fun hA=>by
   rcases Nat.eq_zero_or_pos m with h0|h0
   ·exact h0
   ·obtain ⟨b,o,h,_⟩:=hr.2 h0
    rw [hA] at h;cases h
  rcases A with _|ad
  ·obtain rfl:=hz rfl
   have hn:ys=[]:=List.eq_nil_of_length_eq_zero (by simpa using hr.1)
   subst hn
   have hc:=ZR hown
   have e:L.set i (.own e size (.slice C (q+0) cap) (q+0) (xs++[]))=L:=by
    rw [Nat.add_zero,List.append_nil]
    apply List.ext_getElem?
    intro j
    rw [List.getElem?_set]
    split
    ·subst i;split
     ·exact hi.symm
     ·rw [List.getElem?_eq_none (by omega)]
    ·rfl
   exact ⟨C,cap,w,Zab w _ t _ _ i0 size hE.ht hi1 _ _ _ hown c,hc.1,hc.2.1,by rw [e];exact K⟩
  ·have hcells:∀ j u,ys[j]? =some u→w.cell? (ad.add j)=some u:=by
    intro j u hu
    have hpos:0<m:=by
     rcases Nat.eq_zero_or_pos m with h0|h0
     ·have hn:ys=[]:=List.eq_nil_of_length_eq_zero (by have:=hr.1;rw [h0] at this;simpa using this)
      rw [hn] at hu;simp at hu
     ·exact h0
    obtain ⟨b,o',hA,_,hc⟩:=hr.2 hpos
    injection hA with hA
    subst hA
    have:=hc j u hu
    rwa [Addr.add_lit]
   obtain ⟨v',w',hrun,h2,h3,_,h5⟩:=run_append_own_at (P:=P) w w0.heap.size t o.type e i0 z size bytes hE.ht hi1 hi2 hi3 hi4 hE.hzs hE.hsz _ q xs hown ad m c ys hr.1 hcells h1 (by unfold maxLen;omega) hb K.grow.size
   obtain ⟨C',cap',rfl⟩:=zK h2
   have hc:=ZR h2
   refine ⟨C',cap',w',hrun,hc.1,hc.2.1,?_⟩
   refine K.turn i hi h3.size ⟨h3.os,h3.tape,h3.output⟩ (fun b hl hne=>h3.block b hl fun e=>hne e.symm) (fun b hf=>?_) h2 (fun T hT=>by cases hT)
   have hlt:=(h2.lt b hf).2
   refine ⟨?_,hlt⟩
   have hf' :Value.ownBlock (.slice C' (q+m) cap')=some b:=hf
   rcases h5 with h5|h5
   ·left;rw [h5] at hf';exact hf'
   ·right;rw [h5] at hf';injection hf' with hf';omega
 obtain ⟨C',cap',w',hr',c1,c2,hK⟩:=hrun
 refine wpList_plain hgd fun K' hK' =>?_
 unfold Oper.wp execOp
 simp only [ho,resolve,invoke,builtin,Sem.run_bind,Sem.run_pure,Result.andThen_ok,List.map_toArray,List.map_cons,List.map_nil,hs,hx,hr']
 exact hK' _ _ (h C' cap' w' c1 c2 hK)
theorem Hold.Ziw (K:Hold M row w0 w L) {e:TypeId} {size n:Nat} {v:Value} {xs:List Value} (hb:Below w.heap.size w w') (ho:w'.ownsRow w.heap.size e size v n xs):Hold M row w0 w' (.own e size v n xs::L):=by
 have h1:=K.call hb
 have hbase:∀ b,v.ownBlock=some b→w.heap.size≤b∧b<w'.heap.size:=fun b hf=>ho.lt b hf
 have ee:∀ b,b<w.heap.size→Mut M (.own e size v n xs::L) b→Mut M L b:=fun b hl hb=>by
  rcases ZI.1 hb with hf|hm
  ·have:=(hbase b hf).1;omega
  ·exact hm
 refine ⟨h1.grow,h1.low,fun k hk=>?_,fun k hk b hf=>?_,⟨fun b hf k hk he=>?_,K.sep⟩⟩
 ·rcases List.mem_cons.1 hk with rfl|hk
  ·refine ⟨ho.1,?_⟩
   rcases ho.2 with hn|⟨g,cap,cur,hv,hg,rest⟩
   ·exact .inl hn
   ·exact .inr ⟨g,cap,cur,hv,Nat.le_trans K.grow.size hg,rest⟩
  ·exact Hp.Xj (k:=k) (K.sat k hk) hb.size (fun b hl _=>hb.block b hl) ee (fun b hf=>hb.block b (K.fresh k hk b hf).2)
    (fun T hT b hlt=>by
     have:=K.fresh k hk T (by subst hT;rfl)
     exact hb.block b (by omega))
 ·rcases List.mem_cons.1 hk with rfl|hk
  ·have:=hbase b hf
   exact ⟨.inl (Nat.le_trans K.grow.size this.1),this.2⟩
  ·exact h1.fresh k hk b hf
 ·have:=(hbase b hf).1
  have h2:=(K.fresh k hk b he).2
  omega
theorem J5:∀ {L:List Hp},Apart L↔L.Pairwise fun h k=>∀ b,h.foot=some b→k.foot≠some b
 | []=>⟨fun _=>List.Pairwise.nil,fun _=>trivial⟩
 | h::L=>by
  rw [List.pairwise_cons,←J5]
  exact ⟨fun ⟨a,b⟩=>⟨fun k hk x hx=>a x hx k hk,b⟩,fun ⟨a,b⟩=>⟨fun x hx k hk=>a k hk x hx,b⟩⟩
theorem Hold.perm (K:Hold M row w0 w L) (hp:L.Perm L'):Hold M row w0 w L' :=by
 have hm:∀ b,Mut M L' b→Mut M L b:=fun b hb=>hb.imp id fun ⟨k,hk,hf⟩=>⟨k,hp.symm.subset hk,hf⟩
 refine ⟨K.grow,K.low,fun k hk=>?_,fun k hk=>K.fresh k (hp.symm.subset hk),J5.2 ((hp.pairwise_iff fun h b hy hx=>h b hx hy).1 (J5.1 K.sep))⟩
 exact Hp.Xj (k:=k) (K.sat k (hp.symm.subset hk)) (Nat.le_refl _) (fun _ _ _=>rfl) (fun b _ hb=>hm b hb) (fun _ _=>rfl) (fun _ _ _ _=>rfl)
theorem Hold.Yy (K:Hold M row w0 w L) (i:Nat) {S S' :World→Prop} (hi:L[i]? =some (.ro S)) (hr:Ro w (Mut M L) S'):Hold M row w0 w (L.set i (.ro S')):=by
 refine K.turn i hi (Nat.le_refl _) ⟨rfl,rfl,rfl⟩ (fun _ _ _=>rfl) (fun b hf=>by cases hf) ?_ (fun T hT=>by cases hT)
 refine hr.less fun b hb=>?_
 rcases hb with hb|⟨k,hk,hf⟩
 ·exact .inl hb
 ·rcases List.mem_or_eq_of_mem_set hk with hk|rfl
  ·exact .inr ⟨k,hk,hf⟩
  ·cases hf
theorem Hold.Zir (K:Hold M row w0 w L) (i j:Nat) {a b:Hp} (hi:L[i]? =some a) (hj:L[j]? =some b) (hij:i≠j) {x y:Nat} (hx:a.foot=some x) (hy:b.foot=some y):x≠y:=fun e=>K.sep.mem hi hj hij hx (by rw [e];exact hy)
end
end Go.Proofs.YtnbbllkbefagmaaGreatDoor
namespace Go.Proofs.YtnbbllkbefagmaaGreatDoor
open Go.RowKit
set_option linter.unusedVariables false
set_option linter.unusedSimpArgs false
theorem RdC.Zy {w:World} {A:Option Addr} {n:Nat} {l:List Col} (h:SlR 4 A n (Zd l) w):RdC w w.heap.size A n l:=h
theorem YA {l:List Col} {n k:Nat} (h:l.length=n) (hk:k<n):∃ c,l[k]? =some c:=⟨l[k]'(by omega),List.getElem?_eq_getElem _⟩
set_option maxHeartbeats 400000 in
theorem Ze4 (nm:ByteArray) (ty:Int) (nn key:Bool) (g:Nat) (s:ByteArray) (w:World) (hg:w.cell? ⟨g,0,none⟩=some (.string s)) (hlt:g<w.heap.size):
  Calls Tryz.prog 137 #[.agg #[.string nm,.int .i64 ty,.bool nn,.bool key],.pointer (some ⟨g,0,none⟩)] w fun e w' =>e=.returned (.bool (nm.toList==s.toList))∧Below w.heap.size w w' :=by
 go_enter Tryz.func137,Tryz.ntmps137
 go_wp2
 go_ret
 exact ⟨rfl,Zac _ _⟩
set_option maxHeartbeats 2000000 in
theorem Zea (M:Nat→Prop) (w:World) (hM:∀ b,M b→b<w.heap.size) (A:Option Addr) (n c:Nat) (l:List Col) (hD:Ro w M (SlR 4 A n (Zd l))) (hn:n≤9223372036854775807) (g:Nat) (s:ByteArray) (hS:Ro w M (fun w=>w.heap[g]? =some (.cells #[.string s] 9 (0,0)))):
  Calls Tryz.prog 136 #[.slice A n c,.func (.func 137) #[] #[.pointer (some ⟨g,0,none⟩)]] w fun e w' =>e=.returned (.int .i64 (Zi (named s) l))∧Below w.heap.size w w' :=by
 have HL:=hid (RdC.Zy hD.now).len
 have K0:=((Hold.start M w hM).add (hD.less (by simp [Mut]))).add (S:=fun w=>w.heap[g]? =some (.cells #[.string s] 9 (0,0))) (hS.less (by simp [Mut,Hp.foot]))
 go_enter Tryz.func136,Tryz.ntmps136
 go_wp2_with fail
 go_loopw [8] (fun i wr=>∃ k:Nat,k≤n∧i=.int .i64 k∧Zi (named s) l=Z7 (named s) k (l.drop k)∧Hold M none w wr [.ro (fun w=>w.heap[g]? =some (.cells #[.string s] 9 (0,0))),.ro (SlR 4 A n (Zd l))]) (fun i _=>n - (intOf i).toNat)
 case atStart=>exact ⟨0,by omega,rfl,rfl,K0⟩
 case round=>
  obtain ⟨k,hk,rfl,hf,H⟩:=hrel
  have HF:=hid hf;clear hf
  by_cases hlt:k<n
  ·obtain ⟨⟨nm,ty,nn,key⟩,hc⟩:=YA HL.out hlt
   obtain ⟨b,o,rfl,hb,c0,c1,c2,c3⟩:=(RdC.Zy (H.ro 1 rfl).now).at_ hc
   have HC:=hid hc;clear hc
   have hB:Blk _ g 9 #[.string s]:=(H.ro 0 rfl).now
   simp only at c0 c1 c2 c3
   cases hp:(nm.toList==s.toList)
   all_goals
    go_wp2_with fail
    refine (Ze4 nm ty nn key g s _ (hB.cell 0) hB.lt).mono ?_
    rintro e w1 ⟨rfl,b1⟩
    have K1:=Hold.call H b1
    rw [hp]
    go_wp2_with fail
   ·go_roundw
    case rel=>exact ⟨k+1,by omega,by go_num,Vv HF.out HC.out hp,K1⟩
    case measure=>simp [intOf];omega
   ·go_ret
    exact ⟨by rw [VU HF.out HC.out hp]<;>rfl,K1.below⟩
  ·go_wp2
   go_ret
   exact ⟨by rw [WY HF.out (by rw [HL.out];omega)]<;>rfl,H.below⟩
set_option maxHeartbeats 1000000 in
theorem ZbU (M:Nat→Prop) (w:World) (hM:∀ b,M b→b<w.heap.size) (nm:ByteArray) (A:Option Addr) (n c:Nat) (l:List Col) (s:ByteArray) (hD:Ro w M (SlR 4 A n (Zd l))) (hn:n≤9223372036854775807):
  Calls Tryz.prog 82 #[.agg #[.string nm,.slice A n c],.string s] w fun e w' =>e=.returned (.int .i64 (Zi (named s) l))∧Below w.heap.size w w' :=by
 have K0:=(((Hold.start M w hM).add (hD.less (by simp [Mut]))).Za #[.string nm,.slice A n c] 49).Za #[.string s] 9
 simp only [World.size_alloc] at K0
 go_enter Tryz.func82,Tryz.ntmps82
 go_wp2_with fail
 refine (Zea (Mut M _) _ K0.Zb A n c l (K0.ro 2 rfl) hn _ s (K0.get 0 rfl)).mono ?_
 rintro e w1 ⟨rfl,b1⟩
 have K1:=Hold.call K0 b1
 go_wp2
 go_ret
 exact ⟨rfl,K1.below⟩
set_option maxHeartbeats 2000000 in
theorem ZfF (M:Nat→Prop) (w:World) (hM:∀ b,M b→b<w.heap.size) (nm0:ByteArray) (A:Option Addr) (n c:Nat) (l:List Col) (hD:Ro w M (SlR 4 A n (Zd l))) (hn:n≤9223372036854775807):
  Calls Tryz.prog 124 #[.agg #[.string nm0,.slice A n c]] w fun e w' =>e=.returned (.int .i64 (Zi Col.key l))∧Below w.heap.size w w' :=by
 have HL:=hid (RdC.Zy hD.now).len
 have K0:=((Hold.start M w hM).add (hD.less (by simp [Mut]))).Za #[.string nm0,.slice A n c] 49
 go_enter Tryz.func124,Tryz.ntmps124
 go_wp2_with fail
 go_loopw [8] (fun i wr=>∃ k:Nat,k≤n∧i=.int .i64 k∧Zi Col.key l=Z7 Col.key k (l.drop k)∧Hold M none w wr [.cst w.heap.size 49 #[.string nm0,.slice A n c],.ro (SlR 4 A n (Zd l))]) (fun i _=>n - (intOf i).toNat)
 case atStart=>exact ⟨0,by omega,rfl,rfl,K0⟩
 case round=>
  obtain ⟨k,hk,rfl,hf,H⟩:=hrel
  have HF:=hid hf;clear hf
  by_cases hlt:k<n
  ·obtain ⟨⟨nm,ty,nn,key⟩,hc⟩:=YA HL.out hlt
   obtain ⟨b,o,rfl,hb,c0,c1,c2,c3⟩:=(RdC.Zy (H.ro 1 rfl).now).at_ hc
   have HC:=hid hc;clear hc
   simp only at c0 c1 c2 c3
   cases key
   ·have K1:=H.Za #[.string nm,.int .i64 ty,.bool nn,.bool false] 158
    go_wp2_with fail
    go_roundw
    case rel=>exact ⟨k+1,by omega,by go_num,Vv HF.out HC.out rfl,K1.drop (List.sublist_cons_self _ _)⟩
    case measure=>simp [intOf];omega
   ·have K1:=H.Za #[.string nm,.int .i64 ty,.bool nn,.bool true] 158
    go_wp2_with fail
    go_ret
    exact ⟨by rw [VU HF.out HC.out rfl]<;>rfl,K1.below⟩
  ·go_wp2
   go_ret
   exact ⟨by rw [WY HF.out (by rw [HL.out];omega)]<;>rfl,H.below⟩
set_option maxHeartbeats 2000000 in
theorem XD (M:Nat→Prop) (w:World) (hM:∀ b,M b→b<w.heap.size) (nm0:ByteArray) (A:Option Addr) (n c:Nat) (l:List Col) (s:ByteArray) (hD:Ro w M (SlR 4 A n (Zd l))) (hn:n≤9223372036854775807):
  Calls Tryz.prog 53 #[.agg #[.string nm0,.slice A n c],.string s] w fun e w' =>e=.returned (.int .i64 (Zi (named s) l))∧Below w.heap.size w w' :=by
 have HL:=hid (RdC.Zy hD.now).len
 have K0:=((Hold.start M w hM).add (hD.less (by simp [Mut]))).Za #[.string nm0,.slice A n c] 49
 go_enter Tryz.func53,Tryz.ntmps53
 go_wp2_with fail
 go_loopw [10] (fun i wr=>∃ k:Nat,k≤n∧i=.int .i64 k∧Zi (named s) l=Z7 (named s) k (l.drop k)∧Hold M none w wr [.cst w.heap.size 49 #[.string nm0,.slice A n c],.ro (SlR 4 A n (Zd l))]) (fun i _=>n - (intOf i).toNat)
 case atStart=>exact ⟨0,by omega,rfl,rfl,K0⟩
 case round=>
  obtain ⟨k,hk,rfl,hf,H⟩:=hrel
  have HF:=hid hf;clear hf
  by_cases hlt:k<n
  ·obtain ⟨⟨nm,ty,nn,key⟩,hc⟩:=YA HL.out hlt
   obtain ⟨b,o,rfl,hb,c0,c1,c2,c3⟩:=(RdC.Zy (H.ro 1 rfl).now).at_ hc
   have HC:=hid hc;clear hc
   simp only at c0 c1 c2 c3
   cases hp:(nm.toList==s.toList)
   ·have K1:=H.Za #[.string nm,.int .i64 ty,.bool nn,.bool key] 158
    go_wp2_with fail
    go_roundw
    case rel=>exact ⟨k+1,by omega,by go_num,Vv HF.out HC.out hp,K1.drop (List.sublist_cons_self _ _)⟩
    case measure=>simp [intOf];omega
   ·have K1:=H.Za #[.string nm,.int .i64 ty,.bool nn,.bool key] 158
    go_wp2_with fail
    go_ret
    exact ⟨by rw [VU HF.out HC.out hp]<;>rfl,K1.below⟩
  ·go_wp2
   go_ret
   exact ⟨by rw [WY HF.out (by rw [HL.out];omega)]<;>rfl,H.below⟩
abbrev ColsIn (A:Option Addr) (n:Nat) (l:List Col):World→Prop:=SlR 4 A n (Zd l)
theorem WX (l:List Col):∀ u∈Zd l,u.oneCell' =true:=fun u hu=>by
 unfold Zd at hu
 rw [List.mem_flatMap] at hu
 obtain ⟨x,_,hx⟩:=hu
 simp only [Col.cells,List.mem_cons,List.not_mem_nil,or_false] at hx
 rcases hx with rfl|rfl|rfl|rfl<;>rfl
theorem Tryz.Xp:ElemT Tryz.prog 51 122 3 32 (.agg #[.int .i64 0,.int .i64 0,.string ⟨#[]⟩]):=⟨Tryz.underlying51,by kernel_rfl,rfl,by omega⟩
theorem Tryz.WG:ElemT Tryz.prog 47 158 4 32 (.agg #[.string ⟨#[]⟩,.int .i64 0,.bool false,.bool false]):=⟨Tryz.underlying47,by kernel_rfl,rfl,by omega⟩
theorem Tryz.WE:ElemT Tryz.prog 41 124 2 32 (.agg #[.int .i64 0,.slice none 0 0]):=⟨Tryz.underlying41,by kernel_rfl,rfl,by omega⟩
def GL (size:Nat) (xs:List Value) (k:Nat) (w:World) (M:Nat→Prop) (e:Ending) (w' :World):Prop:=
 ∃ (A:Option Addr) (n c:Nat),e=.returned (.slice A n c)∧n=k∧n≤c∧c≤9223372036854775807∧Ro w' M (SlR size A n xs)∧Below w.heap.size w w'
set_option maxHeartbeats 4000000 in
set_option maxRecDepth 100000 in
theorem Q6 (M:Nat→Prop) (w:World) (hM:∀ b,M b→b<w.heap.size) (A:Option Addr) (n c:Nat) (l:List Vl) (hD:Ro w M (VlsIn A n l)) (hn:n≤4398046511104):
  Calls Tryz.prog 174 #[.slice A n c] w fun e w' =>GL 3 (Z5 l) l.length w M e w' :=by
 have hl:=hid (show l.length=n from hD.now.len)
 have hq:∀ (w:World) (a:Option Addr) (n c:Nat),(binOp .eql 51 (.slice a n c) (.slice none 0 0)).run Tryz.prog w=.ok (.bool a.isNone) w:=fun w a n c=>Go.Lib.run_eql_slice_nil w _ _ a n c 0 0 Tryz.underlying51
 rcases A with _|a
 ·have h0:n=0:=by
   rcases Nat.eq_zero_or_pos n with h|h
   ·exact h
   ·obtain ⟨_,_,e,_⟩:=(show Rd w w.heap.size 3 none n (Z5 l) from hD.now).2 h;cases e
  subst h0
  obtain rfl:l=[]:=List.length_eq_zero_iff.1 hl.out
  go_enter Tryz.func174,Tryz.ntmps174
  go_wp2_with fail
  go_ret
  exact ⟨none,0,0,rfl,rfl,by omega,by omega,VJ,Below.refl _ _⟩
 ·have K0:=(Hold.start M w hM).add (hD.less (by simp [Mut]))
  have K1:=K0.GZ #[] 122 3 0 (by unfold maxLen;omega) rfl
  have hr:=hid (show VlsIn (some a) n l _ from (K1.ro 1 rfl).now)
  have h1:=hid (QB l)
  go_enter Tryz.func174,Tryz.ntmps174
  go_wp2_with (at_builtin;go_must (refine ZW K1 0 rfl Tryz.Xp hr.out rfl (.tmp 5) (.tmp 6) rfl rfl rfl h1.out (by omega) (by omega) ?_);intro C' cap' w2 hc1 hm1 K2)
  have KS:=K2.Zu 0 rfl
  go_ret
  simp only [Nat.zero_add,List.nil_append,List.set_cons_zero] at KS hc1
  exact ⟨C',n,cap',by first|rfl|simp,hl.out.symm,hc1,hm1,KS.ZP 0 rfl,KS.below⟩
set_option maxHeartbeats 4000000 in
set_option maxRecDepth 100000 in
theorem Zht (M:Nat→Prop) (w:World) (hM:∀ b,M b→b<w.heap.size) (A:Option Addr) (n c:Nat) (l:List Col) (hD:Ro w M (ColsIn A n l)) (hn:n≤4398046511104):
  Calls Tryz.prog 112 #[.slice A n c] w fun e w' =>GL 4 (Zd l) l.length w M e w' :=by
 have hl:=hid (show l.length=n from (RdC.Zy hD.now).len)
 have hq:∀ (w:World) (a:Option Addr) (n c:Nat),(binOp .eql 47 (.slice a n c) (.slice none 0 0)).run Tryz.prog w=.ok (.bool a.isNone) w:=fun w a n c=>Go.Lib.run_eql_slice_nil w _ _ a n c 0 0 Tryz.underlying47
 rcases A with _|a
 ·have h0:n=0:=by
   rcases Nat.eq_zero_or_pos n with h|h
   ·exact h
   ·obtain ⟨_,_,e,_⟩:=(show Rd w w.heap.size 4 none n (Zd l) from hD.now).2 h;cases e
  subst h0
  obtain rfl:l=[]:=List.length_eq_zero_iff.1 hl.out
  go_enter Tryz.func112,Tryz.ntmps112
  go_wp2_with fail
  go_ret
  exact ⟨none,0,0,rfl,rfl,by omega,by omega,VJ,Below.refl _ _⟩
 ·have K0:=(Hold.start M w hM).add (hD.less (by simp [Mut]))
  have K1:=K0.GZ #[] 158 4 0 (by unfold maxLen;omega) rfl
  have hr:=hid (show ColsIn (some a) n l _ from (K1.ro 1 rfl).now)
  have h1:=hid (WX l)
  go_enter Tryz.func112,Tryz.ntmps112
  go_wp2_with (at_builtin;go_must (refine ZW K1 0 rfl Tryz.WG hr.out rfl (.tmp 5) (.tmp 6) rfl rfl rfl h1.out (by omega) (by omega) ?_);intro C' cap' w2 hc1 hm1 K2)
  have KS:=K2.Zu 0 rfl
  go_ret
  simp only [Nat.zero_add,List.nil_append,List.set_cons_zero] at KS hc1
  exact ⟨C',n,cap',by first|rfl|simp,hl.out.symm,hc1,hm1,KS.ZP 0 rfl,KS.below⟩
set_option maxHeartbeats 4000000 in
set_option maxRecDepth 100000 in
theorem Xf (M:Nat→Prop) (w:World) (hM:∀ b,M b→b<w.heap.size) (A:Option Addr) (n c:Nat) (l:List Vl) (hD:Ro w M (VlsIn A n l)) (hn:n≤4398046511104):
  Calls Tryz.prog 55 #[.slice A n c] w fun e w' =>GL 3 (Z5 l) l.length w M e w' :=by
 have hl:=hid (show l.length=n from hD.now.len)
 have K0:=((Hold.start M w hM).add (hD.less (by simp [Mut]))).nil 122 3
 have hr:=hid (show VlsIn A n l _ from (K0.ro 1 rfl).now)
 have h1:=hid (QB l)
 go_enter Tryz.func55,Tryz.ntmps55
 go_wp2_with (at_builtin;go_must (refine ZW K0 0 rfl Tryz.Xp hr.out rfl (.const (.slice none 0 0)) (.tmp 3) rfl rfl rfl h1.out (by omega) (by omega) ?_);intro C' cap' w2 hc1 hm1 K2)
 have KS:=K2.Zu 0 rfl
 go_ret
 simp only [Nat.zero_add,List.nil_append,List.set_cons_zero] at KS hc1
 exact ⟨C',n,cap',by first|rfl|simp,hl.out.symm,hc1,hm1,KS.ZP 0 rfl,KS.below⟩
theorem zl.{u}:(∀ {α:Type u} {x:α} {xs:List α} {a:α},(x::xs).set 0 a=a::xs)∧(∀ {α:Type u} {x:α} {xs:List α} {i:Nat} {a:α},(x::xs).set (i+1) a=x::xs.set i a)∧∀ {α:Type u} (l:List α) (i:Nat) (a:α),l.toArray.setIfInBounds i a=(l.set i a).toArray:=⟨List.set_cons_zero,List.set_cons_succ,List.setIfInBounds_toArray⟩
theorem zf.{u}:(∀ (w:World) (o:Obj),(w.alloc o).heap.size=w.heap.size+1)∧(∀ w:World,w.drew.heap.size=w.heap.size)∧(∀ {α:Type u} {l:List α},l.toArray.toList=l)∧(∀ p:Prop,(p∧True)=p)∧∀ p:Prop,(True∧p)=p:=⟨World.size_alloc,World.size_drew,List.toList_toArray,and_true,true_and⟩
theorem zd.{u}:(∀ {α:Type u} {a:α} {l:List α} {i:Nat},List.take (i+1) (a::l)=a::List.take i l)∧(∀ {α:Type u} {l:List α},List.take 0 l=[])∧(∀ {α:Type u} {a:α} {l:List α} {i:Nat},List.drop (i+1) (a::l)=List.drop i l)∧∀ {α:Type u} {l:List α},List.drop 0 l=l:=⟨List.take_succ_cons,List.take_zero,List.drop_succ_cons,List.drop_zero⟩
def Zr (rs:List Row) (id:Int):Option (List Vl):=(rs.find? fun r=>r.1==id).map (·.2)
theorem ZcW {rs:List Row} {j:Nat} {r:Row} {id:Int} (hr:rs[j]? =some r) (h:r.1=id):Zr (rs.drop j) id=some r.2:=by
 unfold Zr;rw [Yv hr,List.find?_cons,show (r.1==id)=true by simpa using h];rfl
theorem Zhd {rs:List Row} {j:Nat} {r:Row} {id:Int} (hr:rs[j]? =some r) (h:r.1≠id):Zr (rs.drop j) id=Zr (rs.drop (j+1)) id:=by
 unfold Zr;rw [Yv hr,List.find?_cons,show (r.1==id)=false by simpa using h]
def Zfw (w:World) (M:Nat→Prop) (o:Option (List Vl)) (e:Ending) (w' :World):Prop:=
 ∃ (A:Option Addr) (n c:Nat),e=.returned (.tuple #[.slice A n c,.bool o.isSome])∧n=(o.getD []).length∧n≤c∧c≤9223372036854775807∧Ro w' M (VlsIn A n (o.getD []))∧Below w.heap.size w w'
set_option maxHeartbeats 4000000 in
set_option maxRecDepth 100000 in
theorem QK (M:Nat→Prop) (w:World) (hM:∀ b,M b→b<w.heap.size) (x0:Value) (x1:Value) (x2:Value) (B:Option Addr) (m d:Nat) (l:List Rw) (id:Int) (hE:Ro w M (RwsIn B m l)) (hm:m≤4611686018427387904) (hok:∀ r∈l,r.n≤4398046511104):
  Calls Tryz.prog 121 #[.agg #[x0,x1,x2,.slice B m d],.int .i64 id] w fun e w' =>Zfw w M (Zr (l.map Rw.row) id) e w' :=by
 have HL:=hid hE.now.len
 have K0:=((Hold.start M w hM).add (hE.less (by simp [Mut]))).Za #[x0,x1,x2,.slice B m d] 67
 have F0:=K0.facts
 simp only [zg] at F0
 clear hE
 go_enter Tryz.func121,Tryz.ntmps121
 go_wp2_with fail
 clear F0
 go_loopw [11] (fun iv wr=>∃ (j:Nat),j≤m∧iv=.int .i64 j∧Hid (Zr (l.map Rw.row) id=Zr ((l.map Rw.row).drop j) id)∧Hold M none w wr [.cst w.heap.size 67 #[x0,x1,x2,.slice B m d],.ro (RwsIn B m l)]) (fun iv _=>m - (intOf iv).toNat)
 case atStart=>exact ⟨0,by omega,rfl,hid rfl,K0⟩
 case round=>
  clear K0
  obtain ⟨j,hj,rfl,HS,H⟩:=hrel
  by_cases hlt:j<m
  ·have hdd:decide ((j:Int)<(m:Int))=true:=by simp;omega
   have j0:(0:Int)≤(j:Int):=by omega
   obtain ⟨x,hx⟩:=Zq HL.out hlt
   obtain ⟨g,o,rfl,hgb,c0,c1,hvi⟩:=(H.ro 1 rfl).now.at_ hx
   have hrok:=hok x (List.mem_of_getElem? hx)
   have HX:=hid (show (l.map Rw.row)[j]? =some (x.id,x.vs) by simp [hx,Rw.row])
   have HXM:=hid (List.mem_of_getElem? hx)
   have K2:=H.Za #[.int .i64 x.id,.slice x.A x.n x.c] 124
   clear hx
   by_cases hi:x.id=id
   ·have hid_:(x.id==id)=true:=by simp [hi]
    have HN:=hid (show Zr (l.map Rw.row) id=some x.vs by rw [HS.out];exact ZcW HX.out hi)
    have hVR:Ro _ (Mut M _) (VlsIn x.A x.n x.vs):=(K2.ro 2 rfl).imp fun w2 h2=>h2.2 x HXM.out
    clear hi
    go_wp2_with fail
    refine (Xf _ _ K2.Zb x.A x.n x.c x.vs hVR hrok).mono ?_
    rintro e w3 ⟨A3,n3,c3,rfl,hn3,hc3,hc32,r3,b3⟩
    have K3:=K2.call b3
    have r4:Ro w3 M (SlR 3 A3 n3 (Z5 x.vs)):=r3.less fun b hb=>.inl hb
    have HN3:=hid hn3
    clear hn3
    go_wp2_with fail
    go_ret2
    rw [HN.out]
    exact ⟨A3,n3,c3,rfl,HN3.out,hc3,hc32,r4,K3.below⟩
   ·have hid_:(x.id==id)=false:=by simpa using hi
    have HS2:=hid (show Zr (l.map Rw.row) id=Zr ((l.map Rw.row).drop (j+1)) id by rw [HS.out];exact Zhd HX.out hi)
    clear hi
    go_wp2_with fail
    go_roundw
    case rel=>exact ⟨j+1,by omega,by go_num,HS2,K2.drop (List.sublist_cons_self _ _)⟩
    case measure=>simp [intOf];omega
  ·obtain rfl:j=m:=by omega
   have hdd:decide ((j:Int)<(j:Int))=false:=by simp
   have HN:=hid (show Zr (l.map Rw.row) id=none by rw [HS.out,List.drop_of_length_le (by rw [List.length_map,HL.out];exact Nat.le_refl _)];rfl)
   go_wp2_with fail
   go_ret2
   rw [HN.out]
   exact ⟨none,0,0,rfl,rfl,by omega,by omega,VJ,H.below⟩
def Xl (l:List Int):List Value:=l.map (.int .i64)
theorem zN (l:List Int):(Xl l).length=l.length:=by simp [Xl]
def IsIn (A:Option Addr) (n:Nat) (l:List Int):World→Prop:=SlR 1 A n (Xl l)
theorem IsIn.len {w:World} {A:Option Addr} {n:Nat} {l:List Int} (h:IsIn A n l w):l.length=n:=by
 have:=(show Rd w w.heap.size 1 A n (Xl l) from h).1
 rw [zN] at this
 omega
theorem IsIn.cells {w:World} {A:Option Addr} {n:Nat} {l:List Int} (h:IsIn A n l w) (h0:0<n):∃ b o,A=some ⟨b,o,none⟩∧b<w.heap.size∧∀ j,j<l.length→w.cell? ⟨b,o+j,none⟩=some (.int .i64 (l.getD j 0)):=by
 obtain ⟨b,o,rfl,hb,hc⟩:=(show Rd w w.heap.size 1 A n (Xl l) from h).2 h0
 refine ⟨b,o,rfl,hb,fun j hj=>hc j _ ?_⟩
 simp [Xl,List.getD,hj]
structure Sl where
 A:Option Addr
 n:Nat
 c:Nat
 vs:List Vl
def Sl.cells (r:Sl):List Value:=[.slice r.A r.n r.c]
def Xq (l:List Sl):List Value:=l.flatMap Sl.cells
theorem Zbv (l:List Sl):(Xq l).length=l.length:=by have:=Yu Sl.cells 1 (fun _=>rfl) l;simpa [Xq] using this
def SlsIn (A:Option Addr) (n:Nat) (l:List Sl) (w:World):Prop:=SlR 1 A n (Xq l) w∧∀ r∈l,VlsIn r.A r.n r.vs w
theorem SlsIn.len {w:World} {A:Option Addr} {n:Nat} {l:List Sl} (h:SlsIn A n l w):l.length=n:=by
 have:=(show Rd w w.heap.size 1 A n (Xq l) from h.1).1
 rw [Zbv] at this
 omega
theorem SlsIn.at_ {w:World} {A:Option Addr} {n:Nat} {l:List Sl} (h:SlsIn A n l w) {k:Nat} {x:Sl} (hx:l[k]? =some x):
  ∃ b o,A=some ⟨b,o,none⟩∧b<w.heap.size∧w.cell? ⟨b,o+k,none⟩=some (.slice x.A x.n x.c)∧VlsIn x.A x.n x.vs w:=by
 have hk:k<n:=by rw [←h.len];exact (List.getElem?_eq_some_iff.1 hx).1
 obtain ⟨b,o,e,hb,hc⟩:=(show Rd w w.heap.size 1 A n (Xq l) from h.1).2 (by omega)
 have h0:=flat_get Sl.cells 1 (fun _=>rfl) l k 0 x (by omega) hx
 rw [Nat.mul_one,Nat.add_zero] at h0
 exact ⟨b,o,e,hb,hc _ _ h0,h.2 x (List.mem_of_getElem? hx)⟩
structure Sl.ok (r:Sl):Prop where
 nc:r.n≤r.c
 c:r.c≤9223372036854775807
 vs:∀ v∈r.vs,v.ok
structure Pr where
 id:Int
 oA:Option Addr
 on:Nat
 oc:Nat
 old:List Vl
 nA:Option Addr
 nn:Nat
 nc:Nat
 new:List Vl
def Pr.cells (r:Pr):List Value:=[.int .i64 r.id,.slice r.oA r.on r.oc,.slice r.nA r.nn r.nc]
def ZZ (l:List Pr):List Value:=l.flatMap Pr.cells
theorem Zbw (l:List Pr):(ZZ l).length=l.length * 3:=Yu _ 3 (fun _=>rfl) l
def PrsIn (A:Option Addr) (n:Nat) (l:List Pr) (w:World):Prop:=SlR 3 A n (ZZ l) w∧∀ r∈l,VlsIn r.oA r.on r.old w∧VlsIn r.nA r.nn r.new w
theorem PrsIn.len {w:World} {A:Option Addr} {n:Nat} {l:List Pr} (h:PrsIn A n l w):l.length=n:=by
 have:=(show Rd w w.heap.size 3 A n (ZZ l) from h.1).1
 rw [Zbw] at this
 omega
theorem PrsIn.at_ {w:World} {A:Option Addr} {n:Nat} {l:List Pr} (h:PrsIn A n l w) {k:Nat} {x:Pr} (hx:l[k]? =some x):
  ∃ b o,A=some ⟨b,o,none⟩∧b<w.heap.size∧w.cell? ⟨b,o+k * 3,none⟩=some (.int .i64 x.id)∧w.cell? ⟨b,o+k * 3+1,none⟩=some (.slice x.oA x.on x.oc)∧w.cell? ⟨b,o+k * 3+2,none⟩=some (.slice x.nA x.nn x.nc)∧VlsIn x.oA x.on x.old w∧VlsIn x.nA x.nn x.new w:=by
 have hk:k<n:=by rw [←h.len];exact (List.getElem?_eq_some_iff.1 hx).1
 obtain ⟨b,o,e,hb,hc⟩:=(show Rd w w.heap.size 3 A n (ZZ l) from h.1).2 (by omega)
 have h2:=h.2 x (List.mem_of_getElem? hx)
 exact ⟨b,o,e,hb,hc _ _ (flat_get Pr.cells 3 (fun _=>rfl) l k 0 x (by omega) hx),hc _ _ (flat_get Pr.cells 3 (fun _=>rfl) l k 1 x (by omega) hx),hc _ _ (flat_get Pr.cells 3 (fun _=>rfl) l k 2 x (by omega) hx),h2.1,h2.2⟩
structure Pr.ok (r:Pr):Prop where
 id:I64 r.id
 oc:r.on≤r.oc
 oc2:r.oc≤9223372036854775807
 nc:r.nn≤r.nc
 nc2:r.nc≤9223372036854775807
 old:∀ v∈r.old,v.ok
 new:∀ v∈r.new,v.ok
abbrev Upd:=Int × List Vl × List Vl
def Pr.upd (r:Pr):Upd:=(r.id,r.old,r.new)
def YB (rs:List Row) (gone:List Int):Option Int→List Int→Bool
 | _,[]=>true
 | last,id::ids=>(Zr rs id).isSome&&!(last.any fun p=>decide (p≥id))&&!gone.contains id&&YB rs gone (some id) ids
theorem ZbP {rs:List Row} {gone ids:List Int} {k:Nat} {id:Int} {last:Option Int} (hx:ids[k]? =some id) (h:(Zr rs id).isSome=false∨(last.any fun p=>decide (p≥id))=true∨gone.contains id=true):YB rs gone last (ids.drop k)=false:=by
 rw [Yv hx,YB]
 rcases h with h|h|h
 ·rw [h];rfl
 ·rw [h];simp
 ·rw [h];simp
theorem Zb0 {rs:List Row} {gone ids:List Int} {k:Nat} {id:Int} {last:Option Int} (hx:ids[k]? =some id) (h1:(Zr rs id).isSome=true) (h2:(last.any fun p=>decide (p≥id))=false) (h3:gone.contains id=false):YB rs gone last (ids.drop k)=YB rs gone (some id) (ids.drop (k+1)):=by
 rw [Yv hx,YB,h1,h2,h3];rfl
theorem Zfb {rs:List Row} {gone ids:List Int} {k:Nat} {last:Option Int} (h:ids.length≤k):YB rs gone last (ids.drop k)=true:=by rw [List.drop_of_length_le h];rfl
structure QuP (α:Type) where
 star:Bool
 A:Option Addr
 n:Nat
 c:Nat
 items:List α
 src:ByteArray
 B:Option Addr
 m:Nat
 d:Nat
 wh:List α
structure Ex where
 kind:Int
 op:Int
 nt:Bool
 v:Vl
 tab:ByteArray
 nm:ByteArray
 A:Option Addr
 n:Nat
 c:Nat
 args:List Ex
 B:Option Addr
 m:Nat
 d:Nat
 sub:List (QuP Ex)
abbrev Qu:=QuP Ex
def Ex.cells (e:Ex):List Value:=[.int .i64 e.kind,.int .i64 e.op,.bool e.nt,.int .i64 e.v.k,.int .i64 e.v.i,.string e.v.s,.string e.tab,.string e.nm,.slice e.A e.n e.c,.slice e.B e.m e.d]
def Ex.val (e:Ex):Value:=.agg #[.int .i64 e.kind,.int .i64 e.op,.bool e.nt,.int .i64 e.v.k,.int .i64 e.v.i,.string e.v.s,.string e.tab,.string e.nm,.slice e.A e.n e.c,.slice e.B e.m e.d]
def Qu.cells (q:Qu):List Value:=[.bool q.star,.slice q.A q.n q.c,.string q.src,.slice q.B q.m q.d]
def Zv (l:List Ex):List Value:=l.flatMap Ex.cells
def XK (l:List Qu):List Value:=l.flatMap Qu.cells
theorem Wu (l:List Ex):(Zv l).length=l.length * 10:=Yu _ 10 (fun _=>rfl) l
theorem QH (l:List Qu):(XK l).length=l.length * 4:=Yu _ 4 (fun _=>rfl) l
def ExIn:Nat→Ex→World→Prop
 | 0,_,_=>False
 | d+1,e,w=>SlR 10 e.A e.n (Zv e.args) w∧(∀ a∈e.args,ExIn d a w)∧SlR 4 e.B e.m (XK e.sub) w∧∀ q∈e.sub,(SlR 10 q.A q.n (Zv q.items) w∧∀ a∈q.items,ExIn d a w)∧SlR 10 q.B q.m (Zv q.wh) w∧∀ a∈q.wh,ExIn d a w
def QuIn (d:Nat) (q:Qu) (w:World):Prop:=(SlR 10 q.A q.n (Zv q.items) w∧∀ a∈q.items,ExIn d a w)∧SlR 10 q.B q.m (Zv q.wh) w∧∀ a∈q.wh,ExIn d a w
def ExsIn (d:Nat) (A:Option Addr) (n:Nat) (l:List Ex) (w:World):Prop:=SlR 10 A n (Zv l) w∧∀ e∈l,ExIn d e w
theorem ExIn.succ {d:Nat} {e:Ex} {w:World}:ExIn (d+1) e w↔ExsIn d e.A e.n e.args w∧SlR 4 e.B e.m (XK e.sub) w∧∀ q∈e.sub,QuIn d q w:=by
 constructor
 ·rintro ⟨h1,h2,h3,h4⟩;exact ⟨⟨h1,h2⟩,h3,h4⟩
 ·rintro ⟨⟨h1,h2⟩,h3,h4⟩;exact ⟨h1,h2,h3,h4⟩
theorem ExIn.more {w:World}:∀ {d:Nat} {e:Ex},ExIn d e w→ExIn (d+1) e w
 | 0,_,h=>h.elim
 | d+1,e,⟨h1,h2,h3,h4⟩=>⟨h1,fun a ha=>(h2 a ha).more,h3,fun q hq=>⟨⟨(h4 q hq).1.1,fun a ha=>((h4 q hq).1.2 a ha).more⟩,(h4 q hq).2.1,fun a ha=>((h4 q hq).2.2 a ha).more⟩⟩
theorem ExIn.le {w:World} {d d' :Nat} {e:Ex} (h:ExIn d e w) (hd:d≤d'):ExIn d' e w:=by
 obtain ⟨k,rfl⟩:∃ k,d' =d+k:=⟨d' - d,by omega⟩
 clear hd
 induction k with
 | zero=>exact h
 | succ k ih=>exact ih.more
theorem ExsIn.len {d:Nat} {A:Option Addr} {n:Nat} {l:List Ex} {w:World} (h:ExsIn d A n l w):l.length=n:=by
 have:=(show Rd w w.heap.size 10 A n (Zv l) from h.1).1
 rw [Wu] at this
 omega
theorem ExsIn.at_ {d:Nat} {w:World} {A:Option Addr} {n:Nat} {l:List Ex} (h:ExsIn d A n l w) {k:Nat} {x:Ex} (hx:l[k]? =some x):
  ∃ b o,A=some ⟨b,o,none⟩∧b<w.heap.size∧(∀ j u,j<10→x.cells[j]? =some u→w.cell? ⟨b,o+k * 10+j,none⟩=some u)∧ExIn d x w:=by
 have hk:k<n:=by rw [←h.len];exact (List.getElem?_eq_some_iff.1 hx).1
 obtain ⟨b,o,e,hb,hc⟩:=(show Rd w w.heap.size 10 A n (Zv l) from h.1).2 (by omega)
 refine ⟨b,o,e,hb,fun j u hj hu=>?_,h.2 x (List.mem_of_getElem? hx)⟩
 rw [Nat.add_assoc]
 exact hc _ _ ((flat_get Ex.cells 10 (fun _=>rfl) l k j x hj hx).trans hu)
def vlZ:Vl:=⟨0,0,⟨#[]⟩⟩
def Z4 (v:Vl):Ex:=⟨1,0,false,v,⟨#[]⟩,⟨#[]⟩,none,0,0,[],none,0,0,[]⟩
def ZN (t n:ByteArray):Ex:=⟨2,0,false,vlZ,t,n,none,0,0,[],none,0,0,[]⟩
def opE (kind op:Int) (nt:Bool) (g k:Nat) (l:List Ex):Ex:=⟨kind,op,nt,vlZ,⟨#[]⟩,⟨#[]⟩,some ⟨g,0,none⟩,k,k,l,none,0,0,[]⟩
def Qh (x:Ex) (n:Int):Prop:=(0≤n∧x=Z4 ⟨1,n,⟨#[]⟩⟩)∨(n<0∧∃ g,x=opE 4 0 false g 1 [Z4 ⟨1,-n,⟨#[]⟩⟩])
theorem ZE (size:Nat) (w:World):SlR size none 0 [] w:=⟨by simp,fun h=>absurd h (Nat.lt_irrefl 0)⟩
theorem WN (v:Vl) (w:World):ExIn 1 (Z4 v) w:=⟨ZE 10 w,fun a ha=>(nomatch ha),ZE 4 w,fun q hq=>(nomatch hq)⟩
theorem XA (t n:ByteArray) (w:World):ExIn 1 (ZN t n) w:=⟨ZE 10 w,fun a ha=>(nomatch ha),ZE 4 w,fun q hq=>(nomatch hq)⟩
theorem Vx {d:Nat} {kind op:Int} {nt:Bool} {g k:Nat} {l:List Ex} {w:World} (h:ExsIn d (some ⟨g,0,none⟩) k l w):ExIn (d+1) (opE kind op nt g k l) w:=⟨h.1,h.2,ZE 4 w,fun q hq=>(nomatch hq)⟩
theorem Wq {d:Nat} {w:World} {M:Nat→Prop} {g:Nat} {t:TypeId} {cs:Array Value} {l:List Ex} (h:Ro w M (fun w=>w.heap[g]? =some (.cells cs t (0,0)))) (hl:cs.toList=Zv l) (hr:∀ x∈l,Ro w M (ExIn d x)):Ro w M (ExsIn d (some ⟨g,0,none⟩) l.length l):=by
 have h1:Ro w M (SlR 10 (some ⟨g,0,none⟩) l.length cs.toList):=ZL h (by rw [hl,Wu])
 rw [hl] at h1
 exact h1.and fun w2 a b x hx=>hr x hx w2 a b
structure SlP (α:Type) where
 A:Option Addr
 n:Nat
 c:Nat
 l:List α
def SlP.v {α:Type} (s:SlP α):Value:=.slice s.A s.n s.c
def SlP.nil {α:Type}:SlP α:=⟨none,0,0,[]⟩
def SlP.In {α:Type} (s:SlP α) (k:Nat) (cel:α→List Value) (P:α→World→Prop) (w:World):Prop:=SlR k s.A s.n (s.l.flatMap cel) w∧∀ x∈s.l,P x w
theorem SlP.In.len {α:Type} {s:SlP α} {k:Nat} {cel:α→List Value} {P:α→World→Prop} {w:World} (h:s.In k cel P w) (hk:0<k) (hc:∀ x,(cel x).length=k):s.l.length=s.n:=by
 have:=(show Rd w w.heap.size k s.A s.n (s.l.flatMap cel) from h.1).1
 rw [Yu cel k hc] at this
 exact Nat.eq_of_mul_eq_mul_right hk this
theorem SlP.In.at_ {α:Type} {s:SlP α} {k:Nat} {cel:α→List Value} {P:α→World→Prop} {w:World} (h:s.In k cel P w) (hk:0<k) (hc:∀ x,(cel x).length=k) {i:Nat} {x:α} (hx:s.l[i]? =some x):
  ∃ b o,s.A=some ⟨b,o,none⟩∧b<w.heap.size∧(∀ j u,j<k→(cel x)[j]? =some u→w.cell? ⟨b,o+i * k+j,none⟩=some u)∧P x w:=by
 have hi:i<s.n:=by rw [←h.len hk hc];exact (List.getElem?_eq_some_iff.1 hx).1
 obtain ⟨b,o,e,hb,hcl⟩:=(show Rd w w.heap.size k s.A s.n (s.l.flatMap cel) from h.1).2 (by omega)
 refine ⟨b,o,e,hb,fun j u hj hu=>?_,h.2 x (List.mem_of_getElem? hx)⟩
 rw [Nat.add_assoc]
 exact hcl _ _ ((flat_get cel k hc s.l i j x hj hx).trans hu)
theorem SlP.Zx {α:Type} (k:Nat) (cel:α→List Value) (P:α→World→Prop) (w:World):(SlP.nil:SlP α).In k cel P w:=⟨ZE k w,fun _ hx=>(nomatch hx)⟩
structure Se where
 col:ByteArray
 e:Ex
def Se.cells (s:Se):List Value:=.string s.col::s.e.cells
structure Rk where
 tab:ByteArray
 col:ByteArray
 lo:Int
 hi:Int
def Rk.cells (r:Rk):List Value:=[.string r.tab,.string r.col,.int .i64 r.lo,.int .i64 r.hi]
structure Ac where
 kind:Int
 tab:ByteArray
 rows:SlP (SlP Ex)
 qs:SlP Qu
 sets:SlP Se
 wh:SlP Ex
 text:ByteArray
def Ac.cells (a:Ac):List Value:=[.int .i64 a.kind,.string a.tab,a.rows.v,a.qs.v,a.sets.v,a.wh.v,.string a.text]
structure Tg where
 name:ByteArray
 tab:ByteArray
 before:Bool
 event:Int
 cols:SlP ByteArray
 each:Bool
 prec:SlP ByteArray
 foll:SlP ByteArray
 rank:SlP Rk
 cond:SlP Ex
 acts:SlP Ac
def Tg.cells (t:Tg):List Value:=[.string t.name,.string t.tab,.bool t.before,.int .i64 t.event,t.cols.v,.bool t.each,t.prec.v,t.foll.v,t.rank.v,t.cond.v,t.acts.v]
def YC (d:Nat) (s:Se) (w:World):Prop:=ExIn d s.e w
def AcIn (d:Nat) (a:Ac) (w:World):Prop:=
 a.rows.In 1 (fun r=>[r.v]) (fun r w=>r.In 10 Ex.cells (ExIn d) w) w∧a.qs.In 4 Qu.cells (QuIn d) w∧a.sets.In 11 Se.cells (YC d) w∧a.wh.In 10 Ex.cells (ExIn d) w
def ZG (s:ByteArray):List Value:=[.string s]
def Yg (d:Nat) (t:Tg) (w:World):Prop:=
 t.cols.In 1 ZG (fun _ _=>True) w∧t.prec.In 1 ZG (fun _ _=>True) w∧t.foll.In 1 ZG (fun _ _=>True) w∧t.rank.In 4 Rk.cells (fun _ _=>True) w∧t.cond.In 10 Ex.cells (ExIn d) w∧t.acts.In 7 Ac.cells (AcIn d) w
def Zfi (r:Rk):Prop:=I64 r.lo∧I64 r.hi
structure Fr where
 nm:ByteArray
 strict:Bool
 cols:SlP Col
 vals:SlP Vl
def Fr.cells (f:Fr):List Value:=[.string f.nm,.bool f.strict,f.cols.v,f.vals.v]
def XR (l:List Fr):List Value:=l.flatMap Fr.cells
structure Sm where
 nm:ByteArray
 cols:SlP Col
def Sm.cells (s:Sm):List Value:=[.string s.nm,s.cols.v]
def Vo (l:List Sm):List Value:=l.flatMap Sm.cells
theorem Zeb (l:List Sm):(Vo l).length=l.length * 2:=Yu _ 2 (fun _=>rfl) l
def SlP.ColsIn (s:SlP Col) (w:World):Prop:=s.In 4 Col.cells (fun _ _=>True) w
def FrIn (f:Fr) (w:World):Prop:=f.cols.ColsIn w∧f.vals.In 3 Vl.cells (fun _ _=>True) w
def ZQ (s:Sm) (w:World):Prop:=s.cols.ColsIn w
def FrsIn (s:SlP Fr) (w:World):Prop:=s.In 4 Fr.cells FrIn w
def SmsIn (s:SlP Sm) (w:World):Prop:=s.In 2 Sm.cells ZQ w
def ExGd:Nat→Ex→Prop
 | 0,_=>False
 | d+1,e=>(I64 e.kind∧I64 e.op∧I64 e.v.k∧I64 e.v.i∧e.n≤e.c∧e.c≤9223372036854775807∧e.m≤e.d∧e.d≤9223372036854775807)∧(1≤e.kind∧e.args.length≤3∧e.sub.length≤1)∧(∀ a∈e.args,ExGd d a)∧∀ q∈e.sub,(q.n≤q.c∧q.c≤9223372036854775807∧q.m≤q.d∧q.d≤9223372036854775807)∧(q.items.length≤8∧q.wh.length≤1)∧(∀ a∈q.items,ExGd d a)∧∀ a∈q.wh,ExGd d a
def Gc (w:World) (T:Nat) (M:Nat→Prop) (d:Nat) (e:Ending) (w' :World):Prop:=
 ∃ x:Ex,e=.returned x.val∧ExGd d x∧Ro w' M (ExIn d x)∧Tp w' T∧w.grownBy w' (some T)
theorem Zw (n:Int) (h:(-9223372036854775808:Int)≤n∧n≤9223372036854775807):I64 n:=h
theorem WL (v:Vl) (h1:I64 v.k) (h2:I64 v.i):ExGd 1 (Z4 v):=⟨⟨Zw 1 (by decide),Zw 0 (by decide),h1,h2,Nat.le_refl _,by simp [Z4],Nat.le_refl _,by simp [Z4]⟩,⟨by simp [Z4],by simp [Z4],by simp [Z4]⟩,fun a ha=>(nomatch ha),fun q hq=>(nomatch hq)⟩
theorem Xu (t n:ByteArray):ExGd 1 (ZN t n):=⟨⟨Zw 2 (by decide),Zw 0 (by decide),Zw 0 (by decide),Zw 0 (by decide),Nat.le_refl _,by simp [ZN],Nat.le_refl _,by simp [ZN]⟩,⟨by simp [ZN],by simp [ZN],by simp [ZN]⟩,fun a ha=>(nomatch ha),fun q hq=>(nomatch hq)⟩
theorem YU {d:Nat} {kind op:Int} {nt:Bool} {g k:Nat} {l:List Ex} (h1:I64 kind) (h2:I64 op) (hk:k≤9223372036854775807) (h:∀ a∈l,ExGd d a) (hl:l.length≤3:=by simp) (hk0:1≤kind:=by omega):ExGd (d+1) (opE kind op nt g k l):=⟨⟨h1,h2,Zw 0 (by decide),Zw 0 (by decide),Nat.le_refl _,hk,Nat.le_refl _,by simp [opE]⟩,⟨hk0,hl,by simp [opE]⟩,h,fun q hq=>(nomatch hq)⟩
theorem ExGd.more:∀ {d:Nat} {e:Ex},ExGd d e→ExGd (d+1) e
 | 0,_,h=>h.elim
 | d+1,e,⟨h1,h4,h2,h3⟩=>⟨h1,h4,fun a ha=>(h2 a ha).more,fun q hq=>⟨(h3 q hq).1,(h3 q hq).2.1,fun a ha=>((h3 q hq).2.2.1 a ha).more,fun a ha=>((h3 q hq).2.2.2 a ha).more⟩⟩
theorem ExGd.le {d d' :Nat} {e:Ex} (h:ExGd d e) (hd:d≤d'):ExGd d' e:=by
 obtain ⟨k,rfl⟩:∃ k,d' =d+k:=⟨d' - d,by omega⟩
 clear hd
 induction k with
 | zero=>exact h
 | succ k ih=>exact ih.more
set_option maxHeartbeats 2000000 in
theorem XX (w:World) (t n:ByteArray):Calls Tryz.prog 133 #[.string t,.string n] w fun e w' =>e=.returned (ZN t n).val∧Below w.heap.size w w' :=by
 have K0:=(Hold.XP w).alloc #[.int .i64 2,.int .i64 0,.bool false,.int .i64 0,.int .i64 0,.string ⟨#[]⟩,.string t,.string n,.slice none 0 0,.slice none 0 0] 126
 have F:=K0.facts
 simp only [zg] at F
 have HB:=hid K0.below
 go_enter Tryz.func133,Tryz.ntmps133
 go_wp2_with fail
 exact bodyPost_ret (v:=(ZN t n).val) (by simp [results,Tryz.results133,go_sem,F,Ex.val,ZN,vlZ]) rfl ⟨rfl,HB.out⟩
set_option maxHeartbeats 2000000 in
theorem W9 (w:World) (v:Vl):Calls Tryz.prog 154 #[.agg #[.int .i64 v.k,.int .i64 v.i,.string v.s]] w fun e w' =>e=.returned (Z4 v).val∧Below w.heap.size w w' :=by
 have K0:=((Hold.XP w).Za #[.int .i64 v.k,.int .i64 v.i,.string v.s] 122).alloc #[.int .i64 1,.int .i64 0,.bool false,.int .i64 v.k,.int .i64 v.i,.string v.s,.string ⟨#[]⟩,.string ⟨#[]⟩,.slice none 0 0,.slice none 0 0] 126
 have F:=K0.facts
 simp only [zg] at F
 have HB:=hid K0.below
 go_enter Tryz.func154,Tryz.ntmps154
 go_wp2_with fail
 exact bodyPost_ret (v:=(Z4 v).val) (by simp [results,Tryz.results154,go_sem,F,Ex.val,Z4,vlZ]) rfl ⟨rfl,HB.out⟩
set_option maxHeartbeats 4000000 in
theorem XJ (M:Nat→Prop) (w:World) (hM:∀ b,M b→b<w.heap.size) (op:Int) (a b:Ex) (d:Nat) (ha:Ro w M (ExIn d a)) (hb:Ro w M (ExIn d b)):Calls Tryz.prog 132 #[.int .i64 op,.agg #[.int .i64 a.kind,.int .i64 a.op,.bool a.nt,.int .i64 a.v.k,.int .i64 a.v.i,.string a.v.s,.string a.tab,.string a.nm,.slice a.A a.n a.c,.slice a.B a.m a.d],.agg #[.int .i64 b.kind,.int .i64 b.op,.bool b.nt,.int .i64 b.v.k,.int .i64 b.v.i,.string b.v.s,.string b.tab,.string b.nm,.slice b.A b.n b.c,.slice b.B b.m b.d]] w fun e w' =>∃ g:Nat,e=.returned (opE 5 op false g 2 [a,b]).val∧Ro w' M (ExIn (d+1) (opE 5 op false g 2 [a,b]))∧Below w.heap.size w w' :=by
 have K0:=(((((Hold.start M w hM).add (hb.less (by simp [Mut]))).add (ha.less (by simp [Mut,Hp.foot]))).Za #[.int .i64 a.kind,.int .i64 a.op,.bool a.nt,.int .i64 a.v.k,.int .i64 a.v.i,.string a.v.s,.string a.tab,.string a.nm,.slice a.A a.n a.c,.slice a.B a.m a.d] 126).Za #[.int .i64 b.kind,.int .i64 b.op,.bool b.nt,.int .i64 b.v.k,.int .i64 b.v.i,.string b.v.s,.string b.tab,.string b.nm,.slice b.A b.n b.c,.slice b.B b.m b.d] 126).alloc #[.int .i64 5,.int .i64 op,.bool false,.int .i64 0,.int .i64 0,.string ⟨#[]⟩,.string ⟨#[]⟩,.string ⟨#[]⟩,.slice (some ⟨w.heap.size+1+1+1,0,none⟩) 2 2,.slice none 0 0] 126
 simp only [World.size_alloc] at K0
 have K1:=K0.Za #[.int .i64 a.kind,.int .i64 a.op,.bool a.nt,.int .i64 a.v.k,.int .i64 a.v.i,.string a.v.s,.string a.tab,.string a.nm,.slice a.A a.n a.c,.slice a.B a.m a.d,.int .i64 b.kind,.int .i64 b.op,.bool b.nt,.int .i64 b.v.k,.int .i64 b.v.i,.string b.v.s,.string b.tab,.string b.nm,.slice b.A b.n b.c,.slice b.B b.m b.d] 126
 simp only [World.size_alloc] at K1
 have F:=K1.facts
 simp only [zg] at F
 have hr:=Wq (d:=d) (l:=[a,b]) (K1.get 0 rfl) rfl (fun x hx=>by
  simp only [List.mem_cons,List.not_mem_nil,or_false] at hx
  rcases hx with rfl|rfl
  ·exact K1.ro 4 rfl
  ·exact K1.ro 5 rfl)
 have HR:=hid (show Ro _ M (ExIn (d+1) (opE 5 op false (w.heap.size+1+1+1) 2 [a,b])) from (hr.less fun b hb=>.inl hb).imp fun w2 h2=>Vx h2)
 have HB:=hid K1.below
 clear K0 K1 hr
 go_enter Tryz.func132,Tryz.ntmps132
 go_wp2_with fail
 exact bodyPost_ret (v:=(opE 5 op false (w.heap.size+1+1+1) 2 [a,b]).val) (by simp [results,Tryz.results132,go_sem,F,Ex.val,opE,vlZ]) rfl ⟨_,rfl,HR.out,HB.out⟩
set_option maxHeartbeats 4000000 in
theorem ZaR (w:World) (n:Int) (h:0≤n):Calls Tryz.prog 134 #[.int .i64 n] w fun e w' =>e=.returned (Z4 ⟨1,n,⟨#[]⟩⟩).val∧Below w.heap.size w w' :=by
 have K0:=(Hold.XP w).alloc #[.int .i64 0,.int .i64 0,.bool false,.int .i64 0,.int .i64 0,.string ⟨#[]⟩,.string ⟨#[]⟩,.string ⟨#[]⟩,.slice none 0 0,.slice none 0 0] 126
 have hd:decide (n<0)=false:=by simp;omega
 have hd2:¬n<0:=by omega
 obtain ⟨g,hg⟩:∃ g,g=w.heap.size:=⟨_,rfl⟩
 rw [←hg] at K0
 go_enter Tryz.func134,Tryz.ntmps134
 go_wp2_with fail
 rw [←hg]
 have HG:=hid hg
 clear hg
 refine (W9 _ ⟨1,n,⟨#[]⟩⟩).mono ?_
 rintro e w1 ⟨rfl,b1⟩
 have K1:=K0.call b1
 clear K0 b1
 have F:=K1.facts
 simp only [zg] at F
 have K2:=((((((((((K1.store 0 rfl 0 (.int .i64 1)).store 0 rfl 1 (.int .i64 0)).store 0 rfl 2 (.bool false)).store 0 rfl 3 (.int .i64 1)).store 0 rfl 4 (.int .i64 n)).store 0 rfl 5 (.string ⟨#[]⟩)).store 0 rfl 6 (.string ⟨#[]⟩)).store 0 rfl 7 (.string ⟨#[]⟩)).store 0 rfl 8 (.slice none 0 0)).store 0 rfl 9 (.slice none 0 0))
 simp only [zl] at K2
 have HB:=hid K2.below
 rw [show (Z4 ⟨1,n,⟨#[]⟩⟩).val=.agg #[.int .i64 1,.int .i64 0,.bool false,.int .i64 1,.int .i64 n,.string ⟨#[]⟩,.string ⟨#[]⟩,.string ⟨#[]⟩,.slice none 0 0,.slice none 0 0] from rfl]
 go_wp2_with fail
 exact bodyPost_ret (v:=.agg #[.int .i64 1,.int .i64 0,.bool false,.int .i64 1,.int .i64 n,.string ⟨#[]⟩,.string ⟨#[]⟩,.string ⟨#[]⟩,.slice none 0 0,.slice none 0 0]) (by simp [results,Tryz.results134,go_sem,F]) rfl ⟨rfl,HB.out⟩
set_option maxHeartbeats 4000000 in
theorem Zgs (M:Nat→Prop) (w:World) (hM:∀ b,M b→b<w.heap.size) (n:Int) (h:n<0) (h2:-4611686018427387904≤n):Calls Tryz.prog 134 #[.int .i64 n] w fun e w' =>∃ g:Nat,e=.returned (opE 4 0 false g 1 [Z4 ⟨1,-n,⟨#[]⟩⟩]).val∧Ro w' M (ExIn 2 (opE 4 0 false g 1 [Z4 ⟨1,-n,⟨#[]⟩⟩]))∧Below w.heap.size w w' :=by
 have K0:=(Hold.start M w hM).alloc #[.int .i64 0,.int .i64 0,.bool false,.int .i64 0,.int .i64 0,.string ⟨#[]⟩,.string ⟨#[]⟩,.string ⟨#[]⟩,.slice none 0 0,.slice none 0 0] 126
 have hd:decide (n<0)=true:=by simp;omega
 have hw:IntKind.i64.wrap (-n)=-n:=by rw [IntKind.wrap_i64];omega
 obtain ⟨g,hg⟩:∃ g,g=w.heap.size:=⟨_,rfl⟩
 rw [←hg] at K0
 go_enter Tryz.func134,Tryz.ntmps134
 go_wp2_with fail
 rw [←hg]
 have HG:=hid hg
 clear hg
 refine (ZaR _ (-n) (by omega)).mono ?_
 rintro e w1 ⟨rfl,b1⟩
 have KA:=K0.call b1
 have K1:=KA.Za #[.int .i64 1,.int .i64 0,.bool false,.int .i64 1,.int .i64 (-n),.string ⟨#[]⟩,.string ⟨#[]⟩,.string ⟨#[]⟩,.slice none 0 0,.slice none 0 0] 126
 clear KA b1
 obtain ⟨g2,hg2⟩:∃ g,g=w1.heap.size:=⟨_,rfl⟩
 rw [←hg2] at K1
 have F:=K1.facts
 simp only [zg] at F
 have K2:=((((((((((K1.store 1 rfl 0 (.int .i64 4)).store 1 rfl 1 (.int .i64 0)).store 1 rfl 2 (.bool false)).store 1 rfl 3 (.int .i64 0)).store 1 rfl 4 (.int .i64 0)).store 1 rfl 5 (.string ⟨#[]⟩)).store 1 rfl 6 (.string ⟨#[]⟩)).store 1 rfl 7 (.string ⟨#[]⟩)).store 1 rfl 8 (.slice (some ⟨g2,0,none⟩) 1 1)).store 1 rfl 9 (.slice none 0 0))
 simp only [zl] at K2
 clear K1 K0
 have F2:=K2.facts
 simp only [zg] at F2
 have hr:=Wq (d:=1) (l:=[Z4 ⟨1,-n,⟨#[]⟩⟩]) (K2.get 0 rfl) rfl (fun x hx w2 _ _=>by
  simp only [List.mem_cons,List.not_mem_nil,or_false] at hx
  subst hx
  exact WN _ _)
 have HR:=hid (show Ro _ M (ExIn 2 (opE 4 0 false g2 1 [Z4 ⟨1,-n,⟨#[]⟩⟩])) from (hr.less fun b hb=>.inl hb).imp fun w2 h2=>Vx h2)
 have HB:=hid K2.below
 rw [show (Z4 ⟨1,-n,⟨#[]⟩⟩).val=.agg #[.int .i64 1,.int .i64 0,.bool false,.int .i64 1,.int .i64 (-n),.string ⟨#[]⟩,.string ⟨#[]⟩,.string ⟨#[]⟩,.slice none 0 0,.slice none 0 0] from rfl]
 clear hr K2
 go_wp2_with fail
 rw [←hg2]
 have HG2:=hid hg2
 clear hg2
 refine bodyPost_ret (v:=(opE 4 0 false g2 1 [Z4 ⟨1,-n,⟨#[]⟩⟩]).val) ?_ rfl ⟨_,rfl,HR.out,HB.out⟩
 have HO:(opE 4 0 false g2 1 [Z4 ⟨1,-n,⟨#[]⟩⟩]).val=.agg #[.int .i64 4,.int .i64 0,.bool false,.int .i64 0,.int .i64 0,.string ⟨#[]⟩,.string ⟨#[]⟩,.string ⟨#[]⟩,.slice (some ⟨g2,0,none⟩) 1 1,.slice none 0 0]:=rfl
 rw [HO]
 clear HO HR HB
 simp [results,Tryz.results134,go_sem,F2]
theorem Wj (M:Nat→Prop) (w:World) (hM:∀ b,M b→b<w.heap.size) (n:Int) (h2:-4611686018427387904≤n):Calls Tryz.prog 134 #[.int .i64 n] w fun e w' =>∃ x:Ex,e=.returned x.val∧Qh x n∧Ro w' M (ExIn 2 x)∧Below w.heap.size w w' :=by
 by_cases h:n<0
 ·refine (Zgs M w hM n h h2).mono ?_
  rintro e w1 ⟨g,rfl,r,b⟩
  exact ⟨_,rfl,.inr ⟨h,g,rfl⟩,r,b⟩
 ·refine (ZaR w n (by omega)).mono ?_
  rintro e w1 ⟨rfl,b⟩
  exact ⟨_,rfl,.inl ⟨by omega,rfl⟩,fun w2 _ _=>(WN _ _).more,b⟩
set_option maxHeartbeats 4000000 in
theorem Zax (M:Nat→Prop) (w:World) (hM:∀ b,M b→b<w.heap.size) (s:ByteArray) (lo hi:Int) (h1:-4611686018427387904≤lo) (h2:-4611686018427387904≤hi):Calls Tryz.prog 135 #[.string s,.int .i64 lo,.int .i64 hi] w fun e w' =>∃ (g:Nat) (x y:Ex),e=.returned (opE 7 0 false g 3 [ZN ⟨#[]⟩ s,x,y]).val∧Qh x lo∧Qh y hi∧Ro w' M (ExIn 3 (opE 7 0 false g 3 [ZN ⟨#[]⟩ s,x,y]))∧Below w.heap.size w w' :=by
 have K0:=(Hold.start M w hM).alloc #[.int .i64 0,.int .i64 0,.bool false,.int .i64 0,.int .i64 0,.string ⟨#[]⟩,.string ⟨#[]⟩,.string ⟨#[]⟩,.slice none 0 0,.slice none 0 0] 126
 obtain ⟨g,hg⟩:∃ g,g=w.heap.size:=⟨_,rfl⟩
 rw [←hg] at K0
 go_enter Tryz.func135,Tryz.ntmps135
 go_wp2_with fail
 rw [←hg]
 have HG:=hid hg
 clear hg
 refine (XX _ ⟨#[]⟩ s).mono ?_
 rintro e w1 ⟨rfl,b1⟩
 have K1:=K0.call b1
 clear K0 b1
 go_wp2_with fail
 refine (Wj _ _ K1.Zb lo h1).mono ?_
 rintro e w2 ⟨x,rfl,hx,rx,b1⟩
 have K2:=(K1.call b1).add rx
 have HX:=hid hx
 clear K1 b1 rx hx
 go_wp2_with fail
 refine (Wj _ _ K2.Zb hi h2).mono ?_
 rintro e w3 ⟨y,rfl,hy,ry,b1⟩
 have K3:=((K2.call b1).add ry).perm (L' :=[.blk g 126 #[.int .i64 0,.int .i64 0,.bool false,.int .i64 0,.int .i64 0,.string ⟨#[]⟩,.string ⟨#[]⟩,.string ⟨#[]⟩,.slice none 0 0,.slice none 0 0],.ro (ExIn 2 x),.ro (ExIn 2 y)]) (List.reverse_perm _).symm
 have HY:=hid hy
 clear K2 b1 ry hy
 have K1:=K3.Za #[.int .i64 2,.int .i64 0,.bool false,.int .i64 0,.int .i64 0,.string ⟨#[]⟩,.string ⟨#[]⟩,.string s,.slice none 0 0,.slice none 0 0,.int .i64 x.kind,.int .i64 x.op,.bool x.nt,.int .i64 x.v.k,.int .i64 x.v.i,.string x.v.s,.string x.tab,.string x.nm,.slice x.A x.n x.c,.slice x.B x.m x.d,.int .i64 y.kind,.int .i64 y.op,.bool y.nt,.int .i64 y.v.k,.int .i64 y.v.i,.string y.v.s,.string y.tab,.string y.nm,.slice y.A y.n y.c,.slice y.B y.m y.d] 126
 obtain ⟨g2,hg2⟩:∃ g,g=w3.heap.size:=⟨_,rfl⟩
 rw [←hg2] at K1
 have F:=K1.facts
 simp only [zg] at F
 have K2:=((((((((((K1.store 1 rfl 0 (.int .i64 7)).store 1 rfl 1 (.int .i64 0)).store 1 rfl 2 (.bool false)).store 1 rfl 3 (.int .i64 0)).store 1 rfl 4 (.int .i64 0)).store 1 rfl 5 (.string ⟨#[]⟩)).store 1 rfl 6 (.string ⟨#[]⟩)).store 1 rfl 7 (.string ⟨#[]⟩)).store 1 rfl 8 (.slice (some ⟨g2,0,none⟩) 3 3)).store 1 rfl 9 (.slice none 0 0))
 simp only [zl] at K2
 clear K1 K3
 have F2:=K2.facts
 simp only [zg] at F2
 have hr:=Wq (d:=2) (l:=[ZN ⟨#[]⟩ s,x,y]) (K2.get 0 rfl) rfl (fun z hz=>by
  simp only [List.mem_cons,List.not_mem_nil,or_false] at hz
  rcases hz with rfl|rfl|rfl
  ·exact fun w2 _ _=>(XA _ _ _).more
  ·exact K2.ro 2 rfl
  ·exact K2.ro 3 rfl)
 have HR:=hid (show Ro _ M (ExIn 3 (opE 7 0 false g2 3 [ZN ⟨#[]⟩ s,x,y])) from (hr.less fun b hb=>.inl hb).imp fun w2 h2=>Vx h2)
 have HB:=hid K2.below
 rw [show (ZN ⟨#[]⟩ s).val=.agg #[.int .i64 2,.int .i64 0,.bool false,.int .i64 0,.int .i64 0,.string ⟨#[]⟩,.string ⟨#[]⟩,.string s,.slice none 0 0,.slice none 0 0] from rfl,show x.val=.agg #[.int .i64 x.kind,.int .i64 x.op,.bool x.nt,.int .i64 x.v.k,.int .i64 x.v.i,.string x.v.s,.string x.tab,.string x.nm,.slice x.A x.n x.c,.slice x.B x.m x.d] from rfl,show y.val=.agg #[.int .i64 y.kind,.int .i64 y.op,.bool y.nt,.int .i64 y.v.k,.int .i64 y.v.i,.string y.v.s,.string y.tab,.string y.nm,.slice y.A y.n y.c,.slice y.B y.m y.d] from rfl]
 clear hr K2
 go_wp2_with fail
 rw [←hg2]
 have HG2:=hid hg2
 clear hg2
 refine bodyPost_ret (v:=(opE 7 0 false g2 3 [ZN ⟨#[]⟩ s,x,y]).val) ?_ rfl ⟨_,x,y,rfl,HX.out,HY.out,HR.out,HB.out⟩
 have HO:(opE 7 0 false g2 3 [ZN ⟨#[]⟩ s,x,y]).val=.agg #[.int .i64 7,.int .i64 0,.bool false,.int .i64 0,.int .i64 0,.string ⟨#[]⟩,.string ⟨#[]⟩,.string ⟨#[]⟩,.slice (some ⟨g2,0,none⟩) 3 3,.slice none 0 0]:=rfl
 rw [HO]
 clear HO HR HB HX HY
 simp [results,Tryz.results135,go_sem,F2]
end Go.Proofs.YtnbbllkbefagmaaGreatDoor

import Derived.Shelf.SlSortCmp.NoneTotal
import Derived.Shelf.SortM.Plain
import Derived.Shelf.SortM.SortNone
import Derived.Shelf.SlicesG.CompactS
import Derived.Test.YtnmnkbnmollpmaaGreatDoorBdDscSaidMA
import Derived.Lib.LaidTab
import Derived.Test.YtnmnkbnmollpmaaGreatDoorRows
import Derived.Deep.DeepHandedRow
set_option linter.unusedVariables false
set_option linter.unusedSimpArgs false
set_option maxHeartbeats 64000000
set_option maxRecDepth 100000
namespace Go.Proofs
open Go.Shelf
def Tryz.Zlo:Go.Shelf.Ren:=⟨fun|6=>120|8=>158|9=>157|19=>196|20=>197|21=>187|22=>188|23=>189|24=>190|25=>191|26=>192|27=>193|28=>194|29=>195|36=>217|31=>218|32=>219|37=>220|38=>221|39=>222|41=>229|n=>n,fun|27=>46|29=>9|3=>3|32=>254|26=>46|0=>0|44=>284|46=>164|4=>4|36=>277|35=>276|41=>239|5=>5|9=>9|53=>298|57=>302|63=>313|64=>314|n=>n,fun|n=>n⟩
theorem Tryz.sortStr:Go.Proofs.SlLaysM.n6 Tryz.prog Tryz.Zlo:={
 mixed:=by kernel_rfl
 f6:=⟨Tryz.f120.name,by decide,Tryz.func120.trans (congrArg some (by kernel_rfl))⟩
 f8:=Tryz.func158.trans (congrArg some (by kernel_rfl))
 f9:=⟨Tryz.f157.name,by decide,Tryz.func157.trans (congrArg some (by kernel_rfl))⟩
 f19:=Tryz.func196.trans (congrArg some (by kernel_rfl))
 f20:=Tryz.func197.trans (congrArg some (by kernel_rfl))
 f21:=⟨Tryz.f187.name,by decide,Tryz.func187.trans (congrArg some (by kernel_rfl))⟩
 f22:=⟨Tryz.f188.name,by decide,Tryz.func188.trans (congrArg some (by kernel_rfl))⟩
 f23:=⟨Tryz.f189.name,by decide,Tryz.func189.trans (congrArg some (by kernel_rfl))⟩
 f24:=⟨Tryz.f190.name,by decide,Tryz.func190.trans (congrArg some (by kernel_rfl))⟩
 f25:=⟨Tryz.f191.name,by decide,Tryz.func191.trans (congrArg some (by kernel_rfl))⟩
 f26:=⟨Tryz.f192.name,by decide,Tryz.func192.trans (congrArg some (by kernel_rfl))⟩
 f27:=⟨Tryz.f193.name,by decide,Tryz.func193.trans (congrArg some (by kernel_rfl))⟩
 f28:=⟨Tryz.f194.name,by decide,Tryz.func194.trans (congrArg some (by kernel_rfl))⟩
 f29:=⟨Tryz.f195.name,by decide,Tryz.func195.trans (congrArg some (by kernel_rfl))⟩
 f31:=Tryz.func218.trans (congrArg some (by kernel_rfl))
 f32:=Tryz.func219.trans (congrArg some (by kernel_rfl))
 f36:=⟨Tryz.f217.name,by decide,Tryz.func217.trans (congrArg some (by kernel_rfl))⟩
 f37:=⟨Tryz.f220.name,by decide,Tryz.func220.trans (congrArg some (by kernel_rfl))⟩
 f38:=⟨Tryz.f221.name,by decide,Tryz.func221.trans (congrArg some (by kernel_rfl))⟩
 f39:=⟨Tryz.f222.name,by decide,Tryz.func222.trans (congrArg some (by kernel_rfl))⟩
 f41:=⟨Tryz.f229.name,by decide,Tryz.func229.trans (congrArg some (by kernel_rfl))⟩
 t0:=Tryz.underlying0
 a0:=Tryz.isAgg0
 z0:=Tryz.sizeOf0
 v0:=Tryz.zeroValue0
 t3:=Tryz.underlying3
 a3:=Tryz.isAgg3
 z3:=Tryz.sizeOf3
 v3:=Tryz.zeroValue3
 t4:=Tryz.underlying4
 a4:=Tryz.isAgg4
 z4:=Tryz.sizeOf4
 v4:=Tryz.zeroValue4
 t5:=Tryz.underlying5
 a5:=Tryz.isAgg5
 z5:=Tryz.sizeOf5
 v5:=Tryz.zeroValue5
 t9:=Tryz.underlying9
 a9:=Tryz.isAgg9
 z9:=Tryz.sizeOf9
 v9:=Tryz.zeroValue9
 t26:=Tryz.underlying46
 a26:=Tryz.isAgg46
 z26:=Tryz.sizeOf46
 v26:=Tryz.zeroValue46
 t27:=Tryz.underlying46
 a27:=Tryz.isAgg46
 z27:=Tryz.sizeOf46
 v27:=Tryz.zeroValue46
 t29:=Tryz.underlying9
 a29:=Tryz.isAgg9
 z29:=Tryz.sizeOf9
 v29:=Tryz.zeroValue9
 t32:=Tryz.underlying254
 a32:=Tryz.isAgg254
 z32:=Tryz.sizeOf254
 v32:=Tryz.zeroValue254
 t35:=Tryz.underlying276
 a35:=Tryz.isAgg276
 z35:=Tryz.sizeOf276
 v35:=Tryz.zeroValue276
 t36:=Tryz.underlying277
 a36:=Tryz.isAgg277
 z36:=Tryz.sizeOf277
 v36:=Tryz.zeroValue277
 t41:=Tryz.underlying239
 a41:=Tryz.isAgg239
 z41:=Tryz.sizeOf239
 v41:=Tryz.zeroValue239
 t44:=Tryz.underlying284
 a44:=Tryz.isAgg284
 z44:=Tryz.sizeOf284
 v44:=Tryz.zeroValue284
 t46:=Tryz.underlying164
 a46:=Tryz.isAgg164
 z46:=Tryz.sizeOf164
 v46:=Tryz.zeroValue164
 t53:=Tryz.underlying298
 a53:=Tryz.isAgg298
 z53:=Tryz.sizeOf298
 v53:=Tryz.zeroValue298
 t57:=Tryz.underlying302
 a57:=Tryz.isAgg302
 z57:=Tryz.sizeOf302
 v57:=Tryz.zeroValue302
 t63:=Tryz.underlying313
 a63:=Tryz.isAgg313
 z63:=Tryz.sizeOf313
 v63:=Tryz.zeroValue313
 t64:=Tryz.underlying314
 a64:=Tryz.isAgg314
 z64:=Tryz.sizeOf314
 v64:=Tryz.zeroValue314 }
def Tryz.ZfH:Go.Shelf.Ren:=⟨fun|44=>121|n=>n,fun|25=>46|26=>9|3=>3|4=>4|0=>0|n=>n,fun|n=>n⟩
theorem Tryz.ZfG:Go.Proofs.SlLaysN.n44 Tryz.prog Tryz.ZfH:={
 mixed:=by kernel_rfl
 f44:=⟨Tryz.f121.name,by decide,Tryz.func121.trans (congrArg some (by kernel_rfl))⟩
 t0:=Tryz.underlying0
 a0:=Tryz.isAgg0
 z0:=Tryz.sizeOf0
 v0:=Tryz.zeroValue0
 t3:=Tryz.underlying3
 a3:=Tryz.isAgg3
 z3:=Tryz.sizeOf3
 v3:=Tryz.zeroValue3
 t4:=Tryz.underlying4
 a4:=Tryz.isAgg4
 z4:=Tryz.sizeOf4
 v4:=Tryz.zeroValue4
 t25:=Tryz.underlying46
 a25:=Tryz.isAgg46
 z25:=Tryz.sizeOf46
 v25:=Tryz.zeroValue46
 t26:=Tryz.underlying9
 a26:=Tryz.isAgg9
 z26:=Tryz.sizeOf9
 v26:=Tryz.zeroValue9
 i26:=by kernel_rfl }
end Go.Proofs
namespace Go.Proofs
open Go.Shelf
end Go.Proofs
namespace Go.Proofs.YtnmnkbnmollpmaaGreatDoor
section
open Go.ChangeShapes Go.WideShapes Go.ChangeAt Go.RowKit
theorem ZlG {P:Program} {W:World} {name:String} {bs:List (List UInt8)} {rest:List (String × DataW Unit)} {g:Nat} {t e:TypeId} {n:Nat}
  (hg:P.globalNamed name=some g) (hty:(P.globals[g]?).map (·.type)=some t) (ht:P.underlying t=some (.array n e)) (he:P.underlying e=some .string) (hce:P.cellsOf e=1)
  (h:laidMet P ((name,.agg (bs.map fun b=>.lit (.string b)))::rest) W):∀ i,i<n→∃ s:ByteArray,W.cell? ⟨g,i,none⟩=some (.string s)∧bs[i]? =some s.data.toList∧s.size≤maxLen:=by
 obtain ⟨ps,⟨g',t',cs,fuel,p,q,hg',ht',hvar,hd,_,_⟩,_⟩:=h
 obtain rfl:=Kz (hg.symm.trans hg')
 obtain rfl:=Kz (hty.symm.trans ht')
 obtain ⟨xs,m,_,hx,hlen,hxl,hel⟩:=DataW.trod_array ht hd
 intro i hi
 have h1:=hel i hi
 rw [hce,Nat.mul_one] at h1
 have hxi:xs[i]? =some (xs[i]'(by omega)):=Ky (by omega)
 rw [hxi] at h1
 obtain ⟨s,hs,hv,hm⟩:=DataW.trod_string he h1
 refine ⟨s,?_,?_,hm⟩
 ·have hc:=World.var?_cell hg hvar i
  rw [hc]
  have:(cs.toList.drop i).take 1=[.string s]:=hs
  have h2:cs.toList[i]? =some (.string s):=by
   have h3:((cs.toList.drop i).take 1)[0]? =some (.string s):=by rw [this];rfl
   simpa using h3
  simpa using h2
 ·have h4:(xs.map (·.1))[i]? =some (xs[i]'(by omega)).1:=by simp [hxi]
  simp only [Prod.mk.injEq] at hx
  have h5:(bs.map fun b=>(DataW.lit (.string b):DataW Unit))=xs.map (·.1):=by
   have:=hx.1;injection this
  rw [←h5,hv] at h4
  simp only [List.getElem?_map,Option.map_eq_some_iff] at h4
  obtain ⟨b,hb,hb2⟩:=h4
  injection hb2 with hb3
  injection hb3 with hb4
  rw [hb,hb4]
end
section
open Go.ChangeShapes Go.WideShapes Go.ChangeAt Go.RowKit
section
variable {H:Type} {enc:TypeId × Value→H} {P:Program}
theorem ZhM {x:Int} (h:(Lit.int .i64 x).wf=true):I64 x:=by
 simp [Lit.wf,IntKind.min,IntKind.max,IntKind.signed,IntKind.bits] at h
 exact ⟨by omega,by omega⟩
theorem Zi8 {t e:TypeId} {W:World} {r:Reach} {b0:Nat} {v:Value} {d:DataW H} {p:List MemPlace} (ht:P.underlying t=some (.slice e)) (he:P.underlying e=some (.int .i64)) (hc:P.cellsOf e=1)
  (hok:Value.okWide P W r b0 t v) (h:DataW.Trod enc P W 0 (fun _=>true) true t v d p):
  ∃ A n c zs,v=.slice A n c∧Rd W W.heap.size 1 A n (zs.map (Value.int .i64))∧Ints zs∧n≤c∧c≤maxLen∧((d=.nil∧n=0)∨∃ el sp,d=.slice el sp∧el.length+sp.length=c):=by
 obtain ⟨A,n,c,rfl⟩:=okWide_slice ht hok
 obtain ⟨fuel,hf⟩:=h
 rcases open_ints ht he hc (by simpa [Value.cells] using hf) with ⟨hcs,hx⟩|⟨a,len,cap,zs,hcs,_,hl,hm,hz,hx,hcell,hwz⟩
 ·simp at hcs;obtain ⟨rfl,rfl,rfl⟩:=hcs
  simp only [Prod.mk.injEq] at hx
  exact ⟨none,0,0,[],rfl,Rd.none_,fun _ h=>(nomatch h),Kg _,Lc _,.inl ⟨hx.1,rfl⟩⟩
 ·simp at hcs;obtain ⟨rfl,rfl,rfl⟩:=hcs
  simp only [if_true] at hz
  simp only [Prod.mk.injEq] at hx
  refine ⟨some a,n,c,zs.take n,rfl,⟨by simp [hz];omega,fun hn=>?_⟩,fun x hx=>ZhM (hwz x (List.mem_of_mem_take hx)),hl,hm,.inr ⟨_,_,hx.1,by simp [lits,hz];omega⟩⟩
  obtain ⟨b,off,rfl,hcc⟩:=ints_at hcell (by omega)
  refine ⟨b,off,rfl,World.block_lt_of_cell? W ⟨b,off+0,none⟩ (hcc 0 (by omega)),fun j u hu=>?_⟩
  have hj:j<n:=by have:=(Kc.1 hu).1;simp [hz] at this;omega
  rw [hcc j (by omega)]
  rw [←hu]
  simp [List.getElem?_take_of_lt hj,List.getD,show j<zs.length by omega]
end
end
section
open Go.ChangeShapes Go.WideShapes Go.ChangeAt Go.RowKit
theorem Zhz : Tryz.prog.globalNamed "triggerstore/triggerstoreworld.words" = some 0 := by kernel_rfl
theorem ZhA:(Tryz.prog.globals[0]?).map (·.type)=some 259:=by kernel_rfl
def ZdJ:List (List UInt8):=[[],[97],[98],[105,116,39,115],[90,32,122],[126]]
theorem Zmn:∀ b∈ZdJ,(b.all Ut&&decide (b.length≤4))=true:=by decide
theorem Zml {W : World} {rest : List (String × DataW Unit)} (h : laidMet Tryz.prog (("triggerstore/triggerstoreworld.words", Rows.laid_triggerstore_triggerstoreworld_words) :: rest) W) : Wds W := by
 intro j hj
 obtain ⟨s,h1,h2,_⟩:=ZlG (bs:=ZdJ) (rest:=rest) Zhz ZhA Tryz.underlying259 Tryz.underlying9 (by kernel_rfl) h j hj
 have h3:=Zmn _ (Ka h2)
 simp only [Bool.and_eq_true,decide_eq_true_eq] at h3
 have hs:s.size=s.data.toList.length:=(Array.length_toList (xs:=s.data)).symm
 refine ⟨s,h1,?_,by omega⟩
 unfold Wi
 rw [h3.1,Bool.true_and,decide_eq_true_eq]
 omega
noncomputable def zZ (os:Os):World:=
 { World.holding Tryz.prog os ⟨#[],#[],[]⟩ with heap:=(World.holding Tryz.prog os ⟨#[],#[],[]⟩).heap.modify 0 fun
   | .cells _ t frozen=>.cells #[.string ⟨#[]⟩,.string ⟨#[97]⟩,.string ⟨#[98]⟩,.string ⟨#[105,116,39,115]⟩,.string ⟨#[90,32,122]⟩,.string ⟨#[126]⟩] t frozen
   | o=>o }
end
end Go.Proofs.YtnmnkbnmollpmaaGreatDoor

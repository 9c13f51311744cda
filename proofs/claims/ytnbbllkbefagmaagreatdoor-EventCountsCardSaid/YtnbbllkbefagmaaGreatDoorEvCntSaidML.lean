import Derived.Test.YtnbbllkbefagmaaGreatDoorEvCntSaidMD
import Derived.Test.YtnbbllkbefagmaaGreatDoorEvCntSaidMC
import Derived.Test.YtnbbllkbefagmaaGreatDoorEvCntSaidMF
import Derived.Shelf.Small.Strs
import Derived.Ground.NamesProg
import Derived.Test.YtnbbllkbefagmaaGreatDoorEvCntSaidMK
import Derived.IntWalk
import Derived.Test.YtnbbllkbefagmaaGreatDoorEvCntSaidME
import Derived.Test.YtnbbllkbefagmaaGreatDoorEvCntSaidMI
import Derived.Test.YtnbbllkbefagmaaGreatDoorEvCntSaidMG
namespace Go.Proofs.YtnbbllkbefagmaaGreatDoor
open Go.RowKit
set_option linter.unusedVariables false
set_option linter.unusedSimpArgs false
def Tryz.Zig:Go.Shelf.Ren:=⟨fun|106=>217|213=>252|265=>275|n=>n,fun|9=>9|3=>3|n=>n,fun|n=>n⟩
theorem Tryz.Ziu:Go.Proofs.Lays.n106 Tryz.prog Tryz.Zig:={
 mixed:=by kernel_rfl
 f106:=Tryz.func217.trans (congrArg some (by kernel_rfl))
 f213:=Tryz.func252.trans (congrArg some (by kernel_rfl))
 f265:=Tryz.func275.trans (congrArg some (by kernel_rfl))
 t3:=Tryz.underlying3
 a3:=Tryz.isAgg3
 z3:=Tryz.sizeOf3
 v3:=Tryz.zeroValue3
 t9:=Tryz.underlying9
 a9:=Tryz.isAgg9
 z9:=Tryz.sizeOf9
 v9:=Tryz.zeroValue9 }
theorem Zaf:∀ x y:List UInt8,Lib.compareBytes x y=0↔x=y
 | [],[]=>by simp [Lib.compareBytes]
 | [],b::y=>by simp [Lib.compareBytes]
 | a::x,[]=>by simp [Lib.compareBytes]
 | a::x,b::y=>by
  simp only [Lib.compareBytes]
  by_cases h1:a<b
  ·have hne:a≠b:=by
    rintro rfl
    have h' :a.toNat<a.toNat:=h1
    omega
   simp [h1,hne]
  ·by_cases h2:b<a
   ·have hne:a≠b:=by
     rintro rfl
     exact h1 h2
    simp [h1,h2,hne]
   ·have he:a=b:=by
     have h1' :¬a.toNat<b.toNat:=h1
     have h2' :¬b.toNat<a.toNat:=h2
     exact UInt8.toNat_inj.1 (by omega)
    subst he
    have:=Zaf x y
    simp [h1,this]
def Jt (p:Prop) (e:Ending):Prop:=∃ r:Int,e=.returned (.int .i64 r)∧(r=0↔p)
theorem ZfE (a b:ByteArray) (w:World):Calls Tryz.prog 217 #[.string a,.string b] w fun e w' =>Jt (a=b) e∧w=w' :=by
 have h:=Any.strings_Compare Tryz.Ziu a b w
 change Calls Tryz.prog 217 _ _ _ at h
 refine h.mono ?_
 rintro e w' ⟨rfl,rfl⟩
 refine ⟨⟨_,rfl,?_⟩,rfl⟩
 rw [Zaf]
 exact ⟨fun h=>Xt (by rw [ByteArray.toList_eq,ByteArray.toList_eq];exact h),fun h=>by rw [h]⟩
set_option maxHeartbeats 1000000 in
theorem Zgd (x y:Vl) (w:World):Calls Tryz.prog 181 #[.agg #[.int .i64 x.k,.int .i64 x.i,.string x.s],.agg #[.int .i64 y.k,.int .i64 y.i,.string y.s]] w fun e w' =>Jt (x=y) e∧Below w.heap.size w w' :=by
 obtain ⟨xk,xi,xs⟩:=x
 obtain ⟨yk,yi,ys⟩:=y
 dsimp only
 have K0:=((Hold.XP w).Za #[.int .i64 xk,.int .i64 xi,.string xs] 122).Za #[.int .i64 yk,.int .i64 yi,.string ys] 122
 rw [World.size_alloc] at K0
 have F0:=K0.facts
 simp only [zg] at F0
 by_cases hk:xk=yk
 ·subst hk
  have hb:(xk !=xk)=false:=by simp
  by_cases hi:xi=yi
  ·subst hi
   have hb2:(xi !=xi)=false:=by simp
   go_enter Tryz.func181,Tryz.ntmps181
   go_wp2_with fail
   refine (ZfE xs ys _).mono ?_
   rintro e w1 ⟨⟨r,rfl,hr⟩,rfl⟩
   have HR:=hid hr
   clear hr
   go_wp2_with fail
   go_ret
   refine ⟨⟨r,rfl,?_⟩,K0.below⟩
   rw [HR.out];simp
  ·have hb2:(xi !=yi)=true:=by simpa using hi
   have HI:=hid hi
   rcases Int.lt_or_le xi yi with hl|hl
   ·have hd:decide (xi<yi)=true:=by simpa using hl
    clear hi hl
    go_enter Tryz.func181,Tryz.ntmps181
    go_wp2_with fail
    go_ret
    exact ⟨⟨-1,rfl,by have:=HI.out;simp [this]⟩,K0.below⟩
   ·have hd:decide (xi<yi)=false:=by rw [decide_eq_false_iff_not];omega
    clear hi hl
    go_enter Tryz.func181,Tryz.ntmps181
    go_wp2_with fail
    go_ret
    exact ⟨⟨1,rfl,by have:=HI.out;simp [this]⟩,K0.below⟩
 ·have hb:(xk !=yk)=true:=by simpa using hk
  have HI:=hid hk
  rcases Int.lt_or_le xk yk with hl|hl
  ·have hd:decide (xk<yk)=true:=by simpa using hl
   clear hk hl
   go_enter Tryz.func181,Tryz.ntmps181
   go_wp2_with fail
   go_ret
   exact ⟨⟨-1,rfl,by have:=HI.out;simp [this]⟩,K0.below⟩
  ·have hd:decide (xk<yk)=false:=by rw [decide_eq_false_iff_not];omega
   clear hk hl
   go_enter Tryz.func181,Tryz.ntmps181
   go_wp2_with fail
   go_ret
   exact ⟨⟨1,rfl,by have:=HI.out;simp [this]⟩,K0.below⟩
def VR (p:Prop) (u:Value) (_:World):Prop:=∃ r:Int,u=.int .i64 r∧(r=0↔p)
theorem Uv {α:Type} {xs ys:List α} {k:Nat} {x y:α} (hx:xs[k]? =some x) (hy:ys[k]? =some y) (h:x≠y):xs≠ys:=by
 rintro rfl
 rw [hx] at hy
 injection hy with hy
 exact h hy
set_option maxHeartbeats 4000000 in
set_option maxRecDepth 100000 in
theorem Gy (M:Nat→Prop) (w:World) (hM:∀ b,M b→b<w.heap.size) (A:Option Addr) (n c:Nat) (xs:List Vl) (B:Option Addr) (m d:Nat) (ys:List Vl) (hD:Ro w M (VlsIn A n xs)) (hE:Ro w M (VlsIn B m ys)) (hn:n≤9223372036854775807) (hm:m≤9223372036854775807):
  Calls Tryz.prog 122 #[.slice A n c,.slice B m d] w fun e w' =>Jt (xs=ys) e∧Below w.heap.size w w' :=by
 have HX:=hid hD.now.len
 have HY:=hid hE.now.len
 have K0:=((Hold.start M w hM).add (hE.less (by simp [Mut]))).add (hD.less (by simp [Mut,Hp.foot]))
 clear hD hE
 go_enter Tryz.func122,Tryz.ntmps122
 go_wp2_with fail
 go_loopw [5] (fun iv wr=>∃ k:Nat,k≤n∧k≤m∧iv=.int .i64 k∧Hid (xs.take k=ys.take k)∧Hold M none w wr [.ro (VlsIn A n xs),.ro (VlsIn B m ys)]) (fun iv _=>n - (intOf iv).toNat)
 case atStart=>exact ⟨0,by omega,by omega,rfl,hid rfl,K0⟩
 case round=>
  clear K0
  obtain ⟨k,hk,hkm,rfl,HT,H⟩:=hrel
  by_cases hlt:k<n
  ·have hd:decide ((k:Int)<(n:Int))=true:=by simp;omega
   by_cases hltm:k<m
   ·have hdm:decide ((k:Int)<(m:Int))=true:=by simp;omega
    have k0:(0:Int)≤(k:Int):=by omega
    have k1:(k:Int)<(n:Int):=by omega
    have k2:(k:Int)<(m:Int):=by omega
    obtain ⟨x,hx⟩:=Zq HX.out hlt
    obtain ⟨y,hy⟩:=Zq HY.out hltm
    obtain ⟨b1,o1,rfl,r1⟩:=(H.ro 0 rfl).U8 hx
    obtain ⟨b2,o2,rfl,r2⟩:=(H.ro 1 rfl).U8 hy
    have HXX:=hid hx
    have HYY:=hid hy
    clear hx hy
    have K1:=(H.add r1).add (r2.less (Xa rfl))
    clear r1 r2
    obtain ⟨KL,hKL,K2⟩:=K1.name
    clear K1
    have HF:Hid (∀ wv,Hold M none w wv KL→(b2<wv.heap.size∧wv.cell? ⟨b2,o2+k * 3,none⟩=some (.int .i64 y.k)∧wv.cell? ⟨b2,o2+k * 3+1,none⟩=some (.int .i64 y.i)∧wv.cell? ⟨b2,o2+k * 3+2,none⟩=some (.string y.s))∧b1<wv.heap.size∧wv.cell? ⟨b1,o1+k * 3,none⟩=some (.int .i64 x.k)∧wv.cell? ⟨b1,o1+k * 3+1,none⟩=some (.int .i64 x.i)∧wv.cell? ⟨b1,o1+k * 3+2,none⟩=some (.string x.s)):=hid fun wv HC=>by
     rw [hKL] at HC
     exact ⟨(HC.ro 0 rfl).now,(HC.ro 1 rfl).now⟩
    have HKL:=hid hKL
    clear hKL
    go_wp2_with fail
    refine wp_region_any (by kernel_rfl) ?_
    refine Zp 10 41 (KL) (spL [(27,VR (x=y))]) (by kernel_rfl) (by kernel_rfl) (by kernel_rfl) rfl ?_ (K2.drew) ?_
    ·exact Ze (fun _ _ _ _ h=>h) (Zo _)
    simp only [zd,Act.put,List.getElem_toArray,List.getElem_cons_zero,List.getElem_cons_succ,zl]
    iterate 3
     refine' dv rfl rfl rfl (fun wv HC=>?_) ?_;rotate_left
     · go_simp<;>rfl
     simp only [Act.put,zl]
    refine' dv rfl rfl rfl (fun wv HC=>?_) ?_;rotate_left
    ·obtain ⟨⟨f0,f1,f2,f3⟩,f4,f5,f6,f7⟩:=HF.out _ HC;go_simp<;>rfl
    iterate 3
     simp only [Act.put,zl]
     refine' dv rfl rfl rfl (fun wv HC=>?_) ?_;rotate_left
     · go_simp<;>rfl
    simp only [Act.put,zl]
    refine' dv rfl rfl rfl (fun wv HC=>?_) ?_;rotate_left
    ·obtain ⟨⟨f0,f1,f2,f3⟩,f4,f5,f6,f7⟩:=HF.out _ HC;go_simp<;>rfl
    simp only [Act.put,zl]
    refine Zm 27 (VR (x=y)) (f:=181) (args:=#[.agg #[.int .i64 x.k,.int .i64 x.i,.string x.s],.agg #[.int .i64 y.k,.int .i64 y.i,.string y.s]]) rfl rfl rfl rfl (fun wv=>?_) (fun wv HC hrm hD=>?_) ?_
    ·go_simp<;>rfl
    ·refine (Zgd x y wv).mono ?_
     rintro e w5 ⟨⟨r,rfl,hr⟩,b5⟩
     exact ⟨_,rfl,⟨r,rfl,hr⟩,HC.call b5,RM.below b5⟩
    rintro u wx HCx ⟨r,rfl,hr⟩
    have HR:=hid hr
    clear HCx hr
    simp only [Act.put,zl]
    refine' dv rfl rfl rfl (fun wv HC=>?_) ?_;rotate_left
    · go_simp<;>rfl
    simp only [Act.put,zl]
    refine Zj ?_
    rintro wx2 HX2
    rintro _hrm _HG
    rw [HKL.out] at HX2
    clear _hrm _HG
    have K3:=HX2.drop (List.Sublist.cons _ (List.sublist_cons_self _ _))
    by_cases hr0:r=0
    ·have hb:(r !=0)=false:=by simp [hr0]
     have HN:=hid (ZaH HXX.out HYY.out HT.out (HR.out.1 hr0))
     clear hr0
     go_wp2_with fail
     go_roundw
     case rel=>exact ⟨k+1,by omega,by omega,by go_num,HN,K3⟩
     case measure=>simp [intOf];omega
    ·have hb:(r !=0)=true:=by simpa using hr0
     have HN:=hid (show r=0↔xs=ys from ⟨fun h=>absurd h hr0,fun h=>absurd h (Uv HXX.out HYY.out fun e=>hr0 (HR.out.2 e))⟩)
     clear hr0
     go_wp2_with fail
     go_ret
     exact ⟨⟨r,rfl,HN.out⟩,K3.below⟩
   ·obtain rfl:k=m:=by omega
    have hdm:decide ((k:Int)<(k:Int))=false:=by simp
    have hd2:decide ((n:Int)<(k:Int))=false:=by rw [decide_eq_false_iff_not];omega
    have hd3:decide ((k:Int)<(n:Int))=true:=by simp;omega
    have hd4:decide ((n:Int) > (k:Int))=true:=by simp;omega
    have HN:=hid (show xs≠ys from fun e=>by have h1:=HX.out;have h2:=HY.out;rw [e] at h1;omega)
    go_wp2_with fail
    go_ret
    exact ⟨⟨1,rfl,by have:=HN.out;simp [this]⟩,H.below⟩
  ·obtain rfl:k=n:=by omega
   have hd:decide ((k:Int)<(k:Int))=false:=by simp
   by_cases hkm2:k=m
   ·subst hkm2
    have hd4:decide ((k:Int) > (k:Int))=false:=by simp
    have HN:=hid (show xs=ys by have h:=HT.out;rwa [List.take_of_length_le (by rw [HX.out];exact Nat.le_refl _),List.take_of_length_le (by rw [HY.out];exact Nat.le_refl _)] at h)
    go_wp2_with fail
    go_ret
    exact ⟨⟨0,rfl,by have:=HN.out;simp [this]⟩,H.below⟩
   ·have hd2:decide ((k:Int)<(m:Int))=true:=by simp;omega
    have HN:=hid (show xs≠ys from fun e=>by have h1:=HX.out;have h2:=HY.out;rw [e] at h1;omega)
    have hkm3:k<m:=by omega
    clear hkm2
    go_wp2_with fail
    go_ret
    exact ⟨⟨-1,rfl,by have:=HN.out;simp [this]⟩,H.below⟩
end Go.Proofs.YtnbbllkbefagmaaGreatDoor
namespace Go.Proofs.YtnbbllkbefagmaaGreatDoor
open Go.RowKit Go.Maps
set_option linter.unusedVariables false
set_option linter.unusedSimpArgs false
def Xi:KeyFam Tryz.prog 3 Int where
 val:=fun x=>.int .i64 x
 ok:=I64
 key:=fun x h=>⟨_,keyOf_int_mk Tryz.underlying3 (wf_i64 h)⟩
 inj:=fun x y h=>by injection h
theorem Tryz.VC:SetT Tryz.prog 200 3 4:=⟨Tryz.underlying200,Tryz.underlying4,fun w=>by kernel_rfl,int_keyed Tryz.underlying3⟩
def YX (rs:List Row) (W:Nat) (gone:List Int):Option Int→List Upd→Bool
 | _,[]=>true
 | last,u::us=>(Zr rs u.1).isSome&&!gone.contains u.1&&!(last.any fun p=>decide (p≥u.1))&&decide (Zr rs u.1=some u.2.1)&&decide (u.2.2.length=W)&&YX rs W gone (some u.1) us
theorem Gb {rs:List Row} {W:Nat} {gone:List Int}:∀ {last:Option Int} {us:List Upd},YX rs W gone last us=(QZ rs W us&&YB rs gone last (us.map (·.1)))
 | _,[]=>rfl
 | last,u::us=>by
  rw [YX,Gb]
  simp only [QZ,List.all_cons,List.map_cons,YB]
  cases (Zr rs u.1).isSome<;>cases gone.contains u.1<;>cases (last.any fun p=>decide (p≥u.1))<;>cases decide (Zr rs u.1=some u.2.1)<;>cases decide (u.2.2.length=W)<;>simp
theorem WQ {rs:List Row} {W:Nat} {gone:List Int} {k:Nat} {u:Upd} {last:Option Int} {us:List Upd} (hu:us[k]? =some u) (h:(Zr rs u.1).isSome=false∨gone.contains u.1=true∨(last.any fun p=>decide (p≥u.1))=true∨Zr rs u.1≠some u.2.1∨u.2.2.length≠W):YX rs W gone last (us.drop k)=false:=by
 rw [Yv hu,YX]
 rcases h with h|h|h|h|h
 ·rw [h];simp
 ·rw [h];simp
 ·rw [h];simp
 ·rw [decide_eq_false h];simp
 ·rw [decide_eq_false h];simp
theorem ZbQ {rs:List Row} {W:Nat} {gone:List Int} {k:Nat} {u:Upd} {last:Option Int} {us:List Upd} (hu:us[k]? =some u) (h1:(Zr rs u.1).isSome=true) (h2:gone.contains u.1=false) (h3:(last.any fun p=>decide (p≥u.1))=false) (h4:Zr rs u.1=some u.2.1) (h5:u.2.2.length=W):YX rs W gone last (us.drop k)=YX rs W gone (some u.1) (us.drop (k+1)):=by
 rw [Yv hu,YX,h1,h2,h3,decide_eq_true h4,decide_eq_true h5];rfl
theorem Zdw {rs:List Row} {W:Nat} {gone:List Int} {k:Nat} {last:Option Int} {us:List Upd} (h:us.length≤k):YX rs W gone last (us.drop k)=true:=by rw [List.drop_of_length_le h];rfl
section
variable {nm:ByteArray} {cs:List Col} {nx:Int} {rs:List Row} {ins:List (List Vl)} {dels:List Int} {us:List Upd}
theorem ZcB (h:Zn nm cs nx rs=false):Ya nm cs nx rs ins dels us=false:=by simp [Ya,h]
theorem Zaj (h:YB rs [] none dels=false):Ya nm cs nx rs ins dels us=false:=by simp [Ya,h]
theorem WI {W:Nat} (hW:W=cs.length) (h:YX rs W dels none us=false):Ya nm cs nx rs ins dels us=false:=by
 subst hW
 rw [Gb] at h
 unfold Ya
 cases h1:QZ rs cs.length us
 ·simp
 ·rw [h1,Bool.true_and] at h
  simp [h]
theorem Zdu {W:Nat} (hW:W=cs.length) (h:(ins.any fun s=>decide (s.length≠W))=true):Ya nm cs nx rs ins dels us=false:=by
 subst hW
 unfold Ya
 rw [h]
 simp
theorem Zgv {W:Nat} (hW:W=cs.length) (h1:Zn nm cs nx rs=true) (h2:YB rs [] none dels=true) (h3:YX rs W dels none us=true) (h4:(ins.any fun s=>decide (s.length≠W))=false):Ya nm cs nx rs ins dels us=true:=by
 subst hW
 rw [Gb,Bool.and_eq_true] at h3
 unfold Ya
 rw [h1,h2,h3.1,h3.2,h4];rfl
end
theorem Jj {l:List Rw} {id:Int} {vs:List Vl} (h:Zr (l.map Rw.row) id=some vs):∃ r∈l,r.id=id∧r.vs=vs:=by
 unfold Zr at h
 obtain ⟨x,hx,hv⟩:=Option.map_eq_some_iff.1 h
 obtain ⟨r,hr,rfl⟩:=List.mem_map.1 (List.mem_of_find?_eq_some hx)
 have h2:=List.find?_some hx
 exact ⟨r,hr,by simpa [Rw.row] using h2,hv⟩
set_option maxHeartbeats 8000000 in
set_option maxRecDepth 100000 in
theorem Zf5 (M:Nat→Prop) (w:World) (hM:∀ b,M b→b<w.heap.size) (nm:ByteArray) (A:Option Addr) (n c:Nat) (cs:List Col) (nx:Int) (B:Option Addr) (m d:Nat) (l:List Rw) (I:Option Addr) (ni ci:Nat) (ins:List Sl) (D:Option Addr) (nd cd:Nat) (dels:List Int) (U:Option Addr) (nu cu:Nat) (us:List Pr)
  (hC:Ro w M (SlR 4 A n (Zd cs))) (hE:Ro w M (RwsIn B m l)) (hI:Ro w M (SlsIn I ni ins)) (hD:Ro w M (IsIn D nd dels)) (hU:Ro w M (PrsIn U nu us)) (hn:n≤9223372036854775807) (hm:m≤4611686018427387904) (hok:∀ r∈l,r.ok) (hrn:∀ r∈l,r.n≤4398046511104) (hpn:∀ p∈us,p.on≤9223372036854775807) (hs:nm.size≤maxLen) (hcs:∀ x∈cs,x.name.size≤maxLen)
  (hni:ni≤9223372036854775807) (hnd:nd≤4611686018427387904) (hnu:nu≤4398046511104):
  Calls Tryz.prog 61 #[.agg #[.string nm,.slice A n c,.int .i64 nx,.slice B m d],.agg #[.slice I ni ci,.slice D nd cd,.slice U nu cu]] w fun e w' =>e=.returned (.bool (Ya nm cs nx (l.map Rw.row) (ins.map Sl.vs) dels (us.map Pr.upd)))∧Below w.heap.size w w' :=by
 have HUL:=hid hU.now.len
 have HIL:=hid hI.now.len
 have HDL:=hid hD.now.len
 have HCL:=hid (show cs.length=n from (RdC.Zy hC.now).len)
 have HOK:=hid hok
 have HRN:=hid hrn
 have HPN:=hid hpn
 clear hok hrn hpn
 have K0:=((((((Hold.start M w hM).add (hU.less (by simp [Mut]))).add (hD.less (by simp [Mut,Hp.foot]))).add (hI.less (by simp [Mut,Hp.foot]))).add (hE.less (by simp [Mut,Hp.foot]))).add (hC.less (by simp [Mut,Hp.foot]))).Za #[.string nm,.slice A n c,.int .i64 nx,.slice B m d] 67|>.Za #[.slice I ni ci,.slice D nd cd,.slice U nu cu] 73
 rw [World.size_alloc] at K0
 clear hC hE hI hD hU
 obtain ⟨gt,hgt⟩:∃ gt,gt=w.heap.size:=⟨_,rfl⟩
 obtain ⟨gc,hgc⟩:∃ gc,gc=gt+1:=⟨_,rfl⟩
 rw [←hgt,←hgc] at K0
 have F0:=K0.facts
 simp only [zg] at F0
 have hmm:=@run_makeMap Tryz.prog
 rw [hgc,hgt] at K0 F0
 go_enter Tryz.func61,Tryz.ntmps61
 go_wp2_with fail
 rw [←hgt,←hgc] at K0 ⊢
 have HGT:=hid hgt
 clear hgt hgc F0
 generalize (w.alloc _).alloc _=w0 at K0 ⊢
 refine (Vu _ _ K0.Zb nm A n c cs nx B m d l (K0.ro 2 rfl) (K0.ro 3 rfl) hn hm HOK.out hs hcs).mono ?_
 rintro e w1 ⟨rfl,b1⟩
 have K1:=K0.call b1
 clear K0 b1
 cases htb:Zn nm cs nx (l.map Rw.row)
 ·have HN:=hid (show Ya nm cs nx (l.map Rw.row) (ins.map Sl.vs) dels (us.map Pr.upd)=false from ZcB htb)
  clear htb
  go_wp2_with fail
  go_ret
  exact ⟨by rw [HN.out]<;>rfl,K1.below⟩
 ·have HTB:=hid htb
  have HDK:=hid HCL.out.symm
  clear htb
  have F1:=K1.facts
  simp only [zg] at F1
  have KM:=Hold.GY K1 4 Xi
  obtain ⟨gm,hgm⟩:∃ gm,gm=w1.heap.size:=⟨_,rfl⟩
  rw [←hgm,show (fun _:Int=>False)=(fun z=>z∈dels.take 0) by funext z;simp] at KM
  go_wp2_with fail
  rw [←hgm]
  have HGM:=hid hgm
  clear hgm K1 F1
  go_loopw [28] (fun iv wr=>∃ (k q:Nat) (last:Option Int),k≤nd∧iv=.int .i64 k∧q≤k∧Hid (VN dels k last∧YB (l.map Rw.row) [] none dels=YB (l.map Rw.row) [] last (dels.drop k))∧Hold M none w wr [.ob gm (MSet 4 Xi gm q (fun z=>z∈dels.take k)),.cst gc 73 #[.slice I ni ci,.slice D nd cd,.slice U nu cu],.cst gt 67 #[.string nm,.slice A n c,.int .i64 nx,.slice B m d],.ro (SlR 4 A n (Zd cs)),.ro (RwsIn B m l),.ro (SlsIn I ni ins),.ro (IsIn D nd dels),.ro (PrsIn U nu us)]) (fun iv _=>nd - (intOf iv).toNat)
  case atStart=>exact ⟨0,0,none,by omega,rfl,by omega,hid ⟨⟨fun _=>rfl,fun p hp=>by omega⟩,rfl⟩,KM⟩
  case round=>
   clear KM hmm
   obtain ⟨k,q,last,hk,rfl,hq,HP,H⟩:=hrel
   by_cases hlt:k<nd
   ·have hdd:decide ((k:Int)<(nd:Int))=true:=by simp;omega
    have k0:(0:Int)≤(k:Int):=by omega
    have k1:(k:Int)<(nd:Int):=by omega
    obtain ⟨id,hx⟩:=Zq HDL.out hlt
    obtain ⟨b,o,rfl,hb,hcc⟩:=(H.ro 6 rfl).now.cells (by omega)
    have hgd:∀ j z,dels[j]? =some z→dels.getD j 0=z:=fun j z h=>by simp [List.getD,h]
    have ck:wr.cell? ⟨b,o+k,none⟩=some (.int .i64 id):=by rw [←hgd k id hx];exact hcc k (by rw [HDL.out];exact hlt)
    have HX:=hid hx
    have F1:=H.facts
    simp only [zg] at F1
    have HGD:=hid hgd
    clear hx hcc hgd
    go_wp2_with fail
    refine (QK _ _ H.Zb (.string nm) (.slice A n c) (.int .i64 nx) B m d l id (H.ro 4 rfl) hm HRN.out).mono ?_
    rintro e w2 ⟨A1,n1,c1,rfl,hn1,_,_,r1,b1⟩
    have K1:=H.call b1
    clear F1 b1 r1 hn1 ck H
    have F1:=K1.facts
    simp only [zg] at F1
    cases hg:Zr (l.map Rw.row) id with
    | none=>
     have HN:=hid (show Ya nm cs nx (l.map Rw.row) (ins.map Sl.vs) dels (us.map Pr.upd)=false from Zaj (by rw [HP.out.2];exact ZbP HX.out (.inl (by rw [hg];rfl))))
     simp only [Option.isSome_none]
     clear hg
     go_wp2_with fail
     go_ret
     exact ⟨by rw [HN.out]<;>rfl,K1.below⟩
    | some vs=>
     have HG:=hid (show (Zr (l.map Rw.row) id).isSome=true by rw [hg];rfl)
     have HPI:=hid (show I64 id by obtain ⟨r,hr,h1,_⟩:=Jj hg;rw [←h1];exact (HOK.out r hr).id)
     have HMT:=hid (show (fun z=>z=id∨z∈dels.take k)=(fun z=>z∈dels.take (k+1)) by funext z;rw [List.take_add_one,HX.out];simp [or_comm])
     simp only [Option.isSome_some]
     clear hg
     rcases Nat.eq_zero_or_pos k with hk0|hk0
     ·have HLN:=hid (HP.out.1.1 hk0)
      have hd0:decide ((k:Int) > 0)=false:=by simp;omega
      have hd1:decide (0<k)=false:=by simp;omega
      have hd2:decide ((0:Int)<(k:Int))=false:=by simp;omega
      have HPV:=hid (show (last.any fun p=>decide (p≥id))=false by rw [HLN.out];rfl)
      clear hk0
      go_wp2_with (at_mapUpdate;go_must (refine JS K1 0 rfl Tryz.VC rfl (.tmp 55) (.tmp 56) _ rfl rfl id rfl rfl HPI.out (by unfold maxLen;omega) ?_);intro w5 K5)
      rw [HMT.out] at K5
      simp only [List.set_cons_zero] at K5
      have HS:=hid (show YB (l.map Rw.row) [] none dels=YB (l.map Rw.row) [] (some id) (dels.drop (k+1)) by rw [HP.out.2];exact Zb0 HX.out HG.out HPV.out rfl)
      have HPP:=hid (show VN dels (k+1) (some id) from ⟨fun h=>by omega,fun p hp=>⟨id,(show k=p by omega) ▸ HX.out,rfl⟩⟩)
      go_roundw
      case rel=>exact ⟨k+1,q+1,some id,by omega,by go_num,by omega,hid ⟨HPP.out,HS.out⟩,K5⟩
      case measure=>simp [intOf];omega
     ·obtain ⟨p,hp⟩:∃ p,k=p+1:=⟨k - 1,by omega⟩
      obtain ⟨z,hz,hzl⟩:=HP.out.1.2 p hp
      have HZL:=hid hzl
      have hd0:decide ((k:Int) > 0)=true:=by simp;omega
      have hd1:decide (0<k)=true:=by simp;omega
      have hd2:decide ((0:Int)<(k:Int))=true:=by simp;omega
      have hw1:IntKind.i64.wrap ((k:Int) - 1)=(p:Int):=by rw [IntKind.wrap_i64];omega
      have hw2:(k:Int) - 1=(p:Int):=by omega
      have p0:(0:Int)≤(p:Int):=by omega
      have p1:(p:Int)<(nd:Int):=by omega
      have cz:w2.cell? ⟨b,o+p,none⟩=some (.int .i64 z):=by
       obtain ⟨b',o',e',_,hcc⟩:=(K1.ro 6 rfl).now.cells (by omega)
       obtain ⟨rfl,rfl⟩:b=b' ∧o=o' :=by injection e' with e';injection e' with a1 a2;exact ⟨a1,a2⟩
       rw [←HGD.out p z hz];exact hcc p (by rw [HDL.out];omega)
      have HKP:=hid hp
      clear hz hzl hk0 hp
      by_cases hzi:z≥id
      ·have hzd:decide (z≥id)=true:=by simpa using hzi
       have HN:=hid (show Ya nm cs nx (l.map Rw.row) (ins.map Sl.vs) dels (us.map Pr.upd)=false from Zaj (by rw [HP.out.2];exact ZbP HX.out (.inr (.inl (by rw [HZL.out];simpa using hzi)))))
       clear hzi
       go_wp2_with fail
       go_ret
       exact ⟨by rw [HN.out]<;>rfl,K1.below⟩
      ·have hzd:decide (z≥id)=false:=by simpa using hzi
       have HPV:=hid (show (last.any fun p=>decide (p≥id))=false by rw [HZL.out];simpa using hzi)
       clear hzi
       go_wp2_with (at_mapUpdate;go_must (refine JS K1 0 rfl Tryz.VC rfl (.tmp 55) (.tmp 56) _ rfl rfl id rfl rfl HPI.out (by unfold maxLen;omega) ?_);intro w5 K5)
       rw [HMT.out] at K5
       simp only [List.set_cons_zero] at K5
       have HS:=hid (show YB (l.map Rw.row) [] none dels=YB (l.map Rw.row) [] (some id) (dels.drop (k+1)) by rw [HP.out.2];exact Zb0 HX.out HG.out HPV.out rfl)
       have HPP:=hid (show VN dels (k+1) (some id) from ⟨fun h=>by omega,fun p hp=>⟨id,(show k=p by omega) ▸ HX.out,rfl⟩⟩)
       go_roundw
       case rel=>exact ⟨k+1,q+1,some id,by omega,by go_num,by omega,hid ⟨HPP.out,HS.out⟩,K5⟩
       case measure=>simp [intOf];omega
   ·obtain rfl:nd=k:=by omega
    have hdd:decide ((nd:Int)<(nd:Int))=false:=by simp
    clear hlt
    have HRK:=hid (show YB (l.map Rw.row) [] none dels=true by rw [HP.out.2];exact Zfb (by rw [HDL.out];exact Nat.le_refl _))
    rw [List.take_of_length_le (by rw [HDL.out];exact Nat.le_refl _)] at H
    have F1:=H.facts
    simp only [zg] at F1
    go_wp2_with fail
    clear F1 hdd HP
    go_loopw [61] (fun iv wr=>∃ (k:Nat) (last:Option Int),k≤nu∧iv=.int .i64 k∧Hid (VN ((us.map Pr.upd).map (·.1)) k last∧YX (l.map Rw.row) n dels none (us.map Pr.upd)=YX (l.map Rw.row) n dels last ((us.map Pr.upd).drop k))∧Hold M none w wr [.ob gm (MSet 4 Xi gm q (fun z=>z∈dels)),.cst gc 73 #[.slice I ni ci,.slice D nd cd,.slice U nu cu],.cst gt 67 #[.string nm,.slice A n c,.int .i64 nx,.slice B m d],.ro (SlR 4 A n (Zd cs)),.ro (RwsIn B m l),.ro (SlsIn I ni ins),.ro (IsIn D nd dels),.ro (PrsIn U nu us)]) (fun iv _=>nu - (intOf iv).toNat)
    case atStart=>exact ⟨0,none,by omega,rfl,hid ⟨⟨fun _=>rfl,fun p hp=>by omega⟩,rfl⟩,H⟩
    case round=>
     clear H
     obtain ⟨k,last,hk,rfl,HP,H⟩:=hrel
     by_cases hlt:k<nu
     ·have hdd:decide ((k:Int)<(nu:Int))=true:=by simp;omega
      have k0:(0:Int)≤(k:Int):=by omega
      have k1:(k:Int)<(nu:Int):=by omega
      obtain ⟨p,hp⟩:=Zq HUL.out hlt
      obtain ⟨b,o,rfl,hb,c0,c1,c2,hv1,hv2⟩:=(H.ro 7 rfl).now.at_ hp
      have HU:=hid (show (us.map Pr.upd)[k]? =some p.upd by rw [List.getElem?_map,hp];rfl)
      have HPL:=hid hv2.len
      have hpon:=HPN.out p (List.mem_of_getElem? hp)
      have hpo:Ro wr _ (VlsIn p.oA p.on p.old):=(H.ro 7 rfl).imp fun w2 h2=>(h2.2 p (List.mem_of_getElem? hp)).1
      clear hp hv1 hv2
      have K1:=(H.add hpo).Za #[.int .i64 p.id,.slice p.oA p.on p.oc,.slice p.nA p.nn p.nc] 115
      clear H hpo
      obtain ⟨gp,hgp⟩:∃ gp,gp=wr.heap.size:=⟨_,rfl⟩
      rw [←hgp] at K1
      have F1:=K1.facts
      simp only [zg] at F1
      go_wp2_with fail
      rw [←hgp]
      have HGP:=hid hgp
      clear hgp c0 c1 c2
      refine (QK _ _ K1.Zb (.string nm) (.slice A n c) (.int .i64 nx) B m d l p.id (K1.ro 6 rfl) hm HRN.out).mono ?_
      rintro e w2 ⟨A1,n1,c1,rfl,hn1,_,_,r1,b1⟩
      clear F1
      cases hg:Zr (l.map Rw.row) p.id with
      | none=>
       have HN:=hid (show Ya nm cs nx (l.map Rw.row) (ins.map Sl.vs) dels (us.map Pr.upd)=false from WI HDK.out (by rw [HP.out.2];exact WQ HU.out (.inl (by rw [show p.upd.1=p.id from rfl,hg];rfl))))
       simp only [Option.isSome_none]
       have K2:=(K1.call b1).add r1
       clear K1 b1 r1 hn1 hg
       obtain ⟨KL,hKL,K3⟩:=K2.name
       have HKL:=hid hKL
       clear hKL K2
       go_wp2_with fail
       refine wp_region_any (by kernel_rfl) ?_
       refine Zp 38 124 (KL) (spL []) (by kernel_rfl) (by kernel_rfl) (by kernel_rfl) rfl ?_ (K3.drew) ?_
       ·exact Zo _
       simp only [zd,Act.put,List.getElem_toArray,List.getElem_cons_zero,List.getElem_cons_succ,zl]
       repeat (first|(refine dw_skip rfl rfl rfl ?_;simp only [Act.put,zl])|(refine' dv rfl rfl rfl (fun wv HC=>?_) ?_;rotate_left;(focus (go_simp<;>rfl;done));simp only [Act.put,zl]))
       refine Zj ?_
       rintro wx9 HX9
       rintro _hrm _HG
       rw [HKL.out] at HX9
       clear _hrm _HG
       go_wp2_with fail
       go_ret
       exact ⟨by rw [HN.out]<;>rfl,HX9.below⟩
      | some vs=>
       have HG2:=hid (show Zr (l.map Rw.row) p.upd.1=some vs from hg)
       have HGS:=hid (show (Zr (l.map Rw.row) p.upd.1).isSome=true by rw [show p.upd.1=p.id from rfl,hg];rfl)
       have HPI:=hid (show I64 p.id by obtain ⟨r,hr,h1,_⟩:=Jj hg;rw [←h1];exact (HOK.out r hr).id)
       have hn1m:n1≤4611686018427387904:=by
        obtain ⟨r,hr,_,h2⟩:=Jj hg
        have h3:=HRN.out r hr
        have h4:=((K1.ro 6 rfl).now.2 r hr).len
        rw [hg] at hn1
        simp only [Option.getD_some] at hn1
        rw [h2] at h4
        omega
       rw [hg] at r1
       simp only [Option.isSome_some]
       simp only [Option.getD_some] at r1
       have K2:=(K1.call b1).add r1
       clear K1 b1 r1 hn1 hg
       obtain ⟨KL,hKL,K3⟩:=K2.name
       have HRX:Hid (∀ wv,Hold M none w wv KL→Ro wv (Mut M KL) (VlsIn A1 n1 vs)∧Ro wv (Mut M KL) (VlsIn p.oA p.on p.old)):=hid fun wv HC=>by
        rw [hKL] at HC ⊢
        exact ⟨HC.ro 0 rfl,HC.ro 2 rfl⟩
       clear K2
       rcases Nat.eq_zero_or_pos k with hk0|hk0
       ·have HLN:=hid (HP.out.1.1 hk0)
        have hd0:decide ((k:Int) > 0)=false:=by simp;omega
        have hd1:decide (0<k)=false:=by simp;omega
        have hd2:decide ((0:Int)<(k:Int))=false:=by simp;omega
        have HPV:=hid (show (last.any fun q=>decide (q≥p.upd.1))=false by rw [HLN.out];rfl)
        clear hk0
        have HF:Hid (∀ wv,Hold M none w wv KL→wv.cell? ⟨gp,0,none⟩=some (.int .i64 p.id)∧wv.cell? ⟨gp,1,none⟩=some (.slice p.oA p.on p.oc)∧wv.cell? ⟨gp,2,none⟩=some (.slice p.nA p.nn p.nc)∧gp<wv.heap.size∧wv.cell? ⟨gc,2,none⟩=some (.slice (some ⟨b,o,none⟩) nu cu)∧gc<wv.heap.size):=hid fun wv HC=>by
         rw [hKL] at HC
         have y0:=HC.ZB 1 rfl
         have y1:=HC.ZB 4 rfl
         exact ⟨cell_of_row _ _ 0 _ _ _ y0,cell_of_row _ _ 1 _ _ _ y0,cell_of_row _ _ 2 _ _ _ y0,Blk.lt y0,cell_of_row _ _ 2 _ _ _ y1,Blk.lt y1⟩
        have HKL:=hid hKL
        clear hKL
        by_cases hin:p.id∈dels
        ·have HN:=hid (show Ya nm cs nx (l.map Rw.row) (ins.map Sl.vs) dels (us.map Pr.upd)=false from WI HDK.out (by rw [HP.out.2];exact WQ HU.out (.inr (.inl (by show dels.contains p.id=true;simpa using hin)))))
         have HINN:=hid hin
         clear hin
         go_wp2_with fail
         refine wp_region_any (by kernel_rfl) ?_
         refine Zp 38 124 (KL) (spL []) (by kernel_rfl) (by kernel_rfl) (by kernel_rfl) rfl ?_ (K3.drew) ?_
         ·exact Zo _
         simp only [zd,Act.put,List.getElem_toArray,List.getElem_cons_zero,List.getElem_cons_succ,zl]
         repeat (first|(refine dw_skip rfl rfl rfl ?_;simp only [Act.put,zl])|(refine' dv rfl rfl rfl (fun wv HC=>?_) ?_;rotate_left;(focus (obtain ⟨f0,f1,f2,f3,f4,f5⟩:=HF.out _ HC;go_simp<;>rfl;done));simp only [Act.put,zl]))
         refine XT rfl rfl rfl ⟨.bool true,fun wv HC=>?_,?_⟩
         ·have hob:=(show MSet 4 Xi gm q (fun z=>z∈dels) wv by
           have HC2:=HC
           rw [HKL.out] at HC2
           exact HC2.ob_ 3 rfl).look Tryz.VC (x:=p.id) HPI.out
          obtain ⟨cb,hrun,hcb⟩:=hob
          obtain rfl:cb=true:=hcb.2 HINN.out
          simp [execOp,Act.eval,hrun,Result.andThen,Xi] at hrun ⊢
          all_goals (try simp [hrun,Result.andThen])
         simp only [Act.put,zl]
         repeat (first|(refine dw_skip rfl rfl rfl ?_;simp only [Act.put,zl])|(refine' dv rfl rfl rfl (fun wv HC=>?_) ?_;rotate_left;(focus (go_simp<;>rfl;done));simp only [Act.put,zl]))
         refine Zj ?_
         rintro wx9 HX9
         rintro _hrm _HG
         rw [HKL.out] at HX9
         clear _hrm _HG
         go_wp2_with fail
         go_ret
         exact ⟨by rw [HN.out]<;>rfl,HX9.below⟩
        ·have HIN:=hid (show dels.contains p.id=false by simpa using hin)
         have HINN:=hid hin
         clear hin
         go_wp2_with fail
         refine wp_region_any (by kernel_rfl) ?_
         refine Zp 38 124 (KL) (spL [(101,VR (vs=p.old))]) (by kernel_rfl) (by kernel_rfl) (by kernel_rfl) rfl ?_ (K3.drew) ?_
         ·exact Ze (fun _ _ _ _ h=>h) (Zo _)
         simp only [zd,Act.put,List.getElem_toArray,List.getElem_cons_zero,List.getElem_cons_succ,zl]
         repeat (first|(refine dw_skip rfl rfl rfl ?_;simp only [Act.put,zl])|(refine' dv rfl rfl rfl (fun wv HC=>?_) ?_;rotate_left;(focus (obtain ⟨f0,f1,f2,f3,f4,f5⟩:=HF.out _ HC;go_simp<;>rfl;done));simp only [Act.put,zl]))
         refine XT rfl rfl rfl ⟨.bool false,fun wv HC=>?_,?_⟩
         ·have hob:=(show MSet 4 Xi gm q (fun z=>z∈dels) wv by
           have HC2:=HC
           rw [HKL.out] at HC2
           exact HC2.ob_ 3 rfl).look Tryz.VC (x:=p.id) HPI.out
          obtain ⟨cb,hrun,hcb⟩:=hob
          obtain rfl:cb=false:=by cases cb;rfl;exact absurd (hcb.1 rfl) HINN.out
          simp [execOp,Act.eval,hrun,Result.andThen,Xi] at hrun ⊢
          all_goals (try simp [hrun,Result.andThen])
         simp only [Act.put,zl]
         repeat (first|(refine dw_skip rfl rfl rfl ?_;simp only [Act.put,zl])|(refine' dv rfl rfl rfl (fun wv HC=>?_) ?_;rotate_left;(focus (obtain ⟨f0,f1,f2,f3,f4,f5⟩:=HF.out _ HC;go_simp<;>rfl;done));simp only [Act.put,zl]))
         refine Zm 101 (VR (vs=p.old)) (f:=122) (args:=#[.slice A1 n1 c1,.slice p.oA p.on p.oc]) rfl rfl rfl rfl (fun wv=>?_) (fun wv HC hrm hD=>?_) ?_
         ·go_simp<;>rfl
         ·refine (Gy (Mut M KL) wv HC.Zb A1 n1 c1 vs p.oA p.on p.oc p.old (HRX.out _ HC).1 (HRX.out _ HC).2 (by omega) (by omega)).mono ?_
          rintro e w5 ⟨⟨r,rfl,hr⟩,b5⟩
          exact ⟨_,rfl,⟨r,rfl,hr⟩,HC.call b5,RM.below b5⟩
         rintro u wx HCx ⟨r,rfl,hr⟩
         have HR:=hid hr
         clear HCx hr
         simp only [Act.put,zl]
         by_cases hr0:r=0
         ·have hb0:(r !=0)=false:=by simp [hr0]
          have HEQ:=hid (HR.out.1 hr0)
          clear hr0
          repeat (first|(refine dw_skip rfl rfl rfl ?_;simp only [Act.put,zl])|(refine' dv rfl rfl rfl (fun wv HC=>?_) ?_;rotate_left;(focus (obtain ⟨f0,f1,f2,f3,f4,f5⟩:=HF.out _ HC;go_simp<;>rfl;done));simp only [Act.put,zl]))
          by_cases hw:p.nn=n
          ·have hwb:((p.nn:Int) !=(n:Int))=false:=by simp [hw]
           have HW:=hid hw
           clear hw
           repeat (first|(refine dw_skip rfl rfl rfl ?_;simp only [Act.put,zl])|(refine' dv rfl rfl rfl (fun wv HC=>?_) ?_;rotate_left;(focus (go_simp<;>rfl;done));simp only [Act.put,zl]))
           refine Zj ?_
           rintro wx9 HX9
           rintro _hrm _HG
           rw [HKL.out] at HX9
           clear _hrm _HG
           have HS2:=hid (show YX (l.map Rw.row) n dels none (us.map Pr.upd)=YX (l.map Rw.row) n dels (some p.id) ((us.map Pr.upd).drop (k+1)) by rw [HP.out.2];exact ZbQ HU.out HGS.out HIN.out HPV.out (HG2.out.trans (by rw [HEQ.out];rfl)) (HPL.out.trans HW.out))
           have HPP:=hid (show VN ((us.map Pr.upd).map (·.1)) (k+1) (some p.id) from ⟨fun h=>by omega,fun q hq=>⟨p.id,(show k=q by omega) ▸ (by rw [List.getElem?_map,HU.out];rfl),rfl⟩⟩)
           have K9:=HX9.drop (List.Sublist.cons _ (List.Sublist.cons _ (List.sublist_cons_self _ _)))
           go_wp2_with fail
           go_roundw
           case rel=>exact ⟨k+1,some p.id,by omega,by go_num,hid ⟨HPP.out,HS2.out⟩,K9⟩
           case measure=>simp [intOf];omega
          ·have hwb:((p.nn:Int) !=(n:Int))=true:=by rw [bne_iff_ne];omega
           have HN:=hid (show Ya nm cs nx (l.map Rw.row) (ins.map Sl.vs) dels (us.map Pr.upd)=false from WI HDK.out (by rw [HP.out.2];exact WQ HU.out (.inr (.inr (.inr (.inr (by rw [show p.upd.2.2.length=p.nn from HPL.out];exact hw)))))))
           clear hw
           repeat (first|(refine dw_skip rfl rfl rfl ?_;simp only [Act.put,zl])|(refine' dv rfl rfl rfl (fun wv HC=>?_) ?_;rotate_left;(focus (go_simp<;>rfl;done));simp only [Act.put,zl]))
           refine Zj ?_
           rintro wx9 HX9
           rintro _hrm _HG
           rw [HKL.out] at HX9
           clear _hrm _HG
           go_wp2_with fail
           go_ret
           exact ⟨by rw [HN.out]<;>rfl,HX9.below⟩
         ·have hb0:(r !=0)=true:=by simpa using hr0
          have HN:=hid (show Ya nm cs nx (l.map Rw.row) (ins.map Sl.vs) dels (us.map Pr.upd)=false from WI HDK.out (by rw [HP.out.2];exact WQ HU.out (.inr (.inr (.inr (.inl (by rw [HG2.out];exact fun e=>hr0 (HR.out.2 (Option.some.inj e)))))))))
          clear hr0
          repeat (first|(refine dw_skip rfl rfl rfl ?_;simp only [Act.put,zl])|(refine' dv rfl rfl rfl (fun wv HC=>?_) ?_;rotate_left;(focus (go_simp<;>rfl;done));simp only [Act.put,zl]))
          refine Zj ?_
          rintro wx9 HX9
          rintro _hrm _HG
          rw [HKL.out] at HX9
          clear _hrm _HG
          go_wp2_with fail
          go_ret
          exact ⟨by rw [HN.out]<;>rfl,HX9.below⟩
       ·obtain ⟨q0,hq0⟩:∃ q0,k=q0+1:=⟨k - 1,by omega⟩
        obtain ⟨z,hz,hzl⟩:=HP.out.1.2 q0 hq0
        have HZL:=hid hzl
        have hd0:decide ((k:Int) > 0)=true:=by simp;omega
        have hd1:decide (0<k)=true:=by simp;omega
        have hd2:decide ((0:Int)<(k:Int))=true:=by simp;omega
        have hw1:IntKind.i64.wrap ((k:Int) - 1)=(q0:Int):=by rw [IntKind.wrap_i64];omega
        have hw2:(k:Int) - 1=(q0:Int):=by omega
        have hw3:IntKind.i64.wrap (q0:Int)=(q0:Int):=by rw [IntKind.wrap_i64];omega
        have p0:(0:Int)≤(q0:Int):=by omega
        have p1:(q0:Int)<(nu:Int):=by omega
        obtain ⟨pq,hpq⟩:=Zq HUL.out (show q0<nu by omega)
        have hzq:pq.id=z:=by
         rw [List.getElem?_map,List.getElem?_map,hpq] at hz
         injection hz
        have HF:Hid (∀ wv,Hold M none w wv KL→wv.cell? ⟨gp,0,none⟩=some (.int .i64 p.id)∧wv.cell? ⟨gp,1,none⟩=some (.slice p.oA p.on p.oc)∧wv.cell? ⟨gp,2,none⟩=some (.slice p.nA p.nn p.nc)∧gp<wv.heap.size∧wv.cell? ⟨gc,2,none⟩=some (.slice (some ⟨b,o,none⟩) nu cu)∧gc<wv.heap.size∧wv.cell? ⟨b,o+q0 * 3,none⟩=some (.int .i64 z)∧b<wv.heap.size):=hid fun wv HC=>by
         rw [hKL] at HC
         have y0:=HC.ZB 1 rfl
         have y1:=HC.ZB 4 rfl
         obtain ⟨b',o',e',hl',e0,_⟩:=(HC.ro 10 rfl).now.at_ hpq
         obtain ⟨rfl,rfl⟩:b=b' ∧o=o' :=by injection e' with e';injection e' with a1 a2;exact ⟨a1,a2⟩
         exact ⟨cell_of_row _ _ 0 _ _ _ y0,cell_of_row _ _ 1 _ _ _ y0,cell_of_row _ _ 2 _ _ _ y0,Blk.lt y0,cell_of_row _ _ 2 _ _ _ y1,Blk.lt y1,by rw [←hzq];exact e0,hl'⟩
        have HKL:=hid hKL
        have HKQ:=hid hq0
        clear hKL hz hzl hk0 hq0 hpq hzq
        by_cases hin:p.id∈dels
        ·have HN:=hid (show Ya nm cs nx (l.map Rw.row) (ins.map Sl.vs) dels (us.map Pr.upd)=false from WI HDK.out (by rw [HP.out.2];exact WQ HU.out (.inr (.inl (by show dels.contains p.id=true;simpa using hin)))))
         have HINN:=hid hin
         clear hin
         go_wp2_with fail
         refine wp_region_any (by kernel_rfl) ?_
         refine Zp 38 124 (KL) (spL []) (by kernel_rfl) (by kernel_rfl) (by kernel_rfl) rfl ?_ (K3.drew) ?_
         ·exact Zo _
         simp only [zd,Act.put,List.getElem_toArray,List.getElem_cons_zero,List.getElem_cons_succ,zl]
         repeat (first|(refine dw_skip rfl rfl rfl ?_;simp only [Act.put,zl])|(refine' dv rfl rfl rfl (fun wv HC=>?_) ?_;rotate_left;(focus (obtain ⟨f0,f1,f2,f3,f4,f5,f6,f7⟩:=HF.out _ HC;go_simp<;>rfl;done));simp only [Act.put,zl]))
         refine XT rfl rfl rfl ⟨.bool true,fun wv HC=>?_,?_⟩
         ·have hob:=(show MSet 4 Xi gm q (fun z=>z∈dels) wv by
           have HC2:=HC
           rw [HKL.out] at HC2
           exact HC2.ob_ 3 rfl).look Tryz.VC (x:=p.id) HPI.out
          obtain ⟨cb,hrun,hcb⟩:=hob
          obtain rfl:cb=true:=hcb.2 HINN.out
          simp [execOp,Act.eval,hrun,Result.andThen,Xi] at hrun ⊢
          all_goals (try simp [hrun,Result.andThen])
         simp only [Act.put,zl]
         repeat (first|(refine dw_skip rfl rfl rfl ?_;simp only [Act.put,zl])|(refine' dv rfl rfl rfl (fun wv HC=>?_) ?_;rotate_left;(focus (go_simp<;>rfl;done));simp only [Act.put,zl]))
         refine Zj ?_
         rintro wx9 HX9
         rintro _hrm _HG
         rw [HKL.out] at HX9
         clear _hrm _HG
         go_wp2_with fail
         go_ret
         exact ⟨by rw [HN.out]<;>rfl,HX9.below⟩
        ·have HIN:=hid (show dels.contains p.id=false by simpa using hin)
         have HINN:=hid hin
         clear hin
         by_cases hzi:z≥p.id
         ·have hzd:decide (z≥p.id)=true:=by simpa using hzi
          have HN:=hid (show Ya nm cs nx (l.map Rw.row) (ins.map Sl.vs) dels (us.map Pr.upd)=false from WI HDK.out (by rw [HP.out.2];exact WQ HU.out (.inr (.inr (.inl (by show (last.any fun q=>decide (q≥p.id))=true;rw [HZL.out];simpa using hzi))))))
          clear hzi
          go_wp2_with fail
          refine wp_region_any (by kernel_rfl) ?_
          refine Zp 38 124 (KL) (spL []) (by kernel_rfl) (by kernel_rfl) (by kernel_rfl) rfl ?_ (K3.drew) ?_
          ·exact Zo _
          simp only [zd,Act.put,List.getElem_toArray,List.getElem_cons_zero,List.getElem_cons_succ,zl]
          repeat (first|(refine dw_skip rfl rfl rfl ?_;simp only [Act.put,zl])|(refine' dv rfl rfl rfl (fun wv HC=>?_) ?_;rotate_left;(focus (obtain ⟨f0,f1,f2,f3,f4,f5,f6,f7⟩:=HF.out _ HC;go_simp<;>rfl;done));simp only [Act.put,zl]))
          refine XT rfl rfl rfl ⟨.bool false,fun wv HC=>?_,?_⟩
          ·have hob:=(show MSet 4 Xi gm q (fun z=>z∈dels) wv by
            have HC2:=HC
            rw [HKL.out] at HC2
            exact HC2.ob_ 3 rfl).look Tryz.VC (x:=p.id) HPI.out
           obtain ⟨cb,hrun,hcb⟩:=hob
           obtain rfl:cb=false:=by cases cb;rfl;exact absurd (hcb.1 rfl) HINN.out
           simp [execOp,Act.eval,hrun,Result.andThen,Xi] at hrun ⊢
           all_goals (try simp [hrun,Result.andThen])
          simp only [Act.put,zl]
          repeat (first|(refine dw_skip rfl rfl rfl ?_;simp only [Act.put,zl])|(refine' dv rfl rfl rfl (fun wv HC=>?_) ?_;rotate_left;(focus (obtain ⟨f0,f1,f2,f3,f4,f5,f6,f7⟩:=HF.out _ HC;go_simp<;>rfl;done));simp only [Act.put,zl]))
          refine Zj ?_
          rintro wx9 HX9
          rintro _hrm _HG
          rw [HKL.out] at HX9
          clear _hrm _HG
          go_wp2_with fail
          go_ret
          exact ⟨by rw [HN.out]<;>rfl,HX9.below⟩
         ·have hzd:decide (z≥p.id)=false:=by simpa using hzi
          have HPV:=hid (show (last.any fun q=>decide (q≥p.upd.1))=false by show (last.any fun q=>decide (q≥p.id))=false;rw [HZL.out];simpa using hzi)
          clear hzi
          go_wp2_with fail
          refine wp_region_any (by kernel_rfl) ?_
          refine Zp 38 124 (KL) (spL [(101,VR (vs=p.old))]) (by kernel_rfl) (by kernel_rfl) (by kernel_rfl) rfl ?_ (K3.drew) ?_
          ·exact Ze (fun _ _ _ _ h=>h) (Zo _)
          simp only [zd,Act.put,List.getElem_toArray,List.getElem_cons_zero,List.getElem_cons_succ,zl]
          repeat (first|(refine dw_skip rfl rfl rfl ?_;simp only [Act.put,zl])|(refine' dv rfl rfl rfl (fun wv HC=>?_) ?_;rotate_left;(focus (obtain ⟨f0,f1,f2,f3,f4,f5,f6,f7⟩:=HF.out _ HC;go_simp<;>rfl;done));simp only [Act.put,zl]))
          refine XT rfl rfl rfl ⟨.bool false,fun wv HC=>?_,?_⟩
          ·have hob:=(show MSet 4 Xi gm q (fun z=>z∈dels) wv by
            have HC2:=HC
            rw [HKL.out] at HC2
            exact HC2.ob_ 3 rfl).look Tryz.VC (x:=p.id) HPI.out
           obtain ⟨cb,hrun,hcb⟩:=hob
           obtain rfl:cb=false:=by cases cb;rfl;exact absurd (hcb.1 rfl) HINN.out
           simp [execOp,Act.eval,hrun,Result.andThen,Xi] at hrun ⊢
           all_goals (try simp [hrun,Result.andThen])
          simp only [Act.put,zl]
          repeat (first|(refine dw_skip rfl rfl rfl ?_;simp only [Act.put,zl])|(refine' dv rfl rfl rfl (fun wv HC=>?_) ?_;rotate_left;(focus (obtain ⟨f0,f1,f2,f3,f4,f5,f6,f7⟩:=HF.out _ HC;go_simp<;>rfl;done));simp only [Act.put,zl]))
          refine Zm 101 (VR (vs=p.old)) (f:=122) (args:=#[.slice A1 n1 c1,.slice p.oA p.on p.oc]) rfl rfl rfl rfl (fun wv=>?_) (fun wv HC hrm hD=>?_) ?_
          ·go_simp<;>rfl
          ·refine (Gy (Mut M KL) wv HC.Zb A1 n1 c1 vs p.oA p.on p.oc p.old (HRX.out _ HC).1 (HRX.out _ HC).2 (by omega) (by omega)).mono ?_
           rintro e w5 ⟨⟨r,rfl,hr⟩,b5⟩
           exact ⟨_,rfl,⟨r,rfl,hr⟩,HC.call b5,RM.below b5⟩
          rintro u wx HCx ⟨r,rfl,hr⟩
          have HR:=hid hr
          clear HCx hr
          simp only [Act.put,zl]
          by_cases hr0:r=0
          ·have hb0:(r !=0)=false:=by simp [hr0]
           have HEQ:=hid (HR.out.1 hr0)
           clear hr0
           repeat (first|(refine dw_skip rfl rfl rfl ?_;simp only [Act.put,zl])|(refine' dv rfl rfl rfl (fun wv HC=>?_) ?_;rotate_left;(focus (obtain ⟨f0,f1,f2,f3,f4,f5,f6,f7⟩:=HF.out _ HC;go_simp<;>rfl;done));simp only [Act.put,zl]))
           by_cases hw:p.nn=n
           ·have hwb:((p.nn:Int) !=(n:Int))=false:=by simp [hw]
            have HW:=hid hw
            clear hw
            repeat (first|(refine dw_skip rfl rfl rfl ?_;simp only [Act.put,zl])|(refine' dv rfl rfl rfl (fun wv HC=>?_) ?_;rotate_left;(focus (go_simp<;>rfl;done));simp only [Act.put,zl]))
            refine Zj ?_
            rintro wx9 HX9
            rintro _hrm _HG
            rw [HKL.out] at HX9
            clear _hrm _HG
            have HS2:=hid (show YX (l.map Rw.row) n dels none (us.map Pr.upd)=YX (l.map Rw.row) n dels (some p.id) ((us.map Pr.upd).drop (k+1)) by rw [HP.out.2];exact ZbQ HU.out HGS.out HIN.out HPV.out (HG2.out.trans (by rw [HEQ.out];rfl)) (HPL.out.trans HW.out))
            have HPP:=hid (show VN ((us.map Pr.upd).map (·.1)) (k+1) (some p.id) from ⟨fun h=>by omega,fun q hq=>⟨p.id,(show k=q by omega) ▸ (by rw [List.getElem?_map,HU.out];rfl),rfl⟩⟩)
            have K9:=HX9.drop (List.Sublist.cons _ (List.Sublist.cons _ (List.sublist_cons_self _ _)))
            go_wp2_with fail
            go_roundw
            case rel=>exact ⟨k+1,some p.id,by omega,by go_num,hid ⟨HPP.out,HS2.out⟩,K9⟩
            case measure=>simp [intOf];omega
           ·have hwb:((p.nn:Int) !=(n:Int))=true:=by rw [bne_iff_ne];omega
            have HN:=hid (show Ya nm cs nx (l.map Rw.row) (ins.map Sl.vs) dels (us.map Pr.upd)=false from WI HDK.out (by rw [HP.out.2];exact WQ HU.out (.inr (.inr (.inr (.inr (by rw [show p.upd.2.2.length=p.nn from HPL.out];exact hw)))))))
            clear hw
            repeat (first|(refine dw_skip rfl rfl rfl ?_;simp only [Act.put,zl])|(refine' dv rfl rfl rfl (fun wv HC=>?_) ?_;rotate_left;(focus (go_simp<;>rfl;done));simp only [Act.put,zl]))
            refine Zj ?_
            rintro wx9 HX9
            rintro _hrm _HG
            rw [HKL.out] at HX9
            clear _hrm _HG
            go_wp2_with fail
            go_ret
            exact ⟨by rw [HN.out]<;>rfl,HX9.below⟩
          ·have hb0:(r !=0)=true:=by simpa using hr0
           have HN:=hid (show Ya nm cs nx (l.map Rw.row) (ins.map Sl.vs) dels (us.map Pr.upd)=false from WI HDK.out (by rw [HP.out.2];exact WQ HU.out (.inr (.inr (.inr (.inl (by rw [HG2.out];exact fun e=>hr0 (HR.out.2 (Option.some.inj e)))))))))
           clear hr0
           repeat (first|(refine dw_skip rfl rfl rfl ?_;simp only [Act.put,zl])|(refine' dv rfl rfl rfl (fun wv HC=>?_) ?_;rotate_left;(focus (go_simp<;>rfl;done));simp only [Act.put,zl]))
           refine Zj ?_
           rintro wx9 HX9
           rintro _hrm _HG
           rw [HKL.out] at HX9
           clear _hrm _HG
           go_wp2_with fail
           go_ret
           exact ⟨by rw [HN.out]<;>rfl,HX9.below⟩
     ·obtain rfl:nu=k:=by omega
      have hdd:decide ((nu:Int)<(nu:Int))=false:=by simp
      clear hlt
      have HUV:=hid (show YX (l.map Rw.row) n dels none (us.map Pr.upd)=true by rw [HP.out.2];exact Zdw (by rw [List.length_map,HUL.out];exact Nat.le_refl _))
      have F1:=H.facts
      simp only [zg] at F1
      go_wp2_with fail
      clear F1 hdd HP
      go_loopw [115] (fun iv wr=>∃ k:Nat,k≤ni∧iv=.int .i64 k∧Hid (((ins.map Sl.vs).take k).any (fun s=>decide (s.length≠n))=false)∧Hold M none w wr [.ob gm (MSet 4 Xi gm q (fun z=>z∈dels)),.cst gc 73 #[.slice I ni ci,.slice D nd cd,.slice U nu cu],.cst gt 67 #[.string nm,.slice A n c,.int .i64 nx,.slice B m d],.ro (SlR 4 A n (Zd cs)),.ro (RwsIn B m l),.ro (SlsIn I ni ins),.ro (IsIn D nd dels),.ro (PrsIn U nu us)]) (fun iv _=>ni - (intOf iv).toNat)
      case atStart=>exact ⟨0,by omega,rfl,hid rfl,H⟩
      case round=>
       clear H
       obtain ⟨k,hk,rfl,HA,H⟩:=hrel
       by_cases hlt:k<ni
       ·have hdd:decide ((k:Int)<(ni:Int))=true:=by simp;omega
        have k0:(0:Int)≤(k:Int):=by omega
        have k1:(k:Int)<(ni:Int):=by omega
        obtain ⟨x,hx⟩:=Zq HIL.out hlt
        obtain ⟨b,o,rfl,hb,c0,hv⟩:=(H.ro 5 rfl).now.at_ hx
        have HX:=hid (show (ins.map Sl.vs)[k]? =some x.vs by rw [List.getElem?_map,hx];rfl)
        have HXL:=hid hv.len
        clear hx hv
        by_cases hw:x.n=n
        ·have hwb:((x.n:Int) !=(n:Int))=false:=by simp [hw]
         have HN:=hid (show ((ins.map Sl.vs).take (k+1)).any (fun s=>decide (s.length≠n))=false by rw [List.take_add_one,HX.out,List.any_append,HA.out];simp [HXL.out,hw])
         clear hw
         go_wp2_with fail
         go_roundw
         case rel=>exact ⟨k+1,by omega,by go_num,HN,H⟩
         case measure=>simp [intOf];omega
        ·have hwb:((x.n:Int) !=(n:Int))=true:=by rw [bne_iff_ne];omega
         have HN:=hid (show Ya nm cs nx (l.map Rw.row) (ins.map Sl.vs) dels (us.map Pr.upd)=false from Zdu HDK.out (List.any_eq_true.2 ⟨x.vs,List.mem_of_getElem? HX.out,by rw [HXL.out];simpa using hw⟩))
         clear hw
         go_wp2_with fail
         go_ret
         exact ⟨by rw [HN.out]<;>rfl,H.below⟩
       ·obtain rfl:ni=k:=by omega
        have hdd:decide ((ni:Int)<(ni:Int))=false:=by simp
        have HN:=hid (show Ya nm cs nx (l.map Rw.row) (ins.map Sl.vs) dels (us.map Pr.upd)=true from Zgv HDK.out HTB.out HRK.out HUV.out (by have h:=HA.out;rwa [List.take_of_length_le (by rw [List.length_map,HIL.out];exact Nat.le_refl _)] at h))
        go_wp2_with fail
        go_ret
        exact ⟨by rw [HN.out]<;>rfl,H.below⟩
end Go.Proofs.YtnbbllkbefagmaaGreatDoor
namespace Go.Proofs.YtnbbllkbefagmaaGreatDoor
open Go.RowKit
set_option linter.unusedVariables false
set_option linter.unusedSimpArgs false
def Zdl (w:World) (M:Nat→Prop) (nm:ByteArray) (cs:List Col) (nx:Int) (e:Ending) (w' :World):Prop:=
 ∃ (A:Option Addr) (n c:Nat) (B:Option Addr) (m d:Nat),e=.returned (.agg #[.string nm,.slice A n c,.int .i64 nx,.slice B m d])∧n≤c∧c≤9223372036854775807∧Ro w' M (ColsIn A n cs)∧Below w.heap.size w w'
set_option maxHeartbeats 4000000 in
set_option maxRecDepth 100000 in
theorem ZhP (M:Nat→Prop) (w:World) (hM:∀ b,M b→b<w.heap.size) (nm:ByteArray) (A:Option Addr) (n c:Nat) (cs:List Col) (nx:Int) (B:Option Addr) (m d:Nat) (l:List Rw) (hC:Ro w M (ColsIn A n cs)) (hE:Ro w M (RwsIn B m l)) (hn:n≤1000000) (hm:m≤1000000) (hrn:∀ r∈l,r.n≤4398046511104):
  Calls Tryz.prog 63 #[.agg #[.string nm,.slice A n c,.int .i64 nx,.slice B m d]] w fun e w' =>Zdl w M nm cs nx e w' :=by
 have HRL:=hid hE.now.len
 have HRN:=hid hrn
 clear hrn
 have K0:=((((Hold.start M w hM).add (hE.less (by simp [Mut]))).add (hC.less (by simp [Mut,Hp.foot]))).alloc #[.string nm,.slice A n c,.int .i64 nx,.slice B m d] 67).alloc #[.string ⟨#[]⟩,.slice none 0 0,.int .i64 0,.slice none 0 0] 67
 rw [World.size_alloc] at K0
 clear hC hE
 have F0:=K0.facts
 simp only [zg] at F0
 have KN:=K0.nil 158 4
 have k5:=hid ((K0.ro 2 rfl).now)
 go_enter Tryz.func63,Tryz.ntmps63
 go_wp2_with (at_builtin;go_must (refine ZW KN 0 rfl Tryz.WG k5.out rfl (.const (.slice none 0 0)) (.tmp 8) rfl rfl rfl (WX _) (by omega) (by omega) ?_);intro C9 cap9 w9 hc9 hm9 KB;(try simp only [Nat.zero_add] at hc9 ⊢);simp only [Nat.zero_add,List.nil_append,List.set_cons_zero,List.set_cons_succ] at KB;(have FB:=KB.facts);simp only [zg] at FB)
 have KC:=(KB.Zu 0 rfl).store 2 rfl 1 (.slice C9 n cap9)
 simp only [zl] at KC
 have KD:=(KC.add (V3 _ _)).nil 124 2
 have FD:=KD.facts
 simp only [zg] at FD
 clear K0 KN F0 k5 KB KC
 go_wp2_with fail
 generalize World.setCell _ _ _=w10 at KD ⊢
 clear FB FD
 obtain ⟨g1,hg1⟩:∃ g1,g1=w.heap.size:=⟨_,rfl⟩
 obtain ⟨g2,hg2⟩:∃ g2,g2=g1+1:=⟨_,rfl⟩
 rw [←hg1,←hg2] at KD ⊢
 have HG1:=hid hg1
 clear hg1 hg2
 go_loopw [3,15] (fun ov iv wr=>∃ (j cap:Nat) (O:Option Addr) (outs:List Rw),j≤m∧iv=.int .i64 j∧ov=.slice O j cap∧Hold M none w wr [.own 124 2 (.slice O j cap) j (ZJ outs),.ro (YT outs),.ro (ColsIn C9 n cs),.blk g2 67 #[.string ⟨#[]⟩,.slice none 0 0,.int .i64 0,.slice none 0 0],.blk g1 67 #[.string nm,.slice C9 n cap9,.int .i64 nx,.slice B m d],.ro (ColsIn A n cs),.ro (RwsIn B m l)]) (fun _ iv _=>m - (intOf iv).toNat)
 case atStart=>exact ⟨0,0,none,[],by omega,rfl,rfl,KD⟩
 case round=>
  clear KD
  obtain ⟨j,cap,O,outs,hj,rfl,rfl,H⟩:=hrel
  by_cases hlt:j<m
  ·have hd:decide ((j:Int)<(m:Int))=true:=by simp;omega
   have j0:(0:Int)≤(j:Int):=by omega
   have j1:(j:Int)<(m:Int):=by omega
   obtain ⟨x,hx⟩:=Zq HRL.out hlt
   obtain ⟨b,o,rfl,hb,c0,c1,hxv⟩:=(H.ro 6 rfl).now.at_ hx
   have hxn:=HRN.out x (List.mem_of_getElem? hx)
   have hxr:Ro wr _ (VlsIn x.A x.n x.vs):=(H.ro 6 rfl).imp fun w2 h2=>h2.2 x (List.mem_of_getElem? hx)
   clear hx hxv
   have K1:=(H.add hxr).Za #[.int .i64 x.id,.slice x.A x.n x.c] 124
   clear H hxr
   obtain ⟨gr,hgr⟩:∃ gr,gr=wr.heap.size:=⟨_,rfl⟩
   rw [←hgr] at K1
   have F1:=K1.facts
   simp only [zg] at F1
   go_wp2_with fail
   rw [←hgr]
   have HGR:=hid hgr
   clear hgr c0 c1 F1
   obtain ⟨KL,hKL,KN⟩:=K1.name
   have HF:Hid (∀ wv,Hold M none w wv KL→wv.cell? ⟨gr,0,none⟩=some (.int .i64 x.id)∧wv.cell? ⟨gr,1,none⟩=some (.slice x.A x.n x.c)∧gr<wv.heap.size):=hid fun wv HC=>by
    rw [hKL] at HC
    have y0:=HC.ZB 0 rfl
    exact ⟨cell_of_row _ _ 0 _ _ _ y0,cell_of_row _ _ 1 _ _ _ y0,Blk.lt y0⟩
   have HRX:Hid (∀ wv,Hold M none w wv KL→Ro wv (Mut M KL) (VlsIn x.A x.n x.vs)):=hid fun wv HC=>by
    rw [hKL] at HC ⊢
    exact HC.ro 1 rfl
   have HKL:=hid hKL
   clear hKL K1
   go_wp2_with fail
   refine wp_region_any (by kernel_rfl) ?_
   refine Zp 8 32 (KL) (spL [(24,Z0 (Mut M KL) x.vs),(25,Yx (Mut M KL) x.id x.vs),(26,Yw (Mut M KL) x.id x.vs)]) (by kernel_rfl) (by kernel_rfl) (by kernel_rfl) rfl ?_ (KN.drew) ?_
   ·exact Ze X6 (Ze Vz (Ze Vf (Zo _)))
   simp only [zd,Act.put,List.getElem_toArray,List.getElem_cons_zero,List.getElem_cons_succ,zl]
   iterate 2
    refine' dv rfl rfl rfl (fun wv HC=>?_) ?_;rotate_left
    · go_simp<;>rfl
    simp only [Act.put,zl]
   refine' dv rfl rfl rfl (fun wv HC=>?_) ?_;rotate_left
   ·obtain ⟨f0,f1,f2⟩:=HF.out _ HC;go_simp<;>rfl
   simp only [Act.put,zl]
   refine' dv rfl rfl rfl (fun wv HC=>?_) ?_;rotate_left
   · go_simp<;>rfl
   simp only [Act.put,zl]
   refine' dv rfl rfl rfl (fun wv HC=>?_) ?_;rotate_left
   ·obtain ⟨f0,f1,f2⟩:=HF.out _ HC;go_simp<;>rfl
   simp only [Act.put,zl]
   refine Zm 24 (Z0 (Mut M KL) x.vs) (f:=55) (args:=#[.slice x.A x.n x.c]) rfl rfl rfl rfl (fun wv=>?_) (fun wv HC hrm hD=>?_) ?_
   ·go_simp<;>rfl
   ·refine (Xf _ wv HC.Zb x.A x.n x.c x.vs (HRX.out _ HC) hxn).mono ?_
    rintro e w5 ⟨A5,n5,c5,rfl,h50,h51,h52,h53,b5⟩
    exact ⟨_,rfl,⟨A5,n5,c5,rfl,h50,h51,h52,h53⟩,HC.call b5,RM.below b5⟩
   rintro x_ wx HCx ⟨A5,n5,c5,rfl,h50,h51,h52,h53⟩
   simp only [Act.put,zl]
   have H50:=hid h50
   clear HCx h53 h50
   refine WA 25 (Yx (Mut M KL) x.id x.vs) rfl rfl rfl rfl (.agg #[.int .i64 x.id,.slice A5 n5 c5]) (fun wv HC=>?_) (fun wv HC hD=>?_) ?_
   ·go_simp<;>rfl
   ·have hsl:Z0 (Mut M KL) x.vs (.slice A5 n5 c5) wv:=ZM hD 5 rfl (by kernel_rfl) rfl rfl
    obtain ⟨A6,n6,c6,e6,h1,h2,h3,h4⟩:=hsl
    exact ⟨A6,n6,c6,by rw [e6],h1,h2,h3,h4⟩
   simp only [Act.put,zl]
   refine Ye #[.int .i64 x.id,.slice A5 n5 c5] 124 26 (Yw (Mut M KL) x.id x.vs) (fun g=>.slice (some ⟨g,0,none⟩) 1 1) rfl rfl rfl rfl (fun wv=>?_) (fun wv HC _hrm hD hro=>?_) ?_
   ·go_simp<;>rfl
   ·have hsl:Yx (Mut M KL) x.id x.vs (.agg #[.int .i64 x.id,.slice A5 n5 c5]) wv:=ZM hD 6 rfl (by kernel_rfl) rfl rfl
    obtain ⟨A6,n6,c6,e6,h1,h2,h3,h4⟩:=hsl
    obtain ⟨rfl,rfl,rfl⟩:A5=A6∧n5=n6∧c5=c6:=by
     injection e6 with e6
     simp at e6
     exact e6
    exact ⟨_,A5,n5,c5,rfl,h1,h2,h3,h4.step (by simp) (fun b hb _=>Below.heap_alloc wv _ b hb) (fun _ _ h=>h),ZL (hro _ HC.Zb) rfl⟩
   rintro g2 wg HCg hsl
   simp only [Act.put,zl]
   clear hsl HCg
   refine Zj ?_
   rintro wx2 HX
   rintro _hrm HGW
   have hb2:Yw (Mut M KL) x.id x.vs (.slice (some ⟨g2,0,none⟩) 1 1) wx2:=(Zl (d:=26) rfl).1 (HGW 7 _ rfl (by omega))
   clear HGW _hrm
   obtain ⟨g3,A6,n6,c6,e6,k0_,k1_,k2_,k3_,k4_⟩:=hb2
   obtain rfl:g2=g3:=by injection e6 with e6;injection e6 with e6;injection e6
   clear e6
   rw [HKL.out] at HX k3_
   have k5:=hid k4_.now
   have HK0:=hid k0_
   clear k4_ k0_ HF HRX KN
   have HRS:=hid (show ZJ outs++[.int .i64 x.id,.slice A6 n6 c6]=ZJ (outs++[⟨x.id,A6,n6,c6,x.vs⟩]) from WH _ _ _ _ _ _)
   have KA:=HX.add k3_
   clear HX k3_
   have FKA:=KA.facts
   simp only [zg] at FKA
   go_wp2_with (at_builtin;go_must (refine ZW KA 3 rfl Tryz.WE k5.out rfl (.tmp 19) (.tmp 26) rfl rfl rfl (by intro z hz;simp at hz;rcases hz with rfl|rfl<;>rfl) (by omega) (by omega) ?_);intro C' cap' w6 hc6 hm6 KB;rw [HRS.out] at KB;simp only [zl] at KB;(have F3:=KB.facts);simp only [zg] at F3)
   have KE:=(KB.Yy 4 rfl (Wl (r:=⟨x.id,A6,n6,c6,x.vs⟩) (KB.ro 4 rfl) (KB.ro 0 rfl))).drop (List.Sublist.cons _ (List.Sublist.cons _ (List.sublist_cons_self _ _)))
   go_roundw
   case rel=>exact ⟨j+1,cap',C',_,by omega,by go_num,by first|rfl|trivial,KE⟩
   case measure=>simp [intOf];omega
  ·obtain rfl:m=j:=by omega
   have hd:decide ((m:Int)<(m:Int))=false:=by simp
   have F:=H.facts
   simp only [zg] at F
   have N:=H.nes
   simp only [World.size_alloc,XG,neF,List.set_cons_zero,List.set_cons_succ,and_true,true_and] at N
   have KS:=H.Zu 0 rfl
   simp only [List.set_cons_zero] at KS
   have KN:=((((KS.store 4 rfl 3 (.slice O m cap)).store 3 rfl 0 (.string nm)).store 3 rfl 1 (.slice C9 n cap9)).store 3 rfl 2 (.int .i64 nx)).store 3 rfl 3 (.slice O m cap)
   have r0:=KN.ZP 2 rfl
   go_wp2_with fail
   exact bodyPost_ret (v:=.agg #[.string nm,.slice C9 n cap9,.int .i64 nx,.slice O m cap]) (by simp [results,Tryz.results63,go_sem,F,N]) rfl ⟨C9,n,cap9,O,m,cap,rfl,hc9,hm9,r0,KN.below⟩
set_option maxHeartbeats 1000000 in
set_option maxRecDepth 100000 in
theorem Zdr (w:World) (A:Option Addr) (n c:Nat) (xs:List Int) (x:Int) (hD:IsIn A n xs w) (hn:n≤9223372036854775807):
  Calls Tryz.prog 64 #[.slice A n c,.int .i64 x] w fun e w' =>e=.returned (.bool (xs.contains x))∧w=w' :=by
 have HL:=hid hD.len
 go_enter Tryz.func64,Tryz.ntmps64
 go_wp2_with fail
 go_loopw [9] (fun iv wr=>∃ (k:Nat),k≤n∧iv=.int .i64 k∧wr=w∧Hid ((xs.take k).contains x=false)) (fun iv _=>n - (intOf iv).toNat)
 case atStart=>exact ⟨0,by omega,rfl,rfl,hid (by simp)⟩
 case round=>
  obtain ⟨k,hk,rfl,rfl,HC⟩:=hrel
  by_cases hlt:k<n
  ·have hd:decide ((k:Int)<(n:Int))=true:=by simp;omega
   have i0:(0:Int)≤(k:Int):=by omega
   have i1:(k:Int)<(n:Int):=by omega
   obtain ⟨b,o,rfl,_,hcc⟩:=hD.cells (by omega)
   have HX:=hid (show xs[k]? =some (xs.getD k 0) by simp [List.getD,show k<xs.length by rw [HL.out];exact hlt])
   have ck:wr.cell? ⟨b,o+k,none⟩=some (.int .i64 (xs.getD k 0)):=hcc k (by rw [HL.out];exact hlt)
   clear hcc
   generalize xs.getD k 0=y at *
   by_cases hxy:x=y
   ·have e1:(y==x)=true:=by simp [hxy]
    have HN:=hid (Zhy HX.out hxy)
    clear hxy
    go_wp2_with fail
    go_ret
    exact ⟨by rw [HN.out]<;>rfl,rfl⟩
   ·have e1:(y==x)=false:=by rw [beq_eq_false_iff_ne];exact fun e=>hxy e.symm
    have HN:=hid (ZhN HX.out hxy HC.out)
    clear hxy
    go_wp2_with fail
    go_roundw
    case rel=>exact ⟨k+1,by omega,by go_num,by first|rfl|trivial,HN⟩
    case measure=>simp [intOf];omega
  ·obtain rfl:n=k:=by omega
   have hd:decide ((n:Int)<(n:Int))=false:=by simp
   have HN:=hid (show xs.contains x=false by have h:=HC.out;rwa [List.take_of_length_le (by rw [HL.out];exact Nat.le_refl _)] at h)
   go_wp2_with fail
   go_ret
   exact ⟨by rw [HN.out]<;>rfl,rfl⟩
def YM (us:List Upd) (id:Int):Option (List Vl):=(us.find? fun u=>u.1==id).map (·.2.2)
theorem zS {us:List Upd} {k:Nat} {u:Upd} {id:Int} (hu:us[k]? =some u) (h:u.1=id):YM (us.drop k) id=some u.2.2:=by
 unfold YM;rw [Yv hu,List.find?_cons,show (u.1==id)=true by simpa using h];rfl
theorem Za7 {us:List Upd} {k:Nat} {u:Upd} {id:Int} (hu:us[k]? =some u) (h:u.1≠id):YM (us.drop k) id=YM (us.drop (k+1)) id:=by
 unfold YM;rw [Yv hu,List.find?_cons,show (u.1==id)=false by simpa using h]
def ZgL (w:World) (M:Nat→Prop) (o:Option (List Vl)) (e:Ending) (w' :World):Prop:=
 ∃ (A:Option Addr) (n c:Nat),e=.returned (.tuple #[.slice A n c,.bool o.isSome])∧n=(o.getD []).length∧n≤c∧c≤9223372036854775807∧Ro w' M (VlsIn A n (o.getD []))∧Below w.heap.size w w'
set_option maxHeartbeats 4000000 in
set_option maxRecDepth 100000 in
theorem Zh2 (M:Nat→Prop) (w:World) (hM:∀ b,M b→b<w.heap.size) (U:Option Addr) (nu cu:Nat) (ps:List Pr) (id:Int) (hE:Ro w M (PrsIn U nu ps)) (hm:nu≤4611686018427387904) (hok:∀ p∈ps,p.ok):
  Calls Tryz.prog 65 #[.slice U nu cu,.int .i64 id] w fun e w' =>ZgL w M (YM (ps.map Pr.upd) id) e w' :=by
 have HL:=hid hE.now.len
 have K0:=(Hold.start M w hM).add (hE.less (by simp [Mut]))
 clear hE
 go_enter Tryz.func65,Tryz.ntmps65
 go_wp2_with fail
 go_loopw [10] (fun iv wr=>∃ (j:Nat),j≤nu∧iv=.int .i64 j∧Hid (YM (ps.map Pr.upd) id=YM ((ps.map Pr.upd).drop j) id)∧Hold M none w wr [.ro (PrsIn U nu ps)]) (fun iv _=>nu - (intOf iv).toNat)
 case atStart=>exact ⟨0,by omega,rfl,hid rfl,K0⟩
 case round=>
  clear K0
  obtain ⟨j,hj,rfl,HS,H⟩:=hrel
  by_cases hlt:j<nu
  ·have hd:decide ((j:Int)<(nu:Int))=true:=by simp;omega
   have j0:(0:Int)≤(j:Int):=by omega
   have j1:(j:Int)<(nu:Int):=by omega
   obtain ⟨p,hp⟩:=Zq HL.out hlt
   obtain ⟨b,o,rfl,hb,c0,c1,c2,hv1,hv2⟩:=(H.ro 0 rfl).now.at_ hp
   have HU:=hid (show (ps.map Pr.upd)[j]? =some p.upd by rw [List.getElem?_map,hp];rfl)
   have HOK:=hid (hok p (List.mem_of_getElem? hp))
   have HPL:=hid hv2.len
   have hpr:Ro wr _ (VlsIn p.nA p.nn p.new):=(H.ro 0 rfl).imp fun w2 h2=>(h2.2 p (List.mem_of_getElem? hp)).2
   obtain ⟨pid,oA,on,oc,old,nA,nn,nc,new⟩:=p
   dsimp only at *
   clear hp hv1 hv2
   have K2:=(H.add hpr).Za #[.int .i64 pid,.slice oA on oc,.slice nA nn nc] 115
   have FA:=K2.facts
   simp only [zg] at FA
   clear H hpr
   by_cases hi:pid=id
   ·have hb2:(pid==id)=true:=by simp [hi]
    have HN:=hid (show YM (ps.map Pr.upd) id=some new from HS.out.trans (zS HU.out hi))
    clear hi
    go_wp2_with fail
    go_ret2
    rw [HN.out]
    exact ⟨nA,nn,nc,rfl,HPL.out.symm,HOK.out.nc,HOK.out.nc2,K2.ZP 1 rfl,K2.below⟩
   ·have hb2:(pid==id)=false:=by simpa using hi
    have HN:=hid (show YM (ps.map Pr.upd) id=YM ((ps.map Pr.upd).drop (j+1)) id from HS.out.trans (Za7 HU.out hi))
    clear hi
    go_wp2_with fail
    go_roundw
    case rel=>exact ⟨j+1,by omega,by go_num,HN,K2.drop (List.Sublist.cons _ (List.sublist_cons_self _ _))⟩
    case measure=>simp [intOf];omega
  ·obtain rfl:nu=j:=by omega
   have hd:decide ((nu:Int)<(nu:Int))=false:=by simp
   have HN:=hid (show YM (ps.map Pr.upd) id=none by rw [HS.out,List.drop_of_length_le (by rw [List.length_map,HL.out];exact Nat.le_refl _)];rfl)
   go_wp2_with fail
   go_ret2
   rw [HN.out]
   exact ⟨none,0,0,rfl,rfl,by omega,by omega,VJ,H.below⟩
def Xx (dels:List Int) (us:List Upd) (rs:List Row):List Row:=(rs.filter fun r=>!dels.contains r.1).map fun r=>(r.1,(YM us r.1).getD r.2)
theorem zV:∀ {us:List Upd},(us.map (·.1)).Pairwise (·<·)→∀ (id:Int) (v:List Vl),V5 us id v=(YM us id).getD v
 | [],_,_,_=>rfl
 | u::us,h,id,v=>by
  obtain ⟨h1,h2⟩:=List.pairwise_cons.1 h
  rw [UX]
  by_cases hu:u.1=id
  ·rw [if_pos hu,QA fun x hx=>by
    have h3:u.1<x.1:=h1 x.1 (List.mem_map_of_mem (f:=fun x:Upd=>x.1) hx)
    omega]
   have:=zS (us:=u::us) (k:=0) rfl hu
   rw [List.drop_zero] at this
   rw [this];rfl
  ·rw [if_neg hu,zV h2]
   have:=Za7 (us:=u::us) (k:=0) rfl hu
   rw [List.drop_zero] at this
   rw [this];rfl
theorem Zd1 {dels:List Int} {us:List Upd} {rs:List Row} {j:Nat} {r:Row} (hr:rs[j]? =some r) (h:dels.contains r.1=true):Xx dels us (rs.take (j+1))=Xx dels us (rs.take j):=by
 unfold Xx
 rw [List.take_add_one,hr,Option.toList_some,List.filter_append,List.map_append]
 simp only [List.filter_cons,h,Bool.not_true,Bool.false_eq_true,if_false,List.filter_nil,List.map_nil,List.append_nil]
theorem ZbX {dels:List Int} {us:List Upd} {rs:List Row} {j:Nat} {r:Row} (hr:rs[j]? =some r) (h:dels.contains r.1=false):Xx dels us (rs.take (j+1))=Xx dels us (rs.take j)++[(r.1,(YM us r.1).getD r.2)]:=by
 unfold Xx
 rw [List.take_add_one,hr,Option.toList_some,List.filter_append,List.map_append]
 simp only [List.filter_cons,h,Bool.not_false,if_true,List.filter_nil,List.map_cons,List.map_nil]
theorem Zhl {nm:ByteArray} {cs:List Col} {nx:Int} {rs:List Row} {ins:List (List Vl)} {dels:List Int} {us:List Upd} (h:Ya nm cs nx rs ins dels us=true):Xx dels us rs=goR dels rs us:=by
 obtain ⟨h1,h2,h3,h4⟩:=QE h
 obtain ⟨_,_,_,_,h5,_⟩:=XM h1
 rw [Vj rs us (VS h5).1 h3 h4]
 unfold Xx keepR
 exact List.map_congr_left fun x hx=>by rw [zV h3]
def Uk (M:Nat→Prop) (nm:ByteArray) (cs:List Col) (nx:Int) (u:Value) (w:World):Prop:=∃ (A:Option Addr) (n c:Nat) (B:Option Addr) (m d:Nat),u=.agg #[.string nm,.slice A n c,.int .i64 nx,.slice B m d]∧n≤c∧c≤9223372036854775807∧Ro w M (ColsIn A n cs)
theorem ZcN {M:Nat→Prop} {nm:ByteArray} {cs:List Col} {nx:Int} (u:Value) (w w' :World) (hr:RM M w w') (h:Uk M nm cs nx u w):Uk M nm cs nx u w' :=by
 obtain ⟨A,n,c,B,m,d,e,h1,h2,h3⟩:=h
 exact ⟨A,n,c,B,m,d,e,h1,h2,hr.ro h3⟩
theorem Ro.Zcg {w:World} {M:Nat→Prop} {A:Option Addr} {n:Nat} {cs:List Col} (h:Ro w M (ColsIn A n cs)) {g:Nat} {t:TypeId} (hg:w.heap[g]? =some (.cells #[.string ⟨#[]⟩,.slice none 0 0,.int .i64 0,.slice none 0 0] t (0,0))):Ro w (fun b=>M b∨b=g) (ColsIn A n cs):=by
 have h0:Rd w w.heap.size 4 A n (Zd cs):=h.now
 rcases Nat.eq_zero_or_pos n with hn|hn
 ·exact fun w2 _ _=>⟨h0.1,fun k=>absurd k (by omega)⟩
 ·obtain ⟨b,o,hA,hb,hc⟩:=h0.2 hn
  obtain ⟨c,hc0⟩:=YA (l:=cs) (k:=0) (RdC.len h0) hn
  have hbg:b≠g:=by
   rintro rfl
   obtain ⟨b',o',e,_,c0,c1,_⟩:=RdC.at_ (show RdC w w.heap.size A n cs from h0) hc0
   obtain ⟨rfl,rfl⟩:b=b' ∧o=o' :=by rw [hA] at e;injection e with e;injection e with a1 a2;exact ⟨a1,a2⟩
   rw [cell_of_row w b _ _ t (0,0) hg] at c0 c1
   rcases o with _|_|_|_|o<;>simp at c0 c1
  intro w2 h1 h2
  have hgl:g<w.heap.size:=(List.getElem?_eq_some_iff.1 (by simpa using hg:w.heap.toList[g]? =_)).1
  have h3:=h { w2 with heap:=w2.heap.setIfInBounds g (.cells #[.string ⟨#[]⟩,.slice none 0 0,.int .i64 0,.slice none 0 0] t (0,0)) } (by simpa using h1) (fun x hx hm=>by
   show (w2.heap.setIfInBounds g _)[x]? =_
   by_cases hxg:x=g
   ·subst hxg
    rw [Array.getElem?_setIfInBounds_self_of_lt (by omega),hg]
   ·rw [Array.getElem?_setIfInBounds_ne (by omega)]
    exact h2 x hx (fun k=>k.elim hm hxg))
  obtain ⟨hl,h4⟩:=(show Rd _ _ 4 A n (Zd cs) from h3)
  obtain ⟨b',o',e,_,hc'⟩:=h4 hn
  obtain ⟨rfl,rfl⟩:b=b' ∧o=o' :=by rw [hA] at e;injection e with e;injection e with a1 a2;exact ⟨a1,a2⟩
  refine ⟨hl,fun _=>⟨b,o,hA,by omega,fun j u hu=>?_⟩⟩
  rw [←hc' j u hu]
  refine World.cell?_of_block ?_
  show _=(w2.heap.setIfInBounds g _)[b]?
  rw [Array.getElem?_setIfInBounds_ne (by omega)]
theorem Zd3 {nm:ByteArray} {cs:List Col} {nx:Int} {rs:List Row} {ins:List (List Vl)} {dels:List Int} {us:List Upd} (h:Ya nm cs nx rs ins dels us=true):((goR dels rs us).length:Int)=rs.length - dels.length:=by
 obtain ⟨h1,⟨h2a,h2b⟩,h3,h4⟩:=QE h
 obtain ⟨_,_,_,_,h5,_⟩:=XM h1
 have hasc:=(VS h5).1
 rw [Vj rs us hasc h3 h4]
 have h2:(keepR dels us rs).length=(rs.filter fun r=>!dels.contains r.1).length:=by simp [keepR]
 have hnd:(rs.map (·.1)).Nodup:=hasc.imp fun h=>by omega
 have hdn:dels.Nodup:=h2a.imp fun h=>by omega
 have hp:((rs.map (·.1)).filter fun id=>dels.contains id).Perm dels:=(List.perm_ext_iff_of_nodup (hnd.sublist List.filter_sublist) hdn).2 fun a=>by
  simp only [List.mem_filter,List.contains_iff_mem]
  exact ⟨fun k=>k.2,fun k=>⟨h2b a k,k⟩⟩
 have h3:(rs.filter fun r=>dels.contains r.1).length=dels.length:=by
  rw [←hp.length_eq,List.filter_map,List.length_map];rfl
 have h4:(rs.filter fun r=>dels.contains r.1).length+(rs.filter fun r=>!dels.contains r.1).length=rs.length:=by
  have:∀ l:List Row,(l.filter fun r=>dels.contains r.1).length+(l.filter fun r=>!dels.contains r.1).length=l.length:=by
   intro l
   induction l with
   | nil=>rfl
   | cons x l ih=>cases hx:dels.contains x.1<;>simp only [List.filter_cons,hx,if_true,if_false,Bool.not_true,Bool.not_false,List.length_cons,Bool.false_eq_true]<;>omega
  exact this rs
 rw [h2]
 omega
theorem ZeS {us:List Pr} {id:Int} {v:List Vl} (h:YM (us.map Pr.upd) id=some v):∃ u∈us,v=u.new:=by
 unfold YM at h
 obtain ⟨x,hx,rfl⟩:=Option.map_eq_some_iff.1 h
 obtain ⟨u,hu,rfl⟩:=List.mem_map.1 (List.mem_of_find?_eq_some hx)
 exact ⟨u,hu,rfl⟩
set_option maxHeartbeats 4000000 in
set_option maxRecDepth 100000 in
theorem Zf0 (M:Nat→Prop) (w:World) (hM:∀ b,M b→b<w.heap.size) (nm:ByteArray) (A:Option Addr) (n c:Nat) (cs:List Col) (nx:Int) (B:Option Addr) (m d:Nat) (l:List Rw) (I:Option Addr) (ni ci:Nat) (ins:List Sl) (D:Option Addr) (nd cd:Nat) (dels:List Int) (U:Option Addr) (nu cu:Nat) (us:List Pr)
  (hC:Ro w M (SlR 4 A n (Zd cs))) (hE:Ro w M (RwsIn B m l)) (hI:Ro w M (SlsIn I ni ins)) (hD:Ro w M (IsIn D nd dels)) (hU:Ro w M (PrsIn U nu us)) (hn:n≤9223372036854775807) (hm:m≤4611686018427387904) (hok:∀ r∈l,r.ok) (hrn:∀ r∈l,r.n≤4398046511104) (hpn:∀ p∈us,p.on≤9223372036854775807) (hs:nm.size≤maxLen) (hcs:∀ x∈cs,x.name.size≤maxLen)
  (hni:ni≤1000000000000000) (hnd:nd≤1000000000000000) (hnu:nu≤4398046511104) (hoi:∀ s∈ins,s.ok) (hou:∀ u∈us,u.ok):
  Calls Tryz.prog 23 #[.agg #[.string nm,.slice A n c,.int .i64 nx,.slice B m d],.agg #[.slice I ni ci,.slice D nd cd,.slice U nu cu]] w fun e w' =>Zge w M (YR nm cs nx (l.map Rw.row) (ins.map Sl.vs) dels (us.map Pr.upd)) e w' :=by
 have HUL:=hid hU.now.len
 have HIL:=hid hI.now.len
 have HRL:=hid hE.now.len
 have HDL:=hid hD.now.len
 have HCL:=hid (show cs.length=n from (RdC.Zy hC.now).len)
 have HEN:=hid hE.now
 have HUN:=hid hU.now
 have HIN:=hid hI.now
 have K0:=((((((((Hold.start M w hM).add (hU.less (by simp [Mut]))).add (hD.less (by simp [Mut,Hp.foot]))).add (hI.less (by simp [Mut,Hp.foot]))).add (hE.less (by simp [Mut,Hp.foot]))).add (hC.less (by simp [Mut,Hp.foot]))).Za #[.string nm,.slice A n c,.int .i64 nx,.slice B m d] 67).Za #[.slice I ni ci,.slice D nd cd,.slice U nu cu] 73).alloc #[.string ⟨#[]⟩,.slice none 0 0,.int .i64 0,.slice none 0 0] 67
 simp only [World.size_alloc] at K0
 have F0:=K0.facts
 simp only [zg] at F0
 clear hC hI hD hU hE
 go_enter Tryz.func23,Tryz.ntmps23
 go_wp2_with fail
 refine (Zf5 _ _ K0.Zb nm A n c cs nx B m d l I ni ci ins D nd cd dels U nu cu us (K0.ro 3 rfl) (K0.ro 4 rfl) (K0.ro 5 rfl) (K0.ro 6 rfl) (K0.ro 7 rfl) hn hm hok hrn hpn hs hcs (by omega) (by omega) hnu).mono ?_
 rintro e w1 ⟨rfl,b1⟩
 have K1:=K0.call b1
 clear K0 b1 F0
 have F1:=K1.facts
 simp only [zg] at F1
 cases hcb:Ya nm cs nx (l.map Rw.row) (ins.map Sl.vs) dels (us.map Pr.upd)
 ·have HN:=hid (show YR nm cs nx (l.map Rw.row) (ins.map Sl.vs) dels (us.map Pr.upd)=(17,XZ) by unfold YR;rw [hcb];rfl)
  clear hcb
  have KN:=(((K1.store 0 rfl 0 (.string ⟨#[]⟩)).store 0 rfl 1 (.slice none 0 0)).store 0 rfl 2 (.int .i64 0)).store 0 rfl 3 (.slice none 0 0)
  go_wp2_with fail
  exact bodyPost_ret (v:=.tuple #[.agg #[.string ⟨#[]⟩,.slice none 0 0,.int .i64 0,.slice none 0 0],.int .i64 (17)]) (by simp [results,Tryz.results23,go_sem,F1]) rfl ⟨_,by rw [HN.out],by rw [HN.out];exact VH,KN.below⟩
 have htb:Zn nm cs nx (l.map Rw.row)=true:=(QE hcb).1
 have hshort:=hid (J4 HEN.out htb)
 obtain ⟨hm100,hnx1,hnx2⟩:=U7 htb
 rw [List.length_map,HRL.out] at hm100
 have hn6:n≤6:=by have:=Uc htb;have:=HCL.out;omega
 have HCB:=hid hcb
 have HOK:=hid hok
 have HOI:=hid hoi
 have HOU:=hid hou
 have HRN:=hid hrn
 clear hcb htb hok hoi hou hrn hpn hcs
 go_wp2_with fail
 clear F1
 go_loopw [28] (fun iv wr=>∃ (j:Nat),j≤nu∧iv=.int .i64 j∧Hid (YJ cs (us.map Pr.new)=YJ cs ((us.map Pr.new).drop j))∧Hold M none w wr [.blk (w.heap.size+1+1) 67 #[.string ⟨#[]⟩,.slice none 0 0,.int .i64 0,.slice none 0 0],.cst (w.heap.size+1) 73 #[.slice I ni ci,.slice D nd cd,.slice U nu cu],.cst w.heap.size 67 #[.string nm,.slice A n c,.int .i64 nx,.slice B m d],.ro (SlR 4 A n (Zd cs)),.ro (RwsIn B m l),.ro (SlsIn I ni ins),.ro (IsIn D nd dels),.ro (PrsIn U nu us)]) (fun iv _=>nu - (intOf iv).toNat)
 case atStart=>exact ⟨0,by omega,rfl,hid rfl,K1⟩
 case round=>
  clear K1
  obtain ⟨j,hj,rfl,HS,H⟩:=hrel
  by_cases hlt:j<nu
  ·have hdd:decide ((j:Int)<(nu:Int))=true:=by simp;omega
   have j0:(0:Int)≤(j:Int):=by omega
   obtain ⟨u,hu⟩:=Zq HUL.out hlt
   obtain ⟨b,o,rfl,hb,c0,c1,c2,_⟩:=(H.ro 7 rfl).now.at_ hu
   have HX:=hid (show (us.map Pr.new)[j]? =some u.new by simp [hu])
   have HUM:=hid (List.mem_of_getElem? hu)
   have huok:=HOU.out u HUM.out
   have K1:=H.Za #[.int .i64 u.id,.slice u.oA u.on u.oc,.slice u.nA u.nn u.nc] 115
   clear hu
   have F1:=K1.facts
   simp only [zg] at F1
   have hVR:Ro _ (Mut M _) (VlsIn u.nA u.nn u.new):=(K1.ro 8 rfl).imp fun w2 h2=>(h2.2 u HUM.out).2
   go_wp2_with fail
   refine (Qd _ _ K1.Zb nm A n c cs u.nA u.nn u.nc u.new (K1.ro 4 rfl) hVR hn (Nat.le_trans huok.nc huok.nc2) huok.new).mono ?_
   rintro e w3 ⟨rfl,b3⟩
   have K3:=(K1.call b3).drop (List.sublist_cons_self _ _)
   clear K1 F1 b3 hVR H
   have F3:=K3.facts
   simp only [zg] at F3
   by_cases hz:ZC cs u.new=0
   ·have HN:=hid (show YJ cs (us.map Pr.new)=YJ cs ((us.map Pr.new).drop (j+1)) by rw [HS.out];exact zy HX.out hz)
    rw [hz]
    clear hz
    go_wp2_with fail
    go_roundw
    case rel=>exact ⟨j+1,by omega,by go_num,HN,K3⟩
    case measure=>simp [intOf];omega
   ·have hz2:(ZC cs u.new !=0)=true:=by simp [hz]
    have HF2:=hid (show X9 cs (us.map Pr.new) (ins.map Sl.vs)=ZC cs u.new by unfold X9;rw [HS.out,Zaw HX.out hz,if_neg hz])
    have HN:=hid (show YR nm cs nx (l.map Rw.row) (ins.map Sl.vs) dels (us.map Pr.upd)=(ZC cs u.new,XZ) by
     have hmm:(us.map Pr.upd).map (·.2.2)=us.map Pr.new:=by rw [List.map_map];rfl
     unfold YR;rw [HCB.out,hmm,HF2.out,if_neg (by simp),if_pos hz])
    clear hz
    have KN:=(((K3.store 0 rfl 0 (.string ⟨#[]⟩)).store 0 rfl 1 (.slice none 0 0)).store 0 rfl 2 (.int .i64 0)).store 0 rfl 3 (.slice none 0 0)
    go_wp2_with fail
    exact bodyPost_ret (v:=.tuple #[.agg #[.string ⟨#[]⟩,.slice none 0 0,.int .i64 0,.slice none 0 0],.int .i64 (ZC cs u.new)]) (by simp [results,Tryz.results23,go_sem,F3]) rfl ⟨_,by rw [HN.out],by rw [HN.out];exact VH,KN.below⟩
  ·obtain rfl:j=nu:=by omega
   have hdd:decide ((j:Int)<(j:Int))=false:=by simp
   have HF:=hid (show X9 cs (us.map Pr.new) (ins.map Sl.vs)=YJ cs (ins.map Sl.vs) by unfold X9;rw [HS.out,Zbi (by rw [List.length_map,HUL.out];exact Nat.le_refl _),if_pos rfl])
   have F5:=H.facts
   simp only [zg] at F5
   go_wp2_with fail
   clear F5
   go_loopw [45] (fun iv wr=>∃ (k:Nat),k≤ni∧iv=.int .i64 k∧Hid (YJ cs (ins.map Sl.vs)=YJ cs ((ins.map Sl.vs).drop k))∧Hold M none w wr [.blk (w.heap.size+1+1) 67 #[.string ⟨#[]⟩,.slice none 0 0,.int .i64 0,.slice none 0 0],.cst (w.heap.size+1) 73 #[.slice I ni ci,.slice D nd cd,.slice U j cu],.cst w.heap.size 67 #[.string nm,.slice A n c,.int .i64 nx,.slice B m d],.ro (SlR 4 A n (Zd cs)),.ro (RwsIn B m l),.ro (SlsIn I ni ins),.ro (IsIn D nd dels),.ro (PrsIn U j us)]) (fun iv _=>ni - (intOf iv).toNat)
   case atStart=>exact ⟨0,by omega,rfl,hid rfl,H⟩
   case round=>
    clear H
    obtain ⟨k,hk,rfl,HS2,H⟩:=hrel
    by_cases hlt2:k<ni
    ·have hdd2:decide ((k:Int)<(ni:Int))=true:=by simp;omega
     have k0:(0:Int)≤(k:Int):=by omega
     obtain ⟨s,hx⟩:=Zq HIL.out hlt2
     obtain ⟨b,o,rfl,hb,c0,_⟩:=(H.ro 5 rfl).now.at_ hx
     have HX:=hid (show (ins.map Sl.vs)[k]? =some s.vs by simp [hx])
     have HSM:=hid (List.mem_of_getElem? hx)
     have hsok:=HOI.out s HSM.out
     clear hx
     have F1:=H.facts
     simp only [zg] at F1
     have hVR:Ro _ (Mut M _) (VlsIn s.A s.n s.vs):=(H.ro 5 rfl).imp fun w2 h2=>h2.2 s HSM.out
     go_wp2_with fail
     refine (Qd _ _ H.Zb nm A n c cs s.A s.n s.c s.vs (H.ro 3 rfl) hVR hn (Nat.le_trans hsok.nc hsok.c) hsok.vs).mono ?_
     rintro e w3 ⟨rfl,b3⟩
     have K3:=H.call b3
     clear F1 b3 hVR H
     have F3:=K3.facts
     simp only [zg] at F3
     by_cases hz:ZC cs s.vs=0
     ·have HN:=hid (show YJ cs (ins.map Sl.vs)=YJ cs ((ins.map Sl.vs).drop (k+1)) by rw [HS2.out];exact zy HX.out hz)
      rw [hz]
      clear hz
      go_wp2_with fail
      go_roundw
      case rel=>exact ⟨k+1,by omega,by go_num,HN,K3⟩
      case measure=>simp [intOf];omega
     ·have hz2:(ZC cs s.vs !=0)=true:=by simp [hz]
      have HF2:=hid (show X9 cs (us.map Pr.new) (ins.map Sl.vs)=ZC cs s.vs by rw [HF.out,HS2.out,Zaw HX.out hz])
      have HN:=hid (show YR nm cs nx (l.map Rw.row) (ins.map Sl.vs) dels (us.map Pr.upd)=(ZC cs s.vs,XZ) by
       have hmm:(us.map Pr.upd).map (·.2.2)=us.map Pr.new:=by rw [List.map_map];rfl
       unfold YR;rw [HCB.out,hmm,HF2.out,if_neg (by simp),if_pos hz])
      clear hz
      have KN:=(((K3.store 0 rfl 0 (.string ⟨#[]⟩)).store 0 rfl 1 (.slice none 0 0)).store 0 rfl 2 (.int .i64 0)).store 0 rfl 3 (.slice none 0 0)
      go_wp2_with fail
      exact bodyPost_ret (v:=.tuple #[.agg #[.string ⟨#[]⟩,.slice none 0 0,.int .i64 0,.slice none 0 0],.int .i64 (ZC cs s.vs)]) (by simp [results,Tryz.results23,go_sem,F3]) rfl ⟨_,by rw [HN.out],by rw [HN.out];exact VH,KN.below⟩
    ·obtain rfl:k=ni:=by omega
     have hdd2:decide ((k:Int)<(k:Int))=false:=by simp
     have HFZ:=hid (show X9 cs ((us.map Pr.upd).map (·.2.2)) (ins.map Sl.vs)=0 by
      have hmm:(us.map Pr.upd).map (·.2.2)=us.map Pr.new:=by rw [List.map_map];rfl
      rw [hmm,HF.out,HS2.out]
      exact Zbi (by rw [List.length_map,HIL.out];exact Nat.le_refl _))
     clear HS HS2 HF
     have F1:=H.facts
     simp only [zg] at F1
     go_wp2_with fail
     obtain ⟨KL,hKL,KN⟩:=H.name
     have HFF:Hid (∀ wv,Hold M none w wv KL→wv.cell? ⟨w.heap.size,0,none⟩=some (.string nm)∧wv.cell? ⟨w.heap.size,1,none⟩=some (.slice A n c)∧wv.cell? ⟨w.heap.size,2,none⟩=some (.int .i64 nx)∧wv.cell? ⟨w.heap.size,3,none⟩=some (.slice B m d)∧w.heap.size<wv.heap.size):=hid fun wv HC=>by
      rw [hKL] at HC
      have y0:=HC.ZB 2 rfl
      exact ⟨cell_of_row _ _ 0 _ _ _ y0,cell_of_row _ _ 1 _ _ _ y0,cell_of_row _ _ 2 _ _ _ y0,cell_of_row _ _ 3 _ _ _ y0,Blk.lt y0⟩
     have HRX:Hid (∀ wv,Hold M none w wv KL→Ro wv (Mut M KL) (ColsIn A n cs)∧Ro wv (Mut M KL) (RwsIn B m l)):=hid fun wv HC=>by
      rw [hKL] at HC ⊢
      exact ⟨HC.ro 3 rfl,HC.ro 4 rfl⟩
     have HKL:=hid hKL
     clear hKL H F1
     obtain ⟨Ha,hHa⟩:∃ Ha,Ha=wr.drew.heap.size:=⟨_,rfl⟩
     have HHa:=hid hHa
     clear hHa
     refine wp_region_any (by kernel_rfl) ?_
     refine Zp 7 143 (KL) (spL [(59,Uk (Mut M KL) nm cs nx),(12,Z6 (Mut M KL) Ha 67 #[.string ⟨#[]⟩,.slice none 0 0,.int .i64 0,.slice none 0 0])]) (by kernel_rfl) (by kernel_rfl) (by kernel_rfl) rfl ?_ (KN.drew) ?_
     ·exact Ze ZcN (Ze XY (Zo _))
     simp only [zd,Act.put,List.getElem_toArray,List.getElem_cons_zero,List.getElem_cons_succ,zl]
     refine' dv rfl rfl rfl (fun wv HC=>?_) ?_;rotate_left
     ·obtain ⟨f0,f1,f2,f3,f4⟩:=HFF.out _ HC;go_simp<;>rfl
     simp only [Act.put,zl]
     refine Zm 59 (Uk (Mut M KL) nm cs nx) (f:=63) (args:=#[.agg #[.string nm,.slice A n c,.int .i64 nx,.slice B m d]]) rfl rfl rfl rfl (fun wv=>?_) (fun wv HC hrm hD=>?_) ?_
     ·go_simp<;>rfl
     ·refine (ZhP _ wv HC.Zb nm A n c cs nx B m d l (HRX.out _ HC).1 (HRX.out _ HC).2 (by omega) (by omega) HRN.out).mono ?_
      rintro e w5 ⟨A5,n5,c5,B5,m5,d5,rfl,h51,h52,h53,b5⟩
      exact ⟨_,rfl,⟨A5,n5,c5,B5,m5,d5,rfl,h51,h52,h53⟩,HC.call b5,RM.below b5⟩
     rintro x_ wx HCx ⟨A5,n5,c5,B5,m5,d5,rfl,h51,h52,h53⟩
     simp only [Act.put,zl]
     have hn5:n5=n:=by have h7:=(RdC.Zy h53.now).len;have:=HCL.out;omega
     clear HCx h53
     refine XT rfl rfl rfl ⟨.agg #[.string nm,.slice A5 n5 c5],fun wv HC=>?_,?_⟩
     ·go_simp<;>first|rfl|kernel_rfl
     simp only [Act.put,zl]
     refine' dv rfl rfl rfl (fun wv HC=>?_) ?_;rotate_left
     · go_simp<;>rfl
     simp only [Act.put,zl]
     refine' dv rfl rfl rfl (fun wv HC=>?_) ?_;rotate_left
     ·obtain ⟨f0,f1,f2,f3,f4⟩:=HFF.out _ HC;go_simp<;>rfl
     simp only [Act.put,zl]
     refine XT rfl rfl rfl ⟨.agg #[.string nm,.slice A5 n5 c5,.int .i64 nx,.slice none 0 0],fun wv HC=>?_,?_⟩
     ·go_simp<;>first|rfl|kernel_rfl
     simp only [Act.put,zl]
     refine Ye #[.string ⟨#[]⟩,.slice none 0 0,.int .i64 0,.slice none 0 0] 67 12 (Z6 (Mut M KL) Ha 67 #[.string ⟨#[]⟩,.slice none 0 0,.int .i64 0,.slice none 0 0]) (fun g=>.pointer (some ⟨g,0,none⟩)) rfl rfl rfl rfl (fun wv=>?_) (fun wv HC hrm hD hro=>?_) ?_
     ·go_simp<;>rfl
     ·exact ⟨_,rfl,by have:=hrm.1;rw [HHa.out];exact this,hro _ HC.Zb⟩
     rintro g7 wg HCg hsl
     simp only [Act.put,zl]
     clear hsl HCg
     refine Zj ?_
     rintro wx1 HX
     rintro _hrm HGW
     have htc:Uk (Mut M KL) nm cs nx (.agg #[.string nm,.slice A5 n5 c5,.int .i64 nx,.slice B5 m5 d5]) wx1:=(Zl (d:=59) rfl).1 (HGW 1 _ rfl (by omega))
     have hns:Z6 (Mut M KL) Ha 67 #[.string ⟨#[]⟩,.slice none 0 0,.int .i64 0,.slice none 0 0] (.pointer (some ⟨g7,0,none⟩)) wx1:=(Zl (d:=12) rfl).1 (HGW 6 _ rfl (by omega))
     clear HGW
     obtain ⟨gq,hgq,hgH,hgB⟩:=hns
     obtain rfl:g7=gq:=by injection hgq with hgq;injection hgq with hgq;injection hgq
     clear hgq
     rw [HHa.out] at hgH
     have HB:=Hold.We KN.drew HX _hrm hgH hgB.now
     obtain ⟨A6,n6,c6,B6,m6,d6,e6,-,-,r6⟩:=htc
     obtain ⟨rfl,rfl,rfl⟩:A5=A6∧n5=n6∧c5=c6:=by
      injection e6 with e6
      simp only [Array.mk.injEq,List.cons.injEq,Value.slice.injEq,and_true,true_and] at e6
      exact e6.1
     have r7:Ro wx1 (Mut M (.blk g7 67 #[.string ⟨#[]⟩,.slice none 0 0,.int .i64 0,.slice none 0 0]::KL)) (ColsIn A5 n5 cs):=(r6.Zcg hgB.now).less fun b hb=>(ZI.1 hb).elim (fun hf=>.inr (by have hf:some g7=some b:=hf;injection hf with hf;exact hf.symm)) .inl
     have K0:=HB.add r7
     rw [HKL.out] at K0
     have FB:=K0.facts
     simp only [zg] at FB
     have HN5:=hid hn5
     clear hgB hgH HX _hrm HHa KN HFF HRX HKL HB e6 r6 r7 hn5
     have K1:=(((K0.store 1 rfl 0 (.string nm)).store 1 rfl 1 (.slice A5 n5 c5)).store 1 rfl 2 (.int .i64 nx)).store 1 rfl 3 (.slice none 0 0)
     simp only [zl] at K1
     have K2:=(K1.add (V3 _ _)).nil 124 2
     have F2:=K2.facts
     simp only [zg] at F2
     clear K0 K1
     go_wp2_with fail
     generalize (((wx1.setCell _ _).setCell _ _).setCell _ _).setCell _ _=w2 at K2 ⊢
     clear FB F2
     go_loopw [67] (fun iv wr=>∃ (i q cap:Nat) (O:Option Addr) (outs:List Rw),i≤m∧iv=.int .i64 i∧q≤i∧(∀ r∈outs,r.ok)∧Hid (outs.map Rw.row=Xx dels (us.map Pr.upd) ((l.map Rw.row).take i))∧Hold M none w wr [.own 124 2 (.slice O q cap) q (ZJ outs),.ro (YT outs),.ro (ColsIn A5 n5 cs),.blk g7 67 #[.string nm,.slice A5 n5 c5,.int .i64 nx,.slice O q cap],.blk (w.heap.size+1+1) 67 #[.string ⟨#[]⟩,.slice none 0 0,.int .i64 0,.slice none 0 0],.cst (w.heap.size+1) 73 #[.slice I k ci,.slice D nd cd,.slice U j cu],.cst w.heap.size 67 #[.string nm,.slice A n c,.int .i64 nx,.slice B m d],.ro (SlR 4 A n (Zd cs)),.ro (RwsIn B m l),.ro (SlsIn I k ins),.ro (IsIn D nd dels),.ro (PrsIn U j us)]) (fun iv _=>m - (intOf iv).toNat)
     case atStart=>exact ⟨0,0,0,none,[],by omega,rfl,by omega,(fun r hr=>nomatch hr),hid rfl,K2⟩
     case round=>
      clear K2
      obtain ⟨i,q,cap,O,outs,hi,rfl,hq,hoo,HG,H⟩:=hrel
      by_cases hlt3:i<m
      ·have hd3:decide ((i:Int)<(m:Int))=true:=by simp;omega
       have i0:(0:Int)≤(i:Int):=by omega
       obtain ⟨r,hr⟩:=Zq HRL.out hlt3
       obtain ⟨b,o,rfl,hb,c0,c1,_⟩:=(H.ro 8 rfl).now.at_ hr
       have HX:=hid (show (l.map Rw.row)[i]? =some (r.id,r.vs) by simp [hr,Rw.row])
       have HRM:=hid (List.mem_of_getElem? hr)
       have hrok:=HOK.out r HRM.out
       have hrn:=HRN.out r HRM.out
       have K1:=H.Za #[.int .i64 r.id,.slice r.A r.n r.c] 124
       clear hr H
       obtain ⟨gr,hgr⟩:∃ gr,gr=wr.heap.size:=⟨_,rfl⟩
       rw [←hgr] at K1
       have F1:=K1.facts
       simp only [zg] at F1
       go_wp2_with fail
       rw [←hgr]
       have HGR:=hid hgr
       clear hgr c0 c1
       refine (Zdr _ D nd cd dels r.id (K1.ro 11 rfl).now (by omega)).mono ?_
       rintro e w7 ⟨rfl,rfl⟩
       cases hct:dels.contains r.id
       ·have HCT:=hid hct
        clear hct
        go_wp2_with fail
        obtain ⟨fo,hfo⟩:∃ fo,fo=YM (us.map Pr.upd) r.id:=⟨_,rfl⟩
        have hk:=Zh2 _ _ K1.Zb U j cu us r.id (K1.ro 12 rfl) (by omega) HOU.out
        rw [←hfo] at hk
        have HFO:=hid hfo
        clear hfo
        refine hk.mono ?_
        clear hk
        rintro e w8 ⟨Af,nf,cf,rfl,hf0,hf1,hf2,hfr,b8⟩
        have K3:=K1.call b8
        clear K1 F1 b8
        cases fo with
        | none=>
         simp only [Option.isSome_none]
         have hxr:Ro _ (Mut M _) (VlsIn r.A r.n r.vs):=(K3.ro 9 rfl).imp fun w2 h2=>h2.2 r HRM.out
         have K4:=K3.add hxr
         have F4:=K4.facts
         simp only [zg] at F4
         clear K3 hfr hf0 hf1 hf2 hxr
         go_wp2_with fail
         clear F4
         obtain ⟨KL,hKL,KN⟩:=K4.name
         have HF:Hid (∀ wv,Hold M none w wv KL→wv.cell? ⟨gr,0,none⟩=some (.int .i64 r.id)∧wv.cell? ⟨g7,3,none⟩=some (.slice O q cap)∧gr<wv.heap.size∧g7<wv.heap.size):=hid fun wv HC=>by
          rw [hKL] at HC
          have y0:=HC.ZB 1 rfl
          have y1:=HC.ZF 5 rfl
          exact ⟨cell_of_row _ _ 0 _ _ _ y0,cell_of_row _ _ 3 _ _ _ y1,Blk.lt y0,Blk.lt y1⟩
         have HRX:Hid (∀ wv,Hold M none w wv KL→Ro wv (Mut M KL) (VlsIn r.A r.n r.vs)):=hid fun wv HC=>by
          rw [hKL] at HC ⊢
          exact HC.ro 0 rfl
         have HKL:=hid hKL
         clear hKL K4
         go_wp2_with fail
         refine wp_region_any (by kernel_rfl) ?_
         refine Zp 8 143 (KL) (spL [(93,Z0 (Mut M KL) r.vs),(94,Yx (Mut M KL) r.id r.vs),(95,Yw (Mut M KL) r.id r.vs)]) (by kernel_rfl) (by kernel_rfl) (by kernel_rfl) rfl ?_ (KN.drew) ?_
         ·exact Ze X6 (Ze Vz (Ze Vf (Zo _)))
         simp only [zd,Act.put,List.getElem_toArray,List.getElem_cons_zero,List.getElem_cons_succ,zl]
         iterate 2
          refine' dv rfl rfl rfl (fun wv HC=>?_) ?_;rotate_left
          · go_simp<;>rfl
          simp only [Act.put,zl]
          refine' dv rfl rfl rfl (fun wv HC=>?_) ?_;rotate_left
          ·obtain ⟨f0,f1,f2,f3⟩:=HF.out _ HC;go_simp<;>rfl
          simp only [Act.put,zl]
         refine' dv rfl rfl rfl (fun wv HC=>?_) ?_;rotate_left
         · go_simp<;>rfl
         simp only [Act.put,zl]
         refine Zm 93 (Z0 (Mut M KL) r.vs) (f:=55) (args:=#[.slice r.A r.n r.c]) rfl rfl rfl rfl (fun wv=>?_) (fun wv HC hrm hD=>?_) ?_
         ·go_simp<;>rfl
         ·refine (Xf _ wv HC.Zb r.A r.n r.c r.vs (HRX.out _ HC) hrn).mono ?_
          rintro e w5 ⟨A5,n5,c5,rfl,h50,h51,h52,h53,b5⟩
          exact ⟨_,rfl,⟨A5,n5,c5,rfl,h50,h51,h52,h53⟩,HC.call b5,RM.below b5⟩
         rintro x_ wx HCx ⟨A5,n5,c5,rfl,h50,h51,h52,h53⟩
         simp only [Act.put,zl]
         have H50:=hid h50
         clear HCx h53 h50
         refine WA 94 (Yx (Mut M KL) r.id r.vs) rfl rfl rfl rfl (.agg #[.int .i64 r.id,.slice A5 n5 c5]) (fun wv HC=>?_) (fun wv HC hD=>?_) ?_
         ·go_simp<;>rfl
         ·have hsl:Z0 (Mut M KL) r.vs (.slice A5 n5 c5) wv:=ZM hD 5 rfl (by kernel_rfl) rfl rfl
          obtain ⟨A6,n6,c6,e6,h1,h2,h3,h4⟩:=hsl
          exact ⟨A6,n6,c6,by rw [e6],h1,h2,h3,h4⟩
         simp only [Act.put,zl]
         refine Ye #[.int .i64 r.id,.slice A5 n5 c5] 124 95 (Yw (Mut M KL) r.id r.vs) (fun g=>.slice (some ⟨g,0,none⟩) 1 1) rfl rfl rfl rfl (fun wv=>?_) (fun wv HC _hrm hD hro=>?_) ?_
         ·go_simp<;>rfl
         ·have hsl:Yx (Mut M KL) r.id r.vs (.agg #[.int .i64 r.id,.slice A5 n5 c5]) wv:=ZM hD 6 rfl (by kernel_rfl) rfl rfl
          obtain ⟨A6,n6,c6,e6,h1,h2,h3,h4⟩:=hsl
          obtain ⟨rfl,rfl,rfl⟩:A5=A6∧n5=n6∧c5=c6:=by
           injection e6 with e6
           simp at e6
           exact e6
          exact ⟨_,A5,n5,c5,rfl,h1,h2,h3,h4.step (by simp) (fun b hb _=>Below.heap_alloc wv _ b hb) (fun _ _ h=>h),ZL (hro _ HC.Zb) rfl⟩
         rintro g2 wg HCg hsl
         simp only [Act.put,zl]
         clear hsl HCg
         refine Zj ?_
         rintro wx2 HX
         rintro _hrm HGW
         have hb2:Yw (Mut M KL) r.id r.vs (.slice (some ⟨g2,0,none⟩) 1 1) wx2:=(Zl (d:=95) rfl).1 (HGW 7 _ rfl (by omega))
         clear HGW _hrm
         obtain ⟨g3,A6,n6,c6,e6,k0_,k1_,k2_,k3_,k4_⟩:=hb2
         obtain rfl:g2=g3:=by injection e6 with e6;injection e6 with e6;injection e6
         clear e6
         rw [HKL.out] at HX k3_
         have k5:=hid k4_.now
         have HK0:=hid k0_
         clear k4_ k0_ HF HRX KN
         have HRS:=hid (show ZJ outs++[.int .i64 r.id,.slice A6 n6 c6]=ZJ (outs++[⟨r.id,A6,n6,c6,r.vs⟩]) from WH _ _ _ _ _ _)
         have KA:=HX.add k3_
         clear HX k3_
         have FKA:=KA.facts
         simp only [zg] at FKA
         go_wp2_with (at_builtin;go_must (refine ZW KA 3 rfl Tryz.WE k5.out rfl (.tmp 89) (.tmp 95) rfl rfl rfl (by intro z hz;simp at hz;rcases hz with rfl|rfl<;>rfl) (by omega) (by omega) ?_);intro C' cap' w6 hc6 hm6 KB;rw [HRS.out] at KB;simp only [zl] at KB;(have F3:=KB.facts);simp only [zg] at F3)
         have KC:=KB.store 6 rfl 3 (.slice C' (q+1) cap')
         have KE:=(KC.Yy 4 rfl (Wl (r:=⟨r.id,A6,n6,c6,r.vs⟩) (KC.ro 4 rfl) (KC.ro 0 rfl))).drop (List.Sublist.cons _ (List.Sublist.cons _ (List.sublist_cons_self _ _)))
         simp only [Zt,List.set_cons_zero,List.set_cons_succ,List.setIfInBounds_toArray] at KE
         have HGN:=hid (show List.map Rw.row (outs++[⟨r.id,A6,n6,c6,r.vs⟩])=Xx dels (us.map Pr.upd) ((l.map Rw.row).take (i+1)) by
          rw [List.map_append,HG.out,ZbX HX.out HCT.out]
          show _=_++[(r.id,(YM (us.map Pr.upd) r.id).getD r.vs)]
          rw [←HFO.out];rfl)
         go_roundw
         case rel=>exact ⟨i+1,q+1,cap',C',_,by omega,by go_num,by omega,by intro x hx;rcases List.mem_append.1 hx with hx|hx;(exact hoo x hx);(simp at hx;subst hx;exact ⟨hrok.id,k1_,k2_,hrok.vs⟩),HGN,KE⟩
         case measure=>simp [intOf];omega
        | some v=>
         simp only [Option.isSome_some,Option.getD_some] at hfr hf0 ⊢
         obtain ⟨u,hu,rfl⟩:=ZeS HFO.out.symm
         have huo:=HOU.out u hu
         have hv6:nf≤6:=by
          have h1:=Vy ((JE HFZ.out).1 u.new (List.mem_map.2 ⟨u.upd,List.mem_map_of_mem hu,rfl⟩))
          have:=HCL.out
          omega
         have K4:=K3.add hfr
         have F4:=K4.facts
         simp only [zg] at F4
         clear K3 hfr hf0 hf1 hf2 hu
         go_wp2_with fail
         clear F4
         obtain ⟨KL,hKL,KN⟩:=K4.name
         have HF:Hid (∀ wv,Hold M none w wv KL→wv.cell? ⟨gr,0,none⟩=some (.int .i64 r.id)∧wv.cell? ⟨g7,3,none⟩=some (.slice O q cap)∧gr<wv.heap.size∧g7<wv.heap.size):=hid fun wv HC=>by
          rw [hKL] at HC
          have y0:=HC.ZB 1 rfl
          have y1:=HC.ZF 5 rfl
          exact ⟨cell_of_row _ _ 0 _ _ _ y0,cell_of_row _ _ 3 _ _ _ y1,Blk.lt y0,Blk.lt y1⟩
         have HRX:Hid (∀ wv,Hold M none w wv KL→Ro wv (Mut M KL) (VlsIn Af nf u.new)):=hid fun wv HC=>by
          rw [hKL] at HC ⊢
          exact HC.ro 0 rfl
         have HKL:=hid hKL
         clear hKL K4
         go_wp2_with fail
         refine wp_region_any (by kernel_rfl) ?_
         refine Zp 8 143 (KL) (spL [(93,Z0 (Mut M KL) u.new),(94,Yx (Mut M KL) r.id u.new),(95,Yw (Mut M KL) r.id u.new)]) (by kernel_rfl) (by kernel_rfl) (by kernel_rfl) rfl ?_ (KN.drew) ?_
         ·exact Ze X6 (Ze Vz (Ze Vf (Zo _)))
         simp only [zd,Act.put,List.getElem_toArray,List.getElem_cons_zero,List.getElem_cons_succ,zl]
         iterate 2
          refine' dv rfl rfl rfl (fun wv HC=>?_) ?_;rotate_left
          · go_simp<;>rfl
          simp only [Act.put,zl]
          refine' dv rfl rfl rfl (fun wv HC=>?_) ?_;rotate_left
          ·obtain ⟨f0,f1,f2,f3⟩:=HF.out _ HC;go_simp<;>rfl
          simp only [Act.put,zl]
         refine' dv rfl rfl rfl (fun wv HC=>?_) ?_;rotate_left
         · go_simp<;>rfl
         simp only [Act.put,zl]
         refine Zm 93 (Z0 (Mut M KL) u.new) (f:=55) (args:=#[.slice Af nf cf]) rfl rfl rfl rfl (fun wv=>?_) (fun wv HC hrm hD=>?_) ?_
         ·go_simp<;>rfl
         ·refine (Xf _ wv HC.Zb Af nf cf u.new (HRX.out _ HC) (by omega)).mono ?_
          rintro e w5 ⟨A5,n5,c5,rfl,h50,h51,h52,h53,b5⟩
          exact ⟨_,rfl,⟨A5,n5,c5,rfl,h50,h51,h52,h53⟩,HC.call b5,RM.below b5⟩
         rintro x_ wx HCx ⟨A5,n5,c5,rfl,h50,h51,h52,h53⟩
         simp only [Act.put,zl]
         have H50:=hid h50
         clear HCx h53 h50
         refine WA 94 (Yx (Mut M KL) r.id u.new) rfl rfl rfl rfl (.agg #[.int .i64 r.id,.slice A5 n5 c5]) (fun wv HC=>?_) (fun wv HC hD=>?_) ?_
         ·go_simp<;>rfl
         ·have hsl:Z0 (Mut M KL) u.new (.slice A5 n5 c5) wv:=ZM hD 5 rfl (by kernel_rfl) rfl rfl
          obtain ⟨A6,n6,c6,e6,h1,h2,h3,h4⟩:=hsl
          exact ⟨A6,n6,c6,by rw [e6],h1,h2,h3,h4⟩
         simp only [Act.put,zl]
         refine Ye #[.int .i64 r.id,.slice A5 n5 c5] 124 95 (Yw (Mut M KL) r.id u.new) (fun g=>.slice (some ⟨g,0,none⟩) 1 1) rfl rfl rfl rfl (fun wv=>?_) (fun wv HC _hrm hD hro=>?_) ?_
         ·go_simp<;>rfl
         ·have hsl:Yx (Mut M KL) r.id u.new (.agg #[.int .i64 r.id,.slice A5 n5 c5]) wv:=ZM hD 6 rfl (by kernel_rfl) rfl rfl
          obtain ⟨A6,n6,c6,e6,h1,h2,h3,h4⟩:=hsl
          obtain ⟨rfl,rfl,rfl⟩:A5=A6∧n5=n6∧c5=c6:=by
           injection e6 with e6
           simp at e6
           exact e6
          exact ⟨_,A5,n5,c5,rfl,h1,h2,h3,h4.step (by simp) (fun b hb _=>Below.heap_alloc wv _ b hb) (fun _ _ h=>h),ZL (hro _ HC.Zb) rfl⟩
         rintro g2 wg HCg hsl
         simp only [Act.put,zl]
         clear hsl HCg
         refine Zj ?_
         rintro wx2 HX
         rintro _hrm HGW
         have hb2:Yw (Mut M KL) r.id u.new (.slice (some ⟨g2,0,none⟩) 1 1) wx2:=(Zl (d:=95) rfl).1 (HGW 7 _ rfl (by omega))
         clear HGW _hrm
         obtain ⟨g3,A6,n6,c6,e6,k0_,k1_,k2_,k3_,k4_⟩:=hb2
         obtain rfl:g2=g3:=by injection e6 with e6;injection e6 with e6;injection e6
         clear e6
         rw [HKL.out] at HX k3_
         have k5:=hid k4_.now
         have HK0:=hid k0_
         clear k4_ k0_ HF HRX KN
         have HRS:=hid (show ZJ outs++[.int .i64 r.id,.slice A6 n6 c6]=ZJ (outs++[⟨r.id,A6,n6,c6,u.new⟩]) from WH _ _ _ _ _ _)
         have KA:=HX.add k3_
         clear HX k3_
         have FKA:=KA.facts
         simp only [zg] at FKA
         go_wp2_with (at_builtin;go_must (refine ZW KA 3 rfl Tryz.WE k5.out rfl (.tmp 89) (.tmp 95) rfl rfl rfl (by intro z hz;simp at hz;rcases hz with rfl|rfl<;>rfl) (by omega) (by omega) ?_);intro C' cap' w6 hc6 hm6 KB;rw [HRS.out] at KB;simp only [zl] at KB;(have F3:=KB.facts);simp only [zg] at F3)
         have KC:=KB.store 6 rfl 3 (.slice C' (q+1) cap')
         have KE:=(KC.Yy 4 rfl (Wl (r:=⟨r.id,A6,n6,c6,u.new⟩) (KC.ro 4 rfl) (KC.ro 0 rfl))).drop (List.Sublist.cons _ (List.Sublist.cons _ (List.sublist_cons_self _ _)))
         simp only [Zt,List.set_cons_zero,List.set_cons_succ,List.setIfInBounds_toArray] at KE
         have HGN:=hid (show List.map Rw.row (outs++[⟨r.id,A6,n6,c6,u.new⟩])=Xx dels (us.map Pr.upd) ((l.map Rw.row).take (i+1)) by
          rw [List.map_append,HG.out,ZbX HX.out HCT.out]
          show _=_++[(r.id,(YM (us.map Pr.upd) r.id).getD r.vs)]
          rw [←HFO.out];rfl)
         go_roundw
         case rel=>exact ⟨i+1,q+1,cap',C',_,by omega,by go_num,by omega,by intro x hx;rcases List.mem_append.1 hx with hx|hx;(exact hoo x hx);(simp at hx;subst hx;exact ⟨hrok.id,k1_,k2_,huo.new⟩),HGN,KE⟩
         case measure=>simp [intOf];omega
       ·have HN:=hid (show outs.map Rw.row=Xx dels (us.map Pr.upd) ((l.map Rw.row).take (i+1)) by rw [HG.out,Zd1 HX.out hct])
        go_wp2_with fail
        go_roundw
        case rel=>exact ⟨i+1,q,cap,O,outs,by omega,by go_num,by omega,hoo,HN,K1.drop (List.sublist_cons_self _ _)⟩
        case measure=>simp [intOf];omega
      ·obtain rfl:i=m:=by omega
       have hd3:decide ((i:Int)<(i:Int))=false:=by simp
       have HGF:=hid (show outs.map Rw.row=goR dels (l.map Rw.row) (us.map Pr.upd) by rw [HG.out,List.take_of_length_le (by rw [List.length_map,HRL.out];exact Nat.le_refl _),Zhl HCB.out])
       have hql:(q:Int)=(i:Int) - (nd:Int):=by
        have KS:=H.Zu 0 rfl
        simp only [List.set_cons_zero] at KS
        have h1:=(show Ro _ _ (RwsIn O q outs) from (KS.ro 0 rfl).and (KS.ro 1 rfl)).now.len
        have h2:=Zd3 HCB.out
        rw [←HGF.out,List.length_map,List.length_map,HRL.out,HDL.out,h1] at h2
        exact h2
       have hw1:IntKind.i64.wrap ((q:Int)+(k:Int))=(q:Int)+(k:Int):=by rw [IntKind.wrap_i64];omega
       have hw2:IntKind.i64.wrap (2147483648 - nx)=2147483648 - nx:=by rw [IntKind.wrap_i64];omega
       have F1:=H.facts
       simp only [zg] at F1
       by_cases hbig:(q:Int)+(k:Int) > 100∨(k:Int) > 2147483648 - nx
       ·have HN:=hid (show YR nm cs nx (l.map Rw.row) (ins.map Sl.vs) dels (us.map Pr.upd)=(10,XZ) by unfold YR;rw [HCB.out,HFZ.out,if_neg (by simp),if_neg (by simp),if_pos (by simp only [List.length_map];rw [HRL.out,HIL.out,HDL.out];omega)])
        by_cases hb1:(q:Int)+(k:Int) > 100
        ·have hdb1:decide ((q:Int)+(k:Int) > 100)=true:=by simp;omega
         clear hbig hb1 hql
         have KN:=(((H.store 4 rfl 0 (.string ⟨#[]⟩)).store 4 rfl 1 (.slice none 0 0)).store 4 rfl 2 (.int .i64 0)).store 4 rfl 3 (.slice none 0 0)
         go_wp2_with fail
         exact bodyPost_ret (v:=.tuple #[.agg #[.string ⟨#[]⟩,.slice none 0 0,.int .i64 0,.slice none 0 0],.int .i64 (10)]) (by simp [results,Tryz.results23,go_sem,F1]) rfl ⟨_,by rw [HN.out],by rw [HN.out];exact VH,KN.below⟩
        ·have hdb1:decide ((q:Int)+(k:Int) > 100)=false:=by simp;omega
         have hdb2:decide ((k:Int) > 2147483648 - nx)=true:=by simp;omega
         clear hbig hb1 hql
         have KN:=(((H.store 4 rfl 0 (.string ⟨#[]⟩)).store 4 rfl 1 (.slice none 0 0)).store 4 rfl 2 (.int .i64 0)).store 4 rfl 3 (.slice none 0 0)
         go_wp2_with fail
         exact bodyPost_ret (v:=.tuple #[.agg #[.string ⟨#[]⟩,.slice none 0 0,.int .i64 0,.slice none 0 0],.int .i64 (10)]) (by simp [results,Tryz.results23,go_sem,F1]) rfl ⟨_,by rw [HN.out],by rw [HN.out];exact VH,KN.below⟩
       ·have hdb1:decide ((q:Int)+(k:Int) > 100)=false:=by simp;omega
        have hdb2:decide ((k:Int) > 2147483648 - nx)=false:=by simp;omega
        have HBIG:=hid (show ¬((i:Int) - (nd:Int)+(k:Int) > 100∨(k:Int) > 2147483648 - nx) by omega)
        have hknx:(k:Int)≤2147483648 - nx:=by omega
        clear hbig hql
        go_wp2_with fail
        clear F1 hw1 hw2 hdb1 hdb2
        go_loopw [120] (fun iv wr=>∃ (kk q cap:Nat) (O:Option Addr) (outs:List Rw),kk≤k∧iv=.int .i64 kk∧q≤i+kk∧(∀ r∈outs,r.ok)∧Hid (outs.map Rw.row=goR dels (l.map Rw.row) (us.map Pr.upd)++YQ nx ((ins.map Sl.vs).take kk))∧Hold M none w wr [.own 124 2 (.slice O q cap) q (ZJ outs),.ro (YT outs),.ro (ColsIn A5 n5 cs),.blk g7 67 #[.string nm,.slice A5 n5 c5,.int .i64 (nx+(kk:Int)),.slice O q cap],.blk (w.heap.size+1+1) 67 #[.string ⟨#[]⟩,.slice none 0 0,.int .i64 0,.slice none 0 0],.cst (w.heap.size+1) 73 #[.slice I k ci,.slice D nd cd,.slice U j cu],.cst w.heap.size 67 #[.string nm,.slice A n c,.int .i64 nx,.slice B i d],.ro (SlR 4 A n (Zd cs)),.ro (RwsIn B i l),.ro (SlsIn I k ins),.ro (IsIn D nd dels),.ro (PrsIn U j us)]) (fun iv _=>k - (intOf iv).toNat)
        case atStart=>exact ⟨0,q,cap,O,outs,by omega,rfl,by omega,hoo,hid (by rw [HGF.out];simp [YQ]),by rw [show nx+((0:Nat):Int)=nx by simp];exact H⟩
        case round=>
         clear H HG HGF hoo hq hd3
         obtain ⟨kk,q,cap,O,outs,hkk,rfl,hq,hoo,HG2,H⟩:=hrel
         by_cases hlt4:kk<k
         ·have hd4:decide ((kk:Int)<(k:Int))=true:=by simp;omega
          have k0:(0:Int)≤(kk:Int):=by omega
          obtain ⟨s,hx⟩:=Zq HIL.out hlt4
          obtain ⟨bi,oi,rfl,hb,c0,_⟩:=(H.ro 9 rfl).now.at_ hx
          have HXI:=hid (show (ins.map Sl.vs)[kk]? =some s.vs by simp [hx])
          have HSM:=hid (List.mem_of_getElem? hx)
          have hsok:=HOI.out s HSM.out
          have hs6:s.n≤6:=by
           have h1:=Vy ((JE HFZ.out).2 s.vs (List.mem_map_of_mem HSM.out))
           have h2:=(HIN.out.2 s HSM.out).len
           have:=HCL.out
           omega
          have hvr:Ro _ (Mut M _) (VlsIn s.A s.n s.vs):=(H.ro 9 rfl).imp fun w2 h2=>h2.2 s HSM.out
          have K4:=H.add hvr
          have F4:=K4.facts
          simp only [zg] at F4
          have hwk:IntKind.i64.wrap (nx+(kk:Int)+1)=nx+(kk:Int)+1:=by rw [IntKind.wrap_i64];omega
          clear hx H hvr
          go_wp2_with fail
          clear F4 c0
          obtain ⟨KL,hKL,KN⟩:=K4.name
          have HF:Hid (∀ wv,Hold M none w wv KL→wv.cell? ⟨g7,2,none⟩=some (.int .i64 (nx+(kk:Int)))∧wv.cell? ⟨g7,3,none⟩=some (.slice O q cap)∧g7<wv.heap.size):=hid fun wv HC=>by
           rw [hKL] at HC
           have y1:=HC.ZF 4 rfl
           exact ⟨cell_of_row _ _ 2 _ _ _ y1,cell_of_row _ _ 3 _ _ _ y1,Blk.lt y1⟩
          have HRX:Hid (∀ wv,Hold M none w wv KL→Ro wv (Mut M KL) (VlsIn s.A s.n s.vs)):=hid fun wv HC=>by
           rw [hKL] at HC ⊢
           exact HC.ro 0 rfl
          have HKL:=hid hKL
          clear hKL K4
          go_wp2_with fail
          refine wp_region_any (by kernel_rfl) ?_
          refine Zp 8 143 (KL) (spL [(129,Z0 (Mut M KL) s.vs),(130,Yx (Mut M KL) (nx+(kk:Int)) s.vs),(131,Yw (Mut M KL) (nx+(kk:Int)) s.vs)]) (by kernel_rfl) (by kernel_rfl) (by kernel_rfl) rfl ?_ (KN.drew) ?_
          ·exact Ze X6 (Ze Vz (Ze Vf (Zo _)))
          simp only [zd,Act.put,List.getElem_toArray,List.getElem_cons_zero,List.getElem_cons_succ,zl]
          iterate 2
           refine' dv rfl rfl rfl (fun wv HC=>?_) ?_;rotate_left
           · go_simp<;>rfl
           simp only [Act.put,zl]
           refine' dv rfl rfl rfl (fun wv HC=>?_) ?_;rotate_left
           ·obtain ⟨f0,f1,f2⟩:=HF.out _ HC;go_simp<;>rfl
           simp only [Act.put,zl]
          refine' dv rfl rfl rfl (fun wv HC=>?_) ?_;rotate_left
          · go_simp<;>rfl
          simp only [Act.put,zl]
          refine Zm 129 (Z0 (Mut M KL) s.vs) (f:=55) (args:=#[.slice s.A s.n s.c]) rfl rfl rfl rfl (fun wv=>?_) (fun wv HC hrm hD=>?_) ?_
          ·go_simp<;>rfl
          ·refine (Xf _ wv HC.Zb s.A s.n s.c s.vs (HRX.out _ HC) (by omega)).mono ?_
           rintro e w5 ⟨A5,n5,c5,rfl,h50,h51,h52,h53,b5⟩
           exact ⟨_,rfl,⟨A5,n5,c5,rfl,h50,h51,h52,h53⟩,HC.call b5,RM.below b5⟩
          rintro x_ wx HCx ⟨A5,n5,c5,rfl,h50,h51,h52,h53⟩
          simp only [Act.put,zl]
          have H50:=hid h50
          clear HCx h53 h50
          refine WA 130 (Yx (Mut M KL) (nx+(kk:Int)) s.vs) rfl rfl rfl rfl (.agg #[.int .i64 (nx+(kk:Int)),.slice A5 n5 c5]) (fun wv HC=>?_) (fun wv HC hD=>?_) ?_
          ·go_simp<;>rfl
          ·have hsl:Z0 (Mut M KL) s.vs (.slice A5 n5 c5) wv:=ZM hD 5 rfl (by kernel_rfl) rfl rfl
           obtain ⟨A6,n6,c6,e6,h1,h2,h3,h4⟩:=hsl
           exact ⟨A6,n6,c6,by rw [e6],h1,h2,h3,h4⟩
          simp only [Act.put,zl]
          refine Ye #[.int .i64 (nx+(kk:Int)),.slice A5 n5 c5] 124 131 (Yw (Mut M KL) (nx+(kk:Int)) s.vs) (fun g=>.slice (some ⟨g,0,none⟩) 1 1) rfl rfl rfl rfl (fun wv=>?_) (fun wv HC _hrm hD hro=>?_) ?_
          ·go_simp<;>rfl
          ·have hsl:Yx (Mut M KL) (nx+(kk:Int)) s.vs (.agg #[.int .i64 (nx+(kk:Int)),.slice A5 n5 c5]) wv:=ZM hD 6 rfl (by kernel_rfl) rfl rfl
           obtain ⟨A6,n6,c6,e6,h1,h2,h3,h4⟩:=hsl
           obtain ⟨rfl,rfl,rfl⟩:A5=A6∧n5=n6∧c5=c6:=by
            injection e6 with e6
            simp at e6
            exact e6
           exact ⟨_,A5,n5,c5,rfl,h1,h2,h3,h4.step (by simp) (fun b hb _=>Below.heap_alloc wv _ b hb) (fun _ _ h=>h),ZL (hro _ HC.Zb) rfl⟩
          rintro g2 wg HCg hsl
          simp only [Act.put,zl]
          clear hsl HCg
          refine Zj ?_
          rintro wx2 HX
          rintro _hrm HGW
          have hb2:Yw (Mut M KL) (nx+(kk:Int)) s.vs (.slice (some ⟨g2,0,none⟩) 1 1) wx2:=(Zl (d:=131) rfl).1 (HGW 7 _ rfl (by omega))
          clear HGW _hrm
          obtain ⟨g3,A6,n6,c6,e6,k0_,k1_,k2_,k3_,k4_⟩:=hb2
          obtain rfl:g2=g3:=by injection e6 with e6;injection e6 with e6;injection e6
          clear e6
          rw [HKL.out] at HX k3_
          have k5:=hid k4_.now
          have HK0:=hid k0_
          clear k4_ k0_ HF HRX KN
          have HRS:=hid (show ZJ outs++[.int .i64 (nx+(kk:Int)),.slice A6 n6 c6]=ZJ (outs++[⟨(nx+(kk:Int)),A6,n6,c6,s.vs⟩]) from WH _ _ _ _ _ _)
          have KA:=HX.add k3_
          clear HX k3_
          have FKA:=KA.facts
          simp only [zg] at FKA
          go_wp2_with (at_builtin;go_must (refine ZW KA 2 rfl Tryz.WE k5.out rfl (.tmp 125) (.tmp 131) rfl rfl rfl (by intro z hz;simp at hz;rcases hz with rfl|rfl<;>rfl) (by omega) (by omega) ?_);intro C' cap' w6 hc6 hm6 KB;rw [HRS.out] at KB;simp only [zl] at KB;(have F3:=KB.facts);simp only [zg] at F3)
          have KC:=(KB.store 5 rfl 3 (.slice C' (q+1) cap')).store 5 rfl 2 (.int .i64 (nx+(kk:Int)+1))
          have KE:=(KC.Yy 3 rfl (Wl (r:=⟨nx+(kk:Int),A6,n6,c6,s.vs⟩) (KC.ro 3 rfl) (KC.ro 0 rfl))).drop (List.Sublist.cons _ (List.sublist_cons_self _ _))
          simp only [Zt,List.set_cons_zero,List.set_cons_succ,List.setIfInBounds_toArray] at KE
          have HGN:=hid (show List.map Rw.row (outs++[⟨nx+(kk:Int),A6,n6,c6,s.vs⟩])=goR dels (l.map Rw.row) (us.map Pr.upd)++YQ nx ((ins.map Sl.vs).take (kk+1)) by
           rw [List.map_append,HG2.out,Zd5 HXI.out,List.append_assoc];rfl)
          go_roundw
          case rel=>exact ⟨kk+1,q+1,cap',C',_,by omega,by go_num,by omega,by intro x hx;rcases List.mem_append.1 hx with hx|hx;(exact hoo x hx);(simp at hx;subst hx;exact ⟨⟨by show _≤nx+(kk:Int);omega,by show nx+(kk:Int)≤_;omega⟩,k1_,k2_,hsok.vs⟩),HGN,by rw [show nx+((kk+1:Nat):Int)=nx+(kk:Int)+1 by omega];exact KE⟩
          case measure=>simp [intOf];omega
         ·obtain rfl:kk=k:=by omega
          have hd4:decide ((kk:Int)<(kk:Int))=false:=by simp
          have HOR:=hid (show outs.map Rw.row=Ul nx (l.map Rw.row) (ins.map Sl.vs) dels (us.map Pr.upd) by rw [HG2.out,List.take_of_length_le (by rw [List.length_map,HIL.out];exact Nat.le_refl _)];rfl)
          have hcq:=ZR (H.get 0 rfl)
          have KS:=H.Zu 0 rfl
          simp only [List.set_cons_zero] at KS
          clear H
          have F2:=KS.facts
          simp only [zg] at F2
          go_wp2_with fail
          have hRW:Ro _ (Mut M _) (RwsIn O q outs):=(KS.ro 0 rfl).and (KS.ro 1 rfl)
          refine (Zal _ _ KS.Zb nm A5 n5 c5 cs (nx+(kk:Int)) O q cap outs (KS.ro 2 rfl) hRW (by have:=HN5.out;omega) (by omega) hoo).mono ?_
          rintro e w8 ⟨rfl,b8⟩
          have K8:=KS.call b8
          clear KS b8 F2 hRW
          have F8:=K8.facts
          simp only [zg] at F8
          cases hdb:YW cs (outs.map Rw.row)
          ·have HN:=hid (show YR nm cs nx (l.map Rw.row) (ins.map Sl.vs) dels (us.map Pr.upd)=(0,⟨nm,cs,nx+(kk:Int),outs.map Rw.row⟩) by
            unfold YR;rw [HCB.out,HFZ.out,if_neg (by simp),if_neg (by simp),if_neg (by simp only [List.length_map];rw [HRL.out,HIL.out,HDL.out];exact HBIG.out),←HOR.out,if_neg (by rw [hdb];simp),List.length_map,HIL.out])
           clear hdb
           have KN:=(((K8.store 4 rfl 0 (.string nm)).store 4 rfl 1 (.slice A5 n5 c5)).store 4 rfl 2 (.int .i64 (nx+(kk:Int)))).store 4 rfl 3 (.slice O q cap)
           go_wp2_with fail
           exact bodyPost_ret (v:=.tuple #[.agg #[.string nm,.slice A5 n5 c5,.int .i64 (nx+(kk:Int)),.slice O q cap],.int .i64 0]) (by simp [results,Tryz.results23,go_sem,F8]) rfl ⟨_,by rw [HN.out],by rw [HN.out];exact ⟨A5,n5,c5,O,q,cap,outs,rfl,h51,h52,hcq.1,hcq.2.1,KN.ZP 2 rfl,(KN.ZP 0 rfl).and (KN.ZP 1 rfl),hoo,rfl⟩,KN.below⟩
          ·have HN:=hid (show YR nm cs nx (l.map Rw.row) (ins.map Sl.vs) dels (us.map Pr.upd)=(9,XZ) by
            unfold YR;rw [HCB.out,HFZ.out,if_neg (by simp),if_neg (by simp),if_neg (by simp only [List.length_map];rw [HRL.out,HIL.out,HDL.out];exact HBIG.out),←HOR.out,if_pos hdb])
           clear hdb
           have KN:=(((K8.store 4 rfl 0 (.string ⟨#[]⟩)).store 4 rfl 1 (.slice none 0 0)).store 4 rfl 2 (.int .i64 0)).store 4 rfl 3 (.slice none 0 0)
           go_wp2_with fail
           exact bodyPost_ret (v:=.tuple #[.agg #[.string ⟨#[]⟩,.slice none 0 0,.int .i64 0,.slice none 0 0],.int .i64 (9)]) (by simp [results,Tryz.results23,go_sem,F8]) rfl ⟨_,by rw [HN.out],by rw [HN.out];exact VH,KN.below⟩



theorem zW {P:List Vl→Prop}:∀ {us:List Upd} {id:Int} {v:List Vl},P v→(∀ u∈us,P u.2.2)→P (V5 us id v)
 | [],_,_,h,_=>h
 | u::us,id,v,h,k=>by
  rw [UX]
  refine zW ?_ fun x hx=>k x (List.mem_cons_of_mem _ hx)
  split
  ·exact k u (List.mem_cons_self ..)
  ·exact h
theorem ApOk.Zih {nm:ByteArray} {cs:List Col} {nx:Int} {rs:List Row} {ins:List (List Vl)} {dels:List Int} {us:List Upd} {T:Tb} (h:ApOk nm cs nx rs ins dels us T):∀ r∈T.rs,ZC cs r.2=0:=fun r hr=>by
 rw [h.tb] at hr
 have hr:r∈keepR dels us rs++YQ nx ins:=hr
 rcases List.mem_append.1 hr with hr|hr
 ·obtain ⟨y,hy,rfl⟩:=List.mem_map.1 hr
  exact zW (P:=fun v=>ZC cs v=0) (Vp (XM h.tab).2.2.2.2.1 y (List.mem_filter.1 hy).1) h.fits.1
 ·unfold YQ at hr
  obtain ⟨p,hp,rfl⟩:=List.mem_map.1 hr
  exact h.fits.2 _ (List.fst_mem_of_mem_zipIdx hp)
theorem Zak {cs:List Col} {nx:Int}:∀ {rs:List Row} {lst:Int},(rs.map (·.1)).Pairwise (·<·)→(∀ r∈rs,lst<r.1∧r.1<nx∧ZC cs r.2=0)→okR cs nx lst rs=true
 | [],_,_,_=>rfl
 | r::rs,lst,h,k=>by
  obtain ⟨h1,h2⟩:=List.pairwise_cons.1 h
  obtain ⟨k1,k2,k3⟩:=k r (List.mem_cons_self ..)
  rw [okR]
  simp only [k1,k2,k3,decide_true,Bool.true_and]
  exact Zak h2 fun x hx=>⟨h1 x.1 (List.mem_map_of_mem (f:=fun x:Row=>x.1) hx),(k x (List.mem_cons_of_mem _ hx)).2⟩
theorem Zaz {α:Type} {nx:Int}:∀ (l:List α) (k:Nat),(((l.zipIdx k).map fun p=>(nx+(p.2:Int),p.1)).map (·.1)).Pairwise (·<·)∧∀ r∈(l.zipIdx k).map fun p=>(nx+(p.2:Int),p.1),nx+(k:Int)≤r.1∧r.1<nx+(k:Int)+l.length
 | [],k=>⟨List.Pairwise.nil,fun _ h=>nomatch h⟩
 | x::l,k=>by
  obtain ⟨h1,h2⟩:=Zaz (nx:=nx) l (k+1)
  rw [List.zipIdx_cons,List.map_cons,List.map_cons]
  refine ⟨List.pairwise_cons.2 ⟨fun a ha=>?_,h1⟩,fun r hr=>?_⟩
  ·obtain ⟨r,hr,rfl⟩:=List.mem_map.1 ha
   have h3:=(h2 r hr).1
   show nx+(k:Int)<r.1
   omega
  ·rcases List.mem_cons.1 hr with rfl|hr
   ·simp only [List.length_cons]
    refine ⟨Int.le_refl _,?_⟩
    show nx+(k:Int)<_
    omega
   ·have h3:=h2 r hr
    simp only [List.length_cons]
    omega
theorem ApOk.Zii {nm:ByteArray} {cs:List Col} {nx:Int} {rs:List Row} {ins:List (List Vl)} {dels:List Int} {us:List Upd} {T:Tb} (h:ApOk nm cs nx rs ins dels us T):Zn T.nm T.cs T.nx T.rs=true:=by
 have hl:=h.len
 have hf:=h.Zih
 obtain ⟨h1,h2,h3,h4,h5,h6⟩:=XM h.tab
 have hlim:=h.lim
 have hnl:=h.nlim
 have hd:=h.dup
 have ha:=h.Zid
 obtain ⟨z1,z2⟩:=Zaz (nx:=nx) ins 0
 have hT:=h.tb
 subst hT
 have hlow:∀ r∈keepR dels us rs,0<r.1∧r.1<nx:=fun r hr=>by
  obtain ⟨y,hy,rfl⟩:=List.mem_map.1 hr
  exact h.low y (List.mem_filter.1 hy).1
 have hins:∀ r∈YQ nx ins,nx≤r.1∧r.1<nx+ins.length:=fun r hr=>by
  have h8:=z2 r hr
  omega
 unfold Zn
 simp only [Bool.and_eq_true,decide_eq_true_eq,Bool.not_eq_true']
 refine ⟨⟨⟨⟨⟨h1,?_⟩,?_⟩,?_⟩,Zak ?_ fun r hr=>?_⟩,hd⟩
 ·have hl2:((keepR dels us rs++YQ nx ins).length:Int)=rs.length - dels.length+ins.length:=hl
  show (keepR dels us rs++YQ nx ins).length≤100
  omega
 ·show 1≤nx+(ins.length:Int)
  omega
 ·show nx+(ins.length:Int)≤2147483648
  omega
 ·show ((keepR dels us rs++YQ nx ins).map (·.1)).Pairwise (·<·)
  rw [List.map_append,List.pairwise_append]
  refine ⟨ha,z1,fun a ha' b hb=>?_⟩
  obtain ⟨x,hx,rfl⟩:=List.mem_map.1 ha'
  obtain ⟨y,hy,rfl⟩:=List.mem_map.1 hb
  have h8:=(hlow x hx).2
  have h9:=(hins y hy).1
  omega
 ·refine ⟨?_,?_,hf r hr⟩
  ·rcases List.mem_append.1 hr with hr|hr
   ·exact (hlow r hr).1
   ·have:=(hins r hr).1;omega
  ·show r.1<nx+(ins.length:Int)
   rcases List.mem_append.1 hr with hr|hr
   ·have:=(hlow r hr).2;omega
   ·exact (hins r hr).2

end Go.Proofs.YtnbbllkbefagmaaGreatDoor
namespace Go.Proofs.YtnbbllkbefagmaaGreatDoor
open Go.RowKit
set_option linter.unusedVariables false
set_option linter.unusedSimpArgs false
structure Dl where
 nm:ByteArray
 ins:List Row
 del:List Row
 upd:List Upd
deriving DecidableEq
def Vb:Dl:=⟨⟨#[]⟩,[],[],[]⟩
def YK (rs l:List Row):List Row:=l.filter fun r=>(Zr rs r.1).isNone
def Y6 (rs l:List Row):List Upd:=l.filterMap fun r=>match Zr rs r.1 with
 | some o=>if o=r.2 then none else some (r.1,o,r.2)
 | none=>none
def XI (a b:Tb):Bool:=Zn a.nm a.cs a.nx a.rs&&Zn b.nm b.cs b.nx b.rs&&decide (a.nm=b.nm∧a.cs=b.cs)&&decide (a.nx≤b.nx)&&b.rs.all fun r=>(Zr a.rs r.1).isSome||decide (a.nx≤r.1)
def ZO (a b:Tb):Bool × Dl:=if XI a b then (true,⟨a.nm,YK a.rs b.rs,YK b.rs a.rs,Y6 a.rs b.rs⟩) else (false,Vb)
theorem zL {rs l:List Row} {j:Nat} {r:Row} (hr:l[j]? =some r) (h:Zr rs r.1=none):YK rs (l.take (j+1))=YK rs (l.take j)++[r]:=by
 unfold YK
 rw [List.take_add_one,hr,Option.toList_some,List.filter_append]
 simp [List.filter_cons,h]
theorem Gm {rs l:List Row} {j:Nat} {r:Row} {v:List Vl} (hr:l[j]? =some r) (h:Zr rs r.1=some v):YK rs (l.take (j+1))=YK rs (l.take j):=by
 unfold YK
 rw [List.take_add_one,hr,Option.toList_some,List.filter_append]
 simp [List.filter_cons,h]
theorem Ze6 {rs l:List Row} {j:Nat} {r:Row} (hr:l[j]? =some r) (h:Zr rs r.1=none):Y6 rs (l.take (j+1))=Y6 rs (l.take j):=by
 unfold Y6
 rw [List.take_add_one,hr,Option.toList_some,List.filterMap_append]
 simp [h]
theorem ZfR {rs l:List Row} {j:Nat} {r:Row} (hr:l[j]? =some r) (h:Zr rs r.1=some r.2):Y6 rs (l.take (j+1))=Y6 rs (l.take j):=by
 unfold Y6
 rw [List.take_add_one,hr,Option.toList_some,List.filterMap_append]
 simp [h]
theorem Zgq {rs l:List Row} {j:Nat} {r:Row} {o:List Vl} (hr:l[j]? =some r) (h:Zr rs r.1=some o) (hne:o≠r.2):Y6 rs (l.take (j+1))=Y6 rs (l.take j)++[(r.1,o,r.2)]:=by
 unfold Y6
 rw [List.take_add_one,hr,Option.toList_some,List.filterMap_append]
 simp [h,hne]
theorem JN {rs:List Row} {id:Int} {v:List Vl} (h:Zr rs id=some v):(id,v)∈rs:=by
 unfold Zr at h
 obtain ⟨x,hx,rfl⟩:=Option.map_eq_some_iff.1 h
 have h1:=List.mem_of_find?_eq_some hx
 have h2:=List.find?_some hx
 simp only [beq_iff_eq] at h2
 subst h2
 exact h1
structure Mg (a b:List Row) (j p:Nat):Prop where
 aasc:(a.map (·.1)).Pairwise (·<·)
 basc:(b.map (·.1)).Pairwise (·<·)
 low:∀ x∈a.take p,∀ y∈b.drop j,x.1<y.1
 up:∀ x∈a.drop p,∀ y∈b.take j,y.1<x.1
theorem Mg.zero {a b:List Row} (ha:(a.map (·.1)).Pairwise (·<·)) (hb:(b.map (·.1)).Pairwise (·<·)):Mg a b 0 0:=⟨ha,hb,fun x hx=>by simp at hx,fun x _ y hy=>by simp at hy⟩
structure BSt (a b:Tb) (j p:Nat) (li ld:List Rw) (lu:List Pr):Prop where
 va:Zn a.nm a.cs a.nx a.rs=true
 vb:Zn b.nm b.cs b.nx b.rs=true
 eq:a.nm=b.nm∧a.cs=b.cs
 nx:a.nx≤b.nx
 mg:Mg a.rs b.rs j p
 ins:li.map Rw.row=YK a.rs (b.rs.take j)
 del:ld.map Rw.row=YK b.rs (a.rs.take p)
 upd:lu.map Pr.upd=Y6 a.rs (b.rs.take j)
 new:∀ r∈b.rs.take j,(Zr a.rs r.1).isSome=true∨a.nx≤r.1
 ok1:∀ r∈li,r.ok
 ok2:∀ r∈ld,r.ok
 ok3:∀ p∈lu,p.ok
theorem Zau {t:Tb} (h:Zn t.nm t.cs t.nx t.rs=true):(t.rs.map (·.1)).Pairwise (·<·):=(VS (XM h).2.2.2.2.1).1
theorem BSt.zero {a b:Tb} (va:Zn a.nm a.cs a.nx a.rs=true) (vb:Zn b.nm b.cs b.nx b.rs=true) (eq:a.nm=b.nm∧a.cs=b.cs) (nx:a.nx≤b.nx):BSt a b 0 0 [] [] []:=
 ⟨va,vb,eq,nx,Mg.zero (Zau va) (Zau vb),rfl,rfl,rfl,fun r hr=>by simp at hr,fun r hr=>(nomatch hr),fun r hr=>(nomatch hr),fun r hr=>(nomatch hr)⟩
theorem QO {α:Type} {P:α→Prop} {l:List α} {x:α} (h:∀ r∈l,P r) (k:P x):∀ r∈l++[x],P r:=fun r hr=>by
 rcases List.mem_append.1 hr with hr|hr
 ·exact h r hr
 ·simp at hr;subst hr;exact k
theorem Gx {P:Row→Prop} {l:List Row} {j:Nat} {r:Row} (h:∀ x∈l.take j,P x) (hr:l[j]? =some r) (k:P r):∀ x∈l.take (j+1),P x:=by
 rw [List.take_add_one,hr,Option.toList_some]
 exact QO h k
section
variable {a b:Tb} {j p:Nat} {li ld:List Rw} {lu:List Pr}
theorem BSt.fin (h:BSt a b j p li ld lu) (hj:b.rs.length≤j) (hp:a.rs.length≤p):ZO a b=(true,⟨a.nm,li.map Rw.row,ld.map Rw.row,lu.map Pr.upd⟩):=by
 have h1:=h.ins
 have h2:=h.del
 have h3:=h.upd
 have h4:=h.new
 rw [List.take_of_length_le hj] at h1 h3 h4
 rw [List.take_of_length_le hp] at h2
 have:XI a b=true:=by
  unfold XI
  rw [h.va,h.vb,decide_eq_true h.eq,decide_eq_true h.nx]
  simp only [Bool.and_self,Bool.true_and,List.all_eq_true,Bool.or_eq_true,decide_eq_true_eq]
  exact h4
 unfold ZO
 rw [this,if_pos rfl,h1,h2,h3]
end
structure RSt (a b:Tb) (j p:Nat) (li ld:List Rw) (lu:List Pr):Prop where
 va:Zn a.nm a.cs a.nx a.rs=true
 vb:Zn b.nm b.cs b.nx b.rs=true
 eq:a.nm=b.nm∧a.cs=b.cs
 nx:a.nx≤b.nx
 ins:li.map Rw.row=YK a.rs (b.rs.take j)
 del:ld.map Rw.row=YK b.rs (a.rs.take p)
 upd:lu.map Pr.upd=Y6 a.rs (b.rs.take j)
 new:∀ r∈b.rs.take j,(Zr a.rs r.1).isSome=true∨a.nx≤r.1
 ok1:∀ r∈li,r.ok
 ok2:∀ r∈ld,r.ok
 ok3:∀ p∈lu,p.ok
theorem RSt.zero {a b:Tb} (va:Zn a.nm a.cs a.nx a.rs=true) (vb:Zn b.nm b.cs b.nx b.rs=true) (eq:a.nm=b.nm∧a.cs=b.cs) (nx:a.nx≤b.nx):RSt a b 0 0 [] [] []:=
 ⟨va,vb,eq,nx,rfl,rfl,rfl,fun r hr=>by simp at hr,fun r hr=>(nomatch hr),fun r hr=>(nomatch hr),fun r hr=>(nomatch hr)⟩
section
variable {a b:Tb} {j p:Nat} {li ld:List Rw} {lu:List Pr}
theorem RSt.Zio (h:RSt a b j p li ld lu) {r:Row} (hr:b.rs[j]? =some r) (h2:Zr a.rs r.1=none) (hn:a.nx≤r.1) {y:Rw} (hy:y.row=r) (hk:y.ok):RSt a b (j+1) p (li++[y]) ld lu:=
 ⟨h.va,h.vb,h.eq,h.nx,by rw [List.map_append,h.ins,zL hr h2,←hy];rfl,h.del,by rw [h.upd,Ze6 hr h2],Gx h.new hr (.inr hn),QO h.ok1 hk,h.ok2,h.ok3⟩
theorem RSt.same (h:RSt a b j p li ld lu) {r:Row} {o:List Vl} (hr:b.rs[j]? =some r) (h2:Zr a.rs r.1=some o) (ho:o=r.2):RSt a b (j+1) p li ld lu:=by
 subst ho
 exact ⟨h.va,h.vb,h.eq,h.nx,by rw [h.ins,Gm hr h2],h.del,by rw [h.upd,ZfR hr h2],Gx h.new hr (.inl (by rw [h2];rfl)),h.ok1,h.ok2,h.ok3⟩
theorem RSt.turn (h:RSt a b j p li ld lu) {r:Row} {o:List Vl} (hr:b.rs[j]? =some r) (h2:Zr a.rs r.1=some o) (ho:o≠r.2) {q:Pr} (hq:q.upd=(r.1,o,r.2)) (hk:q.ok):RSt a b (j+1) p li ld (lu++[q]):=
 ⟨h.va,h.vb,h.eq,h.nx,by rw [h.ins,Gm hr h2],h.del,by rw [List.map_append,h.upd,Zgq hr h2 ho,←hq];rfl,Gx h.new hr (.inl (by rw [h2];rfl)),h.ok1,h.ok2,QO h.ok3 hk⟩
theorem RSt.bad (h:RSt a b j p li ld lu) {r:Row} (hr:b.rs[j]? =some r) (h2:Zr a.rs r.1=none) (hn:r.1<a.nx):ZO a b=(false,Vb):=by
 have:XI a b=false:=by
  unfold XI
  have h3:(b.rs.all fun r=>(Zr a.rs r.1).isSome||decide (a.nx≤r.1))=false:=by
   rw [List.all_eq_false]
   exact ⟨r,List.mem_of_getElem? hr,by rw [h2];simp;omega⟩
  rw [h3,Bool.and_false]
 unfold ZO
 rw [this];rfl
theorem RSt.left (h:RSt a b j p li ld lu) {x:Row} (hx:a.rs[p]? =some x) (h2:Zr b.rs x.1=none) {y:Rw} (hy:y.row=x) (hk:y.ok):RSt a b j (p+1) li (ld++[y]) lu:=
 ⟨h.va,h.vb,h.eq,h.nx,h.ins,by rw [List.map_append,h.del,zL hx h2,←hy];rfl,h.upd,h.new,h.ok1,QO h.ok2 hk,h.ok3⟩
theorem RSt.keep (h:RSt a b j p li ld lu) {x:Row} {v:List Vl} (hx:a.rs[p]? =some x) (h2:Zr b.rs x.1=some v):RSt a b j (p+1) li ld lu:=
 ⟨h.va,h.vb,h.eq,h.nx,h.ins,by rw [h.del,Gm hx h2],h.upd,h.new,h.ok1,h.ok2,h.ok3⟩
theorem RSt.fin (h:RSt a b j p li ld lu) (hj:b.rs.length≤j) (hp:a.rs.length≤p):ZO a b=(true,⟨a.nm,li.map Rw.row,ld.map Rw.row,lu.map Pr.upd⟩):=by
 have h1:=h.ins
 have h2:=h.del
 have h3:=h.upd
 have h4:=h.new
 rw [List.take_of_length_le hj] at h1 h3 h4
 rw [List.take_of_length_le hp] at h2
 have:XI a b=true:=by
  unfold XI
  rw [h.va,h.vb,decide_eq_true h.eq,decide_eq_true h.nx]
  simp only [Bool.and_self,Bool.true_and,List.all_eq_true,Bool.or_eq_true,decide_eq_true_eq]
  exact h4
 unfold ZO
 rw [this,if_pos rfl,h1,h2,h3]
end
theorem Zfh {a b:Tb} (h:Zn a.nm a.cs a.nx a.rs=false):ZO a b=(false,Vb):=by unfold ZO XI;rw [h];rfl
theorem ZdC {a b:Tb} (h:Zn b.nm b.cs b.nx b.rs=false):ZO a b=(false,Vb):=by unfold ZO XI;rw [h];simp
theorem Zg0 {a b:Tb} (h:decide (a.nm=b.nm∧a.cs=b.cs)=false):ZO a b=(false,Vb):=by unfold ZO XI;rw [h];simp
theorem Zg2 {a b:Tb} (h:b.nx<a.nx):ZO a b=(false,Vb):=by
 have:decide (a.nx≤b.nx)=false:=by simp;omega
 unfold ZO XI;rw [this];simp
def JR (w:World) (M:Nat→Prop) (v:Value) (d:Dl):Prop:=
 ∃ (I:Option Addr) (ni ci:Nat) (D:Option Addr) (nd cd:Nat) (U:Option Addr) (nu cu:Nat) (li ld:List Rw) (lu:List Pr),v=.agg #[.string d.nm,.slice I ni ci,.slice D nd cd,.slice U nu cu]∧
  (ni≤ci∧ci≤9223372036854775807)∧(nd≤cd∧cd≤9223372036854775807)∧(nu≤cu∧cu≤9223372036854775807)∧Ro w M (RwsIn I ni li)∧Ro w M (RwsIn D nd ld)∧Ro w M (PrsIn U nu lu)∧
  (∀ r∈li,r.ok)∧(∀ r∈ld,r.ok)∧(∀ p∈lu,p.ok)∧li.map Rw.row=d.ins∧ld.map Rw.row=d.del∧lu.map Pr.upd=d.upd
def ZgE (w:World) (M:Nat→Prop) (r:Bool × Dl) (e:Ending) (w' :World):Prop:=∃ v,e=.returned (.tuple #[v,.bool r.1])∧JR w' M v r.2∧Below w.heap.size w w'
theorem Uu {w:World} {M:Nat→Prop}:JR w M (.agg #[.string ⟨#[]⟩,.slice none 0 0,.slice none 0 0,.slice none 0 0]) Vb:=
 ⟨none,0,0,none,0,0,none,0,0,[],[],[],rfl,by omega,by omega,by omega,fun _ _ _=>⟨Rd.none_,fun r hr=>nomatch hr⟩,fun _ _ _=>⟨Rd.none_,fun r hr=>nomatch hr⟩,fun _ _ _=>⟨Rd.none_,fun r hr=>nomatch hr⟩,fun r hr=>(nomatch hr),fun r hr=>(nomatch hr),fun r hr=>(nomatch hr),rfl,rfl,rfl⟩
end Go.Proofs.YtnbbllkbefagmaaGreatDoor

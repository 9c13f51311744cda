import Derived.Test.YtnmnkbnmollpmaaGreatDoorBdDscSaidMG
import Derived.Test.YtnmnkbnmollpmaaGreatDoorBdDscSaidMH
import Derived.Test.YtnmnkbnmollpmaaGreatDoorBdDscSaidMI
set_option linter.unusedVariables false
set_option linter.unusedSimpArgs false
set_option maxHeartbeats 64000000
set_option maxRecDepth 100000
namespace Go.Proofs.YtnmnkbnmollpmaaGreatDoor
section
open Go.RowKit
theorem zV {x y:Vl} (h0:x.k=y.k) (h1:x.i=y.i) (h2:x.s=y.s):x=y:=by
 obtain ⟨a,b,c⟩:=x;obtain ⟨d,e,f⟩:=y;simp only at h0 h1 h2;rw [h0,h1,h2]
theorem ZaB:∀ x y:List UInt8,Lib.compareBytes x y=0↔x=y
 | [],[]=>by simp [Lib.compareBytes]
 | [],b::y=>by simp [Lib.compareBytes]
 | a::x,[]=>by simp [Lib.compareBytes]
 | a::x,b::y=>by
  simp only [Lib.compareBytes]
  by_cases h1:a<b
  ·have hne:a≠b:=by
    rintro rfl
    have h' :a.toNat<a.toNat:=h1
    omega
   simp [h1,hne]
  ·by_cases h2:b<a
   ·have hne:a≠b:=by
     rintro rfl
     exact h1 h2
    simp [h1,h2,hne]
   ·have he:a=b:=by
     have h1' :¬a.toNat<b.toNat:=h1
     have h2' :¬b.toNat<a.toNat:=h2
     exact UInt8.toNat_inj.1 (by omega)
    subst he
    have:=ZaB x y
    simp [h1,this]
def JZ (p:Prop) (e:Ending):Prop:=∃ r:Int,e=.returned (.int .i64 r)∧(r=0↔p)
theorem Zk5 (a b:ByteArray) (w:World):Calls Tryz.prog 142 #[.string a,.string b] w fun e w' =>JZ (a=b) e∧w=w' :=by
 have h:=Any.strings_Compare Tryz.ZbX a b w
 change Calls Tryz.prog 142 _ _ _ at h
 refine h.mono ?_
 rintro e w' ⟨rfl,rfl⟩
 refine ⟨⟨_,rfl,?_⟩,rfl⟩
 rw [ZaB]
 exact ⟨fun h=>Yc (by rw [ByteArray.toList_eq,ByteArray.toList_eq];exact h),fun h=>by rw [h]⟩
theorem ZjR (x y:Vl) (w:World):Calls Tryz.prog 99 #[.agg #[.int .i64 x.k,.int .i64 x.i,.string x.s],.agg #[.int .i64 y.k,.int .i64 y.i,.string y.s]] w fun e w' =>JZ (x=y) e∧Below w.heap.size w w' :=by
 obtain ⟨xk,xi,xs⟩:=x
 obtain ⟨yk,yi,ys⟩:=y
 dsimp only
 have K0:=((Hold.Yi w).Za #[.int .i64 xk,.int .i64 xi,.string xs] 30).Za #[.int .i64 yk,.int .i64 yi,.string ys] 30
 rw [KP] at K0
 have F0:=K0.facts
 simp only [zg] at F0
 by_cases hk:xk=yk
 ·subst hk
  have hb:(xk !=xk)=false:=by simp
  by_cases hi:xi=yi
  ·subst hi
   have hb2:(xi !=xi)=false:=by simp
   go_enter Tryz.func99,Tryz.ntmps99
   go_wp2_with fail
   refine (Zk5 xs ys _).mono ?_
   rintro e w1 ⟨⟨r,rfl,hr⟩,rfl⟩
   have HR:=hid hr
   clear hr
   go_wp2_with fail
   go_ret
   refine ⟨⟨r,rfl,?_⟩,K0.below⟩
   rw [HR.out];simp
  ·have hb2:(xi !=yi)=true:=by simpa using hi
   have HI:=hid hi
   rcases Int.lt_or_le xi yi with hl|hl
   ·have hd:decide (xi<yi)=true:=by simpa using hl
    clear hi hl
    go_enter Tryz.func99,Tryz.ntmps99
    go_wp2_with fail
    go_ret
    exact ⟨⟨-1,rfl,by have:=HI.out;simp [this]⟩,K0.below⟩
   ·have hd:decide (xi<yi)=false:=by rw [decide_eq_false_iff_not];omega
    clear hi hl
    go_enter Tryz.func99,Tryz.ntmps99
    go_wp2_with fail
    go_ret
    exact ⟨⟨1,rfl,by have:=HI.out;simp [this]⟩,K0.below⟩
 ·have hb:(xk !=yk)=true:=by simpa using hk
  have HI:=hid hk
  rcases Int.lt_or_le xk yk with hl|hl
  ·have hd:decide (xk<yk)=true:=by simpa using hl
   clear hk hl
   go_enter Tryz.func99,Tryz.ntmps99
   go_wp2_with fail
   go_ret
   exact ⟨⟨-1,rfl,by have:=HI.out;simp [this]⟩,K0.below⟩
  ·have hd:decide (xk<yk)=false:=by rw [decide_eq_false_iff_not];omega
   clear hk hl
   go_enter Tryz.func99,Tryz.ntmps99
   go_wp2_with fail
   go_ret
   exact ⟨⟨1,rfl,by have:=HI.out;simp [this]⟩,K0.below⟩
def V6 (p:Prop) (u:Value) (_:World):Prop:=∃ r:Int,u=.int .i64 r∧(r=0↔p)
theorem Qy {α:Type} {xs ys:List α} {k:Nat} {x y:α} (hx:xs[k]? =some x) (hy:ys[k]? =some y) (h:x≠y):xs≠ys:=by
 rintro rfl
 rw [hx] at hy
 injection hy with hy
 exact h hy
theorem zb (M:Nat→Prop) (w:World) (hM:∀ b,M b→b<w.heap.size) (A:Option Addr) (n c:Nat) (xs:List Vl) (B:Option Addr) (m d:Nat) (ys:List Vl) (hD:Ro w M (VlsIn A n xs)) (hE:Ro w M (VlsIn B m ys)) (hn:n≤9223372036854775807) (hm:m≤9223372036854775807):
  Calls Tryz.prog 61 #[.slice A n c,.slice B m d] w fun e w' =>JZ (xs=ys) e∧Below w.heap.size w w' :=by
 have HX:=hid hD.now.len
 have HY:=hid hE.now.len
 have K0:=((Hold.start M w hM).add (hE.less (by simp [Mut]))).add (hD.less (by simp [Mut,Hp.foot]))
 clear hD hE
 go_enter Tryz.func61,Tryz.ntmps61
 go_wp2_with fail
 go_loopw [5] (fun iv wr=>∃ k:Nat,k≤n∧k≤m∧iv=.int .i64 k∧Hid (xs.take k=ys.take k)∧Hold M none w wr [.ro (VlsIn A n xs),.ro (VlsIn B m ys)]) (fun iv _=>n - (intOf iv).toNat)
 case atStart=>exact ⟨0,by omega,by omega,rfl,hid rfl,K0⟩
 case round=>
  clear K0
  obtain ⟨k,hk,hkm,rfl,HT,H⟩:=hrel
  by_cases hlt:k<n
  ·have hd:decide ((k:Int)<(n:Int))=true:=by simp;omega
   by_cases hltm:k<m
   ·have hdm:decide ((k:Int)<(m:Int))=true:=by simp;omega
    have k0:(0:Int)≤(k:Int):=by omega
    have k1:(k:Int)<(n:Int):=by omega
    have k2:(k:Int)<(m:Int):=by omega
    obtain ⟨x,hx⟩:=Zl HX.out hlt
    obtain ⟨y,hy⟩:=Zl HY.out hltm
    obtain ⟨b1,o1,rfl,r1⟩:=(H.ro 0 rfl).JN hx
    obtain ⟨b2,o2,rfl,r2⟩:=(H.ro 1 rfl).JN hy
    have HXX:=hid hx
    have HYY:=hid hy
    clear hx hy
    have K1:=(H.add r1).add (r2.less (X8 rfl))
    clear r1 r2
    obtain ⟨KL,hKL,K2⟩:=K1.name
    clear K1
    have HF:Hid (∀ wv,Hold M none w wv KL→(b2<wv.heap.size∧wv.cell? ⟨b2,o2+k * 3,none⟩=some (.int .i64 y.k)∧wv.cell? ⟨b2,o2+k * 3+1,none⟩=some (.int .i64 y.i)∧wv.cell? ⟨b2,o2+k * 3+2,none⟩=some (.string y.s))∧b1<wv.heap.size∧wv.cell? ⟨b1,o1+k * 3,none⟩=some (.int .i64 x.k)∧wv.cell? ⟨b1,o1+k * 3+1,none⟩=some (.int .i64 x.i)∧wv.cell? ⟨b1,o1+k * 3+2,none⟩=some (.string x.s)):=hid fun wv HC=>by
     rw [hKL] at HC
     exact ⟨(HC.ro 0 rfl).now,(HC.ro 1 rfl).now⟩
    have HKL:=hid hKL
    clear hKL
    go_wp2_with fail
    refine Lj (by kernel_rfl) ?_
    refine Zn 10 41 (KL) (spL [(27,V6 (x=y))]) (by kernel_rfl) (by kernel_rfl) (by kernel_rfl) rfl ?_ (K2.drew) ?_
    ·exact Zd (fun _ _ _ _ h=>h) (Zm _)
    simp only [zd,zp,List.getElem_toArray,List.getElem_cons_zero,List.getElem_cons_succ]
    iterate 3
     refine' dv rfl rfl rfl (fun wv HC=>?_) ?_;rotate_left
     · go_simp<;>rfl
     simp only [zp]
    refine' dv rfl rfl rfl (fun wv HC=>?_) ?_;rotate_left
    ·obtain ⟨⟨f0,f1,f2,f3⟩,f4,f5,f6,f7⟩:=HF.out _ HC;go_simp<;>rfl
    iterate 3
     simp only [zp]
     refine' dv rfl rfl rfl (fun wv HC=>?_) ?_;rotate_left
     · go_simp<;>rfl
    simp only [zp]
    refine' dv rfl rfl rfl (fun wv HC=>?_) ?_;rotate_left
    ·obtain ⟨⟨f0,f1,f2,f3⟩,f4,f5,f6,f7⟩:=HF.out _ HC;go_simp<;>rfl
    simp only [zp]
    refine Zi 27 (V6 (x=y)) (f:=99) (args:=#[.agg #[.int .i64 x.k,.int .i64 x.i,.string x.s],.agg #[.int .i64 y.k,.int .i64 y.i,.string y.s]]) rfl rfl rfl rfl (fun wv=>?_) (fun wv HC hrm hD=>?_) ?_
    ·go_simp<;>rfl
    ·refine (ZjR x y wv).mono ?_
     rintro e w5 ⟨⟨r,rfl,hr⟩,b5⟩
     exact ⟨_,rfl,⟨r,rfl,hr⟩,HC.call b5,RM.below b5⟩
    rintro u wx HCx ⟨r,rfl,hr⟩
    have HR:=hid hr
    clear HCx hr
    simp only [zp]
    refine' dv rfl rfl rfl (fun wv HC=>?_) ?_;rotate_left
    · go_simp<;>rfl
    simp only [zp]
    refine Zk ?_
    rintro wx2 HX2
    rintro _hrm _HG
    rw [HKL.out] at HX2
    clear _hrm _HG
    have K3:=HX2.drop (Ke _ (Kb _ _))
    by_cases hr0:r=0
    ·have hb:(r !=0)=false:=by simp [hr0]
     have HN:=hid (Zdq HXX.out HYY.out HT.out (HR.out.1 hr0))
     clear hr0
     go_wp2_with fail
     go_roundw
     case rel=>exact ⟨k+1,by omega,by omega,by go_num,HN,K3⟩
     case measure=>simp [intOf];omega
    ·have hb:(r !=0)=true:=by simpa using hr0
     have HN:=hid (show r=0↔xs=ys from ⟨fun h=>absurd h hr0,fun h=>absurd h (Qy HXX.out HYY.out fun e=>hr0 (HR.out.2 e))⟩)
     clear hr0
     go_wp2_with fail
     go_ret
     exact ⟨⟨r,rfl,HN.out⟩,K3.below⟩
   ·obtain rfl:k=m:=by omega
    have hdm:decide ((k:Int)<(k:Int))=false:=by simp
    have hd2:decide ((n:Int)<(k:Int))=false:=by rw [decide_eq_false_iff_not];omega
    have hd3:decide ((k:Int)<(n:Int))=true:=by simp;omega
    have hd4:decide ((n:Int) > (k:Int))=true:=by simp;omega
    have HN:=hid (show xs≠ys from fun e=>by have h1:=HX.out;have h2:=HY.out;rw [e] at h1;omega)
    go_wp2_with fail
    go_ret
    exact ⟨⟨1,rfl,by have:=HN.out;simp [this]⟩,H.below⟩
  ·obtain rfl:k=n:=by omega
   have hd:decide ((k:Int)<(k:Int))=false:=by simp
   by_cases hkm2:k=m
   ·subst hkm2
    have hd4:decide ((k:Int) > (k:Int))=false:=by simp
    have HN:=hid (show xs=ys by have h:=HT.out;rwa [Kh (by rw [HX.out];exact Kg _),Kh (by rw [HY.out];exact Kg _)] at h)
    go_wp2_with fail
    go_ret
    exact ⟨⟨0,rfl,by have:=HN.out;simp [this]⟩,H.below⟩
   ·have hd2:decide ((k:Int)<(m:Int))=true:=by simp;omega
    have HN:=hid (show xs≠ys from fun e=>by have h1:=HX.out;have h2:=HY.out;rw [e] at h1;omega)
    have hkm3:k<m:=by omega
    clear hkm2
    go_wp2_with fail
    go_ret
    exact ⟨⟨-1,rfl,by have:=HN.out;simp [this]⟩,H.below⟩
structure LinC {α:Type} (c:α→α→Int):Prop where
 eq:∀ x y,c x y=0↔x=y
 flip:∀ x y,c x y<0↔0<c y x
 trans:∀ x y z,c x y<0→c y z<0→c x z<0
theorem Wt (x y:Int):(x<y∧Xd x y=-1)∨(x=y∧Xd x y=0)∨(y<x∧Xd x y=1):=by
 unfold Xd
 rcases Int.lt_trichotomy x y with h|h|h
 ·exact .inl ⟨h,Lg h⟩
 ·exact .inr (.inl ⟨h,by rw [Lf (by omega),Lf (by omega)]⟩)
 ·exact .inr (.inr ⟨h,by rw [Lf (by omega),Lg h]⟩)
theorem Je:LinC Xd where
 eq x y:=by rcases Wt x y with h|h|h<;>omega
 flip x y:=by rcases Wt x y with h|h|h<;>rcases Wt y x with k|k|k<;>omega
 trans x y z h k:=by rcases Wt x y with a|a|a<;>rcases Wt y z with b|b|b<;>rcases Wt x z with c|c|c<;>omega
theorem ZaA:∀ x y:List UInt8,Lib.compareBytes x y=if Op.bytesLess x y then -1 else if x==y then 0 else 1
 | [],[]=>by simp [Lib.compareBytes,Op.bytesLess]
 | [],b::y=>by simp [Lib.compareBytes,Op.bytesLess]
 | a::x,[]=>by simp [Lib.compareBytes,Op.bytesLess]
 | a::x,b::y=>by
  simp only [Lib.compareBytes,Op.bytesLess]
  by_cases h1:a<b
  ·simp [h1]
  ·by_cases h2:b<a
   ·have hne:a≠b:=by
     rintro rfl
     exact h1 h2
    simp [h1,h2,hne]
   ·have he:a=b:=by
     have h1' :¬a.toNat<b.toNat:=h1
     have h2' :¬b.toNat<a.toNat:=h2
     exact UInt8.toNat_inj.1 (by omega)
    subst he
    have:=ZaA x y
    simp [h1,this]
theorem toList_data (s:ByteArray):s.toList=s.data.toList:=by
 rw [ByteArray.toList_eq]
theorem Zk6 (a b:ByteArray) (w:World):Calls Tryz.prog 142 #[.string a,.string b] w fun e w' =>e=.returned (.int .i64 (VK a b))∧w=w' :=by
 have h:=Any.strings_Compare Tryz.ZbX a b w
 change Calls Tryz.prog 142 _ _ _ at h
 refine h.mono ?_
 rintro e w' ⟨rfl,rfl⟩
 exact ⟨by rw [ZaA];unfold VK;rw [toList_data,toList_data],rfl⟩
theorem ZjS (x y:Vl) (w:World):Calls Tryz.prog 99 #[.agg #[.int .i64 x.k,.int .i64 x.i,.string x.s],.agg #[.int .i64 y.k,.int .i64 y.i,.string y.s]] w fun e w' =>e=.returned (.int .i64 (Xl x y))∧Below w.heap.size w w' :=by
 obtain ⟨xk,xi,xs⟩:=x
 obtain ⟨yk,yi,ys⟩:=y
 dsimp only
 have K0:=((Hold.Yi w).Za #[.int .i64 xk,.int .i64 xi,.string xs] 30).Za #[.int .i64 yk,.int .i64 yi,.string ys] 30
 rw [KP] at K0
 have F0:=K0.facts
 simp only [zg] at F0
 by_cases hk:xk=yk
 ·subst hk
  have hb:(xk !=xk)=false:=by simp
  by_cases hi:xi=yi
  ·subst hi
   have hb2:(xi !=xi)=false:=by simp
   go_enter Tryz.func99,Tryz.ntmps99
   go_wp2_with fail
   have HN:=hid (show Xl ⟨xk,xi,xs⟩ ⟨xk,xi,ys⟩=VK xs ys by
    have h1:=(Je.eq xk xk).2 rfl
    have h2:=(Je.eq xi xi).2 rfl
    by_cases h3:VK xs ys=0<;>simp [Xl,Uk,X0,h1,h2,h3])
   refine (Zk6 xs ys _).mono ?_
   rintro e w1 ⟨rfl,rfl⟩
   go_wp2_with fail
   go_ret
   exact ⟨by rw [HN.out]<;>rfl,K0.below⟩
  ·have hb2:(xi !=yi)=true:=by simpa using hi
   have HI:=hid hi
   rcases Int.lt_or_le xi yi with hl|hl
   ·have hd:decide (xi<yi)=true:=by simpa using hl
    have HN:=hid (show Xl ⟨xk,xi,xs⟩ ⟨xk,yi,ys⟩=-1 by
     have h1:=(Je.eq xk xk).2 rfl
     have h2:Xd xi yi=-1:=by rcases Wt xi yi with h|h|h<;>omega
     simp [Xl,Uk,X0,h2,h1])
    clear hi hl
    go_enter Tryz.func99,Tryz.ntmps99
    go_wp2_with fail
    go_ret
    exact ⟨by rw [HN.out]<;>rfl,K0.below⟩
   ·have hd:decide (xi<yi)=false:=by rw [decide_eq_false_iff_not];omega
    have HN:=hid (show Xl ⟨xk,xi,xs⟩ ⟨xk,yi,ys⟩=1 by
     have h1:=(Je.eq xk xk).2 rfl
     have h2:Xd xi yi=1:=by rcases Wt xi yi with h|h|h<;>omega
     simp [Xl,Uk,X0,h2,h1])
    clear hi hl
    go_enter Tryz.func99,Tryz.ntmps99
    go_wp2_with fail
    go_ret
    exact ⟨by rw [HN.out]<;>rfl,K0.below⟩
 ·have hb:(xk !=yk)=true:=by simpa using hk
  have HI:=hid hk
  rcases Int.lt_or_le xk yk with hl|hl
  ·have hd:decide (xk<yk)=true:=by simpa using hl
   have HN:=hid (show Xl ⟨xk,xi,xs⟩ ⟨yk,yi,ys⟩=-1 by
    have h2:Xd xk yk=-1:=by rcases Wt xk yk with h|h|h<;>omega
    simp [Xl,Uk,X0,h2])
   clear hk hl
   go_enter Tryz.func99,Tryz.ntmps99
   go_wp2_with fail
   go_ret
   exact ⟨by rw [HN.out]<;>rfl,K0.below⟩
  ·have hd:decide (xk<yk)=false:=by rw [decide_eq_false_iff_not];omega
   have HN:=hid (show Xl ⟨xk,xi,xs⟩ ⟨yk,yi,ys⟩=1 by
    have h2:Xd xk yk=1:=by rcases Wt xk yk with h|h|h<;>omega
    simp [Xl,Uk,X0,h2])
   clear hk hl
   go_enter Tryz.func99,Tryz.ntmps99
   go_wp2_with fail
   go_ret
   exact ⟨by rw [HN.out]<;>rfl,K0.below⟩
end
end Go.Proofs.YtnmnkbnmollpmaaGreatDoor

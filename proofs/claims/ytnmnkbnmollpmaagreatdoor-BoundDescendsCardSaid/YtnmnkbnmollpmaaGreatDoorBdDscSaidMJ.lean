import Derived.Test.YtnmnkbnmollpmaaGreatDoorBdDscSaidMF
import Derived.Test.YtnmnkbnmollpmaaGreatDoorBdDscSaidMG
set_option linter.unusedVariables false
set_option linter.unusedSimpArgs false
set_option maxHeartbeats 64000000
set_option maxRecDepth 100000
namespace Go.Proofs.YtnmnkbnmollpmaaGreatDoor
section
open Go.RowKit
def Zh (nm:ByteArray) (cs:List Col) (nx:Int) (rs:List Row):Bool:=Yx nm cs&&decide (rs.length≤100)&&decide (1≤nx)&&decide (nx≤2147483648)&&okR cs nx 0 rs&&!YH cs rs
theorem ZlI {nm:ByteArray} {cs:List Col} {nx:Int} {rs:List Row} (h:Yx nm cs=false):Zh nm cs nx rs=false:=by simp [Zh,h]
theorem ZlJ {nm:ByteArray} {cs:List Col} {nx:Int} {rs:List Row} (h:100<rs.length):Zh nm cs nx rs=false:=by
 have:¬rs.length≤100:=by omega
 simp [Zh,this]
theorem ZlK {nm:ByteArray} {cs:List Col} {nx:Int} {rs:List Row} (h:nx<1):Zh nm cs nx rs=false:=by
 have:¬1≤nx:=by omega
 simp [Zh,this]
theorem ZlL {nm:ByteArray} {cs:List Col} {nx:Int} {rs:List Row} (h:2147483648<nx):Zh nm cs nx rs=false:=by
 have:¬nx≤2147483648:=by omega
 simp [Zh,this]
theorem Qv {nm:ByteArray} {cs:List Col} {nx:Int} {rs:List Row} (h:okR cs nx 0 rs=false):Zh nm cs nx rs=false:=by simp [Zh,h]
theorem Zdn {nm:ByteArray} {cs:List Col} {nx:Int} {rs:List Row} (h1:Yx nm cs=true) (h2:rs.length≤100) (h3:1≤nx) (h4:nx≤2147483648) (h5:okR cs nx 0 rs=true):Zh nm cs nx rs=!YH cs rs:=by simp [Zh,h1,h2,h3,h4,h5]
theorem Qj {cs:List Col} {nx lst:Int} {rs:List Row} {j:Nat} {r:Row} (hr:rs[j]? =some r) (h:r.1≤lst∨nx≤r.1∨Zt cs r.2≠0):okR cs nx lst (rs.drop j)=false:=by
 rw [Yr hr,okR]
 rcases h with h|h|h
 ·rw [decide_eq_false (show ¬lst<r.1 by omega)];rfl
 ·rw [decide_eq_false (show ¬r.1<nx by omega)];simp
 ·rw [decide_eq_false h];simp
theorem Zcg {cs:List Col} {nx lst:Int} {rs:List Row} {j:Nat} {r:Row} (hr:rs[j]? =some r) (h1:lst<r.1) (h2:r.1<nx) (h3:Zt cs r.2=0):okR cs nx lst (rs.drop j)=okR cs nx r.1 (rs.drop (j+1)):=by
 rw [Yr hr,okR,decide_eq_true h1,decide_eq_true h2,decide_eq_true h3];rfl
theorem ZiS {cs:List Col} {nx lst:Int} {rs:List Row} {j:Nat} (h:rs.length≤j):okR cs nx lst (rs.drop j)=true:=by rw [Ld h];rfl
theorem VV (M:Nat→Prop) (w:World) (hM:∀ b,M b→b<w.heap.size) (nm:ByteArray) (A:Option Addr) (n c:Nat) (cs:List Col) (nx:Int) (B:Option Addr) (m d:Nat) (l:List Rw) (hD:Ro w M (SlR 4 A n (Zf cs))) (hE:Ro w M (RwsIn B m l)) (hn:n≤9223372036854775807) (hm:m≤4611686018427387904) (hok:∀ r∈l,r.ok) (hs:nm.size≤maxLen) (hcs:∀ x∈cs,x.name.size≤maxLen):
  Calls Tryz.prog 57 #[.agg #[.string nm,.slice A n c,.int .i64 nx,.slice B m d]] w fun e w' =>e=.returned (.bool (Zh nm cs nx (l.map Rw.row)))∧Below w.heap.size w w' :=by
 have HL:=hid hE.now.len
 have HML:=hid (show (l.map Rw.row).length=m by rw [Kj,HL.out])
 have K0:=(((Hold.start M w hM).add (hE.less (by simp [Mut]))).add (hD.less (by simp [Mut,Hp.foot]))).Za #[.string nm,.slice A n c,.int .i64 nx,.slice B m d] 69
 have F0:=K0.facts
 simp only [zg] at F0
 clear hD hE
 go_enter Tryz.func57,Tryz.ntmps57
 go_wp2_with fail
 refine (ZkH _ _ K0.Zb nm A n c cs (K0.ro 1 rfl) hn hs hcs).mono ?_
 rintro e w1 ⟨rfl,b1⟩
 have K1:=K0.call b1
 clear K0 b1 F0
 have F1:=K1.facts
 simp only [zg] at F1
 cases hsb:Yx nm cs
 ·have HN:=hid (show Zh nm cs nx (l.map Rw.row)=false from ZlI hsb)
  go_wp2_with fail
  go_ret
  exact ⟨by rw [HN.out]<;>rfl,K1.below⟩
 have HSB:=hid hsb;clear hsb
 by_cases h1:100<m
 ·have h1d:decide ((m:Int) > 100)=true:=by simp;omega
  have HN:=hid (show Zh nm cs nx (l.map Rw.row)=false from ZlJ (by rw [HML.out];exact h1))
  go_wp2_with fail
  go_ret
  exact ⟨by rw [HN.out]<;>rfl,K1.below⟩
 have h1d:decide ((m:Int) > 100)=false:=by simp;omega
 by_cases h2:nx<1
 ·have h2d:decide (nx<1)=true:=by simpa using h2
  have HN:=hid (show Zh nm cs nx (l.map Rw.row)=false from ZlK h2)
  go_wp2_with fail
  go_ret
  exact ⟨by rw [HN.out]<;>rfl,K1.below⟩
 have h2d:decide (nx<1)=false:=by simpa using h2
 by_cases h3:2147483648<nx
 ·have h3d:decide (nx > 2147483648)=true:=by simpa using h3
  have HN:=hid (show Zh nm cs nx (l.map Rw.row)=false from ZlL h3)
  go_wp2_with fail
  go_ret
  exact ⟨by rw [HN.out]<;>rfl,K1.below⟩
 have h3d:decide (nx > 2147483648)=false:=by simpa using h3
 go_wp2_with fail
 clear F1
 go_loopw [28] (fun iv wr=>∃ (j:Nat) (lst:Int),j≤m∧iv=.int .i64 j∧0≤lst∧Hid ((j=0→lst=0)∧∀ p,j=p+1→∃ r:Rw,l[p]? =some r∧r.id=lst)∧Hid (okR cs nx 0 (l.map Rw.row)=okR cs nx lst ((l.map Rw.row).drop j))∧Hold M none w wr [.cst w.heap.size 69 #[.string nm,.slice A n c,.int .i64 nx,.slice B m d],.ro (SlR 4 A n (Zf cs)),.ro (RwsIn B m l)]) (fun iv _=>m - (intOf iv).toNat)
 case atStart=>exact ⟨0,0,by omega,rfl,by omega,hid ⟨fun _=>rfl,fun p hp=>by omega⟩,hid rfl,K1⟩
 case round=>
  clear K1
  obtain ⟨j,lst,hj,rfl,hl0,HP,HS,H⟩:=hrel
  by_cases hlt:j<m
  ·have hdd:decide ((j:Int)<(m:Int))=true:=by simp;omega
   have j0:(0:Int)≤(j:Int):=by omega
   obtain ⟨x,hx⟩:=Zl HL.out hlt
   obtain ⟨g,o,rfl,hgb,c0,c1,hvi⟩:=(H.ro 2 rfl).now.at_ hx
   have hrok:=hok x (Ka hx)
   have HX:=hid (show (l.map Rw.row)[j]? =some (x.id,x.vs) by simp [hx,Rw.row])
   have HXM:=hid (Ka hx)
   have HXL:=hid hx
   have K2:=H.Za #[.int .i64 x.id,.slice x.A x.n x.c] 72
   clear hx
   have hxn:x.n≤9223372036854775807:=KI hrok.nc hrok.c
   by_cases a1:x.id<1
   ·have a1d:decide (x.id<1)=true:=by simpa using a1
    have HN:=hid (show Zh nm cs nx (l.map Rw.row)=false from Qv (by rw [HS.out];exact Qj HX.out (.inl (show x.id≤lst by omega))))
    clear a1
    obtain ⟨gb,hgb2⟩:∃ gb,gb=wr.heap.size:=⟨_,rfl⟩
    obtain ⟨KL,hKL⟩:∃ KL:List Hp,KL=[Hp.cst wr.heap.size 72 #[.int .i64 x.id,.slice x.A x.n x.c],.cst w.heap.size 69 #[.string nm,.slice A n c,.int .i64 nx,.slice (some ⟨g,o,none⟩) m d],.ro (SlR 4 A n (Zf cs)),.ro (RwsIn (some ⟨g,o,none⟩) m l)]:=⟨_,rfl⟩
    rw [←hKL] at K2
    rw [←hgb2] at hKL
    have HF:Hid (∀ wv,Hold M none w wv KL→wv.cell? ⟨gb,0,none⟩=some (.int .i64 x.id)∧wv.cell? ⟨gb,1,none⟩=some (.slice x.A x.n x.c)∧gb<wv.heap.size∧wv.cell? ⟨w.heap.size,0,none⟩=some (.string nm)∧wv.cell? ⟨w.heap.size,1,none⟩=some (.slice A n c)∧wv.cell? ⟨w.heap.size,2,none⟩=some (.int .i64 nx)∧wv.cell? ⟨w.heap.size,3,none⟩=some (.slice (some ⟨g,o,none⟩) m d)∧w.heap.size<wv.heap.size):=hid fun wv HC=>by
     rw [hKL] at HC
     have b0:=HC.Zg 0 rfl
     have b1:=HC.Zg 1 rfl
     exact ⟨Li _ _ 0 _ _ _ b0,Li _ _ 1 _ _ _ b0,Blk.lt b0,Li _ _ 0 _ _ _ b1,Li _ _ 1 _ _ _ b1,Li _ _ 2 _ _ _ b1,Li _ _ 3 _ _ _ b1,Blk.lt b1⟩
    have HKL:Hid (∀ wv,Hold M none w wv KL→Ro wv (Mut M KL) (SlR 4 A n (Zf cs))∧Ro wv (Mut M KL) (VlsIn x.A x.n x.vs)):=hid fun wv HC=>by
     rw [hKL] at HC ⊢
     exact ⟨HC.ro 2 rfl,(HC.ro 3 rfl).imp fun w2 h2=>h2.2 x HXM.out⟩
    go_wp2_with fail
    rw [←hgb2]
    have HGB:=hid hgb2
    have HKE:=hid hKL
    clear hgb2 hKL
    generalize wr.alloc (.cells #[.int .i64 x.id,.slice x.A x.n x.c] 72)=w2 at *
    refine Lj (by kernel_rfl) ?_
    refine Zn 33 71 (KL) (spL []) (by kernel_rfl) (by kernel_rfl) (by kernel_rfl) rfl ?_ (K2.drew) ?_
    ·exact Zm _
    simp only [zd,zp,List.getElem_toArray,List.getElem_cons_zero,List.getElem_cons_succ]
    repeat (first|(refine dw_skip rfl rfl rfl ?_;simp only [zp])|(refine' dv rfl rfl rfl (fun wv HC=>?_) ?_;rotate_left;(focus (obtain ⟨f0,f1,f2,f3,f4,f5,f6,f7⟩:=HF.out _ HC;go_simp<;>rfl;done));simp only [zp]))
    refine Zk ?_
    rintro wx2 HX2
    rintro _hrm _HG
    rw [HKE.out] at HX2
    clear _hrm _HG
    go_wp2_with fail
    go_ret
    exact ⟨by rw [HN.out]<;>rfl,HX2.below⟩
   have a1d:decide (x.id<1)=false:=by simpa using a1
   by_cases a2:nx≤x.id
   ·have a2d:decide (x.id≥nx)=true:=by simpa using a2
    have HN:=hid (show Zh nm cs nx (l.map Rw.row)=false from Qv (by rw [HS.out];exact Qj HX.out (.inr (.inl a2))))
    clear a1 a2
    obtain ⟨gb,hgb2⟩:∃ gb,gb=wr.heap.size:=⟨_,rfl⟩
    obtain ⟨KL,hKL⟩:∃ KL:List Hp,KL=[Hp.cst wr.heap.size 72 #[.int .i64 x.id,.slice x.A x.n x.c],.cst w.heap.size 69 #[.string nm,.slice A n c,.int .i64 nx,.slice (some ⟨g,o,none⟩) m d],.ro (SlR 4 A n (Zf cs)),.ro (RwsIn (some ⟨g,o,none⟩) m l)]:=⟨_,rfl⟩
    rw [←hKL] at K2
    rw [←hgb2] at hKL
    have HF:Hid (∀ wv,Hold M none w wv KL→wv.cell? ⟨gb,0,none⟩=some (.int .i64 x.id)∧wv.cell? ⟨gb,1,none⟩=some (.slice x.A x.n x.c)∧gb<wv.heap.size∧wv.cell? ⟨w.heap.size,0,none⟩=some (.string nm)∧wv.cell? ⟨w.heap.size,1,none⟩=some (.slice A n c)∧wv.cell? ⟨w.heap.size,2,none⟩=some (.int .i64 nx)∧wv.cell? ⟨w.heap.size,3,none⟩=some (.slice (some ⟨g,o,none⟩) m d)∧w.heap.size<wv.heap.size):=hid fun wv HC=>by
     rw [hKL] at HC
     have b0:=HC.Zg 0 rfl
     have b1:=HC.Zg 1 rfl
     exact ⟨Li _ _ 0 _ _ _ b0,Li _ _ 1 _ _ _ b0,Blk.lt b0,Li _ _ 0 _ _ _ b1,Li _ _ 1 _ _ _ b1,Li _ _ 2 _ _ _ b1,Li _ _ 3 _ _ _ b1,Blk.lt b1⟩
    have HKL:Hid (∀ wv,Hold M none w wv KL→Ro wv (Mut M KL) (SlR 4 A n (Zf cs))∧Ro wv (Mut M KL) (VlsIn x.A x.n x.vs)):=hid fun wv HC=>by
     rw [hKL] at HC ⊢
     exact ⟨HC.ro 2 rfl,(HC.ro 3 rfl).imp fun w2 h2=>h2.2 x HXM.out⟩
    go_wp2_with fail
    rw [←hgb2]
    have HGB:=hid hgb2
    have HKE:=hid hKL
    clear hgb2 hKL
    generalize wr.alloc (.cells #[.int .i64 x.id,.slice x.A x.n x.c] 72)=w2 at *
    refine Lj (by kernel_rfl) ?_
    refine Zn 33 71 (KL) (spL []) (by kernel_rfl) (by kernel_rfl) (by kernel_rfl) rfl ?_ (K2.drew) ?_
    ·exact Zm _
    simp only [zd,zp,List.getElem_toArray,List.getElem_cons_zero,List.getElem_cons_succ]
    repeat (first|(refine dw_skip rfl rfl rfl ?_;simp only [zp])|(refine' dv rfl rfl rfl (fun wv HC=>?_) ?_;rotate_left;(focus (obtain ⟨f0,f1,f2,f3,f4,f5,f6,f7⟩:=HF.out _ HC;go_simp<;>rfl;done));simp only [zp]))
    refine Zk ?_
    rintro wx2 HX2
    rintro _hrm _HG
    rw [HKE.out] at HX2
    clear _hrm _HG
    go_wp2_with fail
    go_ret
    exact ⟨by rw [HN.out]<;>rfl,HX2.below⟩
   have a2d:decide (x.id≥nx)=false:=by simpa using a2
   have HA:=hid (show ¬x.id<1∧¬nx≤x.id from ⟨a1,a2⟩)
   clear a1 a2
   rcases Nat.eq_zero_or_pos j with hj0|hj0
   ·have HL0:=hid (HP.out.1 hj0)
    have HJ0:=hid hj0
    have hj0d:decide ((j:Int) > 0)=false:=by simp;omega
    have hj0d2:decide (0<j)=false:=by simp;omega
    have hj0d3:decide ((0:Int)<(j:Int))=false:=by simp;omega
    clear hj0
    obtain ⟨gb,hgb2⟩:∃ gb,gb=wr.heap.size:=⟨_,rfl⟩
    obtain ⟨KL,hKL⟩:∃ KL:List Hp,KL=[Hp.cst wr.heap.size 72 #[.int .i64 x.id,.slice x.A x.n x.c],.cst w.heap.size 69 #[.string nm,.slice A n c,.int .i64 nx,.slice (some ⟨g,o,none⟩) m d],.ro (SlR 4 A n (Zf cs)),.ro (RwsIn (some ⟨g,o,none⟩) m l)]:=⟨_,rfl⟩
    rw [←hKL] at K2
    rw [←hgb2] at hKL
    have HF:Hid (∀ wv,Hold M none w wv KL→wv.cell? ⟨gb,0,none⟩=some (.int .i64 x.id)∧wv.cell? ⟨gb,1,none⟩=some (.slice x.A x.n x.c)∧gb<wv.heap.size∧wv.cell? ⟨w.heap.size,0,none⟩=some (.string nm)∧wv.cell? ⟨w.heap.size,1,none⟩=some (.slice A n c)∧wv.cell? ⟨w.heap.size,2,none⟩=some (.int .i64 nx)∧wv.cell? ⟨w.heap.size,3,none⟩=some (.slice (some ⟨g,o,none⟩) m d)∧w.heap.size<wv.heap.size):=hid fun wv HC=>by
     rw [hKL] at HC
     have b0:=HC.Zg 0 rfl
     have b1:=HC.Zg 1 rfl
     exact ⟨Li _ _ 0 _ _ _ b0,Li _ _ 1 _ _ _ b0,Blk.lt b0,Li _ _ 0 _ _ _ b1,Li _ _ 1 _ _ _ b1,Li _ _ 2 _ _ _ b1,Li _ _ 3 _ _ _ b1,Blk.lt b1⟩
    have HKL:Hid (∀ wv,Hold M none w wv KL→Ro wv (Mut M KL) (SlR 4 A n (Zf cs))∧Ro wv (Mut M KL) (VlsIn x.A x.n x.vs)):=hid fun wv HC=>by
     rw [hKL] at HC ⊢
     exact ⟨HC.ro 2 rfl,(HC.ro 3 rfl).imp fun w2 h2=>h2.2 x HXM.out⟩
    go_wp2_with fail
    rw [←hgb2]
    have HGB:=hid hgb2
    have HKE:=hid hKL
    clear hgb2 hKL
    generalize wr.alloc (.cells #[.int .i64 x.id,.slice x.A x.n x.c] 72)=w2 at *
    refine Lj (by kernel_rfl) ?_
    refine Zn 33 71 (KL) (spL [(64,IsV (.int .i64 (Zt cs x.vs)))]) (by kernel_rfl) (by kernel_rfl) (by kernel_rfl) rfl ?_ (K2.drew) ?_
    ·exact Zd Yu (Zm _)
    simp only [zd,zp,List.getElem_toArray,List.getElem_cons_zero,List.getElem_cons_succ]
    repeat (first|(refine dw_skip rfl rfl rfl ?_;simp only [zp])|(refine' dv rfl rfl rfl (fun wv HC=>?_) ?_;rotate_left;(focus (obtain ⟨f0,f1,f2,f3,f4,f5,f6,f7⟩:=HF.out _ HC;go_simp<;>rfl;done));simp only [zp]))
    refine Zi 64 (IsV (.int .i64 (Zt cs x.vs))) (f:=53) (args:=#[.agg #[.string nm,.slice A n c],.slice x.A x.n x.c]) rfl rfl rfl rfl (fun wv=>?_) (fun wv HC hrm hD=>?_) ?_
    ·go_simp<;>rfl
    ·refine (Jy _ _ HC.Zb nm A n c cs x.A x.n x.c x.vs ((HKL.out wv HC).1) ((HKL.out wv HC).2) hn hxn hrok.vs).mono ?_
     rintro e w5 ⟨rfl,b5⟩
     exact ⟨_,rfl,rfl,HC.call b5,RM.below b5⟩
    rintro u wx HCx hu
    obtain rfl:u=_:=hu
    clear HCx
    simp only [zp]
    refine' dv rfl rfl rfl (fun wv HC=>?_) ?_;rotate_left
    ·obtain ⟨f0,f1,f2,f3,f4,f5,f6,f7⟩:=HF.out _ HC;go_simp<;>rfl
    simp only [zp]
    refine Zk ?_
    rintro wx2 HX2
    rintro _hrm _HG
    rw [HKE.out] at HX2
    clear _hrm _HG
    by_cases a3:Zt cs x.vs=0
    ·have HS2:=hid (show okR cs nx 0 (l.map Rw.row)=okR cs nx x.id ((l.map Rw.row).drop (j+1)) by rw [HS.out];exact Zcg HX.out (by have:=HL0.out;have:=HA.out;omega) (by have:=HA.out;omega) a3)
     have HP2:=hid (show (j+1=0→x.id=0)∧∀ q,j+1=q+1→∃ r:Rw,l[q]? =some r∧r.id=x.id from ⟨fun h=>by omega,fun q hq=>⟨x,(show j=q by omega) ▸ HXL.out,rfl⟩⟩)
     have h0x:0≤x.id:=by have:=HA.out;omega
     rw [a3]
     clear a3
     go_wp2_with fail
     go_roundw
     case rel=>exact ⟨j+1,x.id,by omega,by go_num,h0x,HP2,HS2,HX2.drop (Kb _ _)⟩
     case measure=>simp [intOf];omega
    ·have a3d:(Zt cs x.vs !=0)=true:=by simp [a3]
     have HN:=hid (show Zh nm cs nx (l.map Rw.row)=false from Qv (by rw [HS.out];exact Qj HX.out (.inr (.inr a3))))
     clear a3
     go_wp2_with fail
     go_ret
     exact ⟨by rw [HN.out]<;>rfl,HX2.below⟩
   ·obtain ⟨p,hp⟩:∃ p,j=p+1:=⟨j - 1,by omega⟩
    obtain ⟨r,hr,hrl⟩:=HP.out.2 p hp
    have HR:=hid hr
    have HRL:=hid hrl
    clear hr hrl
    have hj0d:decide ((j:Int) > 0)=true:=by simp;omega
    have hj0d2:decide (0<j)=true:=by simp;omega
    have hj0d3:decide ((0:Int)<(j:Int))=true:=by simp;omega
    have hw1:IntKind.i64.wrap ((j:Int) - 1)=(p:Int):=by rw [Kn];omega
    have p0:(0:Int)≤(p:Int):=by omega
    have p1:(p:Int)<(m:Int):=by omega
    have hpm:p<m:=by omega
    have HPJ:=hid hp
    clear hp hj0
    by_cases a4:r.id≥x.id
    ·have a4d:decide (r.id≥x.id)=true:=by simpa using a4
     have HN:=hid (show Zh nm cs nx (l.map Rw.row)=false from Qv (by rw [HS.out];exact Qj HX.out (.inl (show x.id≤lst by have:=HRL.out;omega))))
     clear a4
     obtain ⟨gb,hgb2⟩:∃ gb,gb=wr.heap.size:=⟨_,rfl⟩
     obtain ⟨KL,hKL⟩:∃ KL:List Hp,KL=[Hp.cst wr.heap.size 72 #[.int .i64 x.id,.slice x.A x.n x.c],.cst w.heap.size 69 #[.string nm,.slice A n c,.int .i64 nx,.slice (some ⟨g,o,none⟩) m d],.ro (SlR 4 A n (Zf cs)),.ro (RwsIn (some ⟨g,o,none⟩) m l)]:=⟨_,rfl⟩
     rw [←hKL] at K2
     rw [←hgb2] at hKL
     have HF:Hid (∀ wv,Hold M none w wv KL→wv.cell? ⟨gb,0,none⟩=some (.int .i64 x.id)∧wv.cell? ⟨gb,1,none⟩=some (.slice x.A x.n x.c)∧gb<wv.heap.size∧wv.cell? ⟨w.heap.size,0,none⟩=some (.string nm)∧wv.cell? ⟨w.heap.size,1,none⟩=some (.slice A n c)∧wv.cell? ⟨w.heap.size,2,none⟩=some (.int .i64 nx)∧wv.cell? ⟨w.heap.size,3,none⟩=some (.slice (some ⟨g,o,none⟩) m d)∧w.heap.size<wv.heap.size∧wv.cell? ⟨g,o+p * 2,none⟩=some (.int .i64 r.id)∧g<wv.heap.size):=hid fun wv HC=>by
      rw [hKL] at HC
      have b0:=HC.Zg 0 rfl
      have b1:=HC.Zg 1 rfl
      obtain ⟨g',o',e',hl,e0,e1,_⟩:=(HC.ro 3 rfl).now.at_ HR.out
      obtain ⟨rfl,rfl⟩:g=g' ∧o=o' :=by injection e' with e';injection e' with a1 a2;exact ⟨a1,a2⟩
      exact ⟨Li _ _ 0 _ _ _ b0,Li _ _ 1 _ _ _ b0,Blk.lt b0,Li _ _ 0 _ _ _ b1,Li _ _ 1 _ _ _ b1,Li _ _ 2 _ _ _ b1,Li _ _ 3 _ _ _ b1,Blk.lt b1,e0,hl⟩
     have HKL:Hid (∀ wv,Hold M none w wv KL→Ro wv (Mut M KL) (SlR 4 A n (Zf cs))∧Ro wv (Mut M KL) (VlsIn x.A x.n x.vs)):=hid fun wv HC=>by
      rw [hKL] at HC ⊢
      exact ⟨HC.ro 2 rfl,(HC.ro 3 rfl).imp fun w2 h2=>h2.2 x HXM.out⟩
     go_wp2_with fail
     rw [←hgb2]
     have HGB:=hid hgb2
     have HKE:=hid hKL
     clear hgb2 hKL
     generalize wr.alloc (.cells #[.int .i64 x.id,.slice x.A x.n x.c] 72)=w2 at *
     refine Lj (by kernel_rfl) ?_
     refine Zn 33 71 (KL) (spL []) (by kernel_rfl) (by kernel_rfl) (by kernel_rfl) rfl ?_ (K2.drew) ?_
     ·exact Zm _
     simp only [zd,zp,List.getElem_toArray,List.getElem_cons_zero,List.getElem_cons_succ]
     repeat (first|(refine dw_skip rfl rfl rfl ?_;simp only [zp])|(refine' dv rfl rfl rfl (fun wv HC=>?_) ?_;rotate_left;(focus (obtain ⟨f0,f1,f2,f3,f4,f5,f6,f7,f8,f9⟩:=HF.out _ HC;go_simp<;>rfl;done));simp only [zp]))
     refine Zk ?_
     rintro wx2 HX2
     rintro _hrm _HG
     rw [HKE.out] at HX2
     clear _hrm _HG
     go_wp2_with fail
     go_ret
     exact ⟨by rw [HN.out]<;>rfl,HX2.below⟩
    ·have a4d:decide (r.id≥x.id)=false:=by simpa using a4
     have HA4:=hid a4
     clear a4
     obtain ⟨gb,hgb2⟩:∃ gb,gb=wr.heap.size:=⟨_,rfl⟩
     obtain ⟨KL,hKL⟩:∃ KL:List Hp,KL=[Hp.cst wr.heap.size 72 #[.int .i64 x.id,.slice x.A x.n x.c],.cst w.heap.size 69 #[.string nm,.slice A n c,.int .i64 nx,.slice (some ⟨g,o,none⟩) m d],.ro (SlR 4 A n (Zf cs)),.ro (RwsIn (some ⟨g,o,none⟩) m l)]:=⟨_,rfl⟩
     rw [←hKL] at K2
     rw [←hgb2] at hKL
     have HF:Hid (∀ wv,Hold M none w wv KL→wv.cell? ⟨gb,0,none⟩=some (.int .i64 x.id)∧wv.cell? ⟨gb,1,none⟩=some (.slice x.A x.n x.c)∧gb<wv.heap.size∧wv.cell? ⟨w.heap.size,0,none⟩=some (.string nm)∧wv.cell? ⟨w.heap.size,1,none⟩=some (.slice A n c)∧wv.cell? ⟨w.heap.size,2,none⟩=some (.int .i64 nx)∧wv.cell? ⟨w.heap.size,3,none⟩=some (.slice (some ⟨g,o,none⟩) m d)∧w.heap.size<wv.heap.size∧wv.cell? ⟨g,o+p * 2,none⟩=some (.int .i64 r.id)∧g<wv.heap.size):=hid fun wv HC=>by
      rw [hKL] at HC
      have b0:=HC.Zg 0 rfl
      have b1:=HC.Zg 1 rfl
      obtain ⟨g',o',e',hl,e0,e1,_⟩:=(HC.ro 3 rfl).now.at_ HR.out
      obtain ⟨rfl,rfl⟩:g=g' ∧o=o' :=by injection e' with e';injection e' with a1 a2;exact ⟨a1,a2⟩
      exact ⟨Li _ _ 0 _ _ _ b0,Li _ _ 1 _ _ _ b0,Blk.lt b0,Li _ _ 0 _ _ _ b1,Li _ _ 1 _ _ _ b1,Li _ _ 2 _ _ _ b1,Li _ _ 3 _ _ _ b1,Blk.lt b1,e0,hl⟩
     have HKL:Hid (∀ wv,Hold M none w wv KL→Ro wv (Mut M KL) (SlR 4 A n (Zf cs))∧Ro wv (Mut M KL) (VlsIn x.A x.n x.vs)):=hid fun wv HC=>by
      rw [hKL] at HC ⊢
      exact ⟨HC.ro 2 rfl,(HC.ro 3 rfl).imp fun w2 h2=>h2.2 x HXM.out⟩
     go_wp2_with fail
     rw [←hgb2]
     have HGB:=hid hgb2
     have HKE:=hid hKL
     clear hgb2 hKL
     generalize wr.alloc (.cells #[.int .i64 x.id,.slice x.A x.n x.c] 72)=w2 at *
     refine Lj (by kernel_rfl) ?_
     refine Zn 33 71 (KL) (spL [(64,IsV (.int .i64 (Zt cs x.vs)))]) (by kernel_rfl) (by kernel_rfl) (by kernel_rfl) rfl ?_ (K2.drew) ?_
     ·exact Zd Yu (Zm _)
     simp only [zd,zp,List.getElem_toArray,List.getElem_cons_zero,List.getElem_cons_succ]
     repeat (first|(refine dw_skip rfl rfl rfl ?_;simp only [zp])|(refine' dv rfl rfl rfl (fun wv HC=>?_) ?_;rotate_left;(focus (obtain ⟨f0,f1,f2,f3,f4,f5,f6,f7,f8,f9⟩:=HF.out _ HC;go_simp<;>rfl;done));simp only [zp]))
     refine Zi 64 (IsV (.int .i64 (Zt cs x.vs))) (f:=53) (args:=#[.agg #[.string nm,.slice A n c],.slice x.A x.n x.c]) rfl rfl rfl rfl (fun wv=>?_) (fun wv HC hrm hD=>?_) ?_
     ·go_simp<;>rfl
     ·refine (Jy _ _ HC.Zb nm A n c cs x.A x.n x.c x.vs ((HKL.out wv HC).1) ((HKL.out wv HC).2) hn hxn hrok.vs).mono ?_
      rintro e w5 ⟨rfl,b5⟩
      exact ⟨_,rfl,rfl,HC.call b5,RM.below b5⟩
     rintro u wx HCx hu
     obtain rfl:u=_:=hu
     clear HCx
     simp only [zp]
     refine' dv rfl rfl rfl (fun wv HC=>?_) ?_;rotate_left
     ·obtain ⟨f0,f1,f2,f3,f4,f5,f6,f7,f8,f9⟩:=HF.out _ HC;go_simp<;>rfl
     simp only [zp]
     refine Zk ?_
     rintro wx2 HX2
     rintro _hrm _HG
     rw [HKE.out] at HX2
     clear _hrm _HG
     by_cases a3:Zt cs x.vs=0
     ·have HS2:=hid (show okR cs nx 0 (l.map Rw.row)=okR cs nx x.id ((l.map Rw.row).drop (j+1)) by rw [HS.out];exact Zcg HX.out (by have:=HA4.out;have:=HRL.out;omega) (by have:=HA.out;omega) a3)
      have HP2:=hid (show (j+1=0→x.id=0)∧∀ q,j+1=q+1→∃ r:Rw,l[q]? =some r∧r.id=x.id from ⟨fun h=>by omega,fun q hq=>⟨x,(show j=q by omega) ▸ HXL.out,rfl⟩⟩)
      have h0x:0≤x.id:=by have:=HA.out;omega
      rw [a3]
      clear a3
      go_wp2_with fail
      go_roundw
      case rel=>exact ⟨j+1,x.id,by omega,by go_num,h0x,HP2,HS2,HX2.drop (Kb _ _)⟩
      case measure=>simp [intOf];omega
     ·have a3d:(Zt cs x.vs !=0)=true:=by simp [a3]
      have HN:=hid (show Zh nm cs nx (l.map Rw.row)=false from Qv (by rw [HS.out];exact Qj HX.out (.inr (.inr a3))))
      clear a3
      go_wp2_with fail
      go_ret
      exact ⟨by rw [HN.out]<;>rfl,HX2.below⟩
  ·obtain rfl:j=m:=by omega
   have hdd:decide ((j:Int)<(j:Int))=false:=by simp
   have HN:=hid (show Zh nm cs nx (l.map Rw.row)=!YH cs (l.map Rw.row) from Zdn HSB.out (by rw [HML.out];omega) (by omega) (by omega) (by rw [HS.out];exact ZiS (by rw [HML.out];exact Kg _)))
   have F3:=H.facts
   simp only [zg] at F3
   go_wp2_with fail
   refine (ZcB _ _ H.Zb nm A n c cs nx B j d l (H.ro 1 rfl) (H.ro 2 rfl) hn hm hok).mono ?_
   rintro e w3 ⟨rfl,b3⟩
   have K3:=H.call b3
   go_wp2_with fail
   go_ret
   exact ⟨by rw [HN.out]<;>rfl,K3.below⟩
theorem Zch {cs:List Col} {nx nx' :Int} (h:nx≤nx'):∀ {lst:Int} {rs:List Row},okR cs nx lst rs=true→okR cs nx' lst rs=true
 | _,[],_=>rfl
 | lst,r::rs,hr=>by
  rw [okR] at hr ⊢
  simp only [Bool.and_eq_true,decide_eq_true_eq] at hr ⊢
  exact ⟨⟨⟨hr.1.1.1,by omega⟩,hr.1.2⟩,Zch h hr.2⟩
theorem Zcj {cs:List Col} {nx nx' :Int} {vs:List Vl} (hf:Zt cs vs=0) (hx:nx<nx'):∀ {lst:Int} {rs:List Row},lst<nx→okR cs nx lst rs=true→okR cs nx' lst (rs++[(nx,vs)])=true
 | lst,[],hl,_=>by
  simp only [List.nil_append,okR,Bool.and_eq_true,decide_eq_true_eq,Bool.and_true]
  exact ⟨⟨hl,hx⟩,hf⟩
 | lst,r::rs,hl,hr=>by
  rw [okR] at hr
  rw [List.cons_append,okR]
  simp only [Bool.and_eq_true,decide_eq_true_eq] at hr ⊢
  exact ⟨⟨⟨hr.1.1.1,by omega⟩,hr.1.2⟩,Zcj hf hx (by omega) hr.2⟩
def XP (κ:Nat) (l:List (List Vl)):List Vl:=l.filterMap (·[κ]?)
theorem Gx {κ:Nat}:∀ (l:List (List Vl)) (seen:List Vl),ZV κ seen l=false↔(∀ v∈XP κ l,v ∉ seen)∧(XP κ l).Nodup
 | [],seen=>by simp [ZV,XP]
 | r::l,seen=>by
  have h0:(0:Int)≤(κ:Int):=by omega
  rw [ZV,Lg h0]
  simp only [Int.toNat_natCast]
  cases hr:r[κ]? with
  | none=>
   have e:XP κ (r::l)=XP κ l:=by simp [XP,hr]
   rw [e]
   simpa using Gx l seen
  | some v=>
   have e:XP κ (r::l)=v::XP κ l:=by simp [XP,hr]
   rw [e]
   simp only
   by_cases hv:v∈seen
   ·simp [hv]
   ·rw [Lf hv,Gx l (v::seen)]
    simp only [List.mem_cons,not_or,List.nodup_cons,List.forall_mem_cons]
    constructor
    ·rintro ⟨h1,h2⟩
     refine ⟨fun x hx=>?_,fun hm=>(h1 v hm).1 rfl,h2⟩
     rcases hx with rfl|hx
     ·exact hv
     ·exact (h1 x hx).2
    ·rintro ⟨h1,h2,h3⟩
     exact ⟨fun x hx=>⟨fun hxv=>h2 (hxv ▸ hx),h1 x (.inr hx)⟩,h3⟩
theorem Zgl {κ:Nat} {l:List (List Vl)} {vs:List Vl} (h:ZV κ [] l=false) (hn:∀ x∈l,x[κ]? =none∨x[κ]? ≠vs[κ]?):ZV κ [] (l++[vs])=false:=by
 rw [Gx] at h ⊢
 refine ⟨fun v _ hv=>(List.not_mem_nil hv),?_⟩
 have e:XP κ (l++[vs])=XP κ l++(vs[κ]?).toList:=by
  unfold XP
  rw [List.filterMap_append]
  congr 1
 rw [e]
 cases hv:vs[κ]? with
 | none=>simpa using h.2
 | some v=>
  simp only [Option.toList_some]
  rw [List.nodup_append]
  refine ⟨h.2,by simp,fun x hx y hy=>?_⟩
  simp only [List.mem_singleton] at hy
  subst hy
  rintro rfl
  obtain ⟨r,hr,hrx⟩:=List.mem_filterMap.1 hx
  rcases hn r hr with h1|h1
  ·rw [h1] at hrx;cases hrx
  ·exact h1 (hrx.trans hv.symm)
theorem Zgg {cs:List Col} {rs:List Row} {id:Int} {vs:List Vl} (h:YH cs rs=false) (hn:Ze Col.key cs<0∨∀ x∈rs,x.2[(Ze Col.key cs).toNat]? =none∨x.2[(Ze Col.key cs).toNat]? ≠vs[(Ze Col.key cs).toNat]?):YH cs (rs++[(id,vs)])=false:=by
 rcases Int.lt_or_le (Ze Col.key cs) 0 with hk|hk
 ·exact Gy hk _ _
 ·obtain ⟨κ,hκ⟩:=Int.eq_ofNat_of_zero_le hk
  have hn2:=hn.resolve_left (by omega)
  unfold YH at h ⊢
  rw [hκ] at h hn2 ⊢
  rw [Km]
  exact Zgl h fun x hx=>by
   obtain ⟨r,hr,rfl⟩:=Kt.1 hx
   exact hn2 r hr
theorem Zbf {α:Type} (p:α→Bool):∀ (l:List α) (k f:Nat),Zy p k l=(f:Int)→k≤f∧f<k+l.length
 | [],k,f,h=>by rw [Zy] at h;omega
 | c::r,k,f,h=>by
  rw [Zy] at h
  split at h
  ·simp only [List.length_cons];omega
  ·have:=Zbf p r (k+1) f h
   simp only [List.length_cons];omega
theorem Zh6 {cs:List Col} {κ:Nat} (h:(κ:Int)=Ze Col.key cs):κ<cs.length:=by
 have:=Zbf Col.key cs 0 κ h.symm
 omega
def QJ (cs:List Col):Prop:=∀ (i:Nat) (c:Col),cs[i]? =some c→c.key=true→Ze Col.key cs=i
theorem Zdo {nm:ByteArray} {cs:List Col} {nx:Int} {rs:List Row} (h1:Yx nm cs=true) (h2:rs.length≤100) (h3:1≤nx) (h4:nx≤2147483648) (h5:okR cs nx 0 rs=true) (h6:YH cs rs=false):Zh nm cs nx rs=true:=by
 rw [Zdn h1 h2 h3 h4 h5,h6];rfl
end
end Go.Proofs.YtnmnkbnmollpmaaGreatDoor

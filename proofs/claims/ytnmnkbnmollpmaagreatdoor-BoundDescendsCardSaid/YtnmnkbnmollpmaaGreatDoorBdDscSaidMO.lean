import Derived.Test.YtnmnkbnmollpmaaGreatDoorBdDscSaidML
import Derived.Test.YtnmnkbnmollpmaaGreatDoorBdDscSaidMJ
import Derived.Test.YtnmnkbnmollpmaaGreatDoorBdDscSaidMK
set_option linter.unusedVariables false
set_option linter.unusedSimpArgs false
set_option maxHeartbeats 64000000
set_option maxRecDepth 100000
namespace Go.Proofs.YtnmnkbnmollpmaaGreatDoor
section
open Go.RowKit
def QB (rs:List Row) (W:Nat) (us:List Upd):Bool:=us.all fun u=>decide (Zj rs u.1=some u.2.1)&&decide (u.2.2.length=W)
def ZR (nm:ByteArray) (cs:List Col) (nx:Int) (rs:List Row) (ins:List (List Vl)) (dels:List Int) (us:List Upd):Bool:=
 Zh nm cs nx rs&&Yo rs [] none dels&&QB rs cs.length us&&Yo rs dels none (us.map (·.1))&&!(ins.any fun s=>decide (s.length≠cs.length))
theorem Vp {cs:List Col} {nx:Int}:∀ {lst:Int} {rs:List Row},okR cs nx lst rs=true→∀ r∈rs,Zt cs r.2=0
 | _,[],_,r,hr=>nomatch hr
 | lst,x::rs,h,r,hr=>by
  rw [okR] at h
  simp only [Bool.and_eq_true,decide_eq_true_eq] at h
  rcases Kv.1 hr with rfl|hr
  ·exact h.1.2
  ·exact Vp h.2 r hr
theorem WN {cs:List Col} {vs:List Vl} (h:Zt cs vs=0):vs.length=cs.length:=by
 unfold Zt at h
 split at h
 ·assumption
 ·omega
theorem Uz {nm:ByteArray} {cs:List Col} {nx:Int} {rs:List Row} (h:Zh nm cs nx rs=true):cs.length≤6:=by
 unfold Zh at h
 simp only [Bool.and_eq_true] at h
 have h1:=h.1.1.1.1.1
 unfold Yx at h1
 simp only [Bool.and_eq_true,decide_eq_true_eq] at h1
 exact h1.1.1.2
theorem Qw {nm:ByteArray} {cs:List Col} {nx:Int} {rs:List Row} (h:Zh nm cs nx rs=true) {r:Row} (hr:r∈rs):r.2.length=cs.length:=by
 unfold Zh at h
 simp only [Bool.and_eq_true] at h
 exact WN (Vp h.1.2 r hr)
theorem Qx {nm:ByteArray} {cs:List Col} {nx:Int} {rs:List Row} (h:Zh nm cs nx rs=true):rs.length≤100∧1≤nx∧nx≤2147483648:=by
 unfold Zh at h
 simp only [Bool.and_eq_true,decide_eq_true_eq] at h
 exact ⟨h.1.1.1.1.2,h.1.1.1.2,h.1.1.2⟩
theorem zt {w:World} {B:Option Addr} {m:Nat} {l:List Rw} {nm:ByteArray} {cs:List Col} {nx:Int} (hE:RwsIn B m l w) (h:Zh nm cs nx (l.map Rw.row)=true):∀ r∈l,r.n≤6:=fun r hr=>by
 have h1:=Qw h (Ko (f:=Rw.row) hr)
 have h2:=Uz h
 have h3:=(hE.2 r hr).len
 have:r.vs.length=cs.length:=h1
 omega
theorem Tryz.XL:ElemT Tryz.prog 22 3 1 8 (.int .i64 0):=⟨Tryz.underlying22,by kernel_rfl,rfl,by omega⟩
end
section
open Go.RowKit Go.Maps
def Xq:KeyFam Tryz.prog 3 Int where
 val:=fun x=>.int .i64 x
 ok:=I64
 key:=fun x h=>⟨_,keyOf_int_mk Tryz.underlying3 (wf_i64 h)⟩
 inj:=fun x y h=>by injection h
theorem Tryz.VW:SetT Tryz.prog 191 3 4:=⟨Tryz.underlying191,Tryz.underlying4,fun w=>by kernel_rfl,int_keyed Tryz.underlying3⟩
def YW (rs:List Row) (W:Nat) (gone:List Int):Option Int→List Upd→Bool
 | _,[]=>true
 | last,u::us=>(Zj rs u.1).isSome&&!gone.contains u.1&&!(last.any fun p=>decide (p≥u.1))&&decide (Zj rs u.1=some u.2.1)&&decide (u.2.2.length=W)&&YW rs W gone (some u.1) us
theorem zQ {rs:List Row} {W:Nat} {gone:List Int}:∀ {last:Option Int} {us:List Upd},YW rs W gone last us=(QB rs W us&&Yo rs gone last (us.map (·.1)))
 | _,[]=>rfl
 | last,u::us=>by
  rw [YW,zQ]
  simp only [QB,List.all_cons,List.map_cons,Yo]
  cases (Zj rs u.1).isSome<;>cases gone.contains u.1<;>cases (last.any fun p=>decide (p≥u.1))<;>cases decide (Zj rs u.1=some u.2.1)<;>cases decide (u.2.2.length=W)<;>simp
theorem Vz {rs:List Row} {W:Nat} {gone:List Int} {k:Nat} {u:Upd} {last:Option Int} {us:List Upd} (hu:us[k]? =some u) (h:(Zj rs u.1).isSome=false∨gone.contains u.1=true∨(last.any fun p=>decide (p≥u.1))=true∨Zj rs u.1≠some u.2.1∨u.2.2.length≠W):YW rs W gone last (us.drop k)=false:=by
 rw [Yr hu,YW]
 rcases h with h|h|h|h|h
 ·rw [h];simp
 ·rw [h];simp
 ·rw [h];simp
 ·rw [decide_eq_false h];simp
 ·rw [decide_eq_false h];simp
theorem ZdB {rs:List Row} {W:Nat} {gone:List Int} {k:Nat} {u:Upd} {last:Option Int} {us:List Upd} (hu:us[k]? =some u) (h1:(Zj rs u.1).isSome=true) (h2:gone.contains u.1=false) (h3:(last.any fun p=>decide (p≥u.1))=false) (h4:Zj rs u.1=some u.2.1) (h5:u.2.2.length=W):YW rs W gone last (us.drop k)=YW rs W gone (some u.1) (us.drop (k+1)):=by
 rw [Yr hu,YW,h1,h2,h3,decide_eq_true h4,decide_eq_true h5];rfl
theorem Zmc {rs:List Row} {W:Nat} {gone:List Int} {k:Nat} {last:Option Int} {us:List Upd} (h:us.length≤k):YW rs W gone last (us.drop k)=true:=by rw [Ld h];rfl
section
variable {nm:ByteArray} {cs:List Col} {nx:Int} {rs:List Row} {ins:List (List Vl)} {dels:List Int} {us:List Upd}
theorem Zfw (h:Zh nm cs nx rs=false):ZR nm cs nx rs ins dels us=false:=by simp [ZR,h]
theorem ZaF (h:Yo rs [] none dels=false):ZR nm cs nx rs ins dels us=false:=by simp [ZR,h]
theorem Vg {W:Nat} (hW:W=cs.length) (h:YW rs W dels none us=false):ZR nm cs nx rs ins dels us=false:=by
 subst hW
 rw [zQ] at h
 unfold ZR
 cases h1:QB rs cs.length us
 ·simp
 ·rw [h1,Bool.true_and] at h
  simp [h]
theorem Zfu {W:Nat} (hW:W=cs.length) (h:(ins.any fun s=>decide (s.length≠W))=true):ZR nm cs nx rs ins dels us=false:=by
 subst hW
 unfold ZR
 rw [h]
 simp
theorem Zfv {W:Nat} (hW:W=cs.length) (h1:Zh nm cs nx rs=true) (h2:Yo rs [] none dels=true) (h3:YW rs W dels none us=true) (h4:(ins.any fun s=>decide (s.length≠W))=false):ZR nm cs nx rs ins dels us=true:=by
 subst hW
 rw [zQ,Bool.and_eq_true] at h3
 unfold ZR
 rw [h1,h2,h3.1,h3.2,h4];rfl
end
theorem GQ {l:List Rw} {id:Int} {vs:List Vl} (h:Zj (l.map Rw.row) id=some vs):∃ r∈l,r.id=id∧r.vs=vs:=by
 unfold Zj at h
 obtain ⟨x,hx,hv⟩:=Option.map_eq_some_iff.1 h
 obtain ⟨r,hr,rfl⟩:=Kt.1 (List.mem_of_find?_eq_some hx)
 have h2:=List.find?_some hx
 exact ⟨r,hr,by simpa [Rw.row] using h2,hv⟩
theorem Zkj (M:Nat→Prop) (w:World) (hM:∀ b,M b→b<w.heap.size) (nm:ByteArray) (A:Option Addr) (n c:Nat) (cs:List Col) (nx:Int) (B:Option Addr) (m d:Nat) (l:List Rw) (I:Option Addr) (ni ci:Nat) (ins:List Sl) (D:Option Addr) (nd cd:Nat) (dels:List Int) (U:Option Addr) (nu cu:Nat) (us:List Pr)
  (hC:Ro w M (SlR 4 A n (Zf cs))) (hE:Ro w M (RwsIn B m l)) (hI:Ro w M (SlsIn I ni ins)) (hD:Ro w M (IsIn D nd dels)) (hU:Ro w M (PrsIn U nu us)) (hn:n≤9223372036854775807) (hm:m≤4611686018427387904) (hok:∀ r∈l,r.ok) (hrn:∀ r∈l,r.n≤4398046511104) (hpn:∀ p∈us,p.on≤9223372036854775807) (hs:nm.size≤maxLen) (hcs:∀ x∈cs,x.name.size≤maxLen)
  (hni:ni≤9223372036854775807) (hnd:nd≤4611686018427387904) (hnu:nu≤4398046511104):
  Calls Tryz.prog 52 #[.agg #[.string nm,.slice A n c,.int .i64 nx,.slice B m d],.agg #[.slice I ni ci,.slice D nd cd,.slice U nu cu]] w fun e w' =>e=.returned (.bool (ZR nm cs nx (l.map Rw.row) (ins.map Sl.vs) dels (us.map Pr.upd)))∧Below w.heap.size w w' :=by
 have HUL:=hid hU.now.len
 have HIL:=hid hI.now.len
 have HDL:=hid hD.now.len
 have HCL:=hid (show cs.length=n from (RdC.ZW hC.now).len)
 have HOK:=hid hok
 have HRN:=hid hrn
 have HPN:=hid hpn
 clear hok hrn hpn
 have K0:=((((((Hold.start M w hM).add (hU.less (by simp [Mut]))).add (hD.less (by simp [Mut,Hp.foot]))).add (hI.less (by simp [Mut,Hp.foot]))).add (hE.less (by simp [Mut,Hp.foot]))).add (hC.less (by simp [Mut,Hp.foot]))).Za #[.string nm,.slice A n c,.int .i64 nx,.slice B m d] 69|>.Za #[.slice I ni ci,.slice D nd cd,.slice U nu cu] 87
 rw [KP] at K0
 clear hC hE hI hD hU
 obtain ⟨gt,hgt⟩:∃ gt,gt=w.heap.size:=⟨_,rfl⟩
 obtain ⟨gc,hgc⟩:∃ gc,gc=gt+1:=⟨_,rfl⟩
 rw [←hgt,←hgc] at K0
 have F0:=K0.facts
 simp only [zg] at F0
 have hmm:=@run_makeMap Tryz.prog
 rw [hgc,hgt] at K0 F0
 go_enter Tryz.func52,Tryz.ntmps52
 go_wp2_with fail
 rw [←hgt,←hgc] at K0 ⊢
 have HGT:=hid hgt
 clear hgt hgc F0
 generalize (w.alloc _).alloc _=w0 at K0 ⊢
 refine (VV _ _ K0.Zb nm A n c cs nx B m d l (K0.ro 2 rfl) (K0.ro 3 rfl) hn hm HOK.out hs hcs).mono ?_
 rintro e w1 ⟨rfl,b1⟩
 have K1:=K0.call b1
 clear K0 b1
 cases htb:Zh nm cs nx (l.map Rw.row)
 ·have HN:=hid (show ZR nm cs nx (l.map Rw.row) (ins.map Sl.vs) dels (us.map Pr.upd)=false from Zfw htb)
  clear htb
  go_wp2_with fail
  go_ret
  exact ⟨by rw [HN.out]<;>rfl,K1.below⟩
 ·have HTB:=hid htb
  have HDK:=hid HCL.out.symm
  clear htb
  have F1:=K1.facts
  simp only [zg] at F1
  have KM:=Hold.Jg K1 4 Xq
  obtain ⟨gm,hgm⟩:∃ gm,gm=w1.heap.size:=⟨_,rfl⟩
  rw [←hgm,show (fun _:Int=>False)=(fun z=>z∈dels.take 0) by funext z;simp] at KM
  go_wp2_with fail
  rw [←hgm]
  have HGM:=hid hgm
  clear hgm K1 F1
  go_loopw [28] (fun iv wr=>∃ (k q:Nat) (last:Option Int),k≤nd∧iv=.int .i64 k∧q≤k∧Hid (Ua dels k last∧Yo (l.map Rw.row) [] none dels=Yo (l.map Rw.row) [] last (dels.drop k))∧Hold M none w wr [.ob gm (MSet 4 Xq gm q (fun z=>z∈dels.take k)),.cst gc 87 #[.slice I ni ci,.slice D nd cd,.slice U nu cu],.cst gt 69 #[.string nm,.slice A n c,.int .i64 nx,.slice B m d],.ro (SlR 4 A n (Zf cs)),.ro (RwsIn B m l),.ro (SlsIn I ni ins),.ro (IsIn D nd dels),.ro (PrsIn U nu us)]) (fun iv _=>nd - (intOf iv).toNat)
  case atStart=>exact ⟨0,0,none,by omega,rfl,by omega,hid ⟨⟨fun _=>rfl,fun p hp=>by omega⟩,rfl⟩,KM⟩
  case round=>
   clear KM hmm
   obtain ⟨k,q,last,hk,rfl,hq,HP,H⟩:=hrel
   by_cases hlt:k<nd
   ·have hdd:decide ((k:Int)<(nd:Int))=true:=by simp;omega
    have k0:(0:Int)≤(k:Int):=by omega
    have k1:(k:Int)<(nd:Int):=by omega
    obtain ⟨id,hx⟩:=Zl HDL.out hlt
    obtain ⟨b,o,rfl,hb,hcc⟩:=(H.ro 6 rfl).now.cells (by omega)
    have hgd:∀ j z,dels[j]? =some z→dels.getD j 0=z:=fun j z h=>by simp [List.getD,h]
    have ck:wr.cell? ⟨b,o+k,none⟩=some (.int .i64 id):=by rw [←hgd k id hx];exact hcc k (by rw [HDL.out];exact hlt)
    have HX:=hid hx
    have F1:=H.facts
    simp only [zg] at F1
    have HGD:=hid hgd
    clear hx hcc hgd
    go_wp2_with fail
    refine (Jz _ _ H.Zb (.string nm) (.slice A n c) (.int .i64 nx) B m d l id (H.ro 4 rfl) hm HRN.out).mono ?_
    rintro e w2 ⟨A1,n1,c1,rfl,hn1,_,_,r1,b1⟩
    have K1:=H.call b1
    clear F1 b1 r1 hn1 ck H
    have F1:=K1.facts
    simp only [zg] at F1
    cases hg:Zj (l.map Rw.row) id with
    | none=>
     have HN:=hid (show ZR nm cs nx (l.map Rw.row) (ins.map Sl.vs) dels (us.map Pr.upd)=false from ZaF (by rw [HP.out.2];exact ZcM HX.out (.inl (by rw [hg];rfl))))
     simp only [Option.isSome_none]
     clear hg
     go_wp2_with fail
     go_ret
     exact ⟨by rw [HN.out]<;>rfl,K1.below⟩
    | some vs=>
     have HG:=hid (show (Zj (l.map Rw.row) id).isSome=true by rw [hg];rfl)
     have HPI:=hid (show I64 id by obtain ⟨r,hr,h1,_⟩:=GQ hg;rw [←h1];exact (HOK.out r hr).id)
     have HMT:=hid (show (fun z=>z=id∨z∈dels.take k)=(fun z=>z∈dels.take (k+1)) by funext z;rw [Kq,HX.out];simp [or_comm])
     simp only [Option.isSome_some]
     clear hg
     rcases Nat.eq_zero_or_pos k with hk0|hk0
     ·have HLN:=hid (HP.out.1.1 hk0)
      have hd0:decide ((k:Int) > 0)=false:=by simp;omega
      have hd1:decide (0<k)=false:=by simp;omega
      have hd2:decide ((0:Int)<(k:Int))=false:=by simp;omega
      have HPV:=hid (show (last.any fun p=>decide (p≥id))=false by rw [HLN.out];rfl)
      clear hk0
      go_wp2_with (at_mapUpdate;go_must (refine JY K1 0 rfl Tryz.VW rfl (.tmp 55) (.tmp 56) _ rfl rfl id rfl rfl HPI.out (by unfold maxLen;omega) ?_);intro w5 K5)
      rw [HMT.out] at K5
      simp only [List.set_cons_zero] at K5
      have HS:=hid (show Yo (l.map Rw.row) [] none dels=Yo (l.map Rw.row) [] (some id) (dels.drop (k+1)) by rw [HP.out.2];exact ZcN HX.out HG.out HPV.out rfl)
      have HPP:=hid (show Ua dels (k+1) (some id) from ⟨fun h=>by omega,fun p hp=>⟨id,(show k=p by omega) ▸ HX.out,rfl⟩⟩)
      go_roundw
      case rel=>exact ⟨k+1,q+1,some id,by omega,by go_num,by omega,hid ⟨HPP.out,HS.out⟩,K5⟩
      case measure=>simp [intOf];omega
     ·obtain ⟨p,hp⟩:∃ p,k=p+1:=⟨k - 1,by omega⟩
      obtain ⟨z,hz,hzl⟩:=HP.out.1.2 p hp
      have HZL:=hid hzl
      have hd0:decide ((k:Int) > 0)=true:=by simp;omega
      have hd1:decide (0<k)=true:=by simp;omega
      have hd2:decide ((0:Int)<(k:Int))=true:=by simp;omega
      have hw1:IntKind.i64.wrap ((k:Int) - 1)=(p:Int):=by rw [Kn];omega
      have hw2:(k:Int) - 1=(p:Int):=by omega
      have p0:(0:Int)≤(p:Int):=by omega
      have p1:(p:Int)<(nd:Int):=by omega
      have cz:w2.cell? ⟨b,o+p,none⟩=some (.int .i64 z):=by
       obtain ⟨b',o',e',_,hcc⟩:=(K1.ro 6 rfl).now.cells (by omega)
       obtain ⟨rfl,rfl⟩:b=b' ∧o=o' :=by injection e' with e';injection e' with a1 a2;exact ⟨a1,a2⟩
       rw [←HGD.out p z hz];exact hcc p (by rw [HDL.out];omega)
      have HKP:=hid hp
      clear hz hzl hk0 hp
      by_cases hzi:z≥id
      ·have hzd:decide (z≥id)=true:=by simpa using hzi
       have HN:=hid (show ZR nm cs nx (l.map Rw.row) (ins.map Sl.vs) dels (us.map Pr.upd)=false from ZaF (by rw [HP.out.2];exact ZcM HX.out (.inr (.inl (by rw [HZL.out];simpa using hzi)))))
       clear hzi
       go_wp2_with fail
       go_ret
       exact ⟨by rw [HN.out]<;>rfl,K1.below⟩
      ·have hzd:decide (z≥id)=false:=by simpa using hzi
       have HPV:=hid (show (last.any fun p=>decide (p≥id))=false by rw [HZL.out];simpa using hzi)
       clear hzi
       go_wp2_with (at_mapUpdate;go_must (refine JY K1 0 rfl Tryz.VW rfl (.tmp 55) (.tmp 56) _ rfl rfl id rfl rfl HPI.out (by unfold maxLen;omega) ?_);intro w5 K5)
       rw [HMT.out] at K5
       simp only [List.set_cons_zero] at K5
       have HS:=hid (show Yo (l.map Rw.row) [] none dels=Yo (l.map Rw.row) [] (some id) (dels.drop (k+1)) by rw [HP.out.2];exact ZcN HX.out HG.out HPV.out rfl)
       have HPP:=hid (show Ua dels (k+1) (some id) from ⟨fun h=>by omega,fun p hp=>⟨id,(show k=p by omega) ▸ HX.out,rfl⟩⟩)
       go_roundw
       case rel=>exact ⟨k+1,q+1,some id,by omega,by go_num,by omega,hid ⟨HPP.out,HS.out⟩,K5⟩
       case measure=>simp [intOf];omega
   ·obtain rfl:nd=k:=by omega
    have hdd:decide ((nd:Int)<(nd:Int))=false:=by simp
    clear hlt
    have HRK:=hid (show Yo (l.map Rw.row) [] none dels=true by rw [HP.out.2];exact Zkq (by rw [HDL.out];exact Kg _))
    rw [Kh (by rw [HDL.out];exact Kg _)] at H
    have F1:=H.facts
    simp only [zg] at F1
    go_wp2_with fail
    clear F1 hdd HP
    go_loopw [61] (fun iv wr=>∃ (k:Nat) (last:Option Int),k≤nu∧iv=.int .i64 k∧Hid (Ua ((us.map Pr.upd).map (·.1)) k last∧YW (l.map Rw.row) n dels none (us.map Pr.upd)=YW (l.map Rw.row) n dels last ((us.map Pr.upd).drop k))∧Hold M none w wr [.ob gm (MSet 4 Xq gm q (fun z=>z∈dels)),.cst gc 87 #[.slice I ni ci,.slice D nd cd,.slice U nu cu],.cst gt 69 #[.string nm,.slice A n c,.int .i64 nx,.slice B m d],.ro (SlR 4 A n (Zf cs)),.ro (RwsIn B m l),.ro (SlsIn I ni ins),.ro (IsIn D nd dels),.ro (PrsIn U nu us)]) (fun iv _=>nu - (intOf iv).toNat)
    case atStart=>exact ⟨0,none,by omega,rfl,hid ⟨⟨fun _=>rfl,fun p hp=>by omega⟩,rfl⟩,H⟩
    case round=>
     clear H
     obtain ⟨k,last,hk,rfl,HP,H⟩:=hrel
     by_cases hlt:k<nu
     ·have hdd:decide ((k:Int)<(nu:Int))=true:=by simp;omega
      have k0:(0:Int)≤(k:Int):=by omega
      have k1:(k:Int)<(nu:Int):=by omega
      obtain ⟨p,hp⟩:=Zl HUL.out hlt
      obtain ⟨b,o,rfl,hb,c0,c1,c2,hv1,hv2⟩:=(H.ro 7 rfl).now.at_ hp
      have HU:=hid (show (us.map Pr.upd)[k]? =some p.upd by rw [KQ,hp];rfl)
      have HPL:=hid hv2.len
      have hpon:=HPN.out p (Ka hp)
      have hpo:Ro wr _ (VlsIn p.oA p.on p.old):=(H.ro 7 rfl).imp fun w2 h2=>(h2.2 p (Ka hp)).1
      clear hp hv1 hv2
      have K1:=(H.add hpo).Za #[.int .i64 p.id,.slice p.oA p.on p.oc,.slice p.nA p.nn p.nc] 136
      clear H hpo
      obtain ⟨gp,hgp⟩:∃ gp,gp=wr.heap.size:=⟨_,rfl⟩
      rw [←hgp] at K1
      have F1:=K1.facts
      simp only [zg] at F1
      go_wp2_with fail
      rw [←hgp]
      have HGP:=hid hgp
      clear hgp c0 c1 c2
      refine (Jz _ _ K1.Zb (.string nm) (.slice A n c) (.int .i64 nx) B m d l p.id (K1.ro 6 rfl) hm HRN.out).mono ?_
      rintro e w2 ⟨A1,n1,c1,rfl,hn1,_,_,r1,b1⟩
      clear F1
      cases hg:Zj (l.map Rw.row) p.id with
      | none=>
       have HN:=hid (show ZR nm cs nx (l.map Rw.row) (ins.map Sl.vs) dels (us.map Pr.upd)=false from Vg HDK.out (by rw [HP.out.2];exact Vz HU.out (.inl (by rw [show p.upd.1=p.id from rfl,hg];rfl))))
       simp only [Option.isSome_none]
       have K2:=(K1.call b1).add r1
       clear K1 b1 r1 hn1 hg
       obtain ⟨KL,hKL,K3⟩:=K2.name
       have HKL:=hid hKL
       clear hKL K2
       go_wp2_with fail
       refine Lj (by kernel_rfl) ?_
       refine Zn 38 124 (KL) (spL []) (by kernel_rfl) (by kernel_rfl) (by kernel_rfl) rfl ?_ (K3.drew) ?_
       ·exact Zm _
       simp only [zd,zp,List.getElem_toArray,List.getElem_cons_zero,List.getElem_cons_succ]
       repeat (first|(refine dw_skip rfl rfl rfl ?_;simp only [zp])|(refine' dv rfl rfl rfl (fun wv HC=>?_) ?_;rotate_left;(focus (go_simp<;>rfl;done));simp only [zp]))
       refine Zk ?_
       rintro wx9 HX9
       rintro _hrm _HG
       rw [HKL.out] at HX9
       clear _hrm _HG
       go_wp2_with fail
       go_ret
       exact ⟨by rw [HN.out]<;>rfl,HX9.below⟩
      | some vs=>
       have HG2:=hid (show Zj (l.map Rw.row) p.upd.1=some vs from hg)
       have HGS:=hid (show (Zj (l.map Rw.row) p.upd.1).isSome=true by rw [show p.upd.1=p.id from rfl,hg];rfl)
       have HPI:=hid (show I64 p.id by obtain ⟨r,hr,h1,_⟩:=GQ hg;rw [←h1];exact (HOK.out r hr).id)
       have hn1m:n1≤4611686018427387904:=by
        obtain ⟨r,hr,_,h2⟩:=GQ hg
        have h3:=HRN.out r hr
        have h4:=((K1.ro 6 rfl).now.2 r hr).len
        rw [hg] at hn1
        simp only [Option.getD_some] at hn1
        rw [h2] at h4
        omega
       rw [hg] at r1
       simp only [Option.isSome_some]
       simp only [Option.getD_some] at r1
       have K2:=(K1.call b1).add r1
       clear K1 b1 r1 hn1 hg
       obtain ⟨KL,hKL,K3⟩:=K2.name
       have HRX:Hid (∀ wv,Hold M none w wv KL→Ro wv (Mut M KL) (VlsIn A1 n1 vs)∧Ro wv (Mut M KL) (VlsIn p.oA p.on p.old)):=hid fun wv HC=>by
        rw [hKL] at HC ⊢
        exact ⟨HC.ro 0 rfl,HC.ro 2 rfl⟩
       clear K2
       rcases Nat.eq_zero_or_pos k with hk0|hk0
       ·have HLN:=hid (HP.out.1.1 hk0)
        have hd0:decide ((k:Int) > 0)=false:=by simp;omega
        have hd1:decide (0<k)=false:=by simp;omega
        have hd2:decide ((0:Int)<(k:Int))=false:=by simp;omega
        have HPV:=hid (show (last.any fun q=>decide (q≥p.upd.1))=false by rw [HLN.out];rfl)
        clear hk0
        have HF:Hid (∀ wv,Hold M none w wv KL→wv.cell? ⟨gp,0,none⟩=some (.int .i64 p.id)∧wv.cell? ⟨gp,1,none⟩=some (.slice p.oA p.on p.oc)∧wv.cell? ⟨gp,2,none⟩=some (.slice p.nA p.nn p.nc)∧gp<wv.heap.size∧wv.cell? ⟨gc,2,none⟩=some (.slice (some ⟨b,o,none⟩) nu cu)∧gc<wv.heap.size):=hid fun wv HC=>by
         rw [hKL] at HC
         have y0:=HC.Zg 1 rfl
         have y1:=HC.Zg 4 rfl
         exact ⟨Li _ _ 0 _ _ _ y0,Li _ _ 1 _ _ _ y0,Li _ _ 2 _ _ _ y0,Blk.lt y0,Li _ _ 2 _ _ _ y1,Blk.lt y1⟩
        have HKL:=hid hKL
        clear hKL
        by_cases hin:p.id∈dels
        ·have HN:=hid (show ZR nm cs nx (l.map Rw.row) (ins.map Sl.vs) dels (us.map Pr.upd)=false from Vg HDK.out (by rw [HP.out.2];exact Vz HU.out (.inr (.inl (by show dels.contains p.id=true;simpa using hin)))))
         have HINN:=hid hin
         clear hin
         go_wp2_with fail
         refine Lj (by kernel_rfl) ?_
         refine Zn 38 124 (KL) (spL []) (by kernel_rfl) (by kernel_rfl) (by kernel_rfl) rfl ?_ (K3.drew) ?_
         ·exact Zm _
         simp only [zd,zp,List.getElem_toArray,List.getElem_cons_zero,List.getElem_cons_succ]
         repeat (first|(refine dw_skip rfl rfl rfl ?_;simp only [zp])|(refine' dv rfl rfl rfl (fun wv HC=>?_) ?_;rotate_left;(focus (obtain ⟨f0,f1,f2,f3,f4,f5⟩:=HF.out _ HC;go_simp<;>rfl;done));simp only [zp]))
         refine Wu rfl rfl rfl ⟨.bool true,fun wv HC=>?_,?_⟩
         ·have hob:=(show MSet 4 Xq gm q (fun z=>z∈dels) wv by
           have HC2:=HC
           rw [HKL.out] at HC2
           exact HC2.ob_ 3 rfl).look Tryz.VW (x:=p.id) HPI.out
          obtain ⟨cb,hrun,hcb⟩:=hob
          obtain rfl:cb=true:=hcb.2 HINN.out
          simp [execOp,Act.eval,hrun,Result.andThen,Xq] at hrun ⊢
          all_goals (try simp [hrun,Result.andThen])
         simp only [zp]
         repeat (first|(refine dw_skip rfl rfl rfl ?_;simp only [zp])|(refine' dv rfl rfl rfl (fun wv HC=>?_) ?_;rotate_left;(focus (go_simp<;>rfl;done));simp only [zp]))
         refine Zk ?_
         rintro wx9 HX9
         rintro _hrm _HG
         rw [HKL.out] at HX9
         clear _hrm _HG
         go_wp2_with fail
         go_ret
         exact ⟨by rw [HN.out]<;>rfl,HX9.below⟩
        ·have HIN:=hid (show dels.contains p.id=false by simpa using hin)
         have HINN:=hid hin
         clear hin
         go_wp2_with fail
         refine Lj (by kernel_rfl) ?_
         refine Zn 38 124 (KL) (spL [(101,V6 (vs=p.old))]) (by kernel_rfl) (by kernel_rfl) (by kernel_rfl) rfl ?_ (K3.drew) ?_
         ·exact Zd (fun _ _ _ _ h=>h) (Zm _)
         simp only [zd,zp,List.getElem_toArray,List.getElem_cons_zero,List.getElem_cons_succ]
         repeat (first|(refine dw_skip rfl rfl rfl ?_;simp only [zp])|(refine' dv rfl rfl rfl (fun wv HC=>?_) ?_;rotate_left;(focus (obtain ⟨f0,f1,f2,f3,f4,f5⟩:=HF.out _ HC;go_simp<;>rfl;done));simp only [zp]))
         refine Wu rfl rfl rfl ⟨.bool false,fun wv HC=>?_,?_⟩
         ·have hob:=(show MSet 4 Xq gm q (fun z=>z∈dels) wv by
           have HC2:=HC
           rw [HKL.out] at HC2
           exact HC2.ob_ 3 rfl).look Tryz.VW (x:=p.id) HPI.out
          obtain ⟨cb,hrun,hcb⟩:=hob
          obtain rfl:cb=false:=by cases cb;rfl;exact absurd (hcb.1 rfl) HINN.out
          simp [execOp,Act.eval,hrun,Result.andThen,Xq] at hrun ⊢
          all_goals (try simp [hrun,Result.andThen])
         simp only [zp]
         repeat (first|(refine dw_skip rfl rfl rfl ?_;simp only [zp])|(refine' dv rfl rfl rfl (fun wv HC=>?_) ?_;rotate_left;(focus (obtain ⟨f0,f1,f2,f3,f4,f5⟩:=HF.out _ HC;go_simp<;>rfl;done));simp only [zp]))
         refine Zi 101 (V6 (vs=p.old)) (f:=61) (args:=#[.slice A1 n1 c1,.slice p.oA p.on p.oc]) rfl rfl rfl rfl (fun wv=>?_) (fun wv HC hrm hD=>?_) ?_
         ·go_simp<;>rfl
         ·refine (zb (Mut M KL) wv HC.Zb A1 n1 c1 vs p.oA p.on p.oc p.old (HRX.out _ HC).1 (HRX.out _ HC).2 (by omega) (by omega)).mono ?_
          rintro e w5 ⟨⟨r,rfl,hr⟩,b5⟩
          exact ⟨_,rfl,⟨r,rfl,hr⟩,HC.call b5,RM.below b5⟩
         rintro u wx HCx ⟨r,rfl,hr⟩
         have HR:=hid hr
         clear HCx hr
         simp only [zp]
         by_cases hr0:r=0
         ·have hb0:(r !=0)=false:=by simp [hr0]
          have HEQ:=hid (HR.out.1 hr0)
          clear hr0
          repeat (first|(refine dw_skip rfl rfl rfl ?_;simp only [zp])|(refine' dv rfl rfl rfl (fun wv HC=>?_) ?_;rotate_left;(focus (obtain ⟨f0,f1,f2,f3,f4,f5⟩:=HF.out _ HC;go_simp<;>rfl;done));simp only [zp]))
          by_cases hw:p.nn=n
          ·have hwb:((p.nn:Int) !=(n:Int))=false:=by simp [hw]
           have HW:=hid hw
           clear hw
           repeat (first|(refine dw_skip rfl rfl rfl ?_;simp only [zp])|(refine' dv rfl rfl rfl (fun wv HC=>?_) ?_;rotate_left;(focus (go_simp<;>rfl;done));simp only [zp]))
           refine Zk ?_
           rintro wx9 HX9
           rintro _hrm _HG
           rw [HKL.out] at HX9
           clear _hrm _HG
           have HS2:=hid (show YW (l.map Rw.row) n dels none (us.map Pr.upd)=YW (l.map Rw.row) n dels (some p.id) ((us.map Pr.upd).drop (k+1)) by rw [HP.out.2];exact ZdB HU.out HGS.out HIN.out HPV.out (HG2.out.trans (by rw [HEQ.out];rfl)) (HPL.out.trans HW.out))
           have HPP:=hid (show Ua ((us.map Pr.upd).map (·.1)) (k+1) (some p.id) from ⟨fun h=>by omega,fun q hq=>⟨p.id,(show k=q by omega) ▸ (by rw [KQ,HU.out];rfl),rfl⟩⟩)
           have K9:=HX9.drop (Ke _ (Ke _ (Kb _ _)))
           go_wp2_with fail
           go_roundw
           case rel=>exact ⟨k+1,some p.id,by omega,by go_num,hid ⟨HPP.out,HS2.out⟩,K9⟩
           case measure=>simp [intOf];omega
          ·have hwb:((p.nn:Int) !=(n:Int))=true:=by rw [bne_iff_ne];omega
           have HN:=hid (show ZR nm cs nx (l.map Rw.row) (ins.map Sl.vs) dels (us.map Pr.upd)=false from Vg HDK.out (by rw [HP.out.2];exact Vz HU.out (.inr (.inr (.inr (.inr (by rw [show p.upd.2.2.length=p.nn from HPL.out];exact hw)))))))
           clear hw
           repeat (first|(refine dw_skip rfl rfl rfl ?_;simp only [zp])|(refine' dv rfl rfl rfl (fun wv HC=>?_) ?_;rotate_left;(focus (go_simp<;>rfl;done));simp only [zp]))
           refine Zk ?_
           rintro wx9 HX9
           rintro _hrm _HG
           rw [HKL.out] at HX9
           clear _hrm _HG
           go_wp2_with fail
           go_ret
           exact ⟨by rw [HN.out]<;>rfl,HX9.below⟩
         ·have hb0:(r !=0)=true:=by simpa using hr0
          have HN:=hid (show ZR nm cs nx (l.map Rw.row) (ins.map Sl.vs) dels (us.map Pr.upd)=false from Vg HDK.out (by rw [HP.out.2];exact Vz HU.out (.inr (.inr (.inr (.inl (by rw [HG2.out];exact fun e=>hr0 (HR.out.2 (Kz e)))))))))
          clear hr0
          repeat (first|(refine dw_skip rfl rfl rfl ?_;simp only [zp])|(refine' dv rfl rfl rfl (fun wv HC=>?_) ?_;rotate_left;(focus (go_simp<;>rfl;done));simp only [zp]))
          refine Zk ?_
          rintro wx9 HX9
          rintro _hrm _HG
          rw [HKL.out] at HX9
          clear _hrm _HG
          go_wp2_with fail
          go_ret
          exact ⟨by rw [HN.out]<;>rfl,HX9.below⟩
       ·obtain ⟨q0,hq0⟩:∃ q0,k=q0+1:=⟨k - 1,by omega⟩
        obtain ⟨z,hz,hzl⟩:=HP.out.1.2 q0 hq0
        have HZL:=hid hzl
        have hd0:decide ((k:Int) > 0)=true:=by simp;omega
        have hd1:decide (0<k)=true:=by simp;omega
        have hd2:decide ((0:Int)<(k:Int))=true:=by simp;omega
        have hw1:IntKind.i64.wrap ((k:Int) - 1)=(q0:Int):=by rw [Kn];omega
        have hw2:(k:Int) - 1=(q0:Int):=by omega
        have hw3:IntKind.i64.wrap (q0:Int)=(q0:Int):=by rw [Kn];omega
        have p0:(0:Int)≤(q0:Int):=by omega
        have p1:(q0:Int)<(nu:Int):=by omega
        obtain ⟨pq,hpq⟩:=Zl HUL.out (show q0<nu by omega)
        have hzq:pq.id=z:=by
         rw [KQ,KQ,hpq] at hz
         injection hz
        have HF:Hid (∀ wv,Hold M none w wv KL→wv.cell? ⟨gp,0,none⟩=some (.int .i64 p.id)∧wv.cell? ⟨gp,1,none⟩=some (.slice p.oA p.on p.oc)∧wv.cell? ⟨gp,2,none⟩=some (.slice p.nA p.nn p.nc)∧gp<wv.heap.size∧wv.cell? ⟨gc,2,none⟩=some (.slice (some ⟨b,o,none⟩) nu cu)∧gc<wv.heap.size∧wv.cell? ⟨b,o+q0 * 3,none⟩=some (.int .i64 z)∧b<wv.heap.size):=hid fun wv HC=>by
         rw [hKL] at HC
         have y0:=HC.Zg 1 rfl
         have y1:=HC.Zg 4 rfl
         obtain ⟨b',o',e',hl',e0,_⟩:=(HC.ro 10 rfl).now.at_ hpq
         obtain ⟨rfl,rfl⟩:b=b' ∧o=o' :=by injection e' with e';injection e' with a1 a2;exact ⟨a1,a2⟩
         exact ⟨Li _ _ 0 _ _ _ y0,Li _ _ 1 _ _ _ y0,Li _ _ 2 _ _ _ y0,Blk.lt y0,Li _ _ 2 _ _ _ y1,Blk.lt y1,by rw [←hzq];exact e0,hl'⟩
        have HKL:=hid hKL
        have HKQ:=hid hq0
        clear hKL hz hzl hk0 hq0 hpq hzq
        by_cases hin:p.id∈dels
        ·have HN:=hid (show ZR nm cs nx (l.map Rw.row) (ins.map Sl.vs) dels (us.map Pr.upd)=false from Vg HDK.out (by rw [HP.out.2];exact Vz HU.out (.inr (.inl (by show dels.contains p.id=true;simpa using hin)))))
         have HINN:=hid hin
         clear hin
         go_wp2_with fail
         refine Lj (by kernel_rfl) ?_
         refine Zn 38 124 (KL) (spL []) (by kernel_rfl) (by kernel_rfl) (by kernel_rfl) rfl ?_ (K3.drew) ?_
         ·exact Zm _
         simp only [zd,zp,List.getElem_toArray,List.getElem_cons_zero,List.getElem_cons_succ]
         repeat (first|(refine dw_skip rfl rfl rfl ?_;simp only [zp])|(refine' dv rfl rfl rfl (fun wv HC=>?_) ?_;rotate_left;(focus (obtain ⟨f0,f1,f2,f3,f4,f5,f6,f7⟩:=HF.out _ HC;go_simp<;>rfl;done));simp only [zp]))
         refine Wu rfl rfl rfl ⟨.bool true,fun wv HC=>?_,?_⟩
         ·have hob:=(show MSet 4 Xq gm q (fun z=>z∈dels) wv by
           have HC2:=HC
           rw [HKL.out] at HC2
           exact HC2.ob_ 3 rfl).look Tryz.VW (x:=p.id) HPI.out
          obtain ⟨cb,hrun,hcb⟩:=hob
          obtain rfl:cb=true:=hcb.2 HINN.out
          simp [execOp,Act.eval,hrun,Result.andThen,Xq] at hrun ⊢
          all_goals (try simp [hrun,Result.andThen])
         simp only [zp]
         repeat (first|(refine dw_skip rfl rfl rfl ?_;simp only [zp])|(refine' dv rfl rfl rfl (fun wv HC=>?_) ?_;rotate_left;(focus (go_simp<;>rfl;done));simp only [zp]))
         refine Zk ?_
         rintro wx9 HX9
         rintro _hrm _HG
         rw [HKL.out] at HX9
         clear _hrm _HG
         go_wp2_with fail
         go_ret
         exact ⟨by rw [HN.out]<;>rfl,HX9.below⟩
        ·have HIN:=hid (show dels.contains p.id=false by simpa using hin)
         have HINN:=hid hin
         clear hin
         by_cases hzi:z≥p.id
         ·have hzd:decide (z≥p.id)=true:=by simpa using hzi
          have HN:=hid (show ZR nm cs nx (l.map Rw.row) (ins.map Sl.vs) dels (us.map Pr.upd)=false from Vg HDK.out (by rw [HP.out.2];exact Vz HU.out (.inr (.inr (.inl (by show (last.any fun q=>decide (q≥p.id))=true;rw [HZL.out];simpa using hzi))))))
          clear hzi
          go_wp2_with fail
          refine Lj (by kernel_rfl) ?_
          refine Zn 38 124 (KL) (spL []) (by kernel_rfl) (by kernel_rfl) (by kernel_rfl) rfl ?_ (K3.drew) ?_
          ·exact Zm _
          simp only [zd,zp,List.getElem_toArray,List.getElem_cons_zero,List.getElem_cons_succ]
          repeat (first|(refine dw_skip rfl rfl rfl ?_;simp only [zp])|(refine' dv rfl rfl rfl (fun wv HC=>?_) ?_;rotate_left;(focus (obtain ⟨f0,f1,f2,f3,f4,f5,f6,f7⟩:=HF.out _ HC;go_simp<;>rfl;done));simp only [zp]))
          refine Wu rfl rfl rfl ⟨.bool false,fun wv HC=>?_,?_⟩
          ·have hob:=(show MSet 4 Xq gm q (fun z=>z∈dels) wv by
            have HC2:=HC
            rw [HKL.out] at HC2
            exact HC2.ob_ 3 rfl).look Tryz.VW (x:=p.id) HPI.out
           obtain ⟨cb,hrun,hcb⟩:=hob
           obtain rfl:cb=false:=by cases cb;rfl;exact absurd (hcb.1 rfl) HINN.out
           simp [execOp,Act.eval,hrun,Result.andThen,Xq] at hrun ⊢
           all_goals (try simp [hrun,Result.andThen])
          simp only [zp]
          repeat (first|(refine dw_skip rfl rfl rfl ?_;simp only [zp])|(refine' dv rfl rfl rfl (fun wv HC=>?_) ?_;rotate_left;(focus (obtain ⟨f0,f1,f2,f3,f4,f5,f6,f7⟩:=HF.out _ HC;go_simp<;>rfl;done));simp only [zp]))
          refine Zk ?_
          rintro wx9 HX9
          rintro _hrm _HG
          rw [HKL.out] at HX9
          clear _hrm _HG
          go_wp2_with fail
          go_ret
          exact ⟨by rw [HN.out]<;>rfl,HX9.below⟩
         ·have hzd:decide (z≥p.id)=false:=by simpa using hzi
          have HPV:=hid (show (last.any fun q=>decide (q≥p.upd.1))=false by show (last.any fun q=>decide (q≥p.id))=false;rw [HZL.out];simpa using hzi)
          clear hzi
          go_wp2_with fail
          refine Lj (by kernel_rfl) ?_
          refine Zn 38 124 (KL) (spL [(101,V6 (vs=p.old))]) (by kernel_rfl) (by kernel_rfl) (by kernel_rfl) rfl ?_ (K3.drew) ?_
          ·exact Zd (fun _ _ _ _ h=>h) (Zm _)
          simp only [zd,zp,List.getElem_toArray,List.getElem_cons_zero,List.getElem_cons_succ]
          repeat (first|(refine dw_skip rfl rfl rfl ?_;simp only [zp])|(refine' dv rfl rfl rfl (fun wv HC=>?_) ?_;rotate_left;(focus (obtain ⟨f0,f1,f2,f3,f4,f5,f6,f7⟩:=HF.out _ HC;go_simp<;>rfl;done));simp only [zp]))
          refine Wu rfl rfl rfl ⟨.bool false,fun wv HC=>?_,?_⟩
          ·have hob:=(show MSet 4 Xq gm q (fun z=>z∈dels) wv by
            have HC2:=HC
            rw [HKL.out] at HC2
            exact HC2.ob_ 3 rfl).look Tryz.VW (x:=p.id) HPI.out
           obtain ⟨cb,hrun,hcb⟩:=hob
           obtain rfl:cb=false:=by cases cb;rfl;exact absurd (hcb.1 rfl) HINN.out
           simp [execOp,Act.eval,hrun,Result.andThen,Xq] at hrun ⊢
           all_goals (try simp [hrun,Result.andThen])
          simp only [zp]
          repeat (first|(refine dw_skip rfl rfl rfl ?_;simp only [zp])|(refine' dv rfl rfl rfl (fun wv HC=>?_) ?_;rotate_left;(focus (obtain ⟨f0,f1,f2,f3,f4,f5,f6,f7⟩:=HF.out _ HC;go_simp<;>rfl;done));simp only [zp]))
          refine Zi 101 (V6 (vs=p.old)) (f:=61) (args:=#[.slice A1 n1 c1,.slice p.oA p.on p.oc]) rfl rfl rfl rfl (fun wv=>?_) (fun wv HC hrm hD=>?_) ?_
          ·go_simp<;>rfl
          ·refine (zb (Mut M KL) wv HC.Zb A1 n1 c1 vs p.oA p.on p.oc p.old (HRX.out _ HC).1 (HRX.out _ HC).2 (by omega) (by omega)).mono ?_
           rintro e w5 ⟨⟨r,rfl,hr⟩,b5⟩
           exact ⟨_,rfl,⟨r,rfl,hr⟩,HC.call b5,RM.below b5⟩
          rintro u wx HCx ⟨r,rfl,hr⟩
          have HR:=hid hr
          clear HCx hr
          simp only [zp]
          by_cases hr0:r=0
          ·have hb0:(r !=0)=false:=by simp [hr0]
           have HEQ:=hid (HR.out.1 hr0)
           clear hr0
           repeat (first|(refine dw_skip rfl rfl rfl ?_;simp only [zp])|(refine' dv rfl rfl rfl (fun wv HC=>?_) ?_;rotate_left;(focus (obtain ⟨f0,f1,f2,f3,f4,f5,f6,f7⟩:=HF.out _ HC;go_simp<;>rfl;done));simp only [zp]))
           by_cases hw:p.nn=n
           ·have hwb:((p.nn:Int) !=(n:Int))=false:=by simp [hw]
            have HW:=hid hw
            clear hw
            repeat (first|(refine dw_skip rfl rfl rfl ?_;simp only [zp])|(refine' dv rfl rfl rfl (fun wv HC=>?_) ?_;rotate_left;(focus (go_simp<;>rfl;done));simp only [zp]))
            refine Zk ?_
            rintro wx9 HX9
            rintro _hrm _HG
            rw [HKL.out] at HX9
            clear _hrm _HG
            have HS2:=hid (show YW (l.map Rw.row) n dels none (us.map Pr.upd)=YW (l.map Rw.row) n dels (some p.id) ((us.map Pr.upd).drop (k+1)) by rw [HP.out.2];exact ZdB HU.out HGS.out HIN.out HPV.out (HG2.out.trans (by rw [HEQ.out];rfl)) (HPL.out.trans HW.out))
            have HPP:=hid (show Ua ((us.map Pr.upd).map (·.1)) (k+1) (some p.id) from ⟨fun h=>by omega,fun q hq=>⟨p.id,(show k=q by omega) ▸ (by rw [KQ,HU.out];rfl),rfl⟩⟩)
            have K9:=HX9.drop (Ke _ (Ke _ (Kb _ _)))
            go_wp2_with fail
            go_roundw
            case rel=>exact ⟨k+1,some p.id,by omega,by go_num,hid ⟨HPP.out,HS2.out⟩,K9⟩
            case measure=>simp [intOf];omega
           ·have hwb:((p.nn:Int) !=(n:Int))=true:=by rw [bne_iff_ne];omega
            have HN:=hid (show ZR nm cs nx (l.map Rw.row) (ins.map Sl.vs) dels (us.map Pr.upd)=false from Vg HDK.out (by rw [HP.out.2];exact Vz HU.out (.inr (.inr (.inr (.inr (by rw [show p.upd.2.2.length=p.nn from HPL.out];exact hw)))))))
            clear hw
            repeat (first|(refine dw_skip rfl rfl rfl ?_;simp only [zp])|(refine' dv rfl rfl rfl (fun wv HC=>?_) ?_;rotate_left;(focus (go_simp<;>rfl;done));simp only [zp]))
            refine Zk ?_
            rintro wx9 HX9
            rintro _hrm _HG
            rw [HKL.out] at HX9
            clear _hrm _HG
            go_wp2_with fail
            go_ret
            exact ⟨by rw [HN.out]<;>rfl,HX9.below⟩
          ·have hb0:(r !=0)=true:=by simpa using hr0
           have HN:=hid (show ZR nm cs nx (l.map Rw.row) (ins.map Sl.vs) dels (us.map Pr.upd)=false from Vg HDK.out (by rw [HP.out.2];exact Vz HU.out (.inr (.inr (.inr (.inl (by rw [HG2.out];exact fun e=>hr0 (HR.out.2 (Kz e)))))))))
           clear hr0
           repeat (first|(refine dw_skip rfl rfl rfl ?_;simp only [zp])|(refine' dv rfl rfl rfl (fun wv HC=>?_) ?_;rotate_left;(focus (go_simp<;>rfl;done));simp only [zp]))
           refine Zk ?_
           rintro wx9 HX9
           rintro _hrm _HG
           rw [HKL.out] at HX9
           clear _hrm _HG
           go_wp2_with fail
           go_ret
           exact ⟨by rw [HN.out]<;>rfl,HX9.below⟩
     ·obtain rfl:nu=k:=by omega
      have hdd:decide ((nu:Int)<(nu:Int))=false:=by simp
      clear hlt
      have HUV:=hid (show YW (l.map Rw.row) n dels none (us.map Pr.upd)=true by rw [HP.out.2];exact Zmc (by rw [Kj,HUL.out];exact Kg _))
      have F1:=H.facts
      simp only [zg] at F1
      go_wp2_with fail
      clear F1 hdd HP
      go_loopw [115] (fun iv wr=>∃ k:Nat,k≤ni∧iv=.int .i64 k∧Hid (((ins.map Sl.vs).take k).any (fun s=>decide (s.length≠n))=false)∧Hold M none w wr [.ob gm (MSet 4 Xq gm q (fun z=>z∈dels)),.cst gc 87 #[.slice I ni ci,.slice D nd cd,.slice U nu cu],.cst gt 69 #[.string nm,.slice A n c,.int .i64 nx,.slice B m d],.ro (SlR 4 A n (Zf cs)),.ro (RwsIn B m l),.ro (SlsIn I ni ins),.ro (IsIn D nd dels),.ro (PrsIn U nu us)]) (fun iv _=>ni - (intOf iv).toNat)
      case atStart=>exact ⟨0,by omega,rfl,hid rfl,H⟩
      case round=>
       clear H
       obtain ⟨k,hk,rfl,HA,H⟩:=hrel
       by_cases hlt:k<ni
       ·have hdd:decide ((k:Int)<(ni:Int))=true:=by simp;omega
        have k0:(0:Int)≤(k:Int):=by omega
        have k1:(k:Int)<(ni:Int):=by omega
        obtain ⟨x,hx⟩:=Zl HIL.out hlt
        obtain ⟨b,o,rfl,hb,c0,hv⟩:=(H.ro 5 rfl).now.at_ hx
        have HX:=hid (show (ins.map Sl.vs)[k]? =some x.vs by rw [KQ,hx];rfl)
        have HXL:=hid hv.len
        clear hx hv
        by_cases hw:x.n=n
        ·have hwb:((x.n:Int) !=(n:Int))=false:=by simp [hw]
         have HN:=hid (show ((ins.map Sl.vs).take (k+1)).any (fun s=>decide (s.length≠n))=false by rw [Kq,HX.out,List.any_append,HA.out];simp [HXL.out,hw])
         clear hw
         go_wp2_with fail
         go_roundw
         case rel=>exact ⟨k+1,by omega,by go_num,HN,H⟩
         case measure=>simp [intOf];omega
        ·have hwb:((x.n:Int) !=(n:Int))=true:=by rw [bne_iff_ne];omega
         have HN:=hid (show ZR nm cs nx (l.map Rw.row) (ins.map Sl.vs) dels (us.map Pr.upd)=false from Zfu HDK.out (List.any_eq_true.2 ⟨x.vs,Ka HX.out,by rw [HXL.out];simpa using hw⟩))
         clear hw
         go_wp2_with fail
         go_ret
         exact ⟨by rw [HN.out]<;>rfl,H.below⟩
       ·obtain rfl:ni=k:=by omega
        have hdd:decide ((ni:Int)<(ni:Int))=false:=by simp
        have HN:=hid (show ZR nm cs nx (l.map Rw.row) (ins.map Sl.vs) dels (us.map Pr.upd)=true from Zfv HDK.out HTB.out HRK.out HUV.out (by have h:=HA.out;rwa [Kh (by rw [Kj,HIL.out];exact Kg _)] at h))
        go_wp2_with fail
        go_ret
        exact ⟨by rw [HN.out]<;>rfl,H.below⟩
end
section
open Go.RowKit
def goR (dels:List Int):List Row→List Upd→List Row
 | [],_=>[]
 | r::rs,[]=>if dels.contains r.1 then goR dels rs [] else r::goR dels rs []
 | r::rs,u::us=>if dels.contains r.1 then goR dels rs (u::us) else if u.1=r.1 then (r.1,u.2.2)::goR dels rs us else r::goR dels rs (u::us)
def Vk (nx:Int) (ins:List (List Vl)):List Row:=ins.zipIdx.map fun p=>(nx+(p.2:Int),p.1)
def Ql (nx:Int) (rs:List Row) (ins:List (List Vl)) (dels:List Int) (us:List Upd):List Row:=goR dels rs us++Vk nx ins
def WB:Tb:=⟨⟨#[]⟩,[],0,[]⟩
def YY (nm:ByteArray) (cs:List Col) (nx:Int) (rs:List Row) (ins:List (List Vl)) (dels:List Int) (us:List Upd):Int × Tb:=
 if ZR nm cs nx rs ins dels us=false then (17,WB)
 else if XB cs (us.map (·.2.2)) ins≠0 then (XB cs (us.map (·.2.2)) ins,WB)
 else if (rs.length:Int) - dels.length+ins.length > 100∨(ins.length:Int) > 2147483648 - nx then (10,WB)
 else if YH cs (Ql nx rs ins dels us) then (9,WB)
 else (0,⟨nm,cs,nx+ins.length,Ql nx rs ins dels us⟩)
theorem ZhS {nx:Int} {ins:List (List Vl)} {k:Nat} {v:List Vl} (hv:ins[k]? =some v):Vk nx (ins.take (k+1))=Vk nx (ins.take k)++[(nx+(k:Int),v)]:=by
 have hk:k<ins.length:=(Kc.1 hv).1
 unfold Vk
 rw [Kq,hv,Option.toList_some,List.zipIdx_append,Km,List.length_take,Nat.min_eq_left (Nat.le_of_lt hk)]
 simp
theorem GJ {cs:List Col}:∀ {l:List (List Vl)},Yt cs l=0→∀ v∈l,Zt cs v=0
 | [],_,v,hv=>nomatch hv
 | x::l,h,v,hv=>by
  rw [Yt] at h
  split at h
  ·rcases Kv.1 hv with rfl|hv
   ·assumption
   ·exact GJ h v hv
  ·exact absurd h (by assumption)
theorem Zbx {cs:List Col} {a b:List (List Vl)} (h:XB cs a b=0):(∀ v∈a,Zt cs v=0)∧∀ v∈b,Zt cs v=0:=by
 unfold XB at h
 split at h
 ·exact ⟨GJ (by assumption),GJ h⟩
 ·exact absurd h (by assumption)
def ZdR (w:World) (M:Nat→Prop) (r:Int × Tb) (e:Ending) (w' :World):Prop:=∃ v,e=.returned (.tuple #[v,.int .i64 r.1])∧Wo w' M v r.2∧Below w.heap.size w w'
theorem UC {w:World} {M:Nat→Prop}:Wo w M (.agg #[.string ⟨#[]⟩,.slice none 0 0,.int .i64 0,.slice none 0 0]) WB:=⟨none,0,0,none,0,0,[],rfl,by omega,by omega,by omega,by omega,WW,fun _ _ _=>⟨Rd.none_,fun r hr=>nomatch hr⟩,fun r hr=>(nomatch hr),rfl⟩
end
section
open Go.RowKit
def QC (us:List Upd) (id:Int) (v:List Vl):List Vl:=us.foldl (fun acc p=>if p.1=id then p.2.2 else acc) v
theorem JR (u:Upd) (us:List Upd) (id:Int) (v:List Vl):QC (u::us) id v=QC us id (if u.1=id then u.2.2 else v):=rfl
theorem JS:∀ {us:List Upd} {id:Int} {v:List Vl},(∀ u∈us,u.1≠id)→QC us id v=v
 | [],_,_,_=>rfl
 | u::us,id,v,h=>by
  rw [JR,Lf (h u (Kl ..))]
  exact JS fun x hx=>h x (Kr _ hx)
def keepR (dels:List Int) (us:List Upd) (rs:List Row):List Row:=(rs.filter fun r=>!dels.contains r.1).map fun r=>(r.1,QC us r.1 r.2)
theorem VT {cs:List Col} {nx:Int}:∀ {lst:Int} {rs:List Row},okR cs nx lst rs=true→(rs.map (·.1)).Pairwise (·<·)∧∀ r∈rs,lst<r.1∧r.1<nx
 | _,[],_=>⟨List.Pairwise.nil,fun _ h=>nomatch h⟩
 | lst,r::rs,h=>by
  rw [okR] at h
  simp only [Bool.and_eq_true,decide_eq_true_eq] at h
  obtain ⟨h1,h2⟩:=VT h.2
  refine ⟨?_,fun x hx=>?_⟩
  ·rw [List.map_cons,List.pairwise_cons]
   refine ⟨fun a ha=>?_,h1⟩
   obtain ⟨x,hx,rfl⟩:=Kt.1 ha
   exact (h2 x hx).1
  ·rcases Kv.1 hx with rfl|hx
   ·exact ⟨h.1.1.1,h.1.1.2⟩
   ·exact ⟨Int.lt_trans h.1.1.1 (h2 x hx).1,(h2 x hx).2⟩
theorem zh {rs:List Row} {gone:List Int}:∀ {ids:List Int} {last:Option Int},Yo rs gone last ids=true→ids.Pairwise (·<·)∧∀ id∈ids,(Zj rs id).isSome=true∧gone.contains id=false∧∀ p,last=some p→p<id
 | [],_,_=>⟨List.Pairwise.nil,fun _ h=>nomatch h⟩
 | id::ids,last,h=>by
  rw [Yo] at h
  simp only [Bool.and_eq_true,Bool.not_eq_true'] at h
  obtain ⟨⟨⟨h1,h2⟩,h3⟩,h4⟩:=h
  obtain ⟨i1,i2⟩:=zh h4
  have hl:∀ p,last=some p→p<id:=fun p hp=>by
   rw [hp] at h2
   simp only [Option.any_some,decide_eq_false_iff_not] at h2
   omega
  refine ⟨List.pairwise_cons.2 ⟨fun a ha=>(i2 a ha).2.2 id rfl,i1⟩,fun x hx=>?_⟩
  rcases Kv.1 hx with rfl|hx
  ·exact ⟨h1,h3,hl⟩
  ·exact ⟨(i2 x hx).1,(i2 x hx).2.1,fun p hp=>Int.lt_trans (hl p hp) ((i2 x hx).2.2 id rfl)⟩
theorem ZbH {rs:List Row} {id:Int} (h:(Zj rs id).isSome=true):id∈rs.map (·.1):=by
 unfold Zj at h
 rw [Option.isSome_map] at h
 obtain ⟨r,hr⟩:=Option.isSome_iff_exists.1 h
 have h1:=List.find?_some hr
 have h2:=List.mem_of_find?_eq_some hr
 exact List.mem_map.2 ⟨r,h2,by simpa using h1⟩
theorem Uo {dels:List Int}:∀ (rs:List Row) (us:List Upd),(rs.map (·.1)).Pairwise (·<·)→(us.map (·.1)).Pairwise (·<·)→(∀ u∈us,u.1∈rs.map (·.1)∧dels.contains u.1=false)→goR dels rs us=keepR dels us rs
 | [],us,_,_,h=>by simp [goR,keepR]
 | r::rs,[],hr,_,_=>by
  have ih:=Uo (dels:=dels) rs [] (List.pairwise_cons.1 hr).2 List.Pairwise.nil (fun _ h=>nomatch h)
  rw [goR]
  cases hd:dels.contains r.1
  ·simp only [keepR,List.filter_cons,hd,Bool.not_false,if_true,List.map_cons,Bool.false_eq_true,if_false] at ih ⊢
   rw [ih];rfl
  ·simp only [keepR,List.filter_cons,hd,Bool.not_true,if_true,Bool.false_eq_true,if_false] at ih ⊢
   rw [ih]
 | r::rs,u::us,hr,hu,h=>by
  obtain ⟨r1,r2⟩:=List.pairwise_cons.1 hr
  obtain ⟨u1,u2⟩:=List.pairwise_cons.1 hu
  replace r1:∀ x∈rs,r.1<x.1:=fun x hx=>r1 _ (Ko (f:=fun x:Row=>x.1) hx)
  replace u1:∀ x∈us,u.1<x.1:=fun x hx=>u1 _ (Ko (f:=fun x:Upd=>x.1) hx)
  have hin:∀ x∈u::us,(x.1=r.1∨x.1∈rs.map (·.1))∧dels.contains x.1=false:=fun x hx=>⟨Kv.1 (h x hx).1,(h x hx).2⟩
  rw [goR]
  cases hd:dels.contains r.1
  ·simp only [Bool.false_eq_true,if_false]
   by_cases hur:u.1=r.1
   ·rw [Lg hur]
    have ih:=Uo (dels:=dels) rs us r2 u2 fun x hx=>by
     obtain ⟨h1,h2⟩:=hin x (Kr _ hx)
     refine ⟨?_,h2⟩
     rcases h1 with h1|h1
     ·have:=u1 x hx;omega
     ·exact h1
    rw [ih]
    simp only [keepR,List.filter_cons,hd,Bool.not_false,if_true,List.map_cons]
    rw [JR,Lg hur,JS fun x hx=>by have:=u1 x hx;omega]
    congr 1
    refine List.map_congr_left fun x hx=>?_
    have:=r1 x (List.mem_filter.1 hx).1
    rw [JR,Lf (by omega)]
   ·rw [Lf hur]
    have hmem:∀ x∈u::us,r.1<x.1∧x.1∈rs.map (·.1):=fun x hx=>by
     have hu0:r.1<u.1:=by
      rcases (hin u (Kl ..)).1 with h1|h1
      ·exact absurd h1 hur
      ·obtain ⟨y,hy,hyu⟩:=Kt.1 h1
       have:=r1 y hy
       have hyu:y.1=u.1:=hyu
       omega
     have hx1:r.1<x.1:=by
      rcases Kv.1 hx with rfl|hx
      ·exact hu0
      ·exact Int.lt_trans hu0 (u1 x hx)
     refine ⟨hx1,?_⟩
     rcases (hin x hx).1 with h1|h1
     ·omega
     ·exact h1
    have ih:=Uo (dels:=dels) rs (u::us) r2 hu fun x hx=>⟨(hmem x hx).2,(h x hx).2⟩
    rw [ih]
    simp only [keepR,List.filter_cons,hd,Bool.not_false,if_true,List.map_cons]
    rw [JS fun x hx=>by have:=(hmem x hx).1;omega]
  ·simp only [if_true]
   have ih:=Uo (dels:=dels) rs (u::us) r2 hu fun x hx=>by
    obtain ⟨h1,h2⟩:=hin x hx
    refine ⟨?_,h2⟩
    rcases h1 with h1|h1
    ·rw [h1,hd] at h2;cases h2
    ·exact h1
   rw [ih]
   simp only [keepR,List.filter_cons,hd,Bool.not_true,Bool.false_eq_true,if_false]
theorem XU {nm:ByteArray} {cs:List Col} {nx:Int} {rs:List Row} (h:Zh nm cs nx rs=true):Yx nm cs=true∧rs.length≤100∧1≤nx∧nx≤2147483648∧okR cs nx 0 rs=true∧YH cs rs=false:=by
 unfold Zh at h
 simp only [Bool.and_eq_true,decide_eq_true_eq,Bool.not_eq_true'] at h
 obtain ⟨⟨⟨⟨⟨h1,h2⟩,h3⟩,h4⟩,h5⟩,h6⟩:=h
 exact ⟨h1,h2,h3,h4,h5,h6⟩
theorem Gq {nm:ByteArray} {cs:List Col} {nx:Int} {rs:List Row} {ins:List (List Vl)} {dels:List Int} {us:List Upd} (h:ZR nm cs nx rs ins dels us=true):
  Zh nm cs nx rs=true∧(dels.Pairwise (·<·)∧∀ id∈dels,id∈rs.map (·.1))∧(us.map (·.1)).Pairwise (·<·)∧∀ u∈us,u.1∈rs.map (·.1)∧dels.contains u.1=false:=by
 unfold ZR at h
 simp only [Bool.and_eq_true] at h
 obtain ⟨⟨⟨⟨h1,h2⟩,h3⟩,h4⟩,h5⟩:=h
 obtain ⟨a1,a2⟩:=zh h2
 obtain ⟨b1,b2⟩:=zh h4
 exact ⟨h1,⟨a1,fun id hd=>ZbH (a2 id hd).1⟩,b1,fun u hu=>⟨ZbH (b2 u.1 (Ko hu)).1,(b2 u.1 (Ko hu)).2.1⟩⟩
section
variable {nm:ByteArray} {cs:List Col} {nx:Int} {rs:List Row} {ins:List (List Vl)} {dels:List Int} {us:List Upd} {T:Tb}
end
end
section
open Go.RowKit
theorem Zkc (w:World) (A:Option Addr) (n c:Nat) (xs:List Int) (x:Int) (hD:IsIn A n xs w) (hn:n≤9223372036854775807):
  Calls Tryz.prog 54 #[.slice A n c,.int .i64 x] w fun e w' =>e=.returned (.bool (xs.contains x))∧w=w' :=by
 have HL:=hid hD.len
 go_enter Tryz.func54,Tryz.ntmps54
 go_wp2_with fail
 go_loopw [9] (fun iv wr=>∃ (k:Nat),k≤n∧iv=.int .i64 k∧wr=w∧Hid ((xs.take k).contains x=false)) (fun iv _=>n - (intOf iv).toNat)
 case atStart=>exact ⟨0,by omega,rfl,rfl,hid (by simp)⟩
 case round=>
  obtain ⟨k,hk,rfl,rfl,HC⟩:=hrel
  by_cases hlt:k<n
  ·have hd:decide ((k:Int)<(n:Int))=true:=by simp;omega
   have i0:(0:Int)≤(k:Int):=by omega
   have i1:(k:Int)<(n:Int):=by omega
   obtain ⟨b,o,rfl,_,hcc⟩:=hD.cells (by omega)
   have HX:=hid (show xs[k]? =some (xs.getD k 0) by simp [List.getD,show k<xs.length by rw [HL.out];exact hlt])
   have ck:wr.cell? ⟨b,o+k,none⟩=some (.int .i64 (xs.getD k 0)):=hcc k (by rw [HL.out];exact hlt)
   clear hcc
   generalize xs.getD k 0=y at *
   by_cases hxy:x=y
   ·have e1:(y==x)=true:=by simp [hxy]
    have HN:=hid (ZfO HX.out hxy)
    clear hxy
    go_wp2_with fail
    go_ret
    exact ⟨by rw [HN.out]<;>rfl,rfl⟩
   ·have e1:(y==x)=false:=by rw [beq_eq_false_iff_ne];exact fun e=>hxy e.symm
    have HN:=hid (ZfP HX.out hxy HC.out)
    clear hxy
    go_wp2_with fail
    go_roundw
    case rel=>exact ⟨k+1,by omega,by go_num,by first|rfl|trivial,HN⟩
    case measure=>simp [intOf];omega
  ·obtain rfl:n=k:=by omega
   have hd:decide ((n:Int)<(n:Int))=false:=by simp
   have HN:=hid (show xs.contains x=false by have h:=HC.out;rwa [Kh (by rw [HL.out];exact Kg _)] at h)
   go_wp2_with fail
   go_ret
   exact ⟨by rw [HN.out]<;>rfl,rfl⟩
def YJ (us:List Upd) (id:Int):Option (List Vl):=(us.find? fun u=>u.1==id).map (·.2.2)
theorem Zbj {us:List Upd} {k:Nat} {u:Upd} {id:Int} (hu:us[k]? =some u) (h:u.1=id):YJ (us.drop k) id=some u.2.2:=by
 unfold YJ;rw [Yr hu,List.find?_cons,show (u.1==id)=true by simpa using h];rfl
theorem Zbk {us:List Upd} {k:Nat} {u:Upd} {id:Int} (hu:us[k]? =some u) (h:u.1≠id):YJ (us.drop k) id=YJ (us.drop (k+1)) id:=by
 unfold YJ;rw [Yr hu,List.find?_cons,show (u.1==id)=false by simpa using h]
def Zd7 (w:World) (M:Nat→Prop) (o:Option (List Vl)) (e:Ending) (w' :World):Prop:=
 ∃ (A:Option Addr) (n c:Nat),e=.returned (.tuple #[.slice A n c,.bool o.isSome])∧n=(o.getD []).length∧n≤c∧c≤9223372036854775807∧Ro w' M (VlsIn A n (o.getD []))∧Below w.heap.size w w'
theorem ZkO (M:Nat→Prop) (w:World) (hM:∀ b,M b→b<w.heap.size) (U:Option Addr) (nu cu:Nat) (ps:List Pr) (id:Int) (hE:Ro w M (PrsIn U nu ps)) (hm:nu≤4611686018427387904) (hok:∀ p∈ps,p.ok):
  Calls Tryz.prog 55 #[.slice U nu cu,.int .i64 id] w fun e w' =>Zd7 w M (YJ (ps.map Pr.upd) id) e w' :=by
 have HL:=hid hE.now.len
 have K0:=(Hold.start M w hM).add (hE.less (by simp [Mut]))
 clear hE
 go_enter Tryz.func55,Tryz.ntmps55
 go_wp2_with fail
 go_loopw [10] (fun iv wr=>∃ (j:Nat),j≤nu∧iv=.int .i64 j∧Hid (YJ (ps.map Pr.upd) id=YJ ((ps.map Pr.upd).drop j) id)∧Hold M none w wr [.ro (PrsIn U nu ps)]) (fun iv _=>nu - (intOf iv).toNat)
 case atStart=>exact ⟨0,by omega,rfl,hid rfl,K0⟩
 case round=>
  clear K0
  obtain ⟨j,hj,rfl,HS,H⟩:=hrel
  by_cases hlt:j<nu
  ·have hd:decide ((j:Int)<(nu:Int))=true:=by simp;omega
   have j0:(0:Int)≤(j:Int):=by omega
   have j1:(j:Int)<(nu:Int):=by omega
   obtain ⟨p,hp⟩:=Zl HL.out hlt
   obtain ⟨b,o,rfl,hb,c0,c1,c2,hv1,hv2⟩:=(H.ro 0 rfl).now.at_ hp
   have HU:=hid (show (ps.map Pr.upd)[j]? =some p.upd by rw [KQ,hp];rfl)
   have HOK:=hid (hok p (Ka hp))
   have HPL:=hid hv2.len
   have hpr:Ro wr _ (VlsIn p.nA p.nn p.new):=(H.ro 0 rfl).imp fun w2 h2=>(h2.2 p (Ka hp)).2
   obtain ⟨pid,oA,on,oc,old,nA,nn,nc,new⟩:=p
   dsimp only at *
   clear hp hv1 hv2
   have K2:=(H.add hpr).Za #[.int .i64 pid,.slice oA on oc,.slice nA nn nc] 136
   have FA:=K2.facts
   simp only [zg] at FA
   clear H hpr
   by_cases hi:pid=id
   ·have hb2:(pid==id)=true:=by simp [hi]
    have HN:=hid (show YJ (ps.map Pr.upd) id=some new from HS.out.trans (Zbj HU.out hi))
    clear hi
    go_wp2_with fail
    go_ret2
    rw [HN.out]
    exact ⟨nA,nn,nc,rfl,HPL.out.symm,HOK.out.nc,HOK.out.nc2,K2.ZN 1 rfl,K2.below⟩
   ·have hb2:(pid==id)=false:=by simpa using hi
    have HN:=hid (show YJ (ps.map Pr.upd) id=YJ ((ps.map Pr.upd).drop (j+1)) id from HS.out.trans (Zbk HU.out hi))
    clear hi
    go_wp2_with fail
    go_roundw
    case rel=>exact ⟨j+1,by omega,by go_num,HN,K2.drop (Ke _ (Kb _ _))⟩
    case measure=>simp [intOf];omega
  ·obtain rfl:nu=j:=by omega
   have hd:decide ((nu:Int)<(nu:Int))=false:=by simp
   have HN:=hid (show YJ (ps.map Pr.upd) id=none by rw [HS.out,Ld (by rw [Kj,HL.out];exact Kg _)];rfl)
   go_wp2_with fail
   go_ret2
   rw [HN.out]
   exact ⟨none,0,0,rfl,rfl,by omega,by omega,WW,H.below⟩
end
section
open Go.RowKit
structure Dl where
 nm:ByteArray
 ins:List Row
 del:List Row
 upd:List Upd
deriving DecidableEq
def V4:Dl:=⟨⟨#[]⟩,[],[],[]⟩
def Z4 (rs l:List Row):List Row:=l.filter fun r=>(Zj rs r.1).isNone
def YF (rs l:List Row):List Upd:=l.filterMap fun r=>match Zj rs r.1 with
 | some o=>if o=r.2 then none else some (r.1,o,r.2)
 | none=>none
def Xc (a b:Tb):Bool:=Zh a.nm a.cs a.nx a.rs&&Zh b.nm b.cs b.nx b.rs&&decide (a.nm=b.nm∧a.cs=b.cs)&&decide (a.nx≤b.nx)&&b.rs.all fun r=>(Zj a.rs r.1).isSome||decide (a.nx≤r.1)
def Zw (a b:Tb):Bool × Dl:=if Xc a b then (true,⟨a.nm,Z4 a.rs b.rs,Z4 b.rs a.rs,YF a.rs b.rs⟩) else (false,V4)
theorem Zcc {rs l:List Row} {j:Nat} {r:Row} (hr:l[j]? =some r) (h:Zj rs r.1=none):Z4 rs (l.take (j+1))=Z4 rs (l.take j)++[r]:=by
 unfold Z4
 rw [Kq,hr,Option.toList_some,KY]
 simp [List.filter_cons,h]
theorem G5 {rs l:List Row} {j:Nat} {r:Row} {v:List Vl} (hr:l[j]? =some r) (h:Zj rs r.1=some v):Z4 rs (l.take (j+1))=Z4 rs (l.take j):=by
 unfold Z4
 rw [Kq,hr,Option.toList_some,KY]
 simp [List.filter_cons,h]
theorem Zl7 {rs l:List Row} {j:Nat} {r:Row} (hr:l[j]? =some r) (h:Zj rs r.1=none):YF rs (l.take (j+1))=YF rs (l.take j):=by
 unfold YF
 rw [Kq,hr,Option.toList_some,List.filterMap_append]
 simp [h]
theorem Zl8 {rs l:List Row} {j:Nat} {r:Row} (hr:l[j]? =some r) (h:Zj rs r.1=some r.2):YF rs (l.take (j+1))=YF rs (l.take j):=by
 unfold YF
 rw [Kq,hr,Option.toList_some,List.filterMap_append]
 simp [h]
theorem Zl9 {rs l:List Row} {j:Nat} {r:Row} {o:List Vl} (hr:l[j]? =some r) (h:Zj rs r.1=some o) (hne:o≠r.2):YF rs (l.take (j+1))=YF rs (l.take j)++[(r.1,o,r.2)]:=by
 unfold YF
 rw [Kq,hr,Option.toList_some,List.filterMap_append]
 simp [h,hne]
theorem XO:∀ {rs:List Row} {r:Row},(rs.map (·.1)).Pairwise (·<·)→r∈rs→Zj rs r.1=some r.2
 | x::rs,r,ha,hr=>by
  rw [List.map_cons,List.pairwise_cons] at ha
  rcases Kv.1 hr with rfl|hr
  ·simp [Zj]
  ·have h1:=ha.1 r.1 (Ko hr)
   have h2:=XO ha.2 hr
   unfold Zj at h2 ⊢
   rw [List.find?_cons,show (x.1==r.1)=false by rw [beq_eq_false_iff_ne];omega]
   exact h2
theorem ZbG {rs:List Row} {id:Int} {v:List Vl} (h:Zj rs id=some v):(id,v)∈rs:=by
 unfold Zj at h
 obtain ⟨x,hx,rfl⟩:=Option.map_eq_some_iff.1 h
 have h1:=List.mem_of_find?_eq_some hx
 have h2:=List.find?_some hx
 simp only [beq_iff_eq] at h2
 subst h2
 exact h1
structure Mg (a b:List Row) (j p:Nat):Prop where
 aasc:(a.map (·.1)).Pairwise (·<·)
 basc:(b.map (·.1)).Pairwise (·<·)
 low:∀ x∈a.take p,∀ y∈b.drop j,x.1<y.1
 up:∀ x∈a.drop p,∀ y∈b.take j,y.1<x.1
theorem Mg.zero {a b:List Row} (ha:(a.map (·.1)).Pairwise (·<·)) (hb:(b.map (·.1)).Pairwise (·<·)):Mg a b 0 0:=⟨ha,hb,fun x hx=>by simp at hx,fun x _ y hy=>by simp at hy⟩
structure BSt (a b:Tb) (j p:Nat) (li ld:List Rw) (lu:List Pr):Prop where
 va:Zh a.nm a.cs a.nx a.rs=true
 vb:Zh b.nm b.cs b.nx b.rs=true
 eq:a.nm=b.nm∧a.cs=b.cs
 nx:a.nx≤b.nx
 mg:Mg a.rs b.rs j p
 ins:li.map Rw.row=Z4 a.rs (b.rs.take j)
 del:ld.map Rw.row=Z4 b.rs (a.rs.take p)
 upd:lu.map Pr.upd=YF a.rs (b.rs.take j)
 new:∀ r∈b.rs.take j,(Zj a.rs r.1).isSome=true∨a.nx≤r.1
 ok1:∀ r∈li,r.ok
 ok2:∀ r∈ld,r.ok
 ok3:∀ p∈lu,p.ok
theorem Uy {t:Tb} (h:Zh t.nm t.cs t.nx t.rs=true):(t.rs.map (·.1)).Pairwise (·<·):=(VT (XU h).2.2.2.2.1).1
theorem BSt.zero {a b:Tb} (va:Zh a.nm a.cs a.nx a.rs=true) (vb:Zh b.nm b.cs b.nx b.rs=true) (eq:a.nm=b.nm∧a.cs=b.cs) (nx:a.nx≤b.nx):BSt a b 0 0 [] [] []:=
 ⟨va,vb,eq,nx,Mg.zero (Uy va) (Uy vb),rfl,rfl,rfl,fun r hr=>by simp at hr,fun r hr=>(nomatch hr),fun r hr=>(nomatch hr),fun r hr=>(nomatch hr)⟩
theorem Jh {α:Type} {P:α→Prop} {l:List α} {x:α} (h:∀ r∈l,P r) (k:P x):∀ r∈l++[x],P r:=fun r hr=>by
 rcases Kk.1 hr with hr|hr
 ·exact h r hr
 ·simp at hr;subst hr;exact k
theorem Gg {P:Row→Prop} {l:List Row} {j:Nat} {r:Row} (h:∀ x∈l.take j,P x) (hr:l[j]? =some r) (k:P r):∀ x∈l.take (j+1),P x:=by
 rw [Kq,hr,Option.toList_some]
 exact Jh h k
section
variable {a b:Tb} {j p:Nat} {li ld:List Rw} {lu:List Pr}
theorem BSt.fin (h:BSt a b j p li ld lu) (hj:b.rs.length≤j) (hp:a.rs.length≤p):Zw a b=(true,⟨a.nm,li.map Rw.row,ld.map Rw.row,lu.map Pr.upd⟩):=by
 have h1:=h.ins
 have h2:=h.del
 have h3:=h.upd
 have h4:=h.new
 rw [Kh hj] at h1 h3 h4
 rw [Kh hp] at h2
 have:Xc a b=true:=by
  unfold Xc
  rw [h.va,h.vb,decide_eq_true h.eq,decide_eq_true h.nx]
  simp only [Bool.and_self,Bool.true_and,List.all_eq_true,Bool.or_eq_true,decide_eq_true_eq]
  exact h4
 unfold Zw
 rw [this,Lg rfl,h1,h2,h3]
end
structure RSt (a b:Tb) (j p:Nat) (li ld:List Rw) (lu:List Pr):Prop where
 va:Zh a.nm a.cs a.nx a.rs=true
 vb:Zh b.nm b.cs b.nx b.rs=true
 eq:a.nm=b.nm∧a.cs=b.cs
 nx:a.nx≤b.nx
 ins:li.map Rw.row=Z4 a.rs (b.rs.take j)
 del:ld.map Rw.row=Z4 b.rs (a.rs.take p)
 upd:lu.map Pr.upd=YF a.rs (b.rs.take j)
 new:∀ r∈b.rs.take j,(Zj a.rs r.1).isSome=true∨a.nx≤r.1
 ok1:∀ r∈li,r.ok
 ok2:∀ r∈ld,r.ok
 ok3:∀ p∈lu,p.ok
theorem RSt.zero {a b:Tb} (va:Zh a.nm a.cs a.nx a.rs=true) (vb:Zh b.nm b.cs b.nx b.rs=true) (eq:a.nm=b.nm∧a.cs=b.cs) (nx:a.nx≤b.nx):RSt a b 0 0 [] [] []:=
 ⟨va,vb,eq,nx,rfl,rfl,rfl,fun r hr=>by simp at hr,fun r hr=>(nomatch hr),fun r hr=>(nomatch hr),fun r hr=>(nomatch hr)⟩
section
variable {a b:Tb} {j p:Nat} {li ld:List Rw} {lu:List Pr}
theorem RSt.ZhT (h:RSt a b j p li ld lu) {r:Row} (hr:b.rs[j]? =some r) (h2:Zj a.rs r.1=none) (hn:a.nx≤r.1) {y:Rw} (hy:y.row=r) (hk:y.ok):RSt a b (j+1) p (li++[y]) ld lu:=
 ⟨h.va,h.vb,h.eq,h.nx,by rw [Km,h.ins,Zcc hr h2,←hy];rfl,h.del,by rw [h.upd,Zl7 hr h2],Gg h.new hr (.inr hn),Jh h.ok1 hk,h.ok2,h.ok3⟩
theorem RSt.same (h:RSt a b j p li ld lu) {r:Row} {o:List Vl} (hr:b.rs[j]? =some r) (h2:Zj a.rs r.1=some o) (ho:o=r.2):RSt a b (j+1) p li ld lu:=by
 subst ho
 exact ⟨h.va,h.vb,h.eq,h.nx,by rw [h.ins,G5 hr h2],h.del,by rw [h.upd,Zl8 hr h2],Gg h.new hr (.inl (by rw [h2];rfl)),h.ok1,h.ok2,h.ok3⟩
theorem RSt.turn (h:RSt a b j p li ld lu) {r:Row} {o:List Vl} (hr:b.rs[j]? =some r) (h2:Zj a.rs r.1=some o) (ho:o≠r.2) {q:Pr} (hq:q.upd=(r.1,o,r.2)) (hk:q.ok):RSt a b (j+1) p li ld (lu++[q]):=
 ⟨h.va,h.vb,h.eq,h.nx,by rw [h.ins,G5 hr h2],h.del,by rw [Km,h.upd,Zl9 hr h2 ho,←hq];rfl,Gg h.new hr (.inl (by rw [h2];rfl)),h.ok1,h.ok2,Jh h.ok3 hk⟩
theorem RSt.bad (h:RSt a b j p li ld lu) {r:Row} (hr:b.rs[j]? =some r) (h2:Zj a.rs r.1=none) (hn:r.1<a.nx):Zw a b=(false,V4):=by
 have:Xc a b=false:=by
  unfold Xc
  have h3:(b.rs.all fun r=>(Zj a.rs r.1).isSome||decide (a.nx≤r.1))=false:=by
   rw [List.all_eq_false]
   exact ⟨r,Ka hr,by rw [h2];simp;omega⟩
  rw [h3,Bool.and_false]
 unfold Zw
 rw [this];rfl
theorem RSt.left (h:RSt a b j p li ld lu) {x:Row} (hx:a.rs[p]? =some x) (h2:Zj b.rs x.1=none) {y:Rw} (hy:y.row=x) (hk:y.ok):RSt a b j (p+1) li (ld++[y]) lu:=
 ⟨h.va,h.vb,h.eq,h.nx,h.ins,by rw [Km,h.del,Zcc hx h2,←hy];rfl,h.upd,h.new,h.ok1,Jh h.ok2 hk,h.ok3⟩
theorem RSt.keep (h:RSt a b j p li ld lu) {x:Row} {v:List Vl} (hx:a.rs[p]? =some x) (h2:Zj b.rs x.1=some v):RSt a b j (p+1) li ld lu:=
 ⟨h.va,h.vb,h.eq,h.nx,h.ins,by rw [h.del,G5 hx h2],h.upd,h.new,h.ok1,h.ok2,h.ok3⟩
theorem RSt.fin (h:RSt a b j p li ld lu) (hj:b.rs.length≤j) (hp:a.rs.length≤p):Zw a b=(true,⟨a.nm,li.map Rw.row,ld.map Rw.row,lu.map Pr.upd⟩):=by
 have h1:=h.ins
 have h2:=h.del
 have h3:=h.upd
 have h4:=h.new
 rw [Kh hj] at h1 h3 h4
 rw [Kh hp] at h2
 have:Xc a b=true:=by
  unfold Xc
  rw [h.va,h.vb,decide_eq_true h.eq,decide_eq_true h.nx]
  simp only [Bool.and_self,Bool.true_and,List.all_eq_true,Bool.or_eq_true,decide_eq_true_eq]
  exact h4
 unfold Zw
 rw [this,Lg rfl,h1,h2,h3]
end
theorem Ze0 {a b:Tb} (h:Zh a.nm a.cs a.nx a.rs=false):Zw a b=(false,V4):=by unfold Zw Xc;rw [h];rfl
theorem Ze1 {a b:Tb} (h:Zh b.nm b.cs b.nx b.rs=false):Zw a b=(false,V4):=by unfold Zw Xc;rw [h];simp
theorem Ze4 {a b:Tb} (h:decide (a.nm=b.nm∧a.cs=b.cs)=false):Zw a b=(false,V4):=by unfold Zw Xc;rw [h];simp
theorem Ze3 {a b:Tb} (h:b.nx<a.nx):Zw a b=(false,V4):=by
 have:decide (a.nx≤b.nx)=false:=by simp;omega
 unfold Zw Xc;rw [this];simp
def J2 (w:World) (M:Nat→Prop) (v:Value) (d:Dl):Prop:=
 ∃ (I:Option Addr) (ni ci:Nat) (D:Option Addr) (nd cd:Nat) (U:Option Addr) (nu cu:Nat) (li ld:List Rw) (lu:List Pr),v=.agg #[.string d.nm,.slice I ni ci,.slice D nd cd,.slice U nu cu]∧
  (ni≤ci∧ci≤9223372036854775807)∧(nd≤cd∧cd≤9223372036854775807)∧(nu≤cu∧cu≤9223372036854775807)∧Ro w M (RwsIn I ni li)∧Ro w M (RwsIn D nd ld)∧Ro w M (PrsIn U nu lu)∧
  (∀ r∈li,r.ok)∧(∀ r∈ld,r.ok)∧(∀ p∈lu,p.ok)∧li.map Rw.row=d.ins∧ld.map Rw.row=d.del∧lu.map Pr.upd=d.upd
def ZdS (w:World) (M:Nat→Prop) (r:Bool × Dl) (e:Ending) (w' :World):Prop:=∃ v,e=.returned (.tuple #[v,.bool r.1])∧J2 w' M v r.2∧Below w.heap.size w w'
theorem UZ {w:World} {M:Nat→Prop}:J2 w M (.agg #[.string ⟨#[]⟩,.slice none 0 0,.slice none 0 0,.slice none 0 0]) V4:=
 ⟨none,0,0,none,0,0,none,0,0,[],[],[],rfl,by omega,by omega,by omega,fun _ _ _=>⟨Rd.none_,fun r hr=>nomatch hr⟩,fun _ _ _=>⟨Rd.none_,fun r hr=>nomatch hr⟩,fun _ _ _=>⟨Rd.none_,fun r hr=>nomatch hr⟩,fun r hr=>(nomatch hr),fun r hr=>(nomatch hr),fun r hr=>(nomatch hr),rfl,rfl,rfl⟩
end
section
open Go.RowKit
def Zem (w:World) (M:Nat→Prop) (id:Int) (vs:List Vl) (e:Ending) (w' :World):Prop:=∃ (A:Option Addr) (n c:Nat),e=.returned (.agg #[.int .i64 id,.slice A n c])∧n=vs.length∧n≤c∧c≤9223372036854775807∧Ro w' M (VlsIn A n vs)∧Below w.heap.size w w'
theorem Zcw (M:Nat→Prop) (w:World) (hM:∀ b,M b→b<w.heap.size) (id:Int) (A:Option Addr) (n c:Nat) (vs:List Vl) (hD:Ro w M (VlsIn A n vs)) (hn:n≤4398046511104):Calls Tryz.prog 60 #[.agg #[.int .i64 id,.slice A n c]] w fun e w' =>Zem w M id vs e w' :=by
 have K0:=((Hold.start M w hM).add (hD.less (by simp [Mut]))).Za #[.int .i64 id,.slice A n c] 72|>.alloc #[.int .i64 0,.slice none 0 0] 72
 simp only [World.size_alloc] at K0
 clear hD
 go_enter Tryz.func60,Tryz.ntmps60
 go_wp2_with fail
 obtain ⟨g1,hg1⟩:∃ g,g=w.heap.size:=⟨_,rfl⟩
 obtain ⟨g2,hg2⟩:∃ g,g=g1+1:=⟨_,rfl⟩
 rw [←hg1,←hg2] at K0 ⊢
 generalize (w.alloc _).alloc _=w1 at K0 ⊢
 have HG:=hid hg1
 clear hg1 hg2
 obtain ⟨KL,hKL,KN⟩:=K0.name
 have HF:Hid (∀ wv,Hold M none w wv KL→(wv.cell? ⟨g1,0,none⟩=some (.int .i64 id)∧wv.cell? ⟨g1,1,none⟩=some (.slice A n c)∧g1<wv.heap.size)∧Ro wv (Mut M KL) (VlsIn A n vs)):=hid fun wv HC=>by
  rw [hKL] at HC ⊢
  have y1:=HC.Zg 1 rfl
  exact ⟨⟨Li _ _ 0 _ _ _ y1,Li _ _ 1 _ _ _ y1,Blk.lt y1⟩,HC.ro 2 rfl⟩
 have HKL:=hid hKL
 clear hKL K0
 refine Lj (by kernel_rfl) ?_
 refine Zn 6 9 (KL) (spL [(7,Zx (Mut M KL) vs)]) (by kernel_rfl) (by kernel_rfl) (by kernel_rfl) rfl ?_ (KN.drew) ?_
 ·exact Zd XG (Zm _)
 simp only [zd,zp,List.getElem_toArray,List.getElem_cons_zero,List.getElem_cons_succ]
 iterate 2
  refine' dv rfl rfl rfl (fun wv HC=>?_) ?_;rotate_left
  · go_simp<;>rfl
  simp only [zp]
  refine' dv rfl rfl rfl (fun wv HC=>?_) ?_;rotate_left
  ·obtain ⟨⟨f0,f1,f2⟩,_⟩:=HF.out _ HC;go_simp<;>rfl
  simp only [zp]
 refine Zi 7 (Zx (Mut M KL) vs) (f:=51) (args:=#[.slice A n c]) rfl rfl rfl rfl (fun wv=>?_) (fun wv HC hrm hD=>?_) ?_
 ·go_simp<;>rfl
 ·refine (Xe _ wv HC.Zb A n c vs (HF.out _ HC).2 hn).mono ?_
  rintro e w5 ⟨A5,n5,c5,rfl,h50,h51,h52,h53,b5⟩
  exact ⟨_,rfl,⟨A5,n5,c5,rfl,h50,h51,h52,h53⟩,HC.call b5,RM.below b5⟩
 rintro x_ wx HCx ⟨A5,n5,c5,rfl,-,-,-,-⟩
 simp only [zp]
 clear HCx
 refine Wu rfl rfl rfl ⟨.agg #[.int .i64 id,.slice A5 n5 c5],fun wv HC=>?_,?_⟩
 ·go_simp<;>rfl
 simp only [zp]
 refine Zk ?_
 rintro wx2 HX
 rintro _hrm HGW
 have hb:Zx (Mut M KL) vs (.slice A5 n5 c5) wx2:=(Zo (d:=7) rfl).1 (HGW 4 _ rfl (by omega))
 clear HGW _hrm
 obtain ⟨A6,n6,c6,e6,k0_,k1_,k2_,k3_⟩:=hb
 obtain ⟨rfl,rfl,rfl⟩:A5=A6∧n5=n6∧c5=c6:=by injection e6 with h1 h2 h3;exact ⟨h1,h2,h3⟩
 clear e6
 have K1:=HX.add k3_
 rw [HKL.out] at K1
 have F1:=K1.facts
 simp only [zg] at F1
 have H0:=hid k0_
 clear HF KN k3_ HX k0_
 have KN:=(K1.store 1 rfl 0 (.int .i64 id)).store 1 rfl 1 (.slice A5 n5 c5)
 have r1:=KN.ZN 0 rfl
 go_wp2_with fail
 exact bodyPost_ret (v:=.agg #[.int .i64 id,.slice A5 n5 c5]) (by simp [results,Tryz.results60,go_sem,F1]) rfl ⟨A5,n5,c5,rfl,H0.out,k1_,k2_,r1,KN.below⟩
end
end Go.Proofs.YtnmnkbnmollpmaaGreatDoor

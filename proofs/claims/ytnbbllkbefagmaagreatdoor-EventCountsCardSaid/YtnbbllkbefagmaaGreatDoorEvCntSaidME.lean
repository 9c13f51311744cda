import Derived.Test.YtnbbllkbefagmaaGreatDoorEvCntSaidMC
import Derived.Lib.ConvBytes
import Derived.WalkSpells
import Derived.Deep.QuietTactic
import Derived.BigQuiet
import Derived.Test.YtnbbllkbefagmaaGreatDoorEvCntSaidMD
import Derived.Deep.DeepCutAuto
namespace Go.Proofs.YtnbbllkbefagmaaGreatDoor
open Go.RowKit
set_option linter.unusedVariables false
set_option linter.unusedSimpArgs false
def Wn (x:Nat):Bool:=decide (97≤x)&&decide (x≤122)
def JX (x:Nat):Bool:=decide (48≤x)&&decide (x≤57)
def Xy (x:Nat):Bool:=Wn x||JX x||x==95
def YG (s:ByteArray):Bool:=decide (1≤s.size)&&decide (s.size≤12)&&Wn (s.data.toList.getD 0 0).toNat&&s.data.toList.all (fun c=>Xy c.toNat)
theorem Zdy {s:ByteArray} (h:s.size<1):YG s=false:=by simp [YG];omega
theorem ZdG {s:ByteArray} (h:12<s.size):YG s=false:=by simp [YG];omega
theorem Zd6 {s:ByteArray} {c:UInt8} (hc:s.data.toList.getD 0 0=c) (h:Wn c.toNat=false):YG s=false:=by
 unfold YG;rw [hc,h];simp
theorem Zf1 {s:ByteArray} {k:Nat} {c:UInt8} (hk:s.data.toList[k]? =some c) (h:Xy c.toNat=false):YG s=false:=by
 have:s.data.toList.all (fun c=>Xy c.toNat)=false:=by
  rw [List.all_eq_false]
  exact ⟨c,List.mem_of_getElem? hk,by simp [h]⟩
 unfold YG;rw [this,Bool.and_false]
theorem ZeL {s:ByteArray} {c:UInt8} (h1:1≤s.size) (h2:s.size≤12) (hc:s.data.toList.getD 0 0=c) (hl:Wn c.toNat=true) (ha:s.data.toList.all (fun c=>Xy c.toNat)=true):YG s=true:=by
 unfold YG;rw [hc,hl,ha];simp [h1,h2]
theorem Jf {s:ByteArray} {k:Nat} {c:UInt8} {p:UInt8→Bool} (hk:s.data.toList[k]? =some c) (ha:(s.data.toList.take k).all p=true) (hp:p c=true):(s.data.toList.take (k+1)).all p=true:=by
 obtain ⟨h,rfl⟩:=List.getElem?_eq_some_iff.1 hk
 rw [List.take_succ_eq_append_getElem h,List.all_append,ha]
 simpa using hp
theorem Zcu {s:ByteArray} {p:UInt8→Bool} (ha:(s.data.toList.take s.size).all p=true):s.data.toList.all p=true:=by
 rwa [List.take_of_length_le (by simp)] at ha
theorem byte_at (s:ByteArray) {k:Nat} (h:k<s.size):s.data.toList[k]? =some s[k]:=by
 rw [List.getElem?_eq_getElem (by simpa using h)];rfl
theorem Zcr (s:ByteArray) (h:0<s.size):s.data.toList.getD 0 0=s[0]:=by
 simp only [List.getD,byte_at s h,Option.getD_some]
theorem Zcm {x:Nat} (h1:¬(97≤x∧x≤122)) (h2:¬(48≤x∧x≤57)) (h3:x≠95):Xy x=false:=by
 simp [Xy,Wn,JX];omega
theorem Zew {x:Nat} (h1:97≤x) (h2:x≤122):Xy x=true:=by simp [Xy,Wn,h1,h2]
theorem Zhi {x:Nat} (h1:48≤x) (h2:x≤57):Xy x=true:=by simp [Xy,JX,h1,h2]
set_option maxHeartbeats 4000000 in
theorem Q8 (s:ByteArray) (w:World):
  Calls Tryz.prog 160 #[.string s] w fun e w' =>e=.returned (.bool (YG s))∧w=w' :=by
 by_cases h1:s.size<1
 ·have HN:=hid (Zdy h1)
  go_enter Tryz.func160,Tryz.ntmps160
  go_wp2
  go_ret
  exact ⟨by rw [HN.out]<;>rfl,rfl⟩
 by_cases h2:12<s.size
 ·have HN:=hid (ZdG h2)
  go_enter Tryz.func160,Tryz.ntmps160
  go_wp2
  go_ret
  exact ⟨by rw [HN.out]<;>rfl,rfl⟩
 have p0:0<s.size:=by omega
 have p1:1≤s.size:=by omega
 have p2:s.size≤12:=by omega
 have hf:=hid (Zcr s p0)
 have hlt:s[0].toNat<256:=s[0].toNat_lt
 by_cases h3:s[0].toNat<97∨122<s[0].toNat
 ·have HN:=hid (Zd6 hf.out (by simp [Wn];omega))
  rcases h3 with h3|h3
  ·go_enter Tryz.func160,Tryz.ntmps160
   go_wp2
   go_ret
   exact ⟨by rw [HN.out]<;>rfl,rfl⟩
  ·have h97:97≤s[0].toNat:=by omega
   have d1:decide ((s[0].toNat:Int)≤122)=false:=by simp;omega
   have d0:decide ((97:Int)≤(s[0].toNat:Int))=true:=by simp;omega
   go_enter Tryz.func160,Tryz.ntmps160
   go_wp2
   go_ret
   exact ⟨by rw [HN.out]<;>rfl,rfl⟩
 have h97:97≤s[0].toNat:=by omega
 have h122:s[0].toNat≤122:=by omega
 have hl:=hid (show Wn s[0].toNat=true by simp [Wn];omega)
 clear h3
 have d1:decide ((s[0].toNat:Int)≤122)=true:=by simp;omega
 have d0:decide ((97:Int)≤(s[0].toNat:Int))=true:=by simp;omega
 go_enter Tryz.func160,Tryz.ntmps160
 go_wp2
 go_loop [3] (fun i=>∃ k:Nat,k≤s.size∧i=.int .i64 k∧(s.data.toList.take k).all (fun c=>Xy c.toNat)=true) (fun i=>s.size - (intOf i).toNat)
 case atStart=>exact ⟨0,by omega,rfl,rfl⟩
 case round=>
  obtain ⟨k,hk,rfl,hall⟩:=hrel
  have HA:=hid hall;clear hall
  by_cases hlt:k<s.size
  ·have HK:=hid (byte_at s hlt)
   have hx:s[k].toNat<256:=s[k].toNat_lt
   by_cases hcls:(97≤s[k].toNat∧s[k].toNat≤122)∨(48≤s[k].toNat∧s[k].toNat≤57)∨s[k].toNat=95
   ·have HN:Hid (Xy s[k].toNat=true):=by
     unfold Hid
     rcases hcls with ⟨a,b⟩|⟨a,b⟩|a
     ·exact Zew a b
     ·exact Zhi a b
     ·rw [a];rfl
    rcases hcls with ⟨a,b⟩|⟨a,b⟩|a
    ·have e0:decide ((97:Int)≤(s[k].toNat:Int))=true:=by simp;omega
     have e1:decide ((s[k].toNat:Int)≤122)=true:=by simp;omega
     go_wp2
     go_round
     case rel=>exact ⟨k+1,by omega,by go_num,Jf HK.out HA.out HN.out⟩
     case measure=>simp [intOf];omega
    ·have c1:s[k].toNat<97:=by omega
     have e0:decide ((97:Int)≤(s[k].toNat:Int))=false:=by simp;omega
     have e2:decide ((48:Int)≤(s[k].toNat:Int))=true:=by simp;omega
     have e3:decide ((s[k].toNat:Int)≤57)=true:=by simp;omega
     go_wp2
     go_round
     case rel=>exact ⟨k+1,by omega,by go_num,Jf HK.out HA.out HN.out⟩
     case measure=>simp [intOf];omega
    ·have c1:s[k].toNat<97:=by omega
     have c2:57<s[k].toNat:=by omega
     have c3:((s[k].toNat:Int) !=95)=false:=by rw [bne_eq_false_iff_eq];omega
     have e0:decide ((97:Int)≤(s[k].toNat:Int))=false:=by simp;omega
     have e2:decide ((48:Int)≤(s[k].toNat:Int))=true:=by simp;omega
     have e3:decide ((s[k].toNat:Int)≤57)=false:=by simp;omega
     clear a
     go_wp2
     go_round
     case rel=>exact ⟨k+1,by omega,by go_num,Jf HK.out HA.out HN.out⟩
     case measure=>simp [intOf];omega
   ·have HN:Hid (YG s=false):=Zf1 HK.out (Zcm (by omega) (by omega) (by omega))
    have c3:((s[k].toNat:Int) !=95)=true:=by rw [bne_iff_ne];omega
    have hx:s[k].toNat<48∨(57<s[k].toNat∧s[k].toNat<97)∨122<s[k].toNat:=by omega
    clear hcls
    rcases hx with h|⟨h,h'⟩|h
    ·have e0:decide ((97:Int)≤(s[k].toNat:Int))=false:=by simp;omega
     have e2:decide ((48:Int)≤(s[k].toNat:Int))=false:=by simp;omega
     go_wp2
     go_ret
     exact ⟨by rw [HN.out]<;>rfl,rfl⟩
    ·have e0:decide ((97:Int)≤(s[k].toNat:Int))=false:=by simp;omega
     have e2:decide ((48:Int)≤(s[k].toNat:Int))=true:=by simp;omega
     have e3:decide ((s[k].toNat:Int)≤57)=false:=by simp;omega
     go_wp2
     go_ret
     exact ⟨by rw [HN.out]<;>rfl,rfl⟩
    ·have e0:decide ((97:Int)≤(s[k].toNat:Int))=true:=by simp;omega
     have e1:decide ((s[k].toNat:Int)≤122)=false:=by simp;omega
     have e2:decide ((48:Int)≤(s[k].toNat:Int))=true:=by simp;omega
     have e3:decide ((s[k].toNat:Int)≤57)=false:=by simp;omega
     go_wp2
     go_ret
     exact ⟨by rw [HN.out]<;>rfl,rfl⟩
  ·obtain rfl:k=s.size:=by omega
   have HN:=hid (ZeL p1 p2 hf.out hl.out (Zcu HA.out))
   go_wp2
   go_ret
   exact ⟨by rw [HN.out]<;>rfl,rfl⟩
theorem Zcv (s:ByteArray) (w:World) (hs:s.size≤maxLen):
  Calls Tryz.prog 160 #[.string s] w fun e w' =>e=.returned (.bool (YG s))∧w=w' :=Q8 s w
def Y4 (l:List Col) (k:Nat) (c:Col):Bool:=YG c.name&&(Zi (named c.name) l==(k:Int))&&decide (1≤c.ty)&&decide (c.ty≤3)&&(!c.key||c.nn)
def Yc (nm:ByteArray) (l:List Col):Bool:=YG nm&&decide (1≤l.length)&&decide (l.length≤6)&&YF (Y4 l) 0 l&&decide ((l.filter Col.key).length≤1)
theorem Zhh (c:Col):named c.name c=true:=by simp [named]
theorem ZgS {nm:ByteArray} {l:List Col} (h:YF (Y4 l) 0 l=false):Yc nm l=false:=by simp [Yc,h]
theorem ZhR {nm:ByteArray} {l:List Col} {n:Nat} (hv:YG nm=true) (hl:l.length=n) (h1:1≤n) (h2:n≤6) (h:YF (Y4 l) 0 l=true):Yc nm l=decide (((l.filter Col.key).length:Int)≤1):=by
 simp [Yc,hv,hl,h1,h2,h];omega
theorem Zcp {l:List Col} {n:Nat} (hl:l.length=n):((l.take n).filter Col.key).length=(l.filter Col.key).length:=by rw [List.take_of_length_le (by omega)]
theorem Gw (l:List Col) (k:Nat):((l.take k).filter Col.key).length≤k:=Nat.le_trans (List.length_filter_le _ _) (List.length_take_le _ _)
theorem Xh (s:ByteArray) (w:World) (hs:s.size≤maxLen):Calls Tryz.prog 160 #[.string s] w fun e w' =>e=.returned (.bool (YG s))∧Below w.heap.size w w' :=
 (Zcv s w hs).mono fun e w' ⟨h1,h2⟩=>⟨h1,by subst h2;exact Below.refl _ _⟩
set_option maxHeartbeats 8000000 in
theorem ZaV (M:Nat→Prop) (w:World) (hM:∀ b,M b→b<w.heap.size) (nm:ByteArray) (A:Option Addr) (n c:Nat) (l:List Col) (hD:Ro w M (SlR 4 A n (Zd l))) (hn:n≤9223372036854775807) (hs:nm.size≤maxLen) (hok:∀ x∈l,x.name.size≤maxLen):
  Calls Tryz.prog 168 #[.agg #[.string nm,.slice A n c]] w fun e w' =>e=.returned (.bool (Yc nm l))∧Below w.heap.size w w' :=by
 have HL:=hid (RdC.Zy hD.now).len
 have K0:=((Hold.start M w hM).add (hD.less (by simp [Mut]))).Za #[.string nm,.slice A n c] 49
 cases hv:YG nm
 ·have HN:Hid (Yc nm l=false):=by unfold Hid;simp [Yc,hv]
  have HV:=hid hv;clear hv
  go_enter Tryz.func168,Tryz.ntmps168
  go_wp2_with fail
  refine (Xh nm _ hs).mono ?_
  rintro e w1 ⟨rfl,b1⟩
  have K1:=Hold.call (K0) b1
  clear b1
  try simp only [World.size_alloc] at K1
  have F1:=K1.facts
  simp only [zg] at F1
  rw [HV.out]
  go_wp2_with fail
  go_ret
  exact ⟨by rw [HN.out]<;>rfl,K1.below⟩
 have HV:=hid hv;clear hv
 by_cases h1:n<1
 ·have HN:Hid (Yc nm l=false):=by unfold Hid;have:=HL.out;simp [Yc];intros;omega
  go_enter Tryz.func168,Tryz.ntmps168
  go_wp2_with fail
  refine (Xh nm _ hs).mono ?_
  rintro e w1 ⟨rfl,b1⟩
  have K1:=Hold.call (K0) b1
  clear b1
  try simp only [World.size_alloc] at K1
  have F1:=K1.facts
  simp only [zg] at F1
  rw [HV.out]
  go_wp2_with fail
  go_ret
  exact ⟨by rw [HN.out]<;>rfl,K1.below⟩
 by_cases h6:6<n
 ·have HN:Hid (Yc nm l=false):=by unfold Hid;have:=HL.out;simp [Yc];intros;omega
  go_enter Tryz.func168,Tryz.ntmps168
  go_wp2_with fail
  refine (Xh nm _ hs).mono ?_
  rintro e w1 ⟨rfl,b1⟩
  have K1:=Hold.call (K0) b1
  clear b1
  try simp only [World.size_alloc] at K1
  have F1:=K1.facts
  simp only [zg] at F1
  rw [HV.out]
  go_wp2_with fail
  go_ret
  exact ⟨by rw [HN.out]<;>rfl,K1.below⟩
 have n1:1≤n:=by omega
 have n6:n≤6:=by omega
 go_enter Tryz.func168,Tryz.ntmps168
 go_wp2_with fail
 refine (Xh nm _ hs).mono ?_
 rintro e w1 ⟨rfl,b1⟩
 have K1:=Hold.call (K0) b1
 clear b1
 try simp only [World.size_alloc] at K1
 have F1:=K1.facts
 simp only [zg] at F1
 rw [HV.out]
 go_wp2_with fail
 go_loopw [3,25] (fun q i wr=>∃ k:Nat,k≤n∧i=.int .i64 k∧q=.int .i64 ((l.take k).filter Col.key).length∧YF (Y4 l) 0 l=YF (Y4 l) k (l.drop k)∧Hold M none w wr [.cst w.heap.size 49 #[.string nm,.slice A n c],.ro (SlR 4 A n (Zd l))]) (fun _ i _=>n - (intOf i).toNat)
 case atStart=>exact ⟨0,by omega,rfl,rfl,rfl,K1⟩
 case round=>
  obtain ⟨k,hk,rfl,rfl,hf,H⟩:=hrel
  have HF:=hid hf;clear hf F1
  by_cases hlt:k<n
  ·obtain ⟨x,hc⟩:=YA HL.out hlt
   have hx:x.name.size≤maxLen:=hok x (List.mem_of_getElem? hc)
   have hfl:=ZbW (Zhh x) hc
   have HQ:=hid (Zcf Col.key hc)
   have hql:=Gw l k
   have hql1:=Gw l (k+1)
   obtain ⟨b,o,rfl,hb,c0,c1,c2,c3⟩:=(RdC.Zy (H.ro 1 rfl).now).at_ hc
   have HOk:Hid (Y4 l k x=(YG x.name&&(Zi (named x.name) l==(k:Int))&&decide (1≤x.ty)&&decide (x.ty≤3)&&(!x.key||x.nn))):=rfl
   have HBad:Hid (Y4 l k x=false→Yc nm l=false):=fun h=>ZgS (ZdR HF.out hc h)
   have HGood:Hid (Y4 l k x=true→YF (Y4 l) 0 l=YF (Y4 l) (k+1) (l.drop (k+1))):=fun h=>ZhY HF.out hc h
   obtain ⟨nx,ty,nn,key⟩:=x
   simp only at c0 c1 c2 c3 hx hfl
   have HX:=hid (ZbU M)
   obtain ⟨f,hfe⟩:∃ f,f=Zi (named nx) l:=⟨_,rfl⟩
   rw [←hfe] at hfl
   have HFE:=hid hfe;clear hfe
   obtain ⟨q,hqe⟩:∃ q,q=((l.take k).filter Col.key).length:=⟨_,rfl⟩
   rw [←hqe] at hql
   have HQE:=hid hqe
   rw [←hqe]
   clear hqe hc
   simp only at HOk HQ
   rw [←HFE.out] at HOk
   cases hvx:YG nx
   ·have HC:Hid (Y4 l k ⟨nx,ty,nn,key⟩=false):=by unfold Hid;rw [HOk.out,hvx];rfl
    have HVX:=hid hvx;clear hvx
    have KB:=H.Za #[.string nx,.int .i64 ty,.bool nn,.bool key] 158
    go_wp2_with fail
    refine (Xh nx _ hx).mono ?_
    rintro e w2 ⟨rfl,b2⟩
    have K2:=Hold.call (KB) b2
    clear b2
    try simp only [World.size_alloc] at K2
    have F2:=K2.facts
    simp only [zg] at F2
    rw [HVX.out]
    go_wp2_with fail
    go_ret
    exact ⟨by rw [HBad.out HC.out]<;>rfl,K2.below⟩
   have HVX:=hid hvx;clear hvx
   by_cases hlo:ty<1
   ·have HC:Hid (Y4 l k ⟨nx,ty,nn,key⟩=false):=by unfold Hid;rw [HOk.out,show decide (1≤ty)=false from by simp;omega];simp
    have KB:=H.Za #[.string nx,.int .i64 ty,.bool nn,.bool key] 158
    go_wp2_with fail
    refine (Xh nx _ hx).mono ?_
    rintro e w2 ⟨rfl,b2⟩
    have K2:=Hold.call (KB) b2
    clear b2
    try simp only [World.size_alloc] at K2
    have F2:=K2.facts
    simp only [zg] at F2
    rw [HVX.out]
    go_wp2_with fail
    go_ret
    exact ⟨by rw [HBad.out HC.out]<;>rfl,K2.below⟩
   have hlo1:1≤ty:=by omega
   by_cases hhi:3<ty
   ·have HC:Hid (Y4 l k ⟨nx,ty,nn,key⟩=false):=by unfold Hid;rw [HOk.out,show decide (ty≤3)=false from by simp;omega];simp
    have KB:=H.Za #[.string nx,.int .i64 ty,.bool nn,.bool key] 158
    go_wp2_with fail
    refine (Xh nx _ hx).mono ?_
    rintro e w2 ⟨rfl,b2⟩
    have K2:=Hold.call (KB) b2
    clear b2
    try simp only [World.size_alloc] at K2
    have F2:=K2.facts
    simp only [zg] at F2
    rw [HVX.out]
    go_wp2_with fail
    go_ret
    exact ⟨by rw [HBad.out HC.out]<;>rfl,K2.below⟩
   have hhi3:ty≤3:=by omega
   by_cases hkn:key=false∨nn=true
   rotate_left
   ·obtain ⟨rfl,rfl⟩:key=true∧nn=false:=by cases key<;>cases nn<;>simp at hkn ⊢
    have HC:Hid (Y4 l k ⟨nx,ty,false,true⟩=false):=by unfold Hid;rw [HOk.out];simp
    clear hkn
    have KB:=H.Za #[.string nx,.int .i64 ty,.bool false,.bool true] 158
    go_wp2_with fail
    refine (Xh nx _ hx).mono ?_
    rintro e w2 ⟨rfl,b2⟩
    have K2:=Hold.call (KB) b2
    clear b2
    try simp only [World.size_alloc] at K2
    have F2:=K2.facts
    simp only [zg] at F2
    rw [HVX.out]
    go_wp2_with fail
    go_ret
    exact ⟨by rw [HBad.out HC.out]<;>rfl,K2.below⟩
   by_cases hfk:f<k
   ·have HC:Hid (Y4 l k ⟨nx,ty,nn,key⟩=false):=by unfold Hid;rw [HOk.out,show (f==(k:Int))=false from by rw [beq_eq_false_iff_ne];omega];simp
    have hne:(f !=(k:Int))=true:=by rw [bne_iff_ne];omega
    rcases hkn with rfl|rfl
    ·have KB:=H.Za #[.string nx,.int .i64 ty,.bool nn,.bool false] 158
     go_wp2_with fail
     refine (Xh nx _ hx).mono ?_
     rintro e w2 ⟨rfl,b2⟩
     have K2:=Hold.call (KB) b2
     clear b2
     try simp only [World.size_alloc] at K2
     have F2:=K2.facts
     simp only [zg] at F2
     rw [HVX.out]
     go_wp2_with fail
     refine (XD (Mut M _) _ K2.Zb nm _ n c l nx (K2.ro 2 rfl) hn).mono ?_
     rintro e w3 ⟨rfl,b3⟩
     have K3:=Hold.call K2 b3
     clear b3
     rw [←HFE.out]
     have F3:=K3.facts
     simp only [zg] at F3
     go_wp2_with fail
     go_ret
     exact ⟨by rw [HBad.out HC.out]<;>rfl,K3.below⟩
    ·cases key
     ·have KB:=H.Za #[.string nx,.int .i64 ty,.bool true,.bool false] 158
      go_wp2_with fail
      refine (Xh nx _ hx).mono ?_
      rintro e w2 ⟨rfl,b2⟩
      have K2:=Hold.call (KB) b2
      clear b2
      try simp only [World.size_alloc] at K2
      have F2:=K2.facts
      simp only [zg] at F2
      rw [HVX.out]
      go_wp2_with fail
      refine (XD (Mut M _) _ K2.Zb nm _ n c l nx (K2.ro 2 rfl) hn).mono ?_
      rintro e w3 ⟨rfl,b3⟩
      have K3:=Hold.call K2 b3
      clear b3
      rw [←HFE.out]
      have F3:=K3.facts
      simp only [zg] at F3
      go_wp2_with fail
      go_ret
      exact ⟨by rw [HBad.out HC.out]<;>rfl,K3.below⟩
     ·have KB:=H.Za #[.string nx,.int .i64 ty,.bool true,.bool true] 158
      go_wp2_with fail
      refine (Xh nx _ hx).mono ?_
      rintro e w2 ⟨rfl,b2⟩
      have K2:=Hold.call (KB) b2
      clear b2
      try simp only [World.size_alloc] at K2
      have F2:=K2.facts
      simp only [zg] at F2
      rw [HVX.out]
      go_wp2_with fail
      refine (XD (Mut M _) _ K2.Zb nm _ n c l nx (K2.ro 2 rfl) hn).mono ?_
      rintro e w3 ⟨rfl,b3⟩
      have K3:=Hold.call K2 b3
      clear b3
      rw [←HFE.out]
      have F3:=K3.facts
      simp only [zg] at F3
      go_wp2_with fail
      go_ret
      exact ⟨by rw [HBad.out HC.out]<;>rfl,K3.below⟩
   have hfe:f=k:=by omega
   have hne:(f !=(k:Int))=false:=by rw [bne_eq_false_iff_eq];omega
   have HFK:=hid hfe;clear hfe
   have HC:Hid (Y4 l k ⟨nx,ty,nn,key⟩=true):=by unfold Hid;rw [HOk.out,HVX.out,HFK.out,show decide (1≤ty)=true from by simp;omega,show decide (ty≤3)=true from by simp;omega];rcases hkn with rfl|rfl<;>simp
   rcases hkn with rfl|rfl
   ·have HQ0:Hid (((l.take (k+1)).filter Col.key).length=q):=by unfold Hid;rw [HQ.out,HQE.out];rfl
    have KB:=H.Za #[.string nx,.int .i64 ty,.bool nn,.bool false] 158
    go_wp2_with fail
    refine (Xh nx _ hx).mono ?_
    rintro e w2 ⟨rfl,b2⟩
    have K2:=Hold.call (KB) b2
    clear b2
    try simp only [World.size_alloc] at K2
    have F2:=K2.facts
    simp only [zg] at F2
    rw [HVX.out]
    go_wp2_with fail
    refine (XD (Mut M _) _ K2.Zb nm _ n c l nx (K2.ro 2 rfl) hn).mono ?_
    rintro e w3 ⟨rfl,b3⟩
    have K3:=Hold.call K2 b3
    clear b3
    rw [←HFE.out]
    have F3:=K3.facts
    simp only [zg] at F3
    go_wp2_with fail
    go_roundw
    case rel=>exact ⟨k+1,by omega,by go_num,by rw [HQ0.out],HGood.out HC.out,K3.drop (List.sublist_cons_self _ _)⟩
    case measure=>simp [intOf];omega
   ·cases key
    ·have HQ0:Hid (((l.take (k+1)).filter Col.key).length=q):=by unfold Hid;rw [HQ.out,HQE.out];rfl
     have KB:=H.Za #[.string nx,.int .i64 ty,.bool true,.bool false] 158
     go_wp2_with fail
     refine (Xh nx _ hx).mono ?_
     rintro e w2 ⟨rfl,b2⟩
     have K2:=Hold.call (KB) b2
     clear b2
     try simp only [World.size_alloc] at K2
     have F2:=K2.facts
     simp only [zg] at F2
     rw [HVX.out]
     go_wp2_with fail
     refine (XD (Mut M _) _ K2.Zb nm _ n c l nx (K2.ro 2 rfl) hn).mono ?_
     rintro e w3 ⟨rfl,b3⟩
     have K3:=Hold.call K2 b3
     clear b3
     rw [←HFE.out]
     have F3:=K3.facts
     simp only [zg] at F3
     go_wp2_with fail
     go_roundw
     case rel=>exact ⟨k+1,by omega,by go_num,by rw [HQ0.out],HGood.out HC.out,K3.drop (List.sublist_cons_self _ _)⟩
     case measure=>simp [intOf];omega
    ·have HQ0:Hid (((l.take (k+1)).filter Col.key).length=q+1):=by unfold Hid;rw [HQ.out,HQE.out];rfl
     have KB:=H.Za #[.string nx,.int .i64 ty,.bool true,.bool true] 158
     go_wp2_with fail
     refine (Xh nx _ hx).mono ?_
     rintro e w2 ⟨rfl,b2⟩
     have K2:=Hold.call (KB) b2
     clear b2
     try simp only [World.size_alloc] at K2
     have F2:=K2.facts
     simp only [zg] at F2
     rw [HVX.out]
     go_wp2_with fail
     refine (XD (Mut M _) _ K2.Zb nm _ n c l nx (K2.ro 2 rfl) hn).mono ?_
     rintro e w3 ⟨rfl,b3⟩
     have K3:=Hold.call K2 b3
     clear b3
     rw [←HFE.out]
     have F3:=K3.facts
     simp only [zg] at F3
     go_wp2_with fail
     go_roundw
     case rel=>exact ⟨k+1,by omega,by go_num,by rw [HQ0.out];go_num,HGood.out HC.out,K3.drop (List.sublist_cons_self _ _)⟩
     case measure=>simp [intOf];omega
  ·obtain rfl:k=n:=by omega
   have HN:=hid (ZhR HV.out HL.out n1 n6 (Zc6 HF.out (by rw [HL.out];omega)))
   have HK:=hid (Zcp HL.out)
   have hql:=Gw l k
   obtain ⟨q,hqe⟩:∃ q,q=((l.take k).filter Col.key).length:=⟨_,rfl⟩
   rw [←hqe] at hql HK
   rw [←hqe]
   clear hqe
   go_wp2_with fail
   go_ret
   exact ⟨by rw [HN.out,←HK.out]<;>rfl,H.below⟩
def Zn (nm:ByteArray) (cs:List Col) (nx:Int) (rs:List Row):Bool:=Yc nm cs&&decide (rs.length≤100)&&decide (1≤nx)&&decide (nx≤2147483648)&&okR cs nx 0 rs&&!YW cs rs
theorem Zhr {nm:ByteArray} {cs:List Col} {nx:Int} {rs:List Row} (h:Yc nm cs=false):Zn nm cs nx rs=false:=by simp [Zn,h]
theorem Zfp {nm:ByteArray} {cs:List Col} {nx:Int} {rs:List Row} (h:100<rs.length):Zn nm cs nx rs=false:=by
 have:¬rs.length≤100:=by omega
 simp [Zn,this]
theorem Zef {nm:ByteArray} {cs:List Col} {nx:Int} {rs:List Row} (h:nx<1):Zn nm cs nx rs=false:=by
 have:¬1≤nx:=by omega
 simp [Zn,this]
theorem ZgD {nm:ByteArray} {cs:List Col} {nx:Int} {rs:List Row} (h:2147483648<nx):Zn nm cs nx rs=false:=by
 have:¬nx≤2147483648:=by omega
 simp [Zn,this]
theorem UU {nm:ByteArray} {cs:List Col} {nx:Int} {rs:List Row} (h:okR cs nx 0 rs=false):Zn nm cs nx rs=false:=by simp [Zn,h]
theorem Zag {nm:ByteArray} {cs:List Col} {nx:Int} {rs:List Row} (h1:Yc nm cs=true) (h2:rs.length≤100) (h3:1≤nx) (h4:nx≤2147483648) (h5:okR cs nx 0 rs=true):Zn nm cs nx rs=!YW cs rs:=by simp [Zn,h1,h2,h3,h4,h5]
theorem Uo {cs:List Col} {nx lst:Int} {rs:List Row} {j:Nat} {r:Row} (hr:rs[j]? =some r) (h:r.1≤lst∨nx≤r.1∨ZC cs r.2≠0):okR cs nx lst (rs.drop j)=false:=by
 rw [Yv hr,okR]
 rcases h with h|h|h
 ·rw [decide_eq_false (show ¬lst<r.1 by omega)];rfl
 ·rw [decide_eq_false (show ¬r.1<nx by omega)];simp
 ·rw [decide_eq_false h];simp
theorem Zaa {cs:List Col} {nx lst:Int} {rs:List Row} {j:Nat} {r:Row} (hr:rs[j]? =some r) (h1:lst<r.1) (h2:r.1<nx) (h3:ZC cs r.2=0):okR cs nx lst (rs.drop j)=okR cs nx r.1 (rs.drop (j+1)):=by
 rw [Yv hr,okR,decide_eq_true h1,decide_eq_true h2,decide_eq_true h3];rfl
theorem Zdk {cs:List Col} {nx lst:Int} {rs:List Row} {j:Nat} (h:rs.length≤j):okR cs nx lst (rs.drop j)=true:=by rw [List.drop_of_length_le h];rfl
theorem Zhs {nm:ByteArray} {l:List Col} (h:Yc nm l=true):l.length≤6:=by
 unfold Yc at h
 simp only [Bool.and_eq_true,decide_eq_true_eq] at h
 exact h.1.1.2
def VK (w:World) (M:Nat→Prop) (nm:ByteArray) (cs:List Col) (e:Ending) (w' :World):Prop:=
 if Yc nm cs then ∃ (A:Option Addr) (n c:Nat),e=.returned (.tuple #[.agg #[.string nm,.slice A n c,.int .i64 1,.slice none 0 0],.int .i64 0])∧n=cs.length∧n≤c∧c≤9223372036854775807∧Ro w' M (ColsIn A n cs)∧Below w.heap.size w w'
 else e=.returned (.tuple #[.agg #[.string ⟨#[]⟩,.slice none 0 0,.int .i64 0,.slice none 0 0],.int .i64 17])∧Below w.heap.size w w'
set_option maxHeartbeats 1000000 in
set_option maxRecDepth 100000 in
theorem Gu (M:Nat→Prop) (w:World) (hM:∀ b,M b→b<w.heap.size) (nm:ByteArray) (A:Option Addr) (n c:Nat) (cs:List Col) (hD:Ro w M (ColsIn A n cs)) (hn:n≤9223372036854775807) (hs:nm.size≤maxLen) (hcs:∀ x∈cs,x.name.size≤maxLen):
  Calls Tryz.prog 105 #[.agg #[.string nm,.slice A n c]] w fun e w' =>VK w M nm cs e w' :=by
 have HL:=hid (show cs.length=n from (RdC.Zy hD.now).len)
 have K0:=(((Hold.start M w hM).add (hD.less (by simp [Mut]))).alloc #[.string nm,.slice A n c] 49).alloc #[.string ⟨#[]⟩,.slice none 0 0,.int .i64 0,.slice none 0 0] 67
 rw [World.size_alloc] at K0
 have F0:=K0.facts
 simp only [zg] at F0
 clear hD
 go_enter Tryz.func105,Tryz.ntmps105
 go_wp2_with fail
 refine (ZaV _ _ K0.Zb nm A n c cs (K0.ro 2 rfl) hn hs hcs).mono ?_
 rintro e w1 ⟨rfl,b1⟩
 have K1:=K0.call b1
 clear K0 b1 F0
 have F1:=K1.facts
 simp only [zg] at F1
 cases hsb:Yc nm cs
 ·have HSB:=hid hsb;clear hsb
  have KN:=(((K1.store 0 rfl 0 (.string ⟨#[]⟩)).store 0 rfl 1 (.slice none 0 0)).store 0 rfl 2 (.int .i64 0)).store 0 rfl 3 (.slice none 0 0)
  go_wp2_with fail
  exact bodyPost_ret (v:=.tuple #[.agg #[.string ⟨#[]⟩,.slice none 0 0,.int .i64 0,.slice none 0 0],.int .i64 17]) (by simp [results,Tryz.results105,go_sem,F1]) rfl (by
   unfold VK;rw [HSB.out];exact ⟨rfl,KN.below⟩)
 have hn6:n≤6:=by have:=Zhs hsb;have:=HL.out;omega
 have HSB:=hid hsb;clear hsb
 have h1:=hid (WX cs)
 have hr:=hid (show ColsIn A n cs _ from (K1.ro 2 rfl).now)
 have KN:=K1.nil 158 4
 go_wp2_with (at_builtin;go_must (refine ZW KN 0 rfl Tryz.WG hr.out rfl (.const (.slice none 0 0)) (.tmp 9) rfl rfl rfl h1.out (by omega) (by omega) ?_);intro A2 c2 w2 hc2 hc22 KN2;simp only [Nat.zero_add,List.nil_append,List.set_cons_zero] at KN2 hc2;have K2:=KN2.Zu 0 rfl;simp only [List.set_cons_zero] at K2;clear K1 F1 KN2 KN;have F2:=K2.facts;simp only [zg] at F2;have N2:=K2.nes;simp only [World.size_alloc,XG,neF,List.set_cons_zero,List.set_cons_succ,and_true,true_and] at N2)
 have KN:=((((K2.store 2 rfl 1 (.slice A2 n c2)).store 1 rfl 0 (.string nm)).store 1 rfl 1 (.slice A2 n c2)).store 1 rfl 2 (.int .i64 1)).store 1 rfl 3 (.slice none 0 0)
 exact bodyPost_ret (v:=.tuple #[.agg #[.string nm,.slice A2 n c2,.int .i64 1,.slice none 0 0],.int .i64 0]) (by simp [results,Tryz.results105,go_sem,F2,N2]) rfl (by
  unfold VK;rw [HSB.out];exact ⟨A2,n,c2,rfl,HL.out.symm,hc2,hc22,KN.ZP 0 rfl,KN.below⟩)
def ZbR:ByteArray:=⟨#[105,100]⟩
def nmN:ByteArray:=⟨#[110]⟩
def nmS:ByteArray:=⟨#[115]⟩
def nmB:ByteArray:=⟨#[98]⟩
def nmM:ByteArray:=⟨#[109]⟩
def nmT:ByteArray:=⟨#[116]⟩
def nmU:ByteArray:=⟨#[117]⟩
def YE:ByteArray:=⟨#[108,111,103]⟩
def Yr:List Col:=[⟨nmN,1,false,false⟩,⟨nmS,3,false,false⟩]
def YP:List Col:=[⟨ZbR,1,true,true⟩,⟨nmN,1,false,false⟩,⟨nmB,2,false,false⟩,⟨nmS,3,false,false⟩]
def YN:List Col:=[⟨ZbR,1,true,true⟩,⟨nmN,1,true,false⟩,⟨nmM,1,false,false⟩]
def ZA (s:ByteArray):ByteArray × List Col:=
 if YE.toList==s.toList then (YE,Yr) else if nmT.toList==s.toList then (nmT,YP) else if nmU.toList==s.toList then (nmU,YN) else (⟨#[]⟩,[])
def Zdo (w:World) (M:Nat→Prop) (e:Ending) (w' :World):Prop:=
 ∃ (g g0 g1 g2:Nat) (nl nt nu:ByteArray),nl=YE∧nt=nmT∧nu=nmU∧e=.returned (.slice (some ⟨g,0,none⟩) 3 3)∧Below w.heap.size w w' ∧
  Ro w' M (fun w=>w.heap[g]? =some (.cells #[.string nl,.slice (some ⟨g0,0,none⟩) 2 2,.string nt,.slice (some ⟨g1,0,none⟩) 4 4,.string nu,.slice (some ⟨g2,0,none⟩) 3 3] 49 (0,0)))∧
  Ro w' M (SlR 4 (some ⟨g0,0,none⟩) 2 (Zd Yr))∧Ro w' M (SlR 4 (some ⟨g1,0,none⟩) 4 (Zd YP))∧Ro w' M (SlR 4 (some ⟨g2,0,none⟩) 3 (Zd YN))
set_option maxHeartbeats 2000000 in
theorem Jm (M:Nat→Prop) (w:World) (hM:∀ b,M b→b<w.heap.size):Calls Tryz.prog 56 #[] w fun e w' =>Zdo w M e w' :=by
 have K0:=((((Hold.start M w hM).Za (Zd Yr).toArray 158).Za (Zd YP).toArray 158).Za (Zd YN).toArray 158).Za
  #[.string YE,.slice (some ⟨w.heap.size,0,none⟩) 2 2,.string nmT,.slice (some ⟨w.heap.size+1,0,none⟩) 4 4,.string nmU,.slice (some ⟨w.heap.size+1+1,0,none⟩) 3 3] 49
 simp only [World.size_alloc] at K0
 go_enter Tryz.func56,Tryz.ntmps56
 go_wp2
 go_ret
 refine ⟨w.heap.size+1+1+1,w.heap.size,w.heap.size+1,w.heap.size+1+1,YE,nmT,nmU,rfl,rfl,rfl,rfl,K0.below,?_,?_,?_,?_⟩
 ·exact Ro.less (K0.get 0 rfl) fun b hb=>.inl hb
 ·exact (ZL (K0.get 3 rfl) (by rfl)).less fun b hb=>.inl hb
 ·exact (ZL (K0.get 2 rfl) (by rfl)).less fun b hb=>.inl hb
 ·exact (ZL (K0.get 1 rfl) (by rfl)).less fun b hb=>.inl hb
def Za1 (w:World) (M:Nat→Prop) (nm:ByteArray) (l:List Col) (e:Ending) (w' :World):Prop:=
 ∃ (A:Option Addr) (n c:Nat),e=.returned (.agg #[.string nm,.slice A n c])∧n≤c∧c≤4∧Ro w' M (SlR 4 A n (Zd l))∧Below w.heap.size w w'
set_option maxHeartbeats 4000000 in
theorem VT (M:Nat→Prop) (w:World) (hM:∀ b,M b→b<w.heap.size) (s:ByteArray):Calls Tryz.prog 14 #[.string s] w fun e w' =>Za1 w M (ZA s).1 (ZA s).2 e w' :=by
 have K0:=(Hold.start M w hM).alloc #[.string ⟨#[]⟩,.slice none 0 0] 49
 go_enter Tryz.func14,Tryz.ntmps14
 go_wp2_with fail
 refine (Jm (Mut M _) _ K0.Zb).mono ?_
 rintro e w1 ⟨g,g0,g1,g2,nl,nt,nu,e1,e2,e3,rfl,b1,r,r0,r1,r2⟩
 have E1:=hid e1;have E2:=hid e2;have E3:=hid e3
 clear e1 e2 e3
 have K1:=((((K0.call b1).add r2).add (r1.less (Xa rfl))).add ((r0.less (Xa rfl)).less (Xa rfl))).GX (((r.less (Xa rfl)).less (Xa rfl)).less (Xa rfl))
 clear b1 r r0 r1 r2 K0
 go_wp2_with fail
 go_loopw [7] (fun i wr=>∃ k:Nat,k≤3∧i=.int .i64 k∧(0<k→(nl.toList==s.toList)=false)∧(1<k→(nt.toList==s.toList)=false)∧(2<k→(nu.toList==s.toList)=false)∧
  Hold M none w wr [.cst g 49 #[.string nl,.slice (some ⟨g0,0,none⟩) 2 2,.string nt,.slice (some ⟨g1,0,none⟩) 4 4,.string nu,.slice (some ⟨g2,0,none⟩) 3 3],.ro (SlR 4 (some ⟨g0,0,none⟩) 2 (Zd Yr)),.ro (SlR 4 (some ⟨g1,0,none⟩) 4 (Zd YP)),.ro (SlR 4 (some ⟨g2,0,none⟩) 3 (Zd YN)),.blk w.heap.size 49 #[.string ⟨#[]⟩,.slice none 0 0]]) (fun i _=>3 - (intOf i).toNat)
 case atStart=>exact ⟨0,by omega,rfl,fun h=>absurd h (by omega),fun h=>absurd h (by omega),fun h=>absurd h (by omega),K1⟩
 case round=>
  obtain ⟨k,hk,rfl,q0,q1,q2,H⟩:=hrel
  have F:=H.facts
  simp only [World.size_alloc,ZU,Zt,List.toList_toArray,Nat.reduceAdd,and_true,true_and] at F
  have hc:k=0∨k=1∨k=2∨k=3:=by omega
  rcases hc with rfl|rfl|rfl|rfl
  ·clear q0 q1 q2
   cases ht:(nl.toList==s.toList)
   ·have KN:=H.Za #[.string nl,.slice (some ⟨g0,0,none⟩) 2 2] 49
    go_wp2_with fail
    go_roundw
    case rel=>exact ⟨1,by omega,by go_num,by intros;first|exact ht|trivial,by intros;first|trivial|omega,by intros;first|trivial|omega,KN.drop (List.sublist_cons_self _ _)⟩
    case measure=>simp [intOf]
   ·have HR:Hid (ZA s=(nl,Yr)):=by
     unfold Hid ZA
     have h:=ht
     rw [←E1.out,←E2.out,←E3.out,if_pos h]
    have KN:=((H.store 4 rfl 0 (.string nl)).store 4 rfl 1 (.slice (some ⟨g0,0,none⟩) 2 2)).Za #[.string nl,.slice (some ⟨g0,0,none⟩) 2 2] 49
    go_wp2_with fail
    exact bodyPost_ret (v:=.agg #[.string nl,.slice (some ⟨g0,0,none⟩) 2 2]) (by simp [results,Tryz.results14,go_sem,F]) rfl ⟨some ⟨g0,0,none⟩,2,2,by rw [HR.out],by omega,by omega,by rw [HR.out];exact KN.ZP 2 rfl,KN.below⟩
  ·have Q0:=hid (q0 (by omega));clear q0 q1 q2
   cases ht:(nt.toList==s.toList)
   ·have KN:=H.Za #[.string nt,.slice (some ⟨g1,0,none⟩) 4 4] 49
    go_wp2_with fail
    go_roundw
    case rel=>exact ⟨2,by omega,by go_num,by intros;first|exact Q0.out|trivial,by intros;first|exact ht|trivial,by intros;first|trivial|omega,KN.drop (List.sublist_cons_self _ _)⟩
    case measure=>simp [intOf]
   ·have HR:Hid (ZA s=(nt,YP)):=by
     unfold Hid ZA
     have h:=ht
     rw [←E1.out,←E2.out,←E3.out,if_neg (by rw [Q0.out];simp),if_pos h]
    have KN:=((H.store 4 rfl 0 (.string nt)).store 4 rfl 1 (.slice (some ⟨g1,0,none⟩) 4 4)).Za #[.string nt,.slice (some ⟨g1,0,none⟩) 4 4] 49
    go_wp2_with fail
    exact bodyPost_ret (v:=.agg #[.string nt,.slice (some ⟨g1,0,none⟩) 4 4]) (by simp [results,Tryz.results14,go_sem,F]) rfl ⟨some ⟨g1,0,none⟩,4,4,by rw [HR.out],by omega,by omega,by rw [HR.out];exact KN.ZP 3 rfl,KN.below⟩
  ·have Q0:=hid (q0 (by omega));have Q1:=hid (q1 (by omega));clear q0 q1 q2
   cases ht:(nu.toList==s.toList)
   ·have KN:=H.Za #[.string nu,.slice (some ⟨g2,0,none⟩) 3 3] 49
    go_wp2_with fail
    go_roundw
    case rel=>exact ⟨3,by omega,by go_num,by intros;first|exact Q0.out|trivial,by intros;first|exact Q1.out|trivial,by intros;first|exact ht|trivial,KN.drop (List.sublist_cons_self _ _)⟩
    case measure=>simp [intOf]
   ·have HR:Hid (ZA s=(nu,YN)):=by
     unfold Hid ZA
     have h:=ht
     rw [←E1.out,←E2.out,←E3.out,if_neg (by rw [Q0.out];simp),if_neg (by rw [Q1.out];simp),if_pos h]
    have KN:=((H.store 4 rfl 0 (.string nu)).store 4 rfl 1 (.slice (some ⟨g2,0,none⟩) 3 3)).Za #[.string nu,.slice (some ⟨g2,0,none⟩) 3 3] 49
    go_wp2_with fail
    exact bodyPost_ret (v:=.agg #[.string nu,.slice (some ⟨g2,0,none⟩) 3 3]) (by simp [results,Tryz.results14,go_sem,F]) rfl ⟨some ⟨g2,0,none⟩,3,3,by rw [HR.out],by omega,by omega,by rw [HR.out];exact KN.ZP 4 rfl,KN.below⟩
  ·have Q0:=hid (q0 (by omega));have Q1:=hid (q1 (by omega));have Q2:=hid (q2 (by omega));clear q0 q1 q2
   have HR:Hid (ZA s=(⟨#[]⟩,[])):=by
    unfold Hid ZA
    rw [←E1.out,←E2.out,←E3.out,if_neg (by rw [Q0.out];simp),if_neg (by rw [Q1.out];simp),if_neg (by rw [Q2.out];simp)]
   have KN:=(H.store 4 rfl 0 (.string ⟨#[]⟩)).store 4 rfl 1 (.slice none 0 0)
   go_wp2_with fail
   exact bodyPost_ret (v:=.agg #[.string ⟨#[]⟩,.slice none 0 0]) (by simp [results,Tryz.results14,go_sem,F]) rfl ⟨none,0,0,by rw [HR.out],by omega,by omega,by rw [HR.out];exact VJ,KN.below⟩
def Gz:Vl:=⟨0,0,⟨#[]⟩⟩
theorem ZdY:ZA ⟨#[108,111,103]⟩=(YE,Yr):=by kernel_rfl
theorem Zgb (M:Nat→Prop) (w:World) (hM:∀ b,M b→b<w.heap.size):Calls Tryz.prog 14 #[.string ⟨#[108,111,103]⟩] w fun e w' =>Za1 w M YE Yr e w' :=by
 have h:=VT M w hM ⟨#[108,111,103]⟩
 rwa [ZdY] at h
theorem ZcY:(⟨#[]⟩:ByteArray).size≤maxLen:=by unfold maxLen;decide
theorem JG:Gz.ok:=⟨show I64 0 by unfold I64;omega,show I64 0 by unfold I64;omega,ZcY⟩
theorem WR {w:World} {A:Option Addr} {n:Nat} {l:List Col} (h:ColsIn A n l w):l.length=n:=(RdC.Zy h).len
theorem Wds.ro2 {w:World} {M:Nat→Prop} (h:Wds w) (hM:¬M 1):Ro w M Wds:=fun w2 _ h2=>h.keep (h2 _ h.lt hM)
def Zdj (w:World) (T:Nat) (e:Ending) (w' :World):Prop:=
 ∃ x:Int,e=.returned (.int .i64 x)∧-3≤x∧x≤12∧Tp w' T∧w.grownBy w' (some T)
set_option maxHeartbeats 400000 in
theorem UT (T:Nat) (w:World) (ht:Tp w T):Calls Tryz.prog 32 #[.pointer (some ⟨T,0,none⟩)] w fun e w' =>Zdj w T e w' :=by
 go_enter Tryz.func32,Tryz.ntmps32
 go_wp2_with fail
 refine (ZT T 16 _ ht (by omega) (by omega)).mono ?_
 rintro e w1 ⟨r,rfl,r0,r1,t1,g1⟩
 go_wp2
 go_ret
 exact ⟨r - 3,by first|rfl|simp,by omega,by omega,t1,g1⟩
def XN:List Col→List Vl→Prop
 | [],[]=>True
 | c::cs,v::vs=>YH c v=0∧XN cs vs
 | _,_=>False
theorem VW:∀ {cs:List Col} {vs:List Vl},XN cs vs→vs.length=cs.length
 | [],[],_=>rfl
 | c::cs,v::vs,h=>by simp [VW h.2]
 | [],_::_,h=>h.elim
 | _::_,[],h=>h.elim
theorem Zbq:∀ {cs:List Col} {vs:List Vl},XN cs vs→Xk cs vs=0
 | [],[],_=>rfl
 | c::cs,v::vs,h=>by rw [Xk,if_pos h.1];exact Zbq h.2
 | [],_::_,h=>h.elim
 | _::_,[],h=>h.elim
theorem Zd2 {cs:List Col} {vs:List Vl} (h:XN cs vs):ZC cs vs=0:=by
 unfold ZC;rw [if_pos (VW h)];exact Zbq h
theorem ZbB:∀ {cs:List Col} {vs:List Vl} {c:Col} {v:Vl},XN cs vs→YH c v=0→XN (cs++[c]) (vs++[v])
 | [],[],_,_,_,h=>⟨h,trivial⟩
 | c::cs,v::vs,_,_,h,k=>⟨h.1,ZbB h.2 k⟩
 | [],_::_,_,_,h,_=>h.elim
 | _::_,[],_,_,h,_=>h.elim
theorem Wp {cs:List Col} {vs:List Vl} {k:Nat} {c:Col} {v:Vl} (h:XN (cs.take k) vs) (hc:cs[k]? =some c) (hv:YH c v=0):XN (cs.take (k+1)) (vs++[v]):=by
 rw [List.take_add_one,hc]
 exact ZbB h hv
def Ua (c:Col):Prop:=c.ty=1∨c.ty=2∨c.ty=3
theorem Zd7 {c:Col} {k i:Int} {s:ByteArray} (hc:Ua c) (h:Vk c.ty k i s):YH c ⟨k,i,s⟩=0∧k=c.ty:=by
 obtain ⟨h1,h2,_⟩:=h
 obtain rfl:=h2 hc
 have h3:(c.ty==0)=false:=by rcases hc with h|h|h<;>rw [h]<;>rfl
 refine ⟨?_,rfl⟩
 unfold YH
 rw [if_pos h1]
 simp [h3]
theorem ZaX {c:Col} (hc:c.ty=1) (i:Int) (s:ByteArray) (j:Int) (h:YH c ⟨1,i,s⟩=0):YH c ⟨1,j,s⟩=0:=by
 unfold YH at h ⊢
 have e:Yq 1 j s=Yq 1 i s:=by unfold Yq;rw [if_neg (by decide),if_pos rfl,if_neg (by decide),if_pos rfl]
 rw [e]
 exact h
theorem JZ {c:Col} (hc:c.nn=false):YH c Gz=0:=by
 have e:Yq 0 0 ⟨#[]⟩=true:=by decide+kernel
 simp [YH,Gz,e,hc]
def ZcJ (w:World) (T:Nat) (cs:List Col) (e:Ending) (w' :World):Prop:=
 ∃ (A:Option Addr) (n c:Nat) (vs:List Vl),e=.returned (.slice A n c)∧n=vs.length∧(∀ v∈vs,v.ok)∧XN cs vs∧w'.ownsRow w.heap.size 122 3 (.slice A n c) n (Z5 vs)∧Tp w' T∧w.grownBy w' (some T)
theorem Wt (l:List Vl) (k i:Int) (s:ByteArray):Z5 l++(#[Value.int .i64 k,.int .i64 i,.string s]).toList=Z5 (l++[⟨k,i,s⟩]):=by simp [Z5,Vl.cells]
theorem Wm {l:List Vl} {v:Vl} (h:∀ x∈l,x.ok) (hv:v.ok):∀ x∈l++[v],x.ok:=fun x hx=>by
 rcases List.mem_append.1 hx with hx|hx
 ·exact h x hx
 ·simp at hx;subst hx;exact hv
set_option maxHeartbeats 4000000 in
set_option maxRecDepth 100000 in
theorem Gl (M:Nat→Prop) (T:Nat) (w:World) (hM:∀ b,M b→b<w.heap.size) (ht:Tp w T) (hMT:∀ b,M b→T≤b) (nm:ByteArray) (A:Option Addr) (n c:Nat) (cs:List Col) (hD:Ro w (Mut M [.tp T]) (ColsIn A n cs)) (hW:Ro w (Mut M [.tp T]) Wds) (hT:1<T)
  (hn:n≤1000) (hok:∀ x∈cs,Ua x):Calls Tryz.prog 67 #[.pointer (some ⟨T,0,none⟩),.agg #[.string nm,.slice A n c]] w fun e w' =>ZcJ w T cs e w' :=by
 have HL:=hid (WR hD.now)
 have HOKC:=hid hok
 clear hok
 have K0:=((((Hold.Y5 M w T hM ht hMT).add hD).add (hW.less (Xa rfl))).Za #[.string nm,.slice A n c] 49).nil 122 3
 clear hD hW
 go_enter Tryz.func67,Tryz.ntmps67
 go_wp2_with fail
 go_loopw [5,12] (fun ov iv wr=>∃ (k cap:Nat) (O:Option Addr) (outs:List Vl),k≤n∧iv=.int .i64 k∧ov=.slice O k cap∧Hid (∀ v∈outs,v.ok)∧Hid (XN (cs.take k) outs)∧Hold M (some T) w wr [.own 122 3 (.slice O k cap) k (Z5 outs),.cst w.heap.size 49 #[.string nm,.slice A n c],.ro Wds,.ro (ColsIn A n cs),.tp T]) (fun _ iv _=>n - (intOf iv).toNat)
 case atStart=>exact ⟨0,0,none,[],by omega,rfl,rfl,hid (fun v hv=>nomatch hv),hid trivial,K0⟩
 case round=>
  clear K0
  obtain ⟨k,cap,O,outs,hk,rfl,rfl,HO,HF,H⟩:=hrel
  by_cases hlt:k<n
  ·have hd:decide ((k:Int)<(n:Int))=true:=by simp;omega
   have k0:(0:Int)≤(k:Int):=by omega
   have k1:(k:Int)<(n:Int):=by omega
   obtain ⟨⟨xn,xt,xnn,xk⟩,hx⟩:=YA HL.out hlt
   obtain ⟨g,o,rfl,hgb,c0,c1,c2,c3⟩:=(RdC.Zy (H.ro 3 rfl).now).at_ hx
   dsimp only at c0 c1 c2 c3
   have HCO:=hid (HOKC.out _ (List.mem_of_getElem? hx))
   have HX:=hid hx
   clear hx
   have K1:=H.Za #[.string xn,.int .i64 xt,.bool xnn,.bool xk] 158
   obtain ⟨gc,hgc⟩:∃ gc,gc=wr.heap.size:=⟨_,rfl⟩
   rw [←hgc] at K1
   go_wp2_with fail
   rw [←hgc]
   clear hgc
   refine (UG T xt _ (K1.tp_ 5 rfl) (K1.ro 3 rfl).now hT).mono ?_
   rintro e w2 ⟨kk,ii,ss,rfl,hkk,hss,hii,t2,_,g2⟩
   have K2:=(Hold.Zf K1 5 rfl g2 t2)
   obtain ⟨hfit,hkt⟩:=Zd7 (c:=⟨xn,xt,xnn,xk⟩) HCO.out hkk
   obtain rfl:kk=xt:=hkt
   clear hkk g2 t2 K1
   have HFIT:=hid hfit
   clear hfit
   have K3:=K2.alloc #[.int .i64 kk,.int .i64 ii,.string ss] 122
   clear K2
   have F3:=K3.facts
   simp only [zg] at F3
   have hssm:ss.size≤maxLen:=by unfold maxLen;omega
   by_cases h1:kk=1
   ·subst h1
    have hb:((1:Int)==1)=true:=rfl
    go_wp2_with fail
    refine (Z8 T 9 _ (K3.tp_ 6 rfl) (by omega) (by omega)).mono ?_
    rintro e w3 ⟨b1,rfl,t3,g3⟩
    obtain ⟨gv,hgv⟩:∃ gv,gv=w2.heap.size:=⟨_,rfl⟩
    have K4:=Hold.Zf K3 6 rfl g3 t3
    clear K3 g3 t3 F3
    rw [←hgv] at K4 ⊢
    clear hgv
    have F4:=K4.facts
    simp only [zg] at F4
    cases b1
    ·go_wp2_with fail
     refine (UT T _ (K4.tp_ 6 rfl)).mono ?_
     rintro e w4 ⟨y,rfl,y0,y1,t4,g4⟩
     have K5:=(Hold.Zf K4 6 rfl g4 t4).store 0 rfl 1 (.int .i64 y)
     have F5:=(Hold.Zf K4 6 rfl g4 t4).facts
     simp only [ZU,Zt,Nat.reduceAdd,List.toList_toArray,and_true,true_and] at F5
     clear K4 g4 t4 F4
     have hyI:I64 y:=by unfold I64;omega
     cases xnn
     ·skip
      have KN:=K5
      try simp only [zl] at KN
      have FN:=KN.facts
      simp only [zg] at FN
      go_wp2_with fail
      refine (Z8 T 5 _ (KN.tp_ 6 rfl) (by omega) (by omega)).mono ?_
      rintro e w8 ⟨b2,rfl,t8,g8⟩
      have KM:=Hold.Zf KN 6 rfl g8 t8
      clear KN FN g8 t8
      have FM:=KM.facts
      simp only [zg] at FM
      cases b2
      ·skip
       have HFK:=hid (Wp HF.out HX.out (v:=⟨1,y,ss⟩) (ZaX rfl ii ss y HFIT.out))
       have HOK:=hid (Wm HO.out (show Vl.ok ⟨1,y,ss⟩ from ⟨by show I64 1;unfold I64;omega,hyI,hssm⟩))
       have HCE:=hid (Wt outs 1 y ss)
       have KA:=KM
       try simp only [zl] at KA
       have FA:=KA.facts
       simp only [zg] at FA
       go_wp2_with (at_builtin;go_must (refine ZH KA 2 rfl Tryz.Xp #[.int .i64 1,.int .i64 y,.string ss] rfl (.tmp 39) (.tmp 41) rfl rfl _ (by first|rfl|simp [World.setCell]) rfl rfl (by intro u hu;simp at hu;rcases hu with rfl|rfl|rfl<;>rfl) (by omega) (by omega) ?_);intro g6 cap6 w6 hc6 hm6 KB;rw [HCE.out] at KB;simp only [zl] at KB;(have FB:=KB.facts);simp only [zg] at FB)
       have KC:=(KB.drop (List.Sublist.cons _ (List.Sublist.cons _ (List.Sublist.refl _))))
       go_roundw
       case rel=>exact ⟨k+1,cap6,some ⟨g6,0,none⟩,outs++[⟨1,y,ss⟩],by omega,by go_num,by first|rfl|trivial,HOK,HFK,KC⟩
       case measure=>simp [intOf];omega
      ·skip
       have HFK:=hid (Wp HF.out HX.out (v:=⟨0,0,⟨#[]⟩⟩) (JZ rfl))
       have HOK:=hid (Wm HO.out (show Vl.ok ⟨0,0,⟨#[]⟩⟩ from JG))
       have HCE:=hid (Wt outs 0 0 ⟨#[]⟩)
       have KA:=(((KM.store 0 rfl 0 (.int .i64 0)).store 0 rfl 1 (.int .i64 0)).store 0 rfl 2 (.string ⟨#[]⟩))
       try simp only [zl] at KA
       have FA:=KA.facts
       simp only [zg] at FA
       go_wp2_with (at_builtin;go_must (refine ZH KA 2 rfl Tryz.Xp #[.int .i64 0,.int .i64 0,.string ⟨#[]⟩] rfl (.tmp 39) (.tmp 41) rfl rfl _ (by first|rfl|simp [World.setCell]) rfl rfl (by intro u hu;simp at hu;rcases hu with rfl|rfl|rfl<;>rfl) (by omega) (by omega) ?_);intro g6 cap6 w6 hc6 hm6 KB;rw [HCE.out] at KB;simp only [zl] at KB;(have FB:=KB.facts);simp only [zg] at FB)
       have KC:=(KB.drop (List.Sublist.cons _ (List.Sublist.cons _ (List.Sublist.refl _))))
       go_roundw
       case rel=>exact ⟨k+1,cap6,some ⟨g6,0,none⟩,outs++[⟨0,0,⟨#[]⟩⟩],by omega,by go_num,by first|rfl|trivial,HOK,HFK,KC⟩
       case measure=>simp [intOf];omega
     ·skip
      have HFK:=hid (Wp HF.out HX.out (v:=⟨1,y,ss⟩) (ZaX rfl ii ss y HFIT.out))
      have HOK:=hid (Wm HO.out (show Vl.ok ⟨1,y,ss⟩ from ⟨by show I64 1;unfold I64;omega,hyI,hssm⟩))
      have HCE:=hid (Wt outs 1 y ss)
      have KA:=K5
      try simp only [zl] at KA
      have FA:=KA.facts
      simp only [zg] at FA
      go_wp2_with (at_builtin;go_must (refine ZH KA 2 rfl Tryz.Xp #[.int .i64 1,.int .i64 y,.string ss] rfl (.tmp 39) (.tmp 41) rfl rfl _ (by first|rfl|simp [World.setCell]) rfl rfl (by intro u hu;simp at hu;rcases hu with rfl|rfl|rfl<;>rfl) (by omega) (by omega) ?_);intro g6 cap6 w6 hc6 hm6 KB;rw [HCE.out] at KB;simp only [zl] at KB;(have FB:=KB.facts);simp only [zg] at FB)
      have KC:=(KB.drop (List.Sublist.cons _ (List.Sublist.cons _ (List.Sublist.refl _))))
      go_roundw
      case rel=>exact ⟨k+1,cap6,some ⟨g6,0,none⟩,outs++[⟨1,y,ss⟩],by omega,by go_num,by first|rfl|trivial,HOK,HFK,KC⟩
      case measure=>simp [intOf];omega
    ·skip
     cases xnn
     ·skip
      have KN:=K4
      try simp only [zl] at KN
      have FN:=KN.facts
      simp only [zg] at FN
      go_wp2_with fail
      refine (Z8 T 5 _ (KN.tp_ 6 rfl) (by omega) (by omega)).mono ?_
      rintro e w8 ⟨b2,rfl,t8,g8⟩
      have KM:=Hold.Zf KN 6 rfl g8 t8
      clear KN FN g8 t8
      have FM:=KM.facts
      simp only [zg] at FM
      cases b2
      ·skip
       have HFK:=hid (Wp HF.out HX.out (v:=⟨1,ii,ss⟩) HFIT.out)
       have HOK:=hid (Wm HO.out (show Vl.ok ⟨1,ii,ss⟩ from ⟨by show I64 1;unfold I64;omega,hii,hssm⟩))
       have HCE:=hid (Wt outs 1 ii ss)
       have KA:=KM
       try simp only [zl] at KA
       have FA:=KA.facts
       simp only [zg] at FA
       go_wp2_with (at_builtin;go_must (refine ZH KA 2 rfl Tryz.Xp #[.int .i64 1,.int .i64 ii,.string ss] rfl (.tmp 39) (.tmp 41) rfl rfl _ (by first|rfl|simp [World.setCell]) rfl rfl (by intro u hu;simp at hu;rcases hu with rfl|rfl|rfl<;>rfl) (by omega) (by omega) ?_);intro g6 cap6 w6 hc6 hm6 KB;rw [HCE.out] at KB;simp only [zl] at KB;(have FB:=KB.facts);simp only [zg] at FB)
       have KC:=(KB.drop (List.Sublist.cons _ (List.Sublist.cons _ (List.Sublist.refl _))))
       go_roundw
       case rel=>exact ⟨k+1,cap6,some ⟨g6,0,none⟩,outs++[⟨1,ii,ss⟩],by omega,by go_num,by first|rfl|trivial,HOK,HFK,KC⟩
       case measure=>simp [intOf];omega
      ·skip
       have HFK:=hid (Wp HF.out HX.out (v:=⟨0,0,⟨#[]⟩⟩) (JZ rfl))
       have HOK:=hid (Wm HO.out (show Vl.ok ⟨0,0,⟨#[]⟩⟩ from JG))
       have HCE:=hid (Wt outs 0 0 ⟨#[]⟩)
       have KA:=(((KM.store 0 rfl 0 (.int .i64 0)).store 0 rfl 1 (.int .i64 0)).store 0 rfl 2 (.string ⟨#[]⟩))
       try simp only [zl] at KA
       have FA:=KA.facts
       simp only [zg] at FA
       go_wp2_with (at_builtin;go_must (refine ZH KA 2 rfl Tryz.Xp #[.int .i64 0,.int .i64 0,.string ⟨#[]⟩] rfl (.tmp 39) (.tmp 41) rfl rfl _ (by first|rfl|simp [World.setCell]) rfl rfl (by intro u hu;simp at hu;rcases hu with rfl|rfl|rfl<;>rfl) (by omega) (by omega) ?_);intro g6 cap6 w6 hc6 hm6 KB;rw [HCE.out] at KB;simp only [zl] at KB;(have FB:=KB.facts);simp only [zg] at FB)
       have KC:=(KB.drop (List.Sublist.cons _ (List.Sublist.cons _ (List.Sublist.refl _))))
       go_roundw
       case rel=>exact ⟨k+1,cap6,some ⟨g6,0,none⟩,outs++[⟨0,0,⟨#[]⟩⟩],by omega,by go_num,by first|rfl|trivial,HOK,HFK,KC⟩
       case measure=>simp [intOf];omega
     ·skip
      have HFK:=hid (Wp HF.out HX.out (v:=⟨1,ii,ss⟩) HFIT.out)
      have HOK:=hid (Wm HO.out (show Vl.ok ⟨1,ii,ss⟩ from ⟨by show I64 1;unfold I64;omega,hii,hssm⟩))
      have HCE:=hid (Wt outs 1 ii ss)
      have KA:=K4
      try simp only [zl] at KA
      have FA:=KA.facts
      simp only [zg] at FA
      go_wp2_with (at_builtin;go_must (refine ZH KA 2 rfl Tryz.Xp #[.int .i64 1,.int .i64 ii,.string ss] rfl (.tmp 39) (.tmp 41) rfl rfl _ (by first|rfl|simp [World.setCell]) rfl rfl (by intro u hu;simp at hu;rcases hu with rfl|rfl|rfl<;>rfl) (by omega) (by omega) ?_);intro g6 cap6 w6 hc6 hm6 KB;rw [HCE.out] at KB;simp only [zl] at KB;(have FB:=KB.facts);simp only [zg] at FB)
      have KC:=(KB.drop (List.Sublist.cons _ (List.Sublist.cons _ (List.Sublist.refl _))))
      go_roundw
      case rel=>exact ⟨k+1,cap6,some ⟨g6,0,none⟩,outs++[⟨1,ii,ss⟩],by omega,by go_num,by first|rfl|trivial,HOK,HFK,KC⟩
      case measure=>simp [intOf];omega
   ·have hb:(kk==1)=false:=by simpa using h1
    have hty:I64 kk:=by rcases HCO.out with h|h|h<;>(have h:kk=_:=h;rw [h];unfold I64;omega)
    clear h1
    cases xnn
    ·skip
     have KN:=K3
     try simp only [zl] at KN
     have FN:=KN.facts
     simp only [zg] at FN
     go_wp2_with fail
     refine (Z8 T 5 _ (KN.tp_ 6 rfl) (by omega) (by omega)).mono ?_
     rintro e w8 ⟨b2,rfl,t8,g8⟩
     have KM:=Hold.Zf KN 6 rfl g8 t8
     clear KN FN g8 t8
     have FM:=KM.facts
     simp only [zg] at FM
     cases b2
     ·skip
      have HFK:=hid (Wp HF.out HX.out (v:=⟨kk,ii,ss⟩) HFIT.out)
      have HOK:=hid (Wm HO.out (show Vl.ok ⟨kk,ii,ss⟩ from ⟨hty,hii,hssm⟩))
      have HCE:=hid (Wt outs kk ii ss)
      have KA:=KM
      try simp only [zl] at KA
      have FA:=KA.facts
      simp only [zg] at FA
      go_wp2_with (at_builtin;go_must (refine ZH KA 2 rfl Tryz.Xp #[.int .i64 kk,.int .i64 ii,.string ss] rfl (.tmp 39) (.tmp 41) rfl rfl _ (by first|rfl|simp [World.setCell]) rfl rfl (by intro u hu;simp at hu;rcases hu with rfl|rfl|rfl<;>rfl) (by omega) (by omega) ?_);intro g6 cap6 w6 hc6 hm6 KB;rw [HCE.out] at KB;simp only [zl] at KB;(have FB:=KB.facts);simp only [zg] at FB)
      have KC:=(KB.drop (List.Sublist.cons _ (List.Sublist.cons _ (List.Sublist.refl _))))
      go_roundw
      case rel=>exact ⟨k+1,cap6,some ⟨g6,0,none⟩,outs++[⟨kk,ii,ss⟩],by omega,by go_num,by first|rfl|trivial,HOK,HFK,KC⟩
      case measure=>simp [intOf];omega
     ·skip
      have HFK:=hid (Wp HF.out HX.out (v:=⟨0,0,⟨#[]⟩⟩) (JZ rfl))
      have HOK:=hid (Wm HO.out (show Vl.ok ⟨0,0,⟨#[]⟩⟩ from JG))
      have HCE:=hid (Wt outs 0 0 ⟨#[]⟩)
      have KA:=(((KM.store 0 rfl 0 (.int .i64 0)).store 0 rfl 1 (.int .i64 0)).store 0 rfl 2 (.string ⟨#[]⟩))
      try simp only [zl] at KA
      have FA:=KA.facts
      simp only [zg] at FA
      go_wp2_with (at_builtin;go_must (refine ZH KA 2 rfl Tryz.Xp #[.int .i64 0,.int .i64 0,.string ⟨#[]⟩] rfl (.tmp 39) (.tmp 41) rfl rfl _ (by first|rfl|simp [World.setCell]) rfl rfl (by intro u hu;simp at hu;rcases hu with rfl|rfl|rfl<;>rfl) (by omega) (by omega) ?_);intro g6 cap6 w6 hc6 hm6 KB;rw [HCE.out] at KB;simp only [zl] at KB;(have FB:=KB.facts);simp only [zg] at FB)
      have KC:=(KB.drop (List.Sublist.cons _ (List.Sublist.cons _ (List.Sublist.refl _))))
      go_roundw
      case rel=>exact ⟨k+1,cap6,some ⟨g6,0,none⟩,outs++[⟨0,0,⟨#[]⟩⟩],by omega,by go_num,by first|rfl|trivial,HOK,HFK,KC⟩
      case measure=>simp [intOf];omega
    ·skip
     have HFK:=hid (Wp HF.out HX.out (v:=⟨kk,ii,ss⟩) HFIT.out)
     have HOK:=hid (Wm HO.out (show Vl.ok ⟨kk,ii,ss⟩ from ⟨hty,hii,hssm⟩))
     have HCE:=hid (Wt outs kk ii ss)
     have KA:=K3
     try simp only [zl] at KA
     have FA:=KA.facts
     simp only [zg] at FA
     go_wp2_with (at_builtin;go_must (refine ZH KA 2 rfl Tryz.Xp #[.int .i64 kk,.int .i64 ii,.string ss] rfl (.tmp 39) (.tmp 41) rfl rfl _ (by first|rfl|simp [World.setCell]) rfl rfl (by intro u hu;simp at hu;rcases hu with rfl|rfl|rfl<;>rfl) (by omega) (by omega) ?_);intro g6 cap6 w6 hc6 hm6 KB;rw [HCE.out] at KB;simp only [zl] at KB;(have FB:=KB.facts);simp only [zg] at FB)
     have KC:=(KB.drop (List.Sublist.cons _ (List.Sublist.cons _ (List.Sublist.refl _))))
     go_roundw
     case rel=>exact ⟨k+1,cap6,some ⟨g6,0,none⟩,outs++[⟨kk,ii,ss⟩],by omega,by go_num,by first|rfl|trivial,HOK,HFK,KC⟩
     case measure=>simp [intOf];omega
  ·obtain rfl:k=n:=by omega
   have hd:decide ((k:Int)<(k:Int))=false:=by simp
   have HE:=hid (show XN cs outs by have h:=HF.out;rwa [List.take_of_length_le (by rw [HL.out];exact Nat.le_refl _)] at h)
   have HN:=hid (show k=outs.length by have:=VW HE.out;have:=HL.out;omega)
   go_wp2_with fail
   go_ret
   exact ⟨O,k,cap,outs,rfl,HN.out,HO.out,HE.out,H.get 0 rfl,H.tp_ 4 rfl,H.grow⟩
end Go.Proofs.YtnbbllkbefagmaaGreatDoor
namespace Go.Proofs.YtnbbllkbefagmaaGreatDoor
open Go.RowKit
set_option linter.unusedVariables false
set_option linter.unusedSimpArgs false
section
variable {P:Program} {M:Nat→Prop} {row:Option Nat} {w0 w1:World} {L:List Hp} {sp:SpW} {F:Act→Prop} {S0:Array Bool}
variable {ops:Array Oper} {o:Oper} {rest:List Oper} {a:Act} {k:Nat}
theorem Va (d:Tmp) (V:Value→World→Prop) (hS:S0.getD k false=false) (hw:Region.wanted o (yielded ops a.tmps)=true) (hd:o.dst=some d) (hsp:sp d=some V)
  (h:∀ w,Hold M row w0 w L→Yl ops (GW sp) o a w→∃ u,(execOp a.eval o).run P w=.ok (.value u) w∧V u w) (hn:∀ u w,Hold M row w0 w L→V u w→Zz P ops (HC M row w0 w1 L) (GW sp) (RM (Mut M L)) S0 F (k+1) rest (a.put (some d) u)):Zz P ops (HC M row w0 w1 L) (GW sp) (RM (Mut M L)) S0 F k (o::rest) a:=by
 refine Q9 hS hw d hd (fun w hC hD=>?_) fun u w hC hu=>hn u w hC.1 ((Zl hsp).1 hu)
 obtain ⟨u,h1,h2⟩:=h w hC.1 hD
 exact ⟨u,w,h1,(Zl hsp).2 h2,hC,RM.refl _ w⟩
end
def IntsSlot (M:Nat→Prop) (n:Nat) (zs:List Int) (u:Value) (w:World):Prop:=∃ g:Nat,u=.slice (some ⟨g,0,none⟩) n n∧zs.length=n∧Ro w M (SlR 1 (some ⟨g,0,none⟩) n (zs.map fun z=>.int .i64 z))
theorem Zfe {M:Nat→Prop} {n:Nat} {zs:List Int} (u:Value) (w w' :World) (hr:RM M w w') (h:IntsSlot M n zs u w):IntsSlot M n zs u w' :=by
 obtain ⟨g,h1,h2,h3⟩:=h
 exact ⟨g,h1,h2,hr.ro h3⟩
def VF (M:Nat→Prop) (Z:Int→Prop) (u:Value) (w:World):Prop:=∃ (g o:Nat) (z:Int),u=.pointer (some ⟨g,o,none⟩)∧Z z∧Ro w M (fun w=>w.cell? ⟨g,o,none⟩=some (.int .i64 z))
theorem ZhS {M:Nat→Prop} {Z:Int→Prop} (u:Value) (w w' :World) (hr:RM M w w') (h:VF M Z u w):VF M Z u w' :=by
 obtain ⟨g,o,z,h1,h2,h3⟩:=h
 exact ⟨g,o,z,h1,h2,hr.ro h3⟩
def Qg (Z:Int→Prop) (u:Value) (_:World):Prop:=∃ z:Int,u=.int .i64 z∧Z z
theorem ZcP {M:Nat→Prop} {Z:Int→Prop} (u:Value) (w w' :World) (hr:RM M w w') (h:Qg Z u w):Qg Z u w' :=h
theorem IntsSlot.cell {M:Nat→Prop} {n:Nat} {zs:List Int} {Z:Int→Prop} {g r:Nat} {w:World} (h:IntsSlot M n zs (.slice (some ⟨g,0,none⟩) n n) w) (hZ:∀ z∈zs,Z z) (hr:r<n):VF M Z (.pointer (some ⟨g,r,none⟩)) w:=by
 obtain ⟨g',e,hl,h3⟩:=h
 obtain rfl:g=g' :=by injection e with e;injection e with e;injection e
 obtain ⟨z,hz⟩:∃ z,zs[r]? =some z:=⟨zs[r]'(by omega),List.getElem?_eq_getElem _⟩
 refine ⟨g,r,z,rfl,hZ z (List.mem_of_getElem? hz),h3.imp fun w2 h2=>?_⟩
 obtain ⟨b,o,e,hb,hc⟩:=h2.2 (by omega)
 obtain ⟨rfl,rfl⟩:g=b∧0=o:=by injection e with e;injection e with e1 e2;exact ⟨e1,e2⟩
 have:=hc r (.int .i64 z) (by rw [List.getElem?_map,hz];rfl)
 simpa using this
end Go.Proofs.YtnbbllkbefagmaaGreatDoor
namespace Go.Proofs.YtnbbllkbefagmaaGreatDoor
open Go.RowKit
set_option linter.unusedVariables false
set_option linter.unusedSimpArgs false
theorem Zk {M:Nat→Prop} {L:List Hp} {T i:Nat} (h:L[i]? =some (.tp T)):∀ b,Mut (Mut M L) [.tp T] b→Mut M L b:=by
 rintro b (hb|⟨k,hk,hf⟩)
 ·exact hb
 ·simp only [List.mem_singleton] at hk
  subst hk
  exact .inr ⟨_,List.mem_of_getElem? h,hf⟩
theorem Xz {x:Ex} {n:Int} (h:Qh x n) (h1:-100≤n) (h2:n≤100):ExGd 2 x:=by
 rcases h with ⟨_,rfl⟩|⟨_,g,rfl⟩
 ·exact (WL _ (Zw 1 (by decide)) (Zw n ⟨by omega,by omega⟩)).more
 ·exact YU (Zw 4 (by decide)) (Zw 0 (by decide)) (by omega) (fun a ha=>by
   simp only [List.mem_cons,List.not_mem_nil,or_false] at ha
   subst ha
   exact WL _ (Zw 1 (by decide)) (Zw (-n) ⟨by omega,by omega⟩))
theorem Gn {kind k i:Int} {s:ByteArray} (h:Vk kind k i s):I64 k:=by
 by_cases hk:kind=1∨kind=2∨kind=3
 ·rw [h.2.1 hk];rcases hk with rfl|rfl|rfl<;>exact Zw _ (by decide)
 ·rw [h.2.2 hk];exact Zw 0 (by decide)
def Zh (M:Nat→Prop) (d:Nat) (u:Value) (w:World):Prop:=∃ y:Ex,u=y.val∧ExGd d y∧Ro w M (ExIn d y)
theorem Yj {M:Nat→Prop} {d:Nat} (u:Value) (w w' :World) (hr:RM M w w') (h:Zh M d u w):Zh M d u w' :=by
 obtain ⟨y,h1,h2,h3⟩:=h
 exact ⟨y,h1,h2,hr.ro h3⟩
theorem J3 (w:World):ExIn 1 zeroE w:=⟨ZE 10 w,fun a ha=>(nomatch ha),ZE 4 w,fun q hq=>(nomatch hq)⟩
structure PlN (n:Nat) (p:Pl):Prop where
 b:PlB p
 n:p.fr.n+n≤90
 s:0<p.tb.n→True
def GE (n:Nat):Prop:=∀ (M:Nat→Prop) (T:Nat) (w:World) (hM:∀ b,M b→b<w.heap.size) (ht:Tp w T) (hMT:∀ b,M b→T≤b) (p:Pl) (want depth:Int) (hp:Ro w (Mut M [.tp T]) (Zg p)) (hW:Ro w (Mut M [.tp T]) Wds) (hT:1<T) (hB:PlN n p) (hd:depth≤n) (hd2:-100≤depth),
 Calls Tryz.prog 99 #[.pointer (some ⟨T,0,none⟩),p.val,.int .i64 want,.int .i64 depth] w fun e w' =>Gc w T M (n+2) e w'
def GQ (n:Nat):Prop:=∀ (M:Nat→Prop) (T:Nat) (w:World) (hM:∀ b,M b→b<w.heap.size) (ht:Tp w T) (hMT:∀ b,M b→T≤b) (p:Pl) (kind depth:Int) (hp:Ro w (Mut M [.tp T]) (Zg p)) (hW:Ro w (Mut M [.tp T]) Wds) (hT:1<T) (hB:PlN n p) (hd:depth≤n) (hd2:1≤depth) (hs:0<p.tb.n) (hk:I64 kind) (hk1:1≤kind),
 Calls Tryz.prog 155 #[.pointer (some ⟨T,0,none⟩),p.val,.int .i64 kind,.int .i64 depth] w fun e w' =>Gc w T M (n+2) e w'
def GC (n:Nat):Prop:=∀ (M:Nat→Prop) (T:Nat) (w:World) (hM:∀ b,M b→b<w.heap.size) (ht:Tp w T) (hMT:∀ b,M b→T≤b) (p:Pl) (depth:Int) (hp:Ro w (Mut M [.tp T]) (Zg p)) (hW:Ro w (Mut M [.tp T]) Wds) (hT:1<T) (hB:PlN n p) (hd:depth≤n) (hd2:1≤depth),
 Calls Tryz.prog 156 #[.pointer (some ⟨T,0,none⟩),p.val,.int .i64 depth] w fun e w' =>Gc w T M (n+2) e w'
set_option maxRecDepth 100000 in
set_option maxHeartbeats 16000000 in
theorem Zap {n:Nat} (hE:∀ m,n=m+1→GE m) (hQ:1≤n→GQ n) (hC:1≤n→GC n):GE n:=by
 intro M T w hM ht hMT p want depth hp hW hT hB hd hd2
 obtain ⟨⟨fA,fn,fc,fl⟩,⟨sA,sn,sc,sl⟩⟩:=p
 have KS:=((((Hold.Y5 M w T hM ht hMT).add hW).add (hp.less (by simp [ZI,Mut,Hp.foot]))).Za #[.slice fA fn fc,.slice sA sn sc] 177).alloc #[.int .i64 0,.int .i64 0,.bool false,.int .i64 0,.int .i64 0,.string ⟨#[]⟩,.string ⟨#[]⟩,.string ⟨#[]⟩,.slice none 0 0,.slice none 0 0] 126
 rw [World.size_alloc] at KS
 obtain ⟨gp,hgp⟩:∃ g,g=w.heap.size:=⟨_,rfl⟩
 rw [←hgp] at KS
 obtain ⟨gr,hgr⟩:∃ g,g=gp+1:=⟨_,rfl⟩
 rw [←hgr] at KS
 have HBB:=hid hB
 simp only [Pl.val]
 clear hp hW hB
 go_enter Tryz.func99,Tryz.ntmps99
 go_wp2_with fail
 rw [←hgp]
 try rw [←hgr]
 have HG:=hid (And.intro hgp hgr)
 clear hgp hgr
 refine (ZT T 6 _ (KS.tp_ 4 rfl) (by omega) (by omega)).mono ?_
 rintro e w1 ⟨k,rfl,k0,k1,t1,g1⟩
 have K1:=Hold.Zf KS 4 rfl g1 t1
 clear KS g1 t1
 go_upto_region 2 with fail
 go_cut [19] (fun s9 wx=>s9=.bool (decide (4≤k∧0<depth))∧Hold M (some T) w wx [.blk gr 126 #[.int .i64 0,.int .i64 0,.bool false,.int .i64 0,.int .i64 0,.string ⟨#[]⟩,.string ⟨#[]⟩,.string ⟨#[]⟩,.slice none 0 0,.slice none 0 0],.cst gp 177 #[.slice fA fn fc,.slice sA sn sc],.ro (Zg ⟨⟨fA,fn,fc,fl⟩,⟨sA,sn,sc,sl⟩⟩),.ro Wds,.tp T])
 case first=>
  by_cases h4:4≤k
  ·by_cases h5:0<depth
   ·go_wp2_with fail
    all_goals first
     | (exfalso;omega)
     | (go_meet;exact ⟨by simp [h4,h5],K1⟩)
   ·go_wp2_with fail
    all_goals first
     | (exfalso;omega)
     | (go_meet;exact ⟨by simp [h4,h5],K1⟩)
  ·go_wp2_with fail
   all_goals first
    | (exfalso;omega)
    | (go_meet;exact ⟨by simp;omega,K1⟩)
 case rest=>
  obtain ⟨rfl,K2⟩:=hcut
  clear K1
  go_upto_if 19 with (fail)
  go_cut [9] (fun s9 wx=>∃ q:Int,s9=.int .i64 q∧0≤q∧q<6∧Hold M (some T) w wx [.blk gr 126 #[.int .i64 0,.int .i64 0,.bool false,.int .i64 0,.int .i64 0,.string ⟨#[]⟩,.string ⟨#[]⟩,.string ⟨#[]⟩,.slice none 0 0,.slice none 0 0],.cst gp 177 #[.slice fA fn fc,.slice sA sn sc],.ro (Zg ⟨⟨fA,fn,fc,fl⟩,⟨sA,sn,sc,sl⟩⟩),.ro Wds,.tp T])
  case first=>
   by_cases h4:4≤k∧0<depth
   ·go_wp2_with fail
    refine (ZT T 4 _ (K2.tp_ 4 rfl) (by omega) (by omega)).mono ?_
    rintro e w2 ⟨r,rfl,r0,r1,t2,g2⟩
    have K3:=Hold.Zf K2 4 rfl g2 t2
    go_wp2_with fail
    go_meet
    exact ⟨r,rfl,r0,by omega,K3⟩
   ·go_wp2_with fail
    go_meet
    exact ⟨k,rfl,k0,k1,K2⟩
  case rest=>
   obtain ⟨q,rfl,q0,q1,K3⟩:=hcut
   clear K2 k0 k1
   go_upto_region 4 with fail
   go_cut [27] (fun s9 wx=>s9=.bool (decide (depth≤0∨3≤q))∧Hold M (some T) w wx [.blk gr 126 #[.int .i64 0,.int .i64 0,.bool false,.int .i64 0,.int .i64 0,.string ⟨#[]⟩,.string ⟨#[]⟩,.string ⟨#[]⟩,.slice none 0 0,.slice none 0 0],.cst gp 177 #[.slice fA fn fc,.slice sA sn sc],.ro (Zg ⟨⟨fA,fn,fc,fl⟩,⟨sA,sn,sc,sl⟩⟩),.ro Wds,.tp T])
   case first=>
    by_cases h4:depth≤0
    ·go_wp2_with fail
     all_goals first
      | (exfalso;omega)
      | (go_meet;exact ⟨by simp [h4],K3⟩)
    ·by_cases h5:3≤q
     ·go_wp2_with fail
      all_goals first
       | (exfalso;omega)
       | (go_meet;exact ⟨by simp [h4,h5],K3⟩)
     ·go_wp2_with fail
      all_goals first
       | (exfalso;omega)
       | (go_meet;exact ⟨by simp [h4,h5],K3⟩)
   case rest=>
    obtain ⟨rfl,K4⟩:=hcut
    clear K3
    by_cases hleaf:depth≤0∨3≤q
    ·have hlb:decide (depth≤0∨3≤q)=true:=by simpa using hleaf
     have F4:=K4.facts
     simp only [zg] at F4
     go_wp2_with fail
     refine (JL (Mut M _) T _ K4.Zb (K4.tp_ 4 rfl) (K4.get 4 rfl).2 ⟨⟨fA,fn,fc,fl⟩,⟨sA,sn,sc,sl⟩⟩ want ((K4.ro 2 rfl).less (Zk (i:=4) rfl)) HBB.out.b).mono ?_
     rintro e w3 ⟨x,ok,rfl,hx,t3,g3⟩
     have K5:=(Hold.Zf K4 4 rfl g3 t3).Za #[.int .i64 x.kind,.int .i64 x.op,.bool x.nt,.int .i64 x.v.k,.int .i64 x.v.i,.string x.v.s,.string x.tab,.string x.nm,.slice x.A x.n x.c,.slice x.B x.m x.d] 126
     obtain ⟨gx,hgx⟩:∃ g,g=w3.heap.size:=⟨_,rfl⟩
     rw [←hgx] at K5
     have HXX:=hid hx
     clear K4 F4 g3 t3 hx
     have F5:=K5.facts
     simp only [zg] at F5
     rw [show x.val=.agg #[.int .i64 x.kind,.int .i64 x.op,.bool x.nt,.int .i64 x.v.k,.int .i64 x.v.i,.string x.v.s,.string x.tab,.string x.nm,.slice x.A x.n x.c,.slice x.B x.m x.d] from rfl]
     go_upto_region 6 with fail
     rw [←hgx]
     have HGX:=hid hgx
     clear hgx
     go_cut [40] (fun s9 wx=>∃ b:Bool,s9=.bool b∧(b=true→ok=true)∧Hold M (some T) w wx [.cst gx 126 #[.int .i64 x.kind,.int .i64 x.op,.bool x.nt,.int .i64 x.v.k,.int .i64 x.v.i,.string x.v.s,.string x.tab,.string x.nm,.slice x.A x.n x.c,.slice x.B x.m x.d],.blk gr 126 #[.int .i64 0,.int .i64 0,.bool false,.int .i64 0,.int .i64 0,.string ⟨#[]⟩,.string ⟨#[]⟩,.string ⟨#[]⟩,.slice none 0 0,.slice none 0 0],.cst gp 177 #[.slice fA fn fc,.slice sA sn sc],.ro (Zg ⟨⟨fA,fn,fc,fl⟩,⟨sA,sn,sc,sl⟩⟩),.ro Wds,.tp T])
     case first=>
      cases ok
      ·go_wp2_with fail
       all_goals (go_meet;exact ⟨false,rfl,fun h=>(nomatch h),K5⟩)
      ·go_wp2_with fail
       refine (Z8 T 3 _ (K5.tp_ 5 rfl) (by omega) (by omega)).mono ?_
       rintro e w4 ⟨b,rfl,t4,g4⟩
       have K6:=Hold.Zf K5 5 rfl g4 t4
       go_wp2_with fail
       all_goals (go_meet;exact ⟨!b,by first|rfl|simp,fun _=>(by first|trivial|rfl),K6⟩)
     case rest=>
      obtain ⟨b,rfl,hbok,K6⟩:=hcut
      have HBO:=hid hbok
      clear K5 F5 hbok
      cases b
      ·have K7:=K6.drop (List.sublist_cons_self _ _)
       clear K6
       go_wp2_with fail
       refine (Z8 T 8 _ (K7.tp_ 4 rfl) (by omega) (by omega)).mono ?_
       rintro e w4 ⟨b8,rfl,t4,g4⟩
       have K8:=Hold.Zf K7 4 rfl g4 t4
       clear K7 g4 t4
       cases b8
       ·by_cases h1:want=1
        ·have h1b:(want==1)=true:=by simp [h1]
         go_wp2_with fail
         all_goals first
          | (exfalso;contradiction)
          | skip
         refine (UT T _ (K8.tp_ 4 rfl)).mono ?_
         rintro e w5 ⟨z,rfl,z0,z1,t5,g5⟩
         have KB:=Hold.Zf K8 4 rfl g5 t5
         clear K8 g5 t5
         go_wp2_with fail
         refine (Wj _ _ KB.Zb z (by omega)).mono ?_
         rintro e w6 ⟨y,rfl,hy,ry,b6⟩
         have HY:=hid (Xz hy (by omega) (by omega))
         have KC:Hold M (some T) w w6 [.blk gr 126 #[.int .i64 0,.int .i64 0,.bool false,.int .i64 0,.int .i64 0,.string ⟨#[]⟩,.string ⟨#[]⟩,.string ⟨#[]⟩,.slice none 0 0,.slice none 0 0],.cst gp 177 #[.slice fA fn fc,.slice sA sn sc],.ro (Zg ⟨⟨fA,fn,fc,fl⟩,⟨sA,sn,sc,sl⟩⟩),.ro Wds,.tp T,.ro (ExIn 2 y)]:=((KB.call b6).add ry).pick [1,2,3,4,5,0] (by decide) rfl
         clear KB b6 ry hy
         have K9:=KC
         have F9:=K9.facts
         simp only [zg] at F9
         have KA:=((((((((((K9.store 0 rfl 0 (.int .i64 y.kind)).store 0 rfl 1 (.int .i64 y.op)).store 0 rfl 2 (.bool y.nt)).store 0 rfl 3 (.int .i64 y.v.k)).store 0 rfl 4 (.int .i64 y.v.i)).store 0 rfl 5 (.string y.v.s)).store 0 rfl 6 (.string y.tab)).store 0 rfl 7 (.string y.nm)).store 0 rfl 8 (.slice y.A y.n y.c)).store 0 rfl 9 (.slice y.B y.m y.d))
         simp only [zl] at KA
         have FA:=KA.facts
         simp only [zg] at FA
         have HR:=hid ((KA.ro 5 rfl).less zm)
         have HT:=hid (And.intro (KA.tp_ 4 rfl) KA.grow)
         rw [show y.val=.agg #[.int .i64 y.kind,.int .i64 y.op,.bool y.nt,.int .i64 y.v.k,.int .i64 y.v.i,.string y.v.s,.string y.tab,.string y.nm,.slice y.A y.n y.c,.slice y.B y.m y.d] from rfl]
         clear K9 KA
         go_wp2_with fail
         refine bodyPost_ret (v:=.agg #[.int .i64 y.kind,.int .i64 y.op,.bool y.nt,.int .i64 y.v.k,.int .i64 y.v.i,.string y.v.s,.string y.tab,.string y.nm,.slice y.A y.n y.c,.slice y.B y.m y.d]) ?_ rfl ?_
         ·clear HT HR
          simp [results,Tryz.results99,go_sem,FA]
         ·exact ⟨y,rfl,HY.out.le (by omega),HR.out.imp (fun w2 h2=>h2.le (by omega)),HT.out.1,HT.out.2⟩
        ·have h1b:(want==1)=false:=by simpa using h1
         go_wp2_with fail
         all_goals first
          | (exfalso;contradiction)
          | skip
         refine (UG T want _ (K8.tp_ 4 rfl) (K8.ro 3 rfl).now hT).mono ?_
         rintro e w5 ⟨vk,vi,vs,rfl,hv,hs,hvi,t5,-,g5⟩
         have KB:=Hold.Zf K8 4 rfl g5 t5
         have HVK:=hid (Gn hv)
         clear K8 g5 t5
         go_wp2_with fail
         refine (W9 _ ⟨vk,vi,vs⟩).mono ?_
         rintro e w6 ⟨rfl,b6⟩
         have KC:Hold M (some T) w w6 [.blk gr 126 #[.int .i64 0,.int .i64 0,.bool false,.int .i64 0,.int .i64 0,.string ⟨#[]⟩,.string ⟨#[]⟩,.string ⟨#[]⟩,.slice none 0 0,.slice none 0 0],.cst gp 177 #[.slice fA fn fc,.slice sA sn sc],.ro (Zg ⟨⟨fA,fn,fc,fl⟩,⟨sA,sn,sc,sl⟩⟩),.ro Wds,.tp T,.ro (ExIn 1 (Z4 ⟨vk,vi,vs⟩))]:=((KB.call b6).add (S:=ExIn 1 (Z4 ⟨vk,vi,vs⟩)) (fun w2 _ _=>WN _ _)).pick [1,2,3,4,5,0] (by decide) rfl
         clear KB b6
         have HY:=hid (WL ⟨vk,vi,vs⟩ HVK.out hvi)
         generalize Z4 ⟨vk,vi,vs⟩=y at *
         have K9:=KC
         have F9:=K9.facts
         simp only [zg] at F9
         have KA:=((((((((((K9.store 0 rfl 0 (.int .i64 y.kind)).store 0 rfl 1 (.int .i64 y.op)).store 0 rfl 2 (.bool y.nt)).store 0 rfl 3 (.int .i64 y.v.k)).store 0 rfl 4 (.int .i64 y.v.i)).store 0 rfl 5 (.string y.v.s)).store 0 rfl 6 (.string y.tab)).store 0 rfl 7 (.string y.nm)).store 0 rfl 8 (.slice y.A y.n y.c)).store 0 rfl 9 (.slice y.B y.m y.d))
         simp only [zl] at KA
         have FA:=KA.facts
         simp only [zg] at FA
         have HR:=hid ((KA.ro 5 rfl).less zm)
         have HT:=hid (And.intro (KA.tp_ 4 rfl) KA.grow)
         rw [show y.val=.agg #[.int .i64 y.kind,.int .i64 y.op,.bool y.nt,.int .i64 y.v.k,.int .i64 y.v.i,.string y.v.s,.string y.tab,.string y.nm,.slice y.A y.n y.c,.slice y.B y.m y.d] from rfl]
         clear K9 KA
         go_wp2_with fail
         refine bodyPost_ret (v:=.agg #[.int .i64 y.kind,.int .i64 y.op,.bool y.nt,.int .i64 y.v.k,.int .i64 y.v.i,.string y.v.s,.string y.tab,.string y.nm,.slice y.A y.n y.c,.slice y.B y.m y.d]) ?_ rfl ?_
         ·clear HT HR
          simp [results,Tryz.results99,go_sem,FA]
         ·exact ⟨y,rfl,HY.out.le (by omega),HR.out.imp (fun w2 h2=>h2.le (by omega)),HT.out.1,HT.out.2⟩
       ·go_wp2_with fail
        refine (W9 _ vlZ).mono ?_
        rintro e w6 ⟨rfl,b6⟩
        have KC:Hold M (some T) w w6 [.blk gr 126 #[.int .i64 0,.int .i64 0,.bool false,.int .i64 0,.int .i64 0,.string ⟨#[]⟩,.string ⟨#[]⟩,.string ⟨#[]⟩,.slice none 0 0,.slice none 0 0],.cst gp 177 #[.slice fA fn fc,.slice sA sn sc],.ro (Zg ⟨⟨fA,fn,fc,fl⟩,⟨sA,sn,sc,sl⟩⟩),.ro Wds,.tp T,.ro (ExIn 1 (Z4 vlZ))]:=((K8.call b6).add (S:=ExIn 1 (Z4 vlZ)) (fun w2 _ _=>WN _ _)).pick [1,2,3,4,5,0] (by decide) rfl
        clear K8 b6
        have HY:=hid (WL vlZ (Zw 0 (by decide)) (Zw 0 (by decide)))
        generalize Z4 vlZ=y at *
        have K9:=KC
        have F9:=K9.facts
        simp only [zg] at F9
        have KA:=((((((((((K9.store 0 rfl 0 (.int .i64 y.kind)).store 0 rfl 1 (.int .i64 y.op)).store 0 rfl 2 (.bool y.nt)).store 0 rfl 3 (.int .i64 y.v.k)).store 0 rfl 4 (.int .i64 y.v.i)).store 0 rfl 5 (.string y.v.s)).store 0 rfl 6 (.string y.tab)).store 0 rfl 7 (.string y.nm)).store 0 rfl 8 (.slice y.A y.n y.c)).store 0 rfl 9 (.slice y.B y.m y.d))
        simp only [zl] at KA
        have FA:=KA.facts
        simp only [zg] at FA
        have HR:=hid ((KA.ro 5 rfl).less zm)
        have HT:=hid (And.intro (KA.tp_ 4 rfl) KA.grow)
        rw [show y.val=.agg #[.int .i64 y.kind,.int .i64 y.op,.bool y.nt,.int .i64 y.v.k,.int .i64 y.v.i,.string y.v.s,.string y.tab,.string y.nm,.slice y.A y.n y.c,.slice y.B y.m y.d] from rfl]
        clear K9 KA
        go_wp2_with fail
        refine bodyPost_ret (v:=.agg #[.int .i64 y.kind,.int .i64 y.op,.bool y.nt,.int .i64 y.v.k,.int .i64 y.v.i,.string y.v.s,.string y.tab,.string y.nm,.slice y.A y.n y.c,.slice y.B y.m y.d]) ?_ rfl ?_
        ·clear HT HR
         simp [results,Tryz.results99,go_sem,FA]
        ·exact ⟨y,rfl,HY.out.le (by omega),HR.out.imp (fun w2 h2=>h2.le (by omega)),HT.out.1,HT.out.2⟩
      ·skip
       have F6:=K6.facts
       simp only [zg] at F6
       have K7:=((((((((((K6.store 1 rfl 0 (.int .i64 x.kind)).store 1 rfl 1 (.int .i64 x.op)).store 1 rfl 2 (.bool x.nt)).store 1 rfl 3 (.int .i64 x.v.k)).store 1 rfl 4 (.int .i64 x.v.i)).store 1 rfl 5 (.string x.v.s)).store 1 rfl 6 (.string x.tab)).store 1 rfl 7 (.string x.nm)).store 1 rfl 8 (.slice x.A x.n x.c)).store 1 rfl 9 (.slice x.B x.m x.d))
       simp only [zl] at K7
       have F7:=K7.facts
       simp only [zg] at F7
       have HT:=hid (And.intro (K7.tp_ 5 rfl) K7.grow)
       clear K6 K7
       go_wp2_with fail
       refine bodyPost_ret (v:=.agg #[.int .i64 x.kind,.int .i64 x.op,.bool x.nt,.int .i64 x.v.k,.int .i64 x.v.i,.string x.v.s,.string x.tab,.string x.nm,.slice x.A x.n x.c,.slice x.B x.m x.d]) ?_ rfl ?_
       ·clear HT
        simp [results,Tryz.results99,go_sem,F7]
       ·refine ⟨x,rfl,?_,?_,HT.out.1,HT.out.2⟩
        ·rcases HXX.out with ⟨h1,rfl⟩|⟨ct,cn,rfl⟩
         ·have h2:ok=true:=(by simpa using HBO.out);rw [h2] at h1;exact absurd h1 (by decide)
         ·exact (Xu ct cn).le (by omega)
        ·rcases HXX.out with ⟨h1,rfl⟩|⟨ct,cn,rfl⟩
         ·exact fun w2 _ _=>(J3 w2).le (by omega)
         ·exact fun w2 _ _=>(XA ct cn w2).le (by omega)
    ·have hd1:1≤depth:=by omega
     have hq3:q<3:=by omega
     have hlb:decide (depth≤0∨3≤q)=false:=by simpa using hleaf
     obtain ⟨m,rfl⟩:∃ m,n=m+1:=⟨n - 1,by omega⟩
     have HQ:=hQ (by omega)
     have HC:=hC (by omega)
     have HE:=hE m rfl
     have F4:=K4.facts
     simp only [zg] at F4
     by_cases hw2:want=2
     ·subst hw2
      by_cases hqs:q=0∧0<sn
      ·obtain ⟨rfl,hs0⟩:=hqs
       have hsb:decide (0<sn)=true:=by simpa using hs0
       go_wp2_with fail
       refine (Z8 T 2 _ (K4.tp_ 4 rfl) (by omega) (by omega)).mono ?_
       rintro e w4 ⟨b2,rfl,t4,g4⟩
       have K5:=Hold.Zf K4 4 rfl g4 t4
       clear K4 F4 g4 t4
       have F5:=K5.facts
       simp only [zg] at F5
       cases b2
       ·go_wp2_with fail
        refine (HC (Mut M _) T _ K5.Zb (K5.tp_ 4 rfl) (K5.get 4 rfl).2 ⟨⟨fA,fn,fc,fl⟩,⟨sA,sn,sc,sl⟩⟩ depth ((K5.ro 2 rfl).less (Zk (i:=4) rfl)) ((K5.ro 3 rfl).less (Zk (i:=4) rfl)) hT HBB.out hd hd1).mono ?_
        rintro e w5 ⟨y,rfl,hy,ry,tY,gY⟩
        have HY:=hid hy
        have KC:Hold M (some T) w w5 [.blk gr 126 #[.int .i64 0,.int .i64 0,.bool false,.int .i64 0,.int .i64 0,.string ⟨#[]⟩,.string ⟨#[]⟩,.string ⟨#[]⟩,.slice none 0 0,.slice none 0 0],.cst gp 177 #[.slice fA fn fc,.slice sA sn sc],.ro (Zg ⟨⟨fA,fn,fc,fl⟩,⟨sA,sn,sc,sl⟩⟩),.ro Wds,.tp T,.ro (ExIn (m+1+2) y)]:=((Hold.Zf K5 4 rfl gY tY).add ry).pick [1,2,3,4,5,0] (by decide) rfl
        clear K5 hy ry tY gY
        have K9:=KC
        have F9:=K9.facts
        simp only [zg] at F9
        have KA:=((((((((((K9.store 0 rfl 0 (.int .i64 y.kind)).store 0 rfl 1 (.int .i64 y.op)).store 0 rfl 2 (.bool y.nt)).store 0 rfl 3 (.int .i64 y.v.k)).store 0 rfl 4 (.int .i64 y.v.i)).store 0 rfl 5 (.string y.v.s)).store 0 rfl 6 (.string y.tab)).store 0 rfl 7 (.string y.nm)).store 0 rfl 8 (.slice y.A y.n y.c)).store 0 rfl 9 (.slice y.B y.m y.d))
        simp only [zl] at KA
        have FA:=KA.facts
        simp only [zg] at FA
        have HR:=hid ((KA.ro 5 rfl).less zm)
        have HT:=hid (And.intro (KA.tp_ 4 rfl) KA.grow)
        rw [show y.val=.agg #[.int .i64 y.kind,.int .i64 y.op,.bool y.nt,.int .i64 y.v.k,.int .i64 y.v.i,.string y.v.s,.string y.tab,.string y.nm,.slice y.A y.n y.c,.slice y.B y.m y.d] from rfl]
        clear K9 KA
        go_wp2_with fail
        refine bodyPost_ret (v:=.agg #[.int .i64 y.kind,.int .i64 y.op,.bool y.nt,.int .i64 y.v.k,.int .i64 y.v.i,.string y.v.s,.string y.tab,.string y.nm,.slice y.A y.n y.c,.slice y.B y.m y.d]) ?_ rfl ?_
        ·clear HT HR
         simp [results,Tryz.results99,go_sem,FA]
        ·exact ⟨y,rfl,HY.out,HR.out.imp (fun w2 h2=>h2.le (by omega)),HT.out.1,HT.out.2⟩
       ·go_wp2_with fail
        refine (HQ (Mut M _) T _ K5.Zb (K5.tp_ 4 rfl) (K5.get 4 rfl).2 ⟨⟨fA,fn,fc,fl⟩,⟨sA,sn,sc,sl⟩⟩ 8 depth ((K5.ro 2 rfl).less (Zk (i:=4) rfl)) ((K5.ro 3 rfl).less (Zk (i:=4) rfl)) hT HBB.out hd hd1 hs0 (Zw 8 (by decide)) (by decide)).mono ?_
        rintro e w5 ⟨y,rfl,hy,ry,tY,gY⟩
        have HY:=hid hy
        have KC:Hold M (some T) w w5 [.blk gr 126 #[.int .i64 0,.int .i64 0,.bool false,.int .i64 0,.int .i64 0,.string ⟨#[]⟩,.string ⟨#[]⟩,.string ⟨#[]⟩,.slice none 0 0,.slice none 0 0],.cst gp 177 #[.slice fA fn fc,.slice sA sn sc],.ro (Zg ⟨⟨fA,fn,fc,fl⟩,⟨sA,sn,sc,sl⟩⟩),.ro Wds,.tp T,.ro (ExIn (m+1+2) y)]:=((Hold.Zf K5 4 rfl gY tY).add ry).pick [1,2,3,4,5,0] (by decide) rfl
        clear K5 hy ry tY gY
        have K9:=KC
        have F9:=K9.facts
        simp only [zg] at F9
        have KA:=((((((((((K9.store 0 rfl 0 (.int .i64 y.kind)).store 0 rfl 1 (.int .i64 y.op)).store 0 rfl 2 (.bool y.nt)).store 0 rfl 3 (.int .i64 y.v.k)).store 0 rfl 4 (.int .i64 y.v.i)).store 0 rfl 5 (.string y.v.s)).store 0 rfl 6 (.string y.tab)).store 0 rfl 7 (.string y.nm)).store 0 rfl 8 (.slice y.A y.n y.c)).store 0 rfl 9 (.slice y.B y.m y.d))
        simp only [zl] at KA
        have FA:=KA.facts
        simp only [zg] at FA
        have HR:=hid ((KA.ro 5 rfl).less zm)
        have HT:=hid (And.intro (KA.tp_ 4 rfl) KA.grow)
        rw [show y.val=.agg #[.int .i64 y.kind,.int .i64 y.op,.bool y.nt,.int .i64 y.v.k,.int .i64 y.v.i,.string y.v.s,.string y.tab,.string y.nm,.slice y.A y.n y.c,.slice y.B y.m y.d] from rfl]
        clear K9 KA
        go_wp2_with fail
        refine bodyPost_ret (v:=.agg #[.int .i64 y.kind,.int .i64 y.op,.bool y.nt,.int .i64 y.v.k,.int .i64 y.v.i,.string y.v.s,.string y.tab,.string y.nm,.slice y.A y.n y.c,.slice y.B y.m y.d]) ?_ rfl ?_
        ·clear HT HR
         simp [results,Tryz.results99,go_sem,FA]
        ·exact ⟨y,rfl,HY.out,HR.out.imp (fun w2 h2=>h2.le (by omega)),HT.out.1,HT.out.2⟩
      ·have hqb:((q==0)&&decide (0<sn))=false:=by
        rw [Bool.eq_false_iff]
        intro h
        simp only [Bool.and_eq_true,beq_iff_eq,decide_eq_true_eq] at h
        exact hqs h
       go_wp2_with fail
       all_goals
        clear F4
        refine (HC (Mut M _) T _ K4.Zb (K4.tp_ 4 rfl) (K4.get 4 rfl).2 ⟨⟨fA,fn,fc,fl⟩,⟨sA,sn,sc,sl⟩⟩ depth ((K4.ro 2 rfl).less (Zk (i:=4) rfl)) ((K4.ro 3 rfl).less (Zk (i:=4) rfl)) hT HBB.out hd hd1).mono ?_
        rintro e w5 ⟨y,rfl,hy,ry,tY,gY⟩
        have HY:=hid hy
        have KC:Hold M (some T) w w5 [.blk gr 126 #[.int .i64 0,.int .i64 0,.bool false,.int .i64 0,.int .i64 0,.string ⟨#[]⟩,.string ⟨#[]⟩,.string ⟨#[]⟩,.slice none 0 0,.slice none 0 0],.cst gp 177 #[.slice fA fn fc,.slice sA sn sc],.ro (Zg ⟨⟨fA,fn,fc,fl⟩,⟨sA,sn,sc,sl⟩⟩),.ro Wds,.tp T,.ro (ExIn (m+1+2) y)]:=((Hold.Zf K4 4 rfl gY tY).add ry).pick [1,2,3,4,5,0] (by decide) rfl
        clear K4 hy ry tY gY
        have K9:=KC
        have F9:=K9.facts
        simp only [zg] at F9
        have KA:=((((((((((K9.store 0 rfl 0 (.int .i64 y.kind)).store 0 rfl 1 (.int .i64 y.op)).store 0 rfl 2 (.bool y.nt)).store 0 rfl 3 (.int .i64 y.v.k)).store 0 rfl 4 (.int .i64 y.v.i)).store 0 rfl 5 (.string y.v.s)).store 0 rfl 6 (.string y.tab)).store 0 rfl 7 (.string y.nm)).store 0 rfl 8 (.slice y.A y.n y.c)).store 0 rfl 9 (.slice y.B y.m y.d))
        simp only [zl] at KA
        have FA:=KA.facts
        simp only [zg] at FA
        have HR:=hid ((KA.ro 5 rfl).less zm)
        have HT:=hid (And.intro (KA.tp_ 4 rfl) KA.grow)
        rw [show y.val=.agg #[.int .i64 y.kind,.int .i64 y.op,.bool y.nt,.int .i64 y.v.k,.int .i64 y.v.i,.string y.v.s,.string y.tab,.string y.nm,.slice y.A y.n y.c,.slice y.B y.m y.d] from rfl]
        clear K9 KA
        go_wp2_with fail
        refine bodyPost_ret (v:=.agg #[.int .i64 y.kind,.int .i64 y.op,.bool y.nt,.int .i64 y.v.k,.int .i64 y.v.i,.string y.v.s,.string y.tab,.string y.nm,.slice y.A y.n y.c,.slice y.B y.m y.d]) ?_ rfl ?_
        ·clear HT HR
         simp [results,Tryz.results99,go_sem,FA]
        ·exact ⟨y,rfl,HY.out,HR.out.imp (fun w2 h2=>h2.le (by omega)),HT.out.1,HT.out.2⟩
     ·by_cases hw1:want=1
      ·subst hw1
       have HBE:=hid (show PlN m ⟨⟨fA,fn,fc,fl⟩,⟨sA,sn,sc,sl⟩⟩ from ⟨HBB.out.b,by have:=HBB.out.n;omega,fun _=>trivial⟩)
       by_cases hqs:q=0∧0<sn
       ·obtain ⟨rfl,hs0⟩:=hqs
        have hsb:decide (0<sn)=true:=by simpa using hs0
        obtain ⟨KL,hKL⟩:∃ KL:List Hp,KL=[.blk gr 126 #[.int .i64 0,.int .i64 0,.bool false,.int .i64 0,.int .i64 0,.string ⟨#[]⟩,.string ⟨#[]⟩,.string ⟨#[]⟩,.slice none 0 0,.slice none 0 0],.cst gp 177 #[.slice fA fn fc,.slice sA sn sc],.ro (Zg ⟨⟨fA,fn,fc,fl⟩,⟨sA,sn,sc,sl⟩⟩),.ro Wds,.tp T]:=⟨_,rfl⟩
        have hcast:∀ (L1:List Hp) (wz:World),Hold M (some T) w wz L1→L1=KL→Hold M (some T) w wz KL:=fun _ _ h e=>e ▸ h
        have K5:=hcast _ _ K4 hKL.symm
        have H1:∀ wv:World,Hold M (some T) w wv KL→Blk wv gp 177 #[.slice fA fn fc,.slice sA sn sc]:=fun wv h=>by rw [hKL] at h;exact h.ZB 1 rfl
        have H2:∀ wv:World,Hold M (some T) w wv KL→Ro wv (Mut M KL) (Zg ⟨⟨fA,fn,fc,fl⟩,⟨sA,sn,sc,sl⟩⟩)∧Ro wv (Mut M KL) Wds∧Tp wv T∧∀ b,(Mut M KL) b→T≤b:=fun wv h=>by rw [hKL] at h ⊢;exact ⟨h.ro 2 rfl,h.ro 3 rfl,h.tp_ 4 rfl,(h.get 4 rfl).2⟩
        have h4:KL[4]? =some (.tp T):=by rw [hKL];rfl
        have HH1:=hid H1
        have HH2:=hid H2
        have HH4:=hid h4
        have HKL:=hid hKL
        clear hKL hcast H1 H2 h4 K4
        go_wp2_with fail
        clear F4
        refine wp_region_any (by kernel_rfl) ?_
        refine Zp 7 135 (KL) (spL [(70,fun u _=>Yt 4 u),(73,Zh (Mut M KL) (m+1+2))]) (by kernel_rfl) (by kernel_rfl) (by kernel_rfl) rfl ?_ (K5.drew) ?_
        ·exact Ze (fun _ _ _ _ h=>h) (Ze Yj (Zo _))
        simp only [zd,Act.put,List.getElem_toArray,List.getElem_cons_zero,List.getElem_cons_succ,zl]
        refine' dv rfl rfl rfl (fun wv HC=>?_) ?_;rotate_left
        · go_simp<;>rfl
        simp only [Act.put,zl]
        refine' dv rfl rfl rfl (fun wv HC=>?_) ?_;rotate_left
        ·obtain q0:=(HH1.out _ HC).cell 0;obtain q1:=(HH1.out _ HC).cell 1;go_simp<;>rfl
        simp only [Act.put,zl]
        refine' dv rfl rfl rfl (fun wv HC=>?_) ?_;rotate_left
        · go_simp<;>rfl
        simp only [Act.put,zl]
        refine Yz 4 4 HH4.out 70 rfl rfl rfl rfl (fun wv=>?_) (fun r hr=>?_)
        ·go_simp<;>rfl
        have r4:(r:Int)<4:=by omega
        have r0:(0:Int)≤(r:Int):=by omega
        have hw9:IntKind.i64.wrap (9+(r:Int))=9+r:=IntWalk.i64_in _ (by omega)
        iterate 2
         refine' dv rfl rfl rfl (fun wv HC=>?_) ?_;rotate_left
         · go_simp<;>rfl
         simp only [Act.put,zl]
        refine Zm 73 (Zh (Mut M KL) (m+1+2)) (f:=155) (args:=#[.pointer (some ⟨T,0,none⟩),.agg #[.slice fA fn fc,.slice sA sn sc],.int .i64 (9+r),.int .i64 depth]) rfl rfl rfl rfl (fun wv=>?_) (fun wv HC hrm hD=>?_) ?_
        ·go_simp<;>rfl
        ·obtain ⟨X0,X1,X2,X3⟩:=HH2.out _ HC
         refine (HQ (Mut M KL) T wv HC.Zb X2 X3 ⟨⟨fA,fn,fc,fl⟩,⟨sA,sn,sc,sl⟩⟩ (9+r) depth (X0.less (Zk HH4.out)) (X1.less (Zk HH4.out)) hT HBB.out hd (by omega) hs0 ⟨by omega,by omega⟩ (by omega)).mono ?_
         rintro e w5 ⟨x,rfl,hx,rx,t5,g5⟩
         exact ⟨_,rfl,⟨x,rfl,hx,rx⟩,Hold.Zf HC 4 HH4.out g5 t5,RM.grown g5 (.inr ⟨_,List.mem_of_getElem? HH4.out,rfl⟩)⟩
        rintro u wx HCx ⟨x,rfl,hx,rx⟩
        clear HCx hx rx
        simp only [Act.put,zl]
        refine Zj ?_
        rintro wx2 HX
        rintro _hrm HG
        have hu:Zh (Mut M KL) (m+1+2) x.val wx2:=(Zl (d:=73) rfl).1 (HG 6 _ rfl (by omega))
        clear HG _hrm
        obtain ⟨y,hy,hok,hro⟩:=hu
        rw [HKL.out] at HX hro
        have KC:Hold M (some T) w wx2 [.blk gr 126 #[.int .i64 0,.int .i64 0,.bool false,.int .i64 0,.int .i64 0,.string ⟨#[]⟩,.string ⟨#[]⟩,.string ⟨#[]⟩,.slice none 0 0,.slice none 0 0],.cst gp 177 #[.slice fA fn fc,.slice sA sn sc],.ro (Zg ⟨⟨fA,fn,fc,fl⟩,⟨sA,sn,sc,sl⟩⟩),.ro Wds,.tp T,.ro (ExIn (m+1+2) y)]:=(HX.add hro).pick [1,2,3,4,5,0] (by decide) rfl
        clear HX hro
        have HY:=hid hok
        clear hok
        rw [hy]
        clear hy x
        have _hh:=HY
        rw [show y.val=.agg #[.int .i64 y.kind,.int .i64 y.op,.bool y.nt,.int .i64 y.v.k,.int .i64 y.v.i,.string y.v.s,.string y.tab,.string y.nm,.slice y.A y.n y.c,.slice y.B y.m y.d] from rfl]
        have K9:=KC
        have F9:=K9.facts
        simp only [zg] at F9
        have KA:=((((((((((K9.store 0 rfl 0 (.int .i64 y.kind)).store 0 rfl 1 (.int .i64 y.op)).store 0 rfl 2 (.bool y.nt)).store 0 rfl 3 (.int .i64 y.v.k)).store 0 rfl 4 (.int .i64 y.v.i)).store 0 rfl 5 (.string y.v.s)).store 0 rfl 6 (.string y.tab)).store 0 rfl 7 (.string y.nm)).store 0 rfl 8 (.slice y.A y.n y.c)).store 0 rfl 9 (.slice y.B y.m y.d))
        simp only [zl] at KA
        have FA:=KA.facts
        simp only [zg] at FA
        have HR:=hid ((KA.ro 5 rfl).less zm)
        have HT:=hid (And.intro (KA.tp_ 4 rfl) KA.grow)
        clear K9 KA
        go_wp2_with fail
        refine bodyPost_ret (v:=.agg #[.int .i64 y.kind,.int .i64 y.op,.bool y.nt,.int .i64 y.v.k,.int .i64 y.v.i,.string y.v.s,.string y.tab,.string y.nm,.slice y.A y.n y.c,.slice y.B y.m y.d]) ?_ rfl ?_
        ·clear HT HR
         simp [results,Tryz.results99,go_sem,FA]
        ·exact ⟨y,rfl,HY.out.le (by omega),HR.out.imp (fun w2 h2=>h2.le (by omega)),HT.out.1,HT.out.2⟩
       ·go_wp2_with fail
        all_goals
         refine (Z8 T 6 _ (K4.tp_ 4 rfl) (by omega) (by omega)).mono ?_
         rintro e w4 ⟨b6,rfl,t4,g4⟩
         have K5:=Hold.Zf K4 4 rfl g4 t4
         clear K4 F4 g4 t4
         have hs1:IntKind.i64.wrap (depth - 1)=depth - 1:=IntWalk.i64_in _ (by have:=HBB.out.n;omega)
         have F5:=K5.facts
         simp only [zg] at F5
         cases b6
         ·obtain ⟨KL,hKL⟩:∃ KL:List Hp,KL=[.blk gr 126 #[.int .i64 0,.int .i64 0,.bool false,.int .i64 0,.int .i64 0,.string ⟨#[]⟩,.string ⟨#[]⟩,.string ⟨#[]⟩,.slice none 0 0,.slice none 0 0],.cst gp 177 #[.slice fA fn fc,.slice sA sn sc],.ro (Zg ⟨⟨fA,fn,fc,fl⟩,⟨sA,sn,sc,sl⟩⟩),.ro Wds,.tp T]:=⟨_,rfl⟩
          have hcast:∀ (L1:List Hp) (wz:World),Hold M (some T) w wz L1→L1=KL→Hold M (some T) w wz KL:=fun _ _ h e=>e ▸ h
          have K6:=hcast _ _ K5 hKL.symm
          have H1:∀ wv:World,Hold M (some T) w wv KL→Blk wv gp 177 #[.slice fA fn fc,.slice sA sn sc]:=fun wv h=>by rw [hKL] at h;exact h.ZB 1 rfl
          have H2:∀ wv:World,Hold M (some T) w wv KL→Ro wv (Mut M KL) (Zg ⟨⟨fA,fn,fc,fl⟩,⟨sA,sn,sc,sl⟩⟩)∧Ro wv (Mut M KL) Wds∧Tp wv T∧∀ b,(Mut M KL) b→T≤b:=fun wv h=>by rw [hKL] at h ⊢;exact ⟨h.ro 2 rfl,h.ro 3 rfl,h.tp_ 4 rfl,(h.get 4 rfl).2⟩
          have h4:KL[4]? =some (.tp T):=by rw [hKL];rfl
          have HH1:=hid H1
          have HH2:=hid H2
          have HH4:=hid h4
          have HKL:=hid hKL
          clear hKL hcast H1 H2 h4 K5
          go_wp2_with fail
          clear F5
          refine wp_region_any (by kernel_rfl) ?_
          refine Zp 17 135 (KL) (spL [(107,IntsSlot (Mut M KL) 6 [9,10,11,9,12,13]),(109,fun u _=>Yt 6 u),(110,VF (Mut M KL) I64),(111,Qg I64),(117,Zh (Mut M KL) (m+2)),(123,Zh (Mut M KL) (m+2))]) (by kernel_rfl) (by kernel_rfl) (by kernel_rfl) rfl ?_ (K6.drew) ?_
          ·exact Ze Zfe (Ze (fun _ _ _ _ h=>h) (Ze ZhS (Ze ZcP (Ze Yj (Ze Yj (Zo _))))))
          simp only [zd,Act.put,List.getElem_toArray,List.getElem_cons_zero,List.getElem_cons_succ,zl]
          refine Ye #[.int .i64 9,.int .i64 10,.int .i64 11,.int .i64 9,.int .i64 12,.int .i64 13] 3 107 (IntsSlot (Mut M KL) 6 [9,10,11,9,12,13]) (fun g=>.slice (some ⟨g,0,none⟩) 6 6) rfl rfl rfl rfl (fun wv=>?_) (fun wv HC _hrm hD hro=>?_) ?_
          ·go_simp<;>rfl
          ·exact ⟨_,rfl,rfl,ZL (hro _ HC.Zb) rfl⟩
          rintro g21 wg HCg hg21
          simp only [Act.put,zl]
          clear HCg hg21
          refine' dv rfl rfl rfl (fun wv HC=>?_) ?_;rotate_left
          · go_simp<;>rfl
          simp only [Act.put,zl]
          refine Yz 6 4 HH4.out 109 rfl rfl rfl rfl (fun wv=>?_) (fun r hr=>?_)
          ·go_simp<;>rfl
          have r6:(r:Int)<6:=by omega
          have r0:(0:Int)≤(r:Int):=by omega
          simp only [Act.put,zl]
          refine Va 110 (VF (Mut M KL) I64) rfl rfl rfl rfl (fun wv HC hD=>?_) ?_
          ·have ha:IntsSlot (Mut M KL) 6 [9,10,11,9,12,13] (.slice (some ⟨g21,0,none⟩) 6 6) wv:=ZM hD 0 rfl (by kernel_rfl) rfl rfl
           refine ⟨.pointer (some ⟨g21,r,none⟩),?_,ha.cell (by intro z hz;simp only [List.mem_cons,List.not_mem_nil,or_false] at hz;rcases hz with rfl|rfl|rfl|rfl|rfl|rfl<;>exact Zw _ (by decide)) hr⟩
           go_simp
          rintro u wx HCx ⟨gz,oz,zz,rfl,hz,-⟩
          clear HCx hz
          simp only [Act.put,zl]
          refine Va 111 (Qg I64) rfl rfl rfl rfl (fun wv HC hD=>?_) ?_
          ·obtain ⟨g',o',z,e',hz,hc⟩:VF (Mut M KL) I64 (.pointer (some ⟨gz,oz,none⟩)) wv:=ZM hD 3 rfl (by kernel_rfl) rfl rfl
           obtain ⟨rfl,rfl⟩:gz=g' ∧oz=o' :=by injection e' with e';injection e' with e';injection e' with e1 e2;exact ⟨e1,e2⟩
           have hc0:=hc.now
           refine ⟨.int .i64 z,?_,⟨z,rfl,hz⟩⟩
           go_simp
          rintro u wx HCx ⟨zop,rfl,hzop⟩
          clear HCx
          have HZOP:=hid hzop
          clear hzop
          simp only [Act.put,zl]
          refine' dv rfl rfl rfl (fun wv HC=>?_) ?_;rotate_left
          · go_simp<;>rfl
          simp only [Act.put,zl]
          refine' dv rfl rfl rfl (fun wv HC=>?_) ?_;rotate_left
          ·obtain q0:=(HH1.out _ HC).cell 0;obtain q1:=(HH1.out _ HC).cell 1;go_simp<;>rfl
          iterate 3
           simp only [Act.put,zl]
           refine' dv rfl rfl rfl (fun wv HC=>?_) ?_;rotate_left
           · go_simp<;>rfl
          simp only [Act.put,zl]
          refine Zm 117 (Zh (Mut M KL) (m+2)) (f:=99) (args:=#[.pointer (some ⟨T,0,none⟩),.agg #[.slice fA fn fc,.slice sA sn sc],.int .i64 1,.int .i64 (depth - 1)]) rfl rfl rfl rfl (fun wv=>?_) (fun wv HC hrm hD=>?_) ?_
          ·go_simp<;>rfl
          ·obtain ⟨X0,X1,X2,X3⟩:=HH2.out _ HC
           refine (HE (Mut M KL) T wv HC.Zb X2 X3 ⟨⟨fA,fn,fc,fl⟩,⟨sA,sn,sc,sl⟩⟩ 1 (depth - 1) (X0.less (Zk HH4.out)) (X1.less (Zk HH4.out)) hT HBE.out (by omega) (by omega)).mono ?_
           rintro e w5 ⟨x,rfl,hx,rx,t5,g5⟩
           exact ⟨_,rfl,⟨x,rfl,hx,rx⟩,Hold.Zf HC 4 HH4.out g5 t5,RM.grown g5 (.inr ⟨_,List.mem_of_getElem? HH4.out,rfl⟩)⟩
          rintro u wx HCx ⟨x,rfl,hx,rx⟩
          clear HCx hx rx
          simp only [Act.put,zl]
          refine' dv rfl rfl rfl (fun wv HC=>?_) ?_;rotate_left
          · go_simp<;>rfl
          simp only [Act.put,zl]
          refine' dv rfl rfl rfl (fun wv HC=>?_) ?_;rotate_left
          ·obtain q0:=(HH1.out _ HC).cell 0;obtain q1:=(HH1.out _ HC).cell 1;go_simp<;>rfl
          iterate 3
           simp only [Act.put,zl]
           refine' dv rfl rfl rfl (fun wv HC=>?_) ?_;rotate_left
           · go_simp<;>rfl
          simp only [Act.put,zl]
          refine Zm 123 (Zh (Mut M KL) (m+2)) (f:=99) (args:=#[.pointer (some ⟨T,0,none⟩),.agg #[.slice fA fn fc,.slice sA sn sc],.int .i64 1,.int .i64 (depth - 1)]) rfl rfl rfl rfl (fun wv=>?_) (fun wv HC hrm hD=>?_) ?_
          ·go_simp<;>rfl
          ·obtain ⟨X0,X1,X2,X3⟩:=HH2.out _ HC
           refine (HE (Mut M KL) T wv HC.Zb X2 X3 ⟨⟨fA,fn,fc,fl⟩,⟨sA,sn,sc,sl⟩⟩ 1 (depth - 1) (X0.less (Zk HH4.out)) (X1.less (Zk HH4.out)) hT HBE.out (by omega) (by omega)).mono ?_
           rintro e w5 ⟨x,rfl,hx,rx,t5,g5⟩
           exact ⟨_,rfl,⟨x,rfl,hx,rx⟩,Hold.Zf HC 4 HH4.out g5 t5,RM.grown g5 (.inr ⟨_,List.mem_of_getElem? HH4.out,rfl⟩)⟩
          rintro u wx HCx ⟨x2,rfl,hx,rx⟩
          clear HCx hx rx
          simp only [Act.put,zl]
          refine Zj ?_
          rintro wx2 HX
          rintro _hrm HG
          have hu:Zh (Mut M KL) (m+2) x.val wx2:=(Zl (d:=117) rfl).1 (HG 10 _ rfl (by omega))
          have hu2:Zh (Mut M KL) (m+2) x2.val wx2:=(Zl (d:=123) rfl).1 (HG 16 _ rfl (by omega))
          clear HG _hrm
          obtain ⟨y1,hy1,hok1,hro1⟩:=hu
          obtain ⟨y2,hy2,hok2,hro2⟩:=hu2
          rw [HKL.out] at HX hro1 hro2
          have HYA:=hid (YU (d:=m+2) (kind:=5) (op:=zop) (nt:=false) (g:=0) (k:=2) (l:=[y1,y2]) (Zw 5 (by decide)) HZOP.out (by omega) (fun z hz=>by
           simp only [List.mem_cons,List.not_mem_nil,or_false] at hz
           rcases hz with rfl|rfl
           ·exact hok1
           ·exact hok2))
          clear hok1 hok2
          rw [hy1,hy2]
          clear hy1 hy2 x x2
          rw [show y1.val=.agg #[.int .i64 y1.kind,.int .i64 y1.op,.bool y1.nt,.int .i64 y1.v.k,.int .i64 y1.v.i,.string y1.v.s,.string y1.tab,.string y1.nm,.slice y1.A y1.n y1.c,.slice y1.B y1.m y1.d] from rfl]
          rw [show y2.val=.agg #[.int .i64 y2.kind,.int .i64 y2.op,.bool y2.nt,.int .i64 y2.v.k,.int .i64 y2.v.i,.string y2.v.s,.string y2.tab,.string y2.nm,.slice y2.A y2.n y2.c,.slice y2.B y2.m y2.d] from rfl]
          go_wp2_with fail
          refine (XJ (Mut M _) _ HX.Zb zop y1 y2 (m+2) hro1 hro2).mono ?_
          rintro e w6 ⟨g6,rfl,ry,b6⟩
          have HYB:=hid (show ExGd (m+1+2) (opE 5 zop false g6 2 [y1,y2]) from HYA.out)
          generalize opE 5 zop false g6 2 [y1,y2]=y at *
          have HY:=HYB
          have KC:Hold M (some T) w w6 [.blk gr 126 #[.int .i64 0,.int .i64 0,.bool false,.int .i64 0,.int .i64 0,.string ⟨#[]⟩,.string ⟨#[]⟩,.string ⟨#[]⟩,.slice none 0 0,.slice none 0 0],.cst gp 177 #[.slice fA fn fc,.slice sA sn sc],.ro (Zg ⟨⟨fA,fn,fc,fl⟩,⟨sA,sn,sc,sl⟩⟩),.ro Wds,.tp T,.ro (ExIn (m+2+1) y)]:=((HX.call b6).add ry).pick [1,2,3,4,5,0] (by decide) rfl
          clear HX hro1 hro2 ry b6 HYA HYB
          rw [show y.val=.agg #[.int .i64 y.kind,.int .i64 y.op,.bool y.nt,.int .i64 y.v.k,.int .i64 y.v.i,.string y.v.s,.string y.tab,.string y.nm,.slice y.A y.n y.c,.slice y.B y.m y.d] from rfl]
          have F9:=KC.facts
          simp only [zg] at F9
          have KA:=((((((((((KC.store 0 rfl 0 (.int .i64 y.kind)).store 0 rfl 1 (.int .i64 y.op)).store 0 rfl 2 (.bool y.nt)).store 0 rfl 3 (.int .i64 y.v.k)).store 0 rfl 4 (.int .i64 y.v.i)).store 0 rfl 5 (.string y.v.s)).store 0 rfl 6 (.string y.tab)).store 0 rfl 7 (.string y.nm)).store 0 rfl 8 (.slice y.A y.n y.c)).store 0 rfl 9 (.slice y.B y.m y.d))
          simp only [zl] at KA
          have FA:=KA.facts
          simp only [zg] at FA
          have HR:=hid ((KA.ro 5 rfl).less zm)
          have HT:=hid (And.intro (KA.tp_ 4 rfl) KA.grow)
          clear KC KA
          go_wp2_with fail
          refine bodyPost_ret (v:=.agg #[.int .i64 y.kind,.int .i64 y.op,.bool y.nt,.int .i64 y.v.k,.int .i64 y.v.i,.string y.v.s,.string y.tab,.string y.nm,.slice y.A y.n y.c,.slice y.B y.m y.d]) ?_ rfl ?_
          ·clear HT HR
           simp [results,Tryz.results99,go_sem,FA]
          ·exact ⟨y,rfl,HY.out.le (by omega),HR.out.imp (fun w2 h2=>h2.le (by omega)),HT.out.1,HT.out.2⟩
         ·go_wp2_with fail
          refine (HE (Mut M _) T _ K5.Zb (K5.tp_ 4 rfl) (K5.get 4 rfl).2 ⟨⟨fA,fn,fc,fl⟩,⟨sA,sn,sc,sl⟩⟩ 1 (depth - 1) ((K5.ro 2 rfl).less (Zk (i:=4) rfl)) ((K5.ro 3 rfl).less (Zk (i:=4) rfl)) hT HBE.out (by omega) (by omega)).mono ?_
          rintro e w5 ⟨x,rfl,hx,rx,tY,gY⟩
          have K7:=((Hold.Zf K5 4 rfl gY tY).add rx).Za #[.int .i64 x.kind,.int .i64 x.op,.bool x.nt,.int .i64 x.v.k,.int .i64 x.v.i,.string x.v.s,.string x.tab,.string x.nm,.slice x.A x.n x.c,.slice x.B x.m x.d] 126
          rw [show x.val=.agg #[.int .i64 x.kind,.int .i64 x.op,.bool x.nt,.int .i64 x.v.k,.int .i64 x.v.i,.string x.v.s,.string x.tab,.string x.nm,.slice x.A x.n x.c,.slice x.B x.m x.d] from rfl]
          clear F5 K5 rx tY gY
          have F7:=K7.facts
          simp only [zg] at F7
          have K8:=((((((((((K7.store 2 rfl 0 (.int .i64 4)).store 2 rfl 1 (.int .i64 0)).store 2 rfl 2 (.bool false)).store 2 rfl 3 (.int .i64 0)).store 2 rfl 4 (.int .i64 0)).store 2 rfl 5 (.string ⟨#[]⟩)).store 2 rfl 6 (.string ⟨#[]⟩)).store 2 rfl 7 (.string ⟨#[]⟩)).store 2 rfl 8 (.slice (some ⟨w5.heap.size,0,none⟩) 1 1)).store 2 rfl 9 (.slice none 0 0))
          simp only [zl] at K8
          have F8:=K8.facts
          simp only [zg] at F8
          have hE1:Ro _ _ (ExsIn (m+2) (some ⟨w5.heap.size,0,none⟩) 1 [x]):=Wq (l:=[x]) (K8.get 0 rfl) rfl (fun z hz=>by
           simp only [List.mem_cons,List.not_mem_nil,or_false] at hz
           subst hz
           exact K8.ro 1 rfl)
          have HR:=hid ((hE1.imp (S' :=ExIn (m+2+1) (opE 4 0 false w5.heap.size 1 [x])) fun w2 h2=>Vx h2).less zm)
          have HT:=hid (And.intro (K8.tp_ 6 rfl) K8.grow)
          have HX:=hid (YU (d:=m+2) (kind:=4) (op:=0) (nt:=false) (g:=w5.heap.size) (k:=1) (l:=[x]) (Zw 4 (by decide)) (Zw 0 (by decide)) (by omega) (fun z hz=>by
           simp only [List.mem_cons,List.not_mem_nil,or_false] at hz
           subst hz
           exact hx))
          clear K7 K8 hE1
          go_wp2_with fail
          refine bodyPost_ret (v:=.agg #[.int .i64 4,.int .i64 0,.bool false,.int .i64 0,.int .i64 0,.string ⟨#[]⟩,.string ⟨#[]⟩,.string ⟨#[]⟩,.slice (some ⟨w5.heap.size,0,none⟩) 1 1,.slice none 0 0]) ?_ rfl ?_
          ·clear HT HR HX
           simp [results,Tryz.results99,go_sem,F8]
          ·exact ⟨opE 4 0 false w5.heap.size 1 [x],rfl,HX.out,HR.out,HT.out.1,HT.out.2⟩
      ·have hw1b:(want==1)=false:=by simpa using hw1
       have hw2b:(want==2)=false:=by simpa using hw2
       go_wp2_with fail
       all_goals first
        | (exfalso;contradiction)
        | skip
       refine (UG T want _ (K4.tp_ 4 rfl) (K4.ro 3 rfl).now hT).mono ?_
       rintro e w5 ⟨vk,vi,vs,rfl,hv,hs,hvi,t5,-,g5⟩
       have KB:=Hold.Zf K4 4 rfl g5 t5
       have HVK:=hid (Gn hv)
       clear K4 F4 g5 t5
       go_wp2_with fail
       refine (W9 _ ⟨vk,vi,vs⟩).mono ?_
       rintro e w6 ⟨rfl,b6⟩
       have KC:Hold M (some T) w w6 [.blk gr 126 #[.int .i64 0,.int .i64 0,.bool false,.int .i64 0,.int .i64 0,.string ⟨#[]⟩,.string ⟨#[]⟩,.string ⟨#[]⟩,.slice none 0 0,.slice none 0 0],.cst gp 177 #[.slice fA fn fc,.slice sA sn sc],.ro (Zg ⟨⟨fA,fn,fc,fl⟩,⟨sA,sn,sc,sl⟩⟩),.ro Wds,.tp T,.ro (ExIn 1 (Z4 ⟨vk,vi,vs⟩))]:=((KB.call b6).add (S:=ExIn 1 (Z4 ⟨vk,vi,vs⟩)) (fun w2 _ _=>WN _ _)).pick [1,2,3,4,5,0] (by decide) rfl
       clear KB b6
       have HY:=hid (WL ⟨vk,vi,vs⟩ HVK.out hvi)
       generalize Z4 ⟨vk,vi,vs⟩=y at *
       have K9:=KC
       have F9:=K9.facts
       simp only [zg] at F9
       have KA:=((((((((((K9.store 0 rfl 0 (.int .i64 y.kind)).store 0 rfl 1 (.int .i64 y.op)).store 0 rfl 2 (.bool y.nt)).store 0 rfl 3 (.int .i64 y.v.k)).store 0 rfl 4 (.int .i64 y.v.i)).store 0 rfl 5 (.string y.v.s)).store 0 rfl 6 (.string y.tab)).store 0 rfl 7 (.string y.nm)).store 0 rfl 8 (.slice y.A y.n y.c)).store 0 rfl 9 (.slice y.B y.m y.d))
       simp only [zl] at KA
       have FA:=KA.facts
       simp only [zg] at FA
       have HR:=hid ((KA.ro 5 rfl).less zm)
       have HT:=hid (And.intro (KA.tp_ 4 rfl) KA.grow)
       rw [show y.val=.agg #[.int .i64 y.kind,.int .i64 y.op,.bool y.nt,.int .i64 y.v.k,.int .i64 y.v.i,.string y.v.s,.string y.tab,.string y.nm,.slice y.A y.n y.c,.slice y.B y.m y.d] from rfl]
       clear K9 KA
       go_wp2_with fail
       refine bodyPost_ret (v:=.agg #[.int .i64 y.kind,.int .i64 y.op,.bool y.nt,.int .i64 y.v.k,.int .i64 y.v.i,.string y.v.s,.string y.tab,.string y.nm,.slice y.A y.n y.c,.slice y.B y.m y.d]) ?_ rfl ?_
       ·clear HT HR
        simp [results,Tryz.results99,go_sem,FA]
       ·exact ⟨y,rfl,HY.out.le (by omega),HR.out.imp (fun w2 h2=>h2.le (by omega)),HT.out.1,HT.out.2⟩
end Go.Proofs.YtnbbllkbefagmaaGreatDoor
namespace Go.Proofs.YtnbbllkbefagmaaGreatDoor
open Go.RowKit
set_option linter.unusedVariables false
set_option linter.unusedSimpArgs false
section
variable {M:Nat→Prop} {row:Option Nat} {w0 w1:World} {L:List Hp} {sp:SpW} {F:Act→Prop} {S0:Array Bool}
variable {ops:Array Oper} {o:Oper} {rest:List Oper} {a:Act} {k:Nat} {T:Nat}
def GK (u:Value) (_:World):Prop:=∃ b:Bool,u=.bool b
theorem ZgG (n:Nat) (i:Nat) (hi:L[i]? =some (.tp T)) (d:Tmp) (hS:S0.getD k false=false) (hw:Region.wanted o (yielded ops a.tmps)=true) (hd:o.dst=some d) (hsp:sp d=some GK)
  (hrun:∀ w,(execOp a.eval o).run Tryz.prog w=.ok (.enter 33 #[.pointer (some ⟨T,0,none⟩),.int .i64 n]) w) (hn:∀ b:Bool,Zz Tryz.prog ops (HC M (some T) w0 w1 L) (GW sp) (RM (Mut M L)) S0 F (k+1) rest (a.put (some d) (.bool b)))
  (hpos:0<n:=by omega) (hmax:n≤9223372036854775807:=by omega):Zz Tryz.prog ops (HC M (some T) w0 w1 L) (GW sp) (RM (Mut M L)) S0 F k (o::rest) a:=by
 refine Zbo d GK hS hw hd hsp hrun (fun w HC _=>?_) (fun u _ _ ⟨b,hu⟩=>by subst hu;exact hn b)
 refine (Z8 T n w (HC.tp_ i hi) (by omega) (by omega)).mono ?_
 rintro e w5 ⟨b,rfl,t5,g5⟩
 exact ⟨_,rfl,⟨b,rfl⟩,Hold.Zf HC i hi g5 t5,RM.grown g5 (.inr ⟨_,List.mem_of_getElem? hi,rfl⟩)⟩
end
end Go.Proofs.YtnbbllkbefagmaaGreatDoor

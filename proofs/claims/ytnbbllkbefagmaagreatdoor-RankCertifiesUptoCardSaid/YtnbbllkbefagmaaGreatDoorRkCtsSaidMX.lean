import Derived.Test.YtnbbllkbefagmaaGreatDoorRkCtsSaidMW
import Derived.Test.YtnbbllkbefagmaaGreatDoorRkCtsSaidMC
import Derived.Test.YtnbbllkbefagmaaGreatDoorRkCtsSaidMJ
import Derived.Test.YtnbbllkbefagmaaGreatDoorRkCtsSaidMD
import Derived.Test.YtnbbllkbefagmaaGreatDoorRkCtsSaidMR
import Derived.Test.YtnbbllkbefagmaaGreatDoorRkCtsSaidMV
import Derived.Deep.LoopGhost
namespace Go.Proofs.YtnbbllkbefagmaaGreatDoor
open Go.RowKit
set_option linter.unusedVariables false
set_option linter.unusedSimpArgs false
def ZdB (w:World) (M:Nat→Prop) (l:List Lk) (e:Ending) (w' :World):Prop:=∃ r,Ui l r∧G7 w M r e w'
set_option maxHeartbeats 4000000 in
set_option maxRecDepth 100000 in
theorem Zg8 (M:Nat→Prop) (w:World) (hM:∀ b,M b→b<w.heap.size) (A:Option Addr) (n c:Nat) (l0:List Lk) (ns:List ByteArray) (hD:Ro w M (LksIn A n l0)) (hs:LkSorted l0) (hns:NamesIn ns l0) (hB:ns.length * ns.length≤1000000) (hc:n≤c) (hcm:c≤9223372036854775807):
  Calls Tryz.prog 108 #[.slice A n c] w fun e w' =>ZdB w M l0 e w' :=by
 have HB:=hid hB
 obtain ⟨B,hBB⟩:∃ B,ns.length * ns.length=B:=⟨_,rfl⟩
 rw [hBB] at hB
 have HBB:=hid hBB
 have K0:=(Hold.start M w hM).add (hD.less (by simp [Mut]))
 have HM0:=hid (Mid.self hs)
 have HNS:=hid hns
 have HS0:=hid hs
 clear hBB hns hs
 go_enter Tryz.func108,Tryz.ntmps108
 go_wp2_with fail
 go_loopg [0] B (fun gh v wr=>∃ (A:Option Addr) (n c:Nat) (l:List Lk),v=.slice A n c∧B≤n+gh∧n≤c∧c≤9223372036854775807∧Hid (Mid l0 l)∧Hold M none w wr [.ro (LksIn A n l)])
 case atStart=>exact ⟨A,n,c,l0,rfl,by omega,hc,hcm,HM0,K0⟩
 case round=>
  clear K0 hD hc hcm
  clear A n c
  obtain ⟨A,n,c,l,rfl,hgh,hc,hcm,HMl,H⟩:=hrel
  have hnl:=(H.ro 0 rfl).now.len
  have hnB:n≤B:=by rw [←hnl,←HBB.out];exact NamesIn.len (Mid.names HMl.out HNS.out) HMl.out.1
  have HL:=hid hnl;clear hnl
  have KS:=H.add (H.ro 0 rfl)
  go_wp2_with fail
  go_loopw [3,11] (fun v i wq=>∃ (A' :Option Addr) (n' c' k:Nat) (o:List Lk),v=.slice A' n' c' ∧k≤n∧i=.int .i64 k∧n' ≤c' ∧c' ≤9223372036854775807∧Hid (Mid l o)∧Hid (DoneN l o k)∧Hold M none w wq [.ro (LksIn A' n' o),.ro (LksIn A n l)]) (fun _ i _=>n - (intOf i).toNat)
  case atStart=>exact ⟨A,n,c,0,l,rfl,by omega,rfl,hc,hcm,hid (Mid.self HMl.out.1),hid (fun x hx=>by simp at hx),KS⟩
  case round=>
   clear KS H
   obtain ⟨A',n',c',k,o,rfl,hk,rfl,hc',hcm',HMo,HDN,H⟩:=hrel
   have hn'l:=(H.ro 0 rfl).now.len
   have hn'B:n' ≤B:=by rw [←hn'l,←HBB.out];exact NamesIn.len (Mid.names (HMl.out.trans HMo.out) HNS.out) HMo.out.1
   have HL' :=hid hn'l;clear hn'l
   have hnn:n≤n' :=by have:=HMo.out.len HMl.out.1;rw [HL.out,HL'.out] at this;exact this
   obtain ⟨wo,rfl⟩:∃ wo:World,wo=wr:=⟨_,rfl⟩
   by_cases hlt:k<n
   ·have hd:decide ((k:Int)<(n:Int))=true:=by simp;omega
    obtain ⟨x,hx⟩:=Z4 HL.out hlt
    obtain ⟨g,oo,rfl,hb,c0,c1⟩:=(H.ro 1 rfl).now.at_ hx
    have HX:=hid hx;clear hx
    have K1:=H.Za #[.string x.a,.string x.b] 190
    have K2:=(K1.add (K1.ro 1 rfl)).drop (L' :=[.ro (LksIn A' n' o),.cst wo.heap.size 190 #[.string x.a,.string x.b],.ro (LksIn (some ⟨g,oo,none⟩) n l)]) (List.Sublist.cons_cons _ (List.Sublist.cons_cons _ (List.sublist_cons_self _ _)))
    clear K1
    go_wp2_with fail
    go_loopw [3,17] (fun v j wq=>∃ (A' :Option Addr) (n' c' p:Nat) (o:List Lk),v=.slice A' n' c' ∧p≤n∧j=.int .i64 p∧n' ≤c' ∧c' ≤9223372036854775807∧Hid (Mid l o)∧Hid (DoneN l o k)∧Hid (Done1 l o x p)∧Hold M none w wq [.ro (LksIn A' n' o),.cst wo.heap.size 190 #[.string x.a,.string x.b],.ro (LksIn (some ⟨g,oo,none⟩) n l)]) (fun _ j _=>n - (intOf j).toNat)
    case atStart=>exact ⟨A',n',c',0,o,rfl,by omega,rfl,hc',hcm',HMo,HDN,hid (fun y hy=>by simp at hy),K2⟩
    case round=>
     clear K2 H HL' HMo HDN hc' hcm' hn'B hnn
     obtain ⟨A',n',c',p,o,rfl,hp,rfl,hc',hcm',HMo,HDN,HD1,H⟩:=hrel
     have hn'l:=(H.ro 0 rfl).now.len
     have hn'B:n' ≤B:=by rw [←hn'l,←HBB.out];exact NamesIn.len (Mid.names (HMl.out.trans HMo.out) HNS.out) HMo.out.1
     have HL' :=hid hn'l;clear hn'l
     by_cases hlt2:p<n
     ·have hd2:decide ((p:Int)<(n:Int))=true:=by simp;omega
      obtain ⟨y,hy⟩:=Z4 HL.out hlt2
      obtain ⟨g',o',ho',hb',e0,e1⟩:=(H.ro 2 rfl).now.at_ hy
      obtain ⟨rfl,rfl⟩:g=g' ∧oo=o' :=by injection ho' with ho';injection ho' with a1 a2;exact ⟨a1,a2⟩
      clear ho'
      have HY:=hid hy;clear hy
      have K3:=H.Za #[.string y.a,.string y.b] 190
      have F:=K3.facts
      simp only [World.size_alloc,World.size_drew,factsL,Zm,Nat.reduceAdd,List.toList_toArray,and_true,true_and] at F
      have F0:=H.facts
      simp only [World.size_alloc,World.size_drew,factsL,Zm,Nat.reduceAdd,List.toList_toArray,and_true,true_and] at F0
      cases h4:(x.b.toList==y.a.toList)
      ·have HE:=hid (show x.b≠y.a from fun e=>by rw [e] at h4;simp at h4)
       go_wp2_with fail
       go_roundw
       case rel=>exact ⟨A',n',c',p+1,o,rfl,by omega,by go_num,hc',hcm',HMo,HDN,hid (HD1.out.succ HY.out fun e=>absurd e HE.out),K3.drop (List.sublist_cons_self _ _)⟩
       case measure=>simp [intOf];omega
      ·have HE:=hid (show x.b=y.a from V4.1 h4)
       go_wp2_with fail
       refine (QA (Mut M _) _ K3.Zc A' n' c' o ⟨x.a,y.b⟩ (K3.ro 1 rfl) (by omega)).mono ?_
       rintro e w5 ⟨A5,n5,c5,rfl,h51,h52,h53,r5,b5⟩
       have H51:=hid h51;clear h51
       have K5:=((K3.call b5).add r5).drop (L' :=[.ro (LksIn A5 n5 (YQ ⟨x.a,y.b⟩ o)),.cst wo.heap.size 190 #[.string x.a,.string x.b],.ro (LksIn (some ⟨g,oo,none⟩) n l)]) (List.Sublist.cons_cons _ (List.Sublist.cons _ (List.sublist_cons_self _ _)))
       have HM5:=hid (HMo.out.ins (List.mem_of_getElem? HX.out) (List.mem_of_getElem? HY.out) HE.out)
       have HI5:=hid (fun z (hz:z∈o)=>(VU HMo.out.1).2 (Or.inr (b:=z∈o) (a:=z=⟨x.a,y.b⟩) hz))
       clear r5 b5 F F0
       go_wp2_with fail
       go_roundw
       case rel=>exact ⟨A5,n5,c5,p+1,_,rfl,by omega,by go_num,h52,h53,HM5,hid (HDN.out.more HI5.out),hid ((HD1.out.more HI5.out).succ HY.out fun _=>(VU HMo.out.1).2 (.inl rfl)),K5⟩
       case measure=>simp [intOf];omega
     ·obtain rfl:p=n:=by omega
      go_wp2_with fail
      go_roundw
      case rel=>exact ⟨A',n',c',k+1,o,rfl,by omega,by go_num,hc',hcm',HMo,hid (HDN.out.succ HX.out (by rw [HL.out];exact HD1.out)),H.drop (List.Sublist.cons_cons _ (List.sublist_cons_self _ _))⟩
      case measure=>simp [intOf];omega
   ·obtain rfl:k=n:=by omega
    by_cases he:n' =k
    ·have hq:((n' :Int)==(k:Int))=true:=by rw [beq_iff_eq];omega
     have HE:=hid he;clear he
     go_wp2_with fail
     go_ret
     exact ⟨o,Zd0 HMo.out (by rw [HL.out];exact HDN.out) (by rw [HL.out,HL'.out,HE.out]) HMl.out.1 HMl.out.2.1 HMl.out.2.2,A',n',c',rfl,HL'.out.symm,hc',hcm',H.YM 0 rfl,H.below⟩
    ·have hq:((n' :Int)==(k:Int))=false:=by rw [beq_eq_false_iff_ne];omega
     cases gk with
     | succ go=>
      go_wp2_with fail
      go_roundg go
      case measure=>omega
      case rel=>exact ⟨A',n',c',o,rfl,by omega,hc',hcm',hid (HMl.out.trans HMo.out),H.drop (List.Sublist.cons_cons _ (List.nil_sublist _))⟩
     | zero=>omega
def Zv (l:List ByteArray):List Value:=l.map .string
def StrsIn (A:Option Addr) (n:Nat) (l:List ByteArray):World→Prop:=SlR 1 A n (Zv l)
theorem Tryz.Qe:ElemT Tryz.prog 35 9 1 16 (.string ⟨#[]⟩):=⟨Tryz.underlying35,by kernel_rfl,rfl,by omega⟩
theorem StrsIn.len {w:World} {A:Option Addr} {n:Nat} {l:List ByteArray} (h:StrsIn A n l w):l.length=n:=by
 have:=(show Rd w w.heap.size 1 A n (Zv l) from h).1
 simpa [Zv] using this
theorem StrsIn.at_ {w:World} {A:Option Addr} {n:Nat} {l:List ByteArray} (h:StrsIn A n l w) {k:Nat} {x:ByteArray} (hx:l[k]? =some x):
  ∃ b o,A=some ⟨b,o,none⟩∧b<w.heap.size∧w.cell? ⟨b,o+k,none⟩=some (.string x):=by
 have hk:k<n:=by rw [←h.len];exact (List.getElem?_eq_some_iff.1 hx).1
 obtain ⟨b,o,e,hb,hc⟩:=(show Rd w w.heap.size 1 A n (Zv l) from h).2 (by omega)
 exact ⟨b,o,e,hb,hc k _ (by simp [Zv,hx])⟩
theorem Zgm (l:List Lk):∀ u∈XU l,u.oneCell' =true:=by
 intro u hu
 obtain ⟨x,_,hx⟩:=List.mem_flatMap.1 hu
 simp [Lk.cells] at hx
 rcases hx with rfl|rfl<;>rfl
theorem Zco {l:List Lk} (h:YI l=true) {i:Nat} (hi:i<l.length):XM l i=true:=by
 unfold YI at h
 rw [List.all_eq_true] at h
 exact h i (by simpa using hi)
theorem Gs:∀ {l:List Lk},(∀ i,i+1<l.length→Yd (Xu l i) (Xu l (i+1))=true)→LkSorted l
 | [],_=>List.Pairwise.nil
 | [x],_=>List.pairwise_singleton _ _
 | x::y::l,h=>by
  have ih:LkSorted (y::l):=Gs fun i hi=>by
   have:=h (i+1) (by simp at hi ⊢;omega)
   simpa [Xu] using this
  have hxy:Yd x y=true:=by have:=h 0 (by simp);simpa [Xu] using this
  refine List.pairwise_cons.2 ⟨fun z hz=>?_,ih⟩
  rcases List.mem_cons.1 hz with rfl|hz
  ·exact hxy
  ·exact Zbd hxy ((List.pairwise_cons.1 ih).1 z hz)
theorem ZcA {l:List Lk} (h:YI l=true):LkSorted l:=Gs fun i hi=>by
 have:=Zco h hi
 unfold XM at this
 simp only [Bool.and_eq_true,Bool.or_eq_true] at this
 rcases this.1.2 with h1|h1
 ·simp at h1
 ·simpa using h1
def Y4 (f:ByteArray→Lk) (o:List Lk) (ss:List ByteArray):List Lk:=ss.foldl (fun o s=>YQ (f s) o) o
theorem Zbq (f:ByteArray→Lk) (o:List Lk) {ss:List ByteArray} {k:Nat} {s:ByteArray} (h:ss[k]? =some s):Y4 f o (ss.take (k+1))=YQ (f s) (Y4 f o (ss.take k)):=by
 obtain ⟨hk,rfl⟩:=List.getElem?_eq_some_iff.1 h
 unfold Y4
 rw [List.take_succ_eq_append_getElem hk,List.foldl_append]
 rfl
theorem VW (f:ByteArray→Lk):∀ (ss:List ByteArray) (o:List Lk),LkSorted o→LkSorted (Y4 f o ss)∧∀ z,z∈Y4 f o ss↔z∈o∨∃ s∈ss,z=f s
 | [],o,h=>⟨h,fun z=>by simp [Y4]⟩
 | s::ss,o,h=>by
  obtain ⟨h1,h2⟩:=VW f ss (YQ (f s) o) (Gn h)
  refine ⟨h1,fun z=>?_⟩
  show z∈Y4 f (YQ (f s) o) ss↔_
  rw [h2 z,VU h]
  simp only [List.mem_cons,exists_eq_or_imp]
  constructor
  ·rintro ((h|h)|h)
   ·exact .inr (.inl h)
   ·exact .inl h
   ·exact .inr (.inr h)
  ·rintro (h|h|h)
   ·exact .inl (.inr h)
   ·exact .inl (.inl h)
   ·exact .inr h
theorem U3 {ns:List ByteArray} {f:ByteArray→Lk} {ss:List ByteArray} {o:List Lk} (hs:LkSorted o) (ho:NamesIn ns o) (hf:∀ s∈ss,(f s).a∈ns∧(f s).b∈ns):NamesIn ns (Y4 f o ss):=fun z hz=>by
 rcases ((VW f ss o hs).2 z).1 hz with h|⟨s,h,rfl⟩
 ·exact ho z h
 ·exact hf s h
def U6 (l:List Lk) (nm:ByteArray) (ps fs:List ByteArray):List Lk:=Y4 (fun s=>⟨s,nm⟩) (Y4 (fun s=>⟨nm,s⟩) l ps) fs
def Ze9 (w:World) (M:Nat→Prop) (l:List Lk) (nm:ByteArray) (ps fs:List ByteArray) (e:Ending) (w' :World):Prop:=
 Below w.heap.size w w' ∧((YI l=false∧e=.returned (.tuple #[.slice none 0 0,.int .i64 17]))∨
  (YI l=true∧∃ r,Ui (U6 l nm ps fs) r∧((YI r=false∧e=.returned (.tuple #[.slice none 0 0,.int .i64 13]))∨
   (YI r=true∧∃ (A:Option Addr) (n c:Nat),e=.returned (.tuple #[.slice A n c,.int .i64 0])∧n=r.length∧n≤c∧c≤9223372036854775807∧Ro w' M (LksIn A n r)))))
set_option maxHeartbeats 4000000 in
set_option maxRecDepth 100000 in
theorem Zdx (M:Nat→Prop) (w:World) (hM:∀ b,M b→b<w.heap.size) (A:Option Addr) (n c:Nat) (l:List Lk) (nm:ByteArray) (A1:Option Addr) (n1 c1:Nat) (ps:List ByteArray) (A2:Option Addr) (n2 c2:Nat) (fs:List ByteArray) (ns:List ByteArray)
  (hD:Ro w M (LksIn A n l)) (hP:Ro w M (StrsIn A1 n1 ps)) (hF:Ro w M (StrsIn A2 n2 fs)) (hl:NamesIn ns l) (hnm:nm∈ns) (hps:∀ s∈ps,s∈ns) (hfs:∀ s∈fs,s∈ns) (hB:ns.length * ns.length≤1000000) (hn:n≤1000000) (hn1:n1≤1000000) (hn2:n2≤1000000):
  Calls Tryz.prog 46 #[.slice A n c,.string nm,.slice A1 n1 c1,.slice A2 n2 c2] w fun e w' =>Ze9 w M l nm ps fs e w' :=by
 have HL:=hid hD.now.len
 have HP:=hid hP.now.len
 have HF:=hid hF.now.len
 have K0:=((((Hold.start M w hM).add (hF.less (by simp [Mut]))).add (hP.less (by simp [Mut,Hp.foot]))).add (hD.less (by simp [Mut,Hp.foot])))
 cases hv:YI l
 ·have HV:=hid hv;clear hv
  go_enter Tryz.func46,Tryz.ntmps46
  go_wp2_with fail
  refine (UZ (Mut M _) _ K0.Zc A n c l (K0.ro 0 rfl) hn).mono ?_
  rintro e w1 ⟨rfl,b1⟩
  rw [HV.out]
  have K1:=K0.call b1
  go_wp2_with fail
  go_ret2
  exact ⟨K1.below,.inl ⟨HV.out,rfl⟩⟩
 have HV:=hid hv;clear hv
 have HS:=hid (ZcA HV.out)
 have HNM:=hid (And.intro hl (And.intro hnm (And.intro hps hfs)))
 clear hl hnm hps hfs
 go_enter Tryz.func46,Tryz.ntmps46
 go_wp2_with fail
 refine (UZ (Mut M _) _ K0.Zc A n c l (K0.ro 0 rfl) hn).mono ?_
 rintro e w1 ⟨rfl,b1⟩
 rw [HV.out]
 have K1:=(K0.call b1).nil 190 2
 have r1:=hid (K1.ro 1 rfl).now
 clear b1
 go_wp2_with (at_builtin;go_must (refine Yy K1 0 rfl Tryz.VG r1.out rfl (.const (.slice none 0 0)) (.tmp 18) rfl rfl rfl (Zgm _) (by omega) (by omega) ?_);intro C' cap' w2 hc1 hc2 K2)
 have K3:=K2.ZC 0 rfl
 simp only [List.set_cons_zero,Nat.zero_add,List.nil_append] at K3 hc1
 have K3:Hold M none w w2 [.ro (LksIn C' n l),.ro (LksIn A n l),.ro (StrsIn A1 n1 ps),.ro (StrsIn A2 n2 fs)]:=K3
 have K4:=K3.drop (List.Sublist.cons_cons _ (List.sublist_cons_self _ _))
 clear K1 K2 K3 r1
 go_loopw [10,22] (fun v i wr=>∃ (A' :Option Addr) (n' c' k:Nat) (o:List Lk),v=.slice A' n' c' ∧k≤n1∧i=.int .i64 k∧n' ≤c' ∧c' ≤9223372036854775807∧Hid (o=Y4 (fun s=>⟨nm,s⟩) l (ps.take k))∧Hold M none w wr [.ro (LksIn A' n' o),.ro (StrsIn A1 n1 ps),.ro (StrsIn A2 n2 fs)]) (fun _ i _=>n1 - (intOf i).toNat)
 case atStart=>exact ⟨_,_,_,0,l,by first|rfl|simp,by omega,rfl,hc1,hc2,hid rfl,K4⟩
 case round=>
  clear K4 hc1 hc2
  obtain ⟨A',n',c',k,o,rfl,hk,rfl,hc',hcm',HO,H⟩:=hrel
  have hn'l:=(H.ro 0 rfl).now.len
  have HSO:=hid (show LkSorted o∧NamesIn ns o by rw [HO.out];exact ⟨(VW _ _ l HS.out).1,U3 HS.out HNM.out.1 fun s hs=>⟨HNM.out.2.1,HNM.out.2.2.1 s (List.mem_of_mem_take hs)⟩⟩)
  have hn'B:n' ≤1000000:=by rw [←hn'l];exact Nat.le_trans (NamesIn.len HSO.out.2 HSO.out.1) hB
  clear hn'l
  by_cases hlt:k<n1
  ·have hd:decide ((k:Int)<(n1:Int))=true:=by simp;omega
   obtain ⟨s,hs⟩:=Z4 HP.out hlt
   obtain ⟨g,oo,rfl,hb,c0⟩:=(H.ro 1 rfl).now.at_ hs
   have HX:=hid (Zbq (fun s=>(⟨nm,s⟩:Lk)) l hs);clear hs
   go_wp2_with fail
   refine (QA (Mut M _) _ H.Zc A' n' c' o ⟨nm,s⟩ (H.ro 0 rfl) hn'B).mono ?_
   rintro e w5 ⟨A5,n5,c5,rfl,h51,h52,h53,r5,b5⟩
   have H51:=hid h51;clear h51
   have K5:=((H.call b5).add r5).drop (List.Sublist.cons_cons _ (List.sublist_cons_self _ _))
   clear r5 b5
   go_wp2_with fail
   go_roundw
   case rel=>exact ⟨A5,n5,c5,k+1,_,rfl,by omega,by go_num,h52,h53,hid (by rw [HX.out,←HO.out]),K5⟩
   case measure=>simp [intOf];omega
  ·obtain rfl:n1=k:=by omega
   have HO1:=hid (show o=Y4 (fun s=>⟨nm,s⟩) l ps by have:=HO.out;rwa [List.take_of_length_le (by rw [HP.out];omega)] at this)
   have HSO1:=HSO
   clear HO hlt
   have KN:=H.drop (List.Sublist.cons_cons _ (List.sublist_cons_self _ _))
   clear H hn'B HSO
   go_wp2_with fail
   go_loopw [10,34] (fun v i wr=>∃ (A' :Option Addr) (n' c' k:Nat) (o2:List Lk),v=.slice A' n' c' ∧k≤n2∧i=.int .i64 k∧n' ≤c' ∧c' ≤9223372036854775807∧Hid (o2=Y4 (fun s=>⟨s,nm⟩) o (fs.take k))∧Hold M none w wr [.ro (LksIn A' n' o2),.ro (StrsIn A2 n2 fs)]) (fun _ i _=>n2 - (intOf i).toNat)
   case atStart=>exact ⟨_,_,_,0,o,rfl,by omega,rfl,hc',hcm',hid rfl,KN⟩
   case round=>
    clear KN hc' hcm'
    obtain ⟨A',n',c',k,o2,rfl,hk,rfl,hc',hcm',HO,H⟩:=hrel
    have hn'l:=(H.ro 0 rfl).now.len
    have HSO:=hid (show LkSorted o2∧NamesIn ns o2 by rw [HO.out];exact ⟨(VW _ _ o HSO1.out.1).1,U3 HSO1.out.1 HSO1.out.2 fun s hs=>⟨HNM.out.2.2.2 s (List.mem_of_mem_take hs),HNM.out.2.1⟩⟩)
    have hn'B:n' ≤1000000:=by rw [←hn'l];exact Nat.le_trans (NamesIn.len HSO.out.2 HSO.out.1) hB
    clear hn'l
    by_cases hlt:k<n2
    ·have hd:decide ((k:Int)<(n2:Int))=true:=by simp;omega
     obtain ⟨s,hs⟩:=Z4 HF.out hlt
     obtain ⟨g,oo,rfl,hb,c0⟩:=(H.ro 1 rfl).now.at_ hs
     have HX:=hid (Zbq (fun s=>(⟨s,nm⟩:Lk)) o hs);clear hs
     go_wp2_with fail
     refine (QA (Mut M _) _ H.Zc A' n' c' o2 ⟨s,nm⟩ (H.ro 0 rfl) hn'B).mono ?_
     rintro e w5 ⟨A5,n5,c5,rfl,h51,h52,h53,r5,b5⟩
     have H51:=hid h51;clear h51
     have K5:=((H.call b5).add r5).drop (List.Sublist.cons_cons _ (List.sublist_cons_self _ _))
     clear r5 b5
     go_wp2_with fail
     go_roundw
     case rel=>exact ⟨A5,n5,c5,k+1,_,rfl,by omega,by go_num,h52,h53,hid (by rw [HX.out,←HO.out]),K5⟩
     case measure=>simp [intOf];omega
    ·obtain rfl:n2=k:=by omega
     have HO2:=hid (show o2=U6 l nm ps fs by have:=HO.out;rw [List.take_of_length_le (by rw [HF.out];omega),HO1.out] at this;exact this)
     clear HO hlt
     go_wp2_with fail
     refine (Zg8 (Mut M _) _ H.Zc A' n' c' o2 ns (H.ro 0 rfl) HSO.out.1 HSO.out.2 hB hc' hcm').mono ?_
     rintro e w6 ⟨r,hr,A6,n6,c6,rfl,h61,h62,h63,r6,b6⟩
     have hn6:n6≤1000000:=by rw [h61];exact Nat.le_trans (NamesIn.len (fun z hz=>Tr.names HSO.out.2 ((hr.2 z.a z.b).1 hz)) hr.1) hB
     have HR:=hid (show Ui (U6 l nm ps fs) r by rw [←HO2.out];exact hr)
     have H61:=hid h61
     have K6:=(H.call b6).add r6
     clear r6 b6 hr h61
     cases hvr:YI r
     ·have HVR:=hid hvr;clear hvr
      go_wp2_with fail
      refine (UZ (Mut M _) _ K6.Zc A6 n6 c6 r (K6.ro 0 rfl) hn6).mono ?_
      rintro e w7 ⟨rfl,b7⟩
      rw [HVR.out]
      have K7:=K6.call b7
      clear b7
      go_wp2_with fail
      go_ret2
      exact ⟨K7.below,.inr ⟨HV.out,r,HR.out,.inl ⟨HVR.out,rfl⟩⟩⟩
     ·have HVR:=hid hvr;clear hvr
      go_wp2_with fail
      refine (UZ (Mut M _) _ K6.Zc A6 n6 c6 r (K6.ro 0 rfl) hn6).mono ?_
      rintro e w7 ⟨rfl,b7⟩
      rw [HVR.out]
      have K7:=K6.call b7
      clear b7
      go_wp2_with fail
      go_ret2
      exact ⟨K7.below,.inr ⟨HV.out,r,HR.out,.inr ⟨HVR.out,A6,n6,c6,rfl,H61.out,h62,h63,K7.YM 0 rfl⟩⟩⟩
end Go.Proofs.YtnbbllkbefagmaaGreatDoor
namespace Go.Proofs.YtnbbllkbefagmaaGreatDoor
instance baMem (x:ByteArray) (l:List ByteArray):Decidable (x∈l):=
 decidable_of_iff (l.any (fun y=>decide (y=x))=true) (by simp [List.any_eq_true])
end Go.Proofs.YtnbbllkbefagmaaGreatDoor
namespace Go.Proofs.YtnbbllkbefagmaaGreatDoor
open Go.RowKit
set_option linter.unusedVariables false
set_option linter.unusedSimpArgs false
theorem Zar:∀ l:List ByteArray,l.flatMap Zt=Zv l
 | []=>rfl
 | x::l=>by
  have ih:=Zar l
  simp only [List.flatMap_cons,Zv,List.map_cons,Zt,List.cons_append,List.nil_append] at ih ⊢
  rw [←ih]
theorem zb {A:Option Addr} {n:Nat} {l:List ByteArray} {w:World} (h:SlR 1 A n (l.flatMap Zt) w):StrsIn A n l w:=by
 rw [Zar] at h
 exact h
def JC (w:World) (l:List ByteArray) (e:Ending) (w' :World):Prop:=
 ∃ (A:Option Addr) (n c:Nat),e=.returned (.slice A n c)∧n=l.length∧w'.ownsRow w.heap.size 9 1 (.slice A n c) n (Zv l)∧Below w.heap.size w w'
def Yj (xs:List ByteArray) (x:ByteArray):Bool:=decide (x∈xs)
theorem Zbm {xs:List ByteArray} {k:Nat} {x y:ByteArray} (h:xs[k]? =some y) (e:y=x):Yj xs x=true:=by
 unfold Yj;rw [decide_eq_true_iff,←e];exact List.mem_of_getElem? h
theorem zU {xs:List ByteArray} {k:Nat} {x y:ByteArray} (h:xs[k]? =some y) (e:y≠x) (hc:Yj (xs.take k) x=false):Yj (xs.take (k+1)) x=false:=by
 unfold Yj at *
 rw [decide_eq_false_iff_not] at *
 rw [List.take_add_one,h,List.mem_append]
 rintro (h1|h1)
 ·exact hc h1
 ·simp at h1;exact e h1.symm
set_option maxHeartbeats 4000000 in
theorem Zge (w:World) (A:Option Addr) (n c:Nat) (xs:List ByteArray) (x:ByteArray) (hD:StrsIn A n xs w) (hn:n≤9223372036854775807):
  Calls Tryz.prog 180 #[.slice A n c,.string x] w fun e w' =>(∃ r:Int,e=.returned (.int .i64 r)∧decide (r≥0)=Yj xs x)∧w=w' :=by
 have HL:=hid hD.len
 go_enter Tryz.func180,Tryz.ntmps180
 go_wp2_with fail
 go_loopw [8] (fun iv wr=>∃ (k:Nat),k≤n∧iv=.int .i64 k∧wr=w∧Hid (Yj (xs.take k) x=false)) (fun iv _=>n - (intOf iv).toNat)
 case atStart=>exact ⟨0,by omega,rfl,rfl,hid (by simp [Yj])⟩
 case round=>
  obtain ⟨k,hk,rfl,rfl,HC⟩:=hrel
  by_cases hlt:k<n
  ·have hd:decide ((k:Int)<(n:Int))=true:=by simp;omega
   have i0:(0:Int)≤(k:Int):=by omega
   have i1:(k:Int)<(n:Int):=by omega
   obtain ⟨y,hy⟩:=Z4 HL.out hlt
   obtain ⟨b,o,rfl,_,ck⟩:=hD.at_ hy
   have HX:=hid hy
   clear hy
   cases e1:(x.toList==y.toList)
   ·have e2:(y.toList==x.toList)=false:=by rw [beq_eq_false_iff_ne] at *;exact fun h=>e1 h.symm
    have HN:=hid (zU HX.out (fun e=>by rw [e] at e1;simp at e1) HC.out)
    go_wp2_with fail
    go_roundw
    case rel=>exact ⟨k+1,by omega,by go_num,by first|rfl|trivial,HN⟩
    case measure=>simp [intOf];omega
   ·have e2:(y.toList==x.toList)=true:=by rw [beq_iff_eq] at *;exact e1.symm
    have HN:=hid (Zbm HX.out (V4.1 e2))
    go_wp2_with fail
    go_ret
    exact ⟨⟨k,rfl,by rw [HN.out];simp⟩,rfl⟩
  ·obtain rfl:n=k:=by omega
   have hd:decide ((n:Int)<(n:Int))=false:=by simp
   have HN:=hid (show Yj xs x=false by have h:=HC.out;rwa [List.take_of_length_le (by rw [HL.out];exact Nat.le_refl _)] at h)
   go_wp2_with fail
   go_ret
   exact ⟨⟨-1,rfl,by rw [HN.out];rfl⟩,rfl⟩
theorem JX (w:World) (A:Option Addr) (n c:Nat) (xs:List ByteArray) (x:ByteArray) (hD:StrsIn A n xs w) (hn:n≤9223372036854775807):
  Calls Tryz.prog 119 #[.slice A n c,.string x] w fun e w' =>e=.returned (.bool (Yj xs x))∧w=w' :=by
 go_enter Tryz.func119,Tryz.ntmps119
 go_wp2_with fail
 refine (Zge w A n c xs x hD hn).mono ?_
 rintro e w1 ⟨⟨r,rfl,hr⟩,rfl⟩
 go_wp2_with fail
 go_ret
 exact ⟨by first|rw [hr]<;>rfl|simp [←hr],rfl⟩
def Yo (j:Nat):ByteArray:=⟨#[UInt8.ofNat (97+j),UInt8.ofNat (97+j)]⟩
def TNm (w:World):Prop:=∀ j,j<8→w.cell? ⟨0,j,none⟩=some (.string (Yo j))
def TgsOk (l:List Tg):Prop:=(∀ i t,l[i]? =some t→t.name=Yo i)∧∀ t∈l,TgGd 5 t∧WU t.tab
theorem ZeU:TgsOk []:=⟨fun i t h=>by simp at h,fun t h=>(nomatch h)⟩
theorem TgsOk.snoc {l:List Tg} {t:Tg} (h:TgsOk l) (h1:t.name=Yo l.length) (h2:TgGd 5 t) (h3:WU t.tab):TgsOk (l++[t]):=⟨fun i x hx=>by
 rcases Nat.lt_or_ge i l.length with hi|hi
 ·rw [List.getElem?_append_left hi] at hx
  exact h.1 i x hx
 ·rw [List.getElem?_append_right hi] at hx
  rcases Nat.eq_zero_or_pos (i - l.length) with h0|h0
  ·rw [h0] at hx
   obtain rfl:t=x:=by simpa using hx
   rw [h1];congr 1;omega
  ·rw [List.getElem?_eq_none (by simp;omega)] at hx
   exact (nomatch hx),fun x hx=>by
 rcases List.mem_append.1 hx with hx|hx
 ·exact h.2 x hx
 ·simp only [List.mem_cons,List.not_mem_nil,or_false] at hx
  subst hx
  exact ⟨h2,h3⟩⟩
theorem Zf5 {l:List Lk} {nm:ByteArray} {ps fs ns:List ByteArray} (hl:LkSorted l) (h:NamesIn ns l) (hn:nm∈ns) (hp:∀ s∈ps,s∈ns) (hf:∀ s∈fs,s∈ns):NamesIn ns (U6 l nm ps fs):=
 U3 (VW _ _ l hl).1 (U3 hl h fun y hy=>⟨hn,hp y hy⟩) fun y hy=>⟨hf y hy,hn⟩
theorem ZfF {l r:List Lk} {ns:List ByteArray} (h:Ui l r) (hn:NamesIn ns l):NamesIn ns r:=fun z hz=>Tr.names hn ((h.2 z.a z.b).1 hz)
def OrdOk (B:Nat) (ol:List Lk):Prop:=YI ol=true∧LkSorted ol∧∃ ns:List ByteArray,ns.length≤17 * B∧NamesIn ns ol
theorem OrdOk.le {B B' :Nat} {ol:List Lk} (h:OrdOk B ol) (hb:B≤B'):OrdOk B' ol:=by
 obtain ⟨h1,h2,ns,h3,h4⟩:=h
 exact ⟨h1,h2,ns,by omega,h4⟩
def V9 (M:Nat→Prop) (u:Value) (w:World):Prop:=∃ (A:Option Addr) (c:Nat) (l:List Te),u=.slice A 3 c∧(∀ x∈l,1≤x.n∧x.n≤4)∧Ro w M (TesIn A 3 l)
theorem Zez {M:Nat→Prop} (u:Value) (w w' :World) (hr:RM M w w') (h:V9 M u w):V9 M u w' :=by
 obtain ⟨A,c,l,h1,h2,h3⟩:=h
 exact ⟨A,c,l,h1,h2,hr.ro h3⟩
def ZeW (w:World) (T:Nat) (M:Nat→Prop) (N:Nat) (e:Ending) (w' :World):Prop:=∃ (A:Option Addr) (n c:Nat) (l:List Tg) (O:Option Addr) (on oc:Nat) (ol:List Lk),e=.returned (.tuple #[.slice A n c,.slice O on oc])∧l.length=n∧n≤N∧n≤c∧c≤9223372036854775807∧TgsOk l∧OrdOk N ol∧Ro w' M (TgsIn 5 A n l)∧Ro w' M (LksIn O on ol)∧Tp w' T∧w.grownBy w' (some T)
theorem Tryz.JM:ElemT Tryz.prog 25 40 11 200 (.agg #[.string ⟨#[]⟩,.string ⟨#[]⟩,.bool false,.int .i64 0,.slice none 0 0,.bool false,.slice none 0 0,.slice none 0 0,.slice none 0 0,.slice none 0 0,.slice none 0 0]):=⟨Tryz.underlying25,by kernel_rfl,rfl,by omega⟩
set_option maxHeartbeats 16000000 in
set_option maxRecDepth 100000 in
theorem Zgp (M:Nat→Prop) (T:Nat) (w:World) (hM:∀ b,M b→b<w.heap.size) (ht:Tp w T) (hMT:∀ b,M b→T≤b) (N:Nat) (hN:N≤8) (hW:Ro w (Mut M [.tp T]) Wds) (hT:1<T) (hTN:Ro w (Mut M [.tp T]) TNm):Calls Tryz.prog 9 #[.pointer (some ⟨T,0,none⟩),.int .i64 N] w fun e w' =>ZeW w T M N e w' :=by
 have K0:=((((Hold.YY M w T hM ht hMT).add hW).add (hTN.less (by simp [ZG,Mut,Hp.foot]))).add (S:=WR 5 []) (fun w2 _ _ x hx=>(nomatch hx))).nil 40 11
 clear hW hTN
 have hw1:IntKind.i64.wrap ((N:Int)+1)=((N+1:Nat):Int):=by rw [IntWalk.i64_in _ (by omega)];omega
 go_enter Tryz.func9,Tryz.ntmps9
 go_wp2_with fail
 refine (ZQ T (N+1) _ (K0.tp_ 4 rfl) (by omega) (by omega)).mono ?_
 rintro e w1 ⟨r,rfl,r0,r1,t1,g1⟩
 have K1:=Hold.Zf K0 4 rfl g1 t1
 clear K0 t1 g1 hw1
 obtain ⟨q,rfl⟩:∃ q:Nat,r=(q:Int):=⟨r.toNat,by omega⟩
 have hq:q≤N:=by omega
 clear r0 r1
 go_wp2_with fail
 go_loopw [6,7,8] (fun lv ov iv wr=>∃ (i k cap:Nat) (A:Option Addr) (l:List Tg) (O:Option Addr) (on oc:Nat) (ol:List Lk),i≤q∧k+i≤q∧l.length=k∧lv=.slice A k cap∧ov=.slice O on oc∧iv=.int .i64 i∧Hid (TgsOk l∧OrdOk (q - i) ol)∧Ro wr (Mut M [.own 40 11 (.slice A k cap) k (ZX l),.ro (WR 5 l),.ro TNm,.ro Wds,.tp T]) (LksIn O on ol)∧Hold M (some T) w wr [.own 40 11 (.slice A k cap) k (ZX l),.ro (WR 5 l),.ro TNm,.ro Wds,.tp T]) (fun _ _ iv _=>(intOf iv).toNat)
 case atStart=>exact ⟨q,0,0,none,[],none,0,0,[],by omega,by omega,rfl,rfl,rfl,rfl,hid ⟨ZeU,by
  refine ⟨by decide,List.Pairwise.nil,[],by simp,fun z hz=>(nomatch hz)⟩⟩,fun w2 _ _=>ZR 2 w2,K1⟩
 case round=>
  clear K1
  obtain ⟨i,k,cap,A,l,O,on,oc,ol,hi,hki,hlk,rfl,rfl,rfl,HOK,ho,H⟩:=hrel
  have HLK:=hid hlk
  clear hlk
  rcases Nat.eq_zero_or_pos i with h0|h0
  ·subst h0
   have hcap:=Yx (H.get 0 rfl)
   have KZ:=H.ZC 0 rfl
   simp only [List.set_cons_zero] at KZ
   have hR:Ro _ _ (TgsIn 5 A k l):=((KZ.ro 0 rfl).and (KZ.ro 1 rfl)).imp fun w2 h2=>⟨h2.1,h2.2⟩
   have HR:=hid (hR.less zm)
   have HO:=hid (ho.less zm)
   have HT:=hid (And.intro (KZ.tp_ 4 rfl) KZ.grow)
   clear KZ H hR ho
   go_wp2_with fail
   go_ret2
   exact ⟨A,k,cap,l,O,on,oc,ol,rfl,HLK.out,by omega,hcap.1,hcap.2.1,HOK.out.1,(by
    obtain ⟨h1,h2,ns,h3,h4⟩:=HOK.out.2
    exact ⟨h1,h2,ns,by omega,h4⟩),HR.out,HO.out,HT.out.1,HT.out.2⟩
  ·have hi0:(0:Int)<(i:Int):=by omega
   have hk8:(k:Int)<8:=by omega
   have hwi:IntKind.i64.wrap ((i:Int) - 1)=((i - 1:Nat):Int):=by rw [IntWalk.i64_in _ (by omega)];omega
   have c0:=(H.ro 2 rfl).now k (by omega)
   have hcap:=Yx (H.get 0 rfl)
   have KL:=H.add ho
   have hsl:Ro wr (fun b=>b=T) (SlR 11 A k (ZX l)):=by
    have KZ:=H.ZC 0 rfl
    simp only [List.set_cons_zero] at KZ
    exact (KZ.ro 0 rfl).less (fun b hb=>by subst hb;exact (Zj (i:=4) rfl) _ (by simp [ZG,Hp.foot]))
   clear H ho
   go_wp2_with fail
   clear c0
   refine (ZfP (Mut M _) T _ KL.Zc (KL.tp_ 5 rfl) (KL.get 5 rfl).2 (Yo k) A k cap l hsl (by omega) ((KL.ro 4 rfl).less (Zj (i:=5) rfl)) hT).mono ?_
   rintro e w2 ⟨x,rfl,hxg,hxn,hxt,rx,t2,g2⟩
   obtain ⟨xn,xt,xb,xe,⟨oA,onn,occ,oll⟩,xch,⟨pA,pn,pc,pl⟩,⟨qA,qn,qc,ql⟩,⟨rA,rn,rc,rl⟩,⟨kA,kn,kc,kl⟩,⟨aA,an,ac,al⟩⟩:=x
   have HXG:=hid hxg
   have HXT:=hid hxt
   have hxn:xn=Yo k:=hxn
   subst hxn
   have KA:=((Hold.Zf KL 5 rfl g2 t2).add rx).Za #[.string (Yo k),.string xt,.bool xb,.int .i64 xe,.slice oA onn occ,.bool xch,.slice pA pn pc,.slice qA qn qc,.slice rA rn rc,.slice kA kn kc,.slice aA an ac] 40
   clear KL hsl g2 t2 rx hxg hxt
   obtain ⟨gt,hgt⟩:∃ g,g=w2.heap.size:=⟨_,rfl⟩
   rw [←hgt] at KA
   rw [show (Tg.val ⟨Yo k,xt,xb,xe,⟨oA,onn,occ,oll⟩,xch,⟨pA,pn,pc,pl⟩,⟨qA,qn,qc,ql⟩,⟨rA,rn,rc,rl⟩,⟨kA,kn,kc,kl⟩,⟨aA,an,ac,al⟩⟩)=.agg #[.string (Yo k),.string xt,.bool xb,.int .i64 xe,.slice oA onn occ,.bool xch,.slice pA pn pc,.slice qA qn qc,.slice rA rn rc,.slice kA kn kc,.slice aA an ac] from rfl]
   obtain ⟨KM,hKM,K6⟩:=KA.name
   have H1:∀ wv:World,Hold M (some T) w wv KM→Blk wv gt 40 #[.string (Yo k),.string xt,.bool xb,.int .i64 xe,.slice oA onn occ,.bool xch,.slice pA pn pc,.slice qA qn qc,.slice rA rn rc,.slice kA kn kc,.slice aA an ac]:=fun wv h=>by rw [hKM] at h;exact h.ZB 0 rfl
   have H2:∀ wv:World,Hold M (some T) w wv KM→Ro wv (Mut M KM) (TgIn 5 ⟨Yo k,xt,xb,xe,⟨oA,onn,occ,oll⟩,xch,⟨pA,pn,pc,pl⟩,⟨qA,qn,qc,ql⟩,⟨rA,rn,rc,rl⟩,⟨kA,kn,kc,kl⟩,⟨aA,an,ac,al⟩⟩):=fun wv h=>by rw [hKM] at h ⊢;exact h.ro 1 rfl
   have HH1:=hid H1
   have HH2:=hid H2
   have HKM:=hid hKM
   clear hKM H1 H2 KA
   go_upto_region 7 with fail
   rw [←hgt]
   have HGT:=hid hgt
   clear hgt
   refine wp_region_any (by kernel_rfl) ?_
   refine ZH 3 51 (KM) (spL [(28,V9 (Mut M KM)),(29,fun u _=>∃ c:Int,u=.int .i64 c)]) (by kernel_rfl) (by kernel_rfl) (by kernel_rfl) rfl ?_ (K6.drew) ?_
   ·exact Ze Zez (Ze (fun _ _ _ _ h=>h) (ZF _))
   simp only [zd,Act.put,List.getElem_toArray,List.getElem_cons_zero,List.getElem_cons_succ,zl]
   refine' dv rfl rfl rfl (fun wv HC=>?_) ?_;rotate_left
   ·obtain q0:=(HH1.out _ HC).cell 0;obtain q1:=(HH1.out _ HC).cell 1;obtain q2:=(HH1.out _ HC).cell 2;obtain q3:=(HH1.out _ HC).cell 3;obtain q4:=(HH1.out _ HC).cell 4;obtain q5:=(HH1.out _ HC).cell 5;obtain q6:=(HH1.out _ HC).cell 6;obtain q7:=(HH1.out _ HC).cell 7;obtain q8:=(HH1.out _ HC).cell 8;obtain q9:=(HH1.out _ HC).cell 9;obtain q10:=(HH1.out _ HC).cell 10;go_simp<;>rfl
   simp only [Act.put,zl]
   refine Zq 28 (V9 (Mut M KM)) (f:=45) (args:=#[.slice none 0 0]) rfl rfl rfl rfl (fun wv=>?_) (fun wv HC hrm hD=>?_) ?_
   ·go_simp<;>rfl
   ·refine (ZdQ (Mut M KM) wv HC.Zc).mono ?_
    rintro e w5 ⟨yA,yc,yl,rfl,hyl,ry,b5⟩
    exact ⟨_,rfl,⟨yA,yc,yl,rfl,hyl,ry⟩,HC.call b5,RM.below b5⟩
   rintro u wx HCx ⟨yA,yc,yl,rfl,hyl,ry⟩
   clear HCx hyl ry
   simp only [Act.put,zl]
   refine Zq 29 (fun u _=>∃ c:Int,u=.int .i64 c) (f:=44) (args:=#[.agg #[.string (Yo k),.string xt,.bool xb,.int .i64 xe,.slice oA onn occ,.bool xch,.slice pA pn pc,.slice qA qn qc,.slice rA rn rc,.slice kA kn kc,.slice aA an ac],.slice yA 3 yc]) rfl rfl rfl rfl (fun wv=>?_) (fun wv HC hrm hD=>?_) ?_
   ·go_simp<;>rfl
   ·have h1:V9 (Mut M KM) (.slice yA 3 yc) wv:=ZV hD 1 rfl (by kernel_rfl) rfl rfl
    obtain ⟨yA',yc',yl',e',hyl,ry⟩:=h1
    obtain ⟨rfl,rfl⟩:yA=yA' ∧yc=yc' :=by injection e' with e1 e2 e3;exact ⟨e1,e3⟩
    refine (Zhc 5 (by omega) ⟨Yo k,xt,xb,xe,⟨oA,onn,occ,oll⟩,xch,⟨pA,pn,pc,pl⟩,⟨qA,qn,qc,ql⟩,⟨rA,rn,rc,rl⟩,⟨kA,kn,kc,kl⟩,⟨aA,an,ac,al⟩⟩ yA 3 yc yl' wv ((HH2.out _ HC).less zn) HXG.out (ry.less zn) (by omega) (fun x hx=>⟨(hyl x hx).1,by have:=(hyl x hx).2;omega⟩)).mono ?_
    rintro e w5 ⟨cd,rfl,b5⟩
    exact ⟨_,rfl,⟨_,rfl⟩,HC.call b5,RM.below b5⟩
   rintro u wx HCx ⟨cd,rfl⟩
   clear HCx
   simp only [Act.put,zl]
   refine ZE ?_
   rintro wx3 HX
   rintro _hrm HGW
   clear HGW _hrm
   rw [HKM.out] at HX
   clear HH1 HH2 HKM K6
   have F4:=HX.facts
   simp only [zg] at F4
   have HQ:=hid (show k+(i - 1)≤q∧i - 1≤q by omega)
   obtain ⟨z,hz⟩:∃ z:Bool,(cd !=0)=z:=⟨_,rfl⟩
   cases z
   ·have HPL:=hid (show pl.length=pn from SlP.In.len (s:=⟨pA,pn,pc,pl⟩) (k:=1) (cel:=Zt) (P:=fun _ _=>True) (HX.ro 1 rfl).now.2.1 (by omega) (fun _=>rfl))
    have HQL:=hid (show ql.length=qn from SlP.In.len (s:=⟨qA,qn,qc,ql⟩) (k:=1) (cel:=Zt) (P:=fun _ _=>True) (HX.ro 1 rfl).now.2.2.1 (by omega) (fun _=>rfl))
    have HOL:=hid (show ol.length=on from (show LksIn O on ol _ from (HX.ro 2 rfl).now).len)
    obtain ⟨hv,hs,ns,h3,h4⟩:=HOK.out.2
    have HNS:=hid (show ∃ NS:List ByteArray,NS.length≤17 * (q - (i - 1))∧NamesIn NS ol∧Yo k∈NS∧(∀ s∈pl,s∈NS)∧∀ s∈ql,s∈NS from by
     refine ⟨Yo k::(pl++(ql++ns)),?_,?_,by simp,fun s hs=>by simp [hs],fun s hs=>by simp [hs]⟩
     ·have e1:pl.length≤8:=HXG.out.p.2.1
      have e2:ql.length≤8:=HXG.out.f.2.1
      simp only [List.length_cons,List.length_append]
      omega
     ·intro z hz
      have:=h4 z hz
      exact ⟨by simp [this.1],by simp [this.2]⟩)
    have HSO:=hid hs
    have HON:=hid (show on≤1000000 from by
     have e:=h4.len hs
     have e2:ns.length≤136:=by omega
     have e3:=Nat.mul_le_mul e2 e2
     rw [←HOL.out]
     omega)
    clear hv hs h3 h4
    obtain ⟨NS,n1,n2,n3,n4,n5⟩:=HNS.out
    have HN1:=hid n1
    have HN2:=hid n2
    have HN3:=hid n3
    have HN4:=hid n4
    have HN5:=hid n5
    clear HNS n1 n2 n3 n4 n5
    go_wp2_with fail
    refine (Zdx (Mut M _) _ HX.Zc O on oc ol (Yo k) pA pn pc pl qA qn qc ql NS (HX.ro 2 rfl) ((HX.ro 1 rfl).imp fun w2 h2=>zb h2.2.1.1) ((HX.ro 1 rfl).imp fun w2 h2=>zb h2.2.2.1.1) HN2.out HN3.out HN4.out HN5.out (by
     have e2:NS.length≤136:=by have:=HN1.out;omega
     have e3:=Nat.mul_le_mul e2 e2
     omega) HON.out (by have e1:pl.length≤8:=HXG.out.p.2.1;have:=HPL.out;omega) (by have e1:ql.length≤8:=HXG.out.f.2.1;have:=HQL.out;omega)).mono ?_
    rintro e w9 ⟨b9,h9⟩
    rcases h9 with ⟨-,rfl⟩|⟨-,r,hr,⟨-,rfl⟩|⟨hvr,RA,rn2,rc2,rfl,hrn,hrc,hrc2,rr⟩⟩
    ·have K9:Hold M (some T) w w9 [.ro (LksIn O on ol),.own 40 11 (.slice A k cap) k (ZX l),.ro (WR 5 l),.ro TNm,.ro Wds,.tp T]:=(HX.call b9).pick [2,3,4,5,6,7] (by decide) rfl
     clear HX F4 b9
     go_wp2_with fail
     go_roundw
     case rel=>exact ⟨i - 1,k,cap,A,l,O,on,oc,ol,HQ.out.2,HQ.out.1,HLK.out,rfl,rfl,by go_num,hid ⟨HOK.out.1,HOK.out.2.le (by omega)⟩,(K9.ro 0 rfl).less (fun b hb=>ZG.2 (.inr hb)),K9.drop (List.sublist_cons_self _ _)⟩
     case measure=>simp [intOf];omega
    ·have K9:Hold M (some T) w w9 [.ro (LksIn O on ol),.own 40 11 (.slice A k cap) k (ZX l),.ro (WR 5 l),.ro TNm,.ro Wds,.tp T]:=(HX.call b9).pick [2,3,4,5,6,7] (by decide) rfl
     clear HX F4 b9 hr
     go_wp2_with fail
     go_roundw
     case rel=>exact ⟨i - 1,k,cap,A,l,O,on,oc,ol,HQ.out.2,HQ.out.1,HLK.out,rfl,rfl,by go_num,hid ⟨HOK.out.1,HOK.out.2.le (by omega)⟩,(K9.ro 0 rfl).less (fun b hb=>ZG.2 (.inr hb)),K9.drop (List.sublist_cons_self _ _)⟩
     case measure=>simp [intOf];omega
    ·have K9:=(HX.call b9).add rr
     have HR:=hid (And.intro hr hvr)
     clear HX F4 b9 rr hr hvr hrn hrc hrc2
     have F9:=K9.facts
     simp only [zg] at F9
     go_wp2_with (at_builtin;go_must (refine Zx K9 4 rfl Tryz.JM #[.string (Yo k),.string xt,.bool xb,.int .i64 xe,.slice oA onn occ,.bool xch,.slice pA pn pc,.slice qA qn qc,.slice rA rn rc,.slice kA kn kc,.slice aA an ac] rfl (.tmp 45) (.tmp 47) rfl rfl _ (by first|rfl|simp) rfl rfl (by intro u hu;simp at hu;rcases hu with rfl|rfl|rfl|rfl|rfl|rfl|rfl|rfl|rfl|rfl|rfl<;>rfl) (by omega) (by omega) ?_);intro gA capA wA hcA hmA KB;simp only [zl] at KB)
     rw [show ZX l++(#[.string (Yo k),.string xt,.bool xb,.int .i64 xe,.slice oA onn occ,.bool xch,.slice pA pn pc,.slice qA qn qc,.slice rA rn rc,.slice kA kn kc,.slice aA an ac]:Array Value).toList=ZX (l++[⟨Yo k,xt,xb,xe,⟨oA,onn,occ,oll⟩,xch,⟨pA,pn,pc,pl⟩,⟨qA,qn,qc,ql⟩,⟨rA,rn,rc,rl⟩,⟨kA,kn,kc,kl⟩,⟨aA,an,ac,al⟩⟩]) from (Zd4 l ⟨Yo k,xt,xb,xe,⟨oA,onn,occ,oll⟩,xch,⟨pA,pn,pc,pl⟩,⟨qA,qn,qc,ql⟩,⟨rA,rn,rc,rl⟩,⟨kA,kn,kc,kl⟩,⟨aA,an,ac,al⟩⟩).symm] at KB
     have hR:Ro _ _ (WR 5 (l++[⟨Yo k,xt,xb,xe,⟨oA,onn,occ,oll⟩,xch,⟨pA,pn,pc,pl⟩,⟨qA,qn,qc,ql⟩,⟨rA,rn,rc,rl⟩,⟨kA,kn,kc,kl⟩,⟨aA,an,ac,al⟩⟩])):=((KB.ro 5 rfl).and (KB.ro 2 rfl)).imp fun w2 h2 y hy=>by
      rcases List.mem_append.1 hy with hy|hy
      ·exact h2.1 y hy
      ·simp only [List.mem_cons,List.not_mem_nil,or_false] at hy
       subst hy
       exact h2.2
     have KC:=(KB.WL 5 rfl hR).pick [0,4,5,6,7,8] (by decide) rfl
     simp only [List.set_cons_zero,List.set_cons_succ,List.filterMap_cons,List.filterMap_nil,List.getElem?_cons_zero,List.getElem?_cons_succ] at KC
     go_roundw
     case rel=>exact ⟨i - 1,k+1,capA,_,l++[⟨Yo k,xt,xb,xe,⟨oA,onn,occ,oll⟩,xch,⟨pA,pn,pc,pl⟩,⟨qA,qn,qc,ql⟩,⟨rA,rn,rc,rl⟩,⟨kA,kn,kc,kl⟩,⟨aA,an,ac,al⟩⟩],RA,rn2,rc2,r,HQ.out.2,by have:=HQ.out.1;omega,by simp [HLK.out],by first|rfl|trivial,by first|rfl|trivial,by go_num,hid ⟨HOK.out.1.snoc (by rw [HLK.out]) HXG.out HXT.out,⟨HR.out.2,HR.out.1.1,NS,HN1.out,ZfF HR.out.1 (Zf5 HSO.out HN2.out HN3.out HN4.out HN5.out)⟩⟩,(KC.ro 0 rfl).less (fun b hb=>ZG.2 (.inr hb)),KC.drop (List.sublist_cons_self _ _)⟩
     case measure=>simp [intOf];omega
   ·go_wp2_with fail
    go_roundw
    have K9:Hold M (some T) w wx3 [.ro (LksIn O on ol),.own 40 11 (.slice A k cap) k (ZX l),.ro (WR 5 l),.ro TNm,.ro Wds,.tp T]:=HX.pick [2,3,4,5,6,7] (by decide) rfl
    case rel=>exact ⟨i - 1,k,cap,A,l,O,on,oc,ol,HQ.out.2,HQ.out.1,HLK.out,rfl,rfl,by go_num,hid ⟨HOK.out.1,HOK.out.2.le (by omega)⟩,(K9.ro 0 rfl).less (fun b hb=>ZG.2 (.inr hb)),K9.drop (List.sublist_cons_self _ _)⟩
    case measure=>simp [intOf];omega
end Go.Proofs.YtnbbllkbefagmaaGreatDoor
namespace Go.Proofs.YtnbbllkbefagmaaGreatDoor
open Go.ChangeShapes Go.WideShapes Go.ChangeAt Go.RowKit
set_option linter.unusedVariables false
set_option linter.unusedSimpArgs false
theorem ZgN {P:Program} {W:World} {x:String × DataW Unit} {rest:List (String × DataW Unit)} (h:laidMet P (x::rest) W):laidMet P rest W:=by
 obtain ⟨ps,⟨g,t,cs,fuel,p,q,_,_,_,_,hr,rfl⟩,hn,hb⟩:=h
 exact ⟨q,hr,(List.nodup_append.1 hn).2.1,fun b off hm=>hb b off (List.mem_append_right _ hm)⟩
theorem gTn : Tryz.prog.globalNamed "triggerstore/triggerstoreworld.triggerNames" = some 0 := by kernel_rfl
theorem Zgt:(Tryz.prog.globals[0]?).map (·.type)=some 103:=by kernel_rfl
def zw:List (List UInt8):=[[97,97],[98,98],[99,99],[100,100],[101,101],[102,102],[103,103],[104,104]]
theorem ZcH:∀ j,j<8→zw[j]? =some (Yo j).data.toList:=by decide+kernel
theorem Zf0 {W : World} {rest : List (String × DataW Unit)} (h : laidMet Tryz.prog (("triggerstore/triggerstoreworld.triggerNames", Rows.laid_triggerstore_triggerstoreworld_triggerNames) :: rest) W) : TNm W := by
 intro j hj
 obtain ⟨s,h1,h2,_⟩:=Zag (bs:=zw) (rest:=rest) gTn Zgt Tryz.underlying103 Tryz.underlying9 (by kernel_rfl) h j hj
 rw [ZcH j hj] at h2
 have h3:=Option.some.inj h2
 have h4:s=Yo j:=Go.WideShapes.bytes_inj h3.symm
 rw [h1,h4]
theorem ZaR {W : World} (h : laidMet Tryz.prog [("triggerstore/triggerstoreworld.triggerNames", Rows.laid_triggerstore_triggerstoreworld_triggerNames), ("triggerstore/triggerstoreworld.words", Rows.laid_triggerstore_triggerstoreworld_words)] W) : Wds W ∧ TNm W := ⟨ZcP (rest := []) (ZgN h), Zf0 h⟩
noncomputable def Qg (os:Os):World:=
 { Zbl os with heap:=(Zbl os).heap.modify 0 fun
   | .cells _ t frozen=>.cells #[.string ⟨#[97,97]⟩,.string ⟨#[98,98]⟩,.string ⟨#[99,99]⟩,.string ⟨#[100,100]⟩,.string ⟨#[101,101]⟩,.string ⟨#[102,102]⟩,.string ⟨#[103,103]⟩,.string ⟨#[104,104]⟩] t frozen
   | o=>o }
theorem TNm.keep {w w' :World} (h:TNm w) (hk:w'.heap[0]? =w.heap[0]?):TNm w' :=fun j hj=>(World.cell?_of_block (w:=w) (a:=⟨0,j,none⟩) hk).trans (h j hj)
theorem TNm.lt {w:World} (h:TNm w):0<w.heap.size:=World.block_lt_of_cell? w ⟨0,0,none⟩ (h 0 (by omega))
theorem TNm.ro2 {w:World} {M:Nat→Prop} (h:TNm w) (hM:¬M 0):Ro w M TNm:=fun w2 _ h2=>h.keep (h2 _ h.lt hM)
end Go.Proofs.YtnbbllkbefagmaaGreatDoor
namespace Go.Proofs.YtnbbllkbefagmaaGreatDoor
open Go.RowKit
set_option linter.unusedVariables false
set_option linter.unusedSimpArgs false
set_option maxHeartbeats 2000000 in
theorem zG (w:World) (e:Ex) (t c:ByteArray):Calls Tryz.prog 190 #[e.val,.string t,.string c] w fun r w' =>r=.returned (.bool (Yz e t c))∧Below w.heap.size w w' :=by
 have K0:=(Hold.YD w).Za #[.int .i64 e.kind,.int .i64 e.op,.bool e.nt,.int .i64 e.v.k,.int .i64 e.v.i,.string e.v.s,.string e.tab,.string e.nm,.slice e.A e.n e.c,.slice e.B e.m e.d] 126
 have F:=K0.facts
 simp only [zg] at F
 have HB:=hid K0.below
 rw [show e.val=.agg #[.int .i64 e.kind,.int .i64 e.op,.bool e.nt,.int .i64 e.v.k,.int .i64 e.v.i,.string e.v.s,.string e.tab,.string e.nm,.slice e.A e.n e.c,.slice e.B e.m e.d] from rfl]
 go_enter Tryz.func190,Tryz.ntmps190
 go_wp2_with fail
 all_goals
  go_ret
  exact ⟨by simp_all [Yz],Qa _ _⟩
set_option maxRecDepth 100000 in
set_option maxHeartbeats 2000000 in
theorem GZ (w:World) (A:Option Addr) (c:Nat):Calls Tryz.prog 189 #[.slice A 0 c] w fun r w' =>r=.returned (.tuple #[.agg #[.int .i64 0,.int .i64 0,.bool false,.int .i64 0,.int .i64 0,.string ⟨#[]⟩,.string ⟨#[]⟩,.string ⟨#[]⟩,.slice none 0 0,.slice none 0 0],.bool false])∧Below w.heap.size w w' :=by
 go_enter Tryz.func189,Tryz.ntmps189
 go_wp2_with fail
 exact bodyPost_ret (v:=.tuple #[.agg #[.int .i64 0,.int .i64 0,.bool false,.int .i64 0,.int .i64 0,.string ⟨#[]⟩,.string ⟨#[]⟩,.string ⟨#[]⟩,.slice none 0 0,.slice none 0 0],.bool false]) (by simp [results,Tryz.results189,go_sem]) rfl ⟨rfl,Qa _ _⟩
theorem ZaA {d:Nat} {e a:Ex} {l:List Ex} (h1:e.kind=5) (h2:e.op=2) (h3:e.args=a::l):Z9 (d+1) e=Z9 d a:=by
 simp [Z9,h1,h2,h3]
theorem Zaz {d:Nat} {e:Ex} (h:¬(e.kind=5∧e.op=2∧e.args≠[])):Z9 d e=e:=by
 cases d with
 | zero=>rfl
 | succ d=>
  simp only [Z9]
  split
  ·split
   ·rename_i h1 _ _ _ h2
    exact absurd ⟨h1.1,h1.2,by rw [h2];exact List.cons_ne_nil _ _⟩ h
   ·rfl
  ·rfl
set_option maxRecDepth 100000 in
set_option maxHeartbeats 2000000 in
theorem ZgI (M:Nat→Prop) (w:World) (hM:∀ b,M b→b<w.heap.size) (A:Option Addr) (n c d:Nat) (x:Ex) (l:List Ex) (hl:Ro w M (ExsIn d A n (x::l))) (hn:n≤9223372036854775807):Calls Tryz.prog 189 #[.slice A n c] w fun r w' =>r=.returned (.tuple #[(Z9 d x).val,.bool true])∧Below w.heap.size w w' :=by
 have hlen:=hl.now.len
 have K0:=((Hold.start M w hM).add (hl.less (by simp [Mut]))).alloc #[.int .i64 0,.int .i64 0,.bool false,.int .i64 0,.int .i64 0,.string ⟨#[]⟩,.string ⟨#[]⟩,.string ⟨#[]⟩,.slice none 0 0,.slice none 0 0] 126
 have hd:((n:Int)==0)=false:=by simp at hlen;simp;omega
 have h1:0<n:=by simp at hlen;omega
 obtain ⟨b,o,rfl,hb,hc,hx⟩:=(K0.ro 1 rfl).now.at_ (k:=0) (x:=x) rfl
 have c0:=hc 0 _ (by omega) rfl
 have c1:=hc 1 _ (by omega) rfl
 have c2:=hc 2 _ (by omega) rfl
 have c3:=hc 3 _ (by omega) rfl
 have c4:=hc 4 _ (by omega) rfl
 have c5:=hc 5 _ (by omega) rfl
 have c6:=hc 6 _ (by omega) rfl
 have c7:=hc 7 _ (by omega) rfl
 have c8:=hc 8 _ (by omega) rfl
 have c9:=hc 9 _ (by omega) rfl
 simp only [Nat.zero_mul,Nat.add_zero] at c0 c1 c2 c3 c4 c5 c6 c7 c8 c9
 clear hc hlen
 have F:=K0.facts
 simp only [zg] at F
 go_enter Tryz.func189,Tryz.ntmps189
 go_wp2_with fail
 have K1:=((K0.add (S:=ExIn d x) ((K0.ro 1 rfl).imp fun w2 h2=>h2.2 x (List.mem_cons_self ..))).perm (L' :=[.ro (ExIn d x),.blk w.heap.size 126 #[.int .i64 0,.int .i64 0,.bool false,.int .i64 0,.int .i64 0,.string ⟨#[]⟩,.string ⟨#[]⟩,.string ⟨#[]⟩,.slice none 0 0,.slice none 0 0],.ro (ExsIn d (some ⟨b,o,none⟩) n (x::l))]) (List.Perm.refl _)).alloc #[.int .i64 x.kind,.int .i64 x.op,.bool x.nt,.int .i64 x.v.k,.int .i64 x.v.i,.string x.v.s,.string x.tab,.string x.nm,.slice x.A x.n x.c,.slice x.B x.m x.d] 126
 simp only [World.size_alloc] at K1
 clear c0 c1 c2 c3 c4 c5 c6 c7 c8 c9 F hx K0
 go_loopg [] d (fun gh wr=>∃ e:Ex,Hid (Z9 d x=Z9 gh e)∧Hold M none w wr [.blk (w.heap.size+1) 126 #[.int .i64 e.kind,.int .i64 e.op,.bool e.nt,.int .i64 e.v.k,.int .i64 e.v.i,.string e.v.s,.string e.tab,.string e.nm,.slice e.A e.n e.c,.slice e.B e.m e.d],.ro (ExIn gh e),.blk w.heap.size 126 #[.int .i64 0,.int .i64 0,.bool false,.int .i64 0,.int .i64 0,.string ⟨#[]⟩,.string ⟨#[]⟩,.string ⟨#[]⟩,.slice none 0 0,.slice none 0 0]])
 case atStart=>exact ⟨x,hid rfl,K1.drop (List.Sublist.cons_cons _ (.cons_cons _ (.cons_cons _ (List.nil_sublist _))))⟩
 case round=>
  clear K1
  obtain ⟨⟨k,op,nt,v,tab,nm,A,n2,c2,args,B,m,d2,sub⟩,HE,H⟩:=hrel
  obtain _|gh:=gk
  ·exact ((H.ro 1 rfl).now).elim
  have hx:=ExIn.succ.1 (H.ro 1 rfl).now
  have hlen:=hx.1.len
  simp only at hlen H
  have F:=H.facts
  simp only [zg] at F
  by_cases hk:k=5∧op=2∧args≠[]
  ·obtain ⟨rfl,rfl,h3⟩:=hk
   obtain ⟨a,t,rfl⟩:=List.exists_cons_of_ne_nil h3
   obtain ⟨b2,o2,rfl,hb2,hc,ha⟩:=hx.1.at_ (k:=0) (x:=a) rfl
   have y0:=hc 0 _ (by omega) rfl
   have y1:=hc 1 _ (by omega) rfl
   have y2:=hc 2 _ (by omega) rfl
   have y3:=hc 3 _ (by omega) rfl
   have y4:=hc 4 _ (by omega) rfl
   have y5:=hc 5 _ (by omega) rfl
   have y6:=hc 6 _ (by omega) rfl
   have y7:=hc 7 _ (by omega) rfl
   have y8:=hc 8 _ (by omega) rfl
   have y9:=hc 9 _ (by omega) rfl
   simp only [Nat.zero_mul,Nat.add_zero] at y0 y1 y2 y3 y4 y5 y6 y7 y8 y9
   have hn2:decide ((n2:Int) > 0)=true:=by simp at hlen;simp;omega
   have h0:0<n2:=by simp at hlen;omega
   clear hc hx ha
   have KA:=H.add (S:=ExIn gh a) ((H.ro 1 rfl).imp fun w2 h2=>(ExIn.succ.1 h2).1.2 a (List.mem_cons_self ..))
   have KB:=KA.perm (L' :=[.blk (w.heap.size+1) 126 #[.int .i64 5,.int .i64 2,.bool nt,.int .i64 v.k,.int .i64 v.i,.string v.s,.string tab,.string nm,.slice (some ⟨b2,o2,none⟩) n2 c2,.slice B m d2],.ro (ExIn gh a),.blk w.heap.size 126 #[.int .i64 0,.int .i64 0,.bool false,.int .i64 0,.int .i64 0,.string ⟨#[]⟩,.string ⟨#[]⟩,.string ⟨#[]⟩,.slice none 0 0,.slice none 0 0],.ro (ExIn (gh+1) ⟨5,2,nt,v,tab,nm,some ⟨b2,o2,none⟩,n2,c2,a::t,B,m,d2,sub⟩)]) ((List.Perm.swap _ _ _).trans (((List.Perm.swap _ _ _).cons _).cons _))
   have K2:=(((((((((KB.store 0 rfl 0 (.int .i64 a.kind)).store 0 rfl 1 (.int .i64 a.op)).store 0 rfl 2 (.bool a.nt)).store 0 rfl 3 (.int .i64 a.v.k)).store 0 rfl 4 (.int .i64 a.v.i)).store 0 rfl 5 (.string a.v.s)).store 0 rfl 6 (.string a.tab)).store 0 rfl 7 (.string a.nm)).store 0 rfl 8 (.slice a.A a.n a.c)).store 0 rfl 9 (.slice a.B a.m a.d)
   simp only [zl] at K2
   have K3:=K2.drop (List.Sublist.cons_cons _ (.cons_cons _ (.cons_cons _ (List.nil_sublist _))))
   clear KA KB K2
   go_wp2_with fail
   go_roundg gh
   case rel=>exact ⟨a,hid (HE.out.trans (ZaA rfl rfl rfl)),K3⟩
   case measure=>omega
  ·have HF:=hid (Zaz (d:=gh+1) (e:=⟨k,op,nt,v,tab,nm,A,n2,c2,args,B,m,d2,sub⟩) hk)
   have HC:k≠5∨(k=5∧op≠2)∨(k=5∧op=2∧n2=0):=by
    by_cases h5:k=5
    ·by_cases h2:op=2
     ·refine .inr (.inr ⟨h5,h2,?_⟩)
      have:args=[]:=Classical.byContradiction fun h=>hk ⟨h5,h2,h⟩
      rw [this] at hlen
      exact hlen.symm
     ·exact .inr (.inl ⟨h5,h2⟩)
    ·exact .inl h5
   clear hx hlen hk
   rcases HC with h|⟨rfl,h⟩|⟨rfl,rfl,rfl⟩
   ·have hq:(k==5)=false:=by simpa using h
    have K2:=(((((((((H.store 2 rfl 0 (.int .i64 k)).store 2 rfl 1 (.int .i64 op)).store 2 rfl 2 (.bool nt)).store 2 rfl 3 (.int .i64 v.k)).store 2 rfl 4 (.int .i64 v.i)).store 2 rfl 5 (.string v.s)).store 2 rfl 6 (.string tab)).store 2 rfl 7 (.string nm)).store 2 rfl 8 (.slice A n2 c2)).store 2 rfl 9 (.slice B m d2)
    simp only [zl] at K2
    have F2:=K2.facts
    simp only [zg] at F2
    have HB:=hid K2.below
    clear K2 H
    go_wp2_with fail
    refine bodyPost_ret (v:=.tuple #[.agg #[.int .i64 k,.int .i64 op,.bool nt,.int .i64 v.k,.int .i64 v.i,.string v.s,.string tab,.string nm,.slice A n2 c2,.slice B m d2],.bool true]) ?_ rfl ⟨by rw [HE.out,HF.out];rfl,HB.out⟩
    simp [results,Tryz.results189,go_sem,F2]
   ·have hq:(op==2)=false:=by simpa using h
    have K2:=(((((((((H.store 2 rfl 0 (.int .i64 5)).store 2 rfl 1 (.int .i64 op)).store 2 rfl 2 (.bool nt)).store 2 rfl 3 (.int .i64 v.k)).store 2 rfl 4 (.int .i64 v.i)).store 2 rfl 5 (.string v.s)).store 2 rfl 6 (.string tab)).store 2 rfl 7 (.string nm)).store 2 rfl 8 (.slice A n2 c2)).store 2 rfl 9 (.slice B m d2)
    simp only [zl] at K2
    have F2:=K2.facts
    simp only [zg] at F2
    have HB:=hid K2.below
    clear K2 H
    go_wp2_with fail
    refine bodyPost_ret (v:=.tuple #[.agg #[.int .i64 5,.int .i64 op,.bool nt,.int .i64 v.k,.int .i64 v.i,.string v.s,.string tab,.string nm,.slice A n2 c2,.slice B m d2],.bool true]) ?_ rfl ⟨by rw [HE.out,HF.out];rfl,HB.out⟩
    simp [results,Tryz.results189,go_sem,F2]
   ·skip
    have K2:=(((((((((H.store 2 rfl 0 (.int .i64 5)).store 2 rfl 1 (.int .i64 2)).store 2 rfl 2 (.bool nt)).store 2 rfl 3 (.int .i64 v.k)).store 2 rfl 4 (.int .i64 v.i)).store 2 rfl 5 (.string v.s)).store 2 rfl 6 (.string tab)).store 2 rfl 7 (.string nm)).store 2 rfl 8 (.slice A 0 c2)).store 2 rfl 9 (.slice B m d2)
    simp only [zl] at K2
    have F2:=K2.facts
    simp only [zg] at F2
    have HB:=hid K2.below
    clear K2 H
    go_wp2_with fail
    refine bodyPost_ret (v:=.tuple #[.agg #[.int .i64 5,.int .i64 2,.bool nt,.int .i64 v.k,.int .i64 v.i,.string v.s,.string tab,.string nm,.slice A 0 c2,.slice B m d2],.bool true]) ?_ rfl ⟨by rw [HE.out,HF.out];rfl,HB.out⟩
    simp [results,Tryz.results189,go_sem,F2]
set_option maxRecDepth 100000 in
set_option maxHeartbeats 2000000 in
theorem J7 (w:World) (e:Ex) (h:e.kind≠4):Calls Tryz.prog 191 #[e.val] w fun r w' =>r=.returned (.tuple #[.int .i64 e.v.i,.bool ((e.kind==1)&&(e.v.k==1))])∧Below w.heap.size w w' :=by
 obtain ⟨k,op,nt,⟨vk,vi,vs⟩,tab,nm,A,n,c,args,B,m,d,sub⟩:=e
 simp only [Ex.val] at h ⊢
 have hq:(k==4)=false:=by simpa using h
 have K0:=(Hold.YD w).Za #[.int .i64 k,.int .i64 op,.bool nt,.int .i64 vk,.int .i64 vi,.string vs,.string tab,.string nm,.slice A n c,.slice B m d] 126
 have F:=K0.facts
 simp only [zg] at F
 have hB:=fun q=>(K0.drewN q).below
 have HB:=hid hB
 clear hB K0
 cases hk:(k==1)
 ·go_enter Tryz.func191,Tryz.ntmps191
  go_wp2_with fail
  go_quiet (fail)
  go_wp2_with fail
  refine bodyPost_ret (results_tmp2 rfl _ _ _) rfl ?_
  exact ⟨by simp [hk],HB.out _⟩
 ·go_enter Tryz.func191,Tryz.ntmps191
  go_wp2_with fail
  go_quiet (fail)
  go_wp2_with fail
  refine bodyPost_ret (results_tmp2 rfl _ _ _) rfl ?_
  exact ⟨by simp [hk],HB.out _⟩
set_option maxRecDepth 100000 in
set_option maxHeartbeats 2000000 in
theorem Ze8 (M:Nat→Prop) (w:World) (hM:∀ b,M b→b<w.heap.size) (e a:Ex) (d:Nat) (he:Ro w M (ExIn (d+1) e)) (h:e.kind=4) (ha:e.args=[a]) (hk:a.kind=1):Calls Tryz.prog 191 #[e.val] w fun r w' =>r=.returned (.tuple #[.int .i64 (IntKind.i64.wrap (-a.v.i)),.bool (a.v.k==1)])∧Below w.heap.size w w' :=by
 obtain ⟨k,op,nt,⟨vk,vi,vs⟩,tab,nm,A,n,c,args,B,m,d2,sub⟩:=e
 obtain ⟨ak,aop,ant,⟨avk,avi,avs⟩,atab,anm,aA,an,ac,aargs,aB,am,ad,asub⟩:=a
 simp only [Ex.val] at h ha hk ⊢
 subst h
 subst ha
 subst hk
 have K0:=((Hold.start M w hM).add (he.less (by simp [Mut]))).Za #[.int .i64 4,.int .i64 op,.bool nt,.int .i64 vk,.int .i64 vi,.string vs,.string tab,.string nm,.slice A n c,.slice B m d2] 126
 have hx:=ExIn.succ.1 (K0.ro 1 rfl).now
 have hlen:1=n:=hx.1.len
 subst hlen
 obtain ⟨b2,o2,rfl,hb2,hc,hal⟩:=hx.1.at_ (k:=0) (x:=⟨1,aop,ant,⟨avk,avi,avs⟩,atab,anm,aA,an,ac,aargs,aB,am,ad,asub⟩) rfl
 have y0:=hc 0 _ (by omega) rfl
 have y1:=hc 1 _ (by omega) rfl
 have y2:=hc 2 _ (by omega) rfl
 have y3:=hc 3 _ (by omega) rfl
 have y4:=hc 4 _ (by omega) rfl
 have y5:=hc 5 _ (by omega) rfl
 have y6:=hc 6 _ (by omega) rfl
 have y7:=hc 7 _ (by omega) rfl
 have y8:=hc 8 _ (by omega) rfl
 have y9:=hc 9 _ (by omega) rfl
 simp only [Nat.zero_mul,Nat.add_zero] at y0 y1 y2 y3 y4 y5 y6 y7 y8 y9
 clear hc hx hal
 have F:=K0.facts
 simp only [zg] at F
 go_enter Tryz.func191,Tryz.ntmps191
 go_wp2_with fail
 refine (J7 _ ⟨1,aop,ant,⟨avk,avi,avs⟩,atab,anm,aA,an,ac,aargs,aB,am,ad,asub⟩ (show (1:Int)≠4 by decide)).mono ?_
 rintro r w1 ⟨rfl,b1⟩
 have K1:=K0.call b1
 clear K0 b1
 have HB:=hid K1.below
 rw [show (((1:Int)==1)&&(avk==1))=(avk==1) from rfl]
 go_wp2_with fail
 refine bodyPost_ret (results_tmp2 rfl _ _ _) rfl ?_
 exact ⟨by first|rfl|(simp;(first|(simp [wrap64,IntKind.wrap_i64];done)|(rw [IntKind.wrap_i64];rfl)|(rw [IntKind.wrap_i64];unfold wrap64;omega))),HB.out⟩
end Go.Proofs.YtnbbllkbefagmaaGreatDoor

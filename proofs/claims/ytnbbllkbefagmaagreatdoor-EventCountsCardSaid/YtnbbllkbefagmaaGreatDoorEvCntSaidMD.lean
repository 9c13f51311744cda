import Derived.Test.YtnbbllkbefagmaaGreatDoorEvCntSaidMC
import Derived.StillTail
import Derived.Tactics
import Derived.KernelRfl
import Derived.Test.YtnbbllkbefagmaaGreatDoorEvCntSaidMA
import Derived.Test.YtnbbllkbefagmaaGreatDoorProg
import Derived.Maps.OwnOps
import Derived.Maps.Views
import Derived.DeepKeys4
namespace Go.Proofs.YtnbbllkbefagmaaGreatDoor
open Go.RowKit
set_option linter.unusedVariables false
theorem Zbe {L:List Hp} (h:Apart L):∀ (is:List Nat),is.Nodup→Apart (is.filterMap (fun i=>L[i]?))
 | [],_=>trivial
 | i::is,hn=>by
  obtain ⟨h1,h2⟩:=List.nodup_cons.1 hn
  have ih:=Zbe h is h2
  rw [List.filterMap_cons]
  split
  ·exact ih
  ·rename_i a ha
   refine ⟨fun b hb k hk=>?_,ih⟩
   obtain ⟨j,hj,hjk⟩:=List.mem_filterMap.1 hk
   exact h.mem ha hjk (fun e=>h1 (e ▸ hj)) hb
theorem Hold.pick {M:Nat→Prop} {row:Option Nat} {w0 w:World} {L:List Hp} (K:Hold M row w0 w L) (is:List Nat) (hn:is.Nodup) {L' :List Hp} (hL:is.filterMap (fun i=>L[i]?)=L'):Hold M row w0 w L' :=by
 subst hL
 have hmem:∀ a∈is.filterMap (fun i=>L[i]?),a∈L:=fun a ha=>by
  obtain ⟨j,_,hj⟩:=List.mem_filterMap.1 ha
  exact List.mem_of_getElem? hj
 have e:∀ b,Mut M (is.filterMap (fun i=>L[i]?)) b→Mut M L b:=fun b hb=>by
  rcases hb with hb|⟨k,hk,hf⟩
  ·exact .inl hb
  ·exact .inr ⟨k,hmem k hk,hf⟩
 refine ⟨K.grow,K.low,fun k hk=>?_,fun k hk=>K.fresh k (hmem k hk),Zbe K.sep is hn⟩
 exact Hp.Xj (k:=k) (K.sat k (hmem k hk)) (Nat.le_refl _) (fun _ _ _=>rfl) (fun b _ hb=>e b hb) (fun _ _=>rfl) (fun _ _ _ _=>rfl)
end Go.Proofs.YtnbbllkbefagmaaGreatDoor
namespace Go.Proofs.YtnbbllkbefagmaaGreatDoor
open Go.RowKit
set_option linter.unusedVariables false
set_option linter.unusedSimpArgs false
structure Pl where
 fr:SlP Fr
 tb:SlP Sm
def Pl.val (p:Pl):Value:=.agg #[.slice p.fr.A p.fr.n p.fr.c,.slice p.tb.A p.tb.n p.tb.c]
def Zg (p:Pl) (w:World):Prop:=FrsIn p.fr w∧SmsIn p.tb w
structure PlB (p:Pl):Prop where
 f:p.fr.n≤p.fr.c∧p.fr.n≤100
 t:p.tb.n≤p.tb.c∧p.tb.n≤100
 fc:∀ f∈p.fr.l,f.cols.n≤100
 tc:∀ s∈p.tb.l,s.cols.n≤100
theorem FrsIn.len {s:SlP Fr} {w:World} (h:FrsIn s w):s.l.length=s.n:=SlP.In.len (s:=s) (k:=4) (cel:=Fr.cells) (P:=FrIn) h (by omega) (fun _=>rfl)
theorem FrsIn.at_ {s:SlP Fr} {w:World} (h:FrsIn s w) {k:Nat} {x:Fr} (hx:s.l[k]? =some x):
  ∃ b o,s.A=some ⟨b,o,none⟩∧b<w.heap.size∧(∀ j u,j<4→x.cells[j]? =some u→w.cell? ⟨b,o+k * 4+j,none⟩=some u)∧FrIn x w:=SlP.In.at_ (s:=s) (k:=4) (cel:=Fr.cells) (P:=FrIn) h (by omega) (fun _=>rfl) hx
theorem FrIn.cols {f:Fr} {w:World} (h:FrIn f w):SlR 4 f.cols.A f.cols.n (Zd f.cols.l) w:=h.1.1
def AllCol (l:List Ex):Prop:=∀ x∈l,∃ t n,x=ZN t n
theorem AllCol.snoc {l:List Ex} (h:AllCol l) (t n:ByteArray):AllCol (l++[ZN t n]):=fun x hx=>by
 rcases List.mem_append.1 hx with hx|hx
 ·exact h x hx
 ·exact ⟨t,n,by simpa using hx⟩
theorem QR (l:List Ex) (t n:ByteArray):Zv l++(#[.int .i64 2,.int .i64 0,.bool false,.int .i64 0,.int .i64 0,.string ⟨#[]⟩,.string t,.string n,.slice none 0 0,.slice none 0 0]:Array Value).toList=Zv (l++[ZN t n]):=by simp [Zv,Ex.cells,ZN,vlZ]
theorem Yo {α:Type} {l:List α} {n k:Nat} (h:l.length=n) (hk:k<n):∃ c,l[k]? =some c:=⟨l[k]'(by omega),List.getElem?_eq_getElem _⟩
def zeroE:Ex:=⟨0,0,false,vlZ,⟨#[]⟩,⟨#[]⟩,none,0,0,[],none,0,0,[]⟩
def ZcA (w:World) (T:Nat) (e:Ending) (w' :World):Prop:=∃ (x:Ex) (ok:Bool),e=.returned (.tuple #[x.val,.bool ok])∧((ok=false∧x=zeroE)∨∃ t n,x=ZN t n)∧Tp w' T∧w.grownBy w' (some T)
theorem Tryz.VD:ElemT Tryz.prog 37 126 10 136 (.agg #[.int .i64 0,.int .i64 0,.bool false,.int .i64 0,.int .i64 0,.string ⟨#[]⟩,.string ⟨#[]⟩,.string ⟨#[]⟩,.slice none 0 0,.slice none 0 0]):=⟨Tryz.underlying37,by kernel_rfl,rfl,by omega⟩
set_option maxRecDepth 100000 in
set_option maxHeartbeats 8000000 in
theorem JL (M:Nat→Prop) (T:Nat) (w:World) (hM:∀ b,M b→b<w.heap.size) (ht:Tp w T) (hMT:∀ b,M b→T≤b) (p:Pl) (want:Int) (hp:Ro w (Mut M [.tp T]) (Zg p)) (hB:PlB p):
  Calls Tryz.prog 153 #[.pointer (some ⟨T,0,none⟩),p.val,.int .i64 want] w fun e w' =>ZcA w T e w' :=by
 obtain ⟨⟨fA,fn,fc,fl⟩,⟨sA,sn,sc,sl⟩⟩:=p
 have hfn:fn≤100:=hB.f.2
 have HFC:=hid hB.fc
 have HL:=hid (show fl.length=fn from FrsIn.len hp.now.1)
 have KS:=(((Hold.Y5 M w T hM ht hMT).add (hp.imp fun w2 h2=>h2.1)).Za #[.slice fA fn fc,.slice sA sn sc] 177).alloc #[.int .i64 0,.int .i64 0,.bool false,.int .i64 0,.int .i64 0,.string ⟨#[]⟩,.string ⟨#[]⟩,.string ⟨#[]⟩,.slice none 0 0,.slice none 0 0] 126
 rw [World.size_alloc] at KS
 obtain ⟨gp,hgp⟩:∃ g,g=w.heap.size:=⟨_,rfl⟩
 rw [←hgp] at KS
 obtain ⟨gr,hgr⟩:∃ g,g=gp+1:=⟨_,rfl⟩
 rw [←hgr] at KS
 have K0:=(KS.perm (L' :=[.cst gp 177 #[.slice fA fn fc,.slice sA sn sc],.ro (FrsIn ⟨fA,fn,fc,fl⟩),.blk gr 126 #[.int .i64 0,.int .i64 0,.bool false,.int .i64 0,.int .i64 0,.string ⟨#[]⟩,.string ⟨#[]⟩,.string ⟨#[]⟩,.slice none 0 0,.slice none 0 0],.tp T]) (by
  refine (List.Perm.swap _ _ _).trans ?_
  exact ((List.Perm.swap _ _ _).cons _))).nil 126 10
 have F0:=K0.facts
 simp only [zg] at F0
 simp only [Pl.val]
 clear KS hp hB
 go_enter Tryz.func153,Tryz.ntmps153
 go_wp2_with fail
 rw [←hgp]
 try rw [←hgr]
 have HG:=hid (And.intro hgp hgr)
 clear hgp hgr F0
 go_loopw [8,16] (fun ov iv wr=>∃ (j k cap:Nat) (O:Option Addr) (outs:List Ex),j≤fn∧iv=.int .i64 j∧ov=.slice O k cap∧k≤200 * j∧AllCol outs∧Hold M (some T) w wr [.own 126 10 (.slice O k cap) k (Zv outs),.cst gp 177 #[.slice fA fn fc,.slice sA sn sc],.ro (FrsIn ⟨fA,fn,fc,fl⟩),.blk gr 126 #[.int .i64 0,.int .i64 0,.bool false,.int .i64 0,.int .i64 0,.string ⟨#[]⟩,.string ⟨#[]⟩,.string ⟨#[]⟩,.slice none 0 0,.slice none 0 0],.tp T]) (fun _ iv _=>fn - (intOf iv).toNat)
 case atStart=>exact ⟨0,0,0,none,[],by omega,rfl,rfl,by omega,fun x hx=>(nomatch hx),K0⟩
 case round=>
  clear K0
  obtain ⟨j,k,cap,O,outs,hj,rfl,rfl,hkb,hall,H⟩:=hrel
  by_cases hlt:j<fn
  ·obtain ⟨⟨fnm,fst,⟨cA,cn,cc,cl⟩,⟨vA,vn,vc,vl⟩⟩,hc⟩:=Yo HL.out hlt
   obtain ⟨b,o,rfl,hb,hcl,-⟩:=FrsIn.at_ (H.ro 2 rfl).now hc
   have c0:=hcl 0 _ (by omega) rfl
   have c1:=hcl 1 _ (by omega) rfl
   have c2:=hcl 2 _ (by omega) rfl
   have c3:=hcl 3 _ (by omega) rfl
   simp only [Nat.add_zero,SlP.v] at c0 c1 c2 c3
   clear hcl
   have hcn:cn≤100:=HFC.out _ (List.mem_of_getElem? hc)
   have HM:=hid (List.mem_of_getElem? hc)
   clear hc
   have KI:=((H.Za #[.string fnm,.bool fst,.slice cA cn cc,.slice vA vn vc] 210).add (S:=SlR 4 cA cn (Zd cl)) (((H.Za #[.string fnm,.bool fst,.slice cA cn cc,.slice vA vn vc] 210).ro 3 rfl).imp fun w2 h2=>(h2.2 _ HM.out).cols)).pick [2,1,0,3,4,5,6] (by decide) rfl
   obtain ⟨gF,hgF⟩:∃ g,g=wr.heap.size:=⟨_,rfl⟩
   have K1:Hold M (some T) w (wr.alloc (.cells #[.string fnm,.bool fst,.slice cA cn cc,.slice vA vn vc] 210)) [.own 126 10 (.slice O k cap) k (Zv outs),.cst gF 210 #[.string fnm,.bool fst,.slice cA cn cc,.slice vA vn vc],.ro (SlR 4 cA cn (Zd cl)),.cst gp 177 #[.slice (some ⟨b,o,none⟩) fn fc,.slice sA sn sc],.ro (FrsIn ⟨some ⟨b,o,none⟩,fn,fc,fl⟩),.blk gr 126 #[.int .i64 0,.int .i64 0,.bool false,.int .i64 0,.int .i64 0,.string ⟨#[]⟩,.string ⟨#[]⟩,.string ⟨#[]⟩,.slice none 0 0,.slice none 0 0],.tp T]:=by rw [hgF];exact KI
   have F1:=K1.facts
   simp only [zg] at F1
   clear KI H
   have hA:cn=0∨∃ b2 o2,cA=some ⟨b2,o2,none⟩:=by
    rcases Nat.eq_zero_or_pos cn with h0|h0
    ·exact .inl h0
    ·obtain ⟨b2,o2,e,_⟩:=(show Rd _ _ 4 cA cn (Zd cl) from (K1.ro 2 rfl).now).2 h0
     exact .inr ⟨b2,o2,e⟩
   rcases hA with rfl|⟨b2,o2,rfl⟩
   ·go_wp2_with fail
    rw [←hgF]
    have HGF:=hid hgF
    clear hgF F1 c0 c1 c2 c3
    have HCL:=hid (show cl.length=0 from (RdC.Zy (K1.ro 2 rfl).now).len)
    go_loopw [8,24] (fun ov iv wr2=>∃ (j2 k2 cap2:Nat) (O2:Option Addr) (outs2:List Ex),j2≤0∧iv=.int .i64 j2∧ov=.slice O2 k2 cap2∧k2≤200 * j+2 * j2∧AllCol outs2∧Hold M (some T) w wr2 [.own 126 10 (.slice O2 k2 cap2) k2 (Zv outs2),.cst gF 210 #[.string fnm,.bool fst,.slice cA 0 cc,.slice vA vn vc],.ro (SlR 4 cA 0 (Zd cl)),.cst gp 177 #[.slice (some ⟨b,o,none⟩) fn fc,.slice sA sn sc],.ro (FrsIn ⟨some ⟨b,o,none⟩,fn,fc,fl⟩),.blk gr 126 #[.int .i64 0,.int .i64 0,.bool false,.int .i64 0,.int .i64 0,.string ⟨#[]⟩,.string ⟨#[]⟩,.string ⟨#[]⟩,.slice none 0 0,.slice none 0 0],.tp T]) (fun _ iv _=>0 - (intOf iv).toNat)
    case atStart=>exact ⟨0,k,cap,O,outs,by omega,rfl,rfl,by omega,hall,K1⟩
    case round=>
     clear K1
     obtain ⟨j2,k2,cap2,O2,outs2,hj2,rfl,rfl,hkb2,hall2,H⟩:=hrel
     obtain rfl:j2=0:=by omega
     have F:=H.facts
     simp only [zg] at F
     go_wp2_with fail
     go_roundw
     case rel=>exact ⟨j+1,k2,cap2,O2,outs2,by omega,by go_num,by first|rfl|trivial,by omega,hall2,H.pick [0,3,4,5,6] (by decide) rfl⟩
     case measure=>simp [intOf];omega
   ·go_wp2_with fail
    rw [←hgF]
    have HGF:=hid hgF
    clear hgF F1 c0 c1 c2 c3
    have HCL:=hid (show cl.length=cn from (RdC.Zy (K1.ro 2 rfl).now).len)
    go_loopw [8,24] (fun ov iv wr2=>∃ (j2 k2 cap2:Nat) (O2:Option Addr) (outs2:List Ex),j2≤cn∧iv=.int .i64 j2∧ov=.slice O2 k2 cap2∧k2≤200 * j+2 * j2∧AllCol outs2∧Hold M (some T) w wr2 [.own 126 10 (.slice O2 k2 cap2) k2 (Zv outs2),.cst gF 210 #[.string fnm,.bool fst,.slice (some ⟨b2,o2,none⟩) cn cc,.slice vA vn vc],.ro (SlR 4 (some ⟨b2,o2,none⟩) cn (Zd cl)),.cst gp 177 #[.slice (some ⟨b,o,none⟩) fn fc,.slice sA sn sc],.ro (FrsIn ⟨some ⟨b,o,none⟩,fn,fc,fl⟩),.blk gr 126 #[.int .i64 0,.int .i64 0,.bool false,.int .i64 0,.int .i64 0,.string ⟨#[]⟩,.string ⟨#[]⟩,.string ⟨#[]⟩,.slice none 0 0,.slice none 0 0],.tp T]) (fun _ iv _=>cn - (intOf iv).toNat)
    case atStart=>exact ⟨0,k,cap,O,outs,by omega,rfl,rfl,by omega,hall,K1⟩
    case round=>
     clear K1
     obtain ⟨j2,k2,cap2,O2,outs2,hj2,rfl,rfl,hkb2,hall2,H⟩:=hrel
     by_cases hlt2:j2<cn
     ·obtain ⟨⟨xnm,xty,xnn,xkey⟩,hc⟩:=YA HCL.out hlt2
      obtain ⟨b2',o2',hcA,hb2,x0,x1,x2,x3⟩:=(RdC.Zy (H.ro 2 rfl).now).at_ hc
      obtain ⟨rfl,rfl⟩:b2=b2' ∧o2=o2' :=by injection hcA with hcA;injection hcA with e1 e2;exact ⟨e1,e2⟩
      clear hcA
      simp only at x0 x1 x2 x3
      clear hc
      have K2:=H.Za #[.string xnm,.int .i64 xty,.bool xnn,.bool xkey] 158
      have F2:=K2.facts
      simp only [zg] at F2
      clear H
      by_cases hty:xty=want
      ·subst hty
       go_wp2_with fail
       refine (XX _ fnm xnm).mono ?_
       rintro e w3 ⟨rfl,b3⟩
       have K3:=K2.call b3
       rw [show (ZN fnm xnm).val=.agg #[.int .i64 2,.int .i64 0,.bool false,.int .i64 0,.int .i64 0,.string ⟨#[]⟩,.string fnm,.string xnm,.slice none 0 0,.slice none 0 0] from rfl]
       clear K2 F2 b3
       have F3:=K3.facts
       simp only [zg] at F3
       have hs1:IntKind.i64.wrap ((fn:Int) - 1)=(fn:Int) - 1:=IntWalk.i64_in _ (by omega)
       cases hnf:(!fst)
       ·skip
        go_wp2_with (at_builtin;go_must (refine ZH K3 1 rfl Tryz.VD #[.int .i64 2,.int .i64 0,.bool false,.int .i64 0,.int .i64 0,.string ⟨#[]⟩,.string fnm,.string xnm,.slice none 0 0,.slice none 0 0] rfl (.tmp 32) (.tmp 38) rfl rfl _ (by first|rfl|simp) rfl rfl (by intro u hu;simp at hu;rcases hu with rfl|rfl|rfl|rfl|rfl|rfl|rfl|rfl|rfl|rfl<;>rfl) (by omega) (by omega) ?_);intro gA capA wA hcA hmA KA;rw [QR (outs2) fnm xnm] at KA;simp only [zl] at KA;have FA:=KA.facts;simp only [zg] at FA)
        go_roundw
        case rel=>exact ⟨j2+1,k2+1,capA,_,outs2++[ZN fnm xnm],by omega,by go_num,by first|rfl|trivial,by omega,hall2.snoc fnm xnm,KA.drop (List.sublist_cons_self _ _)⟩
        case measure=>simp [intOf];omega
       ·cases hje:((j:Int)==(fn:Int) - 1)
        ·skip
         go_wp2_with (at_builtin;go_must (refine ZH K3 1 rfl Tryz.VD #[.int .i64 2,.int .i64 0,.bool false,.int .i64 0,.int .i64 0,.string ⟨#[]⟩,.string fnm,.string xnm,.slice none 0 0,.slice none 0 0] rfl (.tmp 32) (.tmp 38) rfl rfl _ (by first|rfl|simp) rfl rfl (by intro u hu;simp at hu;rcases hu with rfl|rfl|rfl|rfl|rfl|rfl|rfl|rfl|rfl|rfl<;>rfl) (by omega) (by omega) ?_);intro gA capA wA hcA hmA KA;rw [QR (outs2) fnm xnm] at KA;simp only [zl] at KA;have FA:=KA.facts;simp only [zg] at FA)
         go_roundw
         case rel=>exact ⟨j2+1,k2+1,capA,_,outs2++[ZN fnm xnm],by omega,by go_num,by first|rfl|trivial,by omega,hall2.snoc fnm xnm,KA.drop (List.sublist_cons_self _ _)⟩
         case measure=>simp [intOf];omega
        ·skip
         go_wp2_with (at_builtin;go_must (refine ZH K3 1 rfl Tryz.VD #[.int .i64 2,.int .i64 0,.bool false,.int .i64 0,.int .i64 0,.string ⟨#[]⟩,.string fnm,.string xnm,.slice none 0 0,.slice none 0 0] rfl (.tmp 32) (.tmp 38) rfl rfl _ (by first|rfl|simp) rfl rfl (by intro u hu;simp at hu;rcases hu with rfl|rfl|rfl|rfl|rfl|rfl|rfl|rfl|rfl|rfl<;>rfl) (by omega) (by omega) ?_);intro gA capA wA hcA hmA KA;rw [QR (outs2) fnm xnm] at KA;simp only [zl] at KA;have FA:=KA.facts;simp only [zg] at FA)
         refine (XX _ ⟨#[]⟩ xnm).mono ?_
         rintro e w4 ⟨rfl,b4⟩
         have K4:=KA.call b4
         rw [show (ZN ⟨#[]⟩ xnm).val=.agg #[.int .i64 2,.int .i64 0,.bool false,.int .i64 0,.int .i64 0,.string ⟨#[]⟩,.string ⟨#[]⟩,.string xnm,.slice none 0 0,.slice none 0 0] from rfl]
         clear KA FA K3 F3 b4
         go_wp2_with (at_builtin;go_must (refine ZH K4 1 rfl Tryz.VD #[.int .i64 2,.int .i64 0,.bool false,.int .i64 0,.int .i64 0,.string ⟨#[]⟩,.string ⟨#[]⟩,.string xnm,.slice none 0 0,.slice none 0 0] rfl (.tmp 51) (.tmp 55) rfl rfl _ (by first|rfl|simp) rfl rfl (by intro u hu;simp at hu;rcases hu with rfl|rfl|rfl|rfl|rfl|rfl|rfl|rfl|rfl|rfl<;>rfl) (by omega) (by omega) ?_);intro gB capB wB hcB hmB KB;rw [QR (outs2++[ZN fnm xnm]) ⟨#[]⟩ xnm] at KB;simp only [zl] at KB;have FB:=KB.facts;simp only [zg] at FB)
         go_roundw
         case rel=>exact ⟨j2+1,k2+1+1,capB,_,outs2++[ZN fnm xnm]++[ZN ⟨#[]⟩ xnm],by omega,by go_num,by first|rfl|trivial,by omega,(hall2.snoc fnm xnm).snoc ⟨#[]⟩ xnm,KB.drop (List.sublist_cons_self _ _)⟩
         case measure=>simp [intOf];omega
      ·have htb:(xty !=want)=true:=by simpa using hty
       go_wp2_with fail
       all_goals first
        | (exfalso;omega)
        | skip
       go_roundw
       case rel=>exact ⟨j2+1,k2,cap2,_,outs2,by omega,by go_num,by first|rfl|trivial,by omega,hall2,K2.drop (List.sublist_cons_self _ _)⟩
       case measure=>simp [intOf];omega
     ·obtain rfl:cn=j2:=by omega
      have F:=H.facts
      simp only [zg] at F
      go_wp2_with fail
      go_roundw
      case rel=>exact ⟨j+1,k2,cap2,O2,outs2,by omega,by go_num,by first|rfl|trivial,by omega,hall2,H.pick [0,3,4,5,6] (by decide) rfl⟩
      case measure=>simp [intOf];omega
  ·obtain rfl:fn=j:=by omega
   by_cases hk0:k=0
   ·subst hk0
    have K5:=H
    have F5:=K5.facts
    simp only [zg] at F5
    have K6:=((((((((((K5.store 3 rfl 0 (.int .i64 0)).store 3 rfl 1 (.int .i64 0)).store 3 rfl 2 (.bool false)).store 3 rfl 3 (.int .i64 0)).store 3 rfl 4 (.int .i64 0)).store 3 rfl 5 (.string ⟨#[]⟩)).store 3 rfl 6 (.string ⟨#[]⟩)).store 3 rfl 7 (.string ⟨#[]⟩)).store 3 rfl 8 (.slice none 0 0)).store 3 rfl 9 (.slice none 0 0))
    simp only [zl] at K6
    have F6:=K6.facts
    simp only [zg] at F6
    have HT:=hid (And.intro (K6.tp_ 4 rfl) K6.grow)
    clear H K5 K6
    go_wp2_with fail
    refine bodyPost_ret (v:=.tuple #[.agg #[.int .i64 0,.int .i64 0,.bool false,.int .i64 0,.int .i64 0,.string ⟨#[]⟩,.string ⟨#[]⟩,.string ⟨#[]⟩,.slice none 0 0,.slice none 0 0],.bool false]) ?_ rfl ?_
    ·clear HT
     simp [results,Tryz.results153,go_sem,F6]
    ·exact ⟨zeroE,false,rfl,.inl ⟨rfl,rfl⟩,HT.out.1,HT.out.2⟩
   ·have hkk:((k:Int)==0)=false:=by simp;omega
    have hlo:Zv outs=Zv outs:=rfl
    have hcap:=ZR (H.get 0 rfl)
    obtain ⟨-,-,h0⟩|⟨go1,rfl,-⟩:=U5 (H.get 0 rfl)
    ·omega
    have hlen:outs.length=k:=by
     have h1:=(H.get 0 rfl).1
     rw [Wu] at h1
     omega
    go_wp2_with fail
    refine (ZT T k _ (H.tp_ 4 rfl) (by omega) (by omega)).mono ?_
    rintro e w3 ⟨r,rfl,r0,r1,t3,g3⟩
    have K5:=Hold.Zf H 4 rfl g3 t3
    clear g3 t3
    obtain ⟨r,rfl⟩:=Int.eq_ofNat_of_zero_le r0
    have hrk:r<k:=by omega
    obtain ⟨x,hx⟩:=Yo hlen hrk
    obtain ⟨xt,xn,rfl⟩:=hall x (List.mem_of_getElem? hx)
    have KS:=K5.Zu 0 rfl
    simp only [List.set_cons_zero] at KS
    obtain ⟨b5,o5,e5,hb5,hcl⟩:=(show Rd _ _ 10 (some ⟨go1,0,none⟩) k (Zv outs) from (KS.ro 0 rfl).now).2 (by omega)
    obtain ⟨rfl,rfl⟩:go1=b5∧0=o5:=by injection e5 with e5;injection e5 with x1 x2;exact ⟨x1,x2⟩
    have hcc:∀ q u,q<10→(ZN xt xn).cells[q]? =some u→w3.cell? ⟨go1,r * 10+q,none⟩=some u:=fun q u hq hu=>by
     have:=hcl _ _ ((flat_get Ex.cells 10 (fun _=>rfl) outs r q (ZN xt xn) hq hx).trans hu)
     simpa using this
    have y0:=hcc 0 _ (by omega) rfl
    have y1:=hcc 1 _ (by omega) rfl
    have y2:=hcc 2 _ (by omega) rfl
    have y3:=hcc 3 _ (by omega) rfl
    have y4:=hcc 4 _ (by omega) rfl
    have y5:=hcc 5 _ (by omega) rfl
    have y6:=hcc 6 _ (by omega) rfl
    have y7:=hcc 7 _ (by omega) rfl
    have y8:=hcc 8 _ (by omega) rfl
    have y9:=hcc 9 _ (by omega) rfl
    simp only [Nat.add_zero,ZN,vlZ] at y0 y1 y2 y3 y4 y5 y6 y7 y8 y9
    clear hcc hcl hx
    have FS:=KS.facts
    simp only [zg] at FS
    have K6:=((((((((((KS.store 3 rfl 0 (.int .i64 2)).store 3 rfl 1 (.int .i64 0)).store 3 rfl 2 (.bool false)).store 3 rfl 3 (.int .i64 0)).store 3 rfl 4 (.int .i64 0)).store 3 rfl 5 (.string ⟨#[]⟩)).store 3 rfl 6 (.string xt)).store 3 rfl 7 (.string xn)).store 3 rfl 8 (.slice none 0 0)).store 3 rfl 9 (.slice none 0 0))
    simp only [zl] at K6
    have F6:=K6.facts
    simp only [zg] at F6
    have HT:=hid (And.intro (K6.tp_ 4 rfl) K6.grow)
    clear H K5 K6 KS
    go_wp2_with fail
    refine bodyPost_ret (v:=.tuple #[.agg #[.int .i64 2,.int .i64 0,.bool false,.int .i64 0,.int .i64 0,.string ⟨#[]⟩,.string xt,.string xn,.slice none 0 0,.slice none 0 0],.bool true]) ?_ rfl ?_
    ·clear HT
     simp [results,Tryz.results153,go_sem,F6]
    ·exact ⟨ZN xt xn,true,rfl,.inr ⟨xt,xn,rfl⟩,HT.out.1,HT.out.2⟩
end Go.Proofs.YtnbbllkbefagmaaGreatDoor
namespace Go.Proofs.YtnbbllkbefagmaaGreatDoor
open Go
set_option linter.unusedVariables false
set_option linter.unusedSectionVars false
set_option linter.unusedSimpArgs false
def slot (a:Act):Option Tmp→Value
 | some t=>a.tmps.getD t undef
 | none=>undef
section
variable (P:Program) (ops:Array Oper) (C:World→Prop) (G:Option Tmp→Value→World→Prop) (R:World→World→Prop)
def Yl (o:Oper) (a:Act) (w:World):Prop:=∀ e∈o.after,Region.binds .any e=true→∀ oe,ops[e.on]? =some oe→G oe.dst (slot a oe.dst) w
def WP (d:Option Tmp) (w:World):Result Next→Prop
 | .ok (.value u) w' =>G d u w' ∧C w' ∧R w w'
 | .ok .skip w' =>G d undef w' ∧C w' ∧R w w'
 | .ok (.enter f args) w' =>Calls P f args w' fun e w'' =>∃ u,e=.returned u∧G d u w'' ∧C w'' ∧R w w''
 | _=>False
def Good (o:Oper) (a:Act) (w:World):Prop:=WP P C G R o.dst w ((execOp a.eval o).run P w)
def zq (u:Value):Result Next→Prop
 | .ok (.value x) _=>u=x
 | .ok .skip _=>u=undef
 | .ok (.enter _ _) _=>True
 | _=>False
def StepOk (o:Oper) (a:Act):Prop:=
 if Region.wanted o (yielded ops a.tmps)=true then ∀ w,C w→Yl ops G o a w→Good P C G R o a w else ∀ w,C w→G o.dst undef w
def May (o:Oper) (a:Act) (u:Value):Prop:=
 if Region.wanted o (yielded ops a.tmps)=true then ∃ w,C w∧Yl ops G o a w∧zq u ((execOp a.eval o).run P w) else u=undef
def Inh (S:Array Bool) (k:Nat) (a:Act):Prop:=∃ w,C w∧∀ j oj,ops[j]? =some oj→(S.getD j false=true∨j<k)→G oj.dst (slot a oj.dst) w
def Wk (S:Array Bool) (F:Act→Prop):Nat→Nat→Act→Prop
 | 0,k,a=>Inh ops C G S k a→F a
 | m+1,k,a=>Inh ops C G S k a→match ops[k]? with
  | none=>False
  | some o=>if S.getD k false=true then Wk S F m (k+1) a else StepOk P ops C G R o a∧∀ u,May P ops C G o a u→Inh ops C G S (k+1) (a.put o.dst u)→Wk S F m (k+1) (a.put o.dst u)
def Inv (S:Array Bool) (a:Act) (w:World):Prop:=C w∧∀ j oj,ops[j]? =some oj→S.getD j false=true→G oj.dst (slot a oj.dst) w
end
section
variable {P:Program} {ops:Array Oper} {C:World→Prop} {G:Option Tmp→Value→World→Prop} {R:World→World→Prop}
def UW (ops:Array Oper) (n:Nat):Bool:=
 (List.range ops.size).all fun i=>match (ops[i]?).bind (·.dst) with
  | none=>true
  | some d=>decide (d<n)&&(List.range ops.size).all fun j=>j==i||(ops[j]?).bind (·.dst) !=some d
theorem zR {n i:Nat} {o:Oper} {d:Tmp} (h:UW ops n=true) (hi:ops[i]? =some o) (hd:o.dst=some d):d<n:=by
 have h1:=List.all_eq_true.1 h i (List.mem_range.2 (Array.getElem?_eq_some_iff.1 hi).1)
 simp only [hi,Option.bind_some,hd,Bool.and_eq_true,decide_eq_true_eq] at h1
 exact h1.1
theorem QQ {n i j:Nat} {o o' :Oper} {d:Tmp} (h:UW ops n=true) (hi:ops[i]? =some o) (hj:ops[j]? =some o') (hd:o.dst=some d) (hij:j≠i):o'.dst≠some d:=by
 have h1:=List.all_eq_true.1 h i (List.mem_range.2 (Array.getElem?_eq_some_iff.1 hi).1)
 simp only [hi,Option.bind_some,hd,Bool.and_eq_true] at h1
 have h2:=List.all_eq_true.1 h1.2 j (List.mem_range.2 (Array.getElem?_eq_some_iff.1 hj).1)
 simp only [hj,Option.bind_some,Bool.or_eq_true,beq_iff_eq,bne_iff_ne,ne_eq] at h2
 exact h2.resolve_left hij
theorem Jh {a:Act} {x y:Option Tmp} {v:Value} (h:∀ d,x=some d→y≠some d):slot (a.put x v) y=slot a y:=by
 cases x with
 | none=>rfl
 | some d=>
  cases y with
  | none=>rfl
  | some t=>
   have hne:d≠t:=fun e=>h d rfl (by rw [e])
   simp only [Act.put,slot,Array.getD_eq_getD_getElem?,Array.getElem?_setIfInBounds_ne hne]
theorem Zbm {a:Act} {d:Tmp} {v:Value} (h:d<a.tmps.size):slot (a.put (some d) v) (some d)=v:=by
 simp [Act.put,slot,h]
theorem size_put {a:Act} {x:Option Tmp} {v:Value}:(a.put x v).tmps.size=a.tmps.size:=by
 cases x<;>simp [Act.put]
structure Aside (ops:Array Oper) (o o' :Oper):Prop where
 sel:∀ cs b,o.op≠.select cs b
 look:∀ d,o'.dst=some d→d ∉ o.looksAt ops
 deps:∀ e∈o.after,Region.binds .any e=true→∀ oe,ops[e.on]? =some oe→∀ d,o'.dst=some d→oe.dst≠some d
theorem Aside.wanted {o o' :Oper} (h:Aside ops o o') (a:Act) (v:Value):Region.wanted o (yielded ops (a.put o'.dst v).tmps)=Region.wanted o (yielded ops a.tmps):=wanted_put o a o'.dst v h.look
theorem Aside.exec {o o' :Oper} (h:Aside ops o o') (a:Act) (v:Value):execOp (a.put o'.dst v).eval o=execOp a.eval o:=execOp_put (ops:=ops) o h.sel a o'.dst v h.look
theorem Aside.Zb8 {o o' :Oper} (h:Aside ops o o') (a:Act) (v:Value) (w:World):Yl ops G o (a.put o'.dst v) w↔Yl ops G o a w:=by
 constructor
 ·intro k e he hb oe hoe
  have:=k e he hb oe hoe
  rwa [Jh (h.deps e he hb oe hoe)] at this
 ·intro k e he hb oe hoe
  rw [Jh (h.deps e he hb oe hoe)]
  exact k e he hb oe hoe
theorem Aside.step {o o' :Oper} (h:Aside ops o o') (a:Act) (v:Value):StepOk P ops C G R o (a.put o'.dst v)↔StepOk P ops C G R o a:=by
 unfold StepOk Good
 rw [h.wanted,h.exec]
 simp only [h.Zb8]
theorem Aside.may {o o' :Oper} (h:Aside ops o o') (a:Act) (v u:Value):May P ops C G o (a.put o'.dst v) u↔May P ops C G o a u:=by
 unfold May
 rw [h.wanted,h.exec]
 simp only [h.Zb8]
variable {n N:Nat} {F:Act→Prop}
structure Shape (ops:Array Oper) (n N:Nat):Prop where
 dsts:UW ops N=true
 le:n≤ops.size
 back:∀ k o,ops[k]? =some o→k<n→∀ e∈o.after,Region.binds .any e=true→e.on<k
 aside:∀ k i ok oi,k<i→i<n→ops[k]? =some ok→ops[i]? =some oi→(∀ e∈oi.after,Region.binds .any e=true→e.on≠k)→ok.apart ops oi=true
 sel:∀ (j:Nat) (o:Oper) cs b,ops[j]? =some o→o.op≠.select cs b
theorem Shape.Zce (h:Shape ops n N) {k i:Nat} {ok oi:Oper} (hki:k<i) (hi:i<n) (hk' :ops[k]? =some ok) (hi' :ops[i]? =some oi) (hno:∀ e∈oi.after,Region.binds .any e=true→e.on≠k):Aside ops oi ok∧Aside ops ok oi:=by
 obtain ⟨h1,h2,h3⟩:=Oper.apart_spec (h.aside k i ok oi hki hi hk' hi' hno)
 refine ⟨⟨fun cs b=>h.sel i oi cs b hi',h1,fun e he hb oe hoe d hd=>?_⟩,⟨fun cs b=>h.sel k ok cs b hk',h3,fun e he hb oe hoe d hd=>?_⟩⟩
 ·exact QQ h.dsts hk' hoe hd (hno e he hb)
 ·have:=h.back k ok hk' (by omega) e he hb
  exact QQ h.dsts hi' hoe hd (by omega)
section
variable (sh:Shape ops n N) (hmono:∀ d u w w',R w w' →G d u w→G d u w')
include sh hmono
theorem UB {S:Array Bool} {i:Nat} {oi:Oper} {a:Act} {u:Value} (hi:ops[i]? =some oi) {j:Nat} {oj:Oper} (hj:ops[j]? =some oj) (hji:j≠i):slot (a.put oi.dst u) oj.dst=slot a oj.dst:=
 Jh fun d hd=>QQ sh.dsts hi hj hd hji
theorem J2 {i:Nat} {oi:Oper} {a:Act} {u:Value} (hN:a.tmps.size=N) (hi:ops[i]? =some oi) {w:World} (h:G oi.dst u w) (hu:oi.dst=none→G none undef w):G oi.dst (slot (a.put oi.dst u) oi.dst) w:=by
 cases hd:oi.dst with
 | none=>simpa [slot] using hu hd
 | some d=>
  rw [Zbm (by rw [hN];exact zR sh.dsts hi hd),←hd]
  exact h
theorem StepOk.some_ {k:Nat} {o:Oper} {a:Act} {w:World} (h:StepOk P ops C G R o a) (hC:C w) (hD:Yl ops G o a w) (hR:R w w):∃ u w',May P ops C G o a u∧C w' ∧R w w' ∧G o.dst u w' :=by
 unfold StepOk at h
 unfold May
 split at h
 ·rename_i hw
  simp only [hw,if_true]
  have hg:=h w hC hD
  unfold Good at hg
  have key:∀ r,(execOp a.eval o).run P w=r→WP P C G R o.dst w r→∃ u w',(∃ w,C w∧Yl ops G o a w∧zq u ((execOp a.eval o).run P w))∧C w' ∧R w w' ∧G o.dst u w' :=by
   intro r hr hg
   cases r with
   | ok nx w' =>
    cases nx<;>simp only [WP] at hg
    case value u=>exact ⟨u,w',⟨w,hC,hD,by rw [hr];rfl⟩,hg.2.1,hg.2.2,hg.1⟩
    case skip=>exact ⟨undef,w',⟨w,hC,hD,by rw [hr];rfl⟩,hg.2.1,hg.2.2,hg.1⟩
    case enter f args=>
     obtain ⟨e,w2,fr,⟨u,_,h1,h2,h3⟩,_⟩:=hg []
     exact ⟨u,w2,⟨w,hC,hD,by rw [hr];trivial⟩,h2,h3,h1⟩
   | halt x w' =>simp only [WP] at hg
  exact key _ rfl hg
 ·rename_i hw
  simp only [hw,if_false]
  exact ⟨undef,w,rfl,hC,hR,h w hC⟩
theorem Wk.past {S:Array Bool} {i:Nat}:∀ (m k:Nat) (a:Act),i<k→i<S.size→Wk P ops C G R S F m k a→Wk P ops C G R (S.setIfInBounds i true) F m k a
 | 0,k,a,hk,hS,h=>fun ⟨w,hw,hg⟩=>h ⟨w,hw,fun j oj hj hs=>hg j oj hj (hs.imp (getD_set_true ·) id)⟩
 | m+1,k,a,hk,hS,h=>fun hI=>by
  obtain ⟨w,hw,hg⟩:=hI
  have hI' :Inh ops C G S k a:=⟨w,hw,fun j oj hj hs=>hg j oj hj (hs.imp (getD_set_true ·) id)⟩
  have h1:=h hI'
  cases ho:ops[k]? with
  | none=>simp only [ho] at h1
  | some o=>
   simp only [ho] at h1 ⊢
   rw [getD_set_ne false (by omega:i≠k)]
   split at h1
   ·rename_i hs
    simp only [hs,if_true]
    exact Wk.past m (k+1) a (by omega) hS h1
   ·rename_i hs
    simp only [hs,if_false]
    refine ⟨h1.1,fun u hu hI2=>Wk.past m (k+1) _ (by omega) hS (h1.2 u hu ?_)⟩
    obtain ⟨w,hw,hg⟩:=hI2
    exact ⟨w,hw,fun j oj hj hs=>hg j oj hj (hs.imp (getD_set_true ·) id)⟩
theorem Wk.front {S:Array Bool} {i:Nat} {oi:Oper} (hi:ops[i]? =some oi) (hin:i<n) (hS:S.size=ops.size) (hun:S.getD i false=false) (hw:∀ e∈oi.after,Region.binds .any e=true→S.getD e.on false=true) {u:Value}:
  ∀ (m k:Nat) (a:Act),k≤i→k+m=n→a.tmps.size=N→May P ops C G oi a u→Wk P ops C G R S F m k a→Wk P ops C G R (S.setIfInBounds i true) F m k (a.put oi.dst u)
 | 0,k,a,hk,hkm,_,_,h=>by omega
 | m+1,k,a,hk,hkm,hN,hu,h=>fun hI=>by
  have hiS:i<S.size:=by rw [hS];exact (Array.getElem?_eq_some_iff.1 hi).1
  obtain ⟨w,hw',hg⟩:=hI
  have hI' :Inh ops C G S k a:=⟨w,hw',fun j oj hj hs=>by
   have hji:j≠i:=by
    rintro rfl
    rcases hs with hs|hs
    ·rw [hun] at hs;cases hs
    ·omega
   have:=hg j oj hj (hs.imp (getD_set_true ·) id)
   rwa [UB sh hmono (S:=S) hi hj hji] at this⟩
  have h1:=h hI'
  by_cases hki:k=i
  ·subst hki
   simp only [hi,hun,if_false,Bool.false_eq_true] at h1
   simp only [hi]
   have hst:(S.setIfInBounds k true).getD k false=true:=by simp [hiS]
   simp only [hst,if_true]
   refine Wk.past sh hmono m (k+1) _ (by omega) hiS (h1.2 u hu ⟨w,hw',fun j oj hj hs=>hg j oj hj ?_⟩)
   by_cases hjk:j=k
   ·subst hjk;exact .inl hst
   ·rcases hs with hs|hs
    ·exact .inl (getD_set_true hs)
    ·exact .inr (by omega)
  ·cases ho:ops[k]? with
   | none=>simp only [ho] at h1
   | some o=>
    simp only [ho] at h1 ⊢
    rw [getD_set_ne false (Ne.symm hki)]
    split at h1
    ·rename_i hs
     simp only [hs,if_true]
     exact Wk.front hi hin hS hun hw m (k+1) a (by omega) (by omega) hN hu h1
    ·rename_i hs
     simp only [hs,if_false]
     have hno:∀ e∈oi.after,Region.binds .any e=true→e.on≠k:=fun e he hb hek=>by
      have:=hw e he hb
      rw [hek] at this
      exact hs this
     obtain ⟨as1,as2⟩:=sh.Zce (show k<i by omega) hin ho hi hno
     refine ⟨(as2.step a u).2 h1.1,fun v hv hI2=>?_⟩
     rw [as2.may] at hv
     have hdd:∀ d,o.dst=some d→oi.dst≠some d:=fun d hd=>QQ sh.dsts ho hi hd (Ne.symm hki)
     have hcomm:(a.put oi.dst u).put o.dst v=(a.put o.dst v).put oi.dst u:=(Act.put_comm a v u hdd).symm
     rw [hcomm] at hI2 ⊢
     refine Wk.front hi hin hS hun hw m (k+1) _ (by omega) (by omega) (by rw [size_put];exact hN) ((as1.may a v u).2 hu) (h1.2 v hv ?_)
     obtain ⟨w2,hw2,hg2⟩:=hI2
     refine ⟨w2,hw2,fun j oj hj hs2=>?_⟩
     have hji:j≠i:=by
      rintro rfl
      rcases hs2 with hs2|hs2
      ·rw [hun] at hs2;cases hs2
      ·omega
     have:=hg2 j oj hj (hs2.imp (getD_set_true ·) id)
     rwa [UB sh hmono (S:=S) hi hj hji] at this
theorem Wk.ready {S:Array Bool} {i:Nat} {oi:Oper} (hR:∀ w,C w→R w w) (hu:∀ w,C w→G none undef w) (hi:ops[i]? =some oi) (hin:i<n) (hun:S.getD i false=false) (hw:∀ e∈oi.after,Region.binds .any e=true→S.getD e.on false=true):
  ∀ (m k:Nat) (a:Act) (w:World),k≤i→k+m=n→a.tmps.size=N→C w→(∀ j oj,ops[j]? =some oj→(S.getD j false=true∨j<k)→G oj.dst (slot a oj.dst) w)→Wk P ops C G R S F m k a→StepOk P ops C G R oi a
 | 0,k,a,w,hk,hkm,_,_,_,h=>by omega
 | m+1,k,a,w,hk,hkm,hN,hC,hg,h=>by
  have h1:=h ⟨w,hC,hg⟩
  by_cases hki:k=i
  ·subst hki
   simp only [hi,hun,if_false,Bool.false_eq_true] at h1
   exact h1.1
  ·cases ho:ops[k]? with
   | none=>simp only [ho] at h1
   | some o=>
    simp only [ho] at h1
    split at h1
    ·rename_i hs
     exact Wk.ready hR hu hi hin hun hw m (k+1) a w (by omega) (by omega) hN hC (fun j oj hj hs2=>hg j oj hj (by
      rcases hs2 with hs2|hs2
      ·exact .inl hs2
      ·rcases Nat.lt_or_ge j k with h' |h'
       ·exact .inr h'
       ·obtain rfl:j=k:=by omega
        exact .inl hs)) h1
    ·rename_i hs
     have hno:∀ e∈oi.after,Region.binds .any e=true→e.on≠k:=fun e he hb hek=>by
      have:=hw e he hb
      rw [hek] at this
      exact hs this
     obtain ⟨as1,as2⟩:=sh.Zce (show k<i by omega) hin ho hi hno
     have hD:Yl ops G o a w:=fun e he hb oe hoe=>hg e.on oe hoe (.inr (sh.back k o ho (by omega) e he hb))
     obtain ⟨u,w',hm,hC',hR',hG'⟩:=StepOk.some_ sh hmono (k:=k) h1.1 hC hD (hR w hC)
     have hg' :∀ j oj,ops[j]? =some oj→(S.getD j false=true∨j<k+1)→G oj.dst (slot (a.put o.dst u) oj.dst) w' :=fun j oj hj hs2=>by
      by_cases hjk:j=k
      ·subst hjk
       obtain rfl:o=oj:=Option.some.inj (ho.symm.trans hj)
       exact J2 sh hmono hN hj hG' (fun _=>hu w' hC')
      ·rw [UB sh hmono (S:=S) ho hj hjk]
       exact hmono _ _ _ _ hR' (hg j oj hj (hs2.imp id (by omega)))
     have:=Wk.ready hR hu hi hin hun hw m (k+1) (a.put o.dst u) w' (by omega) (by omega) (by rw [size_put];exact hN) hC' hg' (h1.2 u hm ⟨w',hC',hg'⟩)
     exact (as1.step a u).1 this
theorem Wk.done {S:Array Bool}:∀ (m k:Nat) (a:Act) (w:World),k+m=n→(∀ j,j<n→S.getD j false=true)→C w→(∀ j oj,ops[j]? =some oj→(S.getD j false=true∨j<k)→G oj.dst (slot a oj.dst) w)→Wk P ops C G R S F m k a→F a
 | 0,k,a,w,hkm,hall,hC,hg,h=>h ⟨w,hC,hg⟩
 | m+1,k,a,w,hkm,hall,hC,hg,h=>by
  have h1:=h ⟨w,hC,hg⟩
  have hk:=hall k (by omega)
  cases ho:ops[k]? with
  | none=>simp only [ho] at h1
  | some o=>
   simp only [ho,hk,if_true] at h1
   exact Wk.done m (k+1) a w (by omega) hall hC (fun j oj hj hs2=>hg j oj hj (by
    rcases hs2 with hs2|hs2
    ·exact .inl hs2
    ·exact .inl (hall j (by omega)))) h1
end
theorem count_one {i:Nat} {p q:Nat→Bool} (hp:p i=true) (hq:q i=false) (he:∀ j,j≠i→q j=p j):∀ l:List Nat,l.Nodup→(i∈l→l.countP p=l.countP q+1)∧(i ∉ l→l.countP p=l.countP q)
 | [],_=>⟨(fun h=>nomatch h),fun _=>rfl⟩
 | x::l,h=>by
  obtain ⟨h1,h2⟩:=List.nodup_cons.1 h
  obtain ⟨i1,i2⟩:=count_one hp hq he l h2
  by_cases hx:x=i
  ·subst hx
   refine ⟨fun _=>?_,fun hn=>absurd (List.mem_cons_self ..) hn⟩
   have:=i2 h1
   simp [List.countP_cons,hp,hq,this]
  ·refine ⟨fun hm=>?_,fun hn=>?_⟩
   ·have:=i1 ((List.mem_cons.1 hm).resolve_left (Ne.symm hx))
    simp only [List.countP_cons,he x hx,this]
    omega
   ·have:=i2 fun hm=>hn (List.mem_cons_of_mem _ hm)
    simp only [List.countP_cons,he x hx,this]
def unl (n:Nat) (S:Array Bool):Nat:=(List.range n).countP fun i=>S.getD i true==false
theorem zo {n i:Nat} {S:Array Bool} (hi:i<n) (hun:S.getD i true=false):unl n S=unl n (S.setIfInBounds i true)+1:=by
 refine ((count_one (i:=i) (by simp [hun]) ?_ fun j hj=>?_) (List.range n) List.nodup_range).1 (List.mem_range.2 hi)
 ·rcases Nat.lt_or_ge i S.size with h|h
  ·simp [h]
  ·simp [Array.getElem?_eq_none h] at hun
 ·rw [getD_set_ne true (Ne.symm hj)]
theorem G7 {n:Nat} {S:Array Bool} (h:unl n S=0) (hs:n≤S.size):∀ j,j<n→S.getD j false=true:=fun j hj=>by
 have:=List.countP_eq_zero.1 h j (List.mem_range.2 hj)
 have hl:j<S.size:=by omega
 simpa [hl] using this
theorem ZbN {n m:Nat} {S:Array Bool} (h:unl n S=m+1):∃ j,j<n∧S.getD j true=false:=by
 have:0<(List.range n).countP fun i=>S.getD i true==false:=by unfold unl at h;omega
 obtain ⟨j,hj,hp⟩:=List.countP_pos_iff.1 this
 exact ⟨j,List.mem_range.1 hj,by simpa using hp⟩
theorem least {p:Nat→Prop}:∀ k,p k→∃ j,p j∧∀ i,i<j→¬p i:=fun k h=>by
 induction k using Nat.strongRecOn with
 | _ k ih=>
  by_cases hh:∃ i,i<k∧p i
  ·obtain ⟨i,hi,hp⟩:=hh;exact ih i hi hp
  ·exact ⟨k,h,fun i hi hp=>hh ⟨i,hi,hp⟩⟩
theorem Zay {o:Oper} {a:Act} {w:World} {K:Act→World→Prop} {Q:Exit→Act→World→Prop} (hC:C w) (hD:Yl ops G o a w) (hw:Region.wanted o (yielded ops a.tmps)=true) (h:Good P C G R o a w)
  (hK:∀ u w',May P ops C G o a u→C w' →R w w' →G o.dst u w' →K (a.put o.dst u) w'):o.wp P a w K Q:=by
 unfold Good at h
 unfold May at hK
 simp only [hw,if_true] at hK
 unfold Oper.wp
 have key:∀ r,(execOp a.eval o).run P w=r→WP P C G R o.dst w r→Oper.upon P o a K Q r:=by
  intro r hr hg
  cases r with
  | ok nx w' =>
   cases nx<;>simp only [WP] at hg
   case value u=>exact hK u w' ⟨w,hC,hD,by rw [hr];rfl⟩ hg.2.1 hg.2.2 hg.1
   case skip=>exact hK undef w' ⟨w,hC,hD,by rw [hr];rfl⟩ hg.2.1 hg.2.2 hg.1
   case enter f args=>
    exact Calls.mono hg fun e w2 ⟨u,he,h1,h2,h3⟩=>by subst he;exact hK u w2 ⟨w,hC,hD,by rw [hr];trivial⟩ h2 h3 h1
  | halt x w' =>simp only [WP] at hg
 exact key _ rfl h
theorem za (sh:Shape ops n N) (hmono:∀ d u w w',R w w' →G d u w→G d u w') (hR:∀ w,C w→R w w) (hu:∀ w,C w→G none undef w) {g:Nat} {Q:Exit→Act→World→Prop} (S0:Array Bool)
  (htail:∀ S,HeadInv .any ops n S→(∀ j,S0.getD j false=true→S.getD j false=true)→(∃ i,i<n∧S.getD i true=false)→∀ t,n≤t→t ∉ Region.ready .any ops S)
  (hend:∀ S a w,HeadInv .any ops n S→(∀ j,j<n→S.getD j false=true)→C w→(∀ j oj,ops[j]? =some oj→j<n→G oj.dst (slot a oj.dst) w)→F a→wpAny P .any ops Q g S a w):
  ∀ (f:Nat) (S:Array Bool) (a:Act) (w:World),HeadInv .any ops n S→(∀ j,S0.getD j false=true→S.getD j false=true)→unl n S=f→a.tmps.size=N→Inv ops C G S a w→Wk P ops C G R S F n 0 a→wpAny P .any ops Q (f+g) S a w
 | 0,S,a,w,hd,h0s,hf,hN,hI,h=>by
  have hall:=G7 hf (by rw [hd.size];exact sh.le)
  rw [Nat.zero_add]
  exact hend S a w hd hall hI.1 (fun j oj hj hjn=>hI.2 j oj hj (hall j hjn)) (Wk.done sh hmono n 0 a w (by omega) hall hI.1 (fun j oj hj hs=>hI.2 j oj hj (hs.resolve_right (by omega))) h)
 | f+1,S,a,w,hd,h0s,hf,hN,hI,h=>by
  obtain ⟨k0,hk0,hun0⟩:=ZbN hf
  obtain ⟨k,⟨hk,hun⟩,hmin⟩:=least (p:=fun j=>j<n∧S.getD j true=false) k0 ⟨hk0,hun0⟩
  have hrk:k∈Region.ready .any ops S:=by
   have hks:k<ops.size:=by have:=sh.le;omega
   refine mem_ready.2 ⟨hun,ops[k],Array.getElem?_eq_getElem hks,fun e he hb=>?_⟩
   have hlt:=sh.back k _ (Array.getElem?_eq_getElem hks) hk e he hb
   cases hS:S.getD e.on false with
   | true=>rfl
   | false=>exact absurd ⟨by omega,getD_in (by rw [hd.size];have:=sh.le;omega) hS⟩ (hmin e.on hlt)
  rw [show f+1+g=(f+g)+1 by omega]
  refine ⟨fun h0=>(by rw [h0] at hrk;cases hrk),fun i hi=>?_⟩
  have hin:i<n:=by
   rcases Nat.lt_or_ge i n with h' |h'
   ·exact h'
   ·exact absurd hi (htail S hd h0s ⟨k,hk,hun⟩ i h')
  obtain ⟨huni,oi,hoi,hall⟩:=mem_ready.1 hi
  have hunf:S.getD i false=false:=getD_both huni
  have hst:=Wk.ready sh hmono hR hu hoi hin hunf hall n 0 a w (by omega) (by omega) hN hI.1 (fun j oj hj hs=>hI.2 j oj hj (hs.resolve_right (by omega))) h
  have hD:Yl ops G oi a w:=fun e he hb oe hoe=>hI.2 e.on oe hoe (hall e he hb)
  have hnext:∀ u w',May P ops C G oi a u→C w' →R w w' →G oi.dst u w' →wpAny P .any ops Q (f+g) (S.setIfInBounds i true) (a.put oi.dst u) w' :=fun u w' hm hC' hR' hG' =>by
   refine za sh hmono hR hu S0 htail hend f _ _ w' (hd.set hi hin) (fun j hj=>getD_set_true (h0s j hj)) ?_ (by rw [size_put];exact hN) ⟨hC',fun j oj hj hs=>?_⟩ (Wk.front sh hmono hoi hin (by rw [hd.size]) hunf hall n 0 a (by omega) (by omega) hN hm h)
   ·have:=zo hin huni;omega
   ·by_cases hji:j=i
    ·subst hji
     obtain rfl:oi=oj:=Option.some.inj (hoi.symm.trans hj)
     exact J2 sh hmono hN hj hG' (fun _=>hu w' hC')
    ·rw [UB sh hmono (S:=S) hoi hj hji]
     rw [getD_set_ne false (Ne.symm hji)] at hs
     exact hmono _ _ _ _ hR' (hI.2 j oj hj hs)
  unfold wpOp
  simp only [hoi]
  split
  ·rename_i hw
   refine .inl (Zay hI.1 hD hw ?_ hnext)
   unfold StepOk at hst
   simp only [hw,if_true] at hst
   exact hst w hI.1 hD
  ·rename_i hw
   unfold StepOk at hst
   rw [if_neg hw] at hst
   exact hnext undef w (by unfold May;rw [if_neg hw]) hI.1 (hR w hI.1) (hst w hI.1)
def Wv (n m:Nat):Array Bool:=(List.replicate n true++List.replicate (m - n) false).toArray
def ZaS (ops:Array Oper) (n:Nat):Bool:=(List.range n).all fun k=>match ops[k]? with
 | some o=>o.after.all fun e=>!Region.binds .any e||decide (e.on<k)
 | none=>true
def Zb2 (ops:Array Oper) (n:Nat):Bool:=(List.range n).all fun i=>(List.range i).all fun k=>match ops[i]?,ops[k]? with
 | some oi,some ok=>oi.after.any (fun e=>Region.binds .any e&&e.on==k)||ok.apart ops oi
 | _,_=>true
def Zbr (ops:Array Oper) (S0:Array Bool) (n:Nat):Bool:=(List.range n).all fun i=>S0.getD i false||(List.range (n+1)).any fun j=>decide (i<j)&&Region.waitsFor .any ops j i
def Qz (ops:Array Oper) (S0:Array Bool) (n:Nat):Bool:=decide (S0.size=ops.size)&&(List.range ops.size).all fun j=>!S0.getD j false||(decide (j<n)&&match ops[j]? with
 | some o=>o.after.all fun e=>!Region.binds .any e||S0.getD e.on false
 | none=>true)
def Qx (ops:Array Oper) (n:Nat):Bool:=(List.range ops.size).all fun t=>decide (t≤n)||(List.range ops.size).any fun j=>decide (n≤j)&&Region.waitsFor .any ops t j
def Uf (ops:Array Oper) (S0:Array Bool) (n N:Nat):Bool:=
 Region.noSelect ops&&UW ops N&&decide (n≤ops.size)&&ZaS ops n&&Zb2 ops n&&(decide (n=ops.size)||(decide (n<ops.size)&&Zbr ops S0 n&&Qx ops n))&&Qz ops S0 n
def Jz (ops:Array Oper) (S0:Array Bool) (n N:Nat):Bool:=Uf ops S0 n N&&Region.seqB .any ops (ops.size - n) n (Wv n ops.size)
theorem ZbT {S0:Array Bool} {n:Nat} (h:Qz ops S0 n=true):HeadInv .any ops n S0:=by
 simp only [Qz,Bool.and_eq_true,decide_eq_true_eq] at h
 have key:∀ j,S0.getD j false=true→j<ops.size∧j<n∧∀ o,ops[j]? =some o→∀ e∈o.after,Region.binds .any e=true→S0.getD e.on false=true:=fun j hj=>by
  have hjs:j<ops.size:=by
   rcases Nat.lt_or_ge j S0.size with h' |h'
   ·rw [←h.1];exact h'
   ·simp [Array.getElem?_eq_none h'] at hj
  have h1:=List.all_eq_true.1 h.2 j (List.mem_range.2 hjs)
  simp only [hj,Bool.not_true,Bool.false_or,Bool.and_eq_true,decide_eq_true_eq] at h1
  refine ⟨hjs,h1.1,fun o ho e he hb=>?_⟩
  have h2:=h1.2
  simp only [ho] at h2
  have h3:=Array.all_eq_true'.1 h2 e he
  simpa only [hb,Bool.not_true,Bool.false_or] using h3
 refine ⟨h.1,fun j oj hj hl e he hb=>(key j hl).2.2 oj hj e he hb,fun t ht htl=>?_⟩
 cases hS:S0.getD t true with
 | false=>rfl
 | true=>
  have:S0.getD t false=true:=by
   have hl:t<S0.size:=by rw [h.1];exact htl
   simpa [hl] using hS
  have:=(key t this).2.1
  omega
theorem ZcO {n:Nat} {S0 listed:Array Bool} (hs:Zbr ops S0 n=true) (hc:Qx ops n=true) (hn:n<ops.size) (inv:HeadInv .any ops n listed) (h0:∀ j,S0.getD j false=true→listed.getD j false=true):
  ∀ (d i:Nat),n - i=d→i<n→listed.getD i true=false→∀ t,n≤t→t ∉ Region.ready .any ops listed:=by
 intro d
 induction d using Nat.strongRecOn with
 | _ d ih=>
  intro i hd hi hun t ht hr
  obtain ⟨_,ot,hot,hall⟩:=mem_ready.1 hr
  have htlt:t<ops.size:=(Array.getElem?_eq_some_iff.1 hot).1
  by_cases htn:t=n
  ·subst htn
   have h1:=List.all_eq_true.1 hs i (List.mem_range.2 hi)
   have hnot:S0.getD i false=false:=by
    cases hS:S0.getD i false with
    | false=>rfl
    | true=>have:=h0 i hS;rw [getD_both hun] at this;cases this
   rw [hnot,Bool.false_or] at h1
   obtain ⟨j,hj,hj2⟩:=List.any_eq_true.1 h1
   simp only [Bool.and_eq_true,decide_eq_true_eq] at hj2
   obtain ⟨oj,hoj,e,he,hb,hon⟩:=Region.waitsFor_spec hj2.2
   have hjle:j≤t:=by have:=List.mem_range.1 hj;omega
   by_cases hjt:j=t
   ·subst hjt
    have:oj=ot:=Option.some.inj (hoj.symm.trans hot)
    subst this
    have h2:=hall e he hb
    rw [hon,getD_both hun] at h2
    cases h2
   ·cases hl:listed.getD j false with
    | true=>
     have h2:=inv.closed j oj hoj hl e he hb
     rw [hon,getD_both hun] at h2
     cases h2
    | false=>
     have hjs:j<listed.size:=by rw [inv.size];omega
     exact ih (t - j) (by omega) j rfl (by omega) (getD_in hjs hl) t (Nat.le_refl _) hr
  ·have h1:=List.all_eq_true.1 hc t (List.mem_range.2 htlt)
   simp only [Bool.or_eq_true,decide_eq_true_eq] at h1
   rcases h1 with h1|h1
   ·omega
   ·obtain ⟨j,hj,hj2⟩:=List.any_eq_true.1 h1
    simp only [Bool.and_eq_true,decide_eq_true_eq] at hj2
    obtain ⟨o',ho',e,he,hb,hon⟩:=Region.waitsFor_spec hj2.2
    have:o' =ot:=Option.some.inj (ho'.symm.trans hot)
    subst this
    have h2:=hall e he hb
    rw [hon,getD_both (inv.tail j hj2.1 (List.mem_range.1 hj))] at h2
    cases h2
theorem ZdJ {S0:Array Bool} {n N:Nat} (h:Uf ops S0 n N=true):Shape ops n N:=by
 simp only [Uf,Bool.and_eq_true,decide_eq_true_eq] at h
 obtain ⟨⟨⟨⟨⟨⟨hsel,hd⟩,hn⟩,hb⟩,ha⟩,_⟩,_⟩:=h
 refine ⟨hd,hn,fun k o hk hkn e he hbd=>?_,fun k i ok oi hki hin hk hi hno=>?_,Region.noSelect_spec hsel⟩
 ·have h1:=List.all_eq_true.1 hb k (List.mem_range.2 hkn)
  simp only [hk] at h1
  have h2:=Array.all_eq_true'.1 h1 e he
  simp only [hbd,Bool.not_true,Bool.false_or,decide_eq_true_eq] at h2
  exact h2
 ·have h1:=List.all_eq_true.1 (List.all_eq_true.1 ha i (List.mem_range.2 hin)) k (List.mem_range.2 hki)
  simp only [hk,hi,Bool.or_eq_true] at h1
  refine h1.resolve_left fun h2=>?_
  obtain ⟨e,he,hb2⟩:=Array.any_eq_true'.1 h2
  simp only [Bool.and_eq_true,beq_iff_eq] at hb2
  exact hno e he hb2.1 hb2.2
theorem zB {S:Array Bool} (hs:S.size=ops.size) (hn:n≤ops.size) (h1:∀ j,j<n→S.getD j false=true) (h2:∀ t,n≤t→t<ops.size→S.getD t true=false):S=Wv n ops.size:=by
 apply Array.ext
 ·simp [Wv,hs];omega
 ·intro j hj hj'
  rcases Nat.lt_or_ge j n with h|h
  ·have:=h1 j h
   simp [hj] at this
   simp [Wv,List.getElem_append,h,this]
  ·have:=h2 j h (by omega)
   simp [hj] at this
   simp [Wv,List.getElem_append,Nat.not_lt.2 h,this]
def Zgf (ops:Array Oper) (C:World→Prop) (G:Option Tmp→Value→World→Prop) (k:Nat) (a:Act):Prop:=∃ w,C w∧∀ j oj,ops[j]? =some oj→j<k→G oj.dst (slot a oj.dst) w
def Zz (P:Program) (ops:Array Oper) (C:World→Prop) (G:Option Tmp→Value→World→Prop) (R:World→World→Prop) (S0:Array Bool) (F:Act→Prop):Nat→List Oper→Act→Prop
 | k,[],a=>Zgf ops C G k a→F a
 | k,o::rest,a=>if S0.getD k false=true then Zz P ops C G R S0 F (k+1) rest a else StepOk P ops C G R o a∧∀ u,May P ops C G o a u→(∀ d,o.dst=some d→∃ w,C w∧G (some d) u w)→Zz P ops C G R S0 F (k+1) rest (a.put o.dst u)
theorem Qm {S0:Array Bool} (sh:Shape ops n N):∀ (l:List Oper) (k:Nat) (a:Act),(∀ j,j<l.length→l[j]? =ops[k+j]?)→k+l.length=n→a.tmps.size=N→Zz P ops C G R S0 F k l a→Wk P ops C G R S0 F l.length k a
 | [],k,a,_,hk,hN,h=>fun ⟨w,hw,hg⟩=>h ⟨w,hw,fun j oj hj hjk=>hg j oj hj (.inr hjk)⟩
 | o::l,k,a,hl,hk,hN,h=>fun _=>by
  have h0:ops[k]? =some o:=by simpa using (hl 0 (by simp)).symm
  simp only [h0]
  unfold Zz at h
  split at h
  ·rename_i hs
   simp only [hs,if_true]
   exact Qm sh l (k+1) a (fun j hj=>by have:=hl (j+1) (by simp;omega);simpa [Nat.add_assoc,Nat.add_comm 1 j] using this) (by simp only [List.length_cons] at hk;omega) hN h
  ·rename_i hs
   rw [if_neg hs]
   refine ⟨h.1,fun u hu hI=>Qm sh l (k+1) _ (fun j hj=>by have:=hl (j+1) (by simp;omega);simpa [Nat.add_assoc,Nat.add_comm 1 j] using this) (by simp only [List.length_cons] at hk;omega) (by rw [size_put];exact hN) (h.2 u hu fun d hd=>?_)⟩
   obtain ⟨w,hw,hg⟩:=hI
   refine ⟨w,hw,?_⟩
   have h1:=hg k o h0 (.inr (by omega))
   rw [hd,Zbm (by rw [hN];exact zR sh.dsts h0 hd)] at h1
   exact h1
theorem ZgY {Q:Exit→Act→World→Prop} {a:Act} {w:World} {l:List Oper} (S0:Array Bool) (n N:Nat) (C:World→Prop) (G:Option Tmp→Value→World→Prop) (R:World→World→Prop) {fuel:Nat}
  (hB:Uf l.toArray S0 n N=true) (hf:fuel=unl n S0+(l.length - n)) (hN:a.tmps.size=N) (hmono:∀ d u w w',R w w' →G d u w→G d u w') (hR:∀ w,C w→R w w) (hu:∀ w,C w→G none undef w) (hC:C w)
  (h0:∀ j oj,l[j]? =some oj→S0.getD j false=true→G oj.dst (slot a oj.dst) w)
  (h:Zz P l.toArray C G R S0 (fun a' =>∀ w',C w' →(∀ j oj,l[j]? =some oj→j<n→G oj.dst (slot a' oj.dst) w')→wpAny P .any l.toArray Q (l.length - n) (Wv n l.length) a' w') 0 (l.take n) a):wpAny P .any l.toArray Q fuel S0 a w:=by
 have sh:=ZdJ hB
 have hB' :=hB
 simp only [Uf,Bool.and_eq_true,Bool.or_eq_true,decide_eq_true_eq] at hB'
 obtain ⟨⟨⟨⟨⟨⟨hsel,hd⟩,hn⟩,hb⟩,ha⟩,hsc⟩,hcl⟩:=hB'
 have hnl:n≤l.length:=by simpa using hn
 have htl:(l.take n).length=n:=by simp;omega
 have hw:=Qm sh (l.take n) 0 a (fun j hj=>by
  have hj' :j<n:=by rw [htl] at hj;exact hj
  simp [hj']) (by simpa using htl) hN h
 rw [htl] at hw
 have:=za (Q:=Q) (g:=l.length - n) sh hmono hR hu S0 (fun S hI h0s hex t ht hr=>?_) (fun S a' w' hI hall hC' hg hF=>?_) _ S0 a w
  (ZbT hcl) (fun _ h=>h) rfl hN ⟨hC,fun j oj hj hs=>h0 j oj (by simpa using hj) hs⟩ hw
 ·rw [hf];exact this
 ·obtain ⟨i,hi,hun⟩:=hex
  rcases hsc with hsc|⟨⟨hlt,hs⟩,hc⟩
  ·have:=(mem_ready.1 hr).2
   obtain ⟨o,ho,_⟩:=this
   have:=(Array.getElem?_eq_some_iff.1 ho).1
   omega
  ·exact ZcO hs hc hlt hI h0s _ i rfl hi hun t ht hr
 ·have hSeq:=zB hI.size hn hall hI.tail
  rw [show l.toArray.size=l.length from by simp] at hSeq
  rw [hSeq]
  exact hF w' hC' fun j oj hj hjn=>hg j oj (by simpa using hj) hjn
theorem U6 {F F' :Act→Prop} (hF:∀ a,F a→F' a) {S0:Array Bool}:∀ (l' :List Oper) (k:Nat) (a:Act),Zz P ops C G R S0 F k l' a→Zz P ops C G R S0 F' k l' a
 | [],k,a,h=>fun hI=>hF a (h hI)
 | o::l',k,a,h=>by
  unfold Zz at h ⊢
  split
  ·rename_i hs;rw [if_pos hs] at h;exact U6 hF l' _ _ h
  ·rename_i hs;rw [if_neg hs] at h;exact ⟨h.1,fun u hu hd=>U6 hF l' _ _ (h.2 u hu hd)⟩
theorem ZfQ {Q:Exit→Act→World→Prop} {a:Act} {w:World} {l:List Oper} (S0:Array Bool) (n N:Nat) (C:World→Prop) (G:Option Tmp→Value→World→Prop) (R:World→World→Prop) {fuel:Nat}
  (hB:Jz l.toArray S0 n N=true) (hf:fuel=unl n S0+(l.length - n)) (hN:a.tmps.size=N) (hmono:∀ d u w w',R w w' →G d u w→G d u w') (hR:∀ w,C w→R w w) (hu:∀ w,C w→G none undef w) (hC:C w)
  (h0:∀ j oj,l[j]? =some oj→S0.getD j false=true→G oj.dst (slot a oj.dst) w)
  (h:Zz P l.toArray C G R S0 (fun a' =>∀ w',C w' →(∀ j oj,l[j]? =some oj→j<n→G oj.dst (slot a' oj.dst) w')→wpList P l.toArray Q (l.drop n) a' w') 0 (l.take n) a):wpAny P .any l.toArray Q fuel S0 a w:=by
 simp only [Jz,Bool.and_eq_true] at hB
 have hdl:(l.drop n).length=l.length - n:=by simp
 refine ZgY S0 n N C G R hB.1 hf hN hmono hR hu hC h0 (U6 (fun a' hF w' hC' hg=>?_) _ _ _ h)
 have:=wpAny_of_seq (md:=.any) (Q' :=Q) (ops:=l.toArray) (l.drop n) n (Wv n l.length) a' w' (fun j=>by simp [List.getElem?_drop]) (by rw [hdl];simpa using hB.2) (hF w' hC' hg)
 rwa [hdl] at this
section
variable {o:Oper} {rest:List Oper} {a:Act} {k:Nat} {S0:Array Bool}
theorem Zj (h:F a):Zz P ops C G R S0 F k [] a:=fun _=>h
theorem ZcL (hS:S0.getD k false=false) (hw:Region.wanted o (yielded ops a.tmps)=false) (hG:∀ w,C w→G o.dst undef w) (hn:Zz P ops C G R S0 F (k+1) rest (a.put o.dst undef)):Zz P ops C G R S0 F k (o::rest) a:=by
 unfold Zz
 rw [hS,if_neg (by simp)]
 refine ⟨by unfold StepOk;simp only [hw,if_false,Bool.false_eq_true];exact hG,fun u hu _=>?_⟩
 unfold May at hu
 simp only [hw,if_false,Bool.false_eq_true] at hu
 subst hu
 exact hn
theorem ZaL (hR:∀ w,C w→R w w) (hS:S0.getD k false=false) (hw:Region.wanted o (yielded ops a.tmps)=true) (u:Value) (hrun:∀ w,C w→Yl ops G o a w→(execOp a.eval o).run P w=.ok (.value u) w) (hG:∀ w,C w→Yl ops G o a w→G o.dst u w) (hn:Zz P ops C G R S0 F (k+1) rest (a.put o.dst u)):Zz P ops C G R S0 F k (o::rest) a:=by
 unfold Zz
 rw [hS,if_neg (by simp)]
 refine ⟨by unfold StepOk;simp only [hw,if_true];intro w hC hD;unfold Good;rw [hrun w hC hD];exact ⟨hG w hC hD,hC,hR w hC⟩,fun x hx _=>?_⟩
 unfold May at hx
 simp only [hw,if_true] at hx
 obtain ⟨w,hC,hD,hm⟩:=hx
 rw [hrun w hC hD] at hm
 obtain rfl:x=u:=hm
 exact hn
theorem ZbF (hS:S0.getD k false=false) (hw:Region.wanted o (yielded ops a.tmps)=true) (f:FuncId) (args:Array Value) (d:Tmp) (hd:o.dst=some d) (hrun:∀ w,C w→Yl ops G o a w→(execOp a.eval o).run P w=.ok (.enter f args) w)
  (hc:∀ w,C w→Yl ops G o a w→Calls P f args w fun e w' =>∃ u,e=.returned u∧G (some d) u w' ∧C w' ∧R w w') (hn:∀ u w,C w→G (some d) u w→Zz P ops C G R S0 F (k+1) rest (a.put (some d) u)):Zz P ops C G R S0 F k (o::rest) a:=by
 unfold Zz
 rw [hS,if_neg (by simp)]
 refine ⟨by unfold StepOk;simp only [hw,if_true];intro w hC hD;unfold Good;rw [hrun w hC hD,hd];exact hc w hC hD,fun x _ hx=>?_⟩
 obtain ⟨w,hC,hg⟩:=hx d hd
 rw [hd]
 exact hn x w hC hg
theorem Zfm (hS:S0.getD k false=false) (hw:Region.wanted o (yielded ops a.tmps)=true) (ob:Obj) (d:Tmp) (hd:o.dst=some d) (mk:Nat→Value) (hrun:∀ w,C w→Yl ops G o a w→(execOp a.eval o).run P w=.ok (.value (mk w.heap.size)) (w.alloc ob))
  (hc:∀ w,C w→Yl ops G o a w→G (some d) (mk w.heap.size) (w.alloc ob)∧C (w.alloc ob)∧R w (w.alloc ob)) (hn:∀ g w,C w→G (some d) (mk g) w→Zz P ops C G R S0 F (k+1) rest (a.put (some d) (mk g))):Zz P ops C G R S0 F k (o::rest) a:=by
 unfold Zz
 rw [hS,if_neg (by simp)]
 refine ⟨by unfold StepOk;simp only [hw,if_true];intro w hC hD;unfold Good;rw [hrun w hC hD,hd];exact hc w hC hD,fun x hm hx=>?_⟩
 obtain ⟨w,hC,hg⟩:=hx d hd
 unfold May at hm
 simp only [hw,if_true] at hm
 obtain ⟨w',hC',hD',hm⟩:=hm
 rw [hrun w' hC' hD'] at hm
 obtain rfl:x=mk w'.heap.size:=hm
 rw [hd]
 exact hn _ w hC hg
end
end
end Go.Proofs.YtnbbllkbefagmaaGreatDoor
namespace Go.Proofs.YtnbbllkbefagmaaGreatDoor
open Go
set_option linter.unusedVariables false
set_option linter.unusedSimpArgs false
abbrev Sp:=Tmp→Option (Value→Prop)
section
variable {P:Program} {C:World→Prop} {sp:Sp} {F:Act→Prop} {S0:Array Bool}
variable {ops:Array Oper} {o:Oper} {rest:List Oper} {a:Act} {k:Nat}
end
end Go.Proofs.YtnbbllkbefagmaaGreatDoor
namespace Go.Proofs.YtnbbllkbefagmaaGreatDoor
open Go.RowKit
set_option linter.unusedVariables false
set_option linter.unusedSimpArgs false
def Yt (n:Nat) (u:Value):Prop:=∃ r:Nat,r<n∧u=.int .i64 r
section
variable {sp:Sp} {F:Act→Prop} {S0:Array Bool} {ops:Array Oper} {o:Oper} {rest:List Oper} {a:Act} {k:Nat} {M:Nat→Prop} {row:Option Nat} {w0:World} {L:List Hp} {T:Nat}
end
end Go.Proofs.YtnbbllkbefagmaaGreatDoor
namespace Go.Proofs.YtnbbllkbefagmaaGreatDoor
open Go.RowKit
set_option linter.unusedVariables false
set_option linter.unusedSimpArgs false
abbrev SpW:=Tmp→Option (Value→World→Prop)
def GW (sp:SpW) (d:Option Tmp) (u:Value) (w:World):Prop:=match d.bind sp with|some V=>V u w|none=>True
def RM (M:Nat→Prop) (w w' :World):Prop:=w.heap.size≤w'.heap.size∧∀ b,b<w.heap.size→¬M b→w'.heap[b]? =w.heap[b]?
theorem RM.refl (M:Nat→Prop) (w:World):RM M w w:=⟨Nat.le_refl _,fun _ _ _=>rfl⟩
theorem RM.trans {M:Nat→Prop} {a b c:World} (h:RM M a b) (k:RM M b c):RM M a c:=⟨Nat.le_trans h.1 k.1,fun x hx hn=>(k.2 x (Nat.lt_of_lt_of_le hx h.1) hn).trans (h.2 x hx hn)⟩
theorem RM.below {M:Nat→Prop} {w w' :World} (h:Below w.heap.size w w'):RM M w w' :=⟨h.size,fun b hb _=>h.block b hb⟩
theorem RM.grown {M:Nat→Prop} {w w' :World} {T:Nat} (h:w.grownBy w' (some T)) (hT:M T):RM M w w' :=⟨h.size,fun b hb hn=>h.block b hb (fun e=>by injection e with e;subst e;exact hn hT)⟩
theorem RM.alloc (M:Nat→Prop) (w:World) (o:Obj):RM M w (w.alloc o):=⟨by simp,fun b hb _=>Below.heap_alloc w o b hb⟩
theorem RM.ro {M:Nat→Prop} {w w' :World} (h:RM M w w') {S:World→Prop} (hs:Ro w M S):Ro w' M S:=hs.step h.1 h.2 (fun _ _ h=>h)
def Us (M:Nat→Prop) (sp:SpW):Prop:=∀ d V,sp d=some V→∀ u w w',RM M w w' →V u w→V u w'
def spL (l:List (Tmp × (Value→World→Prop))):SpW:=fun d=>(l.find? fun p=>p.1==d).map (·.2)
theorem Zo (M:Nat→Prop):Us M (spL []):=fun d V h=>nomatch h
theorem Ze {M:Nat→Prop} {d:Tmp} {V:Value→World→Prop} {l:List (Tmp × (Value→World→Prop))} (h:∀ u w w',RM M w w' →V u w→V u w') (hl:Us M (spL l)):Us M (spL ((d,V)::l)):=fun t V' hV=>by
 unfold spL at hV
 rw [List.find?_cons] at hV
 split at hV
 ·simp only [Option.map_some,Option.some.injEq] at hV
  subst hV
  exact h
 ·exact hl t V' hV
theorem Gh {sp:SpW} {d:Option Tmp} {u:Value} {w:World} (h:d.bind sp=none):GW sp d u w:=by unfold GW;rw [h];trivial
theorem Zl {sp:SpW} {d:Tmp} {V:Value→World→Prop} (h:sp d=some V) {u:Value} {w:World}:GW sp (some d) u w↔V u w:=by unfold GW;simp only [Option.bind_some,h]
def JF (ops:Array Oper) (S0:Array Bool) (sp:SpW):Bool:=(List.range ops.size).all fun j=>!S0.getD j false||(((ops[j]?).bind (·.dst)).bind sp).isNone
theorem Zaq {ops:Array Oper} {S0:Array Bool} {sp:SpW} (h:JF ops S0 sp=true) {j:Nat} {o:Oper} (ho:ops[j]? =some o) (hs:S0.getD j false=true) {u:Value} {w:World}:GW sp o.dst u w:=by
 have h1:=List.all_eq_true.1 h j (List.mem_range.2 (Array.getElem?_eq_some_iff.1 ho).1)
 simp only [hs,Bool.not_true,Bool.false_or,ho,Option.bind_some] at h1
 exact Gh (Option.isNone_iff_eq_none.1 h1)
def HC (M:Nat→Prop) (row:Option Nat) (w0 w1:World) (L:List Hp) (w:World):Prop:=Hold M row w0 w L∧RM (Mut M L) w1 w
section
variable {P:Program} {M:Nat→Prop} {row:Option Nat} {w0 w1:World} {L:List Hp} {sp:SpW} {F:Act→Prop} {S0:Array Bool}
theorem Zp {Q:Exit→Act→World→Prop} {a:Act} {w:World} {l:List Oper} (n N:Nat) (L:List Hp) (sp:SpW) {fuel:Nat}
  (hB:Jz l.toArray S0 n N=true) (hO:JF l.toArray S0 sp=true) (hf:fuel=unl n S0+(l.length - n)) (hN:a.tmps.size=N) (hs:Us (Mut M L) sp) (hC:Hold M row w0 w L)
  (h:Zz P l.toArray (HC M row w0 w L) (GW sp) (RM (Mut M L)) S0 (fun a' =>∀ w',Hold M row w0 w' L→RM (Mut M L) w w' →(∀ j oj,l[j]? =some oj→j<n→GW sp oj.dst (slot a' oj.dst) w')→wpList P l.toArray Q (l.drop n) a' w') 0 (l.take n) a):wpAny P .any l.toArray Q fuel S0 a w:=by
 refine ZfQ S0 n N (HC M row w0 w L) (GW sp) (RM (Mut M L)) hB hf hN (fun d u w w' hr hg=>?_) (fun w _=>RM.refl _ w) (fun _ _=>trivial) ⟨hC,RM.refl _ _⟩ (fun j oj hj hs=>Zaq hO (by simpa using hj) hs) (U6 (fun a' hF w' hC' hg=>hF w' hC'.1 hC'.2 hg) _ _ _ h)
 unfold GW at hg ⊢
 cases hd:d.bind sp with
 | none=>trivial
 | some V=>
  rw [hd] at hg
  obtain ⟨t,rfl,ht⟩:=Option.bind_eq_some_iff.1 hd
  exact hs t V ht u w w' hr hg
variable {ops:Array Oper} {o:Oper} {rest:List Oper} {a:Act} {k:Nat}
theorem XT (hS:S0.getD k false=false) (hw:Region.wanted o (yielded ops a.tmps)=true) (hoff:o.dst.bind sp=none) (h:∃ u,(∀ w,Hold M row w0 w L→(execOp a.eval o).run P w=.ok (.value u) w)∧Zz P ops (HC M row w0 w1 L) (GW sp) (RM (Mut M L)) S0 F (k+1) rest (a.put o.dst u)):Zz P ops (HC M row w0 w1 L) (GW sp) (RM (Mut M L)) S0 F k (o::rest) a:=
 let ⟨u,h1,h2⟩:=h
 ZaL (fun w _=>RM.refl _ w) hS hw u (fun w hC _=>h1 w hC.1) (fun _ _ _=>Gh hoff) h2
theorem dv {u:Value} (hS:S0.getD k false=false) (hw:Region.wanted o (yielded ops a.tmps)=true) (hoff:o.dst.bind sp=none) (h1:(∀ w,Hold M row w0 w L→(execOp a.eval o).run P w=.ok (.value u) w)) (h2:Zz P ops (HC M row w0 w1 L) (GW sp) (RM (Mut M L)) S0 F (k+1) rest (a.put o.dst u)):Zz P ops (HC M row w0 w1 L) (GW sp) (RM (Mut M L)) S0 F k (o::rest) a:=XT hS hw hoff ⟨u,h1,h2⟩
theorem dw_skip (hS:S0.getD k false=false) (hw:Region.wanted o (yielded ops a.tmps)=false) (hoff:o.dst.bind sp=none) (hn:Zz P ops (HC M row w0 w1 L) (GW sp) (RM (Mut M L)) S0 F (k+1) rest (a.put o.dst undef)):Zz P ops (HC M row w0 w1 L) (GW sp) (RM (Mut M L)) S0 F k (o::rest) a:=
 ZcL hS hw (fun _ _=>Gh hoff) hn
theorem Zbo {f:FuncId} {args:Array Value} (d:Tmp) (V:Value→World→Prop) (hS:S0.getD k false=false) (hw:Region.wanted o (yielded ops a.tmps)=true) (hd:o.dst=some d) (hsp:sp d=some V) (hrun:∀ w,(execOp a.eval o).run P w=.ok (.enter f args) w)
  (hc:∀ w,Hold M row w0 w L→Yl ops (GW sp) o a w→Calls P f args w fun e w' =>∃ u,e=.returned u∧V u w' ∧Hold M row w0 w' L∧RM (Mut M L) w w') (hn:∀ u w,Hold M row w0 w L→V u w→Zz P ops (HC M row w0 w1 L) (GW sp) (RM (Mut M L)) S0 F (k+1) rest (a.put (some d) u)):Zz P ops (HC M row w0 w1 L) (GW sp) (RM (Mut M L)) S0 F k (o::rest) a:=
 ZbF hS hw f args d hd (fun w _ _=>hrun w) (fun w hC hD=>(hc w hC.1 hD).mono fun e' w' ⟨u,h1,h2,h3,h4⟩=>⟨u,h1,(Zl hsp).2 h2,⟨h3,hC.2.trans h4⟩,h4⟩) fun u w hC hu=>hn u w hC.1 ((Zl hsp).1 hu)
theorem Ye (cs:Array Value) (t:TypeId) (d:Tmp) (V:Value→World→Prop) (mk:Nat→Value) (hS:S0.getD k false=false) (hw:Region.wanted o (yielded ops a.tmps)=true) (hd:o.dst=some d) (hsp:sp d=some V) (hrun:∀ w,(execOp a.eval o).run P w=.ok (.value (mk w.heap.size)) (w.alloc (.cells cs t)))
  (hc:∀ w,Hold M row w0 w L→RM (Mut M L) w1 w→Yl ops (GW sp) o a w→(∀ M',(∀ b,M' b→b<w.heap.size)→Ro (w.alloc (.cells cs t)) M' (fun w' =>w'.heap[w.heap.size]? =some (.cells cs t (0,0))))→V (mk w.heap.size) (w.alloc (.cells cs t))) (hn:∀ g w,Hold M row w0 w L→V (mk g) w→Zz P ops (HC M row w0 w1 L) (GW sp) (RM (Mut M L)) S0 F (k+1) rest (a.put (some d) (mk g))):Zz P ops (HC M row w0 w1 L) (GW sp) (RM (Mut M L)) S0 F k (o::rest) a:=
 Zfm hS hw (.cells cs t) d hd mk (fun w _ _=>hrun w) (fun w hC hD=>⟨(Zl hsp).2 (hc w hC.1 hC.2 hD fun M' hM' w2 h1 h2=>(h2 w.heap.size (by simp) (fun hm=>Nat.lt_irrefl _ (hM' _ hm))).trans (heap_alloc_new w _)),⟨(hC.1.Za cs t).drop (List.sublist_cons_self _ _),hC.2.trans (RM.alloc _ w _)⟩,RM.alloc _ w _⟩) fun g w hC hg=>hn g w hC.1 ((Zl hsp).1 hg)
theorem ZM {w:World} (h:Yl ops (GW sp) o a w) (j:Nat) {oj:Oper} (hj:ops[j]? =some oj) (he:(o.after.any fun e=>Region.binds .any e&&e.on==j)=true) {d:Tmp} (hd:oj.dst=some d) {V:Value→World→Prop} (hsp:sp d=some V):V (slot a (some d)) w:=by
 obtain ⟨e,hm,hb⟩:=Array.any_eq_true'.1 he
 simp only [Bool.and_eq_true,beq_iff_eq] at hb
 have:=h e hm hb.1 oj (by rw [hb.2];exact hj)
 rw [hd] at this
 exact (Zl hsp).1 this
end
section
variable {M:Nat→Prop} {row:Option Nat} {w0 w1:World} {L:List Hp} {sp:SpW} {F:Act→Prop} {S0:Array Bool} {ops:Array Oper} {o:Oper} {rest:List Oper} {a:Act} {k:Nat} {T:Nat}
theorem Yz (n:Nat) (i:Nat) (hi:L[i]? =some (.tp T)) (d:Tmp) (hS:S0.getD k false=false) (hw:Region.wanted o (yielded ops a.tmps)=true) (hd:o.dst=some d) (hsp:sp d=some (fun u _=>Yt n u))
  (hrun:∀ w,(execOp a.eval o).run Tryz.prog w=.ok (.enter 31 #[.pointer (some ⟨T,0,none⟩),.int .i64 n]) w) (hn:∀ r:Nat,r<n→Zz Tryz.prog ops (HC M row w0 w1 L) (GW sp) (RM (Mut M L)) S0 F (k+1) rest (a.put (some d) (.int .i64 r)))
  (hpos:0<n:=by omega) (hmax:n≤9223372036854775807:=by omega):Zz Tryz.prog ops (HC M row w0 w1 L) (GW sp) (RM (Mut M L)) S0 F k (o::rest) a:=by
 refine Zbo d (fun u _=>Yt n u) hS hw hd hsp hrun (fun w HC _=>?_) (fun u _ _ ⟨r,hr,hu⟩=>by subst hu;exact hn r hr)
 refine (ZT T n w (HC.tp_ i hi) (by omega) (by omega)).mono ?_
 rintro e w5 ⟨r,rfl,r0,r1,t5,g5⟩
 exact ⟨_,rfl,⟨r.toNat,by omega,by rw [Int.toNat_of_nonneg r0]⟩,Hold.Zf HC i hi g5 t5,RM.grown g5 (.inr ⟨_,List.mem_of_getElem? hi,rfl⟩)⟩
end
end Go.Proofs.YtnbbllkbefagmaaGreatDoor
namespace Go.Proofs.YtnbbllkbefagmaaGreatDoor
open Go.RowKit
set_option linter.unusedVariables false
set_option linter.unusedSimpArgs false
section
variable {P:Program} {M:Nat→Prop} {row:Option Nat} {w0 w1:World} {L:List Hp} {sp:SpW} {F:Act→Prop} {S0:Array Bool}
variable {ops:Array Oper} {o:Oper} {rest:List Oper} {a:Act} {k:Nat}
theorem Zm {f:FuncId} {args:Array Value} (d:Tmp) (V:Value→World→Prop) (hS:S0.getD k false=false) (hw:Region.wanted o (yielded ops a.tmps)=true) (hd:o.dst=some d) (hsp:sp d=some V) (hrun:∀ w,(execOp a.eval o).run P w=.ok (.enter f args) w)
  (hc:∀ w,Hold M row w0 w L→RM (Mut M L) w1 w→Yl ops (GW sp) o a w→Calls P f args w fun e w' =>∃ u,e=.returned u∧V u w' ∧Hold M row w0 w' L∧RM (Mut M L) w w') (hn:∀ u w,Hold M row w0 w L→V u w→Zz P ops (HC M row w0 w1 L) (GW sp) (RM (Mut M L)) S0 F (k+1) rest (a.put (some d) u)):Zz P ops (HC M row w0 w1 L) (GW sp) (RM (Mut M L)) S0 F k (o::rest) a:=
 ZbF hS hw f args d hd (fun w _ _=>hrun w) (fun w hC hD=>(hc w hC.1 hC.2 hD).mono fun e' w' ⟨u,h1,h2,h3,h4⟩=>⟨u,h1,(Zl hsp).2 h2,⟨h3,hC.2.trans h4⟩,h4⟩) fun u w hC hu=>hn u w hC.1 ((Zl hsp).1 hu)
end
theorem Zb7 {M:Nat→Prop} {b0:Nat} (hM:∀ b,M b→b<b0) {w w' :World} (hr:RM M w w') {e:TypeId} {size n:Nat} {v:Value} {xs:List Value} (h:w.ownsRow b0 e size v n xs):w'.ownsRow b0 e size v n xs:=by
 refine ⟨h.1,?_⟩
 rcases h.2 with hn|⟨g,cap,cur,hv,hg,hh,rest⟩
 ·exact .inl hn
 ·exact .inr ⟨g,cap,cur,hv,hg,(hr.2 g (Blk.lt (t:=e) (cs:=cur) hh) (fun hm=>by have:=hM g hm;omega)).trans hh,rest⟩
theorem ZbD {w:World} {b0 b1:Nat} (h01:b0≤b1) {e:TypeId} {size n:Nat} {v:Value} {xs:List Value} (h:w.ownsRow b1 e size v n xs):w.ownsRow b0 e size v n xs:=by
 refine ⟨h.1,?_⟩
 rcases h.2 with hn|⟨g,cap,cur,hv,hg,rest⟩
 ·exact .inl hn
 ·exact .inr ⟨g,cap,cur,hv,Nat.le_trans h01 hg,rest⟩
theorem Hold.Q4 {M:Nat→Prop} {row:Option Nat} {w0 w1 w:World} {L:List Hp} (K1:Hold M row w0 w1 L) (K:Hold M row w0 w L) (hr:RM (Mut M L) w1 w) {e:TypeId} {size n:Nat} {v:Value} {xs:List Value} (ho:w.ownsRow w1.heap.size e size v n xs):
  Hold M row w0 w (.own e size v n xs::L):=by
 have hbase:∀ b,v.ownBlock=some b→w1.heap.size≤b∧b<w.heap.size:=fun b hf=>ho.lt b hf
 have ee:∀ b,b<w1.heap.size→Mut M (.own e size v n xs::L) b→Mut M L b:=fun b hl hb=>by
  rcases ZI.1 hb with hf|hm
  ·have:=(hbase b hf).1;omega
  ·exact hm
 refine ⟨K.grow,K.low,fun k hk=>?_,fun k hk b hf=>?_,⟨fun b hf k hk he=>?_,K.sep⟩⟩
 ·rcases List.mem_cons.1 hk with rfl|hk
  ·exact ZbD K1.grow.size ho
  ·have h1:=K1.sat k hk
   have h2:=K.sat k hk
   cases k with
   | blk g' t' cs' =>exact h2
   | own e s v n' xs=>exact h2
   | tp T=>
    refine ⟨h2.1,fun b hb' =>?_⟩
    have hT:T<w1.heap.size:=(K1.fresh _ hk T rfl).2
    rcases ZI.1 hb' with hf|hm'
    ·have:=(hbase b hf).1
     omega
    ·exact h2.2 b hm'
   | ro S=>exact Ro.step h1 hr.1 hr.2 ee
   | cst g' t' cs' =>exact Ro.step h1 hr.1 hr.2 ee
   | ob g' F' =>exact h2
 ·rcases List.mem_cons.1 hk with rfl|hk
  ·have:=hbase b hf
   exact ⟨.inl (Nat.le_trans K1.grow.size this.1),this.2⟩
  ·exact K.fresh k hk b hf
 ·have h1:=(hbase b hf).1
  have h2:=(K1.fresh k hk b he).2
  omega
def IsV (x:Value) (u:Value) (_:World):Prop:=u=x
theorem Vg {M:Nat→Prop} {x:Value} (u:Value) (w w' :World) (_:RM M w w') (h:IsV x u w):IsV x u w' :=h
end Go.Proofs.YtnbbllkbefagmaaGreatDoor
namespace Go.Proofs.YtnbbllkbefagmaaGreatDoor
open Go.RowKit
set_option linter.unusedVariables false
set_option linter.unusedSimpArgs false
section
variable {P:Program} {M:Nat→Prop} {row:Option Nat} {w0 w1:World} {L:List Hp} {sp:SpW} {F:Act→Prop} {S0:Array Bool}
variable {ops:Array Oper} {o:Oper} {rest:List Oper} {a:Act} {k:Nat}
theorem WA (d:Tmp) (V:Value→World→Prop) (hS:S0.getD k false=false) (hw:Region.wanted o (yielded ops a.tmps)=true) (hd:o.dst=some d) (hsp:sp d=some V) (u:Value) (hrun:∀ w,Hold M row w0 w L→(execOp a.eval o).run P w=.ok (.value u) w)
  (hV:∀ w,Hold M row w0 w L→Yl ops (GW sp) o a w→V u w) (hn:Zz P ops (HC M row w0 w1 L) (GW sp) (RM (Mut M L)) S0 F (k+1) rest (a.put (some d) u)):Zz P ops (HC M row w0 w1 L) (GW sp) (RM (Mut M L)) S0 F k (o::rest) a:=
 ZaL (fun w _=>RM.refl _ w) hS hw u (fun w hC _=>hrun w hC.1) (fun w hC hD=>by rw [hd];exact (Zl hsp).2 (hV w hC.1 hD)) (by rw [hd];exact hn)
end
def Z0 (M:Nat→Prop) (vs:List Vl) (u:Value) (w:World):Prop:=∃ (A:Option Addr) (n c:Nat),u=.slice A n c∧n=vs.length∧n≤c∧c≤9223372036854775807∧Ro w M (VlsIn A n vs)
def Yx (M:Nat→Prop) (id:Int) (vs:List Vl) (u:Value) (w:World):Prop:=∃ (A:Option Addr) (n c:Nat),u=.agg #[.int .i64 id,.slice A n c]∧n=vs.length∧n≤c∧c≤9223372036854775807∧Ro w M (VlsIn A n vs)
def Yw (M:Nat→Prop) (id:Int) (vs:List Vl) (u:Value) (w:World):Prop:=∃ (g:Nat) (A:Option Addr) (n c:Nat),u=.slice (some ⟨g,0,none⟩) 1 1∧n=vs.length∧n≤c∧c≤9223372036854775807∧Ro w M (VlsIn A n vs)∧Ro w M (SlR 2 (some ⟨g,0,none⟩) 1 [.int .i64 id,.slice A n c])
theorem X6 {M:Nat→Prop} {vs:List Vl} (u:Value) (w w' :World) (hr:RM M w w') (h:Z0 M vs u w):Z0 M vs u w' :=by
 obtain ⟨A,n,c,h1,h2,h3,h4,h5⟩:=h
 exact ⟨A,n,c,h1,h2,h3,h4,hr.ro h5⟩
theorem Vz {M:Nat→Prop} {id:Int} {vs:List Vl} (u:Value) (w w' :World) (hr:RM M w w') (h:Yx M id vs u w):Yx M id vs u w' :=by
 obtain ⟨A,n,c,h1,h2,h3,h4,h5⟩:=h
 exact ⟨A,n,c,h1,h2,h3,h4,hr.ro h5⟩
theorem Vf {M:Nat→Prop} {id:Int} {vs:List Vl} (u:Value) (w w' :World) (hr:RM M w w') (h:Yw M id vs u w):Yw M id vs u w' :=by
 obtain ⟨g,A,n,c,h1,h2,h3,h4,h5,h6⟩:=h
 exact ⟨g,A,n,c,h1,h2,h3,h4,hr.ro h5,hr.ro h6⟩
theorem ZeQ (l:List Rw) (x:Rw):ZJ (l++[x])=ZJ l++x.cells:=by simp [ZJ]
theorem WH (l:List Rw) (id:Int) (A:Option Addr) (n c:Nat) (vs:List Vl):ZJ l++[.int .i64 id,.slice A n c]=ZJ (l++[⟨id,A,n,c,vs⟩]):=by simp [ZJ,Rw.cells]
theorem Wl {M:Nat→Prop} {w:World} {rs:List Rw} {r:Rw} (h:Ro w M (YT rs)) (k:Ro w M (VlsIn r.A r.n r.vs)):Ro w M (YT (rs++[r])):=fun w2 h1 h2 x hx=>by
 rcases List.mem_append.1 hx with hx|hx
 ·exact h w2 h1 h2 x hx
 ·simp at hx;subst hx;exact k w2 h1 h2
theorem V3 (w:World) (M:Nat→Prop):Ro w M (YT []):=fun _ _ _ r hr=>nomatch hr
end Go.Proofs.YtnbbllkbefagmaaGreatDoor
namespace Go.Proofs.YtnbbllkbefagmaaGreatDoor
open Go.RowKit
set_option linter.unusedVariables false
set_option linter.unusedSimpArgs false
section
variable {P:Program} {ops:Array Oper} {C:World→Prop} {G:Option Tmp→Value→World→Prop} {R:World→World→Prop} {F:Act→Prop} {o:Oper} {rest:List Oper} {a:Act} {k:Nat} {S0:Array Bool}
theorem Q9 (hS:S0.getD k false=false) (hw:Region.wanted o (yielded ops a.tmps)=true) (d:Tmp) (hd:o.dst=some d) (hg:∀ w,C w→Yl ops G o a w→∃ u w',(execOp a.eval o).run P w=.ok (.value u) w' ∧G (some d) u w' ∧C w' ∧R w w')
  (hn:∀ u w,C w→G (some d) u w→Zz P ops C G R S0 F (k+1) rest (a.put (some d) u)):Zz P ops C G R S0 F k (o::rest) a:=by
 unfold Zz
 rw [hS,if_neg (by simp)]
 refine ⟨by unfold StepOk;simp only [hw,if_true];intro w hC hD;obtain ⟨u,w',hr,h1,h2,h3⟩:=hg w hC hD;unfold Good;rw [hr,hd];exact ⟨h1,h2,h3⟩,fun x _ hx=>?_⟩
 obtain ⟨w,hC,h⟩:=hx d hd
 rw [hd];exact hn x w hC h
end
theorem ZfC {w:World} {M:Nat→Prop} {b0:Nat} (hM:∀ b,M b→b<b0) {e:TypeId} {size n c:Nat} {A:Option Addr} {xs:List Value} (h:w.ownsRow b0 e size (.slice A n c) n xs):Ro w M (SlR size A n xs):=
 fun w2 h1 h2=>Rd.U9 (Zb7 hM ⟨h1,h2⟩ h)
theorem zX {P:Program} {t e:TypeId} {size bytes:Nat} {z:Value} (hE:ElemT P t e size bytes z) (ty:TypeId) (w:World) {A:Option Addr} {m c:Nat} {ys:List Value} (hr:SlR size A m ys w) (h1:∀ u∈ys,u.oneCell' =true) (hq:m<140737488355328) (hb:m * bytes≤140737488355328):
  ∃ C' cap' w',(Builtin.append_ #[t,t] ty #[.slice none 0 0,.slice A m c]).run P w=.ok (.slice C' m cap') w' ∧m≤cap' ∧cap' ≤9223372036854775807∧w'.ownsRow w.heap.size e size (.slice C' m cap') m ys∧Below w.heap.size w w' :=by
 obtain ⟨i0,hi1,hi2,hi3,hi4⟩:=info_parts hE.hi
 have hown:=World.ownsRow_nil w w.heap.size e size
 have hz:A=none→m=0:=fun hA=>by
  rcases Nat.eq_zero_or_pos m with h0|h0
  ·exact h0
  ·obtain ⟨b,o,h,_⟩:=hr.2 h0
   rw [hA] at h;cases h
 rcases A with _|ad
 ·obtain rfl:=hz rfl
  have hn:ys=[]:=List.eq_nil_of_length_eq_zero (by simpa using hr.1)
  subst hn
  exact ⟨none,0,w,Zab w _ t _ _ i0 size hE.ht hi1 _ _ _ hown c,by omega,by omega,hown,Below.refl _ _⟩
 ·have hcells:∀ j u,ys[j]? =some u→w.cell? (ad.add j)=some u:=by
   intro j u hu
   have hpos:0<m:=by
    rcases Nat.eq_zero_or_pos m with h0|h0
    ·have hn:ys=[]:=List.eq_nil_of_length_eq_zero (by have:=hr.1;rw [h0] at this;simpa using this)
     rw [hn] at hu;simp at hu
    ·exact h0
   obtain ⟨b,o',hA,_,hc⟩:=hr.2 hpos
   injection hA with hA
   subst hA
   have:=hc j u hu
   rwa [Addr.add_lit]
  obtain ⟨v',w',hrun,h2,h3,_,h5⟩:=run_append_own_at (P:=P) w w.heap.size t ty e i0 z size bytes hE.ht hi1 hi2 hi3 hi4 hE.hzs hE.hsz _ 0 [] hown ad m c ys hr.1 hcells h1 (by unfold maxLen;omega) (by rw [Nat.zero_add];exact hb) (Nat.le_refl _)
  rw [Nat.zero_add,List.nil_append] at h2
  obtain ⟨C',cap',rfl⟩:=zK h2
  have hc:=ZR h2
  exact ⟨C',cap',w',hrun,hc.1,hc.2.1,h2,⟨h3.os,h3.tape,h3.output,h3.size,fun k hk=>h3.block k hk (by simp [Value.ownBlock])⟩⟩
section
variable {P:Program} {M:Nat→Prop} {row:Option Nat} {w0 w1:World} {L:List Hp} {sp:SpW} {F:Act→Prop} {S0:Array Bool}
variable {ops:Array Oper} {o:Oper} {rest:List Oper} {a:Act} {k:Nat}
theorem ZgK {t e:TypeId} {size bytes:Nat} {z:Value} (hE:ElemT P t e size bytes z) (d:Tmp) (V:Value→World→Prop) (hS:S0.getD k false=false) (hw:Region.wanted o (yielded ops a.tmps)=true) (hd:o.dst=some d) (hsp:sp d=some V)
  (s x:Operand) (ho:o.op=.call { callee:=.builtin .append,args:=#[s,x],argTypes:=#[t,t] }) (hs:a.eval s=.slice none 0 0) {A:Option Addr} {m c:Nat} {ys:List Value} (hx:a.eval x=.slice A m c) (h1:∀ u∈ys,u.oneCell' =true) (hq:m<140737488355328) (hb:m * bytes≤140737488355328)
  (hr:∀ w,Hold M row w0 w L→Yl ops (GW sp) o a w→SlR size A m ys w) (hV:∀ C' cap' w',Hold M row w0 w' L→m≤cap' →cap' ≤9223372036854775807→Ro w' (Mut M L) (SlR size C' m ys)→V (.slice C' m cap') w')
  (hn:∀ u w,Hold M row w0 w L→V u w→Zz P ops (HC M row w0 w1 L) (GW sp) (RM (Mut M L)) S0 F (k+1) rest (a.put (some d) u)):Zz P ops (HC M row w0 w1 L) (GW sp) (RM (Mut M L)) S0 F k (o::rest) a:=by
 refine Q9 hS hw d hd (fun w hC hD=>?_) fun u w hC hu=>hn u w hC.1 ((Zl hsp).1 hu)
 obtain ⟨C',cap',w',hrun,c1,c2,ho2,hb2⟩:=zX hE o.type w (hr w hC.1 hD) (c:=c) h1 hq hb
 have hH:=hC.1.call hb2
 refine ⟨.slice C' m cap',w',?_,(Zl hsp).2 (hV C' cap' w' hH c1 c2 (ZfC hC.1.Zb ho2)),⟨hH,hC.2.trans (RM.below hb2)⟩,RM.below hb2⟩
 unfold execOp
 simp only [ho,resolve,invoke,builtin,Sem.run_bind,Sem.run_pure,Result.andThen_ok,List.map_toArray,List.map_cons,List.map_nil,hs,hx,hrun]
end
theorem Zb5:∀ (l:List Vl) (k:Nat) (v:Vl),k<l.length→(((Z5 l).set (k * 3) (.int .i64 v.k)).set (k * 3+1) (.int .i64 v.i)).set (k * 3+2) (.string v.s)=Z5 (l.set k v)
 | [],k,v,h=>by simp at h
 | x::l,0,v,h=>by simp [Z5,Vl.cells]
 | x::l,k+1,v,h=>by
  have ih:=Zb5 l k v (by simpa using h)
  have e:∀ (ys:List Value) (j:Nat) (u:Value),(x.cells++ys).set (j+3) u=x.cells++ys.set j u:=fun ys j u=>by
   rw [List.set_append_right _ _ (by simp [Vl.cells])]
   simp [Vl.cells]
  have e0:Z5 (x::l)=x.cells++Z5 l:=by simp [Z5]
  have e1:Z5 ((x::l).set (k+1) v)=x.cells++Z5 (l.set k v):=by simp [Z5]
  rw [e0,e1,show (k+1) * 3=k * 3+3 by omega,e,show k * 3+3+1=(k * 3+1)+3 by omega,e,show k * 3+3+2=(k * 3+2)+3 by omega,e,ih]
theorem Hold.G6 {M:Nat→Prop} {row:Option Nat} {w0 w:World} {L:List Hp} (h:Hold M row w0 w L) (i:Nat) {e:TypeId} {n cap g:Nat} {vs:List Vl} (hi:L[i]? =some (.own e 3 (.slice (some ⟨g,0,none⟩) n cap) n (Z5 vs))) (k:Nat) (hk:k<vs.length) (v:Vl):
  Hold M row w0 (((w.setCell ⟨g,k * 3,none⟩ (.int .i64 v.k)).setCell ⟨g,k * 3+1,none⟩ (.int .i64 v.i)).setCell ⟨g,k * 3+2,none⟩ (.string v.s)) (L.set i (.own e 3 (.slice (some ⟨g,0,none⟩) n cap) n (Z5 (vs.set k v)))):=by
 have hil:=(List.getElem?_eq_some_iff.1 hi).1
 have h1:=h.Y0 i hi (k * 3) (.int .i64 v.k)
 have hs:∀ x:Hp,(L.set i x)[i]? =some x:=fun x=>by rw [List.getElem?_set,if_pos rfl,if_pos hil]
 have h2:=h1.Y0 i (hs _) (k * 3+1) (.int .i64 v.i)
 rw [List.set_set] at h2
 have h3:=h2.Y0 i (hs _) (k * 3+2) (.string v.s)
 rw [List.set_set,Zb5 vs k v hk] at h3
 exact h3
theorem JU {w:World} {base g n cap k:Nat} {e:TypeId} {l:List Vl} {v:Vl} (h:w.ownsRow base e 3 (.slice (some ⟨g,0,none⟩) n cap) n (Z5 l)) (hv:l[k]? =some v):
  (w.cell? ⟨g,k * 3,none⟩=some (.int .i64 v.k)∧w.cell? ⟨g,k * 3+1,none⟩=some (.int .i64 v.i)∧w.cell? ⟨g,k * 3+2,none⟩=some (.string v.s))∧
  (w.frozen? ⟨g,k * 3,none⟩=false∧w.frozen? ⟨g,k * 3+1,none⟩=false∧w.frozen? ⟨g,k * 3+2,none⟩=false)∧g<w.heap.size:=by
 have hk:=(List.getElem?_eq_some_iff.1 hv).1
 have hl:l.length=n:=by have:=h.1;rw [JQ] at this;omega
 have c0:=flat_get Vl.cells 3 (fun _=>rfl) l k 0 v (by omega) hv
 have c1:=flat_get Vl.cells 3 (fun _=>rfl) l k 1 v (by omega) hv
 have c2:=flat_get Vl.cells 3 (fun _=>rfl) l k 2 v (by omega) hv
 exact ⟨⟨(h.cellAt _ (by omega)).trans c0,(h.cellAt _ (by omega)).trans c1,(h.cellAt _ (by omega)).trans c2⟩,⟨h.frozenAt _,h.frozenAt _,h.frozenAt _⟩,(h.lt g rfl).2⟩
theorem Jl {l:List Vl} {k:Nat} {v:Vl} (h:∀ x∈l,x.ok) (hv:v.ok):∀ x∈l.set k v,x.ok:=fun x hx=>by
 rcases List.mem_or_eq_of_mem_set hx with hx|rfl
 ·exact h x hx
 ·exact hv
end Go.Proofs.YtnbbllkbefagmaaGreatDoor
namespace Go.Proofs.YtnbbllkbefagmaaGreatDoor
open Go.RowKit
set_option linter.unusedVariables false
set_option linter.unusedSimpArgs false
theorem Xt {a b:ByteArray} (h:a.toList=b.toList):a=b:=Go.WideShapes.bytes_inj (by rw [←ByteArray.toList_eq,←ByteArray.toList_eq];exact h)
theorem ZaH {α:Type} {xs ys:List α} {k:Nat} {x y:α} (hx:xs[k]? =some x) (hy:ys[k]? =some y) (h:xs.take k=ys.take k) (he:x=y):xs.take (k+1)=ys.take (k+1):=by
 rw [List.take_add_one,List.take_add_one,hx,hy,h,he]
structure Tb where
 nm:ByteArray
 cs:List Col
 nx:Int
 rs:List Row
deriving DecidableEq
def Y2 (w:World) (M:Nat→Prop) (v:Value) (t:Tb):Prop:=
 ∃ (A:Option Addr) (n c:Nat) (B:Option Addr) (m d:Nat) (l:List Rw),v=.agg #[.string t.nm,.slice A n c,.int .i64 t.nx,.slice B m d]∧n≤c∧c≤9223372036854775807∧m≤d∧d≤9223372036854775807∧Ro w M (ColsIn A n t.cs)∧Ro w M (RwsIn B m l)∧(∀ r∈l,r.ok)∧l.map Rw.row=t.rs
end Go.Proofs.YtnbbllkbefagmaaGreatDoor
namespace Go.Proofs.YtnbbllkbefagmaaGreatDoor
open Go.RowKit
set_option linter.unusedVariables false
set_option linter.unusedSimpArgs false
def Y7 (M:Nat→Prop) (x:Upd) (u:Value) (w:World):Prop:=∃ p:Pr,u=.agg #[.int .i64 p.id,.slice p.oA p.on p.oc,.slice p.nA p.nn p.nc]∧p.upd=x∧p.ok∧Ro w M (VlsIn p.oA p.on p.old)∧Ro w M (VlsIn p.nA p.nn p.new)
def Xb (M:Nat→Prop) (l:List Upd) (u:Value) (w:World):Prop:=∃ (A:Option Addr) (n c:Nat) (ps:List Pr),u=.slice A n c∧n≤c∧c≤9223372036854775807∧ps.map Pr.upd=l∧(∀ p∈ps,p.ok)∧Ro w M (PrsIn A n ps)
def QG (M:Nat→Prop) (l:List (List Vl)) (u:Value) (w:World):Prop:=∃ (A:Option Addr) (n c:Nat) (ps:List Sl),u=.slice A n c∧n≤c∧c≤9223372036854775807∧ps.map Sl.vs=l∧(∀ p∈ps,p.ok)∧Ro w M (SlsIn A n ps)
def QY (M:Nat→Prop) (l:List Int) (u:Value) (w:World):Prop:=∃ (A:Option Addr) (n c:Nat),u=.slice A n c∧n≤c∧c≤9223372036854775807∧Ro w M (IsIn A n l)
def V4 (M:Nat→Prop) (ins:List (List Vl)) (dels:List Int) (us:List Upd) (u:Value) (w:World):Prop:=∃ a b c:Value,u=.agg #[a,b,c]∧QG M ins a w∧QY M dels b w∧Xb M us c w
def QP (M:Nat→Prop) (r:Int × Tb) (u:Value) (w:World):Prop:=∃ v,u=.tuple #[v,.int .i64 r.1]∧Y2 w M v r.2
def Z6 (M:Nat→Prop) (H:Nat) (t:TypeId) (cs:Array Value) (u:Value) (w:World):Prop:=∃ g:Nat,u=.pointer (some ⟨g,0,none⟩)∧H≤g∧Ro w M (fun w=>w.heap[g]? =some (.cells cs t (0,0)))
theorem XY {M:Nat→Prop} {H:Nat} {t:TypeId} {cs:Array Value} (u:Value) (w w' :World) (hr:RM M w w') (h:Z6 M H t cs u w):Z6 M H t cs u w' :=by
 obtain ⟨g,h1,h2,h3⟩:=h
 exact ⟨g,h1,h2,hr.ro h3⟩
theorem Hold.We {M:Nat→Prop} {row:Option Nat} {w0 w1 w:World} {L:List Hp} (K1:Hold M row w0 w1 L) (K:Hold M row w0 w L) (hr:RM (Mut M L) w1 w) {g:Nat} {t:TypeId} {cs:Array Value} (hg:w1.heap.size≤g) (hb:w.heap[g]? =some (.cells cs t (0,0))):
  Hold M row w0 w (.blk g t cs::L):=by
 have hgl:g<w.heap.size:=Blk.lt (t:=t) (cs:=cs) hb
 have hno:∀ k∈L,k.foot≠some g:=fun k hk hf=>by have:=(K1.fresh k hk g hf).2;omega
 have ee:∀ b,b<w1.heap.size→Mut M (.blk g t cs::L) b→Mut M L b:=fun b hl hb=>by
  rcases ZI.1 hb with hf|hm
  ·have:some g=some b:=hf
   injection this with this
   omega
  ·exact hm
 refine ⟨K.grow,K.low,fun k hk=>?_,fun k hk b hf=>?_,⟨fun b hf k hk he=>?_,K.sep⟩⟩
 ·rcases List.mem_cons.1 hk with rfl|hk
  ·exact hb
  ·have h1:=K1.sat k hk
   have h2:=K.sat k hk
   cases k with
   | blk g' t' cs' =>exact h2
   | own e s v n' xs=>exact h2
   | tp T=>
    refine ⟨h2.1,fun b hb' =>?_⟩
    have hT:T<w1.heap.size:=(K1.fresh _ hk T rfl).2
    rcases ZI.1 hb' with hf|hm'
    ·have:some g=some b:=hf
     injection this with this
     omega
    ·exact h2.2 b hm'
   | ro S=>exact Ro.step h1 hr.1 hr.2 ee
   | cst g' t' cs' =>exact Ro.step h1 hr.1 hr.2 ee
   | ob g' F' =>exact h2
 ·rcases List.mem_cons.1 hk with rfl|hk
  ·have:some g=some b:=hf
   injection this with this
   subst this
   exact ⟨.inl (Nat.le_trans K1.grow.size hg),hgl⟩
  ·exact K.fresh k hk b hf
 ·have:some g=some b:=hf
  injection this with this
  subst this
  exact hno k hk he
theorem Ro.Q3 {w:World} {Q:Nat→Prop} {size n:Nat} {A:Option Addr} {xs:List Value} (h:Ro w Q (SlR size A n xs)) {ga:Nat} {t:TypeId} {cs:Array Value} (hg:w.heap[ga]? =some (.cells cs t (0,0))) (hx:n=0∨∃ u,xs[0]? =some u∧u ∉ cs.toList):Ro w (fun b=>b=ga∨Q b) (SlR size A n xs):=by
 rcases hx with rfl|⟨u0,hu0,hnu⟩
 ·exact fun w2 _ _=>⟨(show Rd w w.heap.size size A 0 xs from h.now).1,fun h0=>absurd h0 (by omega)⟩
 ·intro w2 h1 h2
  have hgl:ga<w.heap.size:=Blk.lt (t:=t) (cs:=cs) hg
  have hgs:(w2.heap.setIfInBounds ga (.cells cs t (0,0)))[ga]? =some (.cells cs t (0,0)):=by
   rw [Array.getElem?_setIfInBounds,if_pos rfl,if_pos (by omega)]
  have hne:∀ b,b≠ga→(w2.heap.setIfInBounds ga (.cells cs t (0,0)))[b]? =w2.heap[b]? :=fun b hb=>by
   rw [Array.getElem?_setIfInBounds,if_neg (fun e=>hb e.symm)]
  have h3:Rd { w2 with heap:=w2.heap.setIfInBounds ga (.cells cs t (0,0)) } _ size A n xs:=h { w2 with heap:=w2.heap.setIfInBounds ga (.cells cs t (0,0)) } (by simpa using h1) (fun b hb hn=>by
   by_cases e:b=ga
   ·subst e;exact hgs.trans hg.symm
   ·exact (hne b e).trans (h2 b hb (fun hm=>hm.elim e hn)))
  refine ⟨h3.1,fun hn=>?_⟩
  obtain ⟨b,o,e,hb,hc⟩:=h3.2 hn
  have hbg:b≠ga:=by
   rintro rfl
   have h4:=hc 0 u0 hu0
   rw [cell_of_row _ _ _ _ _ _ hgs] at h4
   exact hnu (Array.mem_toList_iff.2 (Array.mem_of_getElem? h4))
  refine ⟨b,o,e,by simpa using hb,fun j u hu=>?_⟩
  rw [←hc j u hu]
  exact (World.cell?_of_block (w:=w2) (w' :={ w2 with heap:=w2.heap.setIfInBounds ga (.cells cs t (0,0)) }) (a:=⟨b,o+j,none⟩) (hne b hbg)).symm
def Xd:Array Value:=#[.string ⟨#[]⟩,.slice none 0 0,.int .i64 0,.slice none 0 0]
theorem ZcS {x:Int} (h:x≠0):Value.int .i64 x ∉ Xd.toList:=by simp [Xd,h]
section
variable {M:Nat→Prop}
theorem V9 {x:Upd} (u:Value) (w w' :World) (hr:RM M w w') (h:Y7 M x u w):Y7 M x u w' :=by
 obtain ⟨p,h1,h2,h3,h4,h5⟩:=h
 exact ⟨p,h1,h2,h3,hr.ro h4,hr.ro h5⟩
theorem QJ {l:List Upd} (u:Value) (w w' :World) (hr:RM M w w') (h:Xb M l u w):Xb M l u w' :=by
 obtain ⟨A,n,c,ps,h1,h2,h3,h4,h5,h6⟩:=h
 exact ⟨A,n,c,ps,h1,h2,h3,h4,h5,hr.ro h6⟩
theorem ZeR {l:List (List Vl)} (u:Value) (w w' :World) (hr:RM M w w') (h:QG M l u w):QG M l u w' :=by
 obtain ⟨A,n,c,ps,h1,h2,h3,h4,h5,h6⟩:=h
 exact ⟨A,n,c,ps,h1,h2,h3,h4,h5,hr.ro h6⟩
theorem ZdX {l:List Int} (u:Value) (w w' :World) (hr:RM M w w') (h:QY M l u w):QY M l u w' :=by
 obtain ⟨A,n,c,h1,h2,h3,h6⟩:=h
 exact ⟨A,n,c,h1,h2,h3,hr.ro h6⟩
theorem ZfT {ins:List (List Vl)} {dels:List Int} {us:List Upd} (u:Value) (w w' :World) (hr:RM M w w') (h:V4 M ins dels us u w):V4 M ins dels us u w' :=by
 obtain ⟨a,b,c,h1,h2,h3,h4⟩:=h
 exact ⟨a,b,c,h1,ZeR _ _ _ hr h2,ZdX _ _ _ hr h3,QJ _ _ _ hr h4⟩
theorem Zdt {t:Tb} {v:Value} {w w' :World} (hr:RM M w w') (h:Y2 w M v t):Y2 w' M v t:=by
 obtain ⟨A,n,c,B,m,d,l,h1,h2,h3,h4,h5,h6,h7,h8,h9⟩:=h
 exact ⟨A,n,c,B,m,d,l,h1,h2,h3,h4,h5,hr.ro h6,hr.ro h7,h8,h9⟩
theorem ZeG {r:Int × Tb} (u:Value) (w w' :World) (hr:RM M w w') (h:QP M r u w):QP M r u w' :=by
 obtain ⟨v,h1,h2⟩:=h
 exact ⟨v,h1,Zdt hr h2⟩
theorem JW {id:Int} {old new:List Vl} {a b:Value} {w:World} (hid:I64 id) (ho:∀ v∈old,v.ok) (hn:∀ v∈new,v.ok) (h:Z0 M old a w) (k:Z0 M new b w):Y7 M (id,old,new) (.agg #[.int .i64 id,a,b]) w:=by
 obtain ⟨A,n,c,rfl,h1,h2,h3,h4⟩:=h
 obtain ⟨B,m,d,rfl,k1,k2,k3,k4⟩:=k
 exact ⟨⟨id,A,n,c,old,B,m,d,new⟩,rfl,rfl,⟨hid,h2,h3,k2,k3,ho,hn⟩,h4,k4⟩
theorem Zgj {ins:List (List Vl)} {dels:List Int} {us:List Upd} {a b c:Value} {w:World} (h1:QG M ins a w) (h2:QY M dels b w) (h3:Xb M us c w):V4 M ins dels us (.agg #[a,b,c]) w:=⟨a,b,c,rfl,h1,h2,h3⟩
theorem Ziy {x y:Upd} {a b:Value} {w:World} {g:Nat} {t:TypeId} {cs:Array Value} (hg:Ro w M (fun w=>w.heap[g]? =some (.cells cs t (0,0)))) (hc:∀ i j k i' j' k',a=.agg #[i,j,k]→b=.agg #[i',j',k']→cs=#[i,j,k,i',j',k']) (h:Y7 M x a w) (k:Y7 M y b w):Xb M [x,y] (.slice (some ⟨g,0,none⟩) 2 2) w:=by
 obtain ⟨p,rfl,rfl,h3,h4,h5⟩:=h
 obtain ⟨q,rfl,rfl,k3,k4,k5⟩:=k
 obtain rfl:=hc _ _ _ _ _ _ rfl rfl
 refine ⟨_,2,2,[p,q],rfl,by omega,by omega,rfl,fun z hz=>?_,?_⟩
 ·simp only [List.mem_cons,List.not_mem_nil,or_false] at hz
  rcases hz with rfl|rfl<;>assumption
 ·exact (show Ro w M (SlR 3 (some ⟨g,0,none⟩) 2 (ZZ [p,q])) from ZL hg rfl).and fun w2 h1 h2 r hr=>by
   simp only [List.mem_cons,List.not_mem_nil,or_false] at hr
   rcases hr with rfl|rfl
   ·exact ⟨h4 w2 h1 h2,h5 w2 h1 h2⟩
   ·exact ⟨k4 w2 h1 h2,k5 w2 h1 h2⟩
theorem JD {x:Upd} {a:Value} {w:World} {g:Nat} {t:TypeId} {cs:Array Value} (hg:Ro w M (fun w=>w.heap[g]? =some (.cells cs t (0,0)))) (hc:∀ i j k,a=.agg #[i,j,k]→cs=#[i,j,k]) (h:Y7 M x a w):Xb M [x] (.slice (some ⟨g,0,none⟩) 1 1) w:=by
 obtain ⟨p,rfl,rfl,h3,h4,h5⟩:=h
 obtain rfl:=hc _ _ _ rfl
 refine ⟨_,1,1,[p],rfl,by omega,by omega,rfl,fun z hz=>?_,?_⟩
 ·simp only [List.mem_cons,List.not_mem_nil,or_false] at hz
  subst hz;assumption
 ·exact (show Ro w M (SlR 3 (some ⟨g,0,none⟩) 1 (ZZ [p])) from ZL hg rfl).and fun w2 h1 h2 r hr=>by
   simp only [List.mem_cons,List.not_mem_nil,or_false] at hr
   subst hr
   exact ⟨h4 w2 h1 h2,h5 w2 h1 h2⟩
end
end Go.Proofs.YtnbbllkbefagmaaGreatDoor
namespace Go.Proofs.YtnbbllkbefagmaaGreatDoor
open Go.RowKit
set_option linter.unusedVariables false
set_option linter.unusedSimpArgs false
section
variable {P:Program} {M:Nat→Prop} {row:Option Nat} {w0 w1:World} {L:List Hp} {sp:SpW} {F:Act→Prop} {S0:Array Bool}
variable {ops:Array Oper} {o:Oper} {rest:List Oper} {a:Act} {k:Nat}
theorem ZcV {t e:TypeId} {size bytes:Nat} {z:Value} (hE:ElemT P t e size bytes z) (d:Tmp) (V:Value→World→Prop) (hS:S0.getD k false=false) (hw:Region.wanted o (yielded ops a.tmps)=true) (hd:o.dst=some d) (hsp:sp d=some V)
  (s x:Operand) (ho:o.op=.call { callee:=.builtin .append,args:=#[s,x],argTypes:=#[t,t] }) (hs:a.eval s=.slice none 0 0) {A:Option Addr} {m c:Nat} {ys:List Value} (hx:a.eval x=.slice A m c) (h1:∀ u∈ys,u.oneCell' =true) (hq:m<140737488355328) (hb:m * bytes≤140737488355328)
  (hr:∀ w,Hold M row w0 w L→Yl ops (GW sp) o a w→SlR size A m ys w) (hV:∀ C' cap' w w',Hold M row w0 w L→RM (Mut M L) w1 w→Hold M row w0 w' L→m≤cap' →cap' ≤9223372036854775807→w'.ownsRow w.heap.size e size (.slice C' m cap') m ys→V (.slice C' m cap') w')
  (hn:∀ u w,Hold M row w0 w L→V u w→Zz P ops (HC M row w0 w1 L) (GW sp) (RM (Mut M L)) S0 F (k+1) rest (a.put (some d) u)):Zz P ops (HC M row w0 w1 L) (GW sp) (RM (Mut M L)) S0 F k (o::rest) a:=by
 refine Q9 hS hw d hd (fun w hC hD=>?_) fun u w hC hu=>hn u w hC.1 ((Zl hsp).1 hu)
 obtain ⟨C',cap',w',hrun,c1,c2,ho2,hb2⟩:=zX hE o.type w (hr w hC.1 hD) (c:=c) h1 hq hb
 have hH:=hC.1.call hb2
 refine ⟨.slice C' m cap',w',?_,(Zl hsp).2 (hV C' cap' w w' hC.1 hC.2 hH c1 c2 ho2),⟨hH,hC.2.trans (RM.below hb2)⟩,RM.below hb2⟩
 unfold execOp
 simp only [ho,resolve,invoke,builtin,Sem.run_bind,Sem.run_pure,Result.andThen_ok,List.map_toArray,List.map_cons,List.map_nil,hs,hx,hrun]
end
end Go.Proofs.YtnbbllkbefagmaaGreatDoor
namespace Go.Proofs.YtnbbllkbefagmaaGreatDoor
open Go.RowKit
set_option linter.unusedVariables false
set_option linter.unusedSimpArgs false
def Sm.val (s:Sm):Value:=.agg #[.string s.nm,.slice s.cols.A s.cols.n s.cols.c]
def Pl.more (p:Pl) (s:Sm) (A:Option Addr) (c:Nat):Pl:=⟨⟨A,p.fr.n+1,c,p.fr.l++[⟨s.nm,false,s.cols,SlP.nil⟩]⟩,p.tb⟩
def ZcD (w:World) (M:Nat→Prop) (p:Pl) (s:Sm) (e:Ending) (w' :World):Prop:=∃ (A:Option Addr) (c:Nat),e=.returned (p.more s A c).val∧p.fr.n+1≤c∧Ro w' M (Zg (p.more s A c))∧Below w.heap.size w w'
theorem Tryz.WZ:ElemT Tryz.prog 149 210 4 72 (.agg #[.string ⟨#[]⟩,.bool false,.slice none 0 0,.slice none 0 0]):=⟨Tryz.underlying149,by kernel_rfl,rfl,by omega⟩
theorem ze (l:List Fr):∀ u∈XR l,u.oneCell' =true:=fun u hu=>by
 unfold XR at hu
 rw [List.mem_flatMap] at hu
 obtain ⟨x,_,hx⟩:=hu
 simp only [Fr.cells,List.mem_cons,List.not_mem_nil,or_false] at hx
 rcases hx with rfl|rfl|rfl|rfl<;>rfl
def Ur (b0 n:Nat) (l:List Fr) (u:Value) (w:World):Prop:=∃ (A:Option Addr) (c:Nat),u=.slice A n c∧w.ownsRow b0 210 4 (.slice A n c) n (XR l)
theorem ZdQ {M:Nat→Prop} {b0 n:Nat} {l:List Fr} (hM:∀ b,M b→b<b0) (u:Value) (w w' :World) (hr:RM M w w') (h:Ur b0 n l u w):Ur b0 n l u w' :=by
 obtain ⟨A,c,h1,h2⟩:=h
 exact ⟨A,c,h1,Zb7 hM hr h2⟩
def Uy (M:Nat→Prop) (cs:List Value) (u:Value) (w:World):Prop:=∃ g:Nat,u=.slice (some ⟨g,0,none⟩) 1 1∧Ro w M (SlR 4 (some ⟨g,0,none⟩) 1 cs)
theorem ZhG {M:Nat→Prop} {cs:List Value} (u:Value) (w w' :World) (hr:RM M w w') (h:Uy M cs u w):Uy M cs u w' :=by
 obtain ⟨g,h1,h2⟩:=h
 exact ⟨g,h1,hr.ro h2⟩
set_option maxRecDepth 100000 in
set_option maxHeartbeats 8000000 in
theorem Qe (M:Nat→Prop) (w:World) (hM:∀ b,M b→b<w.heap.size) (p:Pl) (s:Sm) (hp:Ro w M (Zg p)) (hs:Ro w M (ZQ s)) (hn:p.fr.n≤1000):
  Calls Tryz.prog 158 #[p.val,s.val] w fun e w' =>ZcD w M p s e w' :=by
 obtain ⟨⟨fA,fn,fc,fl⟩,⟨sA,sn,sc,sl⟩⟩:=p
 obtain ⟨snm,⟨cA,cn,cc,cl⟩⟩:=s
 simp only at hn
 have hL:=hid (show fl.length=fn from FrsIn.len hp.now.1)
 have K0:=((((((Hold.start M w hM).add (hs.less (by simp [Mut]))).add ((hp.imp (S' :=SmsIn ⟨sA,sn,sc,sl⟩) fun w2 h2=>h2.2).less (by simp [Mut,Hp.foot]))).add ((hp.imp (S' :=FrsIn ⟨fA,fn,fc,fl⟩) fun w2 h2=>h2.1).less (by simp [ZI,Mut,Hp.foot]))).Za #[.slice fA fn fc,.slice sA sn sc] 177).Za #[.string snm,.slice cA cn cc] 49).alloc #[.slice none 0 0,.slice none 0 0] 177
 rw [World.size_alloc,World.size_alloc] at K0
 obtain ⟨gp,hgp⟩:∃ g,g=w.heap.size:=⟨_,rfl⟩
 rw [←hgp] at K0
 obtain ⟨gs,hgs⟩:∃ g,g=gp+1:=⟨_,rfl⟩
 obtain ⟨gr,hgr⟩:∃ g,g=gs+1:=⟨_,rfl⟩
 rw [←hgs,←hgr] at K0
 obtain ⟨KL,hKL⟩:∃ KL:List Hp,KL=[.cst gp 177 #[.slice fA fn fc,.slice sA sn sc],.cst gs 49 #[.string snm,.slice cA cn cc],.ro (FrsIn ⟨fA,fn,fc,fl⟩),.ro (SmsIn ⟨sA,sn,sc,sl⟩),.ro (ZQ ⟨snm,⟨cA,cn,cc,cl⟩⟩),.blk gr 177 #[.slice none 0 0,.slice none 0 0]]:=⟨_,rfl⟩
 have hcast:∀ (L1:List Hp) (wz:World),Hold M none w wz L1→L1=KL→Hold M none w wz KL:=fun _ _ h e=>e ▸ h
 have K1:=hcast _ _ (K0.pick [2,1,3,4,5,0] (by decide) rfl) hKL.symm
 have F0:=K0.facts
 simp only [zg] at F0
 have H1:∀ wv:World,Hold M none w wv KL→Blk wv gp 177 #[.slice fA fn fc,.slice sA sn sc]:=fun wv h=>by rw [hKL] at h;exact h.ZB 0 rfl
 have H2:∀ wv:World,Hold M none w wv KL→Blk wv gs 49 #[.string snm,.slice cA cn cc]:=fun wv h=>by rw [hKL] at h;exact h.ZB 1 rfl
 have H3:∀ wv:World,Hold M none w wv KL→SlR 4 fA fn (XR fl) wv:=fun wv h=>by rw [hKL] at h;exact (h.ro 2 rfl).now.1
 have HH1:=hid H1
 have HH2:=hid H2
 have HH3:=hid H3
 have HKL:=hid hKL
 clear hKL hcast H1 H2 H3 K0 hp hs
 simp only [Pl.val,Sm.val]
 go_enter Tryz.func158,Tryz.ntmps158
 go_wp2_with fail
 rw [←hgp]
 try rw [←hgs]
 try rw [←hgr]
 have HG:=hid (And.intro hgp (And.intro hgs hgr))
 clear hgp hgs hgr F0
 obtain ⟨w1,hw1⟩:∃ w1,w1=((w.alloc (.cells #[.slice fA fn fc,.slice sA sn sc] 177)).alloc (.cells #[.string snm,.slice cA cn cc] 49)).alloc (.cells #[.slice none 0 0,.slice none 0 0] 177):=⟨_,rfl⟩
 rw [←hw1] at K1 ⊢
 have HW1:=hid hw1
 clear hw1
 have hb0:∀ b,Mut M KL b→b<w1.heap.size:=K1.Zb
 refine wp_region_any (by kernel_rfl) ?_
 refine Zp 9 20 (KL) (spL [(8,Ur w1.heap.size fn fl),(14,Uy (Mut M KL) [.string snm,.bool false,.slice cA cn cc,.slice none 0 0])]) (by kernel_rfl) (by kernel_rfl) (by kernel_rfl) rfl ?_ (K1.drew) ?_
 ·exact Ze (ZdQ hb0) (Ze ZhG (Zo _))
 simp only [zd,Act.put,List.getElem_toArray,List.getElem_cons_zero,List.getElem_cons_succ,zl]
 refine' dv rfl rfl rfl (fun wv HC=>?_) ?_;rotate_left
 · go_simp<;>rfl
 simp only [Act.put,zl]
 refine' dv rfl rfl rfl (fun wv HC=>?_) ?_;rotate_left
 ·have q0:=(HH1.out _ HC).cell 0;go_simp<;>rfl
 simp only [Act.put,zl]
 refine ZcV Tryz.WZ 8 (Ur w1.heap.size fn fl) rfl rfl rfl rfl (.const (.slice none 0 0)) (.tmp 7) rfl rfl (A:=fA) (m:=fn) (c:=fc) (ys:=XR fl) rfl (ze _) (by omega) (by omega) (fun wv HC hD=>HH3.out _ HC) (fun C9 c9 wa wv HCa hrm HC q1 q2 hro=>⟨C9,c9,rfl,ZbD (show w1.heap.size≤wa.heap.size from hrm.1) hro⟩) ?_
 rintro u wx HCx ⟨A8,c8,rfl,-⟩
 clear HCx
 simp only [Act.put,zl]
 refine' dv rfl rfl rfl (fun wv HC=>?_) ?_;rotate_left
 · go_simp<;>rfl
 simp only [Act.put,zl]
 refine' dv rfl rfl rfl (fun wv HC=>?_) ?_;rotate_left
 ·have q0:=(HH2.out _ HC).cell 0;go_simp<;>rfl
 simp only [Act.put,zl]
 refine' dv rfl rfl rfl (fun wv HC=>?_) ?_;rotate_left
 · go_simp<;>rfl
 simp only [Act.put,zl]
 refine' dv rfl rfl rfl (fun wv HC=>?_) ?_;rotate_left
 ·have q0:=(HH2.out _ HC).cell 1;go_simp<;>rfl
 simp only [Act.put,zl]
 refine' dv rfl rfl rfl (fun wv HC=>?_) ?_;rotate_left
 · go_simp<;>rfl
 simp only [Act.put,zl]
 refine Ye #[.string snm,.bool false,.slice cA cn cc,.slice none 0 0] 210 14 (Uy (Mut M KL) [.string snm,.bool false,.slice cA cn cc,.slice none 0 0]) (fun g=>.slice (some ⟨g,0,none⟩) 1 1) rfl rfl rfl rfl (fun wv=>?_) (fun wv HC _hrm hD hro=>?_) ?_
 ·go_simp<;>rfl
 ·exact ⟨_,rfl,ZL (hro _ HC.Zb) rfl⟩
 rintro g14 wg HCg h14
 simp only [Act.put,zl]
 clear HCg h14
 refine Zj ?_
 rintro wx2 HX
 rintro hrm HGW
 have h8:Ur w1.heap.size fn fl (.slice A8 fn c8) wx2:=(Zl (d:=8) rfl).1 (HGW 2 _ rfl (by omega))
 have h14:Uy (Mut M KL) [.string snm,.bool false,.slice cA cn cc,.slice none 0 0] (.slice (some ⟨g14,0,none⟩) 1 1) wx2:=(Zl (d:=14) rfl).1 (HGW 8 _ rfl (by omega))
 clear HGW
 obtain ⟨A8',c8',e8,h8⟩:=h8
 obtain ⟨rfl,rfl⟩:A8=A8' ∧c8=c8' :=by injection e8 with e1 e2 e3;exact ⟨e1,e3⟩
 obtain ⟨g',e14,h14⟩:=h14
 obtain rfl:g14=g' :=by injection e14 with e14;injection e14 with e14;injection e14
 have K9:=K1.drew.Q4 HX hrm h8
 rw [HKL.out] at K9
 have HSR:=hid h14.now
 clear hrm HX h8 h14 HH1 HH2 HH3 K1 e8 e14 hb0
 have F9:=K9.facts
 simp only [zg] at F9
 go_wp2_with (at_builtin;go_must (refine ZW K9 0 rfl Tryz.WZ HSR.out rfl (.tmp 8) (.tmp 14) rfl rfl rfl (by intro u hu;simp at hu;rcases hu with rfl|rfl|rfl|rfl<;>rfl) (by omega) (by omega) ?_);intro C9 cap9 w9 hc9 hm9 KB;simp only [List.set_cons_zero] at KB;have FB:=KB.facts;simp only [zg] at FB)
 have K5:=(KB.store 6 rfl 0 (.slice C9 (fn+1) cap9)).store 6 rfl 1 (.slice sA sn sc)
 simp only [zl] at K5
 have F5:=K5.facts
 simp only [zg] at F5
 have KS:=K5.Zu 0 rfl
 simp only [List.set_cons_zero] at KS
 have hR:Ro _ _ (Zg (Pl.more ⟨⟨fA,fn,fc,fl⟩,⟨sA,sn,sc,sl⟩⟩ ⟨snm,⟨cA,cn,cc,cl⟩⟩ C9 cap9)):=((KS.ro 0 rfl).and ((KS.ro 3 rfl).and ((KS.ro 4 rfl).and (KS.ro 5 rfl)))).imp fun w2 h2=>⟨⟨by
   have h3:=h2.1
   have e:XR fl++[.string snm,.bool false,.slice cA cn cc,.slice none 0 0]=(fl++[(⟨snm,false,⟨cA,cn,cc,cl⟩,SlP.nil⟩:Fr)]).flatMap Fr.cells:=by simp [XR,Fr.cells,SlP.v,SlP.nil]
   rw [e] at h3
   exact h3,fun x hx=>by
   have hx:x∈fl++[(⟨snm,false,⟨cA,cn,cc,cl⟩,SlP.nil⟩:Fr)]:=hx
   rcases List.mem_append.1 hx with hx|hx
   ·exact h2.2.1.2 x hx
   ·simp only [List.mem_cons,List.not_mem_nil,or_false] at hx
    subst hx
    exact ⟨h2.2.2.2,SlP.Zx _ _ _ _⟩⟩,h2.2.2.1⟩
 have HR:=hid (hR.less zm)
 have HB:=hid K5.below
 clear K5 KS KB hR
 refine bodyPost_ret (v:=.agg #[.slice C9 (fn+1) cap9,.slice sA sn sc]) ?_ rfl ?_
 ·clear HR HB
  simp [results,Tryz.results158,go_sem,F5]
 ·exact ⟨C9,cap9,rfl,hc9,HR.out,HB.out⟩
set_option maxHeartbeats 1000000 in
theorem zD (k i:Int) (s:ByteArray) (w:World):
  Calls Tryz.prog 182 #[.agg #[.int .i64 k,.int .i64 i,.string s]] w fun e w' =>e=.returned (.bool (Yq k i s))∧w.alloc (.cells #[.int .i64 k,.int .i64 i,.string s] 122)=w' :=by
 by_cases h0:k=0
 ·subst h0
  cases hi:(i==0)<;>cases he:s.toList.isEmpty
  all_goals
   go_enter Tryz.func182,Tryz.ntmps182
   go_wp2_with fail
   go_ret
   refine ⟨?_,rfl⟩
   simp [Yq,hi,he]
 by_cases h1:k=1
 ·subst h1
  go_enter Tryz.func182,Tryz.ntmps182
  go_wp2_with fail
  go_ret
  refine ⟨?_,rfl⟩
  simp [Yq]
 by_cases h2:k=2
 ·subst h2
  cases hi:(i==0)<;>cases hj:(i==1)
  all_goals
   go_enter Tryz.func182,Tryz.ntmps182
   go_wp2_with fail
   go_ret
   refine ⟨?_,rfl⟩
   simp [Yq,hi,hj]
 by_cases h3:k=3
 ·subst h3
  cases hi:(i==0)
  ·have hi' :(i !=0)=true:=by simp only [bne,hi,Bool.not_false]
   go_enter Tryz.func182,Tryz.ntmps182
   go_wp2_with fail
   go_ret
   refine ⟨?_,rfl⟩
   simp [Yq,hi]
  ·have hi' :(i !=0)=false:=by simp only [bne,hi,Bool.not_true]
   by_cases hl:s.size≤64
   ·have l0:((s.size:Int))≤64:=by omega
    have HV:Hid (Yq 3 i s=XB s):=by unfold Hid;simp [Yq,hi]
    have B0:=Blk.new w 122 #[.int .i64 3,.int .i64 i,.string s]
    obtain ⟨c0,c1,c2,cl⟩:=B0.c3
    go_enter Tryz.func182,Tryz.ntmps182
    go_wp2_with fail
    go_loop [3] (fun j=>∃ k:Nat,k≤s.size∧j=.int .i64 k∧(s.data.toList.take k).all V7=true) (fun j=>s.size - (intOf j).toNat)
    case atStart=>exact ⟨0,by omega,rfl,rfl⟩
    case round=>
     obtain ⟨k,hk,rfl,hall⟩:=hrel
     have HA:=hid hall;clear hall
     by_cases hlt:k<s.size
     ·have hts:Hid (s.data.toList.take (k+1)=s.data.toList.take k++[s[k]]):=by
       unfold Hid;rw [List.take_succ_eq_append_getElem (by simpa using hlt)];rfl
      by_cases hb:32≤s[k].toNat∧s[k].toNat≤126
      ·have b1:(32:Int)≤(s[k].toNat:Int):=by omega
       have b2:(s[k].toNat:Int)≤126:=by omega
       have HB:=hid hb;clear hb
       go_wp2_with fail
       go_round
       case rel=>exact ⟨k+1,by omega,by go_num,by rw [hts.out,List.all_append,HA.out];simp [V7,HB.out]⟩
       case measure=>simp [intOf];omega
      ·have hno:Hid (XB s=false):=by
        unfold Hid XB
        have:s.data.toList.all V7=false:=by
         rw [List.all_eq_false]
         exact ⟨s[k],List.mem_of_getElem (i:=k) (h:=by simpa using hlt) rfl,by simp [V7];omega⟩
        rw [this];rfl
       by_cases h32:(s[k].toNat:Int)<32
       ·clear hb
        go_wp2
        go_ret
        exact ⟨by rw [HV.out,hno.out];rfl,rfl⟩
       ·have h126:(126:Int)<(s[k].toNat:Int):=by omega
        clear hb
        go_wp2
        go_ret
        exact ⟨by rw [HV.out,hno.out];rfl,rfl⟩
     ·obtain rfl:k=s.size:=by omega
      have hyes:Hid (XB s=true):=by
       unfold Hid XB
       have h:=HA.out
       rw [List.take_of_length_le (by simp)] at h
       rw [h];simpa using hl
      go_wp2
      go_ret
      exact ⟨by rw [HV.out,hyes.out];rfl,rfl⟩
   ·have l0:(64:Int)<(s.size:Int):=by omega
    have HV:Hid (Yq 3 i s=false):=by unfold Hid;simp [Yq,hi,XB];omega
    go_enter Tryz.func182,Tryz.ntmps182
    go_wp2_with fail
    go_ret
    exact ⟨by rw [HV.out];rfl,rfl⟩
 ·have k0:(k==0)=false:=by simpa using h0
  have k1:(k==1)=false:=by simpa using h1
  have k2:(k==2)=false:=by simpa using h2
  have k3:(k==3)=false:=by simpa using h3
  go_enter Tryz.func182,Tryz.ntmps182
  go_wp2_with fail
  go_ret
  refine ⟨?_,rfl⟩
  simp [Yq,h0,h1,h2,h3]
theorem ZeT (k i:Int) (s:ByteArray) (w:World) (hs:s.size≤maxLen):
  Calls Tryz.prog 182 #[.agg #[.int .i64 k,.int .i64 i,.string s]] w fun e w' =>e=.returned (.bool (Yq k i s))∧w.alloc (.cells #[.int .i64 k,.int .i64 i,.string s] 122)=w' :=zD k i s w
def Gives (f:FuncId) (args:Array Value) (v:Value):Prop:=
 ∀ w:World,Calls Tryz.prog f args w fun e w' =>e=.returned v∧Below w.heap.size w w'
def ZbH (nm:ByteArray) (ty:Int) (nn key:Bool) (k i:Int) (s:ByteArray):Int:=
 if Yq k i s then (if k==0 then (if nn then 8 else 0) else if k==ty then 0 else 5) else 17
set_option maxHeartbeats 1000000 in
theorem Zff (nm:ByteArray) (ty:Int) (nn key:Bool) (k i:Int) (s:ByteArray) (hs:s.size≤maxLen):
  Gives 123 #[.agg #[.string nm,.int .i64 ty,.bool nn,.bool key],.agg #[.int .i64 k,.int .i64 i,.string s]] (.int .i64 (ZbH nm ty nn key k i s)):=by
 intro w
 have v1:=fun w=>ZeT k i s w hs
 cases e1:Yq k i s<;>cases z:(k==0)<;>cases nn<;>cases tt:(k==ty)
 all_goals
  rw [e1] at v1
  have V1:=hid v1;clear v1
  have z' :(k !=0)=!(k==0):=rfl
  have tt' :(k !=ty)=!(k==ty):=rfl
  rw [z] at z'
  rw [tt] at tt'
  simp only [Bool.not_true,Bool.not_false] at z' tt'
  go_enter Tryz.func123,Tryz.ntmps123
  go_wp2_with fail
  refine (V1.out _).mono ?_
  rintro e w1 ⟨rfl,rfl⟩
  go_wp2_with fail
  go_ret
  exact ⟨by simp [ZbH,e1,z,tt],ZgC _ _ _ _⟩
theorem Zdq (c:Col) (v:Vl) (hs:v.s.size≤maxLen):Gives 123 #[.agg #[.string c.name,.int .i64 c.ty,.bool c.nn,.bool c.key],.agg #[.int .i64 v.k,.int .i64 v.i,.string v.s]] (.int .i64 (YH c v)):=Zff c.name c.ty c.nn c.key v.k v.i v.s hs
set_option maxHeartbeats 4000000 in
set_option maxRecDepth 100000 in
theorem Qd (M:Nat→Prop) (w:World) (hM:∀ b,M b→b<w.heap.size) (nm:ByteArray) (A:Option Addr) (n c:Nat) (cs:List Col) (B:Option Addr) (m d:Nat) (vs:List Vl) (hD:Ro w M (SlR 4 A n (Zd cs))) (hE:Ro w M (VlsIn B m vs)) (hn:n≤9223372036854775807) (hm:m≤9223372036854775807) (hok:∀ v∈vs,v.ok):
  Calls Tryz.prog 62 #[.agg #[.string nm,.slice A n c],.slice B m d] w fun e w' =>e=.returned (.int .i64 (ZC cs vs))∧Below w.heap.size w w' :=by
 have HL:=hid (RdC.Zy hD.now).len
 have HV:=hid hE.now.len
 have K0:=(((Hold.start M w hM).add (hE.less (by simp [Mut]))).add (hD.less (by simp [Mut,Hp.foot]))).Za #[.string nm,.slice A n c] 49
 have F0:=K0.facts
 simp only [zg] at F0
 go_enter Tryz.func62,Tryz.ntmps62
 by_cases hnm:m=n
 ·subst hnm
  have hb:((m:Int) !=(m:Int))=false:=by simp
  have HE0:=hid (show ZC cs vs=Xk (cs.drop 0) (vs.drop 0) by unfold ZC;rw [if_pos (by rw [HL.out,HV.out])];rfl)
  clear hD hE
  go_wp2_with fail
  clear F0
  go_loopw [17] (fun iv wr=>∃ k:Nat,k≤m∧iv=.int .i64 k∧Hid (ZC cs vs=Xk (cs.drop k) (vs.drop k))∧Hold M none w wr [.cst w.heap.size 49 #[.string nm,.slice A m c],.ro (SlR 4 A m (Zd cs)),.ro (VlsIn B m vs)]) (fun iv _=>m - (intOf iv).toNat)
  case atStart=>exact ⟨0,by omega,rfl,HE0,K0⟩
  case round=>
   clear K0 HE0
   obtain ⟨k,hk,rfl,HE,H⟩:=hrel
   by_cases hlt:k<m
   ·have hd:decide ((k:Int)<(m:Int))=true:=by simp;omega
    have k0:(0:Int)≤(k:Int):=by omega
    have k1:(k:Int)<(m:Int):=by omega
    obtain ⟨x,hx⟩:=YA HL.out hlt
    obtain ⟨v,hv⟩:=Zq HV.out hlt
    obtain ⟨g,o,rfl,hgb,c0,c1,c2,c3⟩:=(RdC.Zy (H.ro 1 rfl).now).at_ hx
    have hvok:=hok v (List.mem_of_getElem? hv)
    have HX:=hid hx;have HVV:=hid hv
    clear hx hv
    have K1:=H.Za #[.string x.name,.int .i64 x.ty,.bool x.nn,.bool x.key] 158
    obtain ⟨gb,hgb⟩:∃ gb,gb=wr.heap.size:=⟨_,rfl⟩
    obtain ⟨KL,hKL⟩:∃ KL:List Hp,KL=[Hp.cst wr.heap.size 158 #[.string x.name,.int .i64 x.ty,.bool x.nn,.bool x.key],.cst w.heap.size 49 #[.string nm,.slice (some ⟨g,o,none⟩) m c],.ro (SlR 4 (some ⟨g,o,none⟩) m (Zd cs)),.ro (VlsIn B m vs)]:=⟨_,rfl⟩
    rw [←hKL] at K1
    rw [←hgb] at hKL
    obtain ⟨gv,ov,rfl,_⟩:=(H.ro 2 rfl).now.at_ HVV.out
    have HF:Hid (∀ wv,Hold M none w wv KL→(wv.cell? ⟨gb,0,none⟩=some (.string x.name)∧wv.cell? ⟨gb,1,none⟩=some (.int .i64 x.ty)∧wv.cell? ⟨gb,2,none⟩=some (.bool x.nn)∧wv.cell? ⟨gb,3,none⟩=some (.bool x.key))∧gb<wv.heap.size∧wv.cell? ⟨gv,ov+k * 3,none⟩=some (.int .i64 v.k)∧wv.cell? ⟨gv,ov+k * 3+1,none⟩=some (.int .i64 v.i)∧wv.cell? ⟨gv,ov+k * 3+2,none⟩=some (.string v.s)∧gv<wv.heap.size):=hid fun wv HC=>by
     rw [hKL] at HC
     have b0:=HC.ZB 0 rfl
     obtain ⟨gv',ov',e',hl,e0,e1,e2⟩:=(HC.ro 3 rfl).now.at_ HVV.out
     obtain ⟨rfl,rfl⟩:gv=gv' ∧ov=ov' :=by injection e' with e';injection e' with a1 a2;exact ⟨a1,a2⟩
     exact ⟨⟨cell_of_row _ _ 0 _ _ _ b0,cell_of_row _ _ 1 _ _ _ b0,cell_of_row _ _ 2 _ _ _ b0,cell_of_row _ _ 3 _ _ _ b0⟩,Blk.lt b0,e0,e1,e2,hl⟩
    go_wp2_with fail
    rw [←hgb]
    have HGB:=hid hgb
    have HKL:=hid hKL
    clear hgb hKL
    generalize wr.alloc (.cells #[.string x.name,.int .i64 x.ty,.bool x.nn,.bool x.key] 158)=w2 at *
    refine wp_region_any (by kernel_rfl) ?_
    refine Zp 6 32 (KL) (spL [(27,IsV (.int .i64 (YH x v)))]) (by kernel_rfl) (by kernel_rfl) (by kernel_rfl) rfl ?_ (K1.drew) ?_
    ·exact Ze Vg (Zo _)
    simp only [zd,Act.put,List.getElem_toArray,List.getElem_cons_zero,List.getElem_cons_succ,zl]
    repeat (refine' dv rfl rfl rfl (fun wv HC=>?_) ?_;rotate_left;(focus (obtain ⟨⟨f0,f1,f2,f3⟩,f4,f5,f6,f7,f8⟩:=HF.out _ HC;go_simp<;>rfl;done));simp only [Act.put,zl])
    refine Zm 27 (IsV (.int .i64 (YH x v))) (f:=123) (args:=#[.agg #[.string x.name,.int .i64 x.ty,.bool x.nn,.bool x.key],.agg #[.int .i64 v.k,.int .i64 v.i,.string v.s]]) rfl rfl rfl rfl (fun wv=>?_) (fun wv HC hrm hD=>?_) ?_
    ·go_simp<;>rfl
    ·refine (Zdq x v hvok.2.2 wv).mono ?_
     rintro e w5 ⟨rfl,b5⟩
     exact ⟨_,rfl,rfl,HC.call b5,RM.below b5⟩
    rintro u wx HCx hu
    obtain rfl:u=_:=hu
    clear HCx
    simp only [Act.put,zl]
    refine Zj ?_
    rintro wx2 HX2
    rintro _hrm _HG
    rw [HKL.out] at HX2
    clear _hrm _HG
    by_cases hz:YH x v=0
    ·have HN:=hid (show ZC cs vs=Xk (cs.drop (k+1)) (vs.drop (k+1)) by rw [HE.out,ZfL HX.out HVV.out hz])
     rw [hz]
     clear hz
     go_wp2_with fail
     go_roundw
     case rel=>exact ⟨k+1,by omega,by go_num,HN,HX2.drop (List.sublist_cons_self _ _)⟩
     case measure=>simp [intOf];omega
    ·have HN:=hid (show ZC cs vs=YH x v by rw [HE.out,ZeB HX.out HVV.out hz])
     have hz2:(YH x v !=0)=true:=by simp [hz]
     clear hz
     go_wp2_with fail
     go_ret
     exact ⟨by rw [HN.out]<;>rfl,HX2.below⟩
   ·obtain rfl:k=m:=by omega
    have hd:decide ((k:Int)<(k:Int))=false:=by simp
    have HN:=hid (show ZC cs vs=0 by rw [HE.out,ZhM (by rw [HL.out];exact Nat.le_refl _)])
    go_wp2_with fail
    go_ret
    exact ⟨by rw [HN.out]<;>rfl,H.below⟩
 ·have hb:((m:Int) !=(n:Int))=true:=by rw [bne_iff_ne];omega
  have HF:=hid (show ZC cs vs=17 by unfold ZC;rw [if_neg (by rw [HL.out,HV.out];exact hnm)])
  go_wp2_with fail
  go_ret
  exact ⟨by rw [HF.out]<;>rfl,K0.below⟩
theorem GU {x y:Vl} (h0:x.k=y.k) (h1:x.i=y.i) (h2:x.s=y.s):x=y:=by
 obtain ⟨a,b,c⟩:=x;obtain ⟨d,e,f⟩:=y;simp only at h0 h1 h2;rw [h0,h1,h2]
end Go.Proofs.YtnbbllkbefagmaaGreatDoor
namespace Go.Proofs.YtnbbllkbefagmaaGreatDoor
open Go.RowKit Go.Maps
set_option linter.unusedVariables false
structure KeyFam (P:Program) (k:TypeId) (κ:Type) where
 val:κ→Value
 ok:κ→Prop
 key:∀ x,ok x→∃ kl,keyOf P k (val x)=some kl
 inj:∀ x y,val x=val y→x=y
structure SetT (P:Program) (t k e:TypeId):Prop where
 ht:P.underlying t=some (.map k e)
 he:P.underlying e=some .bool
 hz:∀ w:World,(zeroValue e).run P w=.ok (.bool false) w
 law:Keyed P k
def MSet {P:Program} {k:TypeId} {κ:Type} (e:TypeId) (F:KeyFam P k κ) (b n:Nat) (S:κ→Prop) (w:World):Prop:=
 ∃ D:DataW Unit,w.ownsMap P k (plainElem P e) b n D∧∀ x,F.ok x→∀ kl,keyOf P k (F.val x)=some kl→∃ c:Bool,D.atKey kl (.lit (.bool false))=.lit (.bool c)∧(c=true↔S x)
section
variable {P:Program} {t k e:TypeId} {κ:Type} {F:KeyFam P k κ} {b n:Nat} {S:κ→Prop} {w w' :World}
theorem MSet.stay (h:MSet e F b n S w) (hb:w'.heap[b]? =w.heap[b]?):MSet e F b n S w' :=by
 obtain ⟨D,⟨es,clock,h1,h2⟩,h3⟩:=h
 exact ⟨D,⟨es,clock,hb.trans h1,h2⟩,h3⟩
theorem MSet.made (e:TypeId) (F:KeyFam P k κ) (w:World) (h:w.heap[b]? =some (.map #[] 0)):MSet e F b 0 (fun _=>False) w:=by
 have h0:=World.ownsMap_made w P k (plainElem (H:=Unit) P e)
 obtain ⟨es,clock,h1,h2⟩:=h0
 have h3:(w.alloc (.map #[] 0)).heap[w.heap.size]? =some (.map #[] 0):=heap_alloc_new w _
 rw [h3] at h1
 injection h1 with h1
 injection h1 with h4 h5
 subst h4 h5
 refine ⟨.map [],⟨#[],0,h,h2⟩,fun x _ kl _=>⟨false,rfl,by simp⟩⟩
theorem Zft {H:Type} (he:P.underlying e=some .bool) {v:Value} {z:DataW H × List MemPlace} (h:plainElem P e v=some z):∃ c,v=.bool c∧z=(.lit (.bool c),[]):=by
 unfold plainElem at h
 rw [he] at h
 cases v<;>simp at h
 subst h
 exact ⟨_,rfl,rfl⟩
theorem MSet.look (T:SetT P t k e) (h:MSet e F b n S w) {x:κ} (hx:F.ok x):∃ c:Bool,(Instr.lookup t (.map (some b)) (F.val x) false).run P w=.ok (.bool c) w∧(c=true↔S x):=by
 obtain ⟨D,h1,h2⟩:=h
 obtain ⟨kl,hk⟩:=F.key x hx
 obtain ⟨c,h3,h4⟩:=h2 x hx kl hk
 obtain ⟨v,ps,hrun,hv⟩:=h1.lookup T.law T.ht (T.hz w) (plainElem_bool T.he false) hk
 obtain ⟨c',rfl,h5⟩:=Zft T.he hv
 rw [h3] at h5
 iterate 3
  injection h5 with h5
 subst h5
 exact ⟨c,hrun,h4⟩
theorem MSet.put (T:SetT P t k e) (h:MSet e F b n S w) {x:κ} (hx:F.ok x) (hn:n<maxLen):∃ w',(Instr.mapUpdate t (.map (some b)) (F.val x) (.bool true)).run P w=.ok () w' ∧MSet e F b (n+1) (fun y=>y=x∨S y) w' ∧w.grownBy w' (some b):=by
 obtain ⟨D,h1,h2⟩:=h
 obtain ⟨kl,hk⟩:=F.key x hx
 obtain ⟨w',hrun,h3,h4⟩:=h1.update T.law T.ht hn hk (plainElem_bool T.he true)
 refine ⟨w',hrun,⟨_,h3,fun y hy kl' hk' =>?_⟩,h4⟩
 by_cases hxy:y=x
 ·subst hxy
  rw [hk] at hk'
  injection hk' with hk'
  subst hk'
  refine ⟨true,?_,by simp⟩
  have hD:IsMap D:=by
   obtain ⟨es,clock,_,_,_,rfl⟩:=h1
   exact ⟨_,rfl⟩
  rw [atKey_put_same hD (T.law.key hk)]
 ·have hne:kl' ≠kl:=fun e=>by
   subst e
   exact hxy (F.inj _ _ (T.law.inj hk' hk))
  obtain ⟨c,h5,h6⟩:=h2 y hy kl' hk'
  exact ⟨c,by rw [atKey_put_other hne];exact h5,by rw [h6];simp [hxy]⟩
end
section
variable {P:Program} {M:Nat→Prop} {row:Option Nat} {w0 w:World} {L:List Hp} {t k e:TypeId} {κ:Type} {F:KeyFam P k κ} {b n:Nat} {S:κ→Prop}
theorem Hold.GY (K:Hold M row w0 w L) (e:TypeId) (F:KeyFam P k κ):Hold M row w0 (w.alloc (.map #[] 0)) (.ob w.heap.size (MSet e F w.heap.size 0 (fun _=>False))::L):=
 K.Zix _ _ fun w' hw' =>MSet.made e F w' hw'
theorem ZaI (K:Hold M row w0 w L) (i:Nat) (hi:L[i]? =some (.ob b (MSet e F b n S))) (T:SetT P t k e) {ops:Array Oper} {rest:List Oper} {o:Oper} {a:Act} {Q:Exit→Act→World→Prop}
  (hg:o.guard=none) (m x:Operand) (hop:o.op=Op.lookup t m x false) (hm:a.eval m=.map (some b)) (y:κ) (hx:a.eval x=F.val y) (hy:F.ok y)
  (h:∀ c:Bool,(c=true↔S y)→wpList P ops Q rest (a.put o.dst (.bool c)) w):wpList P ops Q (o::rest) a w:=by
 refine wpList_plain hg fun K' hK' =>?_
 obtain ⟨c,hrun,hc⟩:=(K.ob_ i hi).look T hy
 unfold Oper.wp
 simp [execOp,hop,hm,hx,hrun,Result.andThen]
 exact hK' _ _ (h c hc)
theorem JS (K:Hold M row w0 w L) (i:Nat) (hi:L[i]? =some (.ob b (MSet e F b n S))) (T:SetT P t k e) {ops:Array Oper} {rest:List Oper} {o:Oper} {a:Act} {Q:Exit→Act→World→Prop}
  (hg:o.guard=none) (m x v:Operand) (hop:o.op=Op.mapUpdate t m x v) (hm:a.eval m=.map (some b)) (y:κ) (hx:a.eval x=F.val y) (hv:a.eval v=.bool true) (hy:F.ok y) (hn:n<maxLen)
  (h:∀ w',Hold M row w0 w' (L.set i (.ob b (MSet e F b (n+1) (fun z=>z=y∨S z))))→wpList P ops Q rest (a.put o.dst undef) w'):wpList P ops Q (o::rest) a w:=by
 refine wpList_plain hg fun K' hK' =>?_
 obtain ⟨w',hrun,h1,h2⟩:=(K.ob_ i hi).put T hy hn
 unfold Oper.wp
 simp [execOp,hop,hm,hx,hv,hrun,Result.andThen]
 exact hK' _ _ (h w' (K.Zit i hi h2 fun w2 hw2=>h1.stay hw2))
end
theorem ZeC {P : Program} {k : TypeId} {f0 f1 f2 : Field} (hu : P.underlying k = some (.struct #[f0, f1, f2])) (hk : P.keyType k = true) (hc : P.cellsOf k = 3) (hs : 0 < P.types.size) (n0 : (f0.name != "_") = true) (n1 : (f1.name != "_") = true) (n2 : (f2.name != "_") = true)
  (o0:f0.offset=0) (o1:f1.offset=1) (o2:f2.offset=2) (u0:P.underlying f0.type=some (.int .i64)) (u1:P.underlying f1.type=some (.int .i64)) (u2:P.underlying f2.type=some .string) (c0:P.cellsOf f0.type=1) (c1:P.cellsOf f1.type=1) (c2:P.cellsOf f2.type=1)
  {a b:Int} {s:ByteArray} (wa:(Lit.int .i64 a).wf=true) (wb:(Lit.int .i64 b).wf=true) (hl:s.size≤maxLen):∃ kl,keyOf P k (.agg #[.int .i64 a,.int .i64 b,.string s])=some kl:=by
 obtain ⟨m,hm⟩:∃ m,P.types.size=m+1:=⟨P.types.size - 1,by omega⟩
 simp [keyOf,hu,hk,Value.formed,hc,hm,Program.keyLits,Value.cells,n0,n1,n2,o0,o1,o2,u0,u1,u2,c0,c1,c2,wa,wb,hl]
end Go.Proofs.YtnbbllkbefagmaaGreatDoor
namespace Go.Proofs.YtnbbllkbefagmaaGreatDoor
open Go.RowKit Go.Maps
set_option linter.unusedVariables false
set_option linter.unusedSimpArgs false
theorem Tryz.Zip:laidOutB Tryz.prog=true:=by kernel_rfl
theorem Tryz.Zim:Keyed Tryz.prog 122:=Keyed.of_law (deep_law_laid Tryz.Zip (m:=8) (by omega) (of_decide_eq_true (by kernel_rfl)) (by kernel_rfl) (by kernel_rfl))
theorem wf_i64 {x:Int} (h:I64 x):(Lit.int .i64 x).wf=true:=by
 simp [Lit.wf,IntKind.min,IntKind.max,IntKind.signed,IntKind.bits]
 obtain ⟨h1,h2⟩:=h
 omega
theorem Zhe (x:Vl) (h:x.ok):∃ kl,keyOf Tryz.prog 122 x.val=some kl:=
 ZeC Tryz.underlying122 (by kernel_rfl) (by kernel_rfl) (of_decide_eq_true (by kernel_rfl)) (by rfl) (by rfl) (by rfl) rfl rfl rfl Tryz.underlying3 Tryz.underlying2 Tryz.underlying9 (by kernel_rfl) (by kernel_rfl) (by kernel_rfl) (wf_i64 h.1) (wf_i64 h.2.1) h.2.2
def QM:KeyFam Tryz.prog 122 Vl where
 val:=Vl.val
 ok:=Vl.ok
 key:=Zhe
 inj:=fun x y h=>by
  cases x;cases y
  simp [Vl.val] at h
  obtain ⟨rfl,rfl,rfl⟩:=h
  rfl
theorem Tryz.G5:SetT Tryz.prog 205 122 4:=⟨Tryz.underlying205,Tryz.underlying4,fun w=>by kernel_rfl,Tryz.Zim⟩
theorem ZeX {κ:Nat} {seen:List Vl} {l:List (List Vl)} {j:Nat} {r:List Vl} {v:Vl} (hr:l[j]? =some r) (hv:r[κ]? =some v) (hs:v∈seen):Yi κ seen (l.drop j)=true:=by
 rw [Yv hr,Yi,if_pos (by omega),Int.toNat_natCast,hv];simp [hs]
theorem Zg5 {κ:Nat} {seen:List Vl} {l:List (List Vl)} {j:Nat} {r:List Vl} {v:Vl} (hr:l[j]? =some r) (hv:r[κ]? =some v) (hs:v ∉ seen):Yi κ seen (l.drop j)=Yi κ (v::seen) (l.drop (j+1)):=by
 rw [Yv hr,Yi,if_pos (by omega),Int.toNat_natCast,hv];simp [hs]
theorem ZfI {κ:Nat} {seen:List Vl} {l:List (List Vl)} {j:Nat} {r:List Vl} (hr:l[j]? =some r) (hv:r.length≤κ):Yi κ seen (l.drop j)=Yi κ seen (l.drop (j+1)):=by
 rw [Yv hr,Yi,if_pos (by omega),Int.toNat_natCast,List.getElem?_eq_none hv]
theorem Zdc {κ:Int} {seen:List Vl} {l:List (List Vl)} {j:Nat} (h:l.length≤j):Yi κ seen (l.drop j)=false:=by rw [List.drop_of_length_le h];rfl
theorem ZaA (cs:List Col) (l:List Rw):YW cs (l.map Rw.row)=Yi (Zi Col.key cs) [] (l.map Rw.vs):=by
 unfold YW;rw [List.map_map];rfl
theorem Zcy (v:Vl) (seen:List Vl):(fun z=>z=v∨z∈seen)=(fun z=>z∈v::seen):=by funext z;simp
set_option maxHeartbeats 4000000 in
set_option maxRecDepth 100000 in
theorem Zal (M:Nat→Prop) (w:World) (hM:∀ b,M b→b<w.heap.size) (nm:ByteArray) (A:Option Addr) (n c:Nat) (cs:List Col) (nx:Int) (B:Option Addr) (m d:Nat) (l:List Rw) (hD:Ro w M (SlR 4 A n (Zd cs))) (hE:Ro w M (RwsIn B m l)) (hn:n≤9223372036854775807) (hm:m≤4611686018427387904) (hok:∀ r∈l,r.ok):
  Calls Tryz.prog 66 #[.agg #[.string nm,.slice A n c,.int .i64 nx,.slice B m d]] w fun e w' =>e=.returned (.bool (YW cs (l.map Rw.row)))∧Below w.heap.size w w' :=by
 have HL:=hid hE.now.len
 have K0:=(((Hold.start M w hM).add (hE.less (by simp [Mut]))).add (hD.less (by simp [Mut,Hp.foot]))).Za #[.string nm,.slice A n c,.int .i64 nx,.slice B m d] 67
 have F0:=K0.facts
 simp only [zg] at F0
 have hmm:=@run_makeMap Tryz.prog
 clear hD hE
 go_enter Tryz.func66,Tryz.ntmps66
 go_wp2_with fail
 refine (ZfF _ _ K0.Zb nm A n c cs (K0.ro 1 rfl) hn).mono ?_
 rintro e w1 ⟨rfl,b1⟩
 have K1:=K0.call b1
 clear K0 b1 F0
 have F1:=K1.facts
 simp only [zg] at F1
 by_cases hneg:Zi Col.key cs<0
 ·have hd:decide (Zi Col.key cs<0)=true:=by simpa using hneg
  have HB:=hid (show YW cs (l.map Rw.row)=false by rw [ZaA];exact GA hneg _ _)
  have hd0:decide (Zi Col.key cs≥0)=false:=by simpa using hneg
  generalize Zi Col.key cs=κ at *
  have KM:=Hold.GY K1 4 QM
  obtain ⟨gm,hgm⟩:∃ gm,gm=w1.heap.size:=⟨_,rfl⟩
  rw [←hgm] at KM
  go_wp2_with fail
  rw [←hgm]
  clear hgm K1 F1
  go_loopw [14] (fun iv wr=>∃ (j:Nat),j≤m∧iv=.int .i64 j∧Hold M none w wr [.ob gm (MSet 4 QM gm 0 (fun _=>False)),.cst w.heap.size 67 #[.string nm,.slice A n c,.int .i64 nx,.slice B m d],.ro (SlR 4 A n (Zd cs)),.ro (RwsIn B m l)]) (fun iv _=>m - (intOf iv).toNat)
  case atStart=>exact ⟨0,by omega,rfl,KM⟩
  case round=>
   clear KM
   obtain ⟨j,hj,rfl,H⟩:=hrel
   by_cases hlt:j<m
   ·have hdd:decide ((j:Int)<(m:Int))=true:=by simp;omega
    have j0:(0:Int)≤(j:Int):=by omega
    obtain ⟨x,hx⟩:=Zq HL.out hlt
    obtain ⟨g,o,rfl,hgb,c0,c1,hvi⟩:=(H.ro 3 rfl).now.at_ hx
    have K2:=H.Za #[.int .i64 x.id,.slice x.A x.n x.c] 124
    clear hx
    go_wp2_with fail
    go_roundw
    case rel=>exact ⟨j+1,by omega,by go_num,K2.drop (List.sublist_cons_self _ _)⟩
    case measure=>simp [intOf];omega
   ·obtain rfl:j=m:=by omega
    have hdd:decide ((j:Int)<(j:Int))=false:=by simp
    go_wp2_with fail
    go_ret
    exact ⟨by rw [HB.out]<;>rfl,H.below⟩
 ·have hd:decide (Zi Col.key cs<0)=false:=by simpa using hneg
  have HB0:=hid (ZaA cs l)
  obtain ⟨κ,hκ⟩:=Int.eq_ofNat_of_zero_le (show 0≤Zi Col.key cs by omega)
  rw [hκ] at HB0 hd ⊢
  clear hneg hκ
  have KM:=Hold.GY K1 4 QM
  rw [show (fun _:Vl=>False)=(fun z=>z∈([]:List Vl)) by funext z;simp] at KM
  obtain ⟨gm,hgm⟩:∃ gm,gm=w1.heap.size:=⟨_,rfl⟩
  rw [←hgm] at KM
  have HGM:=hid hgm
  go_wp2_with fail
  rw [←hgm]
  clear hgm K1 F1
  go_loopw [14] (fun iv wr=>∃ (j q:Nat) (seen:List Vl),j≤m∧iv=.int .i64 j∧q≤j∧Hid (Yi κ [] (l.map Rw.vs)=Yi κ seen ((l.map Rw.vs).drop j))∧Hold M none w wr [.ob gm (MSet 4 QM gm q (fun z=>z∈seen)),.cst w.heap.size 67 #[.string nm,.slice A n c,.int .i64 nx,.slice B m d],.ro (SlR 4 A n (Zd cs)),.ro (RwsIn B m l)]) (fun iv _=>m - (intOf iv).toNat)
  case atStart=>exact ⟨0,0,[],by omega,rfl,by omega,hid rfl,KM⟩
  case round=>
   clear KM
   obtain ⟨j,q,seen,hj,rfl,hq,HS,H⟩:=hrel
   by_cases hlt:j<m
   ·have hdd:decide ((j:Int)<(m:Int))=true:=by simp;omega
    have j0:(0:Int)≤(j:Int):=by omega
    obtain ⟨x,hx⟩:=Zq HL.out hlt
    obtain ⟨g,o,rfl,hgb,c0,c1,hvi⟩:=(H.ro 3 rfl).now.at_ hx
    have hrok:=hok x (List.mem_of_getElem? hx)
    have HX:=hid (show (l.map Rw.vs)[j]? =some x.vs by simp [hx])
    have HVL:=hid (show x.vs.length=x.n from hvi.len)
    have K2:=H.Za #[.int .i64 x.id,.slice x.A x.n x.c] 124
    clear hx
    have hk0:decide ((κ:Int)≥0)=true:=by simp
    by_cases hkl:κ<x.n
    ·have hd2:decide ((κ:Int)≥(x.n:Int))=false:=by simp;omega
     have hd2' :decide ((κ:Int)<(x.n:Int))=true:=by simp;omega
     have k0:(0:Int)≤(κ:Int):=by omega
     have k1:(κ:Int)<(x.n:Int):=by omega
     obtain ⟨v,hv⟩:=Zq HVL.out hkl
     obtain ⟨gv,ov,hA,hgv,v0,v1,v2⟩:=hvi.at_ hv
     have hvok:=hrok.vs v (List.mem_of_getElem? hv)
     have HV:=hid hv;clear hv
     rw [hA] at K2 c1
     by_cases hin:v∈seen
     ·have HB:=hid (show YW cs (l.map Rw.row)=true by rw [HB0.out,HS.out,ZeX HX.out HV.out hin])
      have HIN:=hid hin;clear hin
      go_wp2_with (at_lookup;go_must (refine ZaI K2 1 rfl Tryz.G5 rfl (.tmp 27) (.tmp 32) rfl rfl v rfl hvok ?_);intro cb hcb;obtain rfl:cb=true:=hcb.2 HIN.out;clear hcb)
      go_ret
      exact ⟨by rw [HB.out]<;>rfl,K2.below⟩
     ·have HS2:=hid (show Yi κ [] (l.map Rw.vs)=Yi κ (v::seen) ((l.map Rw.vs).drop (j+1)) by rw [HS.out,Zg5 HX.out HV.out hin])
      have HIN:=hid hin;clear hin
      go_wp2_with (first
       | (at_lookup;go_must (refine ZaI K2 1 rfl Tryz.G5 rfl (.tmp 27) (.tmp 32) rfl rfl v rfl hvok ?_);intro cb hcb;obtain rfl:cb=false:=(by cases cb;rfl;exact absurd (hcb.1 rfl) HIN.out);clear hcb)
       | (at_mapUpdate;go_must (refine JS K2 1 rfl Tryz.G5 rfl (.tmp 34) (.tmp 39) _ rfl rfl v rfl rfl hvok (by unfold maxLen;omega) ?_);intro w5 K5))
      have K6:=K5.drop (List.sublist_cons_self _ _)
      rw [Zcy] at K6
      go_roundw
      case rel=>exact ⟨j+1,q+1,v::seen,by omega,by go_num,by omega,HS2,K6⟩
      case measure=>simp [intOf];omega
    ·have hd2:decide ((κ:Int)≥(x.n:Int))=true:=by simp;omega
     have hd2' :decide ((κ:Int)<(x.n:Int))=false:=by simp;omega
     have HS2:=hid (show Yi κ [] (l.map Rw.vs)=Yi κ seen ((l.map Rw.vs).drop (j+1)) by rw [HS.out,ZfI HX.out (by rw [HVL.out];omega)])
     go_wp2_with fail
     go_roundw
     case rel=>exact ⟨j+1,q,seen,by omega,by go_num,by omega,HS2,K2.drop (List.sublist_cons_self _ _)⟩
     case measure=>simp [intOf];omega
   ·obtain rfl:j=m:=by omega
    have hdd:decide ((j:Int)<(j:Int))=false:=by simp
    have HB:=hid (show YW cs (l.map Rw.row)=false by rw [HB0.out,HS.out,Zdc (by rw [List.length_map,HL.out];exact Nat.le_refl _)])
    go_wp2_with fail
    go_ret
    exact ⟨by rw [HB.out]<;>rfl,H.below⟩
end Go.Proofs.YtnbbllkbefagmaaGreatDoor

import Derived.Test.YtnmnkbnmollpmaaGreatDoorBdDscSaidMK
import Derived.Test.YtnmnkbnmollpmaaGreatDoorBdDscSaidMJ
import Derived.Test.YtnmnkbnmollpmaaGreatDoorBdDscSaidMD
import Derived.Test.YtnmnkbnmollpmaaGreatDoorBdDscSaidML
import Derived.Deep.CutBlock
import Derived.Test.YtnmnkbnmollpmaaGreatDoorBdDscSaidMC
set_option linter.unusedVariables false
set_option linter.unusedSimpArgs false
set_option maxHeartbeats 64000000
set_option maxRecDepth 100000
namespace Go.Proofs.YtnmnkbnmollpmaaGreatDoor
section
open Go.RowKit
theorem ZiO (n:Int):Gives 170 #[.int .i64 n] (.agg #[.int .i64 1,.int .i64 n,.string ⟨#[]⟩]):=by
 intro w
 have K0:=(Hold.Yi w).alloc #[.int .i64 1,.int .i64 n,.string ⟨#[]⟩] 30
 have F0:=K0.facts
 simp only [zg] at F0
 go_enter Tryz.func170,Tryz.ntmps170
 go_wp2_with fail
 exact bodyPost_ret (v:=.agg #[.int .i64 1,.int .i64 n,.string ⟨#[]⟩]) (by simp [results,Tryz.results170,go_sem,F0]) rfl ⟨rfl,K0.below⟩
def zS:Vl:=⟨0,0,⟨#[]⟩⟩
theorem Zk2:Wj ⟨#[108,111,103]⟩=(Xt,Xr):=by kernel_rfl
theorem Zk4 (M:Nat→Prop) (w:World) (hM:∀ b,M b→b<w.heap.size):Calls Tryz.prog 35 #[.string ⟨#[108,111,103]⟩] w fun e w' =>Zan w M Xt Xr e w' :=by
 have h:=Zk3 M w hM ⟨#[108,111,103]⟩
 rwa [Zk2] at h
theorem Zdb:nmU.size≤maxLen∧(∀ x∈Y3,x.name.size≤maxLen)∧Xt.size≤maxLen∧(∀ x∈Xr,x.name.size≤maxLen):=by
 unfold maxLen
 refine ⟨by decide+kernel,fun x hx=>?_,by decide+kernel,fun x hx=>?_⟩
 ·simp only [Y3,List.mem_cons,List.not_mem_nil,or_false] at hx
  rcases hx with rfl|rfl|rfl<;>decide+kernel
 ·simp only [Xr,List.mem_cons,List.not_mem_nil,or_false] at hx
  rcases hx with rfl|rfl<;>decide+kernel
theorem ZgN:(⟨#[]⟩:ByteArray).size≤maxLen:=by unfold maxLen;decide
theorem zT:zS.ok:=⟨show I64 0 by unfold I64;omega,show I64 0 by unfold I64;omega,ZgN⟩
theorem Ul {w:World} {A:Option Addr} {n:Nat} {l:List Col} (h:ColsIn A n l w):l.length=n:=(RdC.ZW h).len
theorem Wds.ro2 {w:World} {M:Nat→Prop} (h:Wds w) (hM:¬M 0):Ro w M Wds:=fun w2 _ h2=>h.keep (h2 _ h.lt hM)
def Zd3 (w:World) (T:Nat) (e:Ending) (w' :World):Prop:=
 ∃ x:Int,e=.returned (.int .i64 x)∧-3≤x∧x≤12∧Tp w' T∧w.grownBy w' (some T)
theorem Zln (T:Nat) (w:World) (ht:Tp w T):Calls Tryz.prog 87 #[.pointer (some ⟨T,0,none⟩)] w fun e w' =>Zd3 w T e w' :=by
 go_enter Tryz.func87,Tryz.ntmps87
 go_wp2_with fail
 refine (Wd T 16 _ ht (by omega) (by omega)).mono ?_
 rintro e w1 ⟨r,rfl,r0,r1,t1,g1⟩
 go_wp2
 go_ret
 exact ⟨r - 3,by first|rfl|simp,by omega,by omega,t1,g1⟩
def X3:List Col→List Vl→Prop
 | [],[]=>True
 | c::cs,v::vs=>Z9 c v=0∧X3 cs vs
 | _,_=>False
theorem Q6:∀ {cs:List Col} {vs:List Vl},X3 cs vs→vs.length=cs.length
 | [],[],_=>rfl
 | c::cs,v::vs,h=>by simp [Q6 h.2]
 | [],_::_,h=>h.elim
 | _::_,[],h=>h.elim
theorem Zbv:∀ {cs:List Col} {vs:List Vl},X3 cs vs→YK cs vs=0
 | [],[],_=>rfl
 | c::cs,v::vs,h=>by rw [YK,Lg h.1];exact Zbv h.2
 | [],_::_,h=>h.elim
 | _::_,[],h=>h.elim
theorem Zhn {cs:List Col} {vs:List Vl} (h:X3 cs vs):Zt cs vs=0:=by
 unfold Zt;rw [Lg (Q6 h)];exact Zbv h
theorem Zbw:∀ {cs:List Col} {vs:List Vl} {c:Col} {v:Vl},X3 cs vs→Z9 c v=0→X3 (cs++[c]) (vs++[v])
 | [],[],_,_,_,h=>⟨h,trivial⟩
 | c::cs,v::vs,_,_,h,k=>⟨h.1,Zbw h.2 k⟩
 | [],_::_,_,_,h,_=>h.elim
 | _::_,[],_,_,h,_=>h.elim
theorem WM {cs:List Col} {vs:List Vl} {k:Nat} {c:Col} {v:Vl} (h:X3 (cs.take k) vs) (hc:cs[k]? =some c) (hv:Z9 c v=0):X3 (cs.take (k+1)) (vs++[v]):=by
 rw [Kq,hc]
 exact Zbw h hv
def UF (c:Col):Prop:=c.ty=1∨c.ty=2∨c.ty=3
theorem Zho {c:Col} {k i:Int} {s:ByteArray} (hc:UF c) (h:V8 c.ty k i s):Z9 c ⟨k,i,s⟩=0∧k=c.ty:=by
 obtain ⟨h1,h2,_⟩:=h
 obtain rfl:=h2 hc
 have h3:(c.ty==0)=false:=by rcases hc with h|h|h<;>rw [h]<;>rfl
 refine ⟨?_,rfl⟩
 unfold Z9
 rw [Lg h1]
 simp [h3]
theorem ZbB {c:Col} (hc:c.ty=1) (i:Int) (s:ByteArray) (j:Int) (h:Z9 c ⟨1,i,s⟩=0):Z9 c ⟨1,j,s⟩=0:=by
 unfold Z9 at h ⊢
 have e:Z7 1 j s=Z7 1 i s:=by unfold Z7;rw [Lf (by decide),Lg rfl,Lf (by decide),Lg rfl]
 rw [e]
 exact h
theorem GK {c:Col} (hc:c.nn=false):Z9 c zS=0:=by
 have e:Z7 0 0 ⟨#[]⟩=true:=by decide+kernel
 simp [Z9,zS,e,hc]
def Zd1 (w:World) (T:Nat) (cs:List Col) (e:Ending) (w' :World):Prop:=
 ∃ (A:Option Addr) (n c:Nat) (vs:List Vl),e=.returned (.slice A n c)∧n=vs.length∧(∀ v∈vs,v.ok)∧X3 cs vs∧w'.ownsRow w.heap.size 30 3 (.slice A n c) n (ZH vs)∧Tp w' T∧w.grownBy w' (some T)
theorem Va (l:List Vl) (k i:Int) (s:ByteArray):ZH l++(#[Value.int .i64 k,.int .i64 i,.string s]).toList=ZH (l++[⟨k,i,s⟩]):=by simp [ZH,Vl.cells]
theorem WS {l:List Vl} {v:Vl} (h:∀ x∈l,x.ok) (hv:v.ok):∀ x∈l++[v],x.ok:=fun x hx=>by
 rcases Kk.1 hx with hx|hx
 ·exact h x hx
 ·simp at hx;subst hx;exact hv
theorem Zl4 (M:Nat→Prop) (T:Nat) (w:World) (hM:∀ b,M b→b<w.heap.size) (ht:Tp w T) (hMT:∀ b,M b→T≤b) (nm:ByteArray) (A:Option Addr) (n c:Nat) (cs:List Col) (hD:Ro w (Mut M [.tp T]) (ColsIn A n cs)) (hW:Ro w (Mut M [.tp T]) Wds) (hT:0<T)
  (hn:n≤1000) (hok:∀ x∈cs,UF x):Calls Tryz.prog 43 #[.pointer (some ⟨T,0,none⟩),.agg #[.string nm,.slice A n c]] w fun e w' =>Zd1 w T cs e w' :=by
 have HL:=hid (Ul hD.now)
 have HOKC:=hid hok
 clear hok
 have K0:=((((Hold.zG M w T hM ht hMT).add hD).add (hW.less (X8 rfl))).Za #[.string nm,.slice A n c] 66).nil 30 3
 clear hD hW
 go_enter Tryz.func43,Tryz.ntmps43
 go_wp2_with fail
 go_loopw [5,12] (fun ov iv wr=>∃ (k cap:Nat) (O:Option Addr) (outs:List Vl),k≤n∧iv=.int .i64 k∧ov=.slice O k cap∧Hid (∀ v∈outs,v.ok)∧Hid (X3 (cs.take k) outs)∧Hold M (some T) w wr [.own 30 3 (.slice O k cap) k (ZH outs),.cst w.heap.size 66 #[.string nm,.slice A n c],.ro Wds,.ro (ColsIn A n cs),.tp T]) (fun _ iv _=>n - (intOf iv).toNat)
 case atStart=>exact ⟨0,0,none,[],by omega,rfl,rfl,hid (fun v hv=>nomatch hv),hid trivial,K0⟩
 case round=>
  clear K0
  obtain ⟨k,cap,O,outs,hk,rfl,rfl,HO,HF,H⟩:=hrel
  by_cases hlt:k<n
  ·have hd:decide ((k:Int)<(n:Int))=true:=by simp;omega
   have k0:(0:Int)≤(k:Int):=by omega
   have k1:(k:Int)<(n:Int):=by omega
   obtain ⟨⟨xn,xt,xnn,xk⟩,hx⟩:=X4 HL.out hlt
   obtain ⟨g,o,rfl,hgb,c0,c1,c2,c3⟩:=(RdC.ZW (H.ro 3 rfl).now).at_ hx
   dsimp only at c0 c1 c2 c3
   have HCO:=hid (HOKC.out _ (Ka hx))
   have HX:=hid hx
   clear hx
   have K1:=H.Za #[.string xn,.int .i64 xt,.bool xnn,.bool xk] 124
   obtain ⟨gc,hgc⟩:∃ gc,gc=wr.heap.size:=⟨_,rfl⟩
   rw [←hgc] at K1
   go_wp2_with fail
   rw [←hgc]
   clear hgc
   refine (Zma T xt _ (K1.tp_ 5 rfl) (K1.ro 3 rfl).now hT).mono ?_
   rintro e w2 ⟨kk,ii,ss,rfl,hkk,hss,hii,t2,_,g2⟩
   have K2:=(Hold.Xk K1 5 rfl g2 t2)
   obtain ⟨hfit,hkt⟩:=Zho (c:=⟨xn,xt,xnn,xk⟩) HCO.out hkk
   obtain rfl:kk=xt:=hkt
   clear hkk g2 t2 K1
   have HFIT:=hid hfit
   clear hfit
   have K3:=K2.alloc #[.int .i64 kk,.int .i64 ii,.string ss] 30
   clear K2
   have F3:=K3.facts
   simp only [zg] at F3
   have hssm:ss.size≤maxLen:=by unfold maxLen;omega
   by_cases h1:kk=1
   ·subst h1
    have hb:((1:Int)==1)=true:=rfl
    go_wp2_with fail
    refine (QO T 9 _ (K3.tp_ 6 rfl) (by omega) (by omega)).mono ?_
    rintro e w3 ⟨b1,rfl,t3,g3⟩
    obtain ⟨gv,hgv⟩:∃ gv,gv=w2.heap.size:=⟨_,rfl⟩
    have K4:=Hold.Xk K3 6 rfl g3 t3
    clear K3 g3 t3 F3
    rw [←hgv] at K4 ⊢
    clear hgv
    have F4:=K4.facts
    simp only [zg] at F4
    cases b1
    ·go_wp2_with fail
     refine (Zln T _ (K4.tp_ 6 rfl)).mono ?_
     rintro e w4 ⟨y,rfl,y0,y1,t4,g4⟩
     have K5:=(Hold.Xk K4 6 rfl g4 t4).store 0 rfl 1 (.int .i64 y)
     have F5:=(Hold.Xk K4 6 rfl g4 t4).facts
     simp only [factsL,Zu,Nat.reduceAdd,List.toList_toArray,and_true,true_and] at F5
     clear K4 g4 t4 F4
     have hyI:I64 y:=by unfold I64;omega
     cases xnn
     ·skip
      have KN:=K5
      try simp only [zl] at KN
      have FN:=KN.facts
      simp only [zg] at FN
      go_wp2_with fail
      refine (QO T 5 _ (KN.tp_ 6 rfl) (by omega) (by omega)).mono ?_
      rintro e w8 ⟨b2,rfl,t8,g8⟩
      have KM:=Hold.Xk KN 6 rfl g8 t8
      clear KN FN g8 t8
      have FM:=KM.facts
      simp only [zg] at FM
      cases b2
      ·skip
       have HFK:=hid (WM HF.out HX.out (v:=⟨1,y,ss⟩) (ZbB rfl ii ss y HFIT.out))
       have HOK:=hid (WS HO.out (show Vl.ok ⟨1,y,ss⟩ from ⟨by show I64 1;unfold I64;omega,hyI,hssm⟩))
       have HCE:=hid (Va outs 1 y ss)
       have KA:=KM
       try simp only [zl] at KA
       have FA:=KA.facts
       simp only [zg] at FA
       go_wp2_with (at_builtin;go_must (refine ZJ KA 2 rfl Tryz.Xz #[.int .i64 1,.int .i64 y,.string ss] rfl (.tmp 39) (.tmp 41) rfl rfl _ (by first|rfl|simp [World.setCell]) rfl rfl (by intro u hu;simp at hu;rcases hu with rfl|rfl|rfl<;>rfl) (by omega) (by omega) ?_);intro g6 cap6 w6 hc6 hm6 KB;rw [HCE.out] at KB;simp only [zl] at KB;(have FB:=KB.facts);simp only [zg] at FB)
       have KC:=(KB.drop (Ke _ (Ke _ (KR _))))
       go_roundw
       case rel=>exact ⟨k+1,cap6,some ⟨g6,0,none⟩,outs++[⟨1,y,ss⟩],by omega,by go_num,by first|rfl|trivial,HOK,HFK,KC⟩
       case measure=>simp [intOf];omega
      ·skip
       have HFK:=hid (WM HF.out HX.out (v:=⟨0,0,⟨#[]⟩⟩) (GK rfl))
       have HOK:=hid (WS HO.out (show Vl.ok ⟨0,0,⟨#[]⟩⟩ from zT))
       have HCE:=hid (Va outs 0 0 ⟨#[]⟩)
       have KA:=(((KM.store 0 rfl 0 (.int .i64 0)).store 0 rfl 1 (.int .i64 0)).store 0 rfl 2 (.string ⟨#[]⟩))
       try simp only [zl] at KA
       have FA:=KA.facts
       simp only [zg] at FA
       go_wp2_with (at_builtin;go_must (refine ZJ KA 2 rfl Tryz.Xz #[.int .i64 0,.int .i64 0,.string ⟨#[]⟩] rfl (.tmp 39) (.tmp 41) rfl rfl _ (by first|rfl|simp [World.setCell]) rfl rfl (by intro u hu;simp at hu;rcases hu with rfl|rfl|rfl<;>rfl) (by omega) (by omega) ?_);intro g6 cap6 w6 hc6 hm6 KB;rw [HCE.out] at KB;simp only [zl] at KB;(have FB:=KB.facts);simp only [zg] at FB)
       have KC:=(KB.drop (Ke _ (Ke _ (KR _))))
       go_roundw
       case rel=>exact ⟨k+1,cap6,some ⟨g6,0,none⟩,outs++[⟨0,0,⟨#[]⟩⟩],by omega,by go_num,by first|rfl|trivial,HOK,HFK,KC⟩
       case measure=>simp [intOf];omega
     ·skip
      have HFK:=hid (WM HF.out HX.out (v:=⟨1,y,ss⟩) (ZbB rfl ii ss y HFIT.out))
      have HOK:=hid (WS HO.out (show Vl.ok ⟨1,y,ss⟩ from ⟨by show I64 1;unfold I64;omega,hyI,hssm⟩))
      have HCE:=hid (Va outs 1 y ss)
      have KA:=K5
      try simp only [zl] at KA
      have FA:=KA.facts
      simp only [zg] at FA
      go_wp2_with (at_builtin;go_must (refine ZJ KA 2 rfl Tryz.Xz #[.int .i64 1,.int .i64 y,.string ss] rfl (.tmp 39) (.tmp 41) rfl rfl _ (by first|rfl|simp [World.setCell]) rfl rfl (by intro u hu;simp at hu;rcases hu with rfl|rfl|rfl<;>rfl) (by omega) (by omega) ?_);intro g6 cap6 w6 hc6 hm6 KB;rw [HCE.out] at KB;simp only [zl] at KB;(have FB:=KB.facts);simp only [zg] at FB)
      have KC:=(KB.drop (Ke _ (Ke _ (KR _))))
      go_roundw
      case rel=>exact ⟨k+1,cap6,some ⟨g6,0,none⟩,outs++[⟨1,y,ss⟩],by omega,by go_num,by first|rfl|trivial,HOK,HFK,KC⟩
      case measure=>simp [intOf];omega
    ·skip
     cases xnn
     ·skip
      have KN:=K4
      try simp only [zl] at KN
      have FN:=KN.facts
      simp only [zg] at FN
      go_wp2_with fail
      refine (QO T 5 _ (KN.tp_ 6 rfl) (by omega) (by omega)).mono ?_
      rintro e w8 ⟨b2,rfl,t8,g8⟩
      have KM:=Hold.Xk KN 6 rfl g8 t8
      clear KN FN g8 t8
      have FM:=KM.facts
      simp only [zg] at FM
      cases b2
      ·skip
       have HFK:=hid (WM HF.out HX.out (v:=⟨1,ii,ss⟩) HFIT.out)
       have HOK:=hid (WS HO.out (show Vl.ok ⟨1,ii,ss⟩ from ⟨by show I64 1;unfold I64;omega,hii,hssm⟩))
       have HCE:=hid (Va outs 1 ii ss)
       have KA:=KM
       try simp only [zl] at KA
       have FA:=KA.facts
       simp only [zg] at FA
       go_wp2_with (at_builtin;go_must (refine ZJ KA 2 rfl Tryz.Xz #[.int .i64 1,.int .i64 ii,.string ss] rfl (.tmp 39) (.tmp 41) rfl rfl _ (by first|rfl|simp [World.setCell]) rfl rfl (by intro u hu;simp at hu;rcases hu with rfl|rfl|rfl<;>rfl) (by omega) (by omega) ?_);intro g6 cap6 w6 hc6 hm6 KB;rw [HCE.out] at KB;simp only [zl] at KB;(have FB:=KB.facts);simp only [zg] at FB)
       have KC:=(KB.drop (Ke _ (Ke _ (KR _))))
       go_roundw
       case rel=>exact ⟨k+1,cap6,some ⟨g6,0,none⟩,outs++[⟨1,ii,ss⟩],by omega,by go_num,by first|rfl|trivial,HOK,HFK,KC⟩
       case measure=>simp [intOf];omega
      ·skip
       have HFK:=hid (WM HF.out HX.out (v:=⟨0,0,⟨#[]⟩⟩) (GK rfl))
       have HOK:=hid (WS HO.out (show Vl.ok ⟨0,0,⟨#[]⟩⟩ from zT))
       have HCE:=hid (Va outs 0 0 ⟨#[]⟩)
       have KA:=(((KM.store 0 rfl 0 (.int .i64 0)).store 0 rfl 1 (.int .i64 0)).store 0 rfl 2 (.string ⟨#[]⟩))
       try simp only [zl] at KA
       have FA:=KA.facts
       simp only [zg] at FA
       go_wp2_with (at_builtin;go_must (refine ZJ KA 2 rfl Tryz.Xz #[.int .i64 0,.int .i64 0,.string ⟨#[]⟩] rfl (.tmp 39) (.tmp 41) rfl rfl _ (by first|rfl|simp [World.setCell]) rfl rfl (by intro u hu;simp at hu;rcases hu with rfl|rfl|rfl<;>rfl) (by omega) (by omega) ?_);intro g6 cap6 w6 hc6 hm6 KB;rw [HCE.out] at KB;simp only [zl] at KB;(have FB:=KB.facts);simp only [zg] at FB)
       have KC:=(KB.drop (Ke _ (Ke _ (KR _))))
       go_roundw
       case rel=>exact ⟨k+1,cap6,some ⟨g6,0,none⟩,outs++[⟨0,0,⟨#[]⟩⟩],by omega,by go_num,by first|rfl|trivial,HOK,HFK,KC⟩
       case measure=>simp [intOf];omega
     ·skip
      have HFK:=hid (WM HF.out HX.out (v:=⟨1,ii,ss⟩) HFIT.out)
      have HOK:=hid (WS HO.out (show Vl.ok ⟨1,ii,ss⟩ from ⟨by show I64 1;unfold I64;omega,hii,hssm⟩))
      have HCE:=hid (Va outs 1 ii ss)
      have KA:=K4
      try simp only [zl] at KA
      have FA:=KA.facts
      simp only [zg] at FA
      go_wp2_with (at_builtin;go_must (refine ZJ KA 2 rfl Tryz.Xz #[.int .i64 1,.int .i64 ii,.string ss] rfl (.tmp 39) (.tmp 41) rfl rfl _ (by first|rfl|simp [World.setCell]) rfl rfl (by intro u hu;simp at hu;rcases hu with rfl|rfl|rfl<;>rfl) (by omega) (by omega) ?_);intro g6 cap6 w6 hc6 hm6 KB;rw [HCE.out] at KB;simp only [zl] at KB;(have FB:=KB.facts);simp only [zg] at FB)
      have KC:=(KB.drop (Ke _ (Ke _ (KR _))))
      go_roundw
      case rel=>exact ⟨k+1,cap6,some ⟨g6,0,none⟩,outs++[⟨1,ii,ss⟩],by omega,by go_num,by first|rfl|trivial,HOK,HFK,KC⟩
      case measure=>simp [intOf];omega
   ·have hb:(kk==1)=false:=by simpa using h1
    have hty:I64 kk:=by rcases HCO.out with h|h|h<;>(have h:kk=_:=h;rw [h];unfold I64;omega)
    clear h1
    cases xnn
    ·skip
     have KN:=K3
     try simp only [zl] at KN
     have FN:=KN.facts
     simp only [zg] at FN
     go_wp2_with fail
     refine (QO T 5 _ (KN.tp_ 6 rfl) (by omega) (by omega)).mono ?_
     rintro e w8 ⟨b2,rfl,t8,g8⟩
     have KM:=Hold.Xk KN 6 rfl g8 t8
     clear KN FN g8 t8
     have FM:=KM.facts
     simp only [zg] at FM
     cases b2
     ·skip
      have HFK:=hid (WM HF.out HX.out (v:=⟨kk,ii,ss⟩) HFIT.out)
      have HOK:=hid (WS HO.out (show Vl.ok ⟨kk,ii,ss⟩ from ⟨hty,hii,hssm⟩))
      have HCE:=hid (Va outs kk ii ss)
      have KA:=KM
      try simp only [zl] at KA
      have FA:=KA.facts
      simp only [zg] at FA
      go_wp2_with (at_builtin;go_must (refine ZJ KA 2 rfl Tryz.Xz #[.int .i64 kk,.int .i64 ii,.string ss] rfl (.tmp 39) (.tmp 41) rfl rfl _ (by first|rfl|simp [World.setCell]) rfl rfl (by intro u hu;simp at hu;rcases hu with rfl|rfl|rfl<;>rfl) (by omega) (by omega) ?_);intro g6 cap6 w6 hc6 hm6 KB;rw [HCE.out] at KB;simp only [zl] at KB;(have FB:=KB.facts);simp only [zg] at FB)
      have KC:=(KB.drop (Ke _ (Ke _ (KR _))))
      go_roundw
      case rel=>exact ⟨k+1,cap6,some ⟨g6,0,none⟩,outs++[⟨kk,ii,ss⟩],by omega,by go_num,by first|rfl|trivial,HOK,HFK,KC⟩
      case measure=>simp [intOf];omega
     ·skip
      have HFK:=hid (WM HF.out HX.out (v:=⟨0,0,⟨#[]⟩⟩) (GK rfl))
      have HOK:=hid (WS HO.out (show Vl.ok ⟨0,0,⟨#[]⟩⟩ from zT))
      have HCE:=hid (Va outs 0 0 ⟨#[]⟩)
      have KA:=(((KM.store 0 rfl 0 (.int .i64 0)).store 0 rfl 1 (.int .i64 0)).store 0 rfl 2 (.string ⟨#[]⟩))
      try simp only [zl] at KA
      have FA:=KA.facts
      simp only [zg] at FA
      go_wp2_with (at_builtin;go_must (refine ZJ KA 2 rfl Tryz.Xz #[.int .i64 0,.int .i64 0,.string ⟨#[]⟩] rfl (.tmp 39) (.tmp 41) rfl rfl _ (by first|rfl|simp [World.setCell]) rfl rfl (by intro u hu;simp at hu;rcases hu with rfl|rfl|rfl<;>rfl) (by omega) (by omega) ?_);intro g6 cap6 w6 hc6 hm6 KB;rw [HCE.out] at KB;simp only [zl] at KB;(have FB:=KB.facts);simp only [zg] at FB)
      have KC:=(KB.drop (Ke _ (Ke _ (KR _))))
      go_roundw
      case rel=>exact ⟨k+1,cap6,some ⟨g6,0,none⟩,outs++[⟨0,0,⟨#[]⟩⟩],by omega,by go_num,by first|rfl|trivial,HOK,HFK,KC⟩
      case measure=>simp [intOf];omega
    ·skip
     have HFK:=hid (WM HF.out HX.out (v:=⟨kk,ii,ss⟩) HFIT.out)
     have HOK:=hid (WS HO.out (show Vl.ok ⟨kk,ii,ss⟩ from ⟨hty,hii,hssm⟩))
     have HCE:=hid (Va outs kk ii ss)
     have KA:=K3
     try simp only [zl] at KA
     have FA:=KA.facts
     simp only [zg] at FA
     go_wp2_with (at_builtin;go_must (refine ZJ KA 2 rfl Tryz.Xz #[.int .i64 kk,.int .i64 ii,.string ss] rfl (.tmp 39) (.tmp 41) rfl rfl _ (by first|rfl|simp [World.setCell]) rfl rfl (by intro u hu;simp at hu;rcases hu with rfl|rfl|rfl<;>rfl) (by omega) (by omega) ?_);intro g6 cap6 w6 hc6 hm6 KB;rw [HCE.out] at KB;simp only [zl] at KB;(have FB:=KB.facts);simp only [zg] at FB)
     have KC:=(KB.drop (Ke _ (Ke _ (KR _))))
     go_roundw
     case rel=>exact ⟨k+1,cap6,some ⟨g6,0,none⟩,outs++[⟨kk,ii,ss⟩],by omega,by go_num,by first|rfl|trivial,HOK,HFK,KC⟩
     case measure=>simp [intOf];omega
  ·obtain rfl:k=n:=by omega
   have hd:decide ((k:Int)<(k:Int))=false:=by simp
   have HE:=hid (show X3 cs outs by have h:=HF.out;rwa [Kh (by rw [HL.out];exact Kg _)] at h)
   have HN:=hid (show k=outs.length by have:=Q6 HE.out;have:=HL.out;omega)
   go_wp2_with fail
   go_ret
   exact ⟨O,k,cap,outs,rfl,HN.out,HO.out,HE.out,H.get 0 rfl,H.tp_ 4 rfl,H.grow⟩
def tvB (b:Bool):Vl:=⟨2,bif b then 1 else 0,⟨#[]⟩⟩
theorem ZiP {n:Int} (h:I64 n):Vl.ok ⟨1,n,⟨#[]⟩⟩:=⟨(show (-9223372036854775808:Int)≤1∧(1:Int)≤9223372036854775807 from by decide),h,Lc _⟩
def ExR (w:World) (v:Vl) (e:Ending) (w' :World):Prop:=e=.returned (.tuple #[.agg #[.int .i64 v.k,.int .i64 v.i,.string v.s],.int .i64 0])∧Below w.heap.size w w'
def nV (n:Int):Vl:=⟨1,n,⟨#[]⟩⟩
def EvE (v:Vl) (u:Value) (w:World):Prop:=u=.tuple #[.agg #[.int .i64 v.k,.int .i64 v.i,.string v.s],.int .i64 0]
theorem U8 {M:Nat→Prop} {v:Vl} (u:Value) (w w' :World) (hr:RM M w w') (h:EvE v u w):EvE v u w' :=h
theorem ZfA (a b:Int):Xl (nV a) (nV b)≤0↔a≤b:=by
 have h1:Xd 1 1=0:=rfl
 have h2:VK ⟨#[]⟩ ⟨#[]⟩=0:=by decide+kernel
 show X0 [Xd 1 1,Xd a b,VK ⟨#[]⟩ ⟨#[]⟩]≤0↔a≤b
 rw [h1,h2]
 unfold Xd
 by_cases h3:a<b
 ·rw [Lg h3];simp [X0];omega
 ·rw [Lf h3]
  by_cases h4:b<a
  ·rw [Lg h4];simp [X0];omega
  ·rw [Lf h4];simp [X0];omega
theorem ZkN (x:Vl) (w:World):Calls Tryz.prog 172 #[.agg #[.int .i64 x.k,.int .i64 x.i,.string x.s],.bool true] w fun e w' =>ExR w x e w' :=by
 obtain ⟨xk,xi,xs⟩:=x
 have K0:=((Hold.Yi w).Za #[.int .i64 xk,.int .i64 xi,.string xs] 30).alloc #[.int .i64 0,.int .i64 0,.string ⟨#[]⟩] 30
 simp only [World.size_alloc] at K0
 obtain ⟨g1,hg1⟩:∃ g,g=w.heap.size:=⟨_,rfl⟩
 obtain ⟨g2,hg2⟩:∃ g,g=g1+1:=⟨_,rfl⟩
 rw [←hg1,←hg2] at K0
 go_enter Tryz.func172,Tryz.ntmps172
 go_upto_region 1 with fail
 rw [←hg1,←hg2]
 clear hg1 hg2
 generalize World.alloc _ _=w1 at K0 ⊢
 have F0:=K0.facts
 simp only [zg] at F0
 have KZ:=((K0.store 0 rfl 0 (.int .i64 xk)).store 0 rfl 1 (.int .i64 xi)).store 0 rfl 2 (.string xs)
 simp only [zl] at KZ
 have FZ:=KZ.facts
 simp only [zg] at FZ
 have HB:=hid KZ.below
 clear KZ
 go_wp2_with fail
 refine Lh (v:=.tuple #[.agg #[.int .i64 xk,.int .i64 xi,.string xs],.int .i64 0]) ?_ rfl ?_
 ·clear HB
  simp [results,Tryz.results172,go_sem,FZ]
 ·exact ⟨rfl,HB.out⟩
theorem Zcv (a b:Int) (w:World):Calls Tryz.prog 175 #[.int .i64 6,.agg #[.int .i64 1,.int .i64 a,.string ⟨#[]⟩],.agg #[.int .i64 1,.int .i64 b,.string ⟨#[]⟩]] w fun e w' =>ExR w (tvB (decide (a≤b))) e w' :=by
 have K0:=(((Hold.Yi w).Za #[.int .i64 1,.int .i64 a,.string ⟨#[]⟩] 30).Za #[.int .i64 1,.int .i64 b,.string ⟨#[]⟩] 30).alloc #[.int .i64 0,.int .i64 0,.string ⟨#[]⟩] 30
 simp only [World.size_alloc] at K0
 obtain ⟨g1,hg1⟩:∃ g,g=w.heap.size:=⟨_,rfl⟩
 obtain ⟨g2,hg2⟩:∃ g,g=g1+1:=⟨_,rfl⟩
 obtain ⟨g3,hg3⟩:∃ g,g=g2+1:=⟨_,rfl⟩
 rw [←hg1,←hg2,←hg3] at K0
 go_enter Tryz.func175,Tryz.ntmps175
 go_upto_region 1 with fail
 rw [←hg1,←hg2,←hg3]
 clear hg1 hg2 hg3
 generalize World.alloc _ _=w1 at K0 ⊢
 have F0:=K0.facts
 simp only [zg] at F0
 go_wp2_with fail
 refine (ZjS (nV a) (nV b) _).mono ?_
 rintro e w1 ⟨rfl,b1⟩
 have hd:decide (Xl (nV a) (nV b)≤0)=decide (a≤b):=by rw [decide_eq_decide];exact ZfA a b
 have HD:=hid hd
 obtain ⟨r,hr⟩:∃ r,Xl (nV a) (nV b)=r:=⟨_,rfl⟩
 rw [hr] at hd ⊢
 have HR:=hid hd
 have K1:=K0.call b1
 clear K0 F0 b1 hr hd HD
 have F1:=K1.facts
 simp only [zg] at F1
 go_wp2_with fail
 refine (WY (decide (r≤0)) _).mono ?_
 rintro e w2 ⟨rfl,b2⟩
 have K2:=K1.call b2
 clear K1 F1 b2
 have F2:=K2.facts
 simp only [zg] at F2
 have KZ:=((K2.store 0 rfl 0 (.int .i64 2)).store 0 rfl 1 (.int .i64 (bif decide (r≤0) then 1 else 0))).store 0 rfl 2 (.string ⟨#[]⟩)
 simp only [zl] at KZ
 have FZ:=KZ.facts
 simp only [zg] at FZ
 have HB:=hid KZ.below
 clear KZ
 go_wp2_with fail
 refine Lh (v:=.tuple #[.agg #[.int .i64 2,.int .i64 (bif decide (r≤0) then 1 else 0),.string ⟨#[]⟩],.int .i64 0]) ?_ rfl ?_
 ·clear HB
  simp [results,Tryz.results175,go_sem,FZ]
 ·exact ⟨by rw [←HR.out];rfl,HB.out⟩
theorem ZkF (a b:Int) (ha:I64 a) (hb:I64 b) (hf:fit (a - b)=true) (w:World):Calls Tryz.prog 174 #[.int .i64 10,.agg #[.int .i64 1,.int .i64 a,.string ⟨#[]⟩],.agg #[.int .i64 1,.int .i64 b,.string ⟨#[]⟩]] w fun e w' =>ExR w (nV (a - b)) e w' :=by
 have K0:=(((Hold.Yi w).Za #[.int .i64 1,.int .i64 a,.string ⟨#[]⟩] 30).Za #[.int .i64 1,.int .i64 b,.string ⟨#[]⟩] 30).alloc #[.int .i64 0,.int .i64 0,.string ⟨#[]⟩] 30
 simp only [World.size_alloc] at K0
 obtain ⟨g1,hg1⟩:∃ g,g=w.heap.size:=⟨_,rfl⟩
 obtain ⟨g2,hg2⟩:∃ g,g=g1+1:=⟨_,rfl⟩
 obtain ⟨g3,hg3⟩:∃ g,g=g2+1:=⟨_,rfl⟩
 rw [←hg1,←hg2,←hg3] at K0
 have HA:=hid ha
 have HBB:=hid hb
 have HF:=hid hf
 have HN:=hid (Zb9 hf)
 clear ha hb hf
 go_enter Tryz.func174,Tryz.ntmps174
 go_upto_region 1 with fail
 rw [←hg1,←hg2,←hg3]
 clear hg1 hg2 hg3
 generalize World.alloc _ _=w1 at K0 ⊢
 have F0:=K0.facts
 simp only [zg] at F0
 go_wp2_with fail
 refine (ZkG a b _ HA.out HBB.out).mono ?_
 rintro e w2 ⟨rfl,b2⟩
 rw [HN.out,HF.out]
 have K1:=K0.call b2
 clear K0 F0 b2
 have F1:=K1.facts
 simp only [zg] at F1
 obtain ⟨n,hn⟩:∃ n,a - b=n:=⟨_,rfl⟩
 rw [hn]
 have HD:=hid hn
 clear hn
 go_wp2_with fail
 refine (ZiO n _).mono ?_
 rintro e w3 ⟨rfl,b3⟩
 have K2:=K1.call b3
 clear K1 F1 b3
 have F2:=K2.facts
 simp only [zg] at F2
 have KZ:=((K2.store 0 rfl 0 (.int .i64 1)).store 0 rfl 1 (.int .i64 n)).store 0 rfl 2 (.string ⟨#[]⟩)
 simp only [zl] at KZ
 have FZ:=KZ.facts
 simp only [zg] at FZ
 have HB:=hid KZ.below
 clear KZ
 go_wp2_with fail
 refine Lh (v:=.tuple #[.agg #[.int .i64 1,.int .i64 n,.string ⟨#[]⟩],.int .i64 0]) ?_ rfl ?_
 ·clear HB
  simp [results,Tryz.results174,go_sem,FZ]
 ·exact ⟨by rw [HD.out];rfl,HB.out⟩
theorem Zkk (nt:Bool) (xv:Vl) (tab nm:ByteArray) (A:Option Addr) (n c:Nat) (B:Option Addr) (m dd:Nat) (L:Option Addr) (lc:Nat) (p q:Int) (w:World) (hl:Ro w Zc (VlsIn L 2 [nV p,nV q])) (ha:I64 p) (hb:I64 q) (hf:fit (p - q)=true):Calls Tryz.prog 138 #[.agg #[.int .i64 5,.int .i64 10,.bool nt,.int .i64 xv.k,.int .i64 xv.i,.string xv.s,.string tab,.string nm,.slice A n c,.slice B m dd],.slice L 2 lc] w fun e w' =>ExR w (nV (p - q)) e w' :=by
 obtain ⟨b,o,rfl,-,-⟩:=(show Rd w w.heap.size 3 L 2 (ZH [nV p,nV q]) from hl.now).2 (by omega)
 have HLC:Hid (∀ wv,VlsIn (some ⟨b,o,none⟩) 2 [nV p,nV q] wv→b<wv.heap.size∧wv.cell? ⟨b,o,none⟩=some (.int .i64 1)∧wv.cell? ⟨b,o+1,none⟩=some (.int .i64 p)∧wv.cell? ⟨b,o+2,none⟩=some (.string ⟨#[]⟩)∧wv.cell? ⟨b,o+3,none⟩=some (.int .i64 1)∧wv.cell? ⟨b,o+4,none⟩=some (.int .i64 q)∧wv.cell? ⟨b,o+5,none⟩=some (.string ⟨#[]⟩)):=hid fun wv h=>by
  obtain ⟨b',o',e',hb,hc⟩:=(show Rd wv wv.heap.size 3 (some ⟨b,o,none⟩) 2 (ZH [nV p,nV q]) from h).2 (by omega)
  obtain ⟨rfl,rfl⟩:b=b' ∧o=o' :=by injection e' with e';injection e' with a1 a2;exact ⟨a1,a2⟩
  exact ⟨hb,hc 0 _ rfl,hc 1 _ rfl,hc 2 _ rfl,hc 3 _ rfl,hc 4 _ rfl,hc 5 _ rfl⟩
 have HA:=hid (KJ ha hb)
 have HFT:=hid hf
 have K0:=(((Hold.start Zc w zn).add (hl.less (by simp [Mut]))).Za #[.int .i64 5,.int .i64 10,.bool nt,.int .i64 xv.k,.int .i64 xv.i,.string xv.s,.string tab,.string nm,.slice A n c,.slice B m dd] 34).alloc #[.int .i64 0,.int .i64 0,.string ⟨#[]⟩] 30
 simp only [World.size_alloc] at K0
 obtain ⟨g1,hg1⟩:∃ g,g=w.heap.size:=⟨_,rfl⟩
 obtain ⟨g2,hg2⟩:∃ g,g=g1+1:=⟨_,rfl⟩
 rw [←hg1,←hg2] at K0
 clear hl ha hb hf
 go_enter Tryz.func138,Tryz.ntmps138
 go_upto_region 1 with fail
 rw [←hg1,←hg2]
 clear hg1 hg2
 generalize World.alloc _ _=w1 at K0 ⊢
 obtain ⟨fb,f0,f1,f2,f3,f4,f5⟩:=HLC.out _ (K0.ro 2 rfl).now
 have F0:=K0.facts
 simp only [zg] at F0
 obtain ⟨KL,hKL,KN⟩:=K0.name
 have HF:Hid (∀ wv,Hold Zc none w wv KL→Blk wv g1 34 #[.int .i64 5,.int .i64 10,.bool nt,.int .i64 xv.k,.int .i64 xv.i,.string xv.s,.string tab,.string nm,.slice A n c,.slice B m dd]∧VlsIn (some ⟨b,o,none⟩) 2 [nV p,nV q] wv):=hid fun wv HC=>by
  rw [hKL] at HC
  exact ⟨HC.Zg 1 rfl,(HC.ro 2 rfl).now⟩
 have HKL:=hid hKL
 clear hKL K0
 go_upto_region 22 with fail
 clear F0
 refine Lj (by kernel_rfl) ?_
 refine Zn 11 138 (KL) (spL [(135,EvE (nV (p - q)))]) (by kernel_rfl) (by kernel_rfl) (by kernel_rfl) rfl ?_ (KN.drew) ?_
 ·exact Zd U8 (Zm _)
 simp only [zd,zp,List.getElem_toArray,List.getElem_cons_zero,List.getElem_cons_succ]
 repeat (refine' dv rfl rfl rfl (fun wv HC=>?_) ?_;rotate_left;(focus (have qb:=(HLC.out _ (HF.out _ HC).2).1;obtain ⟨-,q0,q1,q2,q3,q4,q5⟩:=HLC.out _ (HF.out _ HC).2;have p1:=(HF.out _ HC).1.cell 1;go_simp<;>rfl;done));simp only [zp])
 refine Zi 135 (EvE (nV (p - q))) (f:=174) (args:=#[.int .i64 10,.agg #[.int .i64 1,.int .i64 p,.string ⟨#[]⟩],.agg #[.int .i64 1,.int .i64 q,.string ⟨#[]⟩]]) rfl rfl rfl rfl (fun wv=>?_) (fun wv HC hrm hD=>?_) ?_
 ·go_simp<;>rfl
 ·refine (ZkF p q HA.out.1 HA.out.2 HFT.out wv).mono ?_
  rintro e w5 ⟨rfl,b5⟩
  exact ⟨_,rfl,rfl,HC.call b5,RM.below b5⟩
 rintro z wx HCx hz
 obtain rfl:z=.tuple #[.agg #[.int .i64 1,.int .i64 (p - q),.string ⟨#[]⟩],.int .i64 0]:=hz
 clear HCx
 simp only [zp]
 repeat (refine' dv rfl rfl rfl (fun wv HC=>?_) ?_;rotate_left;(focus (go_simp<;>rfl;done));simp only [zp])
 refine Zk ?_
 rintro wx3 HX
 rintro _hrm _HG
 clear _hrm _HG HF KN
 rw [HKL.out] at HX
 obtain ⟨y,hy⟩:∃ y:Vl,nV (p - q)=y:=⟨_,rfl⟩
 obtain ⟨rr,hrr⟩:∃ rr,p - q=rr:=⟨_,rfl⟩
 rw [hrr] at hy ⊢
 have HD:=hid hrr
 clear hrr hy
 have FY:=HX.facts
 simp only [zg] at FY
 have KZ:=((HX.store 0 rfl 0 (.int .i64 1)).store 0 rfl 1 (.int .i64 rr)).store 0 rfl 2 (.string ⟨#[]⟩)
 simp only [zl] at KZ
 have FZ:=KZ.facts
 simp only [zg] at FZ
 have HB:=hid KZ.below
 clear KZ
 go_wp2_with fail
 refine Lh (v:=.tuple #[.agg #[.int .i64 1,.int .i64 rr,.string ⟨#[]⟩],.int .i64 0]) ?_ rfl ?_
 ·clear HB
  simp [results,Tryz.results138,go_sem,FZ]
 ·exact ⟨by rw [HD.out];rfl,HB.out⟩
theorem Zkl (op:Int) (nt:Bool) (xv:Vl) (tab nm:ByteArray) (A:Option Addr) (n c:Nat) (B:Option Addr) (m dd:Nat) (L:Option Addr) (lc:Nat) (p lo hi:Int) (w:World) (hl:Ro w Zc (VlsIn L 3 [nV p,nV lo,nV hi])):Calls Tryz.prog 138 #[.agg #[.int .i64 7,.int .i64 op,.bool nt,.int .i64 xv.k,.int .i64 xv.i,.string xv.s,.string tab,.string nm,.slice A n c,.slice B m dd],.slice L 3 lc] w fun e w' =>ExR w (tvB (decide (lo≤p)&&decide (p≤hi))) e w' :=by
 obtain ⟨b,o,rfl,-,-⟩:=(show Rd w w.heap.size 3 L 3 (ZH [nV p,nV lo,nV hi]) from hl.now).2 (by omega)
 have HLC:Hid (∀ wv,VlsIn (some ⟨b,o,none⟩) 3 [nV p,nV lo,nV hi] wv→b<wv.heap.size∧wv.cell? ⟨b,o,none⟩=some (.int .i64 1)∧wv.cell? ⟨b,o+1,none⟩=some (.int .i64 p)∧wv.cell? ⟨b,o+2,none⟩=some (.string ⟨#[]⟩)∧wv.cell? ⟨b,o+3,none⟩=some (.int .i64 1)∧wv.cell? ⟨b,o+4,none⟩=some (.int .i64 lo)∧wv.cell? ⟨b,o+5,none⟩=some (.string ⟨#[]⟩)∧wv.cell? ⟨b,o+6,none⟩=some (.int .i64 1)∧wv.cell? ⟨b,o+7,none⟩=some (.int .i64 hi)∧wv.cell? ⟨b,o+8,none⟩=some (.string ⟨#[]⟩)):=hid fun wv h=>by
  obtain ⟨b',o',e',hb,hc⟩:=(show Rd wv wv.heap.size 3 (some ⟨b,o,none⟩) 3 (ZH [nV p,nV lo,nV hi]) from h).2 (by omega)
  obtain ⟨rfl,rfl⟩:b=b' ∧o=o' :=by injection e' with e';injection e' with a1 a2;exact ⟨a1,a2⟩
  exact ⟨hb,hc 0 _ rfl,hc 1 _ rfl,hc 2 _ rfl,hc 3 _ rfl,hc 4 _ rfl,hc 5 _ rfl,hc 6 _ rfl,hc 7 _ rfl,hc 8 _ rfl⟩
 have K0:=(((Hold.start Zc w zn).add (hl.less (by simp [Mut]))).Za #[.int .i64 7,.int .i64 op,.bool nt,.int .i64 xv.k,.int .i64 xv.i,.string xv.s,.string tab,.string nm,.slice A n c,.slice B m dd] 34).alloc #[.int .i64 0,.int .i64 0,.string ⟨#[]⟩] 30
 simp only [World.size_alloc] at K0
 obtain ⟨g1,hg1⟩:∃ g,g=w.heap.size:=⟨_,rfl⟩
 obtain ⟨g2,hg2⟩:∃ g,g=g1+1:=⟨_,rfl⟩
 rw [←hg1,←hg2] at K0
 clear hl
 go_enter Tryz.func138,Tryz.ntmps138
 go_upto_region 1 with fail
 rw [←hg1,←hg2]
 clear hg1 hg2
 generalize World.alloc _ _=w1 at K0 ⊢
 obtain ⟨fb,f0,f1,f2,f3,f4,f5,f6,f7,f8⟩:=HLC.out _ (K0.ro 2 rfl).now
 have F0:=K0.facts
 simp only [zg] at F0
 obtain ⟨KL,hKL,KN⟩:=K0.name
 have HF:Hid (∀ wv,Hold Zc none w wv KL→VlsIn (some ⟨b,o,none⟩) 3 [nV p,nV lo,nV hi] wv):=hid fun wv HC=>by
  rw [hKL] at HC
  exact (HC.ro 2 rfl).now
 have HKL:=hid hKL
 clear hKL K0
 go_upto_region 9 with fail
 clear F0
 obtain ⟨Hb,hHb⟩:∃ Hb,Hb=w1.drew.heap.size:=⟨_,rfl⟩
 have HHb:=hid hHb
 clear hHb
 refine Lj (by kernel_rfl) ?_
 refine V3 [9] 11 138 (KL) (spL [(51,EvE (tvB (decide (lo≤p)))),(44,EvE (tvB (decide (lo≤p)))),(6,Yp (Mut Zc KL) Hb 30 #[.int .i64 0,.int .i64 0,.string ⟨#[]⟩])]) (by kernel_rfl) (fun _ d _ _ _ h=>by cases d<;>exact h) (by kernel_rfl) (by kernel_rfl) rfl ?_ (KN.drew) ?_
 ·exact Zd U8 (Zd U8 (Zd VS (Zm _)))
 simp only [zd,zp,List.getElem_toArray,List.getElem_cons_zero,List.getElem_cons_succ]
 repeat (refine' dv rfl rfl rfl (fun wv HC=>?_) ?_;rotate_left;(focus (have qb:=(HLC.out _ (HF.out _ HC)).1;obtain ⟨-,q0,q1,q2,q3,q4,q5,q6,q7,q8⟩:=HLC.out _ (HF.out _ HC);go_simp<;>rfl;done));simp only [zp])
 refine Zi 51 (EvE (tvB (decide (lo≤p)))) (f:=175) (args:=#[.int .i64 6,.agg #[.int .i64 1,.int .i64 lo,.string ⟨#[]⟩],.agg #[.int .i64 1,.int .i64 p,.string ⟨#[]⟩]]) rfl rfl rfl rfl (fun wv=>?_) (fun wv HC hrm hD=>?_) ?_
 ·go_simp<;>rfl
 ·refine (Zcv lo p wv).mono ?_
  rintro e w5 ⟨rfl,b5⟩
  exact ⟨_,rfl,rfl,HC.call b5,RM.below b5⟩
 obtain ⟨t1,ht1⟩:∃ t,decide (lo≤p)=t:=⟨_,rfl⟩
 rw [ht1]
 have HT1:=hid ht1
 clear ht1
 obtain ⟨⟨yk,yi,ys⟩,hy⟩:∃ y,tvB t1=y:=⟨_,rfl⟩
 rw [hy]
 rintro z wx HCx hz
 obtain rfl:z=.tuple #[.agg #[.int .i64 yk,.int .i64 yi,.string ys],.int .i64 0]:=hz
 clear HCx
 simp only [zp]
 refine YI 44 (EvE ⟨yk,yi,ys⟩) rfl rfl rfl rfl (.tuple #[.agg #[.int .i64 yk,.int .i64 yi,.string ys],.int .i64 0]) (fun wv HC=>?_) (fun wv HC hD=>?_) ?_
 ·go_simp<;>rfl
 ·rfl
 iterate 2
  simp only [zp]
  refine' dv rfl rfl rfl (fun wv HC=>?_) ?_;rotate_left
  · go_simp<;>rfl
 simp only [zp]
 refine Z8 #[.int .i64 0,.int .i64 0,.string ⟨#[]⟩] 30 6 (Yp (Mut Zc KL) Hb 30 #[.int .i64 0,.int .i64 0,.string ⟨#[]⟩]) (fun g=>.pointer (some ⟨g,0,none⟩)) rfl rfl rfl rfl (fun wv=>?_) (fun wv HC hrm hD hro=>?_) ?_
 ·go_simp<;>rfl
 ·exact ⟨_,rfl,by have:=hrm.1;rw [HHb.out];exact this,hro _ HC.Zb⟩
 rintro gb wg HCg hsl
 simp only [zp]
 clear hsl HCg
 refine Zk ?_
 rintro wxb HY
 rintro _hrm HGW
 have hns:Yp (Mut Zc KL) Hb 30 #[.int .i64 0,.int .i64 0,.string ⟨#[]⟩] (.pointer (some ⟨gb,0,none⟩)) wxb:=(Zo (d:=6) rfl).1 (HGW 10 _ rfl (by omega))
 clear HGW
 obtain ⟨g7,hg7,hgH,hgB⟩:=hns
 obtain rfl:gb=g7:=by injection hg7 with hg7;injection hg7 with hg7;injection hg7
 clear hg7
 rw [HHb.out] at hgH
 have HB:=Hold.VI KN.drew HY _hrm hgH hgB.now
 rw [HKL.out] at HB
 clear HY KN HF hgB hgH _hrm HHb HKL
 have FB:=HB.facts
 simp only [zg] at FB
 have KB:=((HB.store 0 rfl 0 (.int .i64 yk)).store 0 rfl 1 (.int .i64 yi)).store 0 rfl 2 (.string ys)
 simp only [zl] at KB
 clear HB
 obtain ⟨gl,hgl⟩:∃ g,g=gb:=⟨_,rfl⟩
 go_upto_region 12 with fail
 generalize World.setCell _ _ _=w2 at KB ⊢
 clear FB
 obtain ⟨KL,hKL,KN⟩:=KB.name
 have HF:Hid (∀ wv,Hold Zc none w wv KL→VlsIn (some ⟨b,o,none⟩) 3 [nV p,nV lo,nV hi] wv):=hid fun wv HC=>by
  rw [hKL] at HC
  exact (HC.ro 3 rfl).now
 have HKL:=hid hKL
 clear hKL KB hgl gl
 obtain ⟨Hb,hHb⟩:∃ Hb,Hb=w2.drew.heap.size:=⟨_,rfl⟩
 have HHb:=hid hHb
 clear hHb
 refine Lj (by kernel_rfl) ?_
 refine V3 [9] 11 138 (KL) (spL [(65,EvE (tvB (decide (p≤hi)))),(58,EvE (tvB (decide (p≤hi)))),(8,Yp (Mut Zc KL) Hb 30 #[.int .i64 0,.int .i64 0,.string ⟨#[]⟩])]) (by kernel_rfl) (fun _ d _ _ _ h=>by cases d<;>exact h) (by kernel_rfl) (by kernel_rfl) rfl ?_ (KN.drew) ?_
 ·exact Zd U8 (Zd U8 (Zd VS (Zm _)))
 simp only [zd,zp,List.getElem_toArray,List.getElem_cons_zero,List.getElem_cons_succ]
 repeat (refine' dv rfl rfl rfl (fun wv HC=>?_) ?_;rotate_left;(focus (have qb:=(HLC.out _ (HF.out _ HC)).1;obtain ⟨-,q0,q1,q2,q3,q4,q5,q6,q7,q8⟩:=HLC.out _ (HF.out _ HC);go_simp<;>rfl;done));simp only [zp])
 refine Zi 65 (EvE (tvB (decide (p≤hi)))) (f:=175) (args:=#[.int .i64 6,.agg #[.int .i64 1,.int .i64 p,.string ⟨#[]⟩],.agg #[.int .i64 1,.int .i64 hi,.string ⟨#[]⟩]]) rfl rfl rfl rfl (fun wv=>?_) (fun wv HC hrm hD=>?_) ?_
 ·go_simp<;>rfl
 ·refine (Zcv p hi wv).mono ?_
  rintro e w5 ⟨rfl,b5⟩
  exact ⟨_,rfl,rfl,HC.call b5,RM.below b5⟩
 obtain ⟨t2,ht2⟩:∃ t,decide (p≤hi)=t:=⟨_,rfl⟩
 rw [ht2]
 have HT2:=hid ht2
 clear ht2
 obtain ⟨⟨uk,ui,us⟩,hu⟩:∃ y,tvB t2=y:=⟨_,rfl⟩
 rw [hu]
 rintro z wx HCx hz
 obtain rfl:z=.tuple #[.agg #[.int .i64 uk,.int .i64 ui,.string us],.int .i64 0]:=hz
 clear HCx
 simp only [zp]
 refine YI 58 (EvE ⟨uk,ui,us⟩) rfl rfl rfl rfl (.tuple #[.agg #[.int .i64 uk,.int .i64 ui,.string us],.int .i64 0]) (fun wv HC=>?_) (fun wv HC hD=>?_) ?_
 ·go_simp<;>rfl
 ·rfl
 iterate 2
  simp only [zp]
  refine' dv rfl rfl rfl (fun wv HC=>?_) ?_;rotate_left
  · go_simp<;>rfl
 simp only [zp]
 refine Z8 #[.int .i64 0,.int .i64 0,.string ⟨#[]⟩] 30 8 (Yp (Mut Zc KL) Hb 30 #[.int .i64 0,.int .i64 0,.string ⟨#[]⟩]) (fun g=>.pointer (some ⟨g,0,none⟩)) rfl rfl rfl rfl (fun wv=>?_) (fun wv HC hrm hD hro=>?_) ?_
 ·go_simp<;>rfl
 ·exact ⟨_,rfl,by have:=hrm.1;rw [HHb.out];exact this,hro _ HC.Zb⟩
 rintro gc wg HCg hsl
 simp only [zp]
 clear hsl HCg
 refine Zk ?_
 rintro wxb HY
 rintro _hrm HGW
 have hns:Yp (Mut Zc KL) Hb 30 #[.int .i64 0,.int .i64 0,.string ⟨#[]⟩] (.pointer (some ⟨gc,0,none⟩)) wxb:=(Zo (d:=8) rfl).1 (HGW 10 _ rfl (by omega))
 clear HGW
 obtain ⟨g7,hg7,hgH,hgB⟩:=hns
 obtain rfl:gc=g7:=by injection hg7 with hg7;injection hg7 with hg7;injection hg7
 clear hg7
 rw [HHb.out] at hgH
 have HB:=Hold.VI KN.drew HY _hrm hgH hgB.now
 rw [HKL.out] at HB
 clear HY KN HF hgB hgH _hrm HHb HKL
 have FB:=HB.facts
 simp only [zg] at FB
 have KB:=((HB.store 0 rfl 0 (.int .i64 uk)).store 0 rfl 1 (.int .i64 ui)).store 0 rfl 2 (.string us)
 simp only [zl] at KB
 go_upto_region 15 with fail
 generalize World.setCell _ _ _=w3 at KB ⊢
 clear FB HB
 have HZ:Hid (Gives 176 #[.agg #[.int .i64 yk,.int .i64 yi,.string ys],.agg #[.int .i64 uk,.int .i64 ui,.string us]] (.tuple #[.agg #[.int .i64 2,.int .i64 (bif (t1&&t2) then 1 else 0),.string ⟨#[]⟩],.bool true])):=hid (by
  have h:=ZjK (some t1) (some t2)
  cases t1<;>cases t2<;>(cases hy;cases hu;exact h))
 clear hy hu
 have F3:=KB.facts
 simp only [zg] at F3
 go_wp2_with fail
 refine (HZ.out _).mono ?_
 rintro e w4 ⟨rfl,b4⟩
 have K1:=KB.call b4
 clear KB F3 b4
 obtain ⟨t,ht⟩:∃ t,(t1&&t2)=t:=⟨_,rfl⟩
 rw [ht]
 have HT:=hid ht
 clear HZ ht
 obtain ⟨ti,hti⟩:∃ z:Int,(bif t then 1 else 0)=z:=⟨_,rfl⟩
 rw [hti]
 have HTI:=hid hti
 clear hti
 go_wp2_with fail
 refine (ZkN ⟨2,ti,⟨#[]⟩⟩ _).mono ?_
 rintro e w5 ⟨rfl,b5⟩
 have K2:=K1.call b5
 clear K1 b5
 have FY:=K2.facts
 simp only [zg] at FY
 have KZ:=((K2.store 2 rfl 0 (.int .i64 2)).store 2 rfl 1 (.int .i64 ti)).store 2 rfl 2 (.string ⟨#[]⟩)
 simp only [zl] at KZ
 have FZ:=KZ.facts
 simp only [zg] at FZ
 have HB:=hid KZ.below
 clear KZ
 go_wp2_with fail
 refine Lh (v:=.tuple #[.agg #[.int .i64 2,.int .i64 ti,.string ⟨#[]⟩],.int .i64 0]) ?_ rfl ?_
 ·clear HB
  simp [results,Tryz.results138,go_sem,FZ]
 ·exact ⟨by rw [HT1.out,HT2.out,HT.out,←HTI.out];rfl,HB.out⟩
end
end Go.Proofs.YtnmnkbnmollpmaaGreatDoor

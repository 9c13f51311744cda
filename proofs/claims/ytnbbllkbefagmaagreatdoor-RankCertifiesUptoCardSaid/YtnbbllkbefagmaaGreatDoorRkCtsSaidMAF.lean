import Derived.Test.YtnbbllkbefagmaaGreatDoorRkCtsSaidMAE
import Derived.Test.YtnbbllkbefagmaaGreatDoorRkCtsSaidMM
import Derived.Test.YtnbbllkbefagmaaGreatDoorRkCtsSaidMF
import Derived.Test.YtnbbllkbefagmaaGreatDoorRkCtsSaidMO
import Derived.Test.YtnbbllkbefagmaaGreatDoorRkCtsSaidMG
import Derived.Test.YtnbbllkbefagmaaGreatDoorRkCtsSaidMAC
import Derived.ArgAppend
import Derived.Test.YtnbbllkbefagmaaGreatDoorRkCtsSaidMAA
import Derived.Test.YtnbbllkbefagmaaGreatDoorRkCtsSaidMQ
import Derived.Test.YtnbbllkbefagmaaGreatDoorRkCtsSaidMX
import Derived.Test.YtnbbllkbefagmaaGreatDoorRkCtsSaidMW
namespace Go.Proofs.YtnbbllkbefagmaaGreatDoor
open Go.RowKit
set_option linter.unusedVariables false
set_option linter.unusedSimpArgs false
def Q4 (z:Value):Prop:=∃ s:ByteArray,z=.string s∧s.size≤2
def zI (u:Value) (_:World):Prop:=∃ s:ByteArray,u=.string s∧s.size≤2
def UA (M:Nat→Prop) (b0:Nat) (u:Value) (w:World):Prop:=∃ (gr ga:Nat) (col:ByteArray) (k lo hi:Int) (a:Ac),u=(Yc gr ga col lo hi a).val∧col.size≤2∧I64 lo∧I64 hi∧Y9 Yh col k lo hi a∧AcSm a∧Ro w (fun b=>M b∨b=gr) (AcsIn 3 (some ⟨ga,0,none⟩) 1 [a])∧b0≤gr∧Ro w M (fun w=>w.heap[gr]? =some (.cells (rkA col lo hi) 85 (0,0)))
theorem ZgT {M:Nat→Prop} {b0:Nat} (u:Value) (w w' :World) (hr:RM M w w') (h:UA M b0 u w):UA M b0 u w' :=by
 obtain ⟨gr,ga,col,k,lo,hi,a,h1,h2,h3,h4,h5,h6,h7,h8,h9⟩:=h
 exact ⟨gr,ga,col,k,lo,hi,a,h1,h2,h3,h4,h5,h6,RM.ro (M:=fun b=>M b∨b=gr) ⟨hr.1,fun b hb hn=>hr.2 b hb fun hm=>hn (.inl hm)⟩ h7,h8,hr.ro h9⟩
theorem Hold.Zhh {M:Nat→Prop} {row:Option Nat} {w0 w1 w:World} {L:List Hp} (K1:Hold M row w0 w1 L) (K:Hold M row w0 w L) (hr:RM (Mut M L) w1 w) {g2:Nat} {t2:TypeId} {cs2:Array Value} (hg2:w1.heap.size≤g2) (hb2:w.heap[g2]? =some (.cells cs2 t2 (0,0))) {g:Nat} {t:TypeId} {cs:Array Value} (hg:w1.heap.size≤g) (hb:w.heap[g]? =some (.cells cs t (0,0))) (hne:g2≠g):
  Hold M row w0 w (.blk g t cs::.blk g2 t2 cs2::L):=by
 have KO:=Hold.WJ K1 K hr hg2 hb2
 have hgl:g<w.heap.size:=Blk.lt (t:=t) (cs:=cs) hb
 have ee:∀ b,b<w1.heap.size→Mut M (.blk g t cs::.blk g2 t2 cs2::L) b→Mut M L b:=fun b hl hb=>by
  rcases ZG.1 hb with hf|hm
  ·have:some g=some b:=hf
   injection this with this
   omega
  ·rcases ZG.1 hm with hf|hm
   ·have:some g2=some b:=hf
    injection this with this
    omega
   ·exact hm
 refine ⟨K.grow,K.low,fun k hk=>?_,fun k hk b hf=>?_,⟨fun b hf k hk he=>?_,KO.sep⟩⟩
 ·rcases List.mem_cons.1 hk with rfl|hk
  ·exact hb
  ·have h2:=KO.sat k hk
   rcases List.mem_cons.1 hk with rfl|hk
   ·exact h2
   ·have h1:=K1.sat k hk
    cases k with
    | blk g' t' cs' =>exact h2
    | own e s v n' xs=>exact h2
    | tp T=>
     refine ⟨h2.1,fun b hb' =>?_⟩
     have hT:T<w1.heap.size:=(K1.fresh _ hk T rfl).2
     rcases ZG.1 hb' with hf|hm'
     ·have:some g=some b:=hf
      injection this with this
      omega
     ·exact h2.2 b hm'
    | ro S=>exact Ro.step h1 hr.1 hr.2 ee
    | cst g' t' cs' =>exact Ro.step h1 hr.1 hr.2 ee
    | ob g' F' =>exact h2
 ·rcases List.mem_cons.1 hk with rfl|hk
  ·have:some g=some b:=hf
   injection this with this
   subst this
   exact ⟨.inl (Nat.le_trans K1.grow.size hg),hgl⟩
  ·exact KO.fresh k hk b hf
 ·have:some g=some b:=hf
  injection this with this
  subst this
  rcases List.mem_cons.1 hk with rfl|hk
  ·have:some g2=some g:=he
   injection this with this
   exact hne this
  ·have h2:=(K1.fresh k hk g he).2
   omega
def Vt:Array Value:=#[.string ⟨#[]⟩,.string ⟨#[]⟩,.bool false,.int .i64 0,.slice none 0 0,.bool false,.slice none 0 0,.slice none 0 0,.slice none 0 0,.slice none 0 0,.slice none 0 0]
def UW (cs:Array Value):Prop:=∀ x:Int,Value.int .i64 x∈cs.toList→x=0
theorem Zfh:UW Vt:=fun x hx=>by
 simp only [Vt,List.mem_cons,List.not_mem_nil,or_false,reduceCtorEq,false_or] at hx
 simpa using hx
theorem UC {cs:Array Value} {xs:List Value} (hz:UW cs) (j:Nat) {k:Int} (hk:k≠0) (hx:xs[j]? =some (.int .i64 k)) (o:Nat):¬∀ (j:Nat) (u:Value),xs[j]? =some u→cs[o+j]? =some u:=fun h=>
 hk (hz k (Array.mem_toList_iff.2 (Array.mem_of_getElem? (h j _ hx))))
def ExK:Nat→Ex→Prop
 | 0,_=>True
 | d+1,e=>e.kind≠0∧(∀ a∈e.args,ExK d a)∧e.sub=[]
theorem UX {k n:Nat} {A:Option Addr} {w:World} (hk:0<k) (h:SlR k A n [] w):n=0:=by
 have:=(show Rd w w.heap.size k A n [] from h).1
 simp only [List.length_nil] at this
 rcases Nat.eq_zero_or_pos n with h0|h0
 ·exact h0
 ·have:=Nat.mul_pos h0 hk;omega
theorem Jk {w:World} {g:Nat} {t:TypeId} {cs:Array Value} (hg:w.heap[g]? =some (.cells cs t (0,0))) (hz:UW cs) {M:Nat→Prop}:∀ {d:Nat} {e:Ex},ExK d e→Ro w M (ExIn d e)→Ro w (fun b=>M b∨b=g) (ExIn d e)
 | 0,_,_,h=>h.now.elim
 | d+1,e,⟨_,h2,h3⟩,hr=>by
  have a1:Ro w M (SlR 10 e.A e.n (Zl e.args)):=hr.imp fun w2 h=>h.1
  have a3:Ro w M (SlR 4 e.B e.m (YU e.sub)):=hr.imp fun w2 h=>h.2.2.1
  have b2:∀ a∈e.args,Ro w (fun b=>M b∨b=g) (ExIn d a):=fun a ha=>Jk hg hz (h2 a ha) (hr.imp fun w2 h=>h.2.1 a ha)
  have b1:=Xp a1 hg (by
   cases hl:e.args with
   | nil=>left;have:=a1.now;rw [hl] at this;exact UX (by omega) this
   | cons a l=>
    right
    have ha:a∈e.args:=by rw [hl];exact List.mem_cons_self ..
    cases d with
    | zero=>exact (hr.now.2.1 a ha).elim
    | succ d=>exact UC hz 0 (h2 a ha).1 rfl)
  have b3:=Xp a3 hg (.inl (by have:=a3.now;rw [h3] at this;exact UX (by omega) this))
  exact fun w2 g1 g2=>⟨b1 w2 g1 g2,fun a ha=>b2 a ha w2 g1 g2,b3 w2 g1 g2,fun q hq=>by rw [h3] at hq;cases hq⟩
theorem zT (d:Nat) (v:Vl):ExK d (Zz v):=by
 cases d with
 | zero=>trivial
 | succ d=>exact ⟨by simp [Zz],fun a ha=>(nomatch ha),rfl⟩
theorem Zav (d:Nat) (t n:ByteArray):ExK d (Zk t n):=by
 cases d with
 | zero=>trivial
 | succ d=>exact ⟨by simp [Zk],fun a ha=>(nomatch ha),rfl⟩
theorem QI {d:Nat} {kind op:Int} {nt:Bool} {g k:Nat} {l:List Ex} (hk:kind≠0) (h:∀ d,∀ a∈l,ExK d a):ExK d (opE kind op nt g k l):=by
 cases d with
 | zero=>trivial
 | succ d=>exact ⟨hk,h d,rfl⟩
theorem Qj {x:Ex} {n:Int} (h:Xv x n) (d:Nat):ExK d x:=by
 rcases h with ⟨_,rfl⟩|⟨_,g,rfl⟩
 ·exact zT d _
 ·exact QI (by decide) fun d a ha=>by
   simp only [List.mem_cons,List.not_mem_nil,or_false] at ha
   subst ha
   exact zT d _
theorem ZcG {w:World} {g:Nat} {t:TypeId} {cs:Array Value} (hg:w.heap[g]? =some (.cells cs t (0,0))) (hz:UW cs) {M:Nat→Prop} {u c:ByteArray} {k lo hi:Int} {a:Ac} (hl:Y9 u c k lo hi a) (hs:AcSm a) {A:Option Addr} (h:Ro w M (AcsIn 3 A 1 [a])):Ro w (fun b=>M b∨b=g) (AcsIn 3 A 1 [a]):=by
 obtain ⟨hk,-,g1,g2,kE,x,y,e1,e2,n1,n2,n3⟩:=hl
 obtain ⟨ak,atab,⟨arA,arn,arc,arl⟩,⟨aqA,aqn,aqc,aql⟩,⟨asA,asn,asc,asl⟩,⟨awA,awn,awc,awl⟩,atext⟩:=a
 obtain ⟨r1,r2,-,-⟩:=hs
 simp only at hk e1 e2 r1 r2
 subst hk e1 e2 r1 r2
 have ha:=h.imp fun w2 h2=>h2.2 _ (List.mem_cons_self ..)
 have s0:=Xp (h.imp fun w2 h2=>h2.1) hg (.inr (UC hz 0 (k:=2) (by decide) rfl))
 have s1:=Xp (ha.imp fun w2 h2=>h2.1.1) hg (.inl (UX (by omega) ha.now.1.1))
 have s2:=Xp (ha.imp fun w2 h2=>h2.2.1.1) hg (.inl (UX (by omega) ha.now.2.1.1))
 have s3:=Xp (ha.imp fun w2 h2=>h2.2.2.1.1) hg (.inr (UC hz 1 (k:=5) (by decide) rfl))
 have s4:=Xp (ha.imp fun w2 h2=>h2.2.2.2.1) hg (.inr (UC hz 0 (k:=7) (by decide) rfl))
 have s5:Ro w (fun b=>M b∨b=g) (ExIn 3 (opE 5 10 false g1 2 [Zk ⟨#[]⟩ c,kE])):=Jk hg hz (QI (by decide) fun d b hb=>by
  simp only [List.mem_cons,List.not_mem_nil,or_false] at hb
  rcases hb with rfl|rfl
  ·exact Zav d _ _
  ·exact Qj n1 d) (ha.imp fun w2 h2=>h2.2.2.1.2 _ (List.mem_cons_self ..))
 have s6:Ro w (fun b=>M b∨b=g) (ExIn 3 (opE 7 0 false g2 3 [Zk ⟨#[]⟩ c,x,y])):=Jk hg hz (QI (by decide) fun d b hb=>by
  simp only [List.mem_cons,List.not_mem_nil,or_false] at hb
  rcases hb with rfl|rfl|rfl
  ·exact Zav d _ _
  ·exact Qj n2 d
  ·exact Qj n3 d) (ha.imp fun w2 h2=>h2.2.2.2.2 _ (List.mem_cons_self ..))
 refine fun w2 q1 q2=>⟨s0 w2 q1 q2,fun b hb=>?_⟩
 simp only [List.mem_cons,List.not_mem_nil,or_false] at hb
 subst hb
 refine ⟨⟨s1 w2 q1 q2,fun b hb=>(nomatch hb)⟩,⟨s2 w2 q1 q2,fun b hb=>(nomatch hb)⟩,⟨s3 w2 q1 q2,fun b hb=>?_⟩,⟨s4 w2 q1 q2,fun b hb=>?_⟩⟩
 ·simp only [List.mem_cons,List.not_mem_nil,or_false] at hb
  subst hb
  exact s5 w2 q1 q2
 ·simp only [List.mem_cons,List.not_mem_nil,or_false] at hb
  subst hb
  exact s6 w2 q1 q2
def ZdG (w:World) (M:Nat→Prop) (e:Ending) (w' :World):Prop:=∃ (A:Option Addr) (c:Nat) (l:List Te),e=.returned (.slice A 3 c)∧XK (ZM l)∧(∀ x∈l,x.n≤4398046511104)∧Ro w' M (TesIn A 3 l)∧Below w.heap.size w w'
theorem Tryz.JQ:ElemT Tryz.prog 29 67 4 72 (.agg #[.string ⟨#[]⟩,.slice none 0 0,.int .i64 0,.slice none 0 0]):=⟨Tryz.underlying29,by kernel_rfl,rfl,by omega⟩
set_option maxRecDepth 100000 in
set_option maxHeartbeats 4000000 in
theorem ZdL (M:Nat→Prop) (w:World) (hM:∀ b,M b→b<w.heap.size):Calls Tryz.prog 80 #[] w fun e w' =>ZdG w M e w' :=by
 have K0:=Hold.start M w hM
 go_enter Tryz.func80,Tryz.ntmps80
 go_wp2_with fail
 refine (U4 _ _ K0.Zc).mono ?_
 rintro e w1 ⟨g,g0,g1,g2,nl,nt,nu,hnl,hnt,hnu,rfl,b1,r0,r1,r2,r3⟩
 have HNL:=hid (And.intro hnl (And.intro hnt hnu))
 have K1:=(((((K0.call b1).add r3).add (r2.less (by simp [Mut,Hp.foot]))).add (r1.less (by simp [Mut,Hp.foot]))).add (r0.less (by simp [Mut,Hp.foot]))).nil 67 4
 clear K0 b1 r0 r1 r2 r3 hnl hnt hnu
 go_wp2_with fail
 go_loopw [1,6] (fun ov iv wr=>∃ (k cap:Nat) (O:Option Addr),k≤3∧iv=.int .i64 k∧ov=.slice O k cap∧Hold M none w wr [.own 67 4 (.slice O k cap) k (ZI ([⟨nl,some ⟨g0,0,none⟩,2,2,Ym,1,none,0,0,[]⟩,⟨nt,some ⟨g1,0,none⟩,4,4,Yl,1,none,0,0,[]⟩,⟨nu,some ⟨g2,0,none⟩,3,3,Yb,1,none,0,0,[]⟩].take k)),.ro (fun w=>w.heap[g]? =some (.cells #[.string nl,.slice (some ⟨g0,0,none⟩) 2 2,.string nt,.slice (some ⟨g1,0,none⟩) 4 4,.string nu,.slice (some ⟨g2,0,none⟩) 3 3] 49 (0,0))),.ro (SlR 4 (some ⟨g0,0,none⟩) 2 (Zd Ym)),.ro (SlR 4 (some ⟨g1,0,none⟩) 4 (Zd Yl)),.ro (SlR 4 (some ⟨g2,0,none⟩) 3 (Zd Yb))]) (fun _ iv _=>3 - (intOf iv).toNat)
 case atStart=>exact ⟨0,0,none,by omega,rfl,rfl,K1⟩
 case round=>
  clear K1
  obtain ⟨k,cap,O,hk,rfl,rfl,H⟩:=hrel
  by_cases hlt:k<3
  ·have hd:decide ((k:Int)<3)=true:=by simp;omega
   have hblk:=(H.ro 1 rfl).now
   have hgl:=Blk.lt hblk
   obtain rfl|rfl|rfl:k=0∨k=1∨k=2:=by omega
   ·have c0:=cell_of_row _ _ 0 _ _ _ hblk
    have c1:=cell_of_row _ _ 1 _ _ _ hblk
    clear hblk
    have K1:=H.Za #[.string nl,.slice (some ⟨g0,0,none⟩) 2 2] 49
    have F1:=K1.facts
    simp only [zg] at F1
    clear H
    go_wp2_with (at_builtin;go_must (refine Zx K1 1 rfl Tryz.JQ #[.string nl,.slice (some ⟨g0,0,none⟩) 2 2,.int .i64 1,.slice none 0 0] rfl (.tmp 10) (.tmp 13) rfl rfl _ (by first|rfl|simp) rfl rfl (by intro u hu;simp at hu;rcases hu with rfl|rfl|rfl|rfl<;>rfl) (by omega) (by omega) ?_);intro g9 cap9 w9 hc9 hm9 KB;simp only [zl] at KB)
    have KC:=KB.drop (List.sublist_cons_self _ _)
    go_roundw
    case rel=>exact ⟨1,cap9,_,by omega,by go_num,by first|rfl|trivial,KC⟩
    case measure=>simp [intOf]
   ·have c0:=cell_of_row _ _ 2 _ _ _ hblk
    have c1:=cell_of_row _ _ 3 _ _ _ hblk
    clear hblk
    have K1:=H.Za #[.string nt,.slice (some ⟨g1,0,none⟩) 4 4] 49
    have F1:=K1.facts
    simp only [zg] at F1
    clear H
    go_wp2_with (at_builtin;go_must (refine Zx K1 1 rfl Tryz.JQ #[.string nt,.slice (some ⟨g1,0,none⟩) 4 4,.int .i64 1,.slice none 0 0] rfl (.tmp 10) (.tmp 13) rfl rfl _ (by first|rfl|simp) rfl rfl (by intro u hu;simp at hu;rcases hu with rfl|rfl|rfl|rfl<;>rfl) (by omega) (by omega) ?_);intro g9 cap9 w9 hc9 hm9 KB;simp only [zl] at KB)
    have KC:=KB.drop (List.sublist_cons_self _ _)
    go_roundw
    case rel=>exact ⟨2,cap9,_,by omega,by go_num,by first|rfl|trivial,KC⟩
    case measure=>simp [intOf]
   ·have c0:=cell_of_row _ _ 4 _ _ _ hblk
    have c1:=cell_of_row _ _ 5 _ _ _ hblk
    clear hblk
    have K1:=H.Za #[.string nu,.slice (some ⟨g2,0,none⟩) 3 3] 49
    have F1:=K1.facts
    simp only [zg] at F1
    clear H
    go_wp2_with (at_builtin;go_must (refine Zx K1 1 rfl Tryz.JQ #[.string nu,.slice (some ⟨g2,0,none⟩) 3 3,.int .i64 1,.slice none 0 0] rfl (.tmp 10) (.tmp 13) rfl rfl _ (by first|rfl|simp) rfl rfl (by intro u hu;simp at hu;rcases hu with rfl|rfl|rfl|rfl<;>rfl) (by omega) (by omega) ?_);intro g9 cap9 w9 hc9 hm9 KB;simp only [zl] at KB)
    have KC:=KB.drop (List.sublist_cons_self _ _)
    go_roundw
    case rel=>exact ⟨3,cap9,_,by omega,by go_num,by first|rfl|trivial,KC⟩
    case measure=>simp [intOf]
  ·obtain rfl:3=k:=by omega
   have K2:=H.ZC 0 rfl
   simp only [List.set_cons_zero] at K2
   have HR:=hid (show XK (ZM [⟨nl,some ⟨g0,0,none⟩,2,2,Ym,1,none,0,0,[]⟩,⟨nt,some ⟨g1,0,none⟩,4,4,Yl,1,none,0,0,[]⟩,⟨nu,some ⟨g2,0,none⟩,3,3,Yb,1,none,0,0,[]⟩]) from ⟨(nu,Yb),by
    simp only [ZM,List.map_cons,List.map_nil]
    rw [HNL.out.1,HNL.out.2.1,HNL.out.2.2]
    decide+kernel,show Xn Yb Xi=true by decide+kernel⟩)
   go_wp2_with fail
   go_ret
   refine ⟨O,cap,[⟨nl,some ⟨g0,0,none⟩,2,2,Ym,1,none,0,0,[]⟩,⟨nt,some ⟨g1,0,none⟩,4,4,Yl,1,none,0,0,[]⟩,⟨nu,some ⟨g2,0,none⟩,3,3,Yb,1,none,0,0,[]⟩],by first|rfl|simp,HR.out,?_,?_,K2.below⟩
   ·intro x hx
    simp only [List.mem_cons,List.not_mem_nil,or_false] at hx
    rcases hx with rfl|rfl|rfl
    ·show (2:Nat)≤4398046511104;omega
    ·show (4:Nat)≤4398046511104;omega
    ·show (3:Nat)≤4398046511104;omega
   ·have R:=((K2.ro 0 rfl).and ((K2.ro 2 rfl).and ((K2.ro 3 rfl).and (K2.ro 4 rfl)))).less zm
    refine R.imp fun w2 h2=>⟨h2.1,fun x hx=>?_⟩
    simp only [List.mem_cons,List.not_mem_nil,or_false] at hx
    rcases hx with rfl|rfl|rfl
    ·exact ⟨h2.2.1,ZR 2 w2,fun r hr=>nomatch hr⟩
    ·exact ⟨h2.2.2.1,ZR 2 w2,fun r hr=>nomatch hr⟩
    ·exact ⟨h2.2.2.2,ZR 2 w2,fun r hr=>nomatch hr⟩
end Go.Proofs.YtnbbllkbefagmaaGreatDoor
namespace Go.Proofs.YtnbbllkbefagmaaGreatDoor
open Go.RowKit
set_option linter.unusedVariables false
set_option linter.unusedSimpArgs false
def TgS (M:Nat→Prop) (n:Nat) (l:List Tg) (u:Value) (w:World):Prop:=∃ (A:Option Addr) (c:Nat),u=.slice A n c∧Ro w M (TgsIn 3 A n l)
def TeS (M:Nat→Prop) (u:Value) (w:World):Prop:=∃ (A:Option Addr) (c:Nat) (l:List Te),u=.slice A 3 c∧XK (ZM l)∧(∀ x∈l,x.n≤4398046511104)∧Ro w M (TesIn A 3 l)
theorem GN {M:Nat→Prop} {n:Nat} {l:List Tg} (u:Value) (w w' :World) (hr:RM M w w') (h:TgS M n l u w):TgS M n l u w' :=by
 obtain ⟨A,c,h1,h2⟩:=h
 exact ⟨A,c,h1,hr.ro h2⟩
theorem GM {M:Nat→Prop} (u:Value) (w w' :World) (hr:RM M w w') (h:TeS M u w):TeS M u w' :=by
 obtain ⟨A,c,l,h1,h2,h3,h4⟩:=h
 exact ⟨A,c,l,h1,h2,h3,hr.ro h4⟩
theorem Zbo {M:Nat→Prop} {w:World} (hM:∀ b,M b→b<w.heap.size) {u v:Value} {n:Nat} {t:Tg} {ts:List Tg} {r:Rk} {z:Bool} (h1:TgS M n (t::ts) u w) (h2:TeS M v w) (hfit:∀ x∈t::ts,TgFit 3 x) (hb:t.before=false) (hr:t.rank.l=[r]) (hI:I64 r.lo∧I64 r.hi) (hz:∀ tabs,XK tabs→Yn 3 (t::ts) tabs 0=z) (hn:n≤4611686018427387904):
  Calls Tryz.prog 35 #[u,v,.int .i64 0] w fun e w' =>e=.returned (.bool z)∧Below w.heap.size w w' :=by
 obtain ⟨A,c,rfl,ht⟩:=h1
 obtain ⟨B,e,l,rfl,hT,hc,hD⟩:=h2
 have h:=ZaO M w hM A n c (t::ts) B 3 e l 0 t r [] 2 ht hD hn (by omega) hfit hc rfl hb hr hI
 rw [←Q9 hb hr,hz _ hT] at h
 exact h
theorem Za8 {M:Nat→Prop} (w:World) (hM:∀ b,M b→b<w.heap.size):Calls Tryz.prog 80 #[] w fun e w' =>∃ u,e=.returned u∧TeS M u w' ∧Below w.heap.size w w' :=by
 refine (ZdL M w hM).mono ?_
 rintro e w' ⟨A,c,l,rfl,h1,h2,h3,h4⟩
 exact ⟨_,rfl,⟨A,c,l,rfl,h1,h2,h3⟩,h4⟩
set_option maxRecDepth 100000 in
set_option maxHeartbeats 4000000 in
theorem Zdc (w:World) (t c n:ByteArray) (A:Option Addr):Calls Tryz.prog 41 #[.agg #[.string t,.string c,.int .i64 1,.int .i64 10],.agg #[.string n,.slice none 0 0,.int .i64 0,.slice A 3 3]] w fun e w' =>e=.returned (.int .i64 30)∧Below w.heap.size w w' :=by
 have K0:=((Hold.YD w).Za #[.string t,.string c,.int .i64 1,.int .i64 10] 85).Za #[.string n,.slice none 0 0,.int .i64 0,.slice A 3 3] 67
 simp only [World.size_alloc] at K0
 have F0:=K0.facts
 simp only [zg] at F0
 have HB:=hid K0.below
 clear K0
 go_enter Tryz.func41,Tryz.ntmps41
 go_wp2_with fail
 go_ret
 exact ⟨by first|rfl|(simp;kernel_rfl),HB.out⟩
section
variable {P:Program} {M:Nat→Prop} {row:Option Nat} {w0 w1:World} {L:List Hp} {sp:SpW} {F:Act→Prop} {S0:Array Bool}
variable {ops:Array Oper} {o:Oper} {rest:List Oper} {a:Act} {k:Nat}
theorem Zfo {t e:TypeId} {size bytes:Nat} {z:Value} (hE:ElemT P t e size bytes z) (d:Tmp) (V:Value→World→Prop) (hS:S0.getD k false=false) (hw:Region.wanted o (yielded ops a.tmps)=true) (hd:o.dst=some d) (hsp:sp d=some V)
  (s x:Operand) (ho:o.op=.call { callee:=.builtin .append,args:=#[s,x],argTypes:=#[t,t] }) {b q n cap:Nat} (hs:a.eval s=.slice (some ⟨b,q,none⟩) n cap) {g p m c:Nat} (hx:a.eval x=.slice (some ⟨g,p,none⟩) m c) (hg:cap<n+m) (hn0:0<n) (hm0:0<m) (hq:n+m<140737488355328) (hb:(n+m) * bytes≤140737488355328)
  (hr:∀ w,Hold M row w0 w L→Z5 ops (GW sp) o a w→∃ olds ys:List Value,SlR size (some ⟨b,q,none⟩) n olds w∧SlR size (some ⟨g,p,none⟩) m ys w∧∀ C' cap' w',Hold M row w0 w' L→RM (Mut M L) w w' →Ro w' (Mut M L) (SlR size C' (n+m) (olds++ys))→V (.slice C' (n+m) cap') w')
  (hn:∀ u w,Hold M row w0 w L→V u w→Zn P ops (HC M row w0 w1 L) (GW sp) (RM (Mut M L)) S0 F (k+1) rest (a.put (some d) u)):Zn P ops (HC M row w0 w1 L) (GW sp) (RM (Mut M L)) S0 F k (o::rest) a:=by
 refine Jn hS hw d hd (fun w hC hD=>?_) fun u w hC hu=>hn u w hC.1 ((Zp hsp).1 hu)
 obtain ⟨olds,ys,h1,h2,hV⟩:=hr w hC.1 hD
 obtain ⟨b1,o1,e1,hb1,hc1⟩:=(show Rd w w.heap.size size (some ⟨b,q,none⟩) n olds from h1).2 hn0
 obtain ⟨b2,o2,e2,hb2,hc2⟩:=(show Rd w w.heap.size size (some ⟨g,p,none⟩) m ys from h2).2 hm0
 obtain ⟨rfl,rfl⟩:b=b1∧q=o1:=by injection e1 with e1;injection e1 with x1 x2;exact ⟨x1,x2⟩
 obtain ⟨rfl,rfl⟩:g=b2∧p=o2:=by injection e2 with e2;injection e2 with x1 x2;exact ⟨x1,x2⟩
 obtain ⟨i0,hi1,hi2,hi3,hi4⟩:=info_parts hE.hi
 obtain ⟨v',w',hrun,ho2,hgr⟩:=run_append_arg_grows (P:=P) (w:=w) t o.type e i0 z size bytes hE.ht hi1 hi2 hi3 hi4 hE.hzs hE.hsz ⟨b,q,none⟩ n cap olds h1.1 (fun j u hu=>by rw [Addr.add_lit];exact hc1 j u hu) ⟨g,p,none⟩ m c ys h2.1 (fun j u hu=>by rw [Addr.add_lit];exact hc2 j u hu) hg (by unfold maxLen;omega) hb
 have hbl:Below w.heap.size w w' :=⟨hgr.os,hgr.tape,hgr.output,hgr.size,fun k hk=>hgr.block k hk (by simp)⟩
 obtain ⟨C',cap',rfl⟩:=QX ho2
 have hH:=hC.1.call hbl
 refine ⟨.slice C' (n+m) cap',w',?_,(Zp hsp).2 (hV C' cap' w' hH (RM.below hbl) (ZgZ hC.1.Zc ho2)),⟨hH,hC.2.trans (RM.below hbl)⟩,RM.below hbl⟩
 unfold execOp
 simp only [ho,resolve,invoke,builtin,Sem.run_bind,Sem.run_pure,Result.andThen_ok,List.map_toArray,List.map_cons,List.map_nil,hs,hx,hrun]
end
end Go.Proofs.YtnbbllkbefagmaaGreatDoor
namespace Go.Proofs.YtnbbllkbefagmaaGreatDoor
open Go.RowKit
set_option linter.unusedVariables false
set_option linter.unusedSimpArgs false
def Wq:Ac:=⟨1,⟨#[117]⟩,SlP.nil,SlP.nil,SlP.nil,SlP.nil,⟨#[]⟩⟩
def XZ (gi:Nat):Tg:=⟨⟨#[97]⟩,⟨#[117]⟩,false,2,SlP.nil,false,SlP.nil,SlP.nil,SlP.nil,SlP.nil,⟨some ⟨gi,0,none⟩,1,1,[⟨1,⟨#[117]⟩,SlP.nil,SlP.nil,SlP.nil,SlP.nil,⟨#[]⟩⟩]⟩⟩
theorem Zee (d:Nat) (w:World):AcIn d Wq w:=⟨SlP.Zi _ _ _ _,SlP.Zi _ _ _ _,SlP.Zi _ _ _ _,SlP.Zi _ _ _ _⟩
theorem Ql {gr ga:Nat} {col:ByteArray} {k lo hi:Int} {a:Ac} (h:Y9 Yh col k lo hi a) (hs:AcSm a) (d:Nat):TgFit d (Yc gr ga col lo hi a):=by
 refine zL (by show 1≤100;omega) (by show 1≤100;omega) rfl ?_ ?_ ?_
 ·show (([a]:List Ac).map (acW d)).sum≤1000
  have:=Zfr h hs d
  simp only [List.map_cons,List.map_nil,List.sum_cons,List.sum_nil]
  omega
 ·show (Zu [a]).length≤1000
  rw [Zc9 (fun b hb=>by
   simp only [List.mem_cons,List.not_mem_nil,or_false] at hb
   subst hb
   rw [h.1];decide)]
  simp
 ·intro b hb
  have hb:b∈[a]:=hb
  simp only [List.mem_cons,List.not_mem_nil,or_false] at hb
  subst hb
  exact ⟨hs.s,hs.h⟩
theorem Za4 {gr ga:Nat} {lo hi:Int} {a:Ac} (h:Y9 Yh Xi 1 lo hi a):Vq lo hi (Yc gr ga Xi lo hi a):=⟨rfl,rfl,a,rfl,h⟩
theorem Zgs (gi d:Nat):TgFit d (XZ gi):=by
 refine zL (by show 1≤100;omega) (by show 0≤100;omega) rfl ?_ ?_ ?_
 ·show (([Wq]:List Ac).map (acW d)).sum≤1000
  simp [acW,Wq,rrW,YT,Yt,ZA,SlP.nil]
 ·show (Zu [Wq]).length≤1000
  simp [Zu,Wq]
 ·intro b hb
  have hb:b∈[Wq]:=hb
  simp only [List.mem_cons,List.not_mem_nil,or_false] at hb
  subst hb
  exact ⟨by decide,by decide⟩
theorem Gx {w:World} {M:Nat→Prop} {g:Nat} {t:TypeId} {cs:Array Value} {l:List Tg} (h:Ro w M (fun w=>w.heap[g]? =some (.cells cs t (0,0)))) (hl:cs.toList=l.flatMap Tg.cells) (hr:∀ x∈l,Ro w M (TgIn 3 x)):Ro w M (TgsIn 3 (some ⟨g,0,none⟩) l.length l):=by
 have h1:Ro w M (SlR 11 (some ⟨g,0,none⟩) l.length cs.toList):=ZJ h (by rw [hl,Yu _ 11 (fun _=>rfl)])
 rw [hl] at h1
 exact h1.and fun w2 a b x hx=>hr x hx w2 a b
theorem eleven {w:World} {g:Nat} {t:TypeId} {c0 c1 c2 c3 c4 c5 c6 c7 c8 c9 c10:Value} (h:Blk w g t #[c0,c1,c2,c3,c4,c5,c6,c7,c8,c9,c10]):w.cell? ⟨g,0,none⟩=some c0∧w.cell? ⟨g,1,none⟩=some c1∧w.cell? ⟨g,2,none⟩=some c2∧w.cell? ⟨g,3,none⟩=some c3∧w.cell? ⟨g,4,none⟩=some c4∧w.cell? ⟨g,5,none⟩=some c5∧w.cell? ⟨g,6,none⟩=some c6∧w.cell? ⟨g,7,none⟩=some c7∧w.cell? ⟨g,8,none⟩=some c8∧w.cell? ⟨g,9,none⟩=some c9∧w.cell? ⟨g,10,none⟩=some c10:=⟨h.cell 0,h.cell 1,h.cell 2,h.cell 3,h.cell 4,h.cell 5,h.cell 6,h.cell 7,h.cell 8,h.cell 9,h.cell 10⟩
theorem ZgX {w:World} {M:Nat→Prop} {gi:Nat} {t:TypeId} (h:Ro w M (fun w=>w.heap[gi]? =some (.cells #[.int .i64 1,.string ⟨#[117]⟩,.slice none 0 0,.slice none 0 0,.slice none 0 0,.slice none 0 0,.string ⟨#[]⟩] t (0,0)))):Ro w M (TgIn 3 (XZ gi)):=
 (show Ro w M (SlR 7 (some ⟨gi,0,none⟩) 1 [.int .i64 1,.string ⟨#[117]⟩,.slice none 0 0,.slice none 0 0,.slice none 0 0,.slice none 0 0,.string ⟨#[]⟩]) from ZJ h rfl).imp fun w2 h2=>⟨SlP.Zi _ _ _ _,SlP.Zi _ _ _ _,SlP.Zi _ _ _ _,SlP.Zi _ _ _ _,SlP.Zi _ _ _ _,h2,fun x hx=>by
  have hx:x∈[Wq]:=hx
  simp only [List.mem_cons,List.not_mem_nil,or_false] at hx
  subst hx
  exact Zee 3 w2⟩
theorem QT {M:Nat→Prop} {w:World} {S:World→Prop} (h:Ro w M S) (o:Obj):Ro (w.alloc o) M S:=(RM.alloc M w o).ro h
theorem Zd1 {w:World} {gr ga:Nat} {col:ByteArray} {lo hi:Int} {a:Ac} (h:TgIn 3 (Yc gr ga col lo hi a) w):w.cell? ⟨gr,0,none⟩=some (.string Yh)∧w.cell? ⟨gr,1,none⟩=some (.string col)∧w.cell? ⟨gr,2,none⟩=some (.int .i64 lo)∧w.cell? ⟨gr,3,none⟩=some (.int .i64 hi):=by
 have hr:RksIn (some ⟨gr,0,none⟩) 1 [⟨Yh,col,lo,hi⟩] w:=h.ranks
 obtain ⟨b,o,e,hb,hcl,-⟩:=hr.at_ (k:=0) (x:=⟨Yh,col,lo,hi⟩) rfl
 obtain ⟨rfl,rfl⟩:gr=b∧0=o:=by injection e with e;injection e with e1 e2;exact ⟨e1,e2⟩
 have r0:=hcl 0 _ (by omega) rfl
 have r1:=hcl 1 _ (by omega) rfl
 have r2:=hcl 2 _ (by omega) rfl
 have r3:=hcl 3 _ (by omega) rfl
 simp only [Nat.zero_mul,Nat.add_zero,Nat.zero_add] at r0 r1 r2 r3
 exact ⟨r0,r1,r2,r3⟩
set_option maxRecDepth 100000 in
set_option maxHeartbeats 16000000 in
theorem JB (M:Nat→Prop) (w:World) (hM:∀ b,M b→b<w.heap.size):Calls Tryz.prog 29 #[] w fun e w' =>e=.returned (.bool true)∧Below w.heap.size w w' :=by
 have K0:=Hold.start M w hM
 go_enter Tryz.func29,Tryz.ntmps29
 go_wp2_with fail
 refine (ZbC _ _ K0.Zc ⟨#[110]⟩ 1 1 10 (by decide) (by decide) (by decide)).mono ?_
 rintro e w1 ⟨gr,ga,a,rfl,hl,hs,rt,b1⟩
 have K1:=((K0.call b1).add rt).Za #[.string ⟨#[97]⟩,.string ⟨#[117]⟩,.bool false,.int .i64 2,.slice none 0 0,.bool false,.slice none 0 0,.slice none 0 0,.slice (some ⟨gr,0,none⟩) 1 1,.slice none 0 0,.slice (some ⟨ga,0,none⟩) 1 1] 40
 have HL:=hid hl
 have HSM:=hid hs
 clear K0 b1 rt hl hs
 rw [show (Yc gr ga ⟨#[110]⟩ 1 10 a).val=.agg #[.string ⟨#[97]⟩,.string ⟨#[117]⟩,.bool false,.int .i64 2,.slice none 0 0,.bool false,.slice none 0 0,.slice none 0 0,.slice (some ⟨gr,0,none⟩) 1 1,.slice none 0 0,.slice (some ⟨ga,0,none⟩) 1 1] from rfl]
 obtain ⟨gx,hgx⟩:∃ gx,gx=w1.heap.size:=⟨_,rfl⟩
 rw [←hgx] at K1
 have K2:=K1.alloc #[.string ⟨#[97]⟩,.string ⟨#[117]⟩,.bool false,.int .i64 2,.slice none 0 0,.bool false,.slice none 0 0,.slice none 0 0,.slice (some ⟨gr,0,none⟩) 1 1,.slice none 0 0,.slice (some ⟨ga,0,none⟩) 1 1] 40
 rw [World.size_alloc,←hgx] at K2
 have K3:=K2.Za #[.int .i64 1,.string ⟨#[117]⟩,.slice none 0 0,.slice none 0 0,.slice none 0 0,.slice none 0 0,.string ⟨#[]⟩] 97
 rw [World.size_alloc,World.size_alloc,←hgx] at K3
 have K4:=K3.store 1 rfl 10 (.slice (some ⟨gx+1+1,0,none⟩) 1 1)
 have K5:=K4.store 1 rfl 8 (.slice none 0 0)
 simp only [zl] at K4 K5
 have F3:=K3.facts
 simp only [zg] at F3
 have F4:=K4.facts
 simp only [zg] at F4
 have F5:=K5.facts
 simp only [zg] at F5
 clear K2 K3 K4
 go_wp2_with fail
 have KF:=(K1.Za #[.string ⟨#[97]⟩,.string ⟨#[117]⟩,.bool false,.int .i64 2,.slice none 0 0,.bool false,.slice none 0 0,.slice none 0 0,.slice none 0 0,.slice none 0 0,.slice (some ⟨gx+1+1,0,none⟩) 1 1] 40).Za #[.int .i64 1,.string ⟨#[117]⟩,.slice none 0 0,.slice none 0 0,.slice none 0 0,.slice none 0 0,.string ⟨#[]⟩] 97
 simp only [World.size_alloc,←hgx] at KF
 rw [←hgx]
 obtain ⟨gi,hgi⟩:∃ gi,gi=gx+1+1:=⟨_,rfl⟩
 rw [←hgi] at KF ⊢
 obtain ⟨gy,hgy⟩:∃ gy,gy=gx+1:=⟨_,rfl⟩
 rw [←hgy] at KF ⊢
 have HG:=hid (And.intro hgx (And.intro hgi hgy))
 clear hgx hgi hgy
 have H2:∀ tabs,XK tabs→Yn 3 [Yc gr ga ⟨#[110]⟩ 1 10 a] tabs 0=true:=fun tabs hT=>ZbX hT (Za4 HL.out) ⟨by decide,by decide⟩ ⟨by decide,by decide⟩ (by decide) (by decide)
 have H3:∀ tabs,XK tabs→Yn 3 [Yc gr ga ⟨#[110]⟩ 1 10 a,XZ gi] tabs 0=false:=fun tabs hT=>Zc2 hT (Za4 HL.out) ⟨by decide,by decide⟩ ⟨by decide,by decide⟩ (by decide) (by decide) (a:=Wq) rfl rfl rfl rfl
 have HC2:=hid H2
 have HC3:=hid H3
 have HF1:=hid (show ∀ x∈[Yc gr ga ⟨#[110]⟩ 1 10 a],TgFit 3 x from fun x hx=>by
  simp only [List.mem_cons,List.not_mem_nil,or_false] at hx
  subst hx
  exact Ql HL.out HSM.out 3)
 have HF2:=hid (show ∀ x∈[Yc gr ga ⟨#[110]⟩ 1 10 a,XZ gi],TgFit 3 x from fun x hx=>by
  simp only [List.mem_cons,List.not_mem_nil,or_false] at hx
  rcases hx with rfl|rfl
  ·exact Ql HL.out HSM.out 3
  ·exact Zgs gi 3)
 clear H2 H3 F3 F4 F5
 obtain ⟨KL,hKL⟩:∃ KL:List Hp,KL=[.cst gi 97 #[.int .i64 1,.string ⟨#[117]⟩,.slice none 0 0,.slice none 0 0,.slice none 0 0,.slice none 0 0,.string ⟨#[]⟩],.cst gy 40 #[.string ⟨#[97]⟩,.string ⟨#[117]⟩,.bool false,.int .i64 2,.slice none 0 0,.bool false,.slice none 0 0,.slice none 0 0,.slice none 0 0,.slice none 0 0,.slice (some ⟨gi,0,none⟩) 1 1],.cst gx 40 #[.string ⟨#[97]⟩,.string ⟨#[117]⟩,.bool false,.int .i64 2,.slice none 0 0,.bool false,.slice none 0 0,.slice none 0 0,.slice (some ⟨gr,0,none⟩) 1 1,.slice none 0 0,.slice (some ⟨ga,0,none⟩) 1 1],.ro (TgIn 3 (Yc gr ga ⟨#[110]⟩ 1 10 a))]:=⟨_,rfl⟩
 have HX0:∀ wv:World,Hold M none w wv KL→Blk wv gx 40 #[.string ⟨#[97]⟩,.string ⟨#[117]⟩,.bool false,.int .i64 2,.slice none 0 0,.bool false,.slice none 0 0,.slice none 0 0,.slice (some ⟨gr,0,none⟩) 1 1,.slice none 0 0,.slice (some ⟨ga,0,none⟩) 1 1]:=fun wv h=>by rw [hKL] at h;exact h.ZB 2 rfl
 have HY0:∀ wv:World,Hold M none w wv KL→Blk wv gy 40 #[.string ⟨#[97]⟩,.string ⟨#[117]⟩,.bool false,.int .i64 2,.slice none 0 0,.bool false,.slice none 0 0,.slice none 0 0,.slice none 0 0,.slice none 0 0,.slice (some ⟨gi,0,none⟩) 1 1]:=fun wv h=>by rw [hKL] at h;exact h.ZB 1 rfl
 have HT0:∀ wv:World,Hold M none w wv KL→Ro wv (Mut M KL) (TgIn 3 (Yc gr ga ⟨#[110]⟩ 1 10 a)):=fun wv h=>by rw [hKL] at h ⊢;exact h.ro 3 rfl
 have HI0:∀ wv:World,Hold M none w wv KL→Ro wv (Mut M KL) (TgIn 3 (XZ gi)):=fun wv h=>by rw [hKL] at h ⊢;exact ZgX (h.get 0 rfl)
 have HX:=hid HX0
 have HY:=hid HY0
 have HTX:=hid HT0
 have HTI:=hid HI0
 rw [←hKL] at KF
 clear hKL HX0 HY0 HT0 HI0 K5
 refine wp_region_any (by kernel_rfl) ?_
 refine ZH 22 31 (KL) (spL [(10,TgS (Mut M KL) 1 [Yc gr ga ⟨#[110]⟩ 1 10 a]),(11,TeS (Mut M KL)),(12,IsV (.bool true)),(16,TgS (Mut M KL) 2 [Yc gr ga ⟨#[110]⟩ 1 10 a,XZ gi]),(17,TeS (Mut M KL)),(18,IsV (.bool false)),(26,fun u _=>∃ g:Nat,u=.slice (some ⟨g,0,none⟩) 3 3),(28,IsV (.int .i64 30))]) (by kernel_rfl) (by kernel_rfl) (by kernel_rfl) rfl ?_ (KF.drew) ?_
 ·exact Ze GN (Ze GM (Ze XN (Ze GN (Ze GM (Ze XN (Ze (fun _ _ _ _ h=>h) (Ze XN (ZF _))))))))
 simp only [zd,Act.put,List.getElem_toArray,List.getElem_cons_zero,List.getElem_cons_succ,zl]
 refine' dv rfl rfl rfl (fun wv HC=>?_) ?_;rotate_left
 ·obtain ⟨q0,q1,q2,q3,q4,q5,q6,q7,q8,q9,q10⟩:=eleven (HX.out _ HC);go_simp<;>rfl
 simp only [Act.put,zl]
 refine Ye #[.string ⟨#[97]⟩,.string ⟨#[117]⟩,.bool false,.int .i64 2,.slice none 0 0,.bool false,.slice none 0 0,.slice none 0 0,.slice (some ⟨gr,0,none⟩) 1 1,.slice none 0 0,.slice (some ⟨ga,0,none⟩) 1 1] 40 10 (TgS (Mut M KL) 1 [Yc gr ga ⟨#[110]⟩ 1 10 a]) (fun g=>.slice (some ⟨g,0,none⟩) 1 1) rfl rfl rfl rfl (fun wv=>?_) (fun wv HC _hrm hD hro=>?_) ?_
 ·go_simp<;>rfl
 ·exact ⟨_,1,rfl,Gx (l:=[Yc gr ga ⟨#[110]⟩ 1 10 a]) (hro _ HC.Zc) rfl (fun x hx=>by
   simp only [List.mem_cons,List.not_mem_nil,or_false] at hx
   subst hx
   exact QT (HTX.out _ HC) _)⟩
 rintro g10 wg HCg h10
 simp only [Act.put,zl]
 clear HCg h10
 refine Zq 11 (TeS (Mut M KL)) (f:=80) (args:=#[]) rfl rfl rfl rfl (fun wv=>?_) (fun wv HC hrm hD=>?_) ?_
 ·go_simp<;>rfl
 ·refine (Za8 wv HC.Zc).mono ?_
  rintro e w5 ⟨u,rfl,hu,b5⟩
  exact ⟨_,rfl,hu,HC.call b5,RM.below b5⟩
 rintro u wg HCg ⟨A11,c11,l11,rfl,-,-,-⟩
 simp only [Act.put,zl]
 clear HCg
 refine Zq 12 (IsV (.bool true)) (f:=35) (args:=#[.slice (some ⟨g10,0,none⟩) 1 1,.slice A11 3 c11,.int .i64 0]) rfl rfl rfl rfl (fun wv=>?_) (fun wv HC hrm hD=>?_) ?_
 ·go_simp<;>rfl
 ·have h1:TgS (Mut M KL) 1 [Yc gr ga ⟨#[110]⟩ 1 10 a] (.slice (some ⟨g10,0,none⟩) 1 1) wv:=ZV hD 1 rfl (by kernel_rfl) rfl rfl
  have h2:TeS (Mut M KL) (.slice A11 3 c11) wv:=ZV hD 2 rfl (by kernel_rfl) rfl rfl
  refine (Zbo HC.Zc h1 h2 HF1.out rfl rfl ⟨⟨by decide,by decide⟩,⟨by decide,by decide⟩⟩ HC2.out (by decide)).mono ?_
  rintro e w5 ⟨rfl,b5⟩
  exact ⟨_,rfl,rfl,HC.call b5,RM.below b5⟩
 rintro u wg HCg rfl
 simp only [Act.put,zl]
 clear HCg
 refine' dv rfl rfl rfl (fun wv HC=>?_) ?_;rotate_left
 · go_simp<;>rfl
 simp only [Act.put,zl]
 refine' dv rfl rfl rfl (fun wv HC=>?_) ?_;rotate_left
 ·obtain ⟨q0,q1,q2,q3,q4,q5,q6,q7,q8,q9,q10⟩:=eleven (HX.out _ HC);go_simp<;>rfl
 simp only [Act.put,zl]
 refine' dv rfl rfl rfl (fun wv HC=>?_) ?_;rotate_left
 ·obtain ⟨q0,q1,q2,q3,q4,q5,q6,q7,q8,q9,q10⟩:=eleven (HY.out _ HC);go_simp<;>rfl
 simp only [Act.put,zl]
 refine Ye #[.string ⟨#[97]⟩,.string ⟨#[117]⟩,.bool false,.int .i64 2,.slice none 0 0,.bool false,.slice none 0 0,.slice none 0 0,.slice (some ⟨gr,0,none⟩) 1 1,.slice none 0 0,.slice (some ⟨ga,0,none⟩) 1 1,.string ⟨#[97]⟩,.string ⟨#[117]⟩,.bool false,.int .i64 2,.slice none 0 0,.bool false,.slice none 0 0,.slice none 0 0,.slice none 0 0,.slice none 0 0,.slice (some ⟨gi,0,none⟩) 1 1] 40 16 (TgS (Mut M KL) 2 [Yc gr ga ⟨#[110]⟩ 1 10 a,XZ gi]) (fun g=>.slice (some ⟨g,0,none⟩) 2 2) rfl rfl rfl rfl (fun wv=>?_) (fun wv HC _hrm hD hro=>?_) ?_
 ·go_simp<;>rfl
 ·exact ⟨_,2,rfl,Gx (l:=[Yc gr ga ⟨#[110]⟩ 1 10 a,XZ gi]) (hro _ HC.Zc) rfl (fun x hx=>by
   simp only [List.mem_cons,List.not_mem_nil,or_false] at hx
   rcases hx with rfl|rfl
   ·exact QT (HTX.out _ HC) _
   ·exact QT (HTI.out _ HC) _)⟩
 rintro g16 wg HCg h16
 simp only [Act.put,zl]
 clear HCg h16
 refine Zq 17 (TeS (Mut M KL)) (f:=80) (args:=#[]) rfl rfl rfl rfl (fun wv=>?_) (fun wv HC hrm hD=>?_) ?_
 ·go_simp<;>rfl
 ·refine (Za8 wv HC.Zc).mono ?_
  rintro e w5 ⟨u,rfl,hu,b5⟩
  exact ⟨_,rfl,hu,HC.call b5,RM.below b5⟩
 rintro u wg HCg ⟨A17,c17,l17,rfl,-,-,-⟩
 simp only [Act.put,zl]
 clear HCg
 refine Zq 18 (IsV (.bool false)) (f:=35) (args:=#[.slice (some ⟨g16,0,none⟩) 2 2,.slice A17 3 c17,.int .i64 0]) rfl rfl rfl rfl (fun wv=>?_) (fun wv HC hrm hD=>?_) ?_
 ·go_simp<;>rfl
 ·have h1:TgS (Mut M KL) 2 [Yc gr ga ⟨#[110]⟩ 1 10 a,XZ gi] (.slice (some ⟨g16,0,none⟩) 2 2) wv:=ZV hD 7 rfl (by kernel_rfl) rfl rfl
  have h2:TeS (Mut M KL) (.slice A17 3 c17) wv:=ZV hD 8 rfl (by kernel_rfl) rfl rfl
  refine (Zbo HC.Zc h1 h2 HF2.out rfl rfl ⟨⟨by decide,by decide⟩,⟨by decide,by decide⟩⟩ HC3.out (by decide)).mono ?_
  rintro e w5 ⟨rfl,b5⟩
  exact ⟨_,rfl,rfl,HC.call b5,RM.below b5⟩
 rintro u wg HCg rfl
 simp only [Act.put,zl]
 clear HCg
 iterate 4
  refine' dv rfl rfl rfl (fun wv HC=>?_) ?_;rotate_left
  · go_simp<;>rfl
  simp only [Act.put,zl]
 refine' dv rfl rfl rfl (fun wv HC=>?_) ?_;rotate_left
 ·obtain ⟨q0,q1,q2,q3,q4,q5,q6,q7,q8,q9,q10⟩:=eleven (HX.out _ HC);go_simp<;>rfl
 simp only [Act.put,zl]
 refine' dv rfl rfl rfl (fun wv HC=>?_) ?_;rotate_left
 · go_simp<;>rfl
 simp only [Act.put,zl]
 refine' dv rfl rfl rfl (fun wv HC=>?_) ?_;rotate_left
 ·obtain ⟨q0,q1,q2,q3⟩:=Zd1 (HTX.out _ HC).now;go_simp<;>rfl
 simp only [Act.put,zl]
 refine Ye (madeCells (Value.agg #[.int .i64 0,.slice none 0 0]).cells (3 * 2)) 124 26 (fun u _=>∃ g:Nat,u=.slice (some ⟨g,0,none⟩) 3 3) (fun g=>.slice (some ⟨g,0,none⟩) 3 3) rfl rfl rfl rfl (fun wv=>?_) (fun wv HC _hrm hD hro=>?_) ?_
 ·have hm:(Instr.makeSlice 41 (.int .i64 3) (.int .i64 3)).run Tryz.prog wv=.ok (.slice (some ⟨wv.heap.size,0,none⟩) 3 3) (wv.alloc (.cells (madeCells (Value.agg #[.int .i64 0,.slice none 0 0]).cells (3 * 2)) 124)):=ZbJ Tryz.Zbs 3 (by omega) (by omega) wv
  go_simp
 ·exact ⟨_,rfl⟩
 rintro g26 wg HCg h26
 simp only [Act.put,zl]
 clear HCg h26
 refine' dv rfl rfl rfl (fun wv HC=>?_) ?_;rotate_left
 · go_simp<;>rfl
 simp only [Act.put,zl]
 refine Zq 28 (IsV (.int .i64 30)) (f:=41) (args:=#[.agg #[.string Yh,.string ⟨#[110]⟩,.int .i64 1,.int .i64 10],.agg #[.string ⟨#[]⟩,.slice none 0 0,.int .i64 0,.slice (some ⟨g26,0,none⟩) 3 3]]) rfl rfl rfl rfl (fun wv=>?_) (fun wv HC hrm hD=>?_) ?_
 ·go_simp<;>rfl
 ·refine (Zdc wv Yh ⟨#[110]⟩ ⟨#[]⟩ (some ⟨g26,0,none⟩)).mono ?_
  rintro e w5 ⟨rfl,b5⟩
  exact ⟨_,rfl,rfl,HC.call b5,RM.below b5⟩
 rintro u wg HCg rfl
 simp only [Act.put,zl]
 clear HCg
 iterate 2
  refine' dv rfl rfl rfl (fun wv HC=>?_) ?_;rotate_left
  · go_simp<;>rfl
  simp only [Act.put,zl]
 refine ZE ?_
 rintro wx2 HXE
 rintro hrm HG2
 clear HG2
 go_wp2_with fail
 go_ret
 exact ⟨by first|rfl|simp,HXE.below⟩
def bW:Nat→Nat
 | 0=>1
 | d+1=>2+12 * bW d
theorem Y0 {α:Type} {f:α→Nat} {b k:Nat} {l:List α} (h:∀ x∈l,f x≤b) (hk:l.length≤k):(l.map f).sum≤k * b:=by
 have h1:(l.map f).sum≤l.length * b:=by
  clear hk
  induction l with
  | nil=>simp
  | cons x l ih=>
   have h2:=h x (List.mem_cons_self ..)
   have h3:=ih fun y hy=>h y (List.mem_cons_of_mem _ hy)
   rw [List.map_cons,List.sum_cons,List.length_cons,Nat.succ_mul]
   omega
 exact Nat.le_trans h1 (Nat.mul_le_mul_right _ hk)
theorem X7:∀ {d:Nat} {e:Ex},ExGd d e→exW d e≤bW d
 | 0,_,h=>h.elim
 | d+1,e,⟨_,h4,h2,h3⟩=>by
  rw [VH]
  have a1:ZA d e.args≤3 * bW d:=Y0 (fun x hx=>X7 (h2 x hx)) h4.2.1
  have a2:Yt d e.sub≤1 * (1+9 * bW d):=Y0 (fun q hq=>by
   have b1:ZA d q.items≤8 * bW d:=Y0 (fun x hx=>X7 ((h3 q hq).2.2.1 x hx)) (h3 q hq).2.1.1
   have b2:ZA d q.wh≤1 * bW d:=Y0 (fun x hx=>X7 ((h3 q hq).2.2.2 x hx)) (h3 q hq).2.1.2
   unfold quW
   omega) h4.2.2
  unfold bW
  omega
theorem Zcl {d:Nat} {a:Ac} (h:AcGd d a):acW d a≤18+82 * bW d:=by
 have a1:rrW d a.rows.l≤8 * (1+8 * bW d):=Y0 (fun r hr=>by
  have b1:ZA d r.l≤8 * bW d:=Y0 (fun x hx=>X7 ((h.r.2.2 r hr).2.2 x hx)) (h.r.2.2 r hr).2.1
  omega) h.r.2.1
 have a2:YT d a.sets.l≤8 * (1+bW d):=Y0 (fun s hs=>by
  have:=X7 (h.s.2.2 s hs)
  omega) h.s.2.1
 have a3:Yt d a.qs.l≤1 * (1+9 * bW d):=Y0 (fun q hq=>by
  have b1:ZA d q.items≤8 * bW d:=Y0 (fun x hx=>X7 ((h.q.2.2 q hq).2.2.1 x hx)) (h.q.2.2 q hq).2.1.1
  have b2:ZA d q.wh≤1 * bW d:=Y0 (fun x hx=>X7 ((h.q.2.2 q hq).2.2.2 x hx)) (h.q.2.2 q hq).2.1.2
  unfold quW
  omega) h.q.2.1
 have a4:ZA d a.wh.l≤1 * bW d:=Y0 (fun x hx=>X7 (h.h.2.2 x hx)) h.h.2.1
 unfold acW
 omega
theorem ZcZ {d:Nat} {t:Tg} (h:TgGd d t):tgW d t≤72+329 * bW d:=by
 have a1:ZA d t.cond.l≤1 * bW d:=Y0 (fun x hx=>X7 (h.h.2.2 x hx)) h.h.2.1
 have a2:Xl d t.acts.l≤4 * (18+82 * bW d):=Y0 (fun a ha=>Zcl (h.a.2.2 a ha)) h.a.2.1
 unfold tgW
 omega
theorem Zbc {d:Nat}:∀ {l:List Ac},(∀ a∈l,AcGd d a)→(Zu l).length≤l.length * 8
 | [],_=>Nat.zero_le _
 | a::l,h=>by
  have ih:=Zbc (l:=l) fun x hx=>h x (List.mem_cons_of_mem _ hx)
  have h1:=(h a (List.mem_cons_self ..)).s.2.1
  unfold Zu at *
  rw [List.flatMap_cons,List.length_append,List.length_cons]
  split
  ·omega
  ·simp only [List.length_nil];omega
theorem AcIn.lens {d:Nat} {a:Ac} {w:World} (h:AcIn d a w):a.sets.l.length=a.sets.n∧a.wh.l.length=a.wh.n:=
 ⟨SlP.In.len h.2.2.1 (by omega) (fun _=>rfl),SlP.In.len h.2.2.2 (by omega) (fun _=>rfl)⟩
theorem ZfW {t:Tg} {w:World} (hi:TgIn 5 t w) (h:TgGd 5 t):TgFit 5 t:=by
 have n1:t.acts.l.length=t.acts.n:=SlP.In.len hi.2.2.2.2.2 (by omega) (fun _=>rfl)
 have n2:t.rank.l.length=t.rank.n:=SlP.In.len hi.2.2.2.1 (by omega) (fun _=>rfl)
 have h1:=h.a.2.1
 have h2:=h.r.2.1
 have h3:=Zbc h.a.2.2
 have h4:=ZcZ h
 have h5:bW 5=294074:=rfl
 refine ⟨by omega,by omega,by rw [h5] at h4;omega,fun a ha=>?_,by omega⟩
 have m1:=((hi.2.2.2.2.2).2 a ha).lens
 have m2:=(h.a.2.2 a ha).s.2.1
 have m3:=(h.a.2.2 a ha).h.2.1
 omega
theorem Zf4 {d d' :Nat} {t:Tg} {w:World} (h:TgIn d t w) (hd:d≤d'):TgIn d' t w:=
 ⟨h.1,h.2.1,h.2.2.1,h.2.2.2.1,⟨h.2.2.2.2.1.1,fun x hx=>(h.2.2.2.2.1.2 x hx).le hd⟩,h.2.2.2.2.2.1,fun a ha=>(h.2.2.2.2.2.2 a ha).le hd⟩
def LG (S:World→Prop) (v:Value):Prop:=∃ (dd n c:Nat) (A:Option Addr) (l:List Tg),v=.slice A n c∧n≤1000∧(∀ w2,S w2→TgsIn (dd+1) A n l w2)∧(∀ t∈l,TgFit (dd+1) t)∧∀ t∈l,∀ r∈t.rank.l,Y8 r
theorem ZdM {w:World} {A:Option Addr} {n:Nat} {ll:List Te} (h:TesIn A n ll w) (h3:Sto3 5 3 ll):(∀ x∈ll,x.n≤1000)∧∀ x∈ll,x.m≤1000000:=by
 refine ⟨fun x hx=>?_,fun x hx=>?_⟩
 ·have h1:=(RdC.Zw (h.2 x hx).1).len
  have h2:=(h3.ok x hx).2.1.sch.len
  have h4:x.tb.cs=x.cs:=rfl
  rw [h4] at h2
  omega
 ·have h1:=(h.2 x hx).2.len
  have h2:=(h3.ok x hx).2.2
  have h4:x.tb.rs.length=x.l.length:=List.length_map ..
  omega
theorem ZfE {w:World} {A:Option Addr} {n:Nat} {gl:List Tg} (h:TgsIn 5 A n gl w) (ho:TgsOk gl):(∀ t∈gl,TgFit 5 t)∧∀ t∈gl,∀ r∈t.rank.l,Y8 r:=
 ⟨fun t ht=>ZfW (h.2 t ht) (ho.2 t ht).1,fun t ht r hr=>(ho.2 t ht).1.r.2.2 r hr⟩
theorem ZfI {gr ga:Nat} {col:ByteArray} {lo hi:Int} {a:Ac} (h1:I64 lo) (h2:I64 hi) (hc:col.size≤2):∀ r∈(Yc gr ga col lo hi a).rank.l,Y8 r:=fun r hr=>by
 have hr:r∈[(⟨Yh,col,lo,hi⟩:Rk)]:=hr
 simp only [List.mem_cons,List.not_mem_nil,or_false] at hr
 subst hr
 exact ⟨⟨h1,h2⟩,show 1≤maxLen by unfold maxLen;omega,show col.size≤maxLen by unfold maxLen;omega⟩
end Go.Proofs.YtnbbllkbefagmaaGreatDoor
namespace Go.Proofs.YtnbbllkbefagmaaGreatDoor
open Go.RowKit
set_option linter.unusedVariables false
set_option linter.unusedSimpArgs false
theorem Zct {P:Program} {w:World} (t ty e:TypeId) (i:TypeInfo) (z:Value) (ht:P.underlying t=some (.slice e)) (hi:P.info? e=some i) (hz:i.zero=some z) (b:Addr) (n cap:Nat) (hle:n≤cap) (A:Option Addr) (c:Nat):
  (Builtin.append_ #[t,t] ty #[.slice (some b) n cap,.slice A 0 c]).run P w=.ok (.slice (some b) n cap) w:=by
 cases A<;>simp [Builtin.append_,run_underlying ht,sizeOf,typeInfo,zeroValue,hi,hz,Builtin.lenOf,Question.forced,Builtin.firstCells,loadCells,loadCellsFrom,storeCells,hle]
section
variable {P:Program} {M:Nat→Prop} {row:Option Nat} {w0 w1:World} {L:List Hp} {sp:SpW} {F:Act→Prop} {S0:Array Bool}
variable {ops:Array Oper} {o:Oper} {rest:List Oper} {a:Act} {k:Nat}
theorem ZeF {t e:TypeId} {size bytes:Nat} {z:Value} (hE:ElemT P t e size bytes z) (d:Tmp) (V:Value→World→Prop) (hS:S0.getD k false=false) (hw:Region.wanted o (yielded ops a.tmps)=true) (hd:o.dst=some d) (hsp:sp d=some V)
  (s x:Operand) (ho:o.op=.call { callee:=.builtin .append,args:=#[s,x],argTypes:=#[t,t] }) {b:Addr} {n cap:Nat} (hs:a.eval s=.slice (some b) n cap) (hle:n≤cap) {A:Option Addr} {c:Nat} (hx:a.eval x=.slice A 0 c)
  (hV:∀ w,Hold M row w0 w L→Z5 ops (GW sp) o a w→V (.slice (some b) n cap) w) (hn:Zn P ops (HC M row w0 w1 L) (GW sp) (RM (Mut M L)) S0 F (k+1) rest (a.put (some d) (.slice (some b) n cap))):Zn P ops (HC M row w0 w1 L) (GW sp) (RM (Mut M L)) S0 F k (o::rest) a:=
 ZdZ d V hS hw hd hsp _ (fun w _=>by
  obtain ⟨i0,hi1,hi2,hi3,hi4⟩:=info_parts hE.hi
  have hr:=Zct (P:=P) (w:=w) t o.type e i0 z hE.ht hi1 hi2 b n cap hle A c
  unfold execOp
  simp only [ho,resolve,invoke,builtin,Sem.run_bind,Sem.run_pure,Result.andThen_ok,List.map_toArray,List.map_cons,List.map_nil,hs,hx,hr]) hV hn
end
end Go.Proofs.YtnbbllkbefagmaaGreatDoor

import Derived.Test.YtnbbllkbefagmaaGreatDoorRkCtsSaidMAB
import Derived.Test.YtnbbllkbefagmaaGreatDoorRkCtsSaidMD
import Derived.IntWalk
import Derived.StillTailTactics
import Derived.Deep.RegionHeld3
import Derived.Test.YtnbbllkbefagmaaGreatDoorRkCtsSaidMF
import Derived.Deep.DeepCutAuto
import Derived.Test.YtnbbllkbefagmaaGreatDoorRkCtsSaidMS
namespace Go.Proofs.YtnbbllkbefagmaaGreatDoor
open Go.RowKit
set_option linter.unusedVariables false
set_option linter.unusedSimpArgs false
def Zb1 (w:World) (M:Nat→Prop) (nm:ByteArray) (cs:List Col) (e:Ending) (w' :World):Prop:=∃ (C:Option Addr) (q cap:Nat),e=.returned (.tuple #[.agg #[.string nm,.slice C q cap],.bool true])∧q=cs.length∧Ro w' M (ColsIn C q cs)∧Below w.heap.size w w'
set_option maxHeartbeats 2000000 in
theorem Ze6 (w:World) (x:Te) (b:Nat) (s:ByteArray) (t:TypeId) (hb:w.heap[b]? =some (.cells #[.string s] t (0,0))):
  Calls Tryz.prog 111 #[.agg #[.string x.nm,.slice x.A x.n x.c,.int .i64 x.nx,.slice x.B x.m x.d],.pointer (some ⟨b,0,none⟩)] w fun e w' =>e=.returned (.bool (x.nm.toList==s.toList))∧Below w.heap.size w w' :=by
 have hbl:b<w.heap.size:=Blk.lt (t:=t) (cs:=#[.string s]) hb
 have K0:=((Hold.YD w).JL (g:=b) (t:=t) (cs:=#[.string s]) (fun w2 h1 h2=>(h2 b hbl (by simp [Mut,Zb])).trans hb)).Za #[.string x.nm,.slice x.A x.n x.c,.int .i64 x.nx,.slice x.B x.m x.d] 67
 have F0:=K0.facts
 simp only [zg] at F0
 go_enter Tryz.func111,Tryz.ntmps111
 go_wp2_with fail
 go_ret
 exact ⟨rfl,K0.below⟩
set_option maxHeartbeats 2000000 in
set_option maxRecDepth 100000 in
theorem Zbj (M:Nat→Prop) (w:World) (hM:∀ b,M b→b<w.heap.size) (A:Option Addr) (n c:Nat) (l:List Te) (b:Nat) (s:ByteArray) (t:TypeId) (hB:Ro w M (fun w=>w.heap[b]? =some (.cells #[.string s] t (0,0)))) (hD:Ro w M (TesIn A n l)) (hn:n≤4611686018427387904):
  Calls Tryz.prog 88 #[.slice A n c,.func (.func 111) #[] #[.pointer (some ⟨b,0,none⟩)]] w fun e w' =>e=.returned (.int .i64 (YF (l.map Te.tb) s))∧Below w.heap.size w w' :=by
 have HL:=hid hD.now.len
 have K0:=(((Hold.start M w hM).add (hB.less (by simp [Mut]))).add (hD.less (by simp [Mut,Hp.foot])))
 go_enter Tryz.func88,Tryz.ntmps88
 go_wp2_with fail
 go_loopw [8] (fun iv wr=>∃ (k:Nat),k≤n∧iv=.int .i64 k∧Hid (YF (l.map Te.tb) s=ZN (fun t=>t.nm.toList==s.toList) k ((l.map Te.tb).drop k))∧Hold M none w wr [.ro (TesIn A n l),.ro (fun w=>w.heap[b]? =some (.cells #[.string s] t (0,0)))]) (fun iv _=>n - (intOf iv).toNat)
 case atStart=>exact ⟨0,by omega,rfl,hid rfl,K0⟩
 case round=>
  clear K0
  obtain ⟨k,hk,rfl,HC,H⟩:=hrel
  by_cases hlt:k<n
  ·have hd:decide ((k:Int)<(n:Int))=true:=by simp;omega
   have i0:(0:Int)≤(k:Int):=by omega
   have i1:(k:Int)<(n:Int):=by omega
   obtain ⟨x,hx⟩:=Z4 HL.out hlt
   obtain ⟨g,o,rfl,hb,c0,c1,c2,c3,-⟩:=(H.ro 0 rfl).now.at_ hx
   have HX:=hid (JI hx)
   clear hx
   go_wp2_with fail
   refine (Ze6 wr x b s t (H.ro 1 rfl).now).mono ?_
   rintro e w1 ⟨rfl,b1⟩
   have K1:=H.call b1
   clear H b1
   cases hz:(x.nm.toList==s.toList)
   ·have HN:=hid (Uk HC.out HX.out hz)
    clear hz
    go_wp2_with fail
    go_roundw
    case rel=>exact ⟨k+1,by omega,by go_num,HN,K1⟩
    case measure=>simp [intOf];omega
   ·have HN:=hid (show YF (l.map Te.tb) s=(k:Int) from VL HC.out HX.out hz)
    clear hz
    go_wp2_with fail
    go_ret
    exact ⟨by rw [HN.out]<;>rfl,K1.below⟩
  ·obtain rfl:n=k:=by omega
   have hd:decide ((n:Int)<(n:Int))=false:=by simp
   have HN:=hid (show YF (l.map Te.tb) s=-1 from VD HC.out (by rw [List.length_map,HL.out];exact Nat.le_refl _))
   go_wp2_with fail
   go_ret
   exact ⟨by rw [HN.out]<;>rfl,H.below⟩
set_option maxHeartbeats 2000000 in
set_option maxRecDepth 100000 in
theorem ZgY (M:Nat→Prop) (w:World) (hM:∀ b,M b→b<w.heap.size) (A:Option Addr) (n c:Nat) (l:List Te) (s:ByteArray) (hD:Ro w M (TesIn A n l)) (hn:n≤4611686018427387904) (hf:YF (l.map Te.tb) s=-1):
  Calls Tryz.prog 48 #[.slice A n c,.string s] w fun e w' =>e=.returned (.tuple #[.agg #[.string ⟨#[]⟩,.slice none 0 0],.bool false])∧Below w.heap.size w w' :=by
 have K0:=(((Hold.start M w hM).add (hD.less (by simp [Mut]))).Za #[.string s] 9).alloc #[.string ⟨#[]⟩,.slice none 0 0] 49
 simp only [World.size_alloc] at K0
 have F0:=K0.facts
 simp only [zg] at F0
 have hce:=Zbj _ _ K0.Zc A n c l w.heap.size s 9 (K0.get 1 rfl) (K0.ro 2 rfl) hn
 rw [hf] at hce
 go_enter Tryz.func48,Tryz.ntmps48
 go_wp2_with fail
 refine hce.mono ?_
 rintro e w1 ⟨rfl,b1⟩
 have K1:=K0.call b1
 clear K0 F0 hce b1
 have F1:=K1.facts
 simp only [zg] at F1
 have K2:=(K1.store 0 rfl 0 (.string ⟨#[]⟩)).store 0 rfl 1 (.slice none 0 0)
 simp only [zl] at K2
 have F2:=K2.facts
 simp only [zg] at F2
 have HB:=hid K2.below
 clear K1 K2
 go_wp2_with fail
 exact bodyPost_ret (v:=.tuple #[.agg #[.string ⟨#[]⟩,.slice none 0 0],.bool false]) (by simp [results,Tryz.results48,go_sem,F2]) rfl ⟨rfl,HB.out⟩
set_option maxHeartbeats 2000000 in
set_option maxRecDepth 100000 in
theorem ZbW (M:Nat→Prop) (w:World) (hM:∀ b,M b→b<w.heap.size) (A:Option Addr) (n c:Nat) (l:List Te) (s:ByteArray) (hD:Ro w M (TesIn A n l)) (hn:n≤4611686018427387904) (k:Nat) (x:Te) (hx:l[k]? =some x) (hf:YF (l.map Te.tb) s=(k:Int)) (hxn:x.n≤4398046511104):
  Calls Tryz.prog 48 #[.slice A n c,.string s] w fun e w' =>Zb1 w M x.nm x.cs e w' :=by
 have K0:=(((Hold.start M w hM).add (hD.less (by simp [Mut]))).Za #[.string s] 9).alloc #[.string ⟨#[]⟩,.slice none 0 0] 49
 simp only [World.size_alloc] at K0
 have F0:=K0.facts
 simp only [zg] at F0
 have hce:=Zbj _ _ K0.Zc A n c l w.heap.size s 9 (K0.get 1 rfl) (K0.ro 2 rfl) hn
 rw [hf] at hce
 have hkn:k<n:=by rw [←hD.now.len];exact (List.getElem?_eq_some_iff.1 hx).1
 have HX:=hid hx
 clear hx hf
 go_enter Tryz.func48,Tryz.ntmps48
 go_wp2_with fail
 refine hce.mono ?_
 rintro e w1 ⟨rfl,b1⟩
 have KA:=K0.call b1
 clear K0 F0 hce b1 hD
 obtain ⟨b,o,rfl,hb,c0,c1,-,-,-⟩:=(KA.ro 2 rfl).now.at_ HX.out
 have KB:=(KA.add (S:=ColsIn x.A x.n x.cs) ((KA.ro 2 rfl).imp fun w2 h2=>(h2.2 x (List.mem_of_getElem? HX.out)).1)).alloc #[.string x.nm,.slice x.A x.n x.c] 49
 have K1:=KB
 have F1:=K1.facts
 simp only [zg] at F1
 clear KA K1
 obtain ⟨xnm,xA,xn,xc,xcs,xnx,xB,xm,xd,xl⟩:=x
 go_wp2_with fail
 refine (Zcj _ _ KB.Zc xA xn xc xcs (KB.ro 1 rfl) hxn).mono ?_
 rintro e w2 ⟨C,q,cap,rfl,hq,hqc,hcap,rC,b2⟩
 have K2:=(KB.call b2).add rC
 clear F1 KB b2 rC c0 c1
 have HQ:=hid hq
 clear hq
 obtain ⟨g,hg⟩:∃ g,g=w1.heap.size:=⟨_,rfl⟩
 rw [←hg] at K2 ⊢
 have HG:=hid hg
 clear hg
 have F2:=K2.facts
 simp only [zg] at F2
 have K3:=K2.store 1 rfl 1 (.slice C q cap)
 simp only [zl] at K3
 have F3:=K3.facts
 simp only [zg] at F3
 have K4:=(K3.store 3 rfl 0 (.string xnm)).store 3 rfl 1 (.slice C q cap)
 simp only [zl] at K4
 have F4:=K4.facts
 simp only [zg] at F4
 have HR:=hid ((K4.ro 0 rfl).less zm)
 have HB:=hid K4.below
 clear K2 K3 K4
 go_wp2_with fail
 refine bodyPost_ret (v:=.tuple #[.agg #[.string xnm,.slice C q cap],.bool true]) ?_ rfl ?_
 ·clear HR HB
  simp [results,Tryz.results48,go_sem,F4]
 ·exact ⟨C,q,cap,rfl,HQ.out,HR.out,HB.out⟩
def ZM (l:List Te):List (ByteArray × List Col):=l.map fun x=>(x.nm,x.cs)
def RksIn (A:Option Addr) (n:Nat) (l:List Rk) (w:World):Prop:=SlR 4 A n (l.flatMap Rk.cells) w∧∀ x∈l,True
theorem RksIn.len {A:Option Addr} {n:Nat} {l:List Rk} {w:World} (h:RksIn A n l w):l.length=n:=SlP.In.len (s:=⟨A,n,0,l⟩) (k:=4) (cel:=Rk.cells) (P:=fun _ _=>True) h (by omega) (fun _=>rfl)
theorem RksIn.at_ {w:World} {A:Option Addr} {n:Nat} {l:List Rk} (h:RksIn A n l w) {k:Nat} {x:Rk} (hx:l[k]? =some x):
  ∃ b o,A=some ⟨b,o,none⟩∧b<w.heap.size∧(∀ j u,j<4→x.cells[j]? =some u→w.cell? ⟨b,o+k * 4+j,none⟩=some u)∧True:=SlP.In.at_ (s:=⟨A,n,0,l⟩) (k:=4) (cel:=Rk.cells) (P:=fun _ _=>True) h (by omega) (fun _=>rfl) hx
theorem TgIn.ranks {d:Nat} {t:Tg} {w:World} (h:TgIn d t w):RksIn t.rank.A t.rank.n t.rank.l w:=h.2.2.2.1
def JH (l:List Tg) (i:Int):Prop:=i<0∨∃ k:Nat,i=k∧(l.length≤k∨∃ t,l[k]? =some t∧(t.before=true∨t.rank.l=[]))
theorem Wt {d:Nat} {l:List Tg} {tabs:List (ByteArray × List Col)} {i:Int} (h:JH l i):Yn d l tabs i=false:=by
 unfold Yn
 rcases h with h|⟨k,rfl,h⟩
 ·rw [if_neg (by omega)]
 ·rw [if_pos (by omega)]
  rcases h with h|⟨t,ht,h⟩
  ·rw [List.getElem?_eq_none (by simpa using h)]
  ·rw [show ((k:Int)).toNat=k by simp,ht]
   simp only
   by_cases hb:t.before=true
   ·rw [if_pos hb]
   ·rw [if_neg hb]
    rcases h with h|h
    ·exact absurd h hb
    ·rw [h]
set_option maxRecDepth 100000 in
set_option maxHeartbeats 2000000 in
theorem Zf6 (M:Nat→Prop) (w:World) (hM:∀ b,M b→b<w.heap.size) (A:Option Addr) (n c:Nat) (l:List Tg) (B:Option Addr) (m e:Nat) (tes:List Te) (i:Int) (d:Nat) (ht:Ro w M (TgsIn (d+1) A n l)) (hn:n≤4611686018427387904) (h:JH l i):Calls Tryz.prog 35 #[.slice A n c,.slice B m e,.int .i64 i] w fun e w' =>e=.returned (.bool false)∧Below w.heap.size w w' :=by
 have K0:=(Hold.start M w hM).add (ht.less (by simp [Mut]))
 have hB:=fun q=>(K0.drewN q).below
 have HB0:=hid K0.below
 have HL:=hid ht.now.len
 rcases h with h|⟨k,rfl,h⟩
 ·go_enter Tryz.func35,Tryz.ntmps35
  go_wp2_with fail
  all_goals first
   | (exfalso;omega)
   | (go_ret;exact ⟨by first|rfl|simp,HB0.out⟩)
 ·rcases h with h|⟨⟨tname,ttab,tbef,tev,⟨cA,cn,cc,cl⟩,teach,⟨pA,pn,pc,pl⟩,⟨fA,fn,fc,fl⟩,⟨kA,kn,kc,kl⟩,⟨oA,on,oc,ol⟩,⟨uA,un,uc,ul⟩⟩,hc,h⟩
  ·have h2:n≤k:=by rw [←HL.out];exact h
   go_enter Tryz.func35,Tryz.ntmps35
   go_wp2_with fail
   all_goals first
    | (exfalso;omega)
    | (go_ret;exact ⟨by first|rfl|simp,HB0.out⟩)
  ·have hk:k<n:=by rw [←HL.out];exact (List.getElem?_eq_some_iff.1 hc).1
   have hkr:=(ht.now.2 _ (List.mem_of_getElem? hc)).ranks.len
   obtain ⟨b,o,rfl,hb,hcl,-⟩:=ht.now.at_ hc
   have c2:=hcl 2 _ (by omega) rfl
   have c8:=hcl 8 _ (by omega) rfl
   simp only [SlP.v] at c8 hkr h
   clear hcl hc
   cases hbf:tbef
   ·subst hbf
    have h0:kl=[]:=by simpa using h
    subst h0
    obtain rfl:0=kn:=hkr
    clear h
    go_enter Tryz.func35,Tryz.ntmps35
    go_wp2_with fail
    all_goals first
     | (exfalso;omega)
     | (go_ret;exact ⟨by first|rfl|simp,HB0.out⟩)
   ·subst hbf
    clear h
    go_enter Tryz.func35,Tryz.ntmps35
    go_wp2_with fail
    all_goals first
     | (exfalso;omega)
     | (go_ret;exact ⟨by first|rfl|simp,HB0.out⟩)
theorem TgsIn.c11 {d n b o k:Nat} {l:List Tg} {w:World} (h:TgsIn d (some ⟨b,o,none⟩) n l w) {x:Tg} (hx:l[k]? =some x):w.cell? ⟨b,o+k * 11,none⟩=some (.string x.name)∧w.cell? ⟨b,o+k * 11+1,none⟩=some (.string x.tab)∧w.cell? ⟨b,o+k * 11+2,none⟩=some (.bool x.before)∧w.cell? ⟨b,o+k * 11+3,none⟩=some (.int .i64 x.event)∧w.cell? ⟨b,o+k * 11+4,none⟩=some (.slice x.cols.A x.cols.n x.cols.c)∧w.cell? ⟨b,o+k * 11+5,none⟩=some (.bool x.each)∧w.cell? ⟨b,o+k * 11+6,none⟩=some (.slice x.prec.A x.prec.n x.prec.c)∧w.cell? ⟨b,o+k * 11+7,none⟩=some (.slice x.foll.A x.foll.n x.foll.c)∧w.cell? ⟨b,o+k * 11+8,none⟩=some (.slice x.rank.A x.rank.n x.rank.c)∧w.cell? ⟨b,o+k * 11+9,none⟩=some (.slice x.cond.A x.cond.n x.cond.c)∧w.cell? ⟨b,o+k * 11+10,none⟩=some (.slice x.acts.A x.acts.n x.acts.c):=by
 obtain ⟨b2,o2,e,hb,hcl,-⟩:=h.at_ hx
 obtain ⟨rfl,rfl⟩:b=b2∧o=o2:=by injection e with e;injection e with e1 e2;exact ⟨e1,e2⟩
 exact ⟨hcl 0 _ (by omega) rfl,hcl 1 _ (by omega) rfl,hcl 2 _ (by omega) rfl,hcl 3 _ (by omega) rfl,hcl 4 _ (by omega) rfl,hcl 5 _ (by omega) rfl,hcl 6 _ (by omega) rfl,hcl 7 _ (by omega) rfl,hcl 8 _ (by omega) rfl,hcl 9 _ (by omega) rfl,hcl 10 _ (by omega) rfl⟩
theorem zJ {α:Type} {p:α→Bool} {l:List α} (h:l.find? p=none):Zr p l=-1:=by
 have:∀ k,ZN p k l=-1:=by
  induction l with
  | nil=>intro k;rfl
  | cons a l ih=>
   intro k
   rw [List.find?_cons] at h
   split at h
   ·cases h
   ·rename_i hp
    rw [ZN]
    simp only [hp]
    exact ih h (k+1)
 exact this 0
theorem Za5 {α:Type} {p:α→Bool} {x:α}:∀ {l:List α} (k:Nat),l.find? p=some x→∃ j:Nat,ZN p k l=((k+j:Nat):Int)∧l[j]? =some x
 | [],_,h=>nomatch h
 | a::l,k,h=>by
  rw [List.find?_cons] at h
  split at h
  ·rename_i hp
   refine ⟨0,?_,by simpa using h⟩
   rw [ZN]
   simp [hp]
  ·rename_i hp
   obtain ⟨j,h1,h2⟩:=Za5 (k+1) h
   refine ⟨j+1,?_,by simpa using h2⟩
   rw [ZN]
   simp only [hp]
   rw [show k+(j+1)=k+1+j by omega]
   exact h1
theorem zN {α:Type} {p:α→Bool} {x:α} {l:List α} (h:l.find? p=some x):∃ j:Nat,Zr p l=(j:Int)∧l[j]? =some x:=by
 obtain ⟨j,h1,h2⟩:=Za5 0 h
 exact ⟨j,by rw [Zr,h1];simp,h2⟩
theorem U0 {a b:Int} (h:a≤b) (ha:I64 a) (hb:I64 b):IntKind.u64.wrap (IntKind.u64.wrap b - IntKind.u64.wrap a)=b - a:=by
 obtain ⟨a1,a2⟩:=ha
 obtain ⟨b1,b2⟩:=hb
 have e:∀ z:Int,IntKind.u64.wrap z=z % 18446744073709551616:=fun z=>by simp [IntKind.wrap,IntKind.bits,IntKind.signed]
 rw [e,e,e]
 omega
theorem UU {w:World} {g:Nat} {t:TypeId} {a b c d:Value} {P:Prop} (h:Blk w g t #[a,b,c,d]) (hp:P):w.cell? ⟨g,0,none⟩=some a∧w.cell? ⟨g,1,none⟩=some b∧w.cell? ⟨g,2,none⟩=some c∧w.cell? ⟨g,3,none⟩=some d∧P:=⟨h.cell 0,h.cell 1,h.cell 2,h.cell 3,hp⟩
theorem Zbf (tes:List Te) (s:ByteArray):((ZM tes).find? (fun x=>decide (x.1=s))=none∧YF (tes.map Te.tb) s=-1)∨∃ (k:Nat) (x:Te),tes[k]? =some x∧(ZM tes).find? (fun x=>decide (x.1=s))=some (x.nm,x.cs)∧YF (tes.map Te.tb) s=(k:Int):=by
 have e1:(ZM tes).find? (fun x=>decide (x.1=s))=(tes.find? (fun x=>decide (x.nm=s))).map (fun x=>(x.nm,x.cs)):=by unfold ZM;rw [List.find?_map];rfl
 have e2:(tes.map Te.tb).find? (fun t=>t.nm.toList==s.toList)=(tes.find? (fun x=>decide (x.nm=s))).map Te.tb:=by
  rw [List.find?_map]
  congr 1
  congr 1
  funext x
  exact GV x.nm s
 cases hf:tes.find? (fun x=>decide (x.nm=s)) with
 | none=>
  left
  rw [hf] at e1 e2
  exact ⟨e1,zJ e2⟩
 | some x=>
  right
  rw [hf] at e1 e2
  obtain ⟨j,h1,h2⟩:=zN e2
  rw [List.getElem?_map] at h2
  cases hj:tes[j]? with
  | none=>rw [hj] at h2;cases h2
  | some y=>
   rw [hj] at h2
   have h3:y.tb=x.tb:=by simpa using h2
   have h4:(y.nm,y.cs)=(x.nm,x.cs):=by
    have ha:y.tb.nm=x.tb.nm:=by rw [h3]
    have hb:y.tb.cs=x.tb.cs:=by rw [h3]
    exact Prod.ext ha hb
   exact ⟨j,y,hj,by rw [e1];simp [h4],h1⟩
theorem GU (cs:List Col) (c:ByteArray):(Xn cs c=false∧Zr (named c) cs=-1)∨∃ (j:Nat) (x:Col),cs[j]? =some x∧Zr (named c) cs=(j:Int)∧Xn cs c=(decide (x.ty=1)&&!x.key):=by
 have e:(fun x:Col=>decide (x.name=c))=named c:=by funext x;exact (GV x.name c).symm
 unfold Xn
 rw [e]
 cases hf:cs.find? (named c) with
 | none=>exact .inl ⟨rfl,zJ hf⟩
 | some x=>
  obtain ⟨j,h1,h2⟩:=zN hf
  exact .inr ⟨j,x,h2,h1,rfl⟩
set_option maxRecDepth 100000 in
set_option maxHeartbeats 8000000 in
theorem ZaO (M:Nat→Prop) (w:World) (hM:∀ b,M b→b<w.heap.size) (A:Option Addr) (n c:Nat) (l:List Tg) (B:Option Addr) (m e:Nat) (tes:List Te) (k:Nat) (t:Tg) (r:Rk) (rs:List Rk) (d:Nat) (ht:Ro w M (TgsIn (d+1) A n l)) (hD:Ro w M (TesIn B m tes)) (hn:n≤4611686018427387904) (hm:m≤4611686018427387904) (hok:∀ t∈l,TgFit (d+1) t) (hcol:∀ x∈tes,x.n≤4398046511104) (hk:l[k]? =some t) (hb:t.before=false) (hr:t.rank.l=r::rs) (hI:I64 r.lo∧I64 r.hi):
  Calls Tryz.prog 35 #[.slice A n c,.slice B m e,.int .i64 k] w fun e w' =>e=.returned (.bool (Ws (d+1) l (ZM tes) t r))∧Below w.heap.size w w' :=by
 have HRK:=hid (show Ws (d+1) l (ZM tes) t r=((match (ZM tes).find? (fun x=>decide (x.1=r.tab)) with|some x=>Xn x.2 r.col|none=>false)&&(decide (r.lo≤r.hi)&&decide (r.hi - r.lo≤1048576))&&YO (d+1) t r&&YG l r) from rfl)
 generalize Ws (d+1) l (ZM tes) t r=RK at *
 have hfit:=hok t (List.mem_of_getElem? hk)
 obtain ⟨tname,ttab,tbef,tev,⟨cA,cn,cc,cl⟩,teach,⟨pA,pn,pc,pl⟩,⟨fA,fn,fc,fl⟩,⟨kA,kn,kc,kl⟩,⟨oA,on,oc,ol⟩,⟨uA,un,uc,ul⟩⟩:=t
 obtain ⟨rtab,rcol,rlo,rhi⟩:=r
 simp only at hb hr hI HRK
 subst hb
 subst hr
 have hkn:k<n:=by rw [←ht.now.len];exact (List.getElem?_eq_some_iff.1 hk).1
 have hrn:rs.length+1=kn:=by have:=(ht.now.2 _ (List.mem_of_getElem? hk)).ranks.len;simpa using this
 have hkn0:0<kn:=by omega
 have hkn1:¬((kn:Int)=0):=by omega
 have hkn2:((kn:Int)==0)=false:=by simpa using hkn1
 have hd0:decide ((k:Int)<0)=false:=by simp
 have hd1:decide (n≤k)=false:=by simp;omega
 have hd2:decide ((n:Int)≤(k:Int))=false:=by simp;omega
 have hTR:Ro w M (RksIn kA kn (⟨rtab,rcol,rlo,rhi⟩::rs)):=ht.imp fun w2 h2=>(h2.2 _ (List.mem_of_getElem? hk)).ranks
 have KS:=((Hold.start M w hM).add (hD.less (by simp [Mut]))).add (ht.less (by simp [Mut,Hp.foot]))
 obtain ⟨b,o,rfl,hb,hcl,-⟩:=ht.now.at_ hk
 have c2:=hcl 2 _ (by omega) rfl
 have c8:=hcl 8 _ (by omega) rfl
 simp only [SlP.v] at c8
 obtain ⟨b2,o2,rfl,hb2,hcr,-⟩:=hTR.now.at_ (k:=0) (x:=⟨rtab,rcol,rlo,rhi⟩) rfl
 have r0:=hcr 0 _ (by omega) rfl
 have r1:=hcr 1 _ (by omega) rfl
 have r2:=hcr 2 _ (by omega) rfl
 have r3:=hcr 3 _ (by omega) rfl
 simp only [Nat.zero_mul,Nat.add_zero] at r0 r1 r2 r3
 have HKL:=hid hk
 have HOK:=hid hok
 have HFIT:=hid hfit
 clear hcl hcr hTR ht hk hrn hok hfit
 have K0:=KS.Za #[.string rtab,.string rcol,.int .i64 rlo,.int .i64 rhi] 85
 have F0:=K0.facts
 simp only [zg] at F0
 rcases Zbf tes rtab with ⟨hf,hs⟩|⟨q,x,hx,hf,hs⟩
 ·have hRK:RK=false:=by rw [HRK.out,hf];rfl
  subst hRK
  clear HRK hf
  go_enter Tryz.func35,Tryz.ntmps35
  go_wp2_with fail
  refine (ZgY _ _ K0.Zc B m e tes rtab (K0.ro 2 rfl) hm hs).mono ?_
  rintro e w1 ⟨rfl,b1⟩
  have K1:=(K0.call b1).Za #[.string ⟨#[]⟩,.slice none 0 0] 49
  clear K0 F0 b1 hs
  have F1:=K1.facts
  simp only [zg] at F1
  go_wp2_with fail
  refine (Qo Zb _ (fun b hb=>hb.elim) ⟨#[]⟩ none 0 0 [] rcol (fun _ _ _=>ZR 4 _) (by omega)).mono ?_
  rintro e w2 ⟨rfl,b2⟩
  have K2:=K1.call b2
  go_wp2_with fail
  go_ret
  exact ⟨by first|rfl|simp,K2.below⟩
 ·have hxn:=hcol x (List.mem_of_getElem? hx)
  have hRK:=hid (show RK=(Xn x.cs rcol&&(decide (rlo≤rhi)&&decide (rhi - rlo≤1048576))&&YO (d+1) ⟨tname,ttab,false,tev,⟨cA,cn,cc,cl⟩,teach,⟨pA,pn,pc,pl⟩,⟨fA,fn,fc,fl⟩,⟨some ⟨b2,o2,none⟩,kn,kc,⟨rtab,rcol,rlo,rhi⟩::rs⟩,⟨oA,on,oc,ol⟩,⟨uA,un,uc,ul⟩⟩ ⟨rtab,rcol,rlo,rhi⟩&&YG l ⟨rtab,rcol,rlo,rhi⟩) by rw [HRK.out,hf])
  clear HRK hf
  go_enter Tryz.func35,Tryz.ntmps35
  go_wp2_with fail
  refine (ZbW _ _ K0.Zc B m e tes rtab (K0.ro 2 rfl) hm q x hx hs hxn).mono ?_
  rintro e w1 ⟨C,q2,cap,rfl,hq2,rC,b1⟩
  have K1:=((K0.call b1).add rC).Za #[.string x.nm,.slice C q2 cap] 49
  have HQ2:=hid hq2
  have hq3:q2≤4398046511104:=by rw [hq2,(RdC.Zw ((KS.ro 1 rfl).now.2 x (List.mem_of_getElem? hx)).1).len];exact hxn
  clear K0 F0 b1 rC hs hq2 c2 c8 r0 r1 r2 r3 hb2 hb hx
  have F1:=K1.facts
  simp only [zg] at F1
  have hfin:=hid (show ∀ z:Bool,Zr (named rcol) x.cs=Zr (named rcol) x.cs from fun _=>rfl)
  clear hfin
  have hce:=Qo _ _ K1.Zc x.nm C q2 cap x.cs rcol (K1.ro 1 rfl) (by omega)
  go_wp2_with fail
  rcases GU x.cs rcol with ⟨hg,hj⟩|⟨j,col,hcj,hj,hg⟩
  ·have hRK2:RK=false:=by rw [hRK.out,hg];simp
   subst hRK2
   rw [hj] at hce
   clear hRK hg hj
   refine hce.mono ?_
   rintro e w2 ⟨rfl,b2'⟩
   have K2:=K1.call b2'
   clear K1 F1 hce b2'
   have F2:=K2.facts
   simp only [zg] at F2
   go_wp2_with fail
   go_ret
   exact ⟨by first|rfl|simp,K2.below⟩
  ·rw [hj] at hce
   have hjq:j<q2:=by rw [HQ2.out];exact (List.getElem?_eq_some_iff.1 hcj).1
   refine hce.mono ?_
   rintro e w2 ⟨rfl,b2'⟩
   have K2:=K1.call b2'
   clear K1 F1 hce b2' hj
   have F2:=K2.facts
   simp only [zg] at F2
   obtain ⟨b4,o4,rfl,hb4,x0,x1,x2,x3⟩:=(RdC.Zw (K2.ro 1 rfl).now).at_ hcj
   obtain ⟨cnm,cty,cnn,ckey⟩:=col
   simp only at hg x0 x1 x2 x3
   have hd3:decide ((j:Int)<0)=false:=by simp
   by_cases h1:cty=1
   ·subst h1
    cases ckey
    ·by_cases h2:rlo≤rhi
     ·have h2b:decide (rhi<rlo)=false:=by simp;omega
      have hu:=U0 h2 hI.1 hI.2
      by_cases h3:rhi - rlo≤1048576
      ·have hRK2:=hid (show RK=(YO (d+1) ⟨tname,ttab,false,tev,⟨cA,cn,cc,cl⟩,teach,⟨pA,pn,pc,pl⟩,⟨fA,fn,fc,fl⟩,⟨some ⟨b2,o2,none⟩,kn,kc,⟨rtab,rcol,rlo,rhi⟩::rs⟩,⟨oA,on,oc,ol⟩,⟨uA,un,uc,ul⟩⟩ ⟨rtab,rcol,rlo,rhi⟩&&YG l ⟨rtab,rcol,rlo,rhi⟩) by rw [hRK.out,hg];simp [h2,h3])
       clear hRK hg
       have hown:=fun (M:Nat→Prop) (w:World) (hM:∀ b,M b→b<w.heap.size) (ha:Ro w M (TgsIn (d+1) (some ⟨b,o,none⟩) n l))=>ZdP M w hM ⟨tname,ttab,false,tev,⟨cA,cn,cc,cl⟩,teach,⟨pA,pn,pc,pl⟩,⟨fA,fn,fc,fl⟩,⟨some ⟨b2,o2,none⟩,kn,kc,⟨rtab,rcol,rlo,rhi⟩::rs⟩,⟨oA,on,oc,ol⟩,⟨uA,un,uc,ul⟩⟩ ⟨rtab,rcol,rlo,rhi⟩ d (ha.imp fun w2 h2=>(h2.2 _ (List.mem_of_getElem? HKL.out)).parts.2) (Nat.le_trans HFIT.out.n (by decide)) (fun a ha=>⟨Nat.le_trans (HFIT.out.a a ha).1 (by decide),(HFIT.out.a a ha).2⟩)
       have hresp:=fun (M:Nat→Prop) (w:World) (hM:∀ b,M b→b<w.heap.size) (ha:Ro w M (TgsIn (d+1) (some ⟨b,o,none⟩) n l))=>Zg9 M w hM (some ⟨b,o,none⟩) n c l ⟨rtab,rcol,rlo,rhi⟩ d ha hn HOK.out
       simp only [Tg.val,Rk.val] at hown hresp
       generalize YG l ⟨rtab,rcol,rlo,rhi⟩=RB at *
       cases hO:YO (d+1) ⟨tname,ttab,false,tev,⟨cA,cn,cc,cl⟩,teach,⟨pA,pn,pc,pl⟩,⟨fA,fn,fc,fl⟩,⟨some ⟨b2,o2,none⟩,kn,kc,⟨rtab,rcol,rlo,rhi⟩::rs⟩,⟨oA,on,oc,ol⟩,⟨uA,un,uc,ul⟩⟩ ⟨rtab,rcol,rlo,rhi⟩
       ·rw [hO] at hown hRK2
        have hRK3:RK=false:=by rw [hRK2.out];rfl
        subst hRK3
        have hc5:=hown _ _ K2.drew.Zc (K2.drew.ro 3 rfl)
        have c11:=(K2.ro 3 rfl).now.c11 HKL.out
        simp only at c11
        have HOWN:=hid hown
        clear hown hresp
        go_wp2_with fail
        have HKK:=K2.Zc
        refine wp_region_any (by kernel_rfl) ?_
        refine ZH 11 102 (_) (spL [(96,IsV (.bool false))]) (by kernel_rfl) (by kernel_rfl) (by kernel_rfl) rfl ?_ (K2.drew) ?_
        ·exact Ze XN (ZF _)
        simp only [zd,Act.put,List.getElem_toArray,List.getElem_cons_zero,List.getElem_cons_succ,zl]
        iterate 3
         refine' dv rfl rfl rfl (fun wv HC=>?_) ?_;rotate_left
         · go_simp<;>rfl
         simp only [Act.put,zl]
        refine' dv rfl rfl rfl (fun wv HC=>?_) ?_;rotate_left
        ·obtain ⟨q0,q1,q2,q3,q4,q5,q6,q7,q8,q9,q10⟩:=(HC.ro 3 rfl).now.c11 HKL.out;go_simp<;>rfl
        simp only [Act.put,zl]
        refine' dv rfl rfl rfl (fun wv HC=>?_) ?_;rotate_left
        ·obtain ⟨q0,q1,q2,q3,-⟩:=UU (P:=True) (HC.ZB 2 rfl) trivial;go_simp<;>rfl
        simp only [Act.put,zl]
        refine Zq 96 (IsV (.bool false)) (f:=83) (args:=#[.agg #[.string tname,.string ttab,.bool false,.int .i64 tev,.slice cA cn cc,.bool teach,.slice pA pn pc,.slice fA fn fc,.slice (some ⟨b2,o2,none⟩) kn kc,.slice oA on oc,.slice uA un uc],.agg #[.string rtab,.string rcol,.int .i64 rlo,.int .i64 rhi]]) rfl rfl rfl rfl (fun wv=>?_) (fun wv HC hrm hD=>?_) ?_
        ·go_simp<;>rfl
        ·refine (HOWN.out _ _ HC.Zc (HC.ro 3 rfl)).mono ?_
         rintro e w5 ⟨rfl,b5⟩
         exact ⟨_,rfl,rfl,HC.call b5,RM.below b5⟩
        rintro x5 wx HCx rfl
        simp only [Act.put,zl]
        refine' dv rfl rfl rfl (fun wv HC=>?_) ?_;rotate_left
        · go_simp<;>rfl
        iterate 3
         simp only [Act.put,zl]
         refine dw_skip rfl rfl rfl ?_
        simp only [Act.put,zl]
        refine' dv rfl rfl rfl (fun wv HC=>?_) ?_;rotate_left
        · go_simp<;>rfl
        simp only [Act.put,zl]
        refine ZE ?_
        rintro wx2 HX
        rintro hrm HG
        clear HG
        go_wp2_with fail
        go_ret
        exact ⟨by first|rfl|simp,HX.below⟩
       ·rw [hO] at hown hRK2
        have hRK3:RK=RB:=by rw [hRK2.out];simp
        subst hRK3
        have hc5:=hown _ _ K2.drew.Zc (K2.drew.ro 3 rfl)
        have HRESP:=hid hresp
        clear hown hresp
        go_wp2_with fail
        go_region_held3 (fun w' =>w'.cell? ⟨w.heap.size,0,none⟩=some (.string rtab)∧w'.cell? ⟨w.heap.size,1,none⟩=some (.string rcol)∧w'.cell? ⟨w.heap.size,2,none⟩=some (.int .i64 rlo)∧w'.cell? ⟨w.heap.size,3,none⟩=some (.int .i64 rhi)∧w'.cell? ⟨b,o+k * 11,none⟩=some (.string tname)∧w'.cell? ⟨b,o+k * 11+1,none⟩=some (.string ttab)∧w'.cell? ⟨b,o+k * 11+2,none⟩=some (.bool false)∧w'.cell? ⟨b,o+k * 11+3,none⟩=some (.int .i64 tev)∧w'.cell? ⟨b,o+k * 11+4,none⟩=some (.slice cA cn cc)∧w'.cell? ⟨b,o+k * 11+5,none⟩=some (.bool teach)∧w'.cell? ⟨b,o+k * 11+6,none⟩=some (.slice pA pn pc)∧w'.cell? ⟨b,o+k * 11+7,none⟩=some (.slice fA fn fc)∧w'.cell? ⟨b,o+k * 11+8,none⟩=some (.slice (some ⟨b2,o2,none⟩) kn kc)∧w'.cell? ⟨b,o+k * 11+9,none⟩=some (.slice oA on oc)∧w'.cell? ⟨b,o+k * 11+10,none⟩=some (.slice uA un uc))
         (first|exact UU (K2.drew.ZB 2 rfl) ((K2.drew.ro 3 rfl).now.c11 HKL.out)|exact UU (K3.ZB 2 rfl) ((K3.ro 3 rfl).now.c11 HKL.out)|exact UU (K4.ZB 2 rfl) ((K4.ro 3 rfl).now.c11 HKL.out))
         (first
          | (go_at_call 83;((with_reducible refine hc5.mono ?_);rintro e w5 ⟨rfl,b5⟩;have K3:=K2.drew.call b5;have hc6:=HRESP.out _ _ K3.Zc (K3.ro 3 rfl)))
          | (go_at_call 84;((with_reducible refine hc6.mono ?_);rintro e w6 ⟨rfl,b6⟩;have K4:=K3.call b6)))
        go_wp2_with fail
        go_ret
        exact ⟨by first|rfl|simp,K4.below⟩
      ·have hRK2:RK=false:=by rw [hRK.out,hg];simp [h3]
       subst hRK2
       clear hRK hg
       go_wp2_with fail
       go_ret
       exact ⟨by first|rfl|simp,K2.below⟩
     ·have hRK2:RK=false:=by rw [hRK.out,hg];simp [h2]
      have h2b:decide (rhi<rlo)=true:=by simp;omega
      subst hRK2
      clear hRK hg
      go_wp2_with fail
      go_ret
      exact ⟨by first|rfl|simp,K2.below⟩
    ·have hRK2:RK=false:=by rw [hRK.out,hg];simp
     subst hRK2
     clear hRK hg
     go_wp2_with fail
     go_ret
     exact ⟨by first|rfl|simp,K2.below⟩
   ·have hRK2:RK=false:=by rw [hRK.out,hg];simp [h1]
    have h1b:(cty !=1)=true:=by simpa using h1
    subst hRK2
    clear hRK hg
    go_wp2_with fail
    all_goals first
     | (exfalso;omega)
     | skip
    go_ret
    exact ⟨by first|rfl|simp,K2.below⟩
def Wx (tabs:List (ByteArray × List Col)) (r:Rk):Bool:=(match tabs.find? (fun x=>decide (x.1=r.tab)) with|some x=>Xn x.2 r.col|none=>false)&&(decide (r.lo≤r.hi)&&decide (r.hi - r.lo≤1048576))
theorem Zd2 (tes:List Te) (s:ByteArray):(ZM tes).find? (fun x=>decide (x.1=s))=(tes.find? (Xt s)).map fun x=>(x.nm,x.cs):=by
 unfold ZM
 rw [List.find?_map]
 rfl
set_option maxRecDepth 100000 in
set_option maxHeartbeats 8000000 in
theorem ZdS (M:Nat→Prop) (w:World) (hM:∀ b,M b→b<w.heap.size) (r:Rk) (B:Option Addr) (m e:Nat) (tes:List Te) (hD:Ro w M (TesIn B m tes)) (hm:m≤1000) (hc:∀ x∈tes,x.n≤1000) (hI:I64 r.lo∧I64 r.hi):Calls Tryz.prog 85 #[r.val,.slice B m e] w fun e w' =>e=.returned (.bool (Wx (ZM tes) r))∧Below w.heap.size w w' :=by
 obtain ⟨rtab,rcol,rlo,rhi⟩:=r
 have HP:=hid (show Wx (ZM tes) ⟨rtab,rcol,rlo,rhi⟩=((match (tes.find? (Xt rtab)).map fun x=>(x.nm,x.cs) with|some x=>Xn x.2 rcol|none=>false)&&(decide (rlo≤rhi)&&decide (rhi - rlo≤1048576))) from by rw [←Zd2];rfl)
 generalize Wx (ZM tes) ⟨rtab,rcol,rlo,rhi⟩=P at *
 have HI:=hid hI
 clear hI
 have K0:=((Hold.start M w hM).add (hD.less (by simp [Mut]))).Za #[.string rtab,.string rcol,.int .i64 rlo,.int .i64 rhi] 85
 have F0:=K0.facts
 simp only [zg] at F0
 simp only [Rk.val]
 go_enter Tryz.func85,Tryz.ntmps85
 go_wp2_with fail
 refine (ZaH _ _ K0.Zc B m e tes rtab (K0.ro 1 rfl) hm hc).mono ?_
 rintro e w1 ⟨⟨snm,⟨sA,sn,sc,sl⟩⟩,ok,rfl,hsn,-,hf,rS,b1⟩
 have K1:=((K0.call b1).add rS).Za #[.string snm,.slice sA sn sc] 49
 have HF:=hid hf
 clear K0 F0 b1 rS hf
 have F1:=K1.facts
 simp only [zg] at F1
 have HSL:=hid (show SlR 4 sA sn (Zd sl) _ from (K1.ro 1 rfl).now.1)
 go_wp2_with fail
 refine (Xz _ _ K1.Zc snm sA sn sc sl rcol ((K1.ro 1 rfl).imp fun w2 h2=>h2.1) (by omega)).mono ?_
 rintro e w2 ⟨rfl,b2⟩
 have K2:=K1.call b2
 clear K1 F1 b2
 have F2:=K2.facts
 simp only [zg] at F2
 cases ok
 ·have HH:=hid (show P=false from by
   rw [HP.out]
   rcases HF.out with ⟨h,-⟩|⟨x,-,h,-⟩
   ·rw [h];rfl
   ·cases h)
  clear HP HF
  obtain ⟨z,hz⟩:∃ z:Int,Zr (named rcol) sl=z:=⟨_,rfl⟩
  rw [hz]
  clear hz
  go_wp2_with fail
  go_ret
  exact ⟨by rw [HH.out]<;>rfl,K2.below⟩
 ·have HPP:=hid (show P=(Xn sl rcol&&(decide (rlo≤rhi)&&decide (rhi - rlo≤1048576))) from by
   rw [HP.out]
   rcases HF.out with ⟨-,h⟩|⟨x,h,-,h2,-⟩
   ·cases h
   ·rw [h,h2];rfl)
  clear HP HF
  rcases GU sl rcol with ⟨hg,hj⟩|⟨j,col,hcj,hj,hg⟩
  ·have HH:=hid (show P=false from by rw [HPP.out,hg];rfl)
   rw [hj]
   clear hg hj HPP
   go_wp2_with fail
   go_ret
   exact ⟨by rw [HH.out]<;>rfl,K2.below⟩
  ·rw [hj]
   have hsl:sl.length=sn:=(RdC.Zw HSL.out).len
   have hjq:j<sn:=by rw [←hsl];exact (List.getElem?_eq_some_iff.1 hcj).1
   obtain ⟨b4,o4,rfl,hb4,x0,x1,x2,x3⟩:=(RdC.Zw (show SlR 4 sA sn (Zd sl) _ from (K2.ro 1 rfl).now.1)).at_ hcj
   obtain ⟨cnm,cty,cnn,ckey⟩:=col
   simp only at hg x0 x1 x2 x3
   have hj0:(0:Int)≤(j:Int):=by omega
   have hj1:(j:Int)<(sn:Int):=by omega
   have hd3:decide ((j:Int)<0)=false:=by simp
   have HG:=hid hg
   clear hj hg hcj HSL hsl
   by_cases h1:cty=1
   ·have b1:(cty==1)=true:=by simp [h1]
    have b1' :(cty !=1)=false:=by simp [h1]
    cases ckey
    ·by_cases h2:rlo≤rhi
     ·have h2b:decide (rhi<rlo)=false:=by simp;omega
      have hu:=U0 h2 HI.out.1 HI.out.2
      have HH:=hid (show P=decide (rhi - rlo≤1048576) from by rw [HPP.out,HG.out];simp [h1,h2])
      clear HPP HG h1 h2
      by_cases h3:rhi - rlo≤1048576
      ·have h3b:decide (rhi - rlo≤1048576)=true:=decide_eq_true h3
       have HH:=hid (HH.out.trans h3b)
       go_wp2_with fail
       go_ret
       exact ⟨by rw [HH.out]<;>rfl,K2.below⟩
      ·have h3b:decide (rhi - rlo≤1048576)=false:=decide_eq_false h3
       have HH:=hid (HH.out.trans h3b)
       go_wp2_with fail
       go_ret
       exact ⟨by rw [HH.out]<;>rfl,K2.below⟩
     ·have h2b:decide (rhi<rlo)=true:=by simp;omega
      have HH:=hid (show P=false from by rw [HPP.out];simp [h2])
      clear HPP HG h1
      go_wp2_with fail
      go_ret
      exact ⟨by rw [HH.out]<;>rfl,K2.below⟩
    ·have HH:=hid (show P=false from by rw [HPP.out,HG.out];simp)
     clear HPP HG h1
     go_wp2_with fail
     go_ret
     exact ⟨by rw [HH.out]<;>rfl,K2.below⟩
   ·have b1:(cty==1)=false:=by simp [h1]
    have b1' :(cty !=1)=true:=by simp [h1]
    have HH:=hid (show P=false from by rw [HPP.out,HG.out];simp [h1])
    clear HPP HG h1
    go_wp2_with fail
    go_ret
    exact ⟨by rw [HH.out]<;>rfl,K2.below⟩
theorem Xf {α:Type} {P:Bool} {p:α→Bool} {l:List α} {k:Nat} {x:α} (h:P=(l.drop k).all p) (hx:l[k]? =some x) (hp:p x=true):P=(l.drop (k+1)).all p:=by
 have hl:=List.getElem?_eq_some_iff.1 hx
 rw [h,List.drop_eq_getElem_cons hl.1,List.all_cons,hl.2,hp,Bool.true_and]
theorem Vp {α:Type} {P:Bool} {p:α→Bool} {l:List α} {k:Nat} {x:α} (h:P=(l.drop k).all p) (hx:l[k]? =some x) (hp:p x=false):P=false:=by
 have hl:=List.getElem?_eq_some_iff.1 hx
 rw [h,List.drop_eq_getElem_cons hl.1,List.all_cons,hl.2,hp,Bool.false_and]
theorem ZfR {d:Nat} {r:Rk} {a:Ac} (h:a.kind≠4):YH d r a=(decide (a.tab=r.tab)&&(ZT a r.col).2&&decide (1≤(ZT a r.col).1)&&(Z8 d a r.col).2.2&&decide (r.lo≤(Z8 d a r.col).1)&&decide ((Z8 d a r.col).2.1≤r.hi)):=by
 unfold YH ZT Z8
 rw [decide_eq_false h,Bool.false_or]
 cases YN a r.col with
 | none=>cases XI d a r.col<;>simp
 | some k=>
  cases XI d a r.col with
  | none=>simp
  | some g=>simp [Bool.and_assoc]
set_option maxRecDepth 100000 in
set_option maxHeartbeats 8000000 in
theorem Zdy (M:Nat→Prop) (w:World) (hM:∀ b,M b→b<w.heap.size) (t:Tg) (r:Rk) (d:Nat) (ha:Ro w M (AcsIn (d+1) t.acts.A t.acts.n t.acts.l)) (hf:TgFit (d+1) t):Calls Tryz.prog 86 #[t.val,r.val] w fun e w' =>e=.returned (.bool (YO (d+1) t r))∧Below w.heap.size w w' :=by
 obtain ⟨rtab,rcol,rlo,rhi⟩:=r
 have HO:=hid (show YO (d+1) t ⟨rtab,rcol,rlo,rhi⟩=t.acts.l.all (YH (d+1) ⟨rtab,rcol,rlo,rhi⟩) from rfl)
 generalize YO (d+1) t ⟨rtab,rcol,rlo,rhi⟩=P at *
 have HA:=hid hf.a
 have hn:=hf.n
 clear hf
 obtain ⟨tn,tt,tb,te,⟨oA,on,oc,ol⟩,tch,⟨pA,pn,pc,pl⟩,⟨qA,qn,qc,ql⟩,⟨rA,rn,rc,rl⟩,⟨kA,kn,kc,kl⟩,⟨uA,un,uc,ul⟩⟩:=t
 simp only [Tg.val,Rk.val] at ha hn HO HA ⊢
 have HL:=hid ha.now.len
 have K0:=(((Hold.start M w hM).add (ha.less (by simp [Mut]))).Za #[.string tn,.string tt,.bool tb,.int .i64 te,.slice oA on oc,.bool tch,.slice pA pn pc,.slice qA qn qc,.slice rA rn rc,.slice kA kn kc,.slice uA un uc] 40).Za #[.string rtab,.string rcol,.int .i64 rlo,.int .i64 rhi] 85
 rw [World.size_alloc] at K0
 obtain ⟨g2,hg2⟩:∃ g,g=w.heap.size:=⟨_,rfl⟩
 rw [←hg2] at K0
 obtain ⟨g3,hg3⟩:∃ g,g=g2+1:=⟨_,rfl⟩
 rw [←hg3] at K0
 have K1:=K0.pick [0,2] (by decide) rfl
 simp only [List.filterMap_cons,List.filterMap_nil,List.getElem?_cons_zero,List.getElem?_cons_succ] at K1
 have F0:=K0.facts
 simp only [zg] at F0
 clear ha K0
 rw [hg3,hg2] at F0
 go_enter Tryz.func86,Tryz.ntmps86
 go_wp2_with fail
 rw [←hg2,←hg3]
 have HGX:=hid (And.intro hg2 hg3)
 clear F0 hg2 hg3
 go_loopw [15] (fun i wr=>∃ k:Nat,k≤un∧i=.int .i64 k∧Hid (P=(ul.drop k).all (YH (d+1) ⟨rtab,rcol,rlo,rhi⟩))∧Hold M none w wr [.cst g3 85 #[.string rtab,.string rcol,.int .i64 rlo,.int .i64 rhi],.ro (AcsIn (d+1) uA un ul)]) (fun i _=>un - (intOf i).toNat)
 case atStart=>exact ⟨0,by omega,rfl,hid HO.out,K1⟩
 case round=>
  clear K1
  obtain ⟨k,hk,rfl,HP,H⟩:=hrel
  by_cases hlt:k<un
  ·have k0:(0:Int)≤(k:Int):=by omega
   have k1:(k:Int)<(un:Int):=by omega
   obtain ⟨⟨ak,atab,⟨arA,arn,arc,arl⟩,⟨aqA,aqn,aqc,aql⟩,⟨asA,asn,asc,asl⟩,⟨awA,awn,awc,awl⟩,atext⟩,hx⟩:=Z4 HL.out hlt
   obtain ⟨b,o,rfl,hb,hc,-⟩:=(H.ro 1 rfl).now.at_ hx
   have x0:=hc 0 _ (by omega) rfl
   have x1:=hc 1 _ (by omega) rfl
   have x2:=hc 2 _ (by omega) rfl
   have x3:=hc 3 _ (by omega) rfl
   have x4:=hc 4 _ (by omega) rfl
   have x5:=hc 5 _ (by omega) rfl
   have x6:=hc 6 _ (by omega) rfl
   simp only [Nat.add_zero,SlP.v] at x0 x1 x2 x3 x4 x5 x6
   clear hc
   have hmx:=List.mem_of_getElem? hx
   have HX:=hid hx
   have hsn:=HA.out _ hmx
   simp only at hsn
   have K2:=(H.add (S:=AcIn (d+1) ⟨ak,atab,⟨arA,arn,arc,arl⟩,⟨aqA,aqn,aqc,aql⟩,⟨asA,asn,asc,asl⟩,⟨awA,awn,awc,awl⟩,atext⟩) ((H.ro 1 rfl).imp fun w2 h2=>h2.2 _ hmx)).Za #[.int .i64 ak,.string atab,.slice arA arn arc,.slice aqA aqn aqc,.slice asA asn asc,.slice awA awn awc,.string atext] 97
   clear H hx hmx
   have F2:=K2.facts
   simp only [zg] at F2
   by_cases h4:ak=4
   ·have b4:(ak==4)=true:=by simp [h4]
    have HN:=hid (Xf HP.out HX.out (show YH (d+1) ⟨rtab,rcol,rlo,rhi⟩ ⟨ak,atab,⟨arA,arn,arc,arl⟩,⟨aqA,aqn,aqc,aql⟩,⟨asA,asn,asc,asl⟩,⟨awA,awn,awc,awl⟩,atext⟩=true from by simp [YH,h4]))
    clear h4
    go_wp2_with fail
    go_roundw
    case rel=>exact ⟨k+1,by omega,by go_num,HN,K2.drop ((List.sublist_cons_self _ _).cons _)⟩
    case measure=>simp [intOf];omega
   ·have b4:(ak==4)=false:=by simp [h4]
    have HW:=hid (ZfR (d:=d+1) (r:=⟨rtab,rcol,rlo,rhi⟩) (a:=⟨ak,atab,⟨arA,arn,arc,arl⟩,⟨aqA,aqn,aqc,aql⟩,⟨asA,asn,asc,asl⟩,⟨awA,awn,awc,awl⟩,atext⟩) h4)
    have hce:=Zak _ _ K2.Zc ⟨ak,atab,⟨arA,arn,arc,arl⟩,⟨aqA,aqn,aqc,aql⟩,⟨asA,asn,asc,asl⟩,⟨awA,awn,awc,awl⟩,atext⟩ rcol d (K2.ro 1 rfl) (by dsimp only;omega)
    have HGU:=hid (fun (M2:Nat→Prop) (w2:World) (h2:∀ b,M2 b→b<w2.heap.size) (hr:Ro w2 M2 (AcIn (d+1) ⟨ak,atab,⟨arA,arn,arc,arl⟩,⟨aqA,aqn,aqc,aql⟩,⟨asA,asn,asc,asl⟩,⟨awA,awn,awc,awl⟩,atext⟩))=>ZgF M2 w2 h2 ⟨ak,atab,⟨arA,arn,arc,arl⟩,⟨aqA,aqn,aqc,aql⟩,⟨asA,asn,asc,asl⟩,⟨awA,awn,awc,awl⟩,atext⟩ rcol d hr (by dsimp only;omega))
    clear h4
    generalize ZT ⟨ak,atab,⟨arA,arn,arc,arl⟩,⟨aqA,aqn,aqc,aql⟩,⟨asA,asn,asc,asl⟩,⟨awA,awn,awc,awl⟩,atext⟩ rcol=LW at *
    generalize Z8 (d+1) ⟨ak,atab,⟨arA,arn,arc,arl⟩,⟨aqA,aqn,aqc,aql⟩,⟨asA,asn,asc,asl⟩,⟨awA,awn,awc,awl⟩,atext⟩ rcol=GD at *
    obtain ⟨l1,l2⟩:=LW
    obtain ⟨u1,u2,u3⟩:=GD
    simp only [Ac.val] at hce HGU
    go_wp2_with fail
    refine hce.mono ?_
    rintro e w3 ⟨rfl,b3⟩
    have K3:=K2.call b3
    clear K2 F2 hce b3
    have F3:=K3.facts
    simp only [zg] at F3
    go_wp2_with fail
    refine (HGU.out _ _ K3.Zc (K3.ro 1 rfl)).mono ?_
    rintro e w4 ⟨rfl,b4'⟩
    have K4:=K3.call b4'
    clear K3 F3 HGU b4'
    have F4:=K4.facts
    simp only [zg] at F4
    go_upto_region 7 with fail
    go_cut [65] from 37 to 65 (fun v wx=>v=.bool (!(YH (d+1) ⟨rtab,rcol,rlo,rhi⟩ ⟨ak,atab,⟨arA,arn,arc,arl⟩,⟨aqA,aqn,aqc,aql⟩,⟨asA,asn,asc,asl⟩,⟨awA,awn,awc,awl⟩,atext⟩))∧wx=w4)
    case first=>
     by_cases htab:atab=rtab
     ·have e0:(atab.toList==rtab.toList)=true:=by simp [htab]
      have e1:(atab.toList !=rtab.toList)=false:=by simp [htab]
      have HT:=hid htab
      clear htab
      by_cases hl2:l2=true
      ·have n2:(!l2)=false:=by simp [hl2]
       have H2:=hid hl2
       clear hl2
       by_cases h1:l1<1
       ·have d1:decide (l1<1)=true:=decide_eq_true h1
        go_wp2_with fail
        go_meet
        exact ⟨by rw [HW.out];simp [HT.out,H2.out,show ¬(1≤l1) by omega],by first|rfl|trivial⟩
       ·have d1:decide (l1<1)=false:=decide_eq_false h1
        by_cases hu3:u3=true
        ·have n3:(!u3)=false:=by simp [hu3]
         have H3:=hid hu3
         clear hu3
         by_cases h2:u1<rlo
         ·have d2:decide (u1<rlo)=true:=decide_eq_true h2
          go_wp2_with fail
          go_meet
          exact ⟨by rw [HW.out];simp [HT.out,H2.out,H3.out,show ¬(rlo≤u1) by omega],by first|rfl|trivial⟩
         ·have d2:decide (u1<rlo)=false:=decide_eq_false h2
          by_cases h3:rhi<u2
          ·have d3:decide (rhi<u2)=true:=decide_eq_true h3
           go_wp2_with fail
           go_meet
           exact ⟨by rw [HW.out];simp [HT.out,H2.out,H3.out,show ¬(u2≤rhi) by omega],by first|rfl|trivial⟩
          ·have d3:decide (rhi<u2)=false:=decide_eq_false h3
           go_wp2_with fail
           go_meet
           exact ⟨by rw [HW.out];simp [HT.out,H2.out,H3.out,show 1≤l1 by omega,show rlo≤u1 by omega,show u2≤rhi by omega],by first|rfl|trivial⟩
        ·have n3:(!u3)=true:=by simp [hu3]
         have H3:=hid (show u3=false from by simpa using hu3)
         clear hu3
         go_wp2_with fail
         go_meet
         exact ⟨by rw [HW.out];simp [HT.out,H3.out],by first|rfl|trivial⟩
      ·have n2:(!l2)=true:=by simp [hl2]
       have H2:=hid (show l2=false from by simpa using hl2)
       clear hl2
       go_wp2_with fail
       go_meet
       exact ⟨by rw [HW.out];simp [HT.out,H2.out],by first|rfl|trivial⟩
     ·have e0:(atab.toList==rtab.toList)=false:=by rw [beq_eq_false_iff_ne];exact fun h=>htab (Yr h)
      have e1:(atab.toList !=rtab.toList)=true:=by rw [bne_iff_ne];exact fun h=>htab (Yr h)
      go_wp2_with fail
      go_meet
      exact ⟨by rw [HW.out];simp [htab],by first|rfl|trivial⟩
    case rest=>
     obtain ⟨rfl,rfl⟩:=hcut
     obtain ⟨z,hz⟩:∃ z:Bool,YH (d+1) ⟨rtab,rcol,rlo,rhi⟩ ⟨ak,atab,⟨arA,arn,arc,arl⟩,⟨aqA,aqn,aqc,aql⟩,⟨asA,asn,asc,asl⟩,⟨awA,awn,awc,awl⟩,atext⟩=z:=⟨_,rfl⟩
     rw [hz]
     have HZ:=hid hz
     clear hz F4
     cases z
     ·have HH:=hid (Vp HP.out HX.out HZ.out)
      go_wp2_with fail
      go_ret
      exact ⟨by rw [HH.out]<;>rfl,K4.below⟩
     ·have HN:=hid (Xf HP.out HX.out HZ.out)
      go_wp2_with fail
      go_roundw
      case rel=>exact ⟨k+1,by omega,by go_num,HN,K4.drop ((List.sublist_cons_self _ _).cons _)⟩
      case measure=>simp [intOf];omega
  ·obtain rfl:un=k:=by omega
   have HH:=hid (show P=true from by rw [HP.out,List.drop_eq_nil_of_le (by rw [HL.out];exact Nat.le_refl _)];rfl)
   go_wp2_with fail
   go_ret
   exact ⟨by rw [HH.out]<;>rfl,H.below⟩
end Go.Proofs.YtnbbllkbefagmaaGreatDoor

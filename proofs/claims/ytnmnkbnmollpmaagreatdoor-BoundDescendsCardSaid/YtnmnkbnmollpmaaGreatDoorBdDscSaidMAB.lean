import Derived.Test.YtnmnkbnmollpmaaGreatDoorBdDscSaidMW
import Derived.Test.YtnmnkbnmollpmaaGreatDoorBdDscSaidMX
import Derived.Test.YtnmnkbnmollpmaaGreatDoorBdDscSaidMY
import Derived.Test.YtnmnkbnmollpmaaGreatDoorBdDscSaidMV
set_option linter.unusedVariables false
set_option linter.unusedSimpArgs false
set_option maxHeartbeats 64000000
set_option maxRecDepth 100000
namespace Go.Proofs.YtnmnkbnmollpmaaGreatDoor
section
open Go.RowKit
def Yk (l:List Tb) (s:ByteArray):Int:=Ze (fun t=>t.nm.toList==s.toList) l
theorem ZcR (M:Nat→Prop) (w:World) (hM:∀ b,M b→b<w.heap.size) (A:Option Addr) (n c:Nat) (l:List Te) (s:ByteArray) (hD:Ro w M (TesIn A n l)) (hn:n≤4611686018427387904):
  Calls Tryz.prog 15 #[.slice A n c,.string s] w fun e w' =>e=.returned (.int .i64 (Yk (l.map Te.tb) s))∧Below w.heap.size w w' :=by
 have HL:=hid hD.now.len
 have K0:=(Hold.start M w hM).add (hD.less (by simp [Mut]))
 clear hD
 go_enter Tryz.func15,Tryz.ntmps15
 go_wp2_with fail
 go_loopw [9] (fun iv wr=>∃ (k:Nat),k≤n∧iv=.int .i64 k∧Hid (Yk (l.map Te.tb) s=Zy (fun t=>t.nm.toList==s.toList) k ((l.map Te.tb).drop k))∧Hold M none w wr [.ro (TesIn A n l)]) (fun iv _=>n - (intOf iv).toNat)
 case atStart=>exact ⟨0,by omega,rfl,hid rfl,K0⟩
 case round=>
  clear K0
  obtain ⟨k,hk,rfl,HC,H⟩:=hrel
  by_cases hlt:k<n
  ·have hd:decide ((k:Int)<(n:Int))=true:=by simp;omega
   have i0:(0:Int)≤(k:Int):=by omega
   have i1:(k:Int)<(n:Int):=by omega
   obtain ⟨x,hx⟩:=Zl HL.out hlt
   obtain ⟨g,o,rfl,hb,c0,c1,c2,c3,-⟩:=(H.ro 0 rfl).now.at_ hx
   have HX:=hid (XE hx)
   clear hx
   have K1:=H.Za #[.string x.nm,.slice x.A x.n x.c,.int .i64 x.nx,.slice x.B x.m x.d] 69
   have FA:=K1.facts
   simp only [zg] at FA
   clear H
   cases hz:(x.nm.toList==s.toList)
   ·have HN:=hid (XZ HC.out HX.out hz)
    go_wp2_with fail
    go_roundw
    case rel=>exact ⟨k+1,by omega,by go_num,HN,K1.drop (Kb _ _)⟩
    case measure=>simp [intOf];omega
   ·have HN:=hid (show Yk (l.map Te.tb) s=(k:Int) from Ww HC.out HX.out hz)
    go_wp2_with fail
    go_ret
    exact ⟨by rw [HN.out]<;>rfl,K1.below⟩
  ·obtain rfl:n=k:=by omega
   have hd:decide ((n:Int)<(n:Int))=false:=by simp
   have HN:=hid (show Yk (l.map Te.tb) s=-1 from XY HC.out (by rw [Kj,HL.out];exact Kg _))
   go_wp2_with fail
   go_ret
   exact ⟨by rw [HN.out]<;>rfl,H.below⟩
theorem VTab.tbm {t:Tb} (h:VTab t):TbM t:=
 ⟨h.sch.nm,h.sch.cs,by have:=h.rows;omega,fun r hr=>by have:=h.len r hr;omega⟩
structure StOk (S:List Tb):Prop where
 len:S.length=3
 at_:∀ (j:Nat) (t:Tb),S[j]? =some t→t.nm=nm3 j∧t.cs=cs3 j∧VTab t
theorem Sto3.st {N:Nat} {l:List Te} (h:Sto3 N 3 l):StOk (l.map Te.tb):=by
 refine ⟨by rw [Kj,h.len],fun j t ht=>?_⟩
 rw [KQ] at ht
 cases hx:l[j]? with
 | none=>rw [hx] at ht;cases ht
 | some x=>
  rw [hx] at ht
  obtain rfl:x.tb=t:=by simpa using ht
  exact ⟨(h.at_ j x hx).1,(h.at_ j x hx).2,(h.ok x (Ka hx)).2.1⟩
theorem StOk.set {S:List Tb} (h:StOk S) {k:Nat} {a x:Tb} (hk:S[k]? =some a) (hn:x.nm=a.nm) (hc:x.cs=a.cs) (hv:VTab x):StOk (S.set k x):=by
 refine ⟨by rw [List.length_set,h.len],fun j t ht=>?_⟩
 rw [List.getElem?_set] at ht
 split at ht
 ·rename_i hj
  subst hj
  split at ht
  ·injection ht with ht
   subst ht
   exact ⟨hn.trans (h.at_ k a hk).1,hc.trans (h.at_ k a hk).2.1,hv⟩
  ·cases ht
 ·exact h.at_ j t ht
theorem ZbY:Op.bytesLess (nm3 0).toList (nm3 1).toList=true∧Op.bytesLess (nm3 1).toList (nm3 2).toList=true:=by decide+kernel
theorem StOk.Zdj {S:List Tb} (h:StOk S):Y2 S=true:=by
 refine Zdk h.len (by omega) ?_
 have g:∀ j,j<3→∃ t,S[j]? =some t:=fun j hj=>⟨S[j]'(by rw [h.len];exact hj),Ky _⟩
 obtain ⟨a,ha⟩:=g 0 (by omega)
 obtain ⟨b,hb⟩:=g 1 (by omega)
 obtain ⟨c,hc⟩:=g 2 (by omega)
 refine Qn (Qn (Qn rfl (Zdi ha (h.at_ 0 a ha).2.2.val)) ?_) ?_
 ·rw [JD hb ha (h.at_ 1 b hb).2.2.val,(h.at_ 0 a ha).1,(h.at_ 1 b hb).1];exact ZbY.1
 ·rw [JD hc hb (h.at_ 2 c hc).2.2.val,(h.at_ 1 b hb).1,(h.at_ 2 c hc).1];exact ZbY.2
def Zer (w:World) (M:Nat→Prop) (nm:ByteArray) (cs:List Col) (e:Ending) (w' :World):Prop:=∃ (C:Option Addr) (q cap:Nat),e=.returned (.tuple #[.agg #[.string nm,.slice C q cap],.bool true])∧q=cs.length∧Ro w' M (ColsIn C q cs)∧Below w.heap.size w w'
theorem Zlv (w:World) (x:Te) (b:Nat) (s:ByteArray) (t:TypeId) (hb:w.heap[b]? =some (.cells #[.string s] t (0,0))):
  Calls Tryz.prog 107 #[.agg #[.string x.nm,.slice x.A x.n x.c,.int .i64 x.nx,.slice x.B x.m x.d],.pointer (some ⟨b,0,none⟩)] w fun e w' =>e=.returned (.bool (x.nm.toList==s.toList))∧Below w.heap.size w w' :=by
 have hbl:b<w.heap.size:=Blk.lt (t:=t) (cs:=#[.string s]) hb
 have K0:=((Hold.Yi w).Wp (g:=b) (t:=t) (cs:=#[.string s]) (fun w2 h1 h2=>(h2 b hbl (by simp [Mut,Zc])).trans hb)).Za #[.string x.nm,.slice x.A x.n x.c,.int .i64 x.nx,.slice x.B x.m x.d] 69
 have F0:=K0.facts
 simp only [zg] at F0
 go_enter Tryz.func107,Tryz.ntmps107
 go_wp2_with fail
 go_ret
 exact ⟨rfl,K0.below⟩
theorem Zde (M:Nat→Prop) (w:World) (hM:∀ b,M b→b<w.heap.size) (A:Option Addr) (n c:Nat) (l:List Te) (b:Nat) (s:ByteArray) (t:TypeId) (hB:Ro w M (fun w=>w.heap[b]? =some (.cells #[.string s] t (0,0)))) (hD:Ro w M (TesIn A n l)) (hn:n≤4611686018427387904):
  Calls Tryz.prog 74 #[.slice A n c,.func (.func 107) #[] #[.pointer (some ⟨b,0,none⟩)]] w fun e w' =>e=.returned (.int .i64 (Yk (l.map Te.tb) s))∧Below w.heap.size w w' :=by
 have HL:=hid hD.now.len
 have K0:=(((Hold.start M w hM).add (hB.less (by simp [Mut]))).add (hD.less (by simp [Mut,Hp.foot])))
 go_enter Tryz.func74,Tryz.ntmps74
 go_wp2_with fail
 go_loopw [8] (fun iv wr=>∃ (k:Nat),k≤n∧iv=.int .i64 k∧Hid (Yk (l.map Te.tb) s=Zy (fun t=>t.nm.toList==s.toList) k ((l.map Te.tb).drop k))∧Hold M none w wr [.ro (TesIn A n l),.ro (fun w=>w.heap[b]? =some (.cells #[.string s] t (0,0)))]) (fun iv _=>n - (intOf iv).toNat)
 case atStart=>exact ⟨0,by omega,rfl,hid rfl,K0⟩
 case round=>
  clear K0
  obtain ⟨k,hk,rfl,HC,H⟩:=hrel
  by_cases hlt:k<n
  ·have hd:decide ((k:Int)<(n:Int))=true:=by simp;omega
   have i0:(0:Int)≤(k:Int):=by omega
   have i1:(k:Int)<(n:Int):=by omega
   obtain ⟨x,hx⟩:=Zl HL.out hlt
   obtain ⟨g,o,rfl,hb,c0,c1,c2,c3,-⟩:=(H.ro 0 rfl).now.at_ hx
   have HX:=hid (XE hx)
   clear hx
   go_wp2_with fail
   refine (Zlv wr x b s t (H.ro 1 rfl).now).mono ?_
   rintro e w1 ⟨rfl,b1⟩
   have K1:=H.call b1
   clear H b1
   cases hz:(x.nm.toList==s.toList)
   ·have HN:=hid (XZ HC.out HX.out hz)
    clear hz
    go_wp2_with fail
    go_roundw
    case rel=>exact ⟨k+1,by omega,by go_num,HN,K1⟩
    case measure=>simp [intOf];omega
   ·have HN:=hid (show Yk (l.map Te.tb) s=(k:Int) from Ww HC.out HX.out hz)
    clear hz
    go_wp2_with fail
    go_ret
    exact ⟨by rw [HN.out]<;>rfl,K1.below⟩
  ·obtain rfl:n=k:=by omega
   have hd:decide ((n:Int)<(n:Int))=false:=by simp
   have HN:=hid (show Yk (l.map Te.tb) s=-1 from XY HC.out (by rw [Kj,HL.out];exact Kg _))
   go_wp2_with fail
   go_ret
   exact ⟨by rw [HN.out]<;>rfl,H.below⟩
theorem Zlt (M:Nat→Prop) (w:World) (hM:∀ b,M b→b<w.heap.size) (A:Option Addr) (n c:Nat) (l:List Te) (s:ByteArray) (hD:Ro w M (TesIn A n l)) (hn:n≤4611686018427387904) (hf:Yk (l.map Te.tb) s=-1):
  Calls Tryz.prog 70 #[.slice A n c,.string s] w fun e w' =>e=.returned (.tuple #[.agg #[.string ⟨#[]⟩,.slice none 0 0],.bool false])∧Below w.heap.size w w' :=by
 have K0:=(((Hold.start M w hM).add (hD.less (by simp [Mut]))).Za #[.string s] 9).alloc #[.string ⟨#[]⟩,.slice none 0 0] 66
 simp only [World.size_alloc] at K0
 have F0:=K0.facts
 simp only [zg] at F0
 have hce:=Zde _ _ K0.Zb A n c l w.heap.size s 9 (K0.get 1 rfl) (K0.ro 2 rfl) hn
 rw [hf] at hce
 go_enter Tryz.func70,Tryz.ntmps70
 go_wp2_with fail
 refine hce.mono ?_
 rintro e w1 ⟨rfl,b1⟩
 have K1:=K0.call b1
 clear K0 F0 hce b1
 have F1:=K1.facts
 simp only [zg] at F1
 have K2:=(K1.store 0 rfl 0 (.string ⟨#[]⟩)).store 0 rfl 1 (.slice none 0 0)
 simp only [zl] at K2
 have F2:=K2.facts
 simp only [zg] at F2
 have HB:=hid K2.below
 clear K1 K2
 go_wp2_with fail
 exact bodyPost_ret (v:=.tuple #[.agg #[.string ⟨#[]⟩,.slice none 0 0],.bool false]) (by simp [results,Tryz.results70,go_sem,F2]) rfl ⟨rfl,HB.out⟩
theorem Zlu (M:Nat→Prop) (w:World) (hM:∀ b,M b→b<w.heap.size) (A:Option Addr) (n c:Nat) (l:List Te) (s:ByteArray) (hD:Ro w M (TesIn A n l)) (hn:n≤4611686018427387904) (k:Nat) (x:Te) (hx:l[k]? =some x) (hf:Yk (l.map Te.tb) s=(k:Int)) (hxn:x.n≤4398046511104):
  Calls Tryz.prog 70 #[.slice A n c,.string s] w fun e w' =>Zer w M x.nm x.cs e w' :=by
 have K0:=(((Hold.start M w hM).add (hD.less (by simp [Mut]))).Za #[.string s] 9).alloc #[.string ⟨#[]⟩,.slice none 0 0] 66
 simp only [World.size_alloc] at K0
 have F0:=K0.facts
 simp only [zg] at F0
 have hce:=Zde _ _ K0.Zb A n c l w.heap.size s 9 (K0.get 1 rfl) (K0.ro 2 rfl) hn
 rw [hf] at hce
 have hkn:k<n:=by rw [←hD.now.len];exact (Kc.1 hx).1
 have HX:=hid hx
 clear hx hf
 go_enter Tryz.func70,Tryz.ntmps70
 go_wp2_with fail
 refine hce.mono ?_
 rintro e w1 ⟨rfl,b1⟩
 have KA:=K0.call b1
 clear K0 F0 hce b1 hD
 obtain ⟨b,o,rfl,hb,c0,c1,-,-,-⟩:=(KA.ro 2 rfl).now.at_ HX.out
 have KB:=(KA.add (S:=ColsIn x.A x.n x.cs) ((KA.ro 2 rfl).imp fun w2 h2=>(h2.2 x (Ka HX.out)).1)).alloc #[.string x.nm,.slice x.A x.n x.c] 66
 have K1:=KB
 have F1:=K1.facts
 simp only [zg] at F1
 clear KA K1
 obtain ⟨xnm,xA,xn,xc,xcs,xnx,xB,xm,xd,xl⟩:=x
 go_wp2_with fail
 refine (ZaG _ _ KB.Zb xA xn xc xcs (KB.ro 1 rfl) hxn).mono ?_
 rintro e w2 ⟨C,q,cap,rfl,hq,hqc,hcap,rC,b2⟩
 have K2:=(KB.call b2).add rC
 clear F1 KB b2 rC c0 c1
 have HQ:=hid hq
 clear hq
 obtain ⟨g,hg⟩:∃ g,g=w1.heap.size:=⟨_,rfl⟩
 rw [←hg] at K2 ⊢
 have HG:=hid hg
 clear hg
 have F2:=K2.facts
 simp only [zg] at F2
 have K3:=K2.store 1 rfl 1 (.slice C q cap)
 simp only [zl] at K3
 have F3:=K3.facts
 simp only [zg] at F3
 have K4:=(K3.store 3 rfl 0 (.string xnm)).store 3 rfl 1 (.slice C q cap)
 simp only [zl] at K4
 have F4:=K4.facts
 simp only [zg] at F4
 have HR:=hid ((K4.ro 0 rfl).less zm)
 have HB:=hid K4.below
 clear K2 K3 K4
 go_wp2_with fail
 refine Lh (v:=.tuple #[.agg #[.string xnm,.slice C q cap],.bool true]) ?_ rfl ?_
 ·clear HR HB
  simp [results,Tryz.results70,go_sem,F4]
 ·exact ⟨C,q,cap,rfl,HQ.out,HR.out,HB.out⟩
def ZY (l:List Te):List (ByteArray × List Col):=l.map fun x=>(x.nm,x.cs)
def RksIn (A:Option Addr) (n:Nat) (l:List Rk) (w:World):Prop:=SlR 4 A n (l.flatMap Rk.cells) w∧∀ x∈l,True
theorem RksIn.len {A:Option Addr} {n:Nat} {l:List Rk} {w:World} (h:RksIn A n l w):l.length=n:=SlP.In.len (s:=⟨A,n,0,l⟩) (k:=4) (cel:=Rk.cells) (P:=fun _ _=>True) h (by omega) (fun _=>rfl)
theorem RksIn.at_ {w:World} {A:Option Addr} {n:Nat} {l:List Rk} (h:RksIn A n l w) {k:Nat} {x:Rk} (hx:l[k]? =some x):
  ∃ b o,A=some ⟨b,o,none⟩∧b<w.heap.size∧(∀ j u,j<4→x.cells[j]? =some u→w.cell? ⟨b,o+k * 4+j,none⟩=some u)∧True:=SlP.In.at_ (s:=⟨A,n,0,l⟩) (k:=4) (cel:=Rk.cells) (P:=fun _ _=>True) h (by omega) (fun _=>rfl) hx
theorem TgIn.ranks {d:Nat} {t:Tg} {w:World} (h:TgIn d t w):RksIn t.rank.A t.rank.n t.rank.l w:=h.2.2.2.1
def Gp (l:List Tg) (i:Int):Prop:=i<0∨∃ k:Nat,i=k∧(l.length≤k∨∃ t,l[k]? =some t∧(t.before=true∨t.rank.l=[]))
theorem QR {d:Nat} {l:List Tg} {tabs:List (ByteArray × List Col)} {i:Int} (h:Gp l i):YO d l tabs i=false:=by
 unfold YO
 rcases h with h|⟨k,rfl,h⟩
 ·rw [Lf (by omega)]
 ·rw [Lg (by omega)]
  rcases h with h|⟨t,ht,h⟩
  ·rw [List.getElem?_eq_none (by simpa using h)]
  ·rw [show ((k:Int)).toNat=k by simp,ht]
   simp only
   by_cases hb:t.before=true
   ·rw [Lg hb]
   ·rw [Lf hb]
    rcases h with h|h
    ·exact absurd h hb
    ·rw [h]
theorem Zfo (M:Nat→Prop) (w:World) (hM:∀ b,M b→b<w.heap.size) (A:Option Addr) (n c:Nat) (l:List Tg) (B:Option Addr) (m e:Nat) (tes:List Te) (i:Int) (d:Nat) (ht:Ro w M (TgsIn (d+1) A n l)) (hn:n≤4611686018427387904) (h:Gp l i):Calls Tryz.prog 36 #[.slice A n c,.slice B m e,.int .i64 i] w fun e w' =>e=.returned (.bool false)∧Below w.heap.size w w' :=by
 have K0:=(Hold.start M w hM).add (ht.less (by simp [Mut]))
 have hB:=fun q=>(K0.drewN q).below
 have HB0:=hid K0.below
 have HL:=hid ht.now.len
 rcases h with h|⟨k,rfl,h⟩
 ·go_enter Tryz.func36,Tryz.ntmps36
  go_wp2_with fail
  all_goals first
   | (exfalso;omega)
   | (go_ret;exact ⟨by first|rfl|simp,HB0.out⟩)
 ·rcases h with h|⟨⟨tname,ttab,tbef,tev,⟨cA,cn,cc,cl⟩,teach,⟨pA,pn,pc,pl⟩,⟨fA,fn,fc,fl⟩,⟨kA,kn,kc,kl⟩,⟨oA,on,oc,ol⟩,⟨uA,un,uc,ul⟩⟩,hc,h⟩
  ·have h2:n≤k:=by rw [←HL.out];exact h
   go_enter Tryz.func36,Tryz.ntmps36
   go_wp2_with fail
   all_goals first
    | (exfalso;omega)
    | (go_ret;exact ⟨by first|rfl|simp,HB0.out⟩)
  ·have hk:k<n:=by rw [←HL.out];exact (Kc.1 hc).1
   have hkr:=(ht.now.2 _ (Ka hc)).ranks.len
   obtain ⟨b,o,rfl,hb,hcl,-⟩:=ht.now.at_ hc
   have c2:=hcl 2 _ (by omega) rfl
   have c8:=hcl 8 _ (by omega) rfl
   simp only [SlP.v] at c8 hkr h
   clear hcl hc
   cases hbf:tbef
   ·subst hbf
    have h0:kl=[]:=by simpa using h
    subst h0
    obtain rfl:0=kn:=hkr
    clear h
    go_enter Tryz.func36,Tryz.ntmps36
    go_wp2_with fail
    all_goals first
     | (exfalso;omega)
     | (go_ret;exact ⟨by first|rfl|simp,HB0.out⟩)
   ·subst hbf
    clear h
    go_enter Tryz.func36,Tryz.ntmps36
    go_wp2_with fail
    all_goals first
     | (exfalso;omega)
     | (go_ret;exact ⟨by first|rfl|simp,HB0.out⟩)
theorem TgsIn.c11 {d n b o k:Nat} {l:List Tg} {w:World} (h:TgsIn d (some ⟨b,o,none⟩) n l w) {x:Tg} (hx:l[k]? =some x):w.cell? ⟨b,o+k * 11,none⟩=some (.string x.name)∧w.cell? ⟨b,o+k * 11+1,none⟩=some (.string x.tab)∧w.cell? ⟨b,o+k * 11+2,none⟩=some (.bool x.before)∧w.cell? ⟨b,o+k * 11+3,none⟩=some (.int .i64 x.event)∧w.cell? ⟨b,o+k * 11+4,none⟩=some (.slice x.cols.A x.cols.n x.cols.c)∧w.cell? ⟨b,o+k * 11+5,none⟩=some (.bool x.each)∧w.cell? ⟨b,o+k * 11+6,none⟩=some (.slice x.prec.A x.prec.n x.prec.c)∧w.cell? ⟨b,o+k * 11+7,none⟩=some (.slice x.foll.A x.foll.n x.foll.c)∧w.cell? ⟨b,o+k * 11+8,none⟩=some (.slice x.rank.A x.rank.n x.rank.c)∧w.cell? ⟨b,o+k * 11+9,none⟩=some (.slice x.cond.A x.cond.n x.cond.c)∧w.cell? ⟨b,o+k * 11+10,none⟩=some (.slice x.acts.A x.acts.n x.acts.c):=by
 obtain ⟨b2,o2,e,hb,hcl,-⟩:=h.at_ hx
 obtain ⟨rfl,rfl⟩:b=b2∧o=o2:=by injection e with e;injection e with e1 e2;exact ⟨e1,e2⟩
 exact ⟨hcl 0 _ (by omega) rfl,hcl 1 _ (by omega) rfl,hcl 2 _ (by omega) rfl,hcl 3 _ (by omega) rfl,hcl 4 _ (by omega) rfl,hcl 5 _ (by omega) rfl,hcl 6 _ (by omega) rfl,hcl 7 _ (by omega) rfl,hcl 8 _ (by omega) rfl,hcl 9 _ (by omega) rfl,hcl 10 _ (by omega) rfl⟩
theorem Zbc {α:Type} {p:α→Bool} {l:List α} (h:l.find? p=none):Ze p l=-1:=by
 have:∀ k,Zy p k l=-1:=by
  induction l with
  | nil=>intro k;rfl
  | cons a l ih=>
   intro k
   rw [List.find?_cons] at h
   split at h
   ·cases h
   ·rename_i hp
    rw [Zy]
    simp only [hp]
    exact ih h (k+1)
 exact this 0
theorem Zbi {α:Type} {p:α→Bool} {x:α}:∀ {l:List α} (k:Nat),l.find? p=some x→∃ j:Nat,Zy p k l=((k+j:Nat):Int)∧l[j]? =some x
 | [],_,h=>nomatch h
 | a::l,k,h=>by
  rw [List.find?_cons] at h
  split at h
  ·rename_i hp
   refine ⟨0,?_,by simpa using h⟩
   rw [Zy]
   simp [hp]
  ·rename_i hp
   obtain ⟨j,h1,h2⟩:=Zbi (k+1) h
   refine ⟨j+1,?_,by simpa using h2⟩
   rw [Zy]
   simp only [hp]
   rw [show k+(j+1)=k+1+j by omega]
   exact h1
theorem Zbd {α:Type} {p:α→Bool} {x:α} {l:List α} (h:l.find? p=some x):∃ j:Nat,Ze p l=(j:Int)∧l[j]? =some x:=by
 obtain ⟨j,h1,h2⟩:=Zbi 0 h
 exact ⟨j,by rw [Ze,h1];simp,h2⟩
theorem ZdA {a b:Int} (h:a≤b) (ha:I64 a) (hb:I64 b):IntKind.u64.wrap (IntKind.u64.wrap b - IntKind.u64.wrap a)=b - a:=by
 obtain ⟨a1,a2⟩:=ha
 obtain ⟨b1,b2⟩:=hb
 have e:∀ z:Int,IntKind.u64.wrap z=z % 18446744073709551616:=fun z=>by simp [IntKind.wrap,IntKind.bits,IntKind.signed]
 rw [e,e,e]
 omega
theorem Q7 {w:World} {g:Nat} {t:TypeId} {a b c d:Value} {P:Prop} (h:Blk w g t #[a,b,c,d]) (hp:P):w.cell? ⟨g,0,none⟩=some a∧w.cell? ⟨g,1,none⟩=some b∧w.cell? ⟨g,2,none⟩=some c∧w.cell? ⟨g,3,none⟩=some d∧P:=⟨h.cell 0,h.cell 1,h.cell 2,h.cell 3,hp⟩
theorem Zdf (tes:List Te) (s:ByteArray):((ZY tes).find? (fun x=>decide (x.1=s))=none∧Yk (tes.map Te.tb) s=-1)∨∃ (k:Nat) (x:Te),tes[k]? =some x∧(ZY tes).find? (fun x=>decide (x.1=s))=some (x.nm,x.cs)∧Yk (tes.map Te.tb) s=(k:Int):=by
 have e1:(ZY tes).find? (fun x=>decide (x.1=s))=(tes.find? (fun x=>decide (x.nm=s))).map (fun x=>(x.nm,x.cs)):=by unfold ZY;rw [List.find?_map];rfl
 have e2:(tes.map Te.tb).find? (fun t=>t.nm.toList==s.toList)=(tes.find? (fun x=>decide (x.nm=s))).map Te.tb:=by
  rw [List.find?_map]
  congr 1
  congr 1
  funext x
  exact Zaw x.nm s
 cases hf:tes.find? (fun x=>decide (x.nm=s)) with
 | none=>
  left
  rw [hf] at e1 e2
  exact ⟨e1,Zbc e2⟩
 | some x=>
  right
  rw [hf] at e1 e2
  obtain ⟨j,h1,h2⟩:=Zbd e2
  rw [KQ] at h2
  cases hj:tes[j]? with
  | none=>rw [hj] at h2;cases h2
  | some y=>
   rw [hj] at h2
   have h3:y.tb=x.tb:=by simpa using h2
   have h4:(y.nm,y.cs)=(x.nm,x.cs):=by
    have ha:y.tb.nm=x.tb.nm:=by rw [h3]
    have hb:y.tb.cs=x.tb.cs:=by rw [h3]
    exact Prod.ext ha hb
   exact ⟨j,y,hj,by rw [e1];simp [h4],h1⟩
theorem ZfE (cs:List Col) (c:ByteArray):(WJ cs c=false∧Ze (named c) cs=-1)∨∃ (j:Nat) (x:Col),cs[j]? =some x∧Ze (named c) cs=(j:Int)∧WJ cs c=(decide (x.ty=1)&&!x.key):=by
 have e:(fun x:Col=>decide (x.name=c))=named c:=by funext x;exact (Zaw x.name c).symm
 unfold WJ
 rw [e]
 cases hf:cs.find? (named c) with
 | none=>exact .inl ⟨rfl,Zbc hf⟩
 | some x=>
  obtain ⟨j,h1,h2⟩:=Zbd hf
  exact .inr ⟨j,x,h2,h1,rfl⟩
theorem Zfp (M:Nat→Prop) (w:World) (hM:∀ b,M b→b<w.heap.size) (A:Option Addr) (n c:Nat) (l:List Tg) (B:Option Addr) (m e:Nat) (tes:List Te) (k:Nat) (t:Tg) (r:Rk) (rs:List Rk) (d:Nat) (ht:Ro w M (TgsIn (d+1) A n l)) (hD:Ro w M (TesIn B m tes)) (hn:n≤4611686018427387904) (hm:m≤4611686018427387904) (hok:∀ t∈l,TgFit (d+1) t) (hcol:∀ x∈tes,x.n≤4398046511104) (hk:l[k]? =some t) (hb:t.before=false) (hr:t.rank.l=r::rs) (hI:I64 r.lo∧I64 r.hi):
  Calls Tryz.prog 36 #[.slice A n c,.slice B m e,.int .i64 k] w fun e w' =>e=.returned (.bool (Vs (d+1) l (ZY tes) t r))∧Below w.heap.size w w' :=by
 have HRK:=hid (show Vs (d+1) l (ZY tes) t r=((match (ZY tes).find? (fun x=>decide (x.1=r.tab)) with|some x=>WJ x.2 r.col|none=>false)&&(decide (r.lo≤r.hi)&&decide (r.hi - r.lo≤1048576))&&Wh (d+1) t r&&XR l r) from rfl)
 generalize Vs (d+1) l (ZY tes) t r=RK at *
 have hfit:=hok t (Ka hk)
 obtain ⟨tname,ttab,tbef,tev,⟨cA,cn,cc,cl⟩,teach,⟨pA,pn,pc,pl⟩,⟨fA,fn,fc,fl⟩,⟨kA,kn,kc,kl⟩,⟨oA,on,oc,ol⟩,⟨uA,un,uc,ul⟩⟩:=t
 obtain ⟨rtab,rcol,rlo,rhi⟩:=r
 simp only at hb hr hI HRK
 subst hb
 subst hr
 have hkn:k<n:=by rw [←ht.now.len];exact (Kc.1 hk).1
 have hrn:rs.length+1=kn:=by have:=(ht.now.2 _ (Ka hk)).ranks.len;simpa using this
 have hkn0:0<kn:=by omega
 have hkn1:¬((kn:Int)=0):=by omega
 have hkn2:((kn:Int)==0)=false:=by simpa using hkn1
 have hd0:decide ((k:Int)<0)=false:=by simp
 have hd1:decide (n≤k)=false:=by simp;omega
 have hd2:decide ((n:Int)≤(k:Int))=false:=by simp;omega
 have hTR:Ro w M (RksIn kA kn (⟨rtab,rcol,rlo,rhi⟩::rs)):=ht.imp fun w2 h2=>(h2.2 _ (Ka hk)).ranks
 have KS:=((Hold.start M w hM).add (hD.less (by simp [Mut]))).add (ht.less (by simp [Mut,Hp.foot]))
 obtain ⟨b,o,rfl,hb,hcl,-⟩:=ht.now.at_ hk
 have c2:=hcl 2 _ (by omega) rfl
 have c8:=hcl 8 _ (by omega) rfl
 simp only [SlP.v] at c8
 obtain ⟨b2,o2,rfl,hb2,hcr,-⟩:=hTR.now.at_ (k:=0) (x:=⟨rtab,rcol,rlo,rhi⟩) rfl
 have r0:=hcr 0 _ (by omega) rfl
 have r1:=hcr 1 _ (by omega) rfl
 have r2:=hcr 2 _ (by omega) rfl
 have r3:=hcr 3 _ (by omega) rfl
 simp only [Nat.zero_mul,Nat.add_zero] at r0 r1 r2 r3
 have HKL:=hid hk
 have HOK:=hid hok
 have HFIT:=hid hfit
 clear hcl hcr hTR ht hk hrn hok hfit
 have K0:=KS.Za #[.string rtab,.string rcol,.int .i64 rlo,.int .i64 rhi] 27
 have F0:=K0.facts
 simp only [zg] at F0
 rcases Zdf tes rtab with ⟨hf,hs⟩|⟨q,x,hx,hf,hs⟩
 ·have hRK:RK=false:=by rw [HRK.out,hf];rfl
  subst hRK
  clear HRK hf
  go_enter Tryz.func36,Tryz.ntmps36
  go_wp2_with fail
  refine (Zlt _ _ K0.Zb B m e tes rtab (K0.ro 2 rfl) hm hs).mono ?_
  rintro e w1 ⟨rfl,b1⟩
  have K1:=(K0.call b1).Za #[.string ⟨#[]⟩,.slice none 0 0] 66
  clear K0 F0 b1 hs
  have F1:=K1.facts
  simp only [zg] at F1
  go_wp2_with fail
  refine (Q5 Zc _ (fun b hb=>hb.elim) ⟨#[]⟩ none 0 0 [] rcol (fun _ _ _=>ZG 4 _) (by omega)).mono ?_
  rintro e w2 ⟨rfl,b2⟩
  have K2:=K1.call b2
  go_wp2_with fail
  go_ret
  exact ⟨by first|rfl|simp,K2.below⟩
 ·have hxn:=hcol x (Ka hx)
  have hRK:=hid (show RK=(WJ x.cs rcol&&(decide (rlo≤rhi)&&decide (rhi - rlo≤1048576))&&Wh (d+1) ⟨tname,ttab,false,tev,⟨cA,cn,cc,cl⟩,teach,⟨pA,pn,pc,pl⟩,⟨fA,fn,fc,fl⟩,⟨some ⟨b2,o2,none⟩,kn,kc,⟨rtab,rcol,rlo,rhi⟩::rs⟩,⟨oA,on,oc,ol⟩,⟨uA,un,uc,ul⟩⟩ ⟨rtab,rcol,rlo,rhi⟩&&XR l ⟨rtab,rcol,rlo,rhi⟩) by rw [HRK.out,hf])
  clear HRK hf
  go_enter Tryz.func36,Tryz.ntmps36
  go_wp2_with fail
  refine (Zlu _ _ K0.Zb B m e tes rtab (K0.ro 2 rfl) hm q x hx hs hxn).mono ?_
  rintro e w1 ⟨C,q2,cap,rfl,hq2,rC,b1⟩
  have K1:=((K0.call b1).add rC).Za #[.string x.nm,.slice C q2 cap] 66
  have HQ2:=hid hq2
  have hq3:q2≤4398046511104:=by rw [hq2,(RdC.ZW ((KS.ro 1 rfl).now.2 x (Ka hx)).1).len];exact hxn
  clear K0 F0 b1 rC hs hq2 c2 c8 r0 r1 r2 r3 hb2 hb hx
  have F1:=K1.facts
  simp only [zg] at F1
  have hfin:=hid (show ∀ z:Bool,Ze (named rcol) x.cs=Ze (named rcol) x.cs from fun _=>rfl)
  clear hfin
  have hce:=Q5 _ _ K1.Zb x.nm C q2 cap x.cs rcol (K1.ro 1 rfl) (by omega)
  go_wp2_with fail
  rcases ZfE x.cs rcol with ⟨hg,hj⟩|⟨j,col,hcj,hj,hg⟩
  ·have hRK2:RK=false:=by rw [hRK.out,hg];simp
   subst hRK2
   rw [hj] at hce
   clear hRK hg hj
   refine hce.mono ?_
   rintro e w2 ⟨rfl,b2'⟩
   have K2:=K1.call b2'
   clear K1 F1 hce b2'
   have F2:=K2.facts
   simp only [zg] at F2
   go_wp2_with fail
   go_ret
   exact ⟨by first|rfl|simp,K2.below⟩
  ·rw [hj] at hce
   have hjq:j<q2:=by rw [HQ2.out];exact (Kc.1 hcj).1
   refine hce.mono ?_
   rintro e w2 ⟨rfl,b2'⟩
   have K2:=K1.call b2'
   clear K1 F1 hce b2' hj
   have F2:=K2.facts
   simp only [zg] at F2
   obtain ⟨b4,o4,rfl,hb4,x0,x1,x2,x3⟩:=(RdC.ZW (K2.ro 1 rfl).now).at_ hcj
   obtain ⟨cnm,cty,cnn,ckey⟩:=col
   simp only at hg x0 x1 x2 x3
   have hd3:decide ((j:Int)<0)=false:=by simp
   by_cases h1:cty=1
   ·subst h1
    cases ckey
    ·by_cases h2:rlo≤rhi
     ·have h2b:decide (rhi<rlo)=false:=by simp;omega
      have hu:=ZdA h2 hI.1 hI.2
      by_cases h3:rhi - rlo≤1048576
      ·have hRK2:=hid (show RK=(Wh (d+1) ⟨tname,ttab,false,tev,⟨cA,cn,cc,cl⟩,teach,⟨pA,pn,pc,pl⟩,⟨fA,fn,fc,fl⟩,⟨some ⟨b2,o2,none⟩,kn,kc,⟨rtab,rcol,rlo,rhi⟩::rs⟩,⟨oA,on,oc,ol⟩,⟨uA,un,uc,ul⟩⟩ ⟨rtab,rcol,rlo,rhi⟩&&XR l ⟨rtab,rcol,rlo,rhi⟩) by rw [hRK.out,hg];simp [h2,h3])
       clear hRK hg
       have hown:=fun (M:Nat→Prop) (w:World) (hM:∀ b,M b→b<w.heap.size) (ha:Ro w M (TgsIn (d+1) (some ⟨b,o,none⟩) n l))=>Zja M w hM ⟨tname,ttab,false,tev,⟨cA,cn,cc,cl⟩,teach,⟨pA,pn,pc,pl⟩,⟨fA,fn,fc,fl⟩,⟨some ⟨b2,o2,none⟩,kn,kc,⟨rtab,rcol,rlo,rhi⟩::rs⟩,⟨oA,on,oc,ol⟩,⟨uA,un,uc,ul⟩⟩ ⟨rtab,rcol,rlo,rhi⟩ d (ha.imp fun w2 h2=>(h2.2 _ (Ka HKL.out)).parts.2) (KI HFIT.out.n (by decide)) (fun a ha=>⟨KI (HFIT.out.a a ha).1 (by decide),(HFIT.out.a a ha).2⟩)
       have hresp:=fun (M:Nat→Prop) (w:World) (hM:∀ b,M b→b<w.heap.size) (ha:Ro w M (TgsIn (d+1) (some ⟨b,o,none⟩) n l))=>Zj6 M w hM (some ⟨b,o,none⟩) n c l ⟨rtab,rcol,rlo,rhi⟩ d ha hn HOK.out
       simp only [Tg.val,Rk.val] at hown hresp
       generalize XR l ⟨rtab,rcol,rlo,rhi⟩=RB at *
       cases hO:Wh (d+1) ⟨tname,ttab,false,tev,⟨cA,cn,cc,cl⟩,teach,⟨pA,pn,pc,pl⟩,⟨fA,fn,fc,fl⟩,⟨some ⟨b2,o2,none⟩,kn,kc,⟨rtab,rcol,rlo,rhi⟩::rs⟩,⟨oA,on,oc,ol⟩,⟨uA,un,uc,ul⟩⟩ ⟨rtab,rcol,rlo,rhi⟩
       ·rw [hO] at hown hRK2
        have hRK3:RK=false:=by rw [hRK2.out];rfl
        subst hRK3
        have hc5:=hown _ _ K2.drew.Zb (K2.drew.ro 3 rfl)
        have c11:=(K2.ro 3 rfl).now.c11 HKL.out
        simp only at c11
        have HOWN:=hid hown
        clear hown hresp
        go_wp2_with fail
        have HKK:=K2.Zb
        refine Lj (by kernel_rfl) ?_
        refine Zn 11 102 (_) (spL [(96,IsV (.bool false))]) (by kernel_rfl) (by kernel_rfl) (by kernel_rfl) rfl ?_ (K2.drew) ?_
        ·exact Zd Yu (Zm _)
        simp only [zd,zp,List.getElem_toArray,List.getElem_cons_zero,List.getElem_cons_succ]
        iterate 3
         refine' dv rfl rfl rfl (fun wv HC=>?_) ?_;rotate_left
         · go_simp<;>rfl
         simp only [zp]
        refine' dv rfl rfl rfl (fun wv HC=>?_) ?_;rotate_left
        ·obtain ⟨q0,q1,q2,q3,q4,q5,q6,q7,q8,q9,q10⟩:=(HC.ro 3 rfl).now.c11 HKL.out;go_simp<;>rfl
        simp only [zp]
        refine' dv rfl rfl rfl (fun wv HC=>?_) ?_;rotate_left
        ·obtain ⟨q0,q1,q2,q3,-⟩:=Q7 (P:=True) (HC.Zg 2 rfl) trivial;go_simp<;>rfl
        simp only [zp]
        refine Zi 96 (IsV (.bool false)) (f:=72) (args:=#[.agg #[.string tname,.string ttab,.bool false,.int .i64 tev,.slice cA cn cc,.bool teach,.slice pA pn pc,.slice fA fn fc,.slice (some ⟨b2,o2,none⟩) kn kc,.slice oA on oc,.slice uA un uc],.agg #[.string rtab,.string rcol,.int .i64 rlo,.int .i64 rhi]]) rfl rfl rfl rfl (fun wv=>?_) (fun wv HC hrm hD=>?_) ?_
        ·go_simp<;>rfl
        ·refine (HOWN.out _ _ HC.Zb (HC.ro 3 rfl)).mono ?_
         rintro e w5 ⟨rfl,b5⟩
         exact ⟨_,rfl,rfl,HC.call b5,RM.below b5⟩
        rintro x5 wx HCx rfl
        simp only [zp]
        refine' dv rfl rfl rfl (fun wv HC=>?_) ?_;rotate_left
        · go_simp<;>rfl
        iterate 3
         simp only [zp]
         refine dw_skip rfl rfl rfl ?_
        simp only [zp]
        refine' dv rfl rfl rfl (fun wv HC=>?_) ?_;rotate_left
        · go_simp<;>rfl
        simp only [zp]
        refine Zk ?_
        rintro wx2 HX
        rintro hrm HG
        clear HG
        go_wp2_with fail
        go_ret
        exact ⟨by first|rfl|simp,HX.below⟩
       ·rw [hO] at hown hRK2
        have hRK3:RK=RB:=by rw [hRK2.out];simp
        subst hRK3
        have hc5:=hown _ _ K2.drew.Zb (K2.drew.ro 3 rfl)
        have HRESP:=hid hresp
        clear hown hresp
        go_wp2_with fail
        go_region_held3 (fun w' =>w'.cell? ⟨w.heap.size,0,none⟩=some (.string rtab)∧w'.cell? ⟨w.heap.size,1,none⟩=some (.string rcol)∧w'.cell? ⟨w.heap.size,2,none⟩=some (.int .i64 rlo)∧w'.cell? ⟨w.heap.size,3,none⟩=some (.int .i64 rhi)∧w'.cell? ⟨b,o+k * 11,none⟩=some (.string tname)∧w'.cell? ⟨b,o+k * 11+1,none⟩=some (.string ttab)∧w'.cell? ⟨b,o+k * 11+2,none⟩=some (.bool false)∧w'.cell? ⟨b,o+k * 11+3,none⟩=some (.int .i64 tev)∧w'.cell? ⟨b,o+k * 11+4,none⟩=some (.slice cA cn cc)∧w'.cell? ⟨b,o+k * 11+5,none⟩=some (.bool teach)∧w'.cell? ⟨b,o+k * 11+6,none⟩=some (.slice pA pn pc)∧w'.cell? ⟨b,o+k * 11+7,none⟩=some (.slice fA fn fc)∧w'.cell? ⟨b,o+k * 11+8,none⟩=some (.slice (some ⟨b2,o2,none⟩) kn kc)∧w'.cell? ⟨b,o+k * 11+9,none⟩=some (.slice oA on oc)∧w'.cell? ⟨b,o+k * 11+10,none⟩=some (.slice uA un uc))
         (first|exact Q7 (K2.drew.Zg 2 rfl) ((K2.drew.ro 3 rfl).now.c11 HKL.out)|exact Q7 (K3.Zg 2 rfl) ((K3.ro 3 rfl).now.c11 HKL.out)|exact Q7 (K4.Zg 2 rfl) ((K4.ro 3 rfl).now.c11 HKL.out))
         (first
          | (go_at_call 72;((with_reducible refine hc5.mono ?_);rintro e w5 ⟨rfl,b5⟩;have K3:=K2.drew.call b5;have hc6:=HRESP.out _ _ K3.Zb (K3.ro 3 rfl)))
          | (go_at_call 73;((with_reducible refine hc6.mono ?_);rintro e w6 ⟨rfl,b6⟩;have K4:=K3.call b6)))
        go_wp2_with fail
        go_ret
        exact ⟨by first|rfl|simp,K4.below⟩
      ·have hRK2:RK=false:=by rw [hRK.out,hg];simp [h3]
       subst hRK2
       clear hRK hg
       go_wp2_with fail
       go_ret
       exact ⟨by first|rfl|simp,K2.below⟩
     ·have hRK2:RK=false:=by rw [hRK.out,hg];simp [h2]
      have h2b:decide (rhi<rlo)=true:=by simp;omega
      subst hRK2
      clear hRK hg
      go_wp2_with fail
      go_ret
      exact ⟨by first|rfl|simp,K2.below⟩
    ·have hRK2:RK=false:=by rw [hRK.out,hg];simp
     subst hRK2
     clear hRK hg
     go_wp2_with fail
     go_ret
     exact ⟨by first|rfl|simp,K2.below⟩
   ·have hRK2:RK=false:=by rw [hRK.out,hg];simp [h1]
    have h1b:(cty !=1)=true:=by simpa using h1
    subst hRK2
    clear hRK hg
    go_wp2_with fail
    all_goals first
     | (exfalso;omega)
     | skip
    go_ret
    exact ⟨by first|rfl|simp,K2.below⟩
def Jq (tabs:List (ByteArray × List Col)) (r:Rk):Bool:=(match tabs.find? (fun x=>decide (x.1=r.tab)) with|some x=>WJ x.2 r.col|none=>false)&&(decide (r.lo≤r.hi)&&decide (r.hi - r.lo≤1048576))
theorem ZaC {d k:Nat} {l:List Tg} {tabs:List (ByteArray × List Col)} {t:Tg} {r:Rk} {rs:List Rk} (ht:l[k]? =some t) (hb:t.before=false) (hr:t.rank.l=r::rs):YO d l tabs k=((Jq tabs r&&Wh d t r)&&XR l r):=by
 unfold YO
 rw [if_pos (by omega),show ((k:Int)).toNat=k by simp,ht]
 simp only
 rw [hb,Lf (by decide),hr]
 rfl
end
section
open Go.RowKit Go.Maps
theorem Zh0 {P : Program} {k : TypeId} {f0 f1 f2 f3 : Field} (hu : P.underlying k = some (.struct #[f0, f1, f2, f3])) (hk : P.keyType k = true) (hc : P.cellsOf k = 4) (hs : 0 < P.types.size) (n0 : (f0.name != "_") = true) (n1 : (f1.name != "_") = true) (n2 : (f2.name != "_") = true) (n3 : (f3.name != "_") = true)
  (o0:f0.offset=0) (o1:f1.offset=1) (o2:f2.offset=2) (o3:f3.offset=3) (u0:P.underlying f0.type=some .string) (u1:P.underlying f1.type=some .string) (u2:P.underlying f2.type=some (.int .i64)) (u3:P.underlying f3.type=some (.int .i64)) (c0:P.cellsOf f0.type=1) (c1:P.cellsOf f1.type=1) (c2:P.cellsOf f2.type=1) (c3:P.cellsOf f3.type=1)
  {r s:ByteArray} {a b:Int} (hr:r.size≤maxLen) (hl:s.size≤maxLen) (wa:(Lit.int .i64 a).wf=true) (wb:(Lit.int .i64 b).wf=true):∃ kl,keyOf P k (.agg #[.string r,.string s,.int .i64 a,.int .i64 b])=some kl:=by
 obtain ⟨m,hm⟩:∃ m,P.types.size=m+1:=⟨P.types.size - 1,by omega⟩
 simp [keyOf,hu,hk,Value.formed,hc,hm,Program.keyLits,Value.cells,n0,n1,n2,n3,o0,o1,o2,o3,u0,u1,u2,u3,c0,c1,c2,c3,wa,wb,hr,hl]
theorem Tryz.Zkh:Keyed Tryz.prog 27:=Keyed.of_law (deep_law_laid Tryz.ZbW (m:=8) (by omega) (of_decide_eq_true (by kernel_rfl)) (by kernel_rfl) (by kernel_rfl))
theorem ZhZ (x:Rk) (h:Ub x):∃ kl,keyOf Tryz.prog 27 x.val=some kl:=
 Zh0 Tryz.underlying27 (by kernel_rfl) (by kernel_rfl) (of_decide_eq_true (by kernel_rfl)) (by rfl) (by rfl) (by rfl) (by rfl) rfl rfl rfl rfl Tryz.underlying9 Tryz.underlying9 Tryz.underlying2 Tryz.underlying2 (by kernel_rfl) (by kernel_rfl) (by kernel_rfl) (by kernel_rfl) h.2.1 h.2.2 (wf_i64 h.1.1) (wf_i64 h.1.2)
def ZcH:KeyFam Tryz.prog 27 Rk where
 val:=Rk.val
 ok:=Ub
 key:=ZhZ
 inj:=fun x y h=>by
  cases x;cases y
  simp [Rk.val] at h
  obtain ⟨rfl,rfl,rfl,rfl⟩:=h
  rfl
theorem Tryz.setR:SetT Tryz.prog 167 27 4:=⟨Tryz.underlying167,Tryz.underlying4,fun w=>by kernel_rfl,Tryz.Zkh⟩
section
variable {P:Program} {t k e:TypeId} {κ:Type} {F:KeyFam P k κ} {b n:Nat} {S:κ→Prop} {M:Nat→Prop} {row:Option Nat} {w0 w:World} {L:List Hp}
end
theorem ZlV (M:Nat→Prop) (w:World) (hM:∀ b,M b→b<w.heap.size) (A:Option Addr) (n c:Nat) (l:List Te) (f:FuncId) (cv:Value) (s:ByteArray) (S:World→Prop) (hcf:∀ args w,Sem.run Tryz.prog (callFunc f args) w=.ok (.enter f args) w) (hf:∀ (w2:World) (x:Te),S w2→Calls Tryz.prog f #[.agg #[.string x.nm,.slice x.A x.n x.c,.int .i64 x.nx,.slice x.B x.m x.d],cv] w2 fun e w' =>e=.returned (.bool (x.nm.toList==s.toList))∧Below w2.heap.size w2 w') (hB:Ro w M S) (hD:Ro w M (TesIn A n l)) (hn:n≤4611686018427387904):
  Calls Tryz.prog 74 #[.slice A n c,.func (.func f) #[] #[cv]] w fun e w' =>e=.returned (.int .i64 (Yk (l.map Te.tb) s))∧Below w.heap.size w w' :=by
 have HL:=hid hD.now.len
 have HCF:=hid hcf
 have HF:=hid hf
 clear hcf hf
 have K0:=(((Hold.start M w hM).add (hB.less (by simp [Mut]))).add (hD.less (by simp [Mut,Hp.foot])))
 go_enter Tryz.func74,Tryz.ntmps74
 go_wp2_with fail
 go_loopw [8] (fun iv wr=>∃ (k:Nat),k≤n∧iv=.int .i64 k∧Hid (Yk (l.map Te.tb) s=Zy (fun t=>t.nm.toList==s.toList) k ((l.map Te.tb).drop k))∧Hold M none w wr [.ro (TesIn A n l),.ro S]) (fun iv _=>n - (intOf iv).toNat)
 case atStart=>exact ⟨0,by omega,rfl,hid rfl,K0⟩
 case round=>
  clear K0
  obtain ⟨k,hk,rfl,HC,H⟩:=hrel
  by_cases hlt:k<n
  ·have hd:decide ((k:Int)<(n:Int))=true:=by simp;omega
   have i0:(0:Int)≤(k:Int):=by omega
   have i1:(k:Int)<(n:Int):=by omega
   obtain ⟨x,hx⟩:=Zl HL.out hlt
   obtain ⟨g,o,rfl,hb,c0,c1,c2,c3,-⟩:=(H.ro 0 rfl).now.at_ hx
   have HX:=hid (XE hx)
   clear hx
   go_wp2_with fail
   rw [HCF.out]
   refine (HF.out wr x (H.ro 1 rfl).now).mono ?_
   rintro e w1 ⟨rfl,b1⟩
   have K1:=H.call b1
   clear H b1
   cases hz:(x.nm.toList==s.toList)
   ·have HN:=hid (XZ HC.out HX.out hz)
    clear hz
    go_wp2_with fail
    go_roundw
    case rel=>exact ⟨k+1,by omega,by go_num,HN,K1⟩
    case measure=>simp [intOf];omega
   ·have HN:=hid (show Yk (l.map Te.tb) s=(k:Int) from Ww HC.out HX.out hz)
    clear hz
    go_wp2_with fail
    go_ret
    exact ⟨by rw [HN.out]<;>rfl,K1.below⟩
  ·obtain rfl:n=k:=by omega
   have hd:decide ((n:Int)<(n:Int))=false:=by simp
   have HN:=hid (show Yk (l.map Te.tb) s=-1 from XY HC.out (by rw [Kj,HL.out];exact Kg _))
   go_wp2_with fail
   go_ret
   exact ⟨by rw [HN.out]<;>rfl,H.below⟩
theorem Ziq {m:Nat} {D:Int} (hm:m≤1000000) (h0:0≤D) (h1:D≤1048576):wrap64 (min (IntKind.u64.wrap (min (m:Int) 17592186044416 * (min D 17592186044416+1))) 17592186044416)=(m:Int) * (D+1):=by
 have hmm:(m:Int) * (D+1)≤1000000 * 1048577:=Int.mul_le_mul (by omega) (by omega) (by omega) (by omega)
 have hm0:0≤(m:Int) * (D+1):=Int.mul_nonneg (by omega) (by omega)
 rw [Int.min_eq_left (show (m:Int)≤17592186044416 by omega),Int.min_eq_left (show D≤17592186044416 by omega)]
 generalize (m:Int) * (D+1)=p at *
 have hu:IntKind.u64.wrap p=p:=by
  have e:IntKind.u64.wrap p=p % 18446744073709551616:=by simp [IntKind.wrap,IntKind.bits,IntKind.signed]
  rw [e];omega
 rw [hu,Int.min_eq_left (by omega)]
 unfold wrap64
 omega
theorem Zip (w:World) (r:Rk) (nm:ByteArray) (A:Option Addr) (n c:Nat) (nx:Int) (B:Option Addr) (m d:Nat) (hI:I64 r.lo∧I64 r.hi) (h1:r.lo≤r.hi) (h2:r.hi - r.lo≤1048576) (hm:m≤1000000):Calls Tryz.prog 76 #[r.val,.agg #[.string nm,.slice A n c,.int .i64 nx,.slice B m d]] w fun e w' =>e=.returned (.int .i64 ((m:Int) * (r.hi - r.lo+1)))∧Below w.heap.size w w' :=by
 obtain ⟨rtab,rcol,rlo,rhi⟩:=r
 simp only at hI h1 h2 ⊢
 have K0:=((Hold.Yi w).Za #[.string rtab,.string rcol,.int .i64 rlo,.int .i64 rhi] 27).Za #[.string nm,.slice A n c,.int .i64 nx,.slice B m d] 69
 simp only [World.size_alloc] at K0
 have F0:=K0.facts
 simp only [zg] at F0
 have HB:=hid K0.below
 have hB:=fun q=>(K0.drewN q).below
 have HBQ:=hid hB
 clear K0 hB
 have hu:=ZdA h1 hI.1 hI.2
 have d0:decide (rhi<rlo)=false:=by simp;omega
 simp only [Rk.val]
 by_cases h0:m=0
 ·subst h0
  go_enter Tryz.func76,Tryz.ntmps76
  go_wp2_with fail
  go_ret
  exact ⟨by first|rfl|simp,HB.out⟩
 ·have m0:((m:Int)==0)=false:=by simp;omega
  obtain ⟨D,hD⟩:∃ D:Int,rhi - rlo=D:=⟨_,rfl⟩
  rw [hD] at hu h2 ⊢
  have hD0:0≤D:=by omega
  have hmm:(m:Int) * (D+1)≤1000000 * 1048577:=Int.mul_le_mul (by omega) (by omega) (by omega) (by omega)
  have hm0:0≤(m:Int) * (D+1):=Int.mul_nonneg (by omega) (by omega)
  clear hD h0
  go_enter Tryz.func76,Tryz.ntmps76
  go_wp2_with fail
  go_ret
  exact ⟨by rw [←Ziq hm hD0 h2]<;>rfl,HB.out⟩
end
section
open Go.RowKit Go.Maps
def VQ (tes:List Te) (r:Rk):Int:=match tes[(Yk (tes.map Te.tb) r.tab).toNat]? with|some x=>(x.m:Int) * (r.hi - r.lo+1)|none=>0
open Classical in
noncomputable def UU (d:Nat) (ts:List Tg) (tes:List Te) (k:Nat) (s:Int × List Rk):Int × List Rk:=
 match ts[k]? with
 | some t=>(match t.rank.l with
  | r::_=>if YO d ts (ZY tes) k=true∧r ∉ s.2 then (min (s.1+VQ tes r) 17592186044416,r::s.2) else s
  | []=>s)
 | none=>s
noncomputable def Yy (d:Nat) (ts:List Tg) (tes:List Te):Nat→Int × List Rk
 | 0=>(0,[])
 | k+1=>UU d ts tes k (Yy d ts tes k)
section
variable {d k:Nat} {ts:List Tg} {tes:List Te} {s:Int} {q:List Rk}
theorem Zdw (h:Yy d ts tes k=(s,q)) (hc:YO d ts (ZY tes) k=false):Yy d ts tes (k+1)=(s,q):=by
 rw [Yy,h,UU]
 split
 ·split
  ·rw [if_neg (by simp [hc])]
  ·rfl
 ·rfl
theorem ZlY {t:Tg} {r:Rk} {rs:List Rk} (h:Yy d ts tes k=(s,q)) (hx:ts[k]? =some t) (hr:t.rank.l=r::rs) (hin:r∈q):Yy d ts tes (k+1)=(s,q):=by
 rw [Yy,h,UU,hx]
 simp only
 rw [hr]
 simp only
 rw [if_neg (by simp [hin])]
theorem Zdv {t:Tg} {r:Rk} {rs:List Rk} (h:Yy d ts tes k=(s,q)) (hc:YO d ts (ZY tes) k=true) (hx:ts[k]? =some t) (hr:t.rank.l=r::rs) (hin:r ∉ q):Yy d ts tes (k+1)=(min (s+VQ tes r) 17592186044416,r::q):=by
 rw [Yy,h,UU,hx]
 simp only
 rw [hr]
 simp only
 rw [Lg ⟨hc,hin⟩]
theorem ZaD {tabs:List (ByteArray × List Col)} (h:YO d ts tabs k=true):∃ t r rs,ts[k]? =some t∧t.before=false∧t.rank.l=r::rs∧Jq tabs r=true:=by
 cases ht:ts[k]? with
 | none=>rw [QR (.inr ⟨k,rfl,.inl (by simpa using ht)⟩)] at h;cases h
 | some t=>
  cases hb:t.before with
  | true=>rw [QR (.inr ⟨k,rfl,.inr ⟨t,ht,.inl hb⟩⟩)] at h;cases h
  | false=>
   cases hr:t.rank.l with
   | nil=>rw [QR (.inr ⟨k,rfl,.inr ⟨t,ht,.inr hr⟩⟩)] at h;cases h
   | cons r rs=>
    rw [ZaC ht hb hr] at h
    simp only [Bool.and_eq_true] at h
    exact ⟨t,r,rs,rfl,hb,hr,h.1.1⟩
theorem Zco {r:Rk} (h:Jq (ZY tes) r=true):(∃ (j:Nat) (x:Te),tes[j]? =some x∧Yk (tes.map Te.tb) r.tab=(j:Int)∧VQ tes r=(x.m:Int) * (r.hi - r.lo+1))∧r.lo≤r.hi∧r.hi - r.lo≤1048576:=by
 unfold Jq at h
 simp only [Bool.and_eq_true,decide_eq_true_eq] at h
 refine ⟨?_,h.2.1,h.2.2⟩
 rcases Zdf tes r.tab with ⟨hf,-⟩|⟨j,x,hx,-,hs⟩
 ·rw [hf] at h;exact absurd h.1 (by simp)
 ·exact ⟨j,x,hx,hs,by unfold VQ;rw [hs,Int.toNat_natCast,hx]⟩
end
theorem ZaE (M:Nat→Prop) (w:World) (hM:∀ b,M b→b<w.heap.size) (A:Option Addr) (n c:Nat) (l:List Tg) (B:Option Addr) (m e:Nat) (tes:List Te) (i:Int) (d:Nat) (ht:Ro w M (TgsIn (d+1) A n l)) (hD:Ro w M (TesIn B m tes)) (hn:n≤4611686018427387904) (hm:m≤1000) (hok:∀ t∈l,TgFit (d+1) t) (hcol:∀ x∈tes,x.n≤1000) (hI:∀ t∈l,∀ r∈t.rank.l,Zal r):Calls Tryz.prog 36 #[.slice A n c,.slice B m e,.int .i64 i] w fun e w' =>e=.returned (.bool (YO (d+1) l (ZY tes) i))∧Below w.heap.size w w' :=by
 by_cases hb:Gp l i
 ·rw [QR hb]
  exact Zfo M w hM A n c l B m e tes i d ht hn hb
 ·have h0:0≤i:=by
   rcases Int.lt_or_le i 0 with h|h
   ·exact absurd (.inl h) hb
   ·exact h
  obtain ⟨k,rfl⟩:∃ k:Nat,i=k:=⟨i.toNat,by omega⟩
  cases hx:l[k]? with
  | none=>exact absurd (.inr ⟨k,rfl,.inl (by simpa using hx)⟩) hb
  | some t=>
   cases hbf:t.before with
   | true=>exact absurd (.inr ⟨k,rfl,.inr ⟨t,hx,.inl hbf⟩⟩) hb
   | false=>
    cases hr:t.rank.l with
    | nil=>exact absurd (.inr ⟨k,rfl,.inr ⟨t,hx,.inr hr⟩⟩) hb
    | cons r rs=>
     have e1:YO (d+1) l (ZY tes) k=Vs (d+1) l (ZY tes) t r:=by rw [ZaC hx hbf hr];rfl
     rw [e1]
     exact Zfp M w hM A n c l B m e tes k t r rs d ht hD hn (KI hm (by decide)) hok (fun x hx=>KI (hcol x hx) (by decide)) hx hbf hr (hI t (Ka hx) r (by rw [hr];exact Kl ..))
theorem Zl1 (w:World) (g:Nat) (rtab rcol:ByteArray) (lo hi:Int) (x:Te) (hx:w.heap[g]? =some (.cells #[.string rtab,.string rcol,.int .i64 lo,.int .i64 hi] 27 (0,0))):Calls Tryz.prog 75 #[.agg #[.string x.nm,.slice x.A x.n x.c,.int .i64 x.nx,.slice x.B x.m x.d],.pointer (some ⟨g,0,none⟩)] w fun e w' =>e=.returned (.bool (x.nm.toList==rtab.toList))∧Below w.heap.size w w' :=by
 obtain ⟨xnm,xA,xn,xc,xcs,xnx,xB,xm,xd,xrs⟩:=x
 simp only
 have hlt:g<w.heap.size:=by
  rcases Nat.lt_or_ge g w.heap.size with h|h
  ·exact h
  ·rw [Array.getElem?_eq_none h] at hx;cases hx
 have K0:=((Hold.Yi w).add (S:=fun w' =>w'.heap[g]? =some (.cells #[.string rtab,.string rcol,.int .i64 lo,.int .i64 hi] 27 (0,0))) (fun w2 h1 h2=>(h2 g hlt (by simp [Mut,Zc])).trans hx)).Za #[.string xnm,.slice xA xn xc,.int .i64 xnx,.slice xB xm xd] 69
 have s1:=Li _ _ 0 _ _ _ (K0.ro 1 rfl).now
 have F0:=K0.facts
 simp only [zg] at F0
 have HB:=hid K0.below
 clear K0 hx hlt
 go_enter Tryz.func75,Tryz.ntmps75
 go_wp2_with fail
 go_ret
 exact ⟨by first|rfl|simp,HB.out⟩
end
section
open Go.RowKit
def Y1 (s:ByteArray) (f n:Int) (a:Ac):Int:=if a.kind=1∧a.tab=s then min (n+min f 100 * min (if 0<a.qs.n then 100 else (a.rows.n:Int)) 100) 100 else n
def VP (s:ByteArray) (f n:Int) (t:Tg):Int:=if t.before then n else t.acts.l.foldl (Y1 s f) n
def Xf (s:ByteArray):List Tg→List Int→Int→Int
 | t::ts,f::fl,n=>Xf s ts fl (VP s f n t)
 | _,_,n=>n
def Vh (ts:List Tg) (q u:Tg):Bool:=!q.before&&q.acts.l.any (Vf ts u)
def XW (ts:List Tg) (u:Tg):List Tg→List Int→Bool
 | q::qs,f::fl=>(decide (0<f)&&Vh ts q u)||XW ts u qs fl
 | _,_=>false
def J5 (ts qs:List Tg) (ls:List (SlP Ef)):Prop:=∀ (i:Nat) (l:SlP Ef) (q:Tg),ls[i]? =some l→qs[i]? =some q→∀ u,l.l.any (efC u)=Vh ts q u
def We (ts:List Tg) (fl:List Int) (f:ByteArray→Option Int) (t:Tg):Int:=
 let n:=if t.before then 0 else if t.event=1 then Xf t.tab ts fl 0 else if XW ts t ts fl then (f t.tab).getD 0 else 0
 if t.each then n else min n 1
def Vx (ts:List Tg) (fl:List Int) (f:ByteArray→Option Int) (y:ByteArray):Option Int:=(f y).map fun c=>min (c+Xf y ts fl 0) 100
def VZ (ts:List Tg) (fl:List Int) (f:ByteArray→Option Int):List Int:=ts.map (We ts fl f)
def Xv (ts:List Tg):Nat→List Int→(ByteArray→Option Int)→Int→Int
 | 0,_,_,tot=>tot
 | k+1,fl,f,tot=>if fl.sum=0 then tot else Xv ts k (VZ ts fl f) (Vx ts fl f) (min (tot+fl.sum) 17592186044416)
def Xa (tes:List Te) (y:ByteArray):Option Int:=(tes.find? fun x=>decide (x.nm=y)).map fun x=>(x.m:Int)
def Y9 (d:Nat) (ts:List Tg) (tabs:List (ByteArray × List Col)):Nat→Int
 | 0=>0
 | k+1=>Y9 d ts tabs k+(match ts[k]? with|some t=>if !t.before&&!YO d ts tabs k then 1 else 0|none=>0)
noncomputable def YD (d:Nat) (ts:List Tg) (tes:List Te):Int:=
 let m:=(Yy d ts tes ts.length).1+1
 let o:=Y9 d ts (ZY tes) ts.length+1
 if m > 17592186044416 / o then 17592186044416 else m * o
noncomputable def XM (d:Nat) (ts:List Tg) (tes:List Te) (des:List De):Int:=
 if YD d ts tes > 10000 then 17592186044416 else Xv ts (YD d ts tes).toNat (ts.map fun t=>((Ye tes des t).length:Int)) (Xa tes) 0
theorem ZbN {s:ByteArray} {f n:Int} {a:Ac} (hf:0≤f) (hn:0≤n∧n≤100):0≤Y1 s f n a∧Y1 s f n a≤100:=by
 unfold Y1
 split
 ·have h1:0≤min f 100:=by omega
  have h2:0≤min (if 0<a.qs.n then 100 else (a.rows.n:Int)) 100:=by split<;>omega
  have:=Int.mul_nonneg h1 h2
  omega
 ·exact hn
theorem ZbO {s:ByteArray} {f:Int} (hf:0≤f):∀ {l:List Ac} {n:Int},0≤n∧n≤100→0≤l.foldl (Y1 s f) n∧l.foldl (Y1 s f) n≤100
 | [],n,hn=>hn
 | a::l,n,hn=>ZbO (l:=l) hf (ZbN hf hn)
theorem ZhQ {s:ByteArray} {f n:Int} {t:Tg} (hf:0≤f) (hn:0≤n∧n≤100):0≤VP s f n t∧VP s f n t≤100:=by
 unfold VP
 split
 ·exact hn
 ·exact ZbO hf hn
theorem Qe {s:ByteArray}:∀ {ts:List Tg} {fl:List Int} {n:Int},(∀ f∈fl,0≤f)→0≤n∧n≤100→0≤Xf s ts fl n∧Xf s ts fl n≤100
 | [],_,n,_,hn=>hn
 | _::_,[],n,_,hn=>hn
 | t::ts,f::fl,n,hf,hn=>Qe (ts:=ts) (fun g hg=>hf g (Kr _ hg)) (ZhQ (hf f (Kl ..)) hn)
theorem ZhP {s:ByteArray}:∀ {ts:List Tg} {fl:List Int} {k:Nat} {t:Tg} {f n:Int},ts[k]? =some t→fl[k]? =some f→Xf s (ts.drop k) (fl.drop k) n=Xf s (ts.drop (k+1)) (fl.drop (k+1)) (VP s f n t):=by
 intro ts fl k t f n ht hf
 obtain ⟨h1,e1⟩:=Kc.1 ht
 obtain ⟨h2,e2⟩:=Kc.1 hf
 rw [Le h1,Le h2,e1,e2]
 rfl
theorem Zfl {ts qs:List Tg} {u:Tg} {fl:List Int} {k:Nat} {q:Tg} {f:Int} (hq:qs[k]? =some q) (hf:fl[k]? =some f):XW ts u (qs.drop k) (fl.drop k)=((decide (0<f)&&Vh ts q u)||XW ts u (qs.drop (k+1)) (fl.drop (k+1))):=by
 obtain ⟨h1,e1⟩:=Kc.1 hq
 obtain ⟨h2,e2⟩:=Kc.1 hf
 rw [Le h1,Le h2,e1,e2]
 rfl
theorem Zca {ts:List Tg} {fl:List Int} {f:ByteArray→Option Int} {t:Tg} (hf:∀ z∈fl,0≤z) (hm:∀ y c,f y=some c→0≤c∧c≤100):0≤We ts fl f t∧We ts fl f t≤100:=by
 have h1:0≤(f t.tab).getD 0∧(f t.tab).getD 0≤100:=by
  cases h:f t.tab with
  | none=>simp
  | some c=>exact hm _ _ h
 have h2:=Qe (s:=t.tab) (ts:=ts) (fl:=fl) (n:=0) hf (by omega)
 unfold We
 simp only
 split<;>split<;>(try split)<;>(try split)<;>omega
theorem ZlD {ts:List Tg} {fl:List Int} {f:ByteArray→Option Int} (hf:∀ z∈fl,0≤z) (hm:∀ y c,f y=some c→0≤c∧c≤100):∀ y c,Vx ts fl f y=some c→0≤c∧c≤100:=fun y c h=>by
 unfold Vx at h
 obtain ⟨d,hd,rfl⟩:=Option.map_eq_some_iff.1 h
 have h1:=hm y d hd
 have h2:=Qe (s:=y) (ts:=ts) (fl:=fl) (n:=0) hf (by omega)
 omega
theorem ZlC {ts:List Tg} {fl:List Int} {f:ByteArray→Option Int} (hf:∀ z∈fl,0≤z) (hm:∀ y c,f y=some c→0≤c∧c≤100):∀ z∈VZ ts fl f,0≤z∧z≤100:=fun z hz=>by
 obtain ⟨t,_,rfl⟩:=Kt.1 hz
 exact Zca hf hm
theorem za (d:Nat) (ts:List Tg) (tabs:List (ByteArray × List Col)):∀ k:Nat,0≤Y9 d ts tabs k∧Y9 d ts tabs k≤k
 | 0=>by simp [Y9]
 | k+1=>by
  have:=za d ts tabs k
  unfold Y9
  split
  ·split<;>omega
  ·omega
theorem zM (d:Nat) (ts:List Tg) (tes:List Te):∀ k:Nat,0≤(Yy d ts tes k).1∧(Yy d ts tes k).1≤17592186044416
 | 0=>by simp [Yy]
 | k+1=>by
  have h0:=zM d ts tes k
  rw [Yy,UU]
  split
  ·rename_i t ht
   split
   ·rename_i r rs hr
    split
    ·rename_i hc
     obtain ⟨t2,r2,rs2,h1,h2,h3,h4⟩:=ZaD hc.1
     rw [ht] at h1
     injection h1 with h1
     subst h1
     rw [hr] at h3
     injection h3 with h3 _
     subst h3
     obtain ⟨⟨j,x,hx,_,hm⟩,h5,h6⟩:=Zco h4
     have h7:0≤VQ tes r:=by rw [hm];exact Int.mul_nonneg (by omega) (by omega)
     simp only
     omega
    ·exact h0
   ·exact h0
  ·exact h0
end
section
open Go.RowKit Go.Maps
theorem Zit (v:Rk) (seen:List Rk):(fun z=>z=v∨z∈seen)=(fun z=>z∈v::seen):=by funext z;simp
theorem Za3 {w:World} {b o g:Nat} {c0 c1 c2 c3:Value} {t:TypeId} {a0 a1 a2 a3:Value} (h:Blk w g t #[a0,a1,a2,a3]) (h0:w.cell? ⟨b,o,none⟩=some c0) (h1:w.cell? ⟨b,o+1,none⟩=some c1) (h2:w.cell? ⟨b,o+2,none⟩=some c2) (h3:w.cell? ⟨b,o+3,none⟩=some c3):w.cell? ⟨g,0,none⟩=some a0∧w.cell? ⟨g,1,none⟩=some a1∧w.cell? ⟨g,2,none⟩=some a2∧w.cell? ⟨g,3,none⟩=some a3∧w.cell? ⟨b,o,none⟩=some c0∧w.cell? ⟨b,o+1,none⟩=some c1∧w.cell? ⟨b,o+2,none⟩=some c2∧w.cell? ⟨b,o+3,none⟩=some c3:=⟨h.cell 0,h.cell 1,h.cell 2,h.cell 3,h0,h1,h2,h3⟩
theorem Zir {m:Nat} {D:Int} (hm:m≤1000000) (h0:0≤D) (h1:D≤1048576):0≤(m:Int) * (D+1)∧(m:Int) * (D+1)≤1000000 * 1048577:=
 ⟨Int.mul_nonneg (by omega) (by omega),Int.mul_le_mul (by omega) (by omega) (by omega) (by omega)⟩
theorem ZlZ (M:Nat→Prop) (w:World) (hM:∀ b,M b→b<w.heap.size) (A:Option Addr) (n c:Nat) (l:List Tg) (B:Option Addr) (m e:Nat) (tes:List Te) (d:Nat) (ht:Ro w M (TgsIn (d+1) A n l)) (hD:Ro w M (TesIn B m tes)) (hn:n≤1000000) (hm:m≤1000) (hok:∀ t∈l,TgFit (d+1) t) (hcol:∀ x∈tes,x.n≤1000) (hrows:∀ x∈tes,x.m≤1000000) (hI:∀ t∈l,∀ r∈t.rank.l,Ub r):Calls Tryz.prog 37 #[.slice A n c,.slice B m e] w fun e w' =>e=.returned (.int .i64 (Yy (d+1) l tes n).1)∧Below w.heap.size w w' :=by
 have HL:=hid ht.now.len
 have HCE:=hid (fun (M2:Nat→Prop) (w2:World) (h2:∀ b,M2 b→b<w2.heap.size) (hr:Ro w2 M2 (TgsIn (d+1) A n l)) (hD:Ro w2 M2 (TesIn B m tes)) (j:Int)=>ZaE M2 w2 h2 A n c l B m e tes j d hr hD (by omega) hm hok hcol (fun t h r hr=>(hI t h r hr).1))
 have HI:=hid hI
 have HRW:=hid hrows
 have HM:=hid hm
 have K0:=((Hold.start M w hM).add (hD.less (by simp [Mut]))).add (ht.less (by simp [Mut,Hp.foot]))
 have KM:=Hold.Jg K0 4 ZcH
 rw [show (fun _:Rk=>False)=(fun z=>z∈([]:List Rk)) by funext z;simp] at KM
 have hmm:=@run_makeMap Tryz.prog
 clear ht hD hok hcol hrows hI K0 hm
 obtain ⟨gm,hgm⟩:∃ gm,gm=w.heap.size:=⟨_,rfl⟩
 rw [←hgm] at KM
 have HGM:=hid hgm
 go_enter Tryz.func37,Tryz.ntmps37
 go_wp2
 go_step3
 go_wp2
 rw [←hgm]
 clear hgm
 go_step3
 go_wp2
 go_loopw [5,13] (fun tv iv wr=>∃ (j q:Nat) (s:Int) (seen:List Rk),j≤n∧iv=.int .i64 j∧tv=.int .i64 s∧q≤j∧Hid (0≤s∧s≤17592186044416∧Yy (d+1) l tes j=(s,seen))∧Hold M none w wr [.ob gm (MSet 4 ZcH gm q (fun z=>z∈seen)),.ro (TgsIn (d+1) A n l),.ro (TesIn B m tes)]) (fun _ iv _=>n - (intOf iv).toNat)
 case atStart=>exact ⟨0,0,0,[],by omega,rfl,rfl,by omega,hid ⟨by decide,by decide,rfl⟩,KM⟩
 case round=>
  clear KM
  obtain ⟨j,q,s,seen,hj,rfl,rfl,hq,HS,H⟩:=hrel
  by_cases hlt:j<n
  ·have hdd:decide ((j:Int)<(n:Int))=true:=by simp;omega
   have j0:(0:Int)≤(j:Int):=by omega
   have j1:(j:Int)<(n:Int):=by omega
   go_wp2_with fail
   refine (HCE.out _ _ H.Zb (H.ro 1 rfl) (H.ro 2 rfl) j).mono ?_
   rintro e w1 ⟨rfl,b1⟩
   have K1:=H.call b1
   clear H b1
   cases hc:YO (d+1) l (ZY tes) j
   ·have HN:=hid (Zdw HS.out.2.2 hc)
    clear hc
    go_wp2_with fail
    go_roundw
    case rel=>exact ⟨j+1,q,s,seen,by omega,by go_num,rfl,by omega,hid ⟨HS.out.1,HS.out.2.1,HN.out⟩,K1⟩
    case measure=>simp [intOf];omega
   ·obtain ⟨⟨tn,tt,tb,te,⟨oA,on,oc,ol⟩,tch,⟨pA,pn,pc,pl⟩,⟨qA,qn,qc,ql⟩,⟨rA,rn,rc,rl⟩,⟨kA,kn,kc,kl⟩,⟨uA,un,uc,ul⟩⟩,⟨rtab,rcol,rlo,rhi⟩,rs,hx,hb,hr,hp⟩:=ZaD hc
    obtain ⟨⟨k,⟨xnm,xA,xn,xc,xcs,xnx,xB,xm,xd,xrs⟩,hxk,hfs,hms⟩,hlo,hhi⟩:=Zco hp
    simp only at hr hlo hhi hms hfs hb
    subst hr
    subst hb
    have hmx:=Ka hx
    have hrk:=HI.out _ hmx ⟨rtab,rcol,rlo,rhi⟩ (Kl ..)
    have hxm:=HRW.out _ (Ka hxk)
    simp only at hxm
    have HRK:=hid hrk
    have HXM:=hid hxm
    have HHL:=hid (KJ hlo hhi)
    have HC:=hid hc
    have HX:=hid hx
    have HMS:=hid hms
    have hrl:=((K1.ro 1 rfl).now.2 _ hmx).ranks.len
    have hrn:0<rn:=by simp at hrl;omega
    have HXK:=hid hxk
    have hkm:k<m:=by rw [←(K1.ro 2 rfl).now.len];exact (Kc.1 hxk).1
    obtain ⟨b,o,rfl,hbs,hcl,-⟩:=(K1.ro 1 rfl).now.at_ hx
    have x8:=hcl 8 _ (by omega) rfl
    obtain ⟨b2,o2,rfl,hb2,hcr,-⟩:=((K1.ro 1 rfl).now.2 _ hmx).ranks.at_ (k:=0) (x:=⟨rtab,rcol,rlo,rhi⟩) rfl
    have z0:=hcr 0 _ (by omega) rfl
    have z1:=hcr 1 _ (by omega) rfl
    have z2:=hcr 2 _ (by omega) rfl
    have z3:=hcr 3 _ (by omega) rfl
    simp only [Nat.zero_mul,Nat.add_zero,SlP.v] at x8 z0 z1 z2 z3
    have K2:=K1.Za #[.string rtab,.string rcol,.int .i64 rlo,.int .i64 rhi] 27
    have htx:=ZlV _ _ K2.Zb B m e tes 75 (.pointer (some ⟨w1.heap.size,0,none⟩)) rtab _ (fun _ _=>rfl) (fun w2 x hS=>Zl1 w2 w1.heap.size rtab rcol rlo rhi x hS) (K2.get 0 rfl) (K2.ro 3 rfl) (KI HM.out (by decide))
    rw [hfs] at htx
    clear hcl hcr hrl hmx hrk hxm hlo hhi hc hx hms hxk hfs hp
    go_wp2_with fail
    refine htx.mono ?_
    rintro e w3 ⟨rfl,b3⟩
    have K3:=K2.call b3
    clear K1 K2 htx b3 x8 z0 z1 z2 z3 hb2 hbs
    have hk0:decide ((k:Int)<0)=false:=by simp
    have F3:=K3.facts
    simp only [zg] at F3
    by_cases hin:(⟨rtab,rcol,rlo,rhi⟩:Rk)∈seen
    ·have HN:=hid (ZlY HS.out.2.2 HX.out rfl hin)
     have HIN:=hid hin;clear hin
     go_wp2_with (at_lookup;go_must (refine JX K3 1 rfl Tryz.setR rfl (.tmp 31) (.tmp 32) rfl rfl ⟨rtab,rcol,rlo,rhi⟩ rfl HRK.out ?_);intro cb hcb;obtain rfl:cb=true:=hcb.2 HIN.out;clear hcb)
     go_roundw
     case rel=>exact ⟨j+1,q,s,seen,by omega,by go_num,rfl,by omega,hid ⟨HS.out.1,HS.out.2.1,HN.out⟩,K3.drop (Kb _ _)⟩
     case measure=>simp [intOf];omega
    ·have HN:=hid (Zdv HS.out.2.2 HC.out HX.out rfl hin)
     have HIN:=hid hin;clear hin
     go_wp2_with (first
      | (at_lookup;go_must (refine JX K3 1 rfl Tryz.setR rfl (.tmp 31) (.tmp 32) rfl rfl ⟨rtab,rcol,rlo,rhi⟩ rfl HRK.out ?_);intro cb hcb;obtain rfl:cb=false:=(by cases cb;rfl;exact absurd (hcb.1 rfl) HIN.out);clear hcb)
      | (at_mapUpdate;go_must (refine JY K3 1 rfl Tryz.setR rfl (.tmp 38) (.tmp 39) _ rfl rfl ⟨rtab,rcol,rlo,rhi⟩ rfl rfl HRK.out (by unfold maxLen;omega) ?_);intro w5 K5;rw [Zit] at K5))
     have hlh:=HHL.out
     have hv:=Zir HXM.out (D:=rhi - rlo) (by omega) (by omega)
     have hce:=fun w2=>Zip w2 ⟨rtab,rcol,rlo,rhi⟩ xnm xA xn xc xnx xB xm xd HRK.out.1 hlh.1 hlh.2 HXM.out
     have hms:=HMS.out
     simp only [Rk.val] at hce
     generalize (xm:Int) * (rhi - rlo+1)=V at hv hce hms
     rw [hms] at HN
     have hs0:=HS.out.1
     have hs1:=HS.out.2.1
     have hw:IntKind.i64.wrap (s+V)=s+V:=IntWalk.i64_in _ (by omega)
     have HMI:=hid (show 0≤min (s+V) 17592186044416∧min (s+V) 17592186044416≤17592186044416 by omega)
     have HCEM:=hid hce
     clear hlh hce hms hv hs0 hs1 HMS
     obtain ⟨gB,oB,rfl,hgB,y0,y1,y2,y3,-⟩:=(K5.drew.ro 3 rfl).now.at_ HXK.out
     have k0:(0:Int)≤(k:Int):=by omega
     have k1:(k:Int)<(m:Int):=by omega
     simp only at y0 y1 y2 y3
     have h8:=Za3 (K5.drew.Zg 0 rfl) y0 y1 y2 y3
     go_region_held3 (fun w' =>w'.cell? ⟨w1.heap.size,0,none⟩=some (.string rtab)∧w'.cell? ⟨w1.heap.size,1,none⟩=some (.string rcol)∧w'.cell? ⟨w1.heap.size,2,none⟩=some (.int .i64 rlo)∧w'.cell? ⟨w1.heap.size,3,none⟩=some (.int .i64 rhi)∧w'.cell? ⟨gB,oB+k * 4,none⟩=some (.string xnm)∧w'.cell? ⟨gB,oB+k * 4+1,none⟩=some (.slice xA xn xc)∧w'.cell? ⟨gB,oB+k * 4+2,none⟩=some (.int .i64 xnx)∧w'.cell? ⟨gB,oB+k * 4+3,none⟩=some (.slice xB xm xd))
      (first|exact h8|(obtain ⟨gB',oB',hB',hgB',y0',y1',y2',y3',-⟩:=(K6.ro 3 rfl).now.at_ HXK.out;obtain ⟨rfl,rfl⟩:gB=gB' ∧oB=oB' :=(by injection hB' with hB';injection hB' with h1 h2;exact ⟨h1,h2⟩);exact Za3 (K6.Zg 0 rfl) y0' y1' y2' y3'))
      (first|(go_at_call 76;((with_reducible refine (HCEM.out _).mono ?_);rintro e w6 ⟨rfl,b6⟩;have K6:=K5.drew.call b6)))
     go_wp2_with fail
     go_roundw
     case rel=>exact ⟨j+1,q+1,min (s+V) 17592186044416,⟨rtab,rcol,rlo,rhi⟩::seen,by omega,by go_num,rfl,by omega,hid ⟨HMI.out.1,HMI.out.2,HN.out⟩,K6.drop (Kb _ _)⟩
     case measure=>simp [intOf];omega
  ·obtain rfl:n=j:=by omega
   have hdd:decide ((n:Int)<(n:Int))=false:=by simp
   have HN:=HS.out.2.2
   go_wp2_with fail
   rw [Exit.noGoto_ret]
   go_ret
   exact ⟨by rw [HN]<;>rfl,H.below⟩
end
section
open Go.RowKit
theorem ZjW {d:Nat} {ts:List Tg} {tes:List Te}:0≤YD d ts tes∧YD d ts tes≤17592186044416:=by
 have h1:=zM d ts tes ts.length
 have h2:=za d ts (ZY tes) ts.length
 unfold YD
 simp only
 obtain ⟨m,hm⟩:∃ m,m=(Yy d ts tes ts.length).1+1:=⟨_,rfl⟩
 obtain ⟨o,ho⟩:∃ o,o=Y9 d ts (ZY tes) ts.length+1:=⟨_,rfl⟩
 rw [←hm,←ho]
 split
 ·omega
 ·rename_i h
  have h3:m * o≤17592186044416:=Int.le_trans (Int.mul_le_mul_of_nonneg_right (Int.not_lt.1 h) (by omega)) (Int.ediv_mul_le _ (by omega))
  exact ⟨Int.mul_nonneg (by omega) (by omega),h3⟩
theorem Gm (M:Nat→Prop) (w:World) (hM:∀ b,M b→b<w.heap.size) (gA:Option Addr) (n gc:Nat) (ts:List Tg) (B:Option Addr) (m e:Nat) (tes:List Te) (d:Nat) (ht:Ro w M (TgsIn (d+1) gA n ts)) (hD:Ro w M (TesIn B m tes)) (hn:n≤1000) (hm:m≤1000) (hfit:∀ u∈ts,TgFit (d+1) u) (hcol:∀ x∈tes,x.n≤1000) (hrows:∀ x∈tes,x.m≤1000000) (hI:∀ u∈ts,∀ r∈u.rank.l,Ub r):
  Calls Tryz.prog 16 #[.slice gA n gc,.slice B m e] w fun e w' =>e=.returned (.int .i64 (YD (d+1) ts tes))∧Below w.heap.size w w' :=by
 have HFIT:=hid hfit
 have HI:=hid hI
 have HL:=hid ht.now.len
 have HCOL:=hid hcol
 have HRW:=hid hrows
 have K0:=((Hold.start M w hM).add (hD.less (by simp [Mut]))).add (ht.less (by simp [Mut,Hp.foot]))
 clear ht hD hfit hI hcol hrows
 go_enter Tryz.func16,Tryz.ntmps16
 go_wp2_with fail
 go_loopw [5,11] (fun ov iv wr=>∃ j:Nat,j≤n∧iv=.int .i64 j∧ov=.int .i64 (Y9 (d+1) ts (ZY tes) j)∧Hold M none w wr [.ro (TgsIn (d+1) gA n ts),.ro (TesIn B m tes)]) (fun _ iv _=>n - (intOf iv).toNat)
 case atStart=>exact ⟨0,by omega,rfl,rfl,K0⟩
 case round=>
  clear K0
  obtain ⟨j,hj,rfl,rfl,H⟩:=hrel
  have ho:=za (d+1) ts (ZY tes) j
  obtain ⟨o,hoe⟩:∃ o,o=Y9 (d+1) ts (ZY tes) j:=⟨_,rfl⟩
  rw [←hoe] at ho ⊢
  by_cases hlt:j<n
  ·obtain ⟨t,htj⟩:=Ya HL.out hlt
   obtain ⟨b,o_,rfl,hb,hcs,-⟩:=(H.ro 0 rfl).now.at_ htj
   have x0:=hcs 0 _ (by omega) rfl
   have x1:=hcs 1 _ (by omega) rfl
   have x2:=hcs 2 _ (by omega) rfl
   have x3:=hcs 3 _ (by omega) rfl
   have x4:=hcs 4 _ (by omega) rfl
   have x5:=hcs 5 _ (by omega) rfl
   have x6:=hcs 6 _ (by omega) rfl
   have x7:=hcs 7 _ (by omega) rfl
   have x8:=hcs 8 _ (by omega) rfl
   have x9:=hcs 9 _ (by omega) rfl
   have x10:=hcs 10 _ (by omega) rfl
   simp only [Nat.add_zero,SlP.v] at x0 x1 x2 x3 x4 x5 x6 x7 x8 x9 x10
   clear hcs
   obtain ⟨tb,htb⟩:∃ z,z=t.before:=⟨_,rfl⟩
   rw [←htb] at x2
   have hN:Y9 (d+1) ts (ZY tes) (j+1)=o+if !tb&&!YO (d+1) ts (ZY tes) j then 1 else 0:=by
    rw [Y9,htj,←hoe,htb]
   have HN:=hid hN
   clear htj htb hN hoe
   have K1:=H.Za #[.string t.name,.string t.tab,.bool tb,.int .i64 t.event,.slice t.cols.A t.cols.n t.cols.c,.bool t.each,.slice t.prec.A t.prec.n t.prec.c,.slice t.foll.A t.foll.n t.foll.c,.slice t.rank.A t.rank.n t.rank.c,.slice t.cond.A t.cond.n t.cond.c,.slice t.acts.A t.acts.n t.acts.c] 48
   have F1:=K1.facts
   simp only [zg] at F1
   clear H
   cases tb
   ·go_wp2_with fail
    refine (ZaE (Mut M _) _ K1.Zb (some ⟨b,o_,none⟩) n gc ts B m e tes j d (K1.ro 1 rfl) (K1.ro 2 rfl) (by omega) hm HFIT.out HCOL.out (fun u hu r hr=>(HI.out u hu r hr).1)).mono ?_
    rintro e w2 ⟨rfl,b2⟩
    have K2:=K1.call b2
    clear K1 F1 b2
    obtain ⟨cb,hcb⟩:∃ cb,cb=YO (d+1) ts (ZY tes) j:=⟨_,rfl⟩
    rw [←hcb] at HN ⊢
    clear hcb
    have hw:IntKind.i64.wrap (o+1)=o+1:=by rw [Kn];omega
    cases cb
    ·go_wp2_with fail
     go_roundw
     case rel=>exact ⟨j+1,by omega,by go_num,by rw [HN.out];simp,K2.drop (List.sublist_cons_self _ _)⟩
     case measure=>simp [intOf];omega
    ·go_wp2_with fail
     go_roundw
     case rel=>exact ⟨j+1,by omega,by go_num,by rw [HN.out];simp,K2.drop (List.sublist_cons_self _ _)⟩
     case measure=>simp [intOf];omega
   ·go_wp2_with fail
    go_roundw
    case rel=>exact ⟨j+1,by omega,by go_num,by rw [HN.out];simp,K1.drop (List.sublist_cons_self _ _)⟩
    case measure=>simp [intOf];omega
  ·obtain rfl:j=n:=by omega
   go_wp2_with fail
   refine (ZlZ (Mut M _) _ H.Zb gA j gc ts B m e tes d (H.ro 0 rfl) (H.ro 1 rfl) (by omega) hm HFIT.out HCOL.out HRW.out HI.out).mono ?_
   rintro e w2 ⟨rfl,b2⟩
   have HB:=hid (H.call b2).below
   have hS2:=zM (d+1) ts tes j
   obtain ⟨S,hS⟩:∃ S,S=(Yy (d+1) ts tes j).1:=⟨_,rfl⟩
   rw [←hS] at hS2 ⊢
   have hrd:YD (d+1) ts tes=if S+1 > 17592186044416 / (o+1) then 17592186044416 else (S+1) * (o+1):=by
    unfold YD
    rw [HL.out,←hS,←hoe]
   have HRD:=hid hrd
   clear H b2 hS hoe hrd
   have hw1:IntKind.i64.wrap (S+1)=S+1:=by rw [Kn];omega
   have hw3:IntKind.i64.wrap (o+1)=o+1:=by rw [Kn];omega
   have hq:=Int.ediv_mul_le 17592186044416 (show o+1≠0 by omega)
   have hq2:0≤17592186044416 / (o+1):=Int.ediv_nonneg (by omega) (by omega)
   by_cases hgt:S+1 > 17592186044416 / (o+1)
   ·have hd1:decide (S+1 > 17592186044416 / (o+1))=true:=by simpa using hgt
    go_wp2_with fail
    go_ret
    exact ⟨by rw [HRD.out,Lg hgt];rfl,HB.out⟩
   ·have hd1:decide (S+1 > 17592186044416 / (o+1))=false:=by simpa using hgt
    have h3:(S+1) * (o+1)≤17592186044416:=Int.le_trans (Int.mul_le_mul_of_nonneg_right (Int.not_lt.1 hgt) (by omega)) hq
    have h4:0≤(S+1) * (o+1):=Int.mul_nonneg (by omega) (by omega)
    have hw2:IntKind.i64.wrap ((S+1) * (o+1))=(S+1) * (o+1):=by rw [Kn];omega
    have HGT:=hid hgt
    go_wp2_with fail
    go_ret
    exact ⟨by rw [HRD.out,Lf (by have:=HGT.out;omega)];rfl,HB.out⟩
structure AcSm (a:Ac):Prop where
 r:a.rows.l=[]
 q:a.qs.l=[]
 s:a.sets.n≤1
 h:a.wh.n≤1
def ZA (gr ga:Nat) (col:ByteArray) (lo hi:Int) (a:Ac):Tg:=⟨⟨#[97]⟩,⟨#[117]⟩,false,2,SlP.nil,false,SlP.nil,SlP.nil,⟨some ⟨gr,0,none⟩,1,1,[⟨ZE,col,lo,hi⟩]⟩,SlP.nil,⟨some ⟨ga,0,none⟩,1,1,[a]⟩⟩
theorem GZ {x:Ex} {n:Int} (h:WE x n) (d:Nat):exW d x≤2:=by
 rcases h with ⟨_,rfl⟩|⟨_,g,rfl⟩
 ·rcases d with _|d<;>simp [exW,ZF]
 ·rcases d with _|_|d<;>simp [exW,opE,ZF]
theorem Zil {u c:ByteArray} {k lo hi:Int} {a:Ac} (h:XH u c k lo hi a) (hs:AcSm a) (d:Nat):acW d a≤20:=by
 obtain ⟨_,_,g1,g2,kE,x,y,h1,h2,hk,hx,hy⟩:=h
 have e1:=fun d=>GZ hk d
 have e2:=fun d=>GZ hx d
 have e3:=fun d=>GZ hy d
 have e4:∀ d,exW d (ZU ⟨#[]⟩ c)=1:=fun d=>by rcases d with _|d<;>simp [exW,ZU]
 rcases d with _|d
 ·simp [acW,rrW,Wl,YT,ZK,hs.r,hs.q,h1,h2,exW]
 ·have b1:exW (d+1) (opE 5 10 false g1 2 [ZU ⟨#[]⟩ c,kE])≤4:=by
   have:=e1 d;have:=e4 d
   simp only [QZ,opE,ZK,YT,List.map_cons,List.map_nil,List.sum_cons,List.sum_nil];omega
  have b2:exW (d+1) (opE 7 0 false g2 3 [ZU ⟨#[]⟩ c,x,y])≤6:=by
   have:=e2 d;have:=e3 d;have:=e4 d
   simp only [QZ,opE,ZK,YT,List.map_cons,List.map_nil,List.sum_cons,List.sum_nil];omega
  simp only [acW,rrW,Wl,YT,ZK,hs.r,hs.q,h1,h2,List.map_cons,List.map_nil,List.sum_cons,List.sum_nil]
  omega
theorem Zlj {l:List Ac} (h:∀ a∈l,a.kind≠5):ZQ l=[]:=by
 unfold ZQ
 rw [List.flatMap_eq_nil_iff]
 intro a ha
 rw [Lf (h a ha)]
theorem Zbu {d:Nat} {t:Tg} (hn:t.acts.n≤100) (hr:t.rank.n≤100) (hc:t.cond.l=[]) (hw:WF d t.acts.l≤1000) (hs:(ZQ t.acts.l).length≤1000) (ha:∀ a∈t.acts.l,a.sets.n≤1∧a.wh.n≤1):TgFit d t:=
 ⟨by omega,by omega,by unfold tgW;rw [hc];show 0+_≤_;omega,fun a h=>⟨by have:=(ha a h).1;omega,by have:=(ha a h).2;omega⟩,by omega⟩
end
section
open Go.RowKit Go.Maps
theorem ZlM {p q u:Te} (h:StOk [p.tb,q.tb,u.tb]):J9 (ZY [p,q,u]):=by
 have h0:=h.at_ 0 p.tb rfl
 have h1:=h.at_ 1 q.tb rfl
 have h2:=h.at_ 2 u.tb rfl
 have e0:p.nm=nm3 0:=h0.1
 have e1:q.nm=nm3 1:=h1.1
 have e2:u.nm=nm3 2:=h2.1
 have c2:u.cs=cs3 2:=h2.2.1
 refine ⟨(u.nm,u.cs),?_,?_⟩
 ·simp only [ZY,List.map_cons,List.map_nil,e0,e1,e2]
  have k0:nm3 0≠ZE:=by decide+kernel
  have k1:nm3 1≠ZE:=by decide+kernel
  have k2:nm3 2=ZE:=by decide+kernel
  rw [List.find?_cons_of_neg (by simp [k0]),List.find?_cons_of_neg (by simp [k1]),List.find?_cons_of_pos (by simp [k2])]
 ·show WJ u.cs Zr=true
  rw [c2]
  decide+kernel
theorem Zl0 {d:Nat} {t:Tg} {lo hi:Int} {p q u:Te} (h:StOk [p.tb,q.tb,u.tb]) (hd:QE lo hi t) (hb:0≤lo∧lo≤hi∧hi≤100) (hm:u.m≤100):YO (d+1) [t] (ZY [p,q,u]) 0=true∧(Yy (d+1) [t] [p,q,u] 1).1=(u.m:Int) * (hi - lo+1):=by
 have hc:=Zfs (d:=d) (ZlM h) hd (by constructor<;>omega) (by constructor<;>omega) hb.2.1 (by omega)
 refine ⟨hc,?_⟩
 have h0:=h.at_ 0 p.tb rfl
 have h1:=h.at_ 1 q.tb rfl
 have h2:=h.at_ 2 u.tb rfl
 have e0:p.tb.nm=nm3 0:=h0.1
 have e1:q.tb.nm=nm3 1:=h1.1
 have e2:u.tb.nm=nm3 2:=h2.1
 have hf:Yk ([p,q,u].map Te.tb) ZE=2:=by
  unfold Yk
  have k0:((nm3 0).toList==ZE.toList)=false:=by decide+kernel
  have k1:((nm3 1).toList==ZE.toList)=false:=by decide+kernel
  have k2:((nm3 2).toList==ZE.toList)=true:=by decide+kernel
  simp [Ze,Zy,e0,e1,e2,k0,k1,k2]
 have hme:VQ [p,q,u] ⟨ZE,Zr,lo,hi⟩=(u.m:Int) * (hi - lo+1):=by
  unfold VQ
  rw [hf]
  rfl
 rw [Zdv (s:=0) (q:=[]) (k:=0) (t:=t) (r:=⟨ZE,Zr,lo,hi⟩) (rs:=[]) rfl hc rfl hd.2.1 (by simp),hme]
 show min (0+_) _=_
 have h5:(u.m:Int) * (hi - lo+1)≤100 * 101:=Int.mul_le_mul (by omega) (by omega) (by omega) (by omega)
 have h6:0≤(u.m:Int) * (hi - lo+1):=Int.mul_nonneg (by omega) (by omega)
 omega
end
section
open Go.RowKit
theorem Zf5 {gr ga:Nat} {col:ByteArray} {k lo hi:Int} {a:Ac} (h:XH ZE col k lo hi a) (hs:AcSm a) (d:Nat):TgFit d (ZA gr ga col lo hi a):=by
 refine Zbu (by show 1≤100;omega) (by show 1≤100;omega) rfl ?_ ?_ ?_
 ·show (([a]:List Ac).map (acW d)).sum≤1000
  have:=Zil h hs d
  simp only [List.map_cons,List.map_nil,List.sum_cons,List.sum_nil]
  omega
 ·show (ZQ [a]).length≤1000
  rw [Zlj (fun b hb=>by
   simp only [List.mem_cons,List.not_mem_nil,or_false] at hb
   subst hb
   rw [h.1];decide)]
  simp
 ·intro b hb
  have hb:b∈[a]:=hb
  simp only [List.mem_cons,List.not_mem_nil,or_false] at hb
  subst hb
  exact ⟨hs.s,hs.h⟩
end
end Go.Proofs.YtnmnkbnmollpmaaGreatDoor

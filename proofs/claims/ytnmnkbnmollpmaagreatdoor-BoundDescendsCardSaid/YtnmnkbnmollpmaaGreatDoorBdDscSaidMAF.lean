import Derived.Test.YtnmnkbnmollpmaaGreatDoorBdDscSaidMAC
import Derived.Test.YtnmnkbnmollpmaaGreatDoorBdDscSaidMAB
set_option linter.unusedVariables false
set_option linter.unusedSimpArgs false
set_option maxHeartbeats 64000000
set_option maxRecDepth 100000
namespace Go.Proofs.YtnmnkbnmollpmaaGreatDoor
section
open Go.RowKit
def UY (b:Nat):Value:=.func (.func 164) #[] #[.pointer (some ⟨b,0,none⟩)]
def Uh (b:Nat) (u:Tg) (w:World):Prop:=w.heap[b]? =some (.cells #[.string u.name,.string u.tab,.bool u.before,.int .i64 u.event,.slice u.cols.A u.cols.n u.cols.c,.bool u.each,.slice u.prec.A u.prec.n u.prec.c,.slice u.foll.A u.foll.n u.foll.c,.slice u.rank.A u.rank.n u.rank.c,.slice u.cond.A u.cond.n u.cond.c,.slice u.acts.A u.acts.n u.acts.c] 48 (0,0))
theorem Zfi (M:Nat→Prop) (w:World) (hM:∀ b,M b→b<w.heap.size) (x:Ef) (u:Tg) (b:Nat) (hx:Ro w M (UH x)) (hu:Ro w M (TgIn 5 u)) (hB:Ro w M (Uh b u)) (hxn:x.cols.n≤9223372036854775807) (hcl:u.cols.l.length≤8):
  Calls Tryz.prog 164 #[x.val,.pointer (some ⟨b,0,none⟩)] w fun e w' =>e=.returned (.bool (efC u x))∧Below w.heap.size w w' :=by
 obtain ⟨xt,xe,⟨cA,cn,cc,cl⟩⟩:=x
 have hb1:Blk w b 48 _:=hB.now
 have q0:=hb1.cell 0
 have q1:=hb1.cell 1
 have q2:=hb1.cell 2
 have q3:=hb1.cell 3
 have q4:=hb1.cell 4
 have q5:=hb1.cell 5
 have q6:=hb1.cell 6
 have q7:=hb1.cell 7
 have q8:=hb1.cell 8
 have q9:=hb1.cell 9
 have q10:=hb1.cell 10
 have K0:=((((Hold.start M w hM).add (hx.less (by simp [Mut]))).add (hu.less (by simp [Mut,Hp.foot]))).add (hB.less (by simp [Mut,Hp.foot]))).Za #[.string xt,.int .i64 xe,.slice cA cn cc] 171
 have hb2:Blk _ b 48 _:=(K0.ro 1 rfl).now
 have r0:=hb2.cell 0
 have r1:=hb2.cell 1
 have r2:=hb2.cell 2
 have r3:=hb2.cell 3
 have r4:=hb2.cell 4
 have r5:=hb2.cell 5
 have r6:=hb2.cell 6
 have r7:=hb2.cell 7
 have r8:=hb2.cell 8
 have r9:=hb2.cell 9
 have r10:=hb2.cell 10
 clear hx hu hB hb1 hb2
 simp only [Ef.val]
 have F0:=K0.facts
 simp only [zg] at F0
 go_enter Tryz.func164,Tryz.ntmps164
 go_wp2_with fail
 refine (Zfn (Mut M _) _ K0.Zb ⟨xt,xe,⟨cA,cn,cc,cl⟩⟩ u (K0.ro 3 rfl) (K0.ro 2 rfl) hxn hcl).mono ?_
 rintro e w1 ⟨rfl,b1⟩
 have K1:=K0.call b1
 go_wp2_with fail
 go_ret
 exact ⟨by first|rfl|simp,K1.below⟩
theorem ZeO {α:Type} {f:α→Bool} {l:List α} {k:Nat} {x:α} (hx:l[k]? =some x) (h:f x=false):(l.drop k).any f=(l.drop (k+1)).any f:=by
 have hk:k<l.length:=(Kc.1 hx).1
 rw [Le hk,List.any_cons,(Kc.1 hx).2,h,Bool.false_or]
theorem Zfk (M:Nat→Prop) (w:World) (hM:∀ b,M b→b<w.heap.size) (A:Option Addr) (n c:Nat) (l:List Ef) (u:Tg) (b:Nat) (hD:Ro w M (EfsIn A n l)) (hu:Ro w M (TgIn 5 u)) (hB:Ro w M (Uh b u)) (hn:n≤1000) (hok:∀ x∈l,x.cols.n≤9223372036854775807) (hcl:u.cols.l.length≤8):
  Calls Tryz.prog 198 #[.slice A n c,UY b] w fun e w' =>(∃ z:Int,e=.returned (.int .i64 z)∧decide (z≥0)=l.any (efC u))∧Below w.heap.size w w' :=by
 have HL:=hid hD.now.len
 have HOK:=hid hok
 have K0:=(((Hold.start M w hM).add (hB.less (by simp [Mut]))).add (hu.less (by simp [Mut,Hp.foot]))).add (hD.less (by simp [Mut,Hp.foot]))
 clear hD hB hu hok
 unfold UY
 go_enter Tryz.func198,Tryz.ntmps198
 go_wp2_with fail
 go_loopw [8] (fun iv wr=>∃ (k:Nat),k≤n∧iv=.int .i64 k∧Hid (l.any (efC u)=(l.drop k).any (efC u))∧Hold M none w wr [.ro (EfsIn A n l),.ro (TgIn 5 u),.ro (Uh b u)]) (fun iv _=>n - (intOf iv).toNat)
 case atStart=>exact ⟨0,by omega,rfl,hid rfl,K0⟩
 case round=>
  clear K0
  obtain ⟨k,hk,rfl,HF,H⟩:=hrel
  by_cases hlt:k<n
  ·obtain ⟨⟨xt,xe,⟨cA,cn,cc,cl⟩⟩,hc⟩:=Ya HL.out hlt
   obtain ⟨b2,o2,rfl,hb2,c0,c1,c2⟩:=(H.ro 0 rfl).now.at_ hc
   have HC:=hid hc;clear hc
   have hce:=Zfi _ wr H.Zb ⟨xt,xe,⟨cA,cn,cc,cl⟩⟩ u b ((H.ro 0 rfl).imp fun w2 h2=>h2.2 _ (Ka HC.out)) (H.ro 1 rfl) (H.ro 2 rfl) (HOK.out _ (Ka HC.out)) hcl
   simp only [Ef.val] at hce
   simp only at c0 c1 c2
   cases hz:efC u ⟨xt,xe,⟨cA,cn,cc,cl⟩⟩
   ·rw [hz] at hce
    have HZ:=hid hz
    clear hz
    go_wp2_with fail
    refine hce.mono ?_
    rintro e w1 ⟨rfl,b1⟩
    have K1:=H.call b1
    go_wp2_with fail
    go_roundw
    case rel=>exact ⟨k+1,by omega,by go_num,hid (HF.out.trans (ZeO HC.out HZ.out)),K1⟩
    case measure=>simp [intOf];omega
   ·rw [hz] at hce
    have HZ:=hid hz
    clear hz
    go_wp2_with fail
    refine hce.mono ?_
    rintro e w1 ⟨rfl,b1⟩
    have K1:=H.call b1
    go_wp2_with fail
    go_ret
    refine ⟨⟨(k:Int),rfl,?_⟩,K1.below⟩
    rw [List.any_eq_true.2 ⟨_,Ka HC.out,HZ.out⟩]
    simp
  ·have hks:k=n:=by omega
   go_wp2_with fail
   go_ret
   refine ⟨⟨-1,rfl,?_⟩,H.below⟩
   rw [HF.out,List.drop_eq_nil_of_le (by rw [HL.out];omega)]
   rfl
theorem Zfj (M:Nat→Prop) (w:World) (hM:∀ b,M b→b<w.heap.size) (A:Option Addr) (n c:Nat) (l:List Ef) (u:Tg) (b:Nat) (hD:Ro w M (EfsIn A n l)) (hu:Ro w M (TgIn 5 u)) (hB:Ro w M (Uh b u)) (hn:n≤1000) (hok:∀ x∈l,x.cols.n≤9223372036854775807) (hcl:u.cols.l.length≤8):
  Calls Tryz.prog 163 #[.slice A n c,UY b] w fun e w' =>e=.returned (.bool (l.any (efC u)))∧Below w.heap.size w w' :=by
 go_enter Tryz.func163,Tryz.ntmps163
 go_wp2_with fail
 refine (Zfk M w hM A n c l u b hD hu hB hn hok hcl).mono ?_
 rintro e w1 ⟨⟨z,rfl,hz⟩,b1⟩
 have HZ:=hid hz
 clear hz
 go_wp2_with fail
 go_ret
 exact ⟨by first|rw [←HZ.out]<;>rfl|simp [←HZ.out],b1⟩
theorem Jv {w:World} {g:Nat} {t:TypeId} {cs:Array Value} (h:Blk w g t cs):Ro w Zc (fun w=>Blk w g t cs):=fun w' h1 h2=>(h2 g (Blk.lt h) (fun hb=>hb.elim)).trans h
def EfLs (A:Option Addr) (n:Nat) (ls:List (SlP Ef)) (w:World):Prop:=SlR 1 A n (ls.map SlP.v) w∧∀ l∈ls,EfsIn l.A l.n l.l w
theorem EfLs.len {A:Option Addr} {n:Nat} {ls:List (SlP Ef)} {w:World} (h:EfLs A n ls w):ls.length=n:=by
 have:=(show Rd w w.heap.size 1 A n (ls.map SlP.v) from h.1).1
 simpa using this
def QF (l:SlP Ef):Prop:=l.n≤1000∧∀ x∈l.l,x.cols.n≤9223372036854775807
theorem GU {A:Option Addr} {n:Nat} {fl:List Int} {w:World} (h:SlR 1 A n (fl.map (Value.int .i64)) w):fl.length=n:=by
 have:=(show Rd w w.heap.size 1 A n (fl.map (Value.int .i64)) from h).1
 simpa using this
theorem ZeZ (w:World) (gR:Nat) (trg mp:Value) (eA:Option Addr) (n ec:Nat) (ls:List (SlP Ef)) (fA:Option Addr) (fc:Nat) (fl:List Int) (u:Tg) (hR:Blk w gR 117 #[trg,.slice eA n ec,.slice fA n fc,mp]) (hE:Ro w Zc (EfLs eA n ls)) (hF:Ro w Zc (SlR 1 fA n (fl.map (Value.int .i64)))) (hu:Ro w Zc (TgIn 5 u)) (hn:n≤1000) (hok:∀ l∈ls,QF l) (hcl:u.cols.l.length≤8) (ts:List Tg) (htl:ts.length=n) (hls:J5 ts ts ls):
  Calls Tryz.prog 127 #[.pointer (some ⟨gR,0,none⟩),u.val] w fun e w' =>e=.returned (.bool (XW ts u ts fl))∧Below w.heap.size w w' :=by
 have HOK:=hid hok
 have HL1:=hid hE.now.len
 have HL0:=hid htl
 have HLS:=hid hls
 have HL2:=hid (GU hF.now)
 have K0:=(((((Hold.start Zc w zn).add (hF.less (by simp [Mut]))).add (hE.less (by simp [Mut,Hp.foot]))).add (hu.less (by simp [Mut,Hp.foot]))).Wp (g:=gR) (t:=117) (cs:=#[trg,.slice eA n ec,.slice fA n fc,mp]) ((Jv hR).less (by simp [Mut,Hp.foot]))).Za #[.string u.name,.string u.tab,.bool u.before,.int .i64 u.event,.slice u.cols.A u.cols.n u.cols.c,.bool u.each,.slice u.prec.A u.prec.n u.prec.c,.slice u.foll.A u.foll.n u.foll.c,.slice u.rank.A u.rank.n u.rank.c,.slice u.cond.A u.cond.n u.cond.c,.slice u.acts.A u.acts.n u.acts.c] 48
 obtain ⟨g3,hg3⟩:∃ g,g=w.heap.size:=⟨_,rfl⟩
 rw [←hg3] at K0
 clear hR hE hF hu hok hls htl
 simp only [Tg.val,SlP.v]
 go_enter Tryz.func127,Tryz.ntmps127
 go_upto_region 1 with fail
 rw [←hg3]
 clear hg3
 generalize World.alloc _ _=w1 at K0 ⊢
 have F0:=K0.facts
 simp only [zg] at F0
 go_wp2_with fail
 go_loopw [12] (fun iv wr=>∃ j:Nat,j≤n∧iv=.int .i64 j∧Hid (XW ts u ts fl=XW ts u (ts.drop j) (fl.drop j))∧Hold Zc none w wr [.cst g3 48 #[.string u.name,.string u.tab,.bool u.before,.int .i64 u.event,.slice u.cols.A u.cols.n u.cols.c,.bool u.each,.slice u.prec.A u.prec.n u.prec.c,.slice u.foll.A u.foll.n u.foll.c,.slice u.rank.A u.rank.n u.rank.c,.slice u.cond.A u.cond.n u.cond.c,.slice u.acts.A u.acts.n u.acts.c],.cst gR 117 #[trg,.slice eA n ec,.slice fA n fc,mp],.ro (TgIn 5 u),.ro (EfLs eA n ls),.ro (SlR 1 fA n (fl.map (Value.int .i64)))]) (fun iv _=>n - (intOf iv).toNat)
 case atStart=>exact ⟨0,by omega,rfl,hid rfl,K0⟩
 case round=>
  clear K0 F0
  obtain ⟨j,hj,rfl,HC,H⟩:=hrel
  by_cases hlt:j<n
  ·obtain ⟨⟨lA,ln,lc,l⟩,hx⟩:=Ya HL1.out hlt
   obtain ⟨f,hf⟩:=Ya HL2.out hlt
   obtain ⟨q,hq⟩:=Ya HL0.out hlt
   have F1:=H.facts
   simp only [zg] at F1
   obtain ⟨b1,o1,rfl,hb1,hc1⟩:=(show Rd _ _ 1 eA n _ from (H.ro 3 rfl).now.1).2 (by omega)
   obtain ⟨b2,o2,rfl,hb2,hc2⟩:=(show Rd _ _ 1 fA n _ from (H.ro 4 rfl).now).2 (by omega)
   have z1:=hc1 j (.slice lA ln lc) (by rw [KQ,hx];rfl)
   have z2:=hc2 j (.int .i64 f) (by rw [KQ,hf];rfl)
   clear hc1 hc2
   have hso:=HOK.out _ (Ka hx)
   have hce:=Zfj (Mut Zc _) wr H.Zb lA ln lc l u g3 ((H.ro 3 rfl).imp fun w2 h2=>h2.2 _ (Ka hx)) (H.ro 2 rfl) (show Ro wr _ (Uh g3 u) from H.get 0 rfl) hso.1 hso.2 hcl
   have HS:=hid (Zfl (ts:=ts) (u:=u) hq hf)
   have hle:=HLS.out j _ q hx hq u
   simp only at hle
   clear hx hf hso hq
   by_cases hfp:0<f
   ·have hd:decide (f > 0)=true:=by simpa using hfp
    rw [hle] at hce
    clear hle
    cases hz:Vh ts q u
    ·rw [hz] at hce
     have HZ:=hid hz
     unfold UY at hce
     have HCE:=hid hce
     have HFP:=hid hfp
     clear hce hz
     go_wp2_with fail
     refine HCE.out.mono ?_
     rintro e w4 ⟨rfl,b4⟩
     have K1:=H.call b4
     clear HCE
     go_wp2_with fail
     go_roundw
     case rel=>exact ⟨j+1,by omega,by go_num,hid (by rw [HC.out,HS.out,HZ.out];simp),K1⟩
     case measure=>simp [intOf];omega
    ·rw [hz] at hce
     have HZ:=hid hz
     unfold UY at hce
     have HCE:=hid hce
     have HFP:=hid hfp
     clear hce hz
     go_wp2_with fail
     refine HCE.out.mono ?_
     rintro e w4 ⟨rfl,b4⟩
     have K1:=H.call b4
     clear HCE
     go_wp2_with fail
     go_ret
     exact ⟨by rw [HC.out,HS.out,HZ.out];simp [HFP.out],K1.below⟩
   ·have hd:decide (f > 0)=false:=by simpa using hfp
    have HFP:=hid hfp
    clear hce hle
    go_wp2_with fail
    go_roundw
    case rel=>exact ⟨j+1,by omega,by go_num,hid (by rw [HC.out,HS.out];simp [HFP.out]),H⟩
    case measure=>simp [intOf];omega
  ·obtain rfl:j=n:=by omega
   go_wp2_with fail
   go_ret
   refine ⟨?_,H.below⟩
   rw [HC.out,List.drop_eq_nil_of_le (by rw [HL0.out];omega)]
   rfl
def J4 (t:Tg):Prop:=t.acts.n≤1000∧∀ a∈t.acts.l,a.rows.n≤1000000∧a.qs.n≤1000000
theorem fold_at {α β:Type} {f:β→α→β} {l:List α} {k:Nat} {x:α} (hx:l[k]? =some x) (b:β):(l.drop k).foldl f b=(l.drop (k+1)).foldl f (f b x):=by
 obtain ⟨h1,e1⟩:=Kc.1 hx
 rw [Le h1,e1]
 rfl
theorem Zaz (w:World) (gR:Nat) (gA:Option Addr) (n gc d:Nat) (ts:List Tg) (ef mp:Value) (fA:Option Addr) (fc:Nat) (fl:List Int) (s:ByteArray) (hR:Blk w gR 117 #[.slice gA n gc,ef,.slice fA n fc,mp]) (hG:Ro w Zc (TgsIn d gA n ts)) (hF:Ro w Zc (SlR 1 fA n (fl.map (Value.int .i64)))) (hn:n≤1000) (hok:∀ t∈ts,J4 t) (hfl:∀ z∈fl,0≤z∧z≤1000000):
  Calls Tryz.prog 84 #[.pointer (some ⟨gR,0,none⟩),.string s] w fun e w' =>e=.returned (.int .i64 (Xf s ts fl 0))∧Below w.heap.size w w' :=by
 have HL1:=hid hG.now.len
 have HL2:=hid (GU hF.now)
 have HOK:=hid hok
 have HFL:=hid hfl
 have K0:=(((Hold.start Zc w zn).add (hF.less (by simp [Mut]))).add (hG.less (by simp [Mut,Hp.foot]))).Wp (g:=gR) (t:=117) (cs:=#[.slice gA n gc,ef,.slice fA n fc,mp]) ((Jv hR).less (by simp [Mut,Hp.foot]))
 clear hR hG hF hok hfl
 have F0:=K0.facts
 simp only [zg] at F0
 go_enter Tryz.func84,Tryz.ntmps84
 go_wp2_with fail
 clear F0
 go_loopw [5,16] (fun ov iv wr=>∃ (j:Nat) (v:Int),j≤n∧iv=.int .i64 j∧ov=.int .i64 v∧(0≤v∧v≤100)∧Hid (Xf s ts fl 0=Xf s (ts.drop j) (fl.drop j) v)∧Hold Zc none w wr [.cst gR 117 #[.slice gA n gc,ef,.slice fA n fc,mp],.ro (TgsIn d gA n ts),.ro (SlR 1 fA n (fl.map (Value.int .i64)))]) (fun _ iv _=>n - (intOf iv).toNat)
 case atStart=>exact ⟨0,0,by omega,rfl,rfl,by omega,hid rfl,K0⟩
 case round=>
  clear K0
  obtain ⟨j,v,hj,rfl,rfl,hv,HI,H⟩:=hrel
  by_cases hlt:j<n
  ·obtain ⟨t,ht⟩:=Ya HL1.out hlt
   obtain ⟨f,hf⟩:=Ya HL2.out hlt
   have HAT:=hid (ZhP (s:=s) (n:=v) ht hf)
   have hf0:=HFL.out f (Ka hf)
   have hto:=HOK.out t (Ka ht)
   obtain ⟨b,o,rfl,hb,hcs,-⟩:=(H.ro 1 rfl).now.at_ ht
   have x0:=hcs 0 _ (by omega) rfl
   have x1:=hcs 1 _ (by omega) rfl
   have x2:=hcs 2 _ (by omega) rfl
   have x3:=hcs 3 _ (by omega) rfl
   have x4:=hcs 4 _ (by omega) rfl
   have x5:=hcs 5 _ (by omega) rfl
   have x6:=hcs 6 _ (by omega) rfl
   have x7:=hcs 7 _ (by omega) rfl
   have x8:=hcs 8 _ (by omega) rfl
   have x9:=hcs 9 _ (by omega) rfl
   have x10:=hcs 10 _ (by omega) rfl
   simp only [Nat.add_zero,SlP.v] at x0 x1 x2 x3 x4 x5 x6 x7 x8 x9 x10
   clear hcs
   have HF:=hid hf
   have HT:=hid ht
   have HTO:=hid hto
   clear hf ht hto
   obtain ⟨tb,htb⟩:∃ z,z=t.before:=⟨_,rfl⟩
   rw [←htb] at x2
   have HTB:=hid htb
   clear htb
   have K1:=H.Za #[.string t.name,.string t.tab,.bool tb,.int .i64 t.event,.slice t.cols.A t.cols.n t.cols.c,.bool t.each,.slice t.prec.A t.prec.n t.prec.c,.slice t.foll.A t.foll.n t.foll.c,.slice t.rank.A t.rank.n t.rank.c,.slice t.cond.A t.cond.n t.cond.c,.slice t.acts.A t.acts.n t.acts.c] 48
   have F1:=K1.facts
   simp only [zg] at F1
   clear H
   cases tb
   ·go_wp2_with fail
    clear F1
    go_loopw [5,26] (fun ov iv wr=>∃ (i:Nat) (u:Int),i≤t.acts.n∧iv=.int .i64 i∧ov=.int .i64 u∧(0≤u∧u≤100)∧Hid (t.acts.l.foldl (Y1 s f) v=(t.acts.l.drop i).foldl (Y1 s f) u)∧Hold Zc none w wr [.cst gR 117 #[.slice (some ⟨b,o,none⟩) n gc,ef,.slice fA n fc,mp],.ro (TgsIn d (some ⟨b,o,none⟩) n ts),.ro (SlR 1 fA n (fl.map (Value.int .i64)))]) (fun _ iv _=>t.acts.n - (intOf iv).toNat)
    case atStart=>exact ⟨0,v,by omega,rfl,rfl,hv,hid rfl,K1.drop (Kb _ _)⟩
    case round=>
     clear K1 x0 x1 x2 x3 x4 x5 x6 x7 x8 x9 x10
     obtain ⟨i,u,hi,rfl,rfl,hu,HU,H⟩:=hrel
     have htg:t.acts.In 7 Ac.cells (AcIn d) _:=((H.ro 1 rfl).now.2 _ (Ka HT.out)).2.2.2.2.2
     have hal:t.acts.l.length=t.acts.n:=SlP.In.len htg (by omega) (fun _=>rfl)
     have hac:t.acts.n≤1000:=HTO.out.1
     by_cases hlt2:i<t.acts.n
     ·obtain ⟨a,ha⟩:=Ya hal hlt2
      have hao:=HTO.out.2 a (Ka ha)
      obtain ⟨b0,o0,hb0,hb',hc,-⟩:=htg.at_ (by omega) (fun _=>rfl) ha
      have y0:=hc 0 _ (by omega) rfl
      have y1:=hc 1 _ (by omega) rfl
      have y2:=hc 2 _ (by omega) rfl
      have y3:=hc 3 _ (by omega) rfl
      have y4:=hc 4 _ (by omega) rfl
      have y5:=hc 5 _ (by omega) rfl
      have y6:=hc 6 _ (by omega) rfl
      simp only [Nat.add_zero,SlP.v] at y0 y1 y2 y3 y4 y5 y6
      obtain ⟨b2,o2,rfl,hb2,hc2⟩:=(show Rd _ _ 1 fA n _ from (H.ro 2 rfl).now).2 (by omega)
      have z2:=hc2 j (.int .i64 f) (by rw [KQ,HF.out];rfl)
      have HFA:=hid (fold_at (f:=Y1 s f) ha u)
      have HST:=hid (ZbN (s:=s) (a:=a) hf0.1 hu)
      have K2:=H.Za #[.int .i64 a.kind,.string a.tab,.slice a.rows.A a.rows.n a.rows.c,.slice a.qs.A a.qs.n a.qs.c,.slice a.sets.A a.sets.n a.sets.c,.slice a.wh.A a.wh.n a.wh.c,.string a.text] 44
      have F2:=K2.facts
      simp only [zg] at F2
      clear hc hc2 htg H ha
      have hmul:∀ e:Int,0≤e→e≤100→0≤min f 100 * e∧min f 100 * e≤10000:=fun e h0 h1=>⟨Int.mul_nonneg (by omega) h0,Int.le_trans (Int.mul_le_mul (show min f 100≤100 by omega) h1 h0 (by omega)) (by decide)⟩
      have hwr:∀ e:Int,0≤e→e≤100→IntKind.i64.wrap (min f 100 * e)=min f 100 * e∧IntKind.i64.wrap (u+min f 100 * e)=u+min f 100 * e:=fun e h0 h1=>by
       have:=hmul e h0 h1
       exact ⟨by rw [Kn];omega,by rw [Kn];omega⟩
      have HWR:=hid hwr
      clear hmul hwr
      by_cases hk:a.kind=1
      ·by_cases hs:a.tab=s
       ·have e0:(a.kind !=1)=false:=by simp [hk]
        have e1:(a.tab.toList !=s.toList)=false:=by simp [hs]
        have e2:(a.tab.toList==s.toList)=true:=by simp [hs]
        by_cases hq:0<a.qs.n
        ·have d1:decide ((a.qs.n:Int) > 0)=true:=by simp;omega
         obtain ⟨v1,v2⟩:=HWR.out 100 (by omega) (by omega)
         have HVA:=hid (show Y1 s f u a=min (u+min f 100 * 100) 100 by unfold Y1;rw [Lg ⟨hk,hs⟩,Lg hq];rfl)
         have HKS:=hid (KJ hk hs)
         clear hk hs
         go_wp2_with fail
         go_roundw
         case rel=>exact ⟨i+1,_,by omega,by go_num,rfl,by rw [←HVA.out];exact HST.out,hid (by rw [HU.out,HFA.out,HVA.out]),K2.drop (Kb _ _)⟩
         case measure=>simp [intOf];omega
        ·have d1:decide ((a.qs.n:Int) > 0)=false:=by simp;omega
         obtain ⟨v1,v2⟩:=HWR.out (min (a.rows.n:Int) 100) (by omega) (by omega)
         have HVA:=hid (show Y1 s f u a=min (u+min f 100 * min (a.rows.n:Int) 100) 100 by unfold Y1;rw [Lg ⟨hk,hs⟩,Lf hq])
         have HKS:=hid (KJ hk hs)
         clear hk hs
         go_wp2_with fail
         go_roundw
         case rel=>exact ⟨i+1,_,by omega,by go_num,rfl,by rw [←HVA.out];exact HST.out,hid (by rw [HU.out,HFA.out,HVA.out]),K2.drop (Kb _ _)⟩
         case measure=>simp [intOf];omega
       ·have e0:(a.kind !=1)=false:=by simp [hk]
        have hsl:¬a.tab.toList=s.toList:=fun h=>hs (Yc h)
        have e1:(a.tab.toList !=s.toList)=true:=by simp [hsl]
        have e2:(a.tab.toList==s.toList)=false:=by simp [hsl]
        have HVA:=hid (show Y1 s f u a=u by unfold Y1;rw [Lf (fun h=>hs h.2)])
        clear hk hs
        go_wp2_with fail
        go_roundw
        case rel=>exact ⟨i+1,u,by omega,by go_num,rfl,hu,hid (by rw [HU.out,HFA.out,HVA.out]),K2.drop (Kb _ _)⟩
        case measure=>simp [intOf];omega
      ·have e0:(a.kind !=1)=true:=by simp [hk]
       have HVA:=hid (show Y1 s f u a=u by unfold Y1;rw [Lf (fun h=>hk h.1)])
       clear hk
       go_wp2_with fail
       go_roundw
       case rel=>exact ⟨i+1,u,by omega,by go_num,rfl,hu,hid (by rw [HU.out,HFA.out,HVA.out]),K2.drop (Kb _ _)⟩
       case measure=>simp [intOf];omega
     ·obtain rfl:i=t.acts.n:=by omega
      have hdn:t.acts.l.drop t.acts.n=[]:=List.drop_eq_nil_of_le (by rw [hal];exact Kg _)
      have HDN:=hid hdn
      clear htg hal hdn
      go_wp2_with fail
      go_roundw
      case rel=>exact ⟨j+1,u,by omega,by go_num,rfl,hu,hid (by rw [HI.out,HAT.out,VP,←HTB.out,if_neg (by simp),HU.out,HDN.out];rfl),H⟩
      case measure=>simp [intOf];omega
   ·go_wp2_with fail
    go_roundw
    case rel=>exact ⟨j+1,v,by omega,by go_num,rfl,hv,hid (by rw [HI.out,HAT.out,VP,←HTB.out,Lg rfl]),K1.drop (Kb _ _)⟩
    case measure=>simp [intOf];omega
  ·obtain rfl:j=n:=by omega
   go_wp2_with fail
   go_ret
   refine ⟨?_,H.below⟩
   rw [HI.out,List.drop_eq_nil_of_le (by rw [HL1.out];omega)]
   rfl
def RowsM (mb:Nat) (f:ByteArray→Option Int) (w:World):Prop:=∃ n:Nat,n≤1000000∧IMap 3 XT mb n f w
theorem RowsM.stay {mb:Nat} {f:ByteArray→Option Int} {w w' :World} (h:RowsM mb f w) (hb:w'.heap[mb]? =w.heap[mb]?):RowsM mb f w' :=by
 obtain ⟨n,h1,h2⟩:=h
 exact ⟨n,h1,h2.stay hb⟩
theorem RowsM.lt {mb:Nat} {f:ByteArray→Option Int} {w:World} (h:RowsM mb f w):mb<w.heap.size:=by
 obtain ⟨n,h1,D,⟨es,clock,h2,h3⟩,h4⟩:=h
 exact (KG.1 h2).1
theorem RowsM.ro {mb:Nat} {f:ByteArray→Option Int} {w:World} {M:Nat→Prop} (h:RowsM mb f w) (hM:¬M mb):Ro w M (RowsM mb f):=fun w' h1 h2=>h.stay (h2 mb h.lt hM)
structure BndOk (ts:List Tg) (ls:List (SlP Ef)) (fl:List Int) (f:ByteArray→Option Int):Prop where
 ins:∀ t∈ts,J4 t
 eff:∀ l∈ls,QF l
 fir:∀ z∈fl,0≤z∧z≤1000000
 row:∀ y c,f y=some c→0≤c∧c≤100
 tgs:∀ t∈ts,t.tab.size≤maxLen∧t.cols.l.length≤8
 cau:J5 ts ts ls
theorem Zfd (w:World) (gR:Nat) (gA:Option Addr) (n gc:Nat) (ts:List Tg) (eA:Option Addr) (ec:Nat) (ls:List (SlP Ef)) (fA:Option Addr) (fc:Nat) (fl:List Int) (mb:Nat) (f:ByteArray→Option Int) (u:Tg) (hut:u.tab.size≤maxLen∧u.cols.l.length≤8)
  (hR:Blk w gR 117 #[.slice gA n gc,.slice eA n ec,.slice fA n fc,.map (some mb)]) (hG:Ro w Zc (TgsIn 5 gA n ts)) (hE:Ro w Zc (EfLs eA n ls)) (hF:Ro w Zc (SlR 1 fA n (fl.map (Value.int .i64)))) (hu:Ro w Zc (TgIn 5 u)) (hm:Ro w Zc (RowsM mb f)) (hn:n≤1000) (hok:BndOk ts ls fl f):
  Calls Tryz.prog 83 #[.pointer (some ⟨gR,0,none⟩),u.val] w fun e w' =>e=.returned (.int .i64 (We ts fl f u))∧Below w.heap.size w w' :=by
 have HOK:=hid hok
 have HLT:=hid hG.now.len
 have HUT:=hid hut
 have HIN:=hid (Zca (ts:=ts) (t:=u) (fun z hz=>(hok.fir z hz).1) hok.row)
 obtain ⟨ub,hub⟩:∃ z,z=u.before:=⟨_,rfl⟩
 obtain ⟨ue,hue⟩:∃ z,z=u.each:=⟨_,rfl⟩
 obtain ⟨ev,hev⟩:∃ z,z=u.event:=⟨_,rfl⟩
 have K0:=((((((Hold.start Zc w zn).add (hF.less (by simp [Mut]))).add (hE.less (by simp [Mut,Hp.foot]))).add (hG.less (by simp [Mut,Hp.foot]))).add (hu.less (by simp [Mut,Hp.foot]))).add (hm.less (by simp [Mut,Hp.foot]))).Wp (g:=gR) (t:=117) (cs:=#[.slice gA n gc,.slice eA n ec,.slice fA n fc,.map (some mb)]) ((Jv hR).less (by simp [Mut,Hp.foot]))|>.Za #[.string u.name,.string u.tab,.bool ub,.int .i64 ev,.slice u.cols.A u.cols.n u.cols.c,.bool ue,.slice u.prec.A u.prec.n u.prec.c,.slice u.foll.A u.foll.n u.foll.c,.slice u.rank.A u.rank.n u.rank.c,.slice u.cond.A u.cond.n u.cond.c,.slice u.acts.A u.acts.n u.acts.c] 48
 obtain ⟨g3,hg3⟩:∃ g,g=w.heap.size:=⟨_,rfl⟩
 rw [←hg3] at K0
 clear hR hE hG hF hu hm hok hut
 simp only [Tg.val]
 rw [←hub,←hue,←hev]
 have HU:=hid (KJ hub (KJ hue hev))
 clear hub hue hev
 go_enter Tryz.func83,Tryz.ntmps83
 go_upto_region 1 with fail
 rw [←hg3]
 clear hg3
 generalize World.alloc _ _=w1 at K0 ⊢
 have hnx:We ts fl f u=(let n:=if ub then 0 else if ev=1 then Xf u.tab ts fl 0 else if XW ts u ts fl then (f u.tab).getD 0 else 0;if ue then n else min n 1):=by
  rw [HU.out.1,HU.out.2.1,HU.out.2.2]
  rfl
 have HNX:=hid hnx
 clear hnx
 cases ub
 ·by_cases h1:ev=1
  ·subst h1
   have hins:=Zaz w1 gR gA n gc 5 ts (.slice eA n ec) (.map (some mb)) fA fc fl u.tab (K0.Zg 1 rfl) ((K0.ro 4 rfl).less zn) ((K0.ro 6 rfl).less zn) hn HOK.out.ins HOK.out.fir
   have HINS:=hid hins
   clear hins
   have F0:=K0.facts
   simp only [zg] at F0
   cases ue<;>
   ·go_wp2_with fail
    refine HINS.out.mono ?_
    rintro e w2 ⟨rfl,b2⟩
    have K1:=K0.call b2
    clear K0 F0 b2 HINS
    have F1:=K1.facts
    simp only [zg] at F1
    go_wp2_with fail
    go_ret
    exact ⟨by rw [HNX.out];simp,K1.below⟩
  ·have e1:(ev==1)=false:=by simpa using h1
   have hcau:=ZeZ w1 gR (.slice gA n gc) (.map (some mb)) eA n ec ls fA fc fl u (K0.Zg 1 rfl) ((K0.ro 5 rfl).less zn) ((K0.ro 6 rfl).less zn) ((K0.ro 3 rfl).less zn) hn HOK.out.eff HUT.out.2 ts HLT.out HOK.out.cau
   simp only [Tg.val] at hcau
   rw [←HU.out.1,←HU.out.2.1,←HU.out.2.2] at hcau
   have F0:=K0.facts
   simp only [zg] at F0
   go_wp2_with fail
   refine hcau.mono ?_
   clear hcau
   rintro e w2 ⟨rfl,b2⟩
   have K1:=K0.call b2
   clear K0 F0 b2
   have F1:=K1.facts
   simp only [zg] at F1
   cases hz:XW ts u ts fl
   ·rw [hz] at HNX
    clear hz
    cases ue<;>
    ·go_wp2_with fail
     go_ret
     exact ⟨by rw [HNX.out];simp [h1],K1.below⟩
   ·rw [hz] at HNX
    clear hz
    go_wp2_with fail
    clear F1
    obtain ⟨v,hv⟩:∃ v:Int,v=(f u.tab).getD 0:=⟨_,rfl⟩
    obtain ⟨KL,hKL,KN⟩:=K1.name
    have HF:Hid (∀ wv,Hold Zc none w wv KL→Blk wv gR 117 #[.slice gA n gc,.slice eA n ec,.slice fA n fc,.map (some mb)]∧Blk wv g3 48 #[.string u.name,.string u.tab,.bool false,.int .i64 ev,.slice u.cols.A u.cols.n u.cols.c,.bool ue,.slice u.prec.A u.prec.n u.prec.c,.slice u.foll.A u.foll.n u.foll.c,.slice u.rank.A u.rank.n u.rank.c,.slice u.cond.A u.cond.n u.cond.c,.slice u.acts.A u.acts.n u.acts.c]∧RowsM mb f wv):=hid fun wv HC=>by
     rw [hKL] at HC
     exact ⟨HC.Zg 1 rfl,HC.Zg 0 rfl,(HC.ro 2 rfl).now⟩
    have HKL:=hid hKL
    have HV:=hid hv
    clear hKL K1 hv
    refine Lj (by kernel_rfl) ?_
    refine Zn 7 34 (KL) (spL [(27,IsV (.int .i64 v))]) (by kernel_rfl) (by kernel_rfl) (by kernel_rfl) rfl ?_ (KN.drew) ?_
    ·exact Zd Yu (Zm _)
    simp only [zd,zp,List.getElem_toArray,List.getElem_cons_zero,List.getElem_cons_succ]
    repeat (refine' dv rfl rfl rfl (fun wv HC=>?_) ?_;rotate_left;(focus (have q3:=(HF.out _ HC).1.cell 3;have q1:=(HF.out _ HC).2.1.cell 1;go_simp<;>rfl;done));simp only [zp])
    refine YI 27 (IsV (.int .i64 v)) rfl rfl rfl rfl (.int .i64 v) (fun wv HC=>?_) (fun wv HC hD=>rfl) ?_
    ·obtain ⟨k,hk,hf1⟩:=(HF.out _ HC).2.2
     have hlk:=hf1.look Tryz.Qh (x:=u.tab) HUT.out.1
     rw [←HV.out] at hlk
     have hlk2:(Instr.lookup 114 (.map (some mb)) (.string u.tab) false).run Tryz.prog wv=.ok (.int .i64 v) wv:=hlk
     simp [execOp,Act.eval,hlk2,Result.andThen]
    simp only [zp]
    refine Zk ?_
    rintro wx2 HX
    rintro _hrm HG
    clear HG _hrm HF
    rw [HKL.out] at HX
    clear HKL KN
    have F2:=HX.facts
    simp only [zg] at F2
    cases ue<;>
    ·go_wp2_with fail
     go_ret
     exact ⟨by rw [HNX.out,←HV.out];simp [h1],HX.below⟩
 ·skip
  have F0:=K0.facts
  simp only [zg] at F0
  cases ue<;>
  ·go_wp2_with fail
   go_ret
   exact ⟨by rw [HNX.out];simp,K0.below⟩
end
section
open Go.RowKit Go.Maps
section
variable {P:Program} {M:Nat→Prop} {row:Option Nat} {w0 w:World} {L:List Hp} {t k e:TypeId} {κ:Type} {F:KeyFam P k κ} {b n:Nat} {f:κ→Option Int}
theorem Zmw (K:Hold M row w0 w L) {Ob:Obj} (hO:w.heap[b]? =some Ob) (hm:IMap e F b n f w) (T:IntT P t k e) {ops:Array Oper} {rest:List Oper} {o:Oper} {a:Act} {Q:Exit→Act→World→Prop}
  (hg:o.guard=none) (m:Operand) (hop:o.op=Op.range t m) (hmv:a.eval m=.map (some b))
  (h:∀ (D:DataW Unit) (w' :World),QI F f D→Maps.size D≤n→Hold M row w0 w' (.ob w.heap.size (Rng P k e Ob b w.heap.size n D (Maps.has D) (Maps.size D))::L)→wpList P ops Q rest (a.put o.dst (.pointer (some ⟨w.heap.size,0,none⟩))) w'):wpList P ops Q (o::rest) a w:=by
 obtain ⟨D,h1,h2⟩:=hm
 obtain ⟨es,clock,hO2,hfit,hsz,hDe⟩:=h1
 obtain rfl:Ob=.map es clock:=by rw [hO2] at hO;injection hO with hO;exact hO.symm
 have hlt:b<w.heap.size:=(KG.1 hO).1
 have h1:w.ownsMap P k (plainElem P e) b n D:=⟨es,clock,hO,hfit,hsz,hDe⟩
 refine wpList_range_own w hg m t hop k e T.law T.ht (plainElem P e) b n D hmv h1 fun w' hr hgr hs=>?_
 have KB:=K.Zfh (w' :=w') (b:=w.heap.size) (F:=Rng P k e (.map es clock) b w.heap.size n D (Maps.has D) (Maps.size D)) ⟨hgr.os,hgr.tape,hgr.output,hgr.size,fun x hx=>hgr.block x hx (by simp)⟩ (Nat.le_refl _) (by omega) (fun w2 hw2 w3 h3 h4=>Zcs hr (h3.trans ((hgr.block b hlt (by simp)).trans hO).symm) (h4.trans hw2))
 refine h D w' h2 ?_ KB
 rw [hDe]
 simpa [Maps.size,length_sorted] using hsz
end
def Cpd (h:ByteArray→Int→Int) (f:ByteArray→Option Int) (left:Lit→Bool) (D:DataW Unit) (g:ByteArray→Option Int):Prop:=
 (∀ y c,g y=some c→∃ c0,f y=some c0∧c=h y c0)∧(∀ kl,left kl=true→Maps.has D kl=true)∧∀ y c,y.size≤maxLen→f y=some c→∃ kt,keyOf Tryz.prog 9 (.string y)=some kt∧(left kt=true∨g y=some (h y c))
theorem Cpd.start {h:ByteArray→Int→Int} {f:ByteArray→Option Int} {D:DataW Unit} (hD:QI XT f D):Cpd h f (Maps.has D) D (fun _=>none):=by
 refine ⟨fun y c h=>(nomatch h),fun _ h=>h,fun y c hy hf=>?_⟩
 obtain ⟨kt,hk⟩:=XT.key y hy
 exact ⟨kt,hk,.inl (by rw [(hD.1 y hy kt hk).1,hf];rfl)⟩
theorem Cpd.step {h:ByteArray→Int→Int} {f:ByteArray→Option Int} {D:DataW Unit} {left:Lit→Bool} {g:ByteArray→Option Int} (hc:Cpd h f left D g) {x:ByteArray} {c:Int} {kl:Lit} (hx:f x=some c) (hk:keyOf Tryz.prog 9 (.string x)=some kl):Cpd h f (fun z=>left z&&!z.sameKey kl) D (fun y=>if y=x then some (h x c) else g y):=by
 obtain ⟨h1,h2,h3⟩:=hc
 refine ⟨fun y c' hy=>?_,fun z hz=>h2 z (by simp only [Bool.and_eq_true] at hz;exact hz.1),fun y c' hy hf=>?_⟩
 ·by_cases hyx:y=x
  ·simp only [if_pos hyx] at hy
   injection hy with hy
   subst hyx
   exact ⟨c,hx,hy.symm⟩
  ·simp only [if_neg hyx] at hy
   exact h1 y c' hy
 ·obtain ⟨kt,h4,h5⟩:=h3 y c' hy hf
  refine ⟨kt,h4,?_⟩
  by_cases hyx:y=x
  ·right
   subst hyx
   rw [hx] at hf
   injection hf with hf
   simp only [if_pos,hf]
  ·simp only [if_neg hyx]
   rcases h5 with h5|h5
   ·left
    have hne:kt≠kl:=fun e=>by
     subst e
     have h6:Value.string y=Value.string x:=Tryz.Zdl.inj h4 hk
     injection h6 with h6
     exact hyx h6
    simp [h5,sameKey_ne hne]
   ·exact .inr h5
theorem Cpd.done {h:ByteArray→Int→Int} {f:ByteArray→Option Int} {D:DataW Unit} {left:Lit→Bool} {g:ByteArray→Option Int} (hc:Cpd h f left D g) (hl:∀ kl,left kl=false) (y:ByteArray) (hy:y.size≤maxLen):g y=(f y).map (h y):=by
 obtain ⟨h1,h2,h3⟩:=hc
 cases hf:f y with
 | none=>
  cases hg:g y with
  | none=>rfl
  | some c=>
   obtain ⟨c0,h4,-⟩:=h1 y c hg
   rw [hf] at h4
   cases h4
 | some c=>
  obtain ⟨kt,h4,h5⟩:=h3 y c hy hf
  rcases h5 with h5|h5
  ·rw [hl kt] at h5;cases h5
  ·exact h5
theorem IMap.congr {P:Program} {k e:TypeId} {κ:Type} {F:KeyFam P k κ} {b n:Nat} {f g:κ→Option Int} {w:World} (h:IMap e F b n f w) (hfg:∀ x,F.ok x→f x=g x):IMap e F b n g w:=by
 obtain ⟨D,h1,h2,h3⟩:=h
 refine ⟨D,h1,fun x hx kl hk=>by rw [←hfg x hx];exact h2 x hx kl hk,fun kl hh=>?_⟩
 obtain ⟨x,x1,x2,x3⟩:=h3 kl hh
 exact ⟨x,x1,x2,by rw [←hfg x x1];exact x3⟩
def Zeu (w:World) (gR:Nat) (tr ef:Value) (n:Nat) (fl:List Int) (f:ByteArray→Option Int) (e:Ending) (w' :World):Prop:=∃ (u:Value) (C:Option Addr) (c mb:Nat),e=.returned u∧w.grownBy w' (some gR)∧Blk w' gR 117 #[tr,ef,.slice C n c,.map (some mb)]∧Ro w' (fun b=>b=gR) (SlR 1 C n (fl.map (Value.int .i64)))∧Ro w' (fun b=>b=gR) (RowsM mb f)
theorem Zff (w:World) (gR:Nat) (gA:Option Addr) (n gc:Nat) (ts:List Tg) (eA:Option Addr) (ec:Nat) (ls:List (SlP Ef)) (fA:Option Addr) (fc:Nat) (fl:List Int) (mb:Nat) (f:ByteArray→Option Int)
  (hR:Blk w gR 117 #[.slice gA n gc,.slice eA n ec,.slice fA n fc,.map (some mb)]) (hG:Ro w Zc (TgsIn 5 gA n ts)) (hE:Ro w Zc (EfLs eA n ls)) (hF:Ro w Zc (SlR 1 fA n (fl.map (Value.int .i64)))) (hm:Ro w Zc (RowsM mb f)) (hn:n≤1000) (hok:BndOk ts ls fl f):
  Calls Tryz.prog 41 #[.pointer (some ⟨gR,0,none⟩)] w fun e w' =>Zeu w gR (.slice gA n gc) (.slice eA n ec) n (VZ ts fl f) (Vx ts fl f) e w' :=by
 have HL1:=hid hG.now.len
 have HOK:=hid hok
 obtain ⟨mn,hmn,hm1⟩:=hm.now
 obtain ⟨Ob,hO⟩:∃ Ob,w.heap[mb]? =some Ob:=⟨_,Lb hm.now.lt⟩
 have hO' :Ro w Zc (fun w=>w.heap[mb]? =some Ob):=fun w' h1 h2=>(h2 mb (KG.1 hO).1 (fun hb=>hb.elim)).trans hO
 have hmm:=@run_makeMap Tryz.prog
 have HLT:=hid (Blk.lt hR)
 have K0:=((((((Hold.start Zc w zn).add (hF.less (by simp [Mut]))).add (hE.less (by simp [Mut,Hp.foot]))).add (hG.less (by simp [Mut,Hp.foot]))).add (hm.less (by simp [Mut,Hp.foot]))).add (hO'.less (by simp [Mut,Hp.foot]))).Wp (g:=gR) (t:=117) (cs:=#[.slice gA n gc,.slice eA n ec,.slice fA n fc,.map (some mb)]) ((Jv hR).less (by simp [Mut,Hp.foot]))
 have HM1:=hid (fun (w' :World) (h:w'.heap[mb]? =some Ob)=>hm1.stay (h.trans hO.symm))
 have K1:=K0.nil 3 1
 clear hR hE hF hG hm1 hO' hok K0 hO hm
 have F1:=K1.facts
 simp only [zg] at F1
 go_enter Tryz.func41,Tryz.ntmps41
 go_wp2_with fail
 clear F1
 go_loopw [2,13] (fun ov iv wr=>∃ (j cap:Nat) (C:Option Addr),j≤n∧iv=.int .i64 j∧ov=.slice C j cap∧Hold Zc none w wr [.own 3 1 (.slice C j cap) j (((ts.take j).map (We ts fl f)).map (Value.int .i64)),.cst gR 117 #[.slice gA n gc,.slice eA n ec,.slice fA n fc,.map (some mb)],.ro (fun w=>w.heap[mb]? =some Ob),.ro (RowsM mb f),.ro (TgsIn 5 gA n ts),.ro (EfLs eA n ls),.ro (SlR 1 fA n (fl.map (Value.int .i64)))]) (fun _ iv _=>n - (intOf iv).toNat)
 case atStart=>exact ⟨0,0,none,by omega,rfl,rfl,K1⟩
 case round=>
  clear K1
  obtain ⟨j,cap,C,hj,rfl,rfl,H⟩:=hrel
  by_cases hlt:j<n
  ·obtain ⟨t,ht⟩:=Ya HL1.out hlt
   obtain ⟨b,o,rfl,hb,hcs,-⟩:=(H.ro 4 rfl).now.at_ ht
   have x0:=hcs 0 _ (by omega) rfl
   have x1:=hcs 1 _ (by omega) rfl
   have x2:=hcs 2 _ (by omega) rfl
   have x3:=hcs 3 _ (by omega) rfl
   have x4:=hcs 4 _ (by omega) rfl
   have x5:=hcs 5 _ (by omega) rfl
   have x6:=hcs 6 _ (by omega) rfl
   have x7:=hcs 7 _ (by omega) rfl
   have x8:=hcs 8 _ (by omega) rfl
   have x9:=hcs 9 _ (by omega) rfl
   have x10:=hcs 10 _ (by omega) rfl
   simp only [Nat.add_zero,SlP.v] at x0 x1 x2 x3 x4 x5 x6 x7 x8 x9 x10
   clear hcs
   have HTK:=hid (UB ht)
   have HTM:=hid (Ka ht)
   clear ht
   have K2:=H.Za #[.string t.name,.string t.tab,.bool t.before,.int .i64 t.event,.slice t.cols.A t.cols.n t.cols.c,.bool t.each,.slice t.prec.A t.prec.n t.prec.c,.slice t.foll.A t.foll.n t.foll.c,.slice t.rank.A t.rank.n t.rank.c,.slice t.cond.A t.cond.n t.cond.c,.slice t.acts.A t.acts.n t.acts.c] 48
   have F2:=K2.facts
   simp only [zg] at F2
   clear H
   go_wp2_with fail
   have hnx:=Zfd _ gR (some ⟨b,o,none⟩) n gc ts eA ec ls fA fc fl mb f t (HOK.out.tgs t HTM.out) (K2.Zg 2 rfl) ((K2.ro 5 rfl).less zn) ((K2.ro 6 rfl).less zn) ((K2.ro 7 rfl).less zn) ((K2.ro 5 rfl).less zn|>.imp fun w2 h2=>h2.2 _ HTM.out) ((K2.ro 4 rfl).less zn) hn HOK.out
   simp only [Tg.val] at hnx
   refine hnx.mono ?_
   clear hnx
   rintro e w3 ⟨rfl,b3⟩
   have K3:=K2.call b3
   clear K2 F2 b3
   obtain ⟨v,hv⟩:∃ v,v=We ts fl f t:=⟨_,rfl⟩
   rw [←hv]
   have HV:=hid hv
   clear hv
   have HOWN:=hid (K3.get 1 rfl)
   have HB:=hid K3.grow.size
   go_wp2_with (at_builtin;go_must (refine Zaa w3 #[.int .i64 v] rfl (.tmp 17) (.tmp 21) 22 rfl w.heap.size 3 1 8 _ Tryz.underlying22 Tryz.XL.hi rfl (by omega) (.slice C j cap) j _ rfl HOWN.out w3.heap.size (by simp) rfl rfl (by intro u hu;simp at hu;subst hu;rfl) (by omega) (by omega) HB.out ?_);intro g' cap' w' ho hg hdj hl';have KA:=Hold.append (K3.Za #[.int .i64 v] 3) 2 rfl ho hg hdj hl')
   go_roundw
   case rel=>exact ⟨j+1,cap',some ⟨g',0,none⟩,by omega,by go_num,rfl,by rw [HTK.out,Km,Km,List.map_cons,List.map_cons,List.map_nil,List.map_nil,←HV.out];exact KA.pick [2,3,4,5,6,7,8] (by decide) rfl⟩
   case measure=>simp [intOf];omega
  ·obtain rfl:j=n:=by omega
   rw [show ts.take j=ts by rw [Kh (by rw [HL1.out];omega)]] at H
   obtain ⟨nl,hnl⟩:∃ nl,nl=ts.map (We ts fl f):=⟨_,rfl⟩
   rw [←hnl] at H
   have HNL:=hid hnl
   clear hnl
   have KM:=Hold.ZbM H 3 XT
   have F2:=H.facts
   simp only [zg] at F2
   obtain ⟨gm,hgm⟩:∃ gm,gm=wr.heap.size:=⟨_,rfl⟩
   go_wp2_with (at_range;go_must (refine Zmw (f:=f) KM (Ob:=Ob) (KM.ro 3 rfl).now (HM1.out _ (KM.ro 3 rfl).now) Tryz.Qh rfl (.tmp 28) rfl rfl ?_);intro D w4 hSD hDn K4)
   have HSD:=hid hSD
   rw [KP,←hgm] at K4
   (try rw [KP])
   (try rw [←hgm])
   (try simp only [zp])
   have HGM:=hid hgm
   clear hgm hSD KM H F2
   obtain ⟨gr,hgr⟩:∃ gr,gr=gm+1:=⟨_,rfl⟩
   rw [←hgr] at K4 ⊢
   have HGR:=hid hgr
   clear hgr
   have HS0:=hid (show Cpd (fun y c=>min (c+Xf y ts fl 0) 100) f (Maps.has D) D (fun _=>none) from Cpd.start HSD.out)
   go_loopw [6,7] (fun _ _ wx=>∃ (left:Lit→Bool) (cnt k:Nat) (g:ByteArray→Option Int),k+cnt≤mn∧Hid (Cpd (fun y c=>min (c+Xf y ts fl 0) 100) f left D g)∧Hold Zc none w wx [.ob gr (Rng Tryz.prog 9 3 Ob mb gr mn D left cnt),.ob gm (IMap 3 XT gm k g),.own 3 1 (.slice C j cap) j (nl.map (Value.int .i64)),.cst gR 117 #[.slice gA j gc,.slice eA j ec,.slice fA j fc,.map (some mb)],.ro (fun w=>w.heap[mb]? =some Ob),.ro (RowsM mb f),.ro (TgsIn 5 gA j ts),.ro (EfLs eA j ls),.ro (SlR 1 fA j (fl.map (Value.int .i64)))]) (fun _ _ wx=>wx.rangeLeft mb gr)
   case atStart=>exact ⟨_,Maps.size D,0,_,by omega,HS0,K4.pick [0,1,2,3,4,5,6,7,8] (by decide) rfl⟩
   case round=>
    clear K4
    obtain ⟨left,cnt,k,g,hkc,HC,H⟩:=hrel
    have hme:wr.rangeLeft mb gr=cnt:=(H.ob_ 0 rfl wr (H.ro 4 rfl).now rfl).left_eq
    have HME:=hid hme
    clear hme
    go_wp2_with (at_next;go_must (refine Zmt H 0 4 rfl rfl Tryz.Qh HSD.out HC.out.2.1 rfl (.tmp 29) rfl rfl ?_ ?_))
    ·intro hc0 hl0
     have hg1:=HC.out.done hl0
     have hown:=H.get 2 rfl
     have hmap:=H.ob_ 1 rfl
     have hblk:=H.Zg 3 rfl
     have hgrow:=H.grow
     have hgmf:=H.fresh _ (Ka (show _[1]? =some _ from rfl)) gm rfl
     have hgm1:w.heap.size≤gm:=by rcases hgmf.1 with h|⟨h,-⟩<;>first|exact h|cases h
     have HH:=hid (KJ hg1 (KJ hown (KJ hmap (KJ hblk (KJ hgrow (KJ hgm1 (KJ hgmf.2 hkc)))))))
     have B0:=hblk.cell 0
     have B2:=hblk.cell 2
     have B3:=hblk.cell 3
     have B4:=hblk.frozen 2
     have B5:=hblk.frozen 3
     clear hg1 hown hmap hblk hgrow hgmf hgm1 H
     go_wp2_with fail
     refine Lh (results_none rfl _ _ _) rfl ?_
     obtain ⟨hg1,hown,hmap,hblk,hgrow,hgm1,hgml,hkc⟩:=HH.out
     have hlt:=HLT.out
     have e0:((wr.setCell ⟨gR,2,none⟩ (.slice C j cap)).setCell ⟨gR,3,none⟩ (.map (some gm))).heap.size=wr.heap.size:=by simp [World.setCell]
     have e1:∀ b,b≠gR→((wr.setCell ⟨gR,2,none⟩ (.slice C j cap)).setCell ⟨gR,3,none⟩ (.map (some gm))).heap[b]? =wr.heap[b]? :=fun b hb=>(Below.heap_setCell _ _ _ b hb).trans (Below.heap_setCell _ _ _ b hb)
     have hgr2:w.grownBy wr (some gR):=⟨hgrow.os,hgrow.tape,hgrow.output,hgrow.size,fun i hi hne=>hgrow.block i hi (by simp)⟩
     refine ⟨_,C,cap,gm,rfl,Uv (p:=⟨gR,3,none⟩) (Uv (p:=⟨gR,2,none⟩) hgr2 (.inl rfl) _) (.inl rfl) _,?_,fun w2 h1 h2=>?_,RowsM.ro ⟨k,by omega,(hmap.stay (e1 gm (by omega))).congr fun x hx=>hg1 x hx⟩ (by omega)⟩
     ·have hb2:=(hblk.Zc5 2 (.slice C j cap)).Zc5 3 (.map (some gm))
      simpa only [List.setIfInBounds_toArray,List.set_cons_succ,List.set_cons_zero] using hb2
     ·unfold VZ
      rw [←HNL.out]
      exact Rd.Us (Zcl (M:=fun b=>b=gR) (b0:=w.heap.size) (fun b hb=>by rw [hb];exact hlt) ⟨by rw [←e0];exact h1,fun b hl hb=>(h2 b (by rw [e0];exact hl) hb).trans (e1 b hb)⟩ hown)
    ·intro x c kl w5 cnt' hxo hxs hxk hxl hct K5 hen
     (try simp only [List.set_cons_zero] at K5)
     have hb:=HOK.out.row x c hxs
     obtain ⟨z,hz⟩:∃ z,z=Xf x ts fl 0:=⟨_,rfl⟩
     have hzb:0≤z∧z≤100:=by rw [hz];exact Qe (fun y hy=>(HOK.out.fir y hy).1) (by omega)
     have HXS:=hid hxs
     have HXK:=hid hxk
     have HXO:=hid hxo
     have hw:IntKind.i64.wrap (c+z)=c+z:=by rw [Kn];omega
     have hval:XT.val x=.string x:=rfl
     rw [hval] at hen ⊢
     clear hval hxs hxk hxo H
     have hins:=Zaz w5 gR gA j gc 5 ts (.slice eA j ec) (.map (some mb)) fA fc fl x (K5.Zg 3 rfl) ((K5.ro 6 rfl).less zn) ((K5.ro 8 rfl).less zn) hn HOK.out.ins HOK.out.fir
     rw [←hz] at hins
     have HZ:=hid hz
     clear hz
     have HINS:=hid hins
     clear hins
     have F5:=K5.facts
     simp only [zg] at F5
     go_wp2_with (first|(go_at_call 84;go_must (refine HINS.out.mono ?_);rintro e w6 ⟨rfl,b6⟩;have K6:=K5.call b6)|(at_mapUpdate;go_must (refine Zmv K6 1 rfl Tryz.Qh rfl (.tmp 35) (.tmp 36) (.tmp 42) rfl rfl x rfl (min (c+z) 100) rfl (by constructor<;>omega) HXO.out (by unfold maxLen;omega) ?_);intro w7 K7))
     simp only [zl] at K7
     have hme2:w7.rangeLeft mb gr=cnt' :=(K7.ob_ 0 rfl w7 (K7.ro 4 rfl).now rfl).left_eq
     try simp only [Act.put]
     go_roundw
     case rel=>exact ⟨_,cnt',k+1,_,by omega,hid (Cpd.step HC.out HXS.out HXK.out),by rw [←HZ.out];exact K7⟩
     case measure=>rw [hme2,HME.out];exact hct
end
end Go.Proofs.YtnmnkbnmollpmaaGreatDoor

import Derived.Test.YtnmnkbnmollpmaaGreatDoorBdDscSaidMAF
import Derived.RangeFuncBound
set_option linter.unusedVariables false
set_option linter.unusedSimpArgs false
set_option maxHeartbeats 64000000
set_option maxRecDepth 100000
namespace Go.Proofs.YtnmnkbnmollpmaaGreatDoor
section
open Go.RowKit Go.Shelf
attribute [local go_sem] Oper.semAt_some
set_option linter.unusedVariables false
set_option linter.unusedSimpArgs false
theorem Tryz.Zgx:ElemT Tryz.prog 115 118 1 24 (.slice none 0 0):=⟨Tryz.underlying115,by kernel_rfl,rfl,by omega⟩
theorem Zdg {P:Program} {M:Nat→Prop} {row:Option Nat} {w0 w:World} {L:List Hp} (KH:Hold M row w0 w L) (i:Nat) {t e:TypeId} {size bytes q cap:Nat} {C:Option Addr} {xs:List Value} {z:Value} (hi:L[i]? =some (.own e size (.slice C q cap) q xs)) (hE:ElemT P t e size bytes z)
  (cs:Array Value) {ops:Array Oper} {o:Oper} {a:Act} {K:Act→World→Prop} {Q:Exit→Act→World→Prop} {E:Prop} (hgd:o.guard=none) (s x:Operand) (ho:o.op=.call { callee:=.builtin .append,args:=#[s,x],argTypes:=#[t,t] })
  (hs:a.eval s=.slice C q cap) (H:Nat) (hH:w.heap.size=H) (hx:a.eval x=.slice (some ⟨H,0,none⟩) 1 1) (hl:cs.size=size) (h1:∀ u∈cs.toList,u.oneCell' =true) (hq:q<140737488355328) (hb:(q+1) * bytes≤140737488355328)
  (h:∀ g cap' w',q+1≤cap' →cap' ≤9223372036854775807→Hold M row w0 w' (L.set i (.own e size (.slice (some ⟨g,0,none⟩) (q+1) cap') (q+1) (xs++cs.toList)))→K (a.put o.dst (.slice (some ⟨g,0,none⟩) (q+1) cap')) w'):
  if Region.wanted o (yielded ops a.tmps)=true then Oper.wp P o a (w.alloc (.cells cs e)) K Q else E:=by
 subst hH
 obtain ⟨j,hi1,hi2,hi3,hi4⟩:=info_parts hE.hi
 refine step_append_lies (w:=w.alloc (.cells cs e)) hgd s x t ho w0.heap.size e j z size bytes hE.ht hi1 hi2 hi3 hi4 hE.hzs hE.hsz (.slice C q cap) q xs hs ((KH.get i hi).alloc _) ⟨w.heap.size,0,none⟩ 1 1 cs.toList hx (by simpa using hl) ?_ h1 (by omega) (by unfold maxLen;omega) hb (by have:=KH.grow.size;simp;omega) (w.heap.size+1) (by simp) ?_
 ·exact World.news_of_block (heap_alloc_new w _)
 ·intro g cap' w' ho' hg hd hl'
  obtain ⟨c1,c2,_⟩:=ZM ho'
  have K1:=KH.Za cs e
  have K2:=K1.append (i+1) (by simpa using hi) ho' hg (hd.imp id fun e=>by rw [e];simp) hl'
  refine h g cap' w' c1 c2 (K2.drop ?_)
  simp
structure BTg (t:Tg):Prop where
 fit:TgFit 5 t
 ed:TgEd t
 rk:∀ r∈t.rank.l,Ub r
 ins:J4 t
 tab:t.tab.size≤maxLen
 cols:t.cols.n≤1000
structure BTe (x:Te):Prop where
 n:x.n≤1000
 m:x.m≤100
 nm:x.nm.size≤maxLen
theorem JL {w:World} {b:Nat} {u:Tg} (h:Uh b u w):w.cell? ⟨b,0,none⟩=some (.string u.name)∧w.cell? ⟨b,1,none⟩=some (.string u.tab)∧w.cell? ⟨b,2,none⟩=some (.bool u.before)∧w.cell? ⟨b,3,none⟩=some (.int .i64 u.event)∧w.cell? ⟨b,4,none⟩=some (.slice u.cols.A u.cols.n u.cols.c)∧w.cell? ⟨b,5,none⟩=some (.bool u.each)∧w.cell? ⟨b,6,none⟩=some (.slice u.prec.A u.prec.n u.prec.c)∧w.cell? ⟨b,7,none⟩=some (.slice u.foll.A u.foll.n u.foll.c)∧w.cell? ⟨b,8,none⟩=some (.slice u.rank.A u.rank.n u.rank.c)∧w.cell? ⟨b,9,none⟩=some (.slice u.cond.A u.cond.n u.cond.c)∧w.cell? ⟨b,10,none⟩=some (.slice u.acts.A u.acts.n u.acts.c):=by
 have hb:Blk w b 48 _:=h
 exact ⟨hb.cell 0,hb.cell 1,hb.cell 2,hb.cell 3,hb.cell 4,hb.cell 5,hb.cell 6,hb.cell 7,hb.cell 8,hb.cell 9,hb.cell 10⟩
theorem ZbR {tl:List Te} {l:List De} (hb:∀ x∈l,x.li.length≤1000∧x.ld.length≤1000∧x.lu.length≤1000) (t:Tg):(Ye tl l t).length≤3000:=by
 unfold Ye
 split
 ·rename_i d y hd hy
  split
  ·simp
  ·have h1:=hb d (List.mem_of_find?_eq_some hd)
   have h2:=Zb4 t.event t.cols.l y.cs (d.li.map Rw.row) (d.ld.map Rw.row) (d.lu.map Pr.upd)
   simp only [List.length_map] at h2
   unfold Vn
   split
   ·simp only [List.length_append,List.length_map]
    omega
   ·split<;>simp
 ·simp
structure FiUp (ts:List Tg) (tes:List Te) (des:List De) (j:Nat) (ls:List (SlP Ef)):Prop where
 len:ls.length=j
 ok:∀ l∈ls,QF l
 of:J5 ts ts ls
theorem FiUp.zero (ts:List Tg) (tes:List Te) (des:List De):FiUp ts tes des 0 []:=⟨rfl,(fun l h=>nomatch h),fun i l q h=>by simp at h⟩
theorem FiUp.next {ts:List Tg} {tes:List Te} {des:List De} {j:Nat} {ls:List (SlP Ef)} (h:FiUp ts tes des j ls) {t:Tg} (ht:ts[j]? =some t) {l:SlP Ef} (h1:QF l) (h2:∀ u,l.l.any (efC u)=Vh ts t u):FiUp ts tes des (j+1) (ls++[l]):=by
 refine ⟨by simp [h.len],fun x hx=>?_,fun i x q hx hq=>?_⟩
 ·rcases Kk.1 hx with hx|hx
  ·exact h.ok x hx
  ·simp at hx;subst hx;exact h1
 ·rw [List.getElem?_append] at hx
  split at hx
  ·exact h.of i x q hx hq
  ·rename_i hi
   have hij:i=j:=by
    have:=(Kc.1 hx).1
    simp at this
    have:=h.len
    omega
   subst hij
   rw [show i - ls.length=0 by rw [h.len];omega] at hx
   obtain rfl:l=x:=by simpa using hx
   rw [ht] at hq
   injection hq with hq
   subst hq
   exact h2
def Vo (tes:List Te) (des:List De) (t:Tg):Int:=((Ye tes des t).length:Int)
def QG (ls:List (SlP Ef)) (w:World):Prop:=∀ l∈ls,EfsIn l.A l.n l.l w
theorem Zgo {w:World} {M:Nat→Prop} {ls:List (SlP Ef)} {l:SlP Ef} (h:Ro w M (QG ls)) (k:Ro w M (EfsIn l.A l.n l.l)):Ro w M (QG (ls++[l])):=fun w' h1 h2 x hx=>by
 rcases Kk.1 hx with hx|hx
 ·exact h w' h1 h2 x hx
 ·simp at hx;subst hx;exact k w' h1 h2
abbrev SBx (bR gR gX:Nat) (t:Tg) (wq:World):Prop:=wq.cell? ⟨bR,0,none⟩=some (.pointer (some ⟨gR,0,none⟩))∧wq.cell? ⟨gX,0,none⟩=some (.string t.name)∧wq.cell? ⟨gX,1,none⟩=some (.string t.tab)∧wq.cell? ⟨gX,2,none⟩=some (.bool t.before)∧wq.cell? ⟨gX,3,none⟩=some (.int .i64 t.event)∧wq.cell? ⟨gX,4,none⟩=some (.slice t.cols.A t.cols.n t.cols.c)∧wq.cell? ⟨gX,5,none⟩=some (.bool t.each)∧wq.cell? ⟨gX,6,none⟩=some (.slice t.prec.A t.prec.n t.prec.c)∧wq.cell? ⟨gX,7,none⟩=some (.slice t.foll.A t.foll.n t.foll.c)∧wq.cell? ⟨gX,8,none⟩=some (.slice t.rank.A t.rank.n t.rank.c)∧wq.cell? ⟨gX,9,none⟩=some (.slice t.cond.A t.cond.n t.cond.c)∧wq.cell? ⟨gX,10,none⟩=some (.slice t.acts.A t.acts.n t.acts.c)
theorem Zmu {P:Program} {t k e:TypeId} {κ:Type} [DecidableEq κ] {F:KeyFam P k κ} {b n:Nat} {f:κ→Option Int} {w:World} (h0:IMap e F b n f w) (T:IntT P t k e) {ops:Array Oper} {rest:List Oper} {o:Oper} {a:Act} {Q:Exit→Act→World→Prop}
  (hg:o.guard=none) (m x v:Operand) (hop:o.op=Op.mapUpdate t m x v) (hm:a.eval m=.map (some b)) (y:κ) (hx:a.eval x=F.val y) (z:Int) (hv:a.eval v=.int .i64 z) (hz:I64 z) (hy:F.ok y) (hn:n<maxLen)
  (h:∀ w',IMap e F b (n+1) (fun u=>if u=y then some z else f u) w' →w.grownBy w' (some b)→wpList P ops Q rest (a.put o.dst undef) w'):wpList P ops Q (o::rest) a w:=by
 refine wpList_plain hg fun K' hK' =>?_
 obtain ⟨w',hrun,h1,h2⟩:=h0.put T hy hz hn
 unfold Oper.wp
 simp [execOp,hop,hm,hx,hv,hrun,Result.andThen]
 exact hK' _ _ (h w' h1 h2)
def X7 (l:List (Nat × Te)):ByteArray→Option Int:=l.foldl (fun f x y=>if y=x.2.nm then some (x.2.m:Int) else f y) (fun _=>none)
theorem Zb3 (l:List (Nat × Te)) (x:Nat × Te):X7 (l++[x])=fun y=>if y=x.2.nm then some (x.2.m:Int) else X7 l y:=by
 unfold X7
 rw [List.foldl_append]
 rfl
theorem Zb2 (tes:List Te):∀ k:Nat,k≤tes.length→X7 (Xj (Uj tes tes.length) k)=Xa (tes.drop (tes.length - k))
 | 0,_=>by
  rw [Nat.sub_zero,List.drop_length]
  rfl
 | k+1,hk=>by
  have hlt:tes.length - (k+1)<tes.length:=by omega
  rw [zR,Zb3,Zb2 tes k (by omega)]
  rw [Le hlt,show tes.length - (k+1)+1=tes.length - k by omega]
  have hb:(Uj tes tes.length k).2=tes[tes.length - (k+1)]:=by
   unfold Uj
   rw [show tes.length - 1 - k=tes.length - (k+1) by omega,Ky hlt]
   rfl
  rw [hb]
  funext y
  unfold Xa
  by_cases hy:y=tes[tes.length - (k+1)].nm
  ·rw [if_pos hy,List.find?_cons_of_pos (by simp [hy])]
   rfl
  ·rw [if_neg hy,List.find?_cons_of_neg (by simpa using fun e=>hy e.symm)]
theorem Zme {α β:Type} (g:α→β) (f:Nat→α) (k:Nat):(Xj f k).map g=Xj (fun i=>g (f i)) k:=by
 unfold Xj
 rw [List.map_map]
 rfl
abbrev Bk:={ x:Nat × Te // x.2.nm.size≤maxLen∧x.2.m≤100 }
def Zfc (tes:List Te) (len:Nat) (h:∀ x∈tes,x.nm.size≤maxLen∧x.m≤100) (k:Nat):Bk:=⟨Uj tes len k,by
 unfold Uj
 cases hx:tes[len - 1 - k]? with
 | none=>exact ⟨Lc _,Lc _⟩
 | some y=>exact h y (Ka hx)⟩
theorem Zim (tes:List Te):X7 (Xj (Uj tes tes.length) tes.length)=Xa tes:=by
 rw [Zb2 tes tes.length (Kg _),Nat.sub_self,List.drop_zero]
theorem zJ:∀ {l:List Int},(∀ z∈l,0≤z∧z≤1000000)→0≤l.sum∧l.sum≤1000000 * l.length
 | [],_=>by simp
 | a::l,h=>by
  have h1:=h a (Kl ..)
  have h2:=zJ (l:=l) fun z hz=>h z (Kr _ hz)
  simp only [List.sum_cons,List.length_cons]
  omega
theorem ZlH {l:List Int} {i:Nat} {z:Int} (hz:l[i]? =some z):(l.take (i+1)).sum=(l.take i).sum+z:=by
 rw [UB hz,List.sum_append]
 simp
theorem Zay (w:World) (gA:Option Addr) (n gc:Nat) (ts:List Tg) (B:Option Addr) (m e:Nat) (tes:List Te) (D:Option Addr) (dn dc:Nat) (des:List De) (ht:Ro w Zc (TgsIn 5 gA n ts)) (hT:Ro w Zc (TesIn B m tes)) (hD:Ro w Zc (DesIn D dn des)) (hn:n≤8) (hm1:0<m) (hm:m≤100) (hdn:dn≤1000) (htg:∀ t∈ts,BTg t) (hte:∀ x∈tes,BTe x) (hde:∀ x∈des,DeB x):
  Calls Tryz.prog 17 #[.slice gA n gc,.slice B m e,.slice D dn dc] w fun e w' =>e=.returned (.int .i64 (XM 5 ts tes des))∧Below w.heap.size w w' :=by
 have HTG:=hid htg
 have HTE:=hid hte
 have HDE:=hid hde
 have HLT:=hid ht.now.len
 have HLE:=hid hT.now.len
 have HBW:=hid (show ∃ b o,B=some ⟨b,o,none⟩∧b<w.heap.size from by
  obtain ⟨x,hx⟩:=Ya hT.now.len hm1
  obtain ⟨b,o,h1,h2,-⟩:=hT.now.at_ hx
  exact ⟨b,o,h1,h2⟩)
 have HDL:=hid (show ∀ x∈des,x.li.length≤1000∧x.ld.length≤1000∧x.lu.length≤1000 from fun x hx=>by
  have h1:=hde x hx
  have h2:=hD.now.2 x hx
  exact ⟨by rw [show x.li.length=x.ni from h2.1.len];exact h1.1,by rw [show x.ld.length=x.nd from h2.2.1.len];exact h1.2.1,by rw [show x.lu.length=x.nu from h2.2.2.len];exact h1.2.2.1⟩)
 have hmm:=@run_makeMap Tryz.prog
 have K0:=(((Hold.start Zc w zn).add (hD.less (by simp [Mut]))).add (hT.less (by simp [Mut,Hp.foot]))).add (ht.less (by simp [Mut,Hp.foot]))
 clear ht hT hD htg hte hde
 refine callsIn_wide.1 (callsIn_of_wp_marks (n:=5) Tryz.func17 rfl trivial ?_ rfl)
 refine wpIn_wide.2 ?_
 simp only [Tryz.ntmps17,List.size_toArray,List.length_cons,List.length_nil,Nat.reduceAdd,Nat.reduceSub,Array.replicate_succ,Array.replicate_zero,List.push_toArray,List.append_toArray,List.nil_append,List.cons_append]
 go_wp2_with fail
 refine (Gm (Mut Zc _) _ K0.Zb gA n gc ts B m e tes 4 (K0.ro 0 rfl) (K0.ro 1 rfl) (by omega) (by omega) (fun u hu=>(HTG.out u hu).fit) (fun x hx=>(HTE.out x hx).n) (fun x hx=>by have:=(HTE.out x hx).m;omega) (fun u hu=>(HTG.out u hu).rk)).mono ?_
 rintro e1 w1 ⟨rfl,b1⟩
 have K1:=K0.call b1
 clear K0 b1
 obtain ⟨R,hR⟩:∃ R,R=YD (4+1) ts tes:=⟨_,rfl⟩
 have hRb:0≤R∧R≤17592186044416:=by rw [hR];exact ZjW
 rw [←hR]
 have HR:=hid hR
 clear hR
 by_cases hbig:R > 10000
 ·have hd:decide (R > 10000)=true:=by simpa using hbig
  have HBG:=hid hbig
  have HB1:=hid K1.below
  go_wp2_with fail
  exact ⟨_,results_tmp rfl _ _ _,by
   have hfir:YD 5 ts tes=R:=HR.out.symm
   unfold XM
   rw [hfir,Lg HBG.out]
   rfl,HB1.out⟩
 ·have hd:decide (R > 10000)=false:=by simpa using hbig
  have HBG:=hid hbig
  clear hbig
  have K2:=((K1.ZbM 3 XT).alloc #[.slice gA n gc,.slice none 0 0,.slice none 0 0,.map (some w1.heap.size)] 117).Za #[.pointer (some ⟨w1.heap.size+1,0,none⟩)] 113
  simp only [World.size_alloc] at K2
  obtain ⟨mb,hmb⟩:∃ g,g=w1.heap.size:=⟨_,rfl⟩
  obtain ⟨gR,hgR⟩:∃ g,g=mb+1:=⟨_,rfl⟩
  obtain ⟨bR,hbR⟩:∃ g,g=gR+1:=⟨_,rfl⟩
  rw [←hmb,←hgR,←hbR] at K2
  clear K1
  go_wp2_with fail
  rw [←hmb,←hgR,←hbR]
  clear hmb hgR hbR hmm
  generalize World.alloc _ _=w2 at K2 ⊢
  have K3:=((K2.add (show Ro _ _ (QG []) from fun _ _ _ l hl=>nomatch hl)).nil 3 1).nil 118 1
  clear K2
  go_wp2_with fail
  go_loopw [28] (fun iv wr=>∃ (j ec fc:Nat) (eA fA:Option Addr) (ls:List (SlP Ef)),j≤n∧iv=.int .i64 j∧Hid (FiUp ts tes des j ls)∧Hold Zc none w wr [.own 118 1 (.slice eA j ec) j (ls.map SlP.v),.own 3 1 (.slice fA j fc) j (((ts.take j).map (Vo tes des)).map (Value.int .i64)),.ro (QG ls),.cst bR 113 #[.pointer (some ⟨gR,0,none⟩)],.blk gR 117 #[.slice gA n gc,.slice eA j ec,.slice fA j fc,.map (some mb)],.ob mb (IMap 3 XT mb 0 (fun _=>none)),.ro (TgsIn 5 gA n ts),.ro (TesIn B m tes),.ro (DesIn D dn des)]) (fun iv _=>n - (intOf iv).toNat)
  case atStart=>exact ⟨0,0,0,none,none,[],by omega,rfl,hid (FiUp.zero ts tes des),K3⟩
  case round=>
   clear K3
   obtain ⟨j,ec,fc,eA,fA,ls,hj,rfl,HU,H⟩:=hrel
   by_cases hlt:j<n
   ·obtain ⟨t,htj⟩:=Ya HLT.out hlt
    obtain ⟨b,o,rfl,hb,hcs,-⟩:=(H.ro 6 rfl).now.at_ htj
    have x0:=hcs 0 _ (by omega) rfl
    have x1:=hcs 1 _ (by omega) rfl
    have x2:=hcs 2 _ (by omega) rfl
    have x3:=hcs 3 _ (by omega) rfl
    have x4:=hcs 4 _ (by omega) rfl
    have x5:=hcs 5 _ (by omega) rfl
    have x6:=hcs 6 _ (by omega) rfl
    have x7:=hcs 7 _ (by omega) rfl
    have x8:=hcs 8 _ (by omega) rfl
    have x9:=hcs 9 _ (by omega) rfl
    have x10:=hcs 10 _ (by omega) rfl
    simp only [Nat.add_zero,SlP.v] at x0 x1 x2 x3 x4 x5 x6 x7 x8 x9 x10
    clear hcs
    have HTJ:=hid htj
    have HTM:=hid (Ka htj)
    clear htj
    obtain ⟨gX,hgX⟩:∃ g,g=wr.heap.size:=⟨_,rfl⟩
    have K4:=H.Za #[.string t.name,.string t.tab,.bool t.before,.int .i64 t.event,.slice t.cols.A t.cols.n t.cols.c,.bool t.each,.slice t.prec.A t.prec.n t.prec.c,.slice t.foll.A t.foll.n t.foll.c,.slice t.rank.A t.rank.n t.rank.c,.slice t.cond.A t.cond.n t.cond.c,.slice t.acts.A t.acts.n t.acts.c] 48
    rw [←hgX] at K4
    clear H
    go_upto_region 8 with fail
    rw [←hgX]
    clear hgX x0 x1 x2 x3 x4 x5 x6 x7 x8 x9 x10
    generalize World.alloc _ _=w4 at K4 ⊢
    obtain ⟨KL,hKL,KN⟩:=K4.name
    have HS:∀ wq:World,Hold Zc none w wq KL→SBx bR gR gX t wq:=fun wq HC=>by
     rw [hKL] at HC
     exact ⟨(HC.Zg 4 rfl).cell 0,JL (HC.get 0 rfl).now⟩
    have HE1:∀ wq:World,Hold Zc none w wq KL→wq.cell? ⟨gR,1,none⟩=some (.slice eA j ec)∧gR<wq.heap.size:=fun wq HC=>by
     rw [hKL] at HC
     exact ⟨(HC.Ym 5 rfl).cell 1,(HC.fresh _ (Ka (show _[5]? =some _ from rfl)) gR rfl).2⟩
    have hi1:KL[1]? =some (.own 118 1 (.slice eA j ec) j (ls.map SlP.v)):=by rw [hKL];rfl
    have hef:=Zgr (Mut Zc KL) w4.drew KN.drew.Zb t (some ⟨b,o,none⟩) n gc ts (by
     have h:=KN.drew
     rw [hKL] at h ⊢
     exact (h.ro 7 rfl).imp fun w2 h2=>h2.2 t HTM.out) (by
     have h:=KN.drew
     rw [hKL] at h ⊢
     exact h.ro 7 rfl) hn (fun x hx=>(HTG.out x hx).ed) (HTG.out t HTM.out).ed
    simp only [Tg.val] at hef
    have HEF:=hid hef
    clear hef
    have hS0:(fun wq:World=>SBx bR gR gX t wq∧wq.cell? ⟨gR,1,none⟩=some (.slice eA j ec)) w4.drew:=⟨HS _ KN.drew,(HE1 _ KN.drew).1⟩
    go_wp2_with fail
    (try refine wp_region_noPanic ?_)
    refine ZdN 10 (by kernel_rfl) (by kernel_rfl) ?_
    simp only [List.take_succ_cons,List.take_zero,List.drop_succ_cons,List.drop_zero]
    refine wpAny_of_held (S:=fun wq:World=>SBx bR gR gX t wq∧wq.cell? ⟨gR,1,none⟩=some (.slice eA j ec)) _ _ _ _ ?_
    refine wpAnyH_take (i:=0) (v:=.pointer (some ⟨gR,0,none⟩)) rfl (by kernel_rfl) (by kernel_rfl) (by kernel_rfl) (fun _ _ _ h=>h) (Or.inl ⟨by rfl,fun wq hSw=>?_⟩) (by assumption) ?_
    ·obtain ⟨⟨q0,-⟩,-⟩:=hSw;go_simp<;>rfl
    simp only [zp,List.getElem_toArray,List.getElem_cons_zero,List.getElem_cons_succ]
    refine wpAnyH_take (i:=1) (v:=.pointer (some ⟨gR,0,none⟩)) rfl (by kernel_rfl) (by kernel_rfl) (by kernel_rfl) (fun _ _ _ h=>h) (Or.inl ⟨by rfl,fun wq hSw=>?_⟩) (by assumption) ?_
    ·obtain ⟨⟨q0,-⟩,-⟩:=hSw;go_simp<;>rfl
    simp only [zp,List.getElem_toArray,List.getElem_cons_zero,List.getElem_cons_succ]
    refine wpAnyH_take (i:=2) (v:=.pointer (some ⟨gR,0,none⟩)) rfl (by kernel_rfl) (by kernel_rfl) (by kernel_rfl) (fun _ _ _ h=>h) (Or.inl ⟨by rfl,fun wq hSw=>?_⟩) (by assumption) ?_
    · go_simp<;>rfl
    simp only [zp,List.getElem_toArray,List.getElem_cons_zero,List.getElem_cons_succ]
    refine wpAnyH_take (i:=3) (v:=.pointer (some ⟨gR,1,none⟩)) rfl (by kernel_rfl) (by kernel_rfl) (by kernel_rfl) (fun _ _ _ h=>h) (Or.inl ⟨by rfl,fun wq hSw=>?_⟩) (by assumption) ?_
    · go_simp<;>rfl
    simp only [zp,List.getElem_toArray,List.getElem_cons_zero,List.getElem_cons_succ]
    refine wpAnyH_take (i:=4) (v:=.slice eA j ec) rfl (by kernel_rfl) (by kernel_rfl) (by kernel_rfl) (fun _ _ _ h=>h) (Or.inl ⟨by rfl,fun wq hSw=>?_⟩) (by assumption) ?_
    ·have q1:=hSw.2;go_simp<;>rfl
    simp only [zp,List.getElem_toArray,List.getElem_cons_zero,List.getElem_cons_succ]
    refine wpAnyH_take (i:=5) (v:=.agg #[.string t.name,.string t.tab,.bool t.before,.int .i64 t.event,.slice t.cols.A t.cols.n t.cols.c,.bool t.each,.slice t.prec.A t.prec.n t.prec.c,.slice t.foll.A t.foll.n t.foll.c,.slice t.rank.A t.rank.n t.rank.c,.slice t.cond.A t.cond.n t.cond.c,.slice t.acts.A t.acts.n t.acts.c]) rfl (by kernel_rfl) (by kernel_rfl) (by kernel_rfl) (fun _ _ _ h=>h) (Or.inl ⟨by rfl,fun wq hSw=>?_⟩) (by assumption) ?_
    ·obtain ⟨⟨-,q0,q1,q2,q3,q4,q5,q6,q7,q8,q9,q10⟩,-⟩:=hSw;go_simp<;>rfl
    simp only [zp,List.getElem_toArray,List.getElem_cons_zero,List.getElem_cons_succ]
    refine wpAnyH_take (i:=6) (v:=.slice (some ⟨b,o,none⟩) n gc) rfl (by kernel_rfl) (by kernel_rfl) (by kernel_rfl) (fun _ _ _ h=>h) (Or.inl ⟨by rfl,fun wq hSw=>?_⟩) (by assumption) ?_
    · go_simp<;>rfl
    simp only [zp,List.getElem_toArray,List.getElem_cons_zero,List.getElem_cons_succ]
    refine wpAnyH_ready (rs:=[7]) (by kernel_rfl) (by simp) ?_
    refine AllReadyH.cons rfl (fun KK hKK=>?_) AllReadyH.nil
    go_simp
    refine HEF.out.mono ?_
    rintro e5 w5 ⟨lA,ln,lc,l,rfl,hl4,hl5,-,hl7,rl,b5⟩
    have K5:=(KN.drew.call b5).add rl
    have HLL:=hid (KJ hl4 (KJ hl5 hl7))
    have hd5:∀ L:List Hp,List.Sublist L (.ro (EfsIn lA ln l)::L):=fun L=>Kb _ _
    clear hl4 hl5 hl7 hS0 HEF rl
    refine hKK.out _ _ ?_ (fun hHeld=>?_)
    ·exact ⟨HS _ (K5.drop (hd5 _)),(HE1 _ (K5.drop (hd5 _))).1⟩
    clear hKK KK
    (try simp only [zp,List.getElem_toArray,List.getElem_cons_zero,List.getElem_cons_succ])
    refine wpAnyH_ready (rs:=[8]) (by kernel_rfl) (by simp) ?_
    refine AllReadyH.cons rfl (fun KK hKK=>?_) AllReadyH.nil
    go_simp
    refine hKK.out _ _ ?_ (fun hHeld=>?_)
    ·exact ⟨HS _ ((K5.Za #[.slice lA ln lc] 118).drop ((hd5 _).cons _)),(HE1 _ ((K5.Za #[.slice lA ln lc] 118).drop ((hd5 _).cons _))).1⟩
    clear hKK KK
    (try simp only [zp,List.getElem_toArray,List.getElem_cons_zero,List.getElem_cons_succ])
    refine wpAnyH_ready (rs:=[9]) (by kernel_rfl) (by simp) ?_
    refine AllReadyH.cons rfl (fun KK hKK=>?_) AllReadyH.nil
    refine Zdg K5 2 hi1 Tryz.Zgx #[.slice lA ln lc] rfl (.tmp 36) (.tmp 40) rfl rfl w5.heap.size rfl rfl rfl (by intro u hu;simp at hu;subst hu;rfl) (by omega) (by omega) ?_
    intro g6 c6 w6 hc6 hc7 K6
    rw [hKL] at K6
    simp only [List.set_cons_succ,List.set_cons_zero] at K6
    rw [show ls.map SlP.v++(#[.slice lA ln lc]:Array Value).toList=(ls++[(⟨lA,ln,lc,l⟩:SlP Ef)]).map SlP.v by simp [SlP.v]] at K6
    refine hKK.out _ _ ?_ (fun hHeld=>?_)
    ·exact ⟨⟨(K6.Zg 5 rfl).cell 0,JL (K6.get 1 rfl).now⟩,(K6.Ym 6 rfl).cell 1⟩
    clear hKK KK
    (try simp only [zp,List.getElem_toArray,List.getElem_cons_zero,List.getElem_cons_succ])
    clear K5 K4 KN HS HE1 hi1 hKL hd5
    refine wpAnyH_done (by kernel_rfl) ?_ _
    simp only [VO]
    have HU2:=hid (HU.out.next HTJ.out (l:=⟨lA,ln,lc,l⟩) ⟨by show ln≤1000;have:=HLL.out.1;omega,HLL.out.2.2⟩ HLL.out.2.1)
    have F6:=K6.facts
    simp only [zg] at F6
    have K7:=((K6.add (Zgo (l:=⟨lA,ln,lc,l⟩) (K6.ro 4 rfl) (K6.ro 0 rfl))).store 7 rfl 1 (.slice (some ⟨g6,0,none⟩) (j+1) c6)).pick [0,2,3,4,6,7,8,9,10,11] (by decide) rfl
    simp only [List.set_cons_succ,List.set_cons_zero,List.setIfInBounds_toArray,List.filterMap_cons,List.filterMap_nil,List.getElem?_cons_zero,List.getElem?_cons_succ] at K7
    clear K6 HLL HU
    go_wp2_with fail
    refine NoPanic.normal ?_
    go_wp2_with fail
    clear F6
    generalize World.setCell _ _ _=w7 at K7 ⊢
    obtain ⟨KM,hKM,KO⟩:=K7.name
    have HS:∀ wq:World,Hold Zc none w wq KM→SBx bR gR gX t wq∧wq.cell? ⟨gR,2,none⟩=some (.slice fA j fc):=fun wq HC=>by
     rw [hKM] at HC
     exact ⟨⟨(HC.Zg 4 rfl).cell 0,JL (HC.get 1 rfl).now⟩,(HC.Ym 5 rfl).cell 2⟩
    have hi1:KM[3]? =some (.own 3 1 (.slice fA j fc) j (((ts.take j).map (Vo tes des)).map (Value.int .i64))):=by rw [hKM];rfl
    have hcl:=hid (KJ (HTG.out t HTM.out).cols (ZbR (tl:=tes) HDL.out t))
    have hS0:(fun wq:World=>SBx bR gR gX t wq∧wq.cell? ⟨gR,2,none⟩=some (.slice fA j fc)) w7.drew:=HS _ KO.drew
    have KD:=KO.drew
    (try refine wp_region_noPanic ?_)
    refine ZdN 13 (by kernel_rfl) (by kernel_rfl) ?_
    simp only [List.take_succ_cons,List.take_zero,List.drop_succ_cons,List.drop_zero]
    refine wpAny_of_held (S:=fun wq:World=>SBx bR gR gX t wq∧wq.cell? ⟨gR,2,none⟩=some (.slice fA j fc)) _ _ _ _ ?_
    generalize w7.drew=w8 at KD hS0 ⊢
    clear KO K7
    refine wpAnyH_take (i:=0) (v:=.pointer (some ⟨gR,0,none⟩)) rfl (by kernel_rfl) (by kernel_rfl) (by kernel_rfl) (fun _ _ _ h=>h) (Or.inl ⟨by rfl,fun wq hSw=>?_⟩) (by assumption) ?_
    ·obtain ⟨⟨q0,-⟩,-⟩:=hSw;go_simp<;>rfl
    simp only [zp,List.getElem_toArray,List.getElem_cons_zero,List.getElem_cons_succ]
    refine wpAnyH_take (i:=1) (v:=.pointer (some ⟨gR,0,none⟩)) rfl (by kernel_rfl) (by kernel_rfl) (by kernel_rfl) (fun _ _ _ h=>h) (Or.inl ⟨by rfl,fun wq hSw=>?_⟩) (by assumption) ?_
    ·obtain ⟨⟨q0,-⟩,-⟩:=hSw;go_simp<;>rfl
    simp only [zp,List.getElem_toArray,List.getElem_cons_zero,List.getElem_cons_succ]
    refine wpAnyH_take (i:=2) (v:=.pointer (some ⟨gR,0,none⟩)) rfl (by kernel_rfl) (by kernel_rfl) (by kernel_rfl) (fun _ _ _ h=>h) (Or.inl ⟨by rfl,fun wq hSw=>?_⟩) (by assumption) ?_
    · go_simp<;>rfl
    simp only [zp,List.getElem_toArray,List.getElem_cons_zero,List.getElem_cons_succ]
    refine wpAnyH_take (i:=3) (v:=.pointer (some ⟨gR,2,none⟩)) rfl (by kernel_rfl) (by kernel_rfl) (by kernel_rfl) (fun _ _ _ h=>h) (Or.inl ⟨by rfl,fun wq hSw=>?_⟩) (by assumption) ?_
    · go_simp<;>rfl
    simp only [zp,List.getElem_toArray,List.getElem_cons_zero,List.getElem_cons_succ]
    refine wpAnyH_take (i:=4) (v:=.slice fA j fc) rfl (by kernel_rfl) (by kernel_rfl) (by kernel_rfl) (fun _ _ _ h=>h) (Or.inl ⟨by rfl,fun wq hSw=>?_⟩) (by assumption) ?_
    ·have q1:=hSw.2;go_simp<;>rfl
    simp only [zp,List.getElem_toArray,List.getElem_cons_zero,List.getElem_cons_succ]
    refine wpAnyH_take (i:=5) (v:=.agg #[.string t.name,.string t.tab,.bool t.before,.int .i64 t.event,.slice t.cols.A t.cols.n t.cols.c,.bool t.each,.slice t.prec.A t.prec.n t.prec.c,.slice t.foll.A t.foll.n t.foll.c,.slice t.rank.A t.rank.n t.rank.c,.slice t.cond.A t.cond.n t.cond.c,.slice t.acts.A t.acts.n t.acts.c]) rfl (by kernel_rfl) (by kernel_rfl) (by kernel_rfl) (fun _ _ _ h=>h) (Or.inl ⟨by rfl,fun wq hSw=>?_⟩) (by assumption) ?_
    ·obtain ⟨⟨-,q0,q1,q2,q3,q4,q5,q6,q7,q8,q9,q10⟩,-⟩:=hSw;go_simp<;>rfl
    simp only [zp,List.getElem_toArray,List.getElem_cons_zero,List.getElem_cons_succ]
    refine wpAnyH_take (i:=7) (v:=.slice B m e) rfl (by kernel_rfl) (by kernel_rfl) (by kernel_rfl) (fun _ _ _ h=>h) (Or.inl ⟨by rfl,fun wq hSw=>?_⟩) (by assumption) ?_
    · go_simp<;>rfl
    simp only [zp,List.getElem_toArray,List.getElem_cons_zero,List.getElem_cons_succ]
    refine wpAnyH_take (i:=8) (v:=.slice D dn dc) rfl (by kernel_rfl) (by kernel_rfl) (by kernel_rfl) (fun _ _ _ h=>h) (Or.inl ⟨by rfl,fun wq hSw=>?_⟩) (by assumption) ?_
    · go_simp<;>rfl
    simp only [zp,List.getElem_toArray,List.getElem_cons_zero,List.getElem_cons_succ]
    refine wpAnyH_ready (rs:=[6]) (by kernel_rfl) (by simp) ?_
    refine AllReadyH.cons rfl (fun KK hKK=>?_) AllReadyH.nil
    go_simp
    have K8:=KD.Za #[.string t.name,.string t.tab,.bool t.before,.int .i64 t.event,.slice t.cols.A t.cols.n t.cols.c,.bool t.each,.slice t.prec.A t.prec.n t.prec.c,.slice t.foll.A t.foll.n t.foll.c,.slice t.rank.A t.rank.n t.rank.c,.slice t.cond.A t.cond.n t.cond.c,.slice t.acts.A t.acts.n t.acts.c] 48
    refine hKK.out _ _ ?_ (fun hHeld=>?_)
    ·exact HS _ (K8.drop (Kb _ _))
    clear hKK KK
    (try simp only [zp,List.getElem_toArray,List.getElem_cons_zero,List.getElem_cons_succ])
    refine wpAnyH_ready (rs:=[9]) (by kernel_rfl) (by simp) ?_
    refine AllReadyH.cons rfl (fun KK hKK=>?_) AllReadyH.nil
    go_simp
    obtain ⟨gT,hgT⟩:∃ g,g=w8.heap.size:=⟨_,rfl⟩
    rw [←hgT] at K8 ⊢
    have hG9:Ro _ (Mut Zc _) (Gb (some ⟨gT,0,none⟩) 1 [t]):=(show Ro _ _ (SlR 11 (some ⟨gT,0,none⟩) 1 ([t].flatMap Tg.cells)) from ZO (K8.get 0 rfl) (by simp [Tg.cells])).and (by
     have h:=K8
     rw [hKM] at h ⊢
     exact (h.ro 8 rfl).imp fun w2 h2 x hx=>by
      simp only [List.mem_cons,List.not_mem_nil,or_false] at hx
      subst hx
      have h3:=(h2.2 _ HTM.out).1.1
      rw [show x.cols.l.flatMap Yg=Yz x.cols.l from GN _] at h3
      exact h3)
    refine (ZhX (Mut Zc _) _ K8.Zb (some ⟨gT,0,none⟩) 1 1 [t] B m e tes D dn dc des (hG9.less (fun b hb=>hb)) (by
     have h:=K8
     rw [hKM] at h ⊢
     exact h.ro 9 rfl) (by
     have h:=K8
     rw [hKM] at h ⊢
     exact h.ro 10 rfl) (by omega) (fun x hx=>by
     simp only [List.mem_cons,List.not_mem_nil,or_false] at hx
     subst hx
     exact hcl.out.1) (by omega) (fun x hx=>(HTE.out x hx).n) hdn HDE.out).mono ?_
    rintro e9 w9 ⟨RA,rn,rc,rl,rfl,hrl,hrc,rR,b9⟩
    have hrn:(rn:Int)=Vo tes des t∧rn≤3000:=by
     have h:=(show Rd _ _ 4 RA rn (Yd rl) from rR.now).1
     rw [ZbQ] at h
     have h2:=congrArg List.length hrl
     simp only [List.length_map,List.flatMap_cons,List.flatMap_nil,List.append_nil] at h2
     have h3:=hcl.out.2
     unfold Vo
     omega
    have HRN:=hid hrn
    have K9:=(K8.call b9).drop (Kb _ _)
    clear hG9 hrl rR b9 hrn K8 hgT
    refine hKK.out _ _ ?_ (fun hHeld=>?_)
    ·exact HS _ K9
    clear hKK KK
    (try simp only [zp,List.getElem_toArray,List.getElem_cons_zero,List.getElem_cons_succ])
    refine wpAnyH_ready (rs:=[10]) (by kernel_rfl) (by simp) ?_
    refine AllReadyH.cons rfl (fun KK hKK=>?_) AllReadyH.nil
    go_simp
    refine hKK.out _ _ ?_ (fun hHeld=>?_)
    ·exact HS _ K9
    clear hKK KK
    (try simp only [zp,List.getElem_toArray,List.getElem_cons_zero,List.getElem_cons_succ])
    refine wpAnyH_ready (rs:=[11]) (by kernel_rfl) (by simp) ?_
    refine AllReadyH.cons rfl (fun KK hKK=>?_) AllReadyH.nil
    go_simp
    refine hKK.out _ _ ?_ (fun hHeld=>?_)
    ·exact HS _ ((K9.Za #[.int .i64 rn] 3).drop (Kb _ _))
    clear hKK KK
    (try simp only [zp,List.getElem_toArray,List.getElem_cons_zero,List.getElem_cons_succ])
    refine wpAnyH_ready (rs:=[12]) (by kernel_rfl) (by simp) ?_
    refine AllReadyH.cons rfl (fun KK hKK=>?_) AllReadyH.nil
    refine Zdg K9 3 hi1 Tryz.XL #[.int .i64 rn] rfl (.tmp 48) (.tmp 55) rfl rfl w9.heap.size rfl rfl rfl (by intro u hu;simp at hu;subst hu;rfl) (by omega) (by omega) ?_
    intro g10 c10 w10 hc8 hc9 KA
    rw [hKM] at KA
    simp only [List.set_cons_succ,List.set_cons_zero] at KA
    rw [show ((ts.take j).map (Vo tes des)).map (Value.int .i64)++(#[.int .i64 rn]:Array Value).toList=((ts.take (j+1)).map (Vo tes des)).map (Value.int .i64) by rw [UB HTJ.out,Km,Km,HRN.out.1];rfl] at KA
    refine hKK.out _ _ ?_ (fun hHeld=>?_)
    ·exact ⟨⟨(KA.Zg 4 rfl).cell 0,JL (KA.get 1 rfl).now⟩,(KA.Ym 5 rfl).cell 2⟩
    clear hKK KK
    (try simp only [zp,List.getElem_toArray,List.getElem_cons_zero,List.getElem_cons_succ])
    clear K9 KD HS hi1 hKM hS0 hcl
    refine wpAnyH_done (by kernel_rfl) ?_ _
    simp only [VO]
    have F10:=KA.facts
    simp only [zg] at F10
    have KB:=(KA.store 5 rfl 2 (.slice (some ⟨g10,0,none⟩) (j+1) c10)).pick [2,3,0,4,5,6,7,8,9] (by decide) rfl
    simp only [List.set_cons_succ,List.set_cons_zero,List.setIfInBounds_toArray,List.filterMap_cons,List.filterMap_nil,List.getElem?_cons_zero,List.getElem?_cons_succ] at KB
    clear KA
    go_wp2_with fail
    refine NoPanic.normal ?_
    go_wp2_with fail
    go_roundw
    case rel=>exact ⟨j+1,c6,c10,some ⟨g6,0,none⟩,some ⟨g10,0,none⟩,_,by omega,by go_num,HU2,KB⟩
    case measure=>simp [intOf];omega
   ·obtain rfl:j=n:=by omega
    rw [show ts.take j=ts by rw [Kh (by rw [HLT.out];omega)]] at H
    obtain ⟨fl,hfl⟩:∃ fl,fl=ts.map (Vo tes des):=⟨_,rfl⟩
    rw [←hfl] at H
    have HFL:=hid hfl
    clear hfl
    have K3:=(((H.Zq 0 rfl).Zq 1 rfl))
    simp only [List.set_cons_succ,List.set_cons_zero] at K3
    have K4:=(K3.add ((K3.ro 0 rfl).and (K3.ro 2 rfl):Ro _ _ (EfLs eA j ls))).pick [0,2,4,5,6,7,8,9] (by decide) rfl
    simp only [List.filterMap_cons,List.filterMap_nil,List.getElem?_cons_zero,List.getElem?_cons_succ] at K4
    clear H K3
    go_wp2_with fail
    refine (callsIn_wide (n:=4)).1 ((ZeX Fence.wide 4 trivial rfl B m e _).mono ?_)
    rintro e5 w5 ⟨rfl,rfl⟩
    go_wp2_with fail
    generalize hA0:Act.mk _ _=A0
    have K5:=K4.Za #[.slice B m e] 49
    obtain ⟨gB,hgB⟩:∃ g,g=wr.heap.size:=⟨_,rfl⟩
    rw [←hgB] at K5 hA0
    have hgBw:w.heap.size≤gB:=by rw [hgB];exact K4.grow.size
    clear K4 hgB
    generalize World.alloc _ _=w6 at K5 ⊢
    have K5f:=(K5.GM 4 rfl)
    simp only [List.set_cons_succ,List.set_cons_zero] at K5f
    have hmf:=K5.fresh _ (Ka (show _[5]? =some _ from rfl)) mb rfl
    have hmw:w.heap.size≤mb:=by rcases hmf.1 with h|⟨h,-⟩<;>first|exact h|cases h
    have hm0:=K5.ob_ 5 rfl
    have hBl:=(K5.Zg 0 rfl)
    have hgBl:gB<w6.heap.size:=Blk.lt hBl
    have hgm:mb≠gB:=fun e=>by
     obtain ⟨D0,⟨es,ck,h1,-⟩,-⟩:=hm0
     rw [e] at h1
     rw [show w6.heap[gB]? =_ from hBl] at h1
     cases h1
    have hmbl:mb<w6.heap.size:=hmf.2
    have hw6:w.heap.size≤w6.heap.size:=K5.grow.size
    obtain ⟨tb,tof,rfl,htb⟩:∃ b o,B=some ⟨b,o,none⟩∧b<w.heap.size:=HBW.out
    have hcs:∀ i,i<m→w6.cell? ⟨tb,tof+i * 4,none⟩=some (.string (tes[i]?.getD teZ).nm)∧w6.cell? ⟨tb,tof+i * 4+1,none⟩=some (.slice (tes[i]?.getD teZ).A (tes[i]?.getD teZ).n (tes[i]?.getD teZ).c)∧w6.cell? ⟨tb,tof+i * 4+2,none⟩=some (.int .i64 (tes[i]?.getD teZ).nx)∧w6.cell? ⟨tb,tof+i * 4+3,none⟩=some (.slice (tes[i]?.getD teZ).B (tes[i]?.getD teZ).m (tes[i]?.getD teZ).d):=fun i hi=>by
     obtain ⟨x,hx⟩:=Ya HLE.out hi
     obtain ⟨b',o',hB',-,c0,c1,c2,c3,-⟩:=(K5.ro 7 rfl).now.at_ hx
     obtain ⟨rfl,rfl⟩:tb=b' ∧tof=o' :=by injection hB' with h;injection h with h1 h2;exact ⟨h1,h2⟩
     rw [hx]
     exact ⟨c0,c1,c2,c3⟩
    have HNM:=hid (fun x hx=>⟨(HTE.out x hx).nm,(HTE.out x hx).m⟩:∀ x∈tes,x.nm.size≤maxLen∧x.m≤100)
    refine wpIn_wide.1 (wpIn_rangeFunc_ownH (n:=5) (F:=Fence.wide) rfl (by omega) (gf:=82) (lb:=#[.pointer (some ⟨gB,0,none⟩)]) (by rw [←hA0];rfl) trivial (enters_of Tryz.func82 (by kernel_rfl) rfl)
     (ZeY Fence.wide 4 trivial rfl (by omega) gB w.heap.size tb tof m e tes (fun x:Bk=>x.1.1) (fun x:Bk=>x.1.2) (Zfc tes m HNM.out) (fun k hk=>⟨rfl,rfl⟩) (by omega) htb w6 hgBl hw6 hBl hcs) KpB.trans (KpB.put hw6 hgBl) (Below.refl _ _) (fun _=>rfl)
     (fun pre W=>w6.grownBy W (some mb)∧IMap 3 XT mb pre.length (X7 (pre.map Subtype.val)) W)
     (fun _ _ _=>False)
     (fun s X Y row hs hg hr=>⟨⟨hg.os.trans hs.1.os,hg.tape.trans hs.1.tape,hg.output.trans hs.1.output,KI hs.1.size hg.size,fun i hi hne=>(hg.block i (La hi hs.1.size) (fun e=>by have:=(hr i e.symm).1;omega)).trans (hs.1.block i hi hne)⟩,hs.2.stay (hg.block mb (La hmbl hs.1.size) (fun e=>by have:=(hr mb e.symm).1;omega))⟩)
     (fun _ _ _ _ _ hs _ _=>hs)
     ⟨World.grownBy.refl _ _,hm0⟩
     (fun x a' W=>∃ Bx,w6.heap.size≤Bx∧Blk W Bx 69 #[.string x.1.2.nm,.slice x.1.2.A x.1.2.n x.1.2.c,.int .i64 x.1.2.nx,.slice x.1.2.B x.1.2.m x.1.2.d]∧a' ={ tmps:=((A0.tmps.setIfInBounds 62 (.int .i64 (x.1.1:Int))).setIfInBounds 63 (.agg #[.string x.1.2.nm,.slice x.1.2.A x.1.2.n x.1.2.c,.int .i64 x.1.2.nx,.slice x.1.2.B x.1.2.m x.1.2.d])).setIfInBounds 12 (.pointer (some ⟨Bx,0,none⟩)),defers:=[] })
     (fun x a' _ X Y row hs hg hr=>by
      obtain ⟨Bx,h1,h2,h3⟩:=hs
      exact ⟨Bx,h1,(hg.block Bx (Blk.lt h2) (fun e=>by
       obtain ⟨o,ho,hc⟩:=(hr Bx e.symm).2
       rw [show X.heap[Bx]? =_ from h2] at ho
       cases ho
       cases hc)).trans h2,h3⟩)
     ?assign ?body ?done ?stop)
    case assign=>
     rintro l pre x W K ⟨hg1,hm1⟩ hK
     subst hA0
     have hle:=hg1.size
     gi_wp2
     refine hK _ _ ((KeepsOthers.alloc _ _).from _) ⟨(Below.refl _ W).alloc (by omega) _,Below.heap_alloc W _ gB (by omega)⟩ ⟨Jj hg1 _,hm1.stay (Below.heap_alloc W _ mb (by omega))⟩ ⟨W.heap.size,hle,heap_alloc_new W _,?_⟩
     simp only [List.setIfInBounds_toArray,List.set_cons_succ,List.set_cons_zero]
    case body=>
     rintro l pre x a' W hl ⟨r,hr⟩ ⟨hg1,hm1⟩ ⟨Bx,hBx,hbx,rfl⟩ hlt
     subst hA0
     simp only [List.setIfInBounds_toArray,List.set_cons_succ,List.set_cons_zero]
     obtain ⟨⟨x1,x2⟩,hx⟩:=x
     simp only at hbx hx ⊢
     have HX2:=hid hx
     refine wpIn_block ?_
     refine Zms (by kernel_rfl) (by kernel_rfl) (fun h=>by obtain ⟨a9,w9,h9⟩:=h;exact (h9:False)) ?_
     have KW:=K5f.QA 5 rfl hg1 (F' :=IMap 3 XT mb pre.length (X7 (pre.map Subtype.val))) (fun w2 h=>hm1.stay h)
     simp only [List.set_cons_succ,List.set_cons_zero] at KW
     have KX:=KW.Wp (g:=Bx) (t:=69) (cs:=#[.string x2.nm,.slice x2.A x2.n x2.c,.int .i64 x2.nx,.slice x2.B x2.m x2.d]) (fun w2 h1 h2=>(h2 Bx (Blk.lt hbx) (by
      simp only [Mut,Zc,List.mem_cons,List.not_mem_nil,or_false,false_or,Hp.foot]
      rintro ⟨k,hk,hf⟩
      rcases hk with rfl|rfl|rfl|rfl|rfl|rfl|rfl|rfl|rfl<;>simp only [Hp.foot] at hf<;>first|(injection hf with hf;omega)|cases hf)).trans hbx)
     obtain ⟨KL,hKL,KN⟩:=KX.name
     have HF:Hid (∀ wv,Hold Zc none w wv KL→Blk wv bR 113 #[.pointer (some ⟨gR,0,none⟩)]∧Blk wv gR 117 #[.slice gA j gc,.slice eA j ec,.slice fA j fc,.map (some mb)]∧Blk wv Bx 69 #[.string x2.nm,.slice x2.A x2.n x2.c,.int .i64 x2.nx,.slice x2.B x2.m x2.d]∧IMap 3 XT mb pre.length (X7 (pre.map Subtype.val)) wv):=hid fun wv HC=>by
      rw [hKL] at HC
      exact ⟨HC.Zg 4 rfl,HC.Zg 5 rfl,HC.Zg 0 rfl,HC.ob_ 6 rfl⟩
     have HKL:=hid hKL
     clear hKL KX KW K5f
     refine Zn 10 100 (KL) (spL []) (by kernel_rfl) (by kernel_rfl) (by kernel_rfl) rfl ?_ (KN.drew) ?_
     ·exact Zm _
     simp only [zd,zp,List.getElem_toArray,List.getElem_cons_zero,List.getElem_cons_succ]
     repeat (refine' dv rfl rfl rfl (fun wv HC=>?_) ?_;rotate_left;(focus (obtain ⟨p1,p2,p3,-⟩:=HF.out _ HC;have q0:=p1.cell 0;have q3:=p2.cell 3;have r0:=p3.cell 0;have r3:=p3.cell 3;go_simp<;>rfl;done));simp only [zp])
     refine Zk ?_
     rintro wx HX
     rintro hrm HG
     clear HG
     have hmx:=(HF.out _ HX).2.2.2
     have hgR1:=(HF.out _ KN).2.1
     have hgR2:=(HF.out _ HX).2.1
     have hgrow:=HX.grow
     have hgrowW:=KN.grow
     refine Zmu hmx Tryz.Qh rfl (.tmp 67) (.tmp 70) (.tmp 73) rfl rfl x2.nm rfl (x2.m:Int) rfl (by have:=HX2.out.2;constructor<;>omega) HX2.out.1 (by unfold maxLen;omega) ?_
     intro w9 hm9 hg9
     have hmut:∀ b,b≠mb→¬Mut Zc KL b:=by
      rw [HKL.out]
      simp only [Mut,Zc,List.mem_cons,List.not_mem_nil,or_false,false_or,Hp.foot]
      rintro b hb ⟨k,hk,hf⟩
      rcases hk with rfl|rfl|rfl|rfl|rfl|rfl|rfl|rfl|rfl|rfl<;>simp only [Hp.foot] at hf<;>first|(injection hf with hf;exact hb hf.symm)|cases hf
     have hW9:W.grownBy w9 (some mb):=by
      refine ⟨hg9.os.trans (hgrow.os.trans hgrowW.os.symm),hg9.tape.trans (hgrow.tape.trans hgrowW.tape.symm),hg9.output.trans (hgrow.output.trans hgrowW.output.symm),KI hrm.1 hg9.size,fun i hi hne=>?_⟩
      exact (hg9.block i (La hi hrm.1) hne).trans (hrm.2 i hi (hmut i fun e=>hne (by rw [e])))
     show KeepsFrom _ _ _∧KpB _ _ _ _∧_
     refine ⟨KeepsFrom.of_grownBy hW9 (fun j e=>by cases e;exact hmbl),⟨⟨hW9.os,hW9.tape,hW9.output,hW9.size,fun k hk=>hW9.block k (by have:=hg1.size;omega) (fun e=>by injection e with e;omega)⟩,hW9.block gB (by have:=hg1.size;omega) (fun e=>by injection e with e;exact hgm e.symm)⟩,WT hg1 hW9,?_⟩
     rw [List.length_append,Km]
     show IMap _ _ _ (pre.length+1) (X7 (pre.map Subtype.val++[(x1,x2)])) _
     rw [Zb3]
     exact hm9
    case done=>
     rintro D ys W hD hys ⟨hg1,hm1⟩ hK
     subst hA0
     have hK6:=K5.QA 5 rfl hg1 (F' :=IMap 3 XT mb ys.length (X7 (ys.map Subtype.val))) (fun w2 h=>hm1.stay h)
     simp only [List.set_cons_succ,List.set_cons_zero] at hK6
     have hyl:ys.length=m∧X7 (ys.map Subtype.val)=Xa tes:=by
      rw [hys]
      refine ⟨ZdC _ _,?_⟩
      rw [Zme]
      have h:=Zim tes
      rw [HLE.out] at h
      exact h
     have K7:=hK6.Zc2 5 rfl (fun T e=>nomatch e) (S:=RowsM mb (Xa tes)) (fun w2 h1 h2=>by
      have h3:IMap _ _ _ _ _ w2:=h1 w2 (h2 mb rfl)
      rw [hyl.1,hyl.2] at h3
      exact ⟨m,by omega,h3⟩)
     simp only [List.set_cons_succ,List.set_cons_zero] at K7
     have hgRl:=(K5.fresh _ (Ka (show _[4]? =some _ from rfl)) gR rfl).2
     have K8:=(K7.add (S:=fun w=>w.heap[D]? =some (.deferred (some []))) (fun w2 h1 h2=>(h2 D (KG.1 hK).1 (by
      simp only [Mut,Zc,List.mem_cons,List.not_mem_nil,or_false,false_or,Hp.foot]
      rintro ⟨k,hk,hf⟩
      rcases hk with rfl|rfl|rfl|rfl|rfl|rfl|rfl|rfl|rfl<;>simp only [Hp.foot] at hf<;>first|(injection hf with hf;omega)|cases hf)).trans hK)).pick [0,4,5,2,3,6,7] (by decide) rfl
     simp only [List.filterMap_cons,List.filterMap_nil,List.getElem?_cons_zero,List.getElem?_cons_succ] at K8
     have hbn:BndOk ts ls fl (Xa tes):=by
      refine ⟨fun t ht=>(HTG.out t ht).ins,HU.out.ok,fun z hz=>?_,fun y c hy=>?_,fun t ht=>⟨(HTG.out t ht).tab,(HTG.out t ht).ed.c⟩,HU.out.of⟩
      ·rw [HFL.out] at hz
       obtain ⟨t,_,rfl⟩:=Kt.1 hz
       have:=ZbR (tl:=tes) HDL.out t
       unfold Vo
       omega
      ·unfold Xa at hy
       obtain ⟨x,hx,rfl⟩:=Option.map_eq_some_iff.1 hy
       have:=(HTE.out x (List.mem_of_find?_eq_some hx)).m
       omega
     have HBN:=hid hbn
     clear K7 hK6 hm1 hg1 hK K5 K5f hbn hyl hys hcs hBl hm0 hmf
     go_wp2_with fail
     go_loopw [13,14,75] (fun tv sv iv wr=>∃ (k:Nat) (tot:Int) (fl' :List Int) (f' :ByteArray→Option Int) (C:Option Addr) (c mb' :Nat),(k:Int)≤R∧iv=.int .i64 k∧tv=.int .i64 tot∧(0≤tot∧tot≤17592186044416)∧Hid (Xv ts R.toNat fl (Xa tes) 0=Xv ts (R.toNat - k) fl' f' tot∧BndOk ts ls fl' f')∧Hold Zc none w wr [.ro (fun w=>w.heap[D]? =some (.deferred (some []))),.cst bR 113 #[.pointer (some ⟨gR,0,none⟩)],.blk gR 117 #[.slice gA j gc,.slice eA j ec,.slice C j c,.map (some mb')],.ro (EfLs eA j ls),.ro (SlR 1 C j (fl'.map (Value.int .i64))),.ro (RowsM mb' f'),.ro (TgsIn 5 gA j ts)]) (fun _ _ iv _=>R.toNat - (intOf iv).toNat)
     case atStart=>exact ⟨0,0,fl,Xa tes,fA,fc,mb,by omega,rfl,rfl,by omega,hid ⟨rfl,HBN.out⟩,K8⟩
     case round=>
      clear K8
      obtain ⟨k,tot,fl',f',C,c,mb',hkR,rfl,rfl,htot,HRB,H⟩:=hrel
      have HKD:=hid (H.ro 0 rfl).now
      have HBE:=hid H.below
      by_cases hlt2:(k:Int)<R
      ·have HLF:=hid (GU (H.ro 4 rfl).now)
       have F1:=H.facts
       simp only [zg] at F1
       go_wp2_with fail
       clear F1
       go_loopw [14,82] (fun sv iv wr2=>∃ (i:Nat),i≤j∧iv=.int .i64 i∧sv=.int .i64 (fl'.take i).sum∧Hold Zc none w wr2 [.ro (fun w=>w.heap[D]? =some (.deferred (some []))),.cst bR 113 #[.pointer (some ⟨gR,0,none⟩)],.blk gR 117 #[.slice gA j gc,.slice eA j ec,.slice C j c,.map (some mb')],.ro (EfLs eA j ls),.ro (SlR 1 C j (fl'.map (Value.int .i64))),.ro (RowsM mb' f'),.ro (TgsIn 5 gA j ts)]) (fun _ iv _=>j - (intOf iv).toNat)
       case atStart=>exact ⟨0,by omega,rfl,rfl,H⟩
       case round=>
        clear H HKD HBE
        obtain ⟨i,hi,rfl,rfl,H⟩:=hrel
        by_cases hlt3:i<j
        ·obtain ⟨z,hz⟩:=Ya HLF.out hlt3
         obtain ⟨cb,co,rfl,hcb,hcc⟩:=(show Rd _ _ 1 C j (fl'.map (Value.int .i64)) from (H.ro 4 rfl).now).2 (by omega)
         have z2:=hcc i (.int .i64 z) (by rw [KQ,hz];rfl)
         have hs1:=zJ (l:=fl'.take i) (fun y hy=>HRB.out.2.fir y (List.mem_of_mem_take hy))
         have hs2:=HRB.out.2.fir z (Ka hz)
         have hlen:(fl'.take i).length≤8:=by rw [List.length_take];omega
         have hst:=ZlH hz
         obtain ⟨sm,hsm⟩:∃ sm,sm=(fl'.take i).sum:=⟨_,rfl⟩
         rw [←hsm] at hs1 hst ⊢
         have hw:IntKind.i64.wrap (sm+z)=sm+z:=by rw [Kn];omega
         have HST:=hid hst
         clear hcc hst hsm hz
         go_wp2_with fail
         go_roundw
         case rel=>exact ⟨i+1,by omega,by go_num,by rw [HST.out],H⟩
         case measure=>simp [intOf];omega
        ·obtain rfl:i=j:=by omega
         have hft:fl'.take i=fl' :=Kh (by rw [HLF.out];exact Kg _)
         rw [hft]
         have HKD:=hid (H.ro 0 rfl).now
         have HBE:=hid H.below
         have hs1:=zJ (l:=fl') HRB.out.2.fir
         have hlen:fl'.length≤8:=by rw [HLF.out];omega
         obtain ⟨sm,hsm⟩:∃ sm,sm=fl'.sum:=⟨_,rfl⟩
         rw [←hsm] at hs1 ⊢
         have hrun:Xv ts (R.toNat - k) fl' f' tot=if sm=0 then tot else Xv ts (R.toNat - (k+1)) (VZ ts fl' f') (Vx ts fl' f') (min (tot+sm) 17592186044416):=by
          rw [show R.toNat - k=(R.toNat - (k+1))+1 by omega,Xv,←hsm]
         clear hft hsm
         have hfir:YD 5 ts tes=R:=HR.out.symm
         have HFIR:=hid (show XM 5 ts tes des=Xv ts R.toNat fl (Xa tes) 0 by
          unfold XM
          rw [hfir,Lf (by have:=HBG.out;omega),HFL.out]
          rfl)
         clear hfir
         by_cases hz0:sm=0
         ·have HV:=hid (hrun.trans (Lg hz0))
          clear hrun
          subst hz0
          go_wp2_with fail
          refine ⟨by simp,.inl ⟨_,_,rfl,run_takeDeferred HKD.out,?_⟩⟩
          exact ⟨_,results_tmp rfl _ _ _,by rw [HFIR.out,HRB.out.1,HV.out];rfl,HBE.out.trans (belowK_b (w:=w) (Kg _) _ D _ _ (by omega) HKD.out rfl rfl)⟩
         ·have hz1:(sm==0)=false:=by simpa using hz0
          have hw:IntKind.i64.wrap (tot+sm)=tot+sm:=by rw [Kn];omega
          have HV:=hid (hrun.trans (Lf hz0))
          clear hz0 hrun
          have F1:=H.facts
          simp only [zg] at F1
          go_wp2_with fail
          clear F1 HKD HBE
          have hgRl2:=(H.fresh _ (Ka (show _[2]? =some _ from rfl)) gR rfl)
          have hgR0:w.heap.size≤gR:=by rcases hgRl2.1 with h|⟨h,-⟩<;>first|exact h|cases h
          refine (Zff _ gR gA i gc ts eA ec ls C c fl' mb' f' (H.Ym 2 rfl) ((H.ro 6 rfl).less zn) ((H.ro 3 rfl).less zn) ((H.ro 4 rfl).less zn) ((H.ro 5 rfl).less zn) (by omega) HRB.out.2).mono ?_
          rintro e8 w8 ⟨u8,C8,c8,mb8,rfl,hg8,hb8,hf8,hm8⟩
          have hno:∀ b,Mut Zc ([.ro (fun w=>w.heap[D]? =some (.deferred (some []))),.cst bR 113 #[.pointer (some ⟨gR,0,none⟩)],.blk gR 117 #[.slice gA i gc,.slice eA i ec,.slice C8 i c8,.map (some mb8)],.ro (EfLs eA i ls),.ro (SlR 1 C i (fl'.map (Value.int .i64))),.ro (RowsM mb' f'),.ro (TgsIn 5 gA i ts)]:List Hp) b→b=gR:=fun b hb=>by
           simp only [Mut,Zc,List.mem_cons,List.not_mem_nil,or_false,false_or] at hb
           obtain ⟨k,hk,hf⟩:=hb
           rcases hk with rfl|rfl|rfl|rfl|rfl|rfl|rfl<;>simp only [Hp.foot] at hf<;>first|(injection hf with hf;exact hf.symm)|cases hf
          have K9:=H.turn (k' :=.blk gR 117 #[.slice gA i gc,.slice eA i ec,.slice C8 i c8,.map (some mb8)]) 2 rfl hg8.size ⟨hg8.os,hg8.tape,hg8.output⟩ (fun b hb hne=>hg8.block b hb (fun e=>hne (by rw [e];rfl))) (fun b hf=>⟨.inl hf,by injection hf with hf;subst hf;exact La hgRl2.2 hg8.size⟩) hb8 (fun T hT=>by cases hT)
          simp only [List.set_cons_succ,List.set_cons_zero] at K9
          have K10:=((K9.add (hm8.less hno)).add ((hf8.less hno).less (by simp [Mut,Hp.foot]))).pick [2,3,4,5,0,1,8] (by decide) rfl
          simp only [List.filterMap_cons,List.filterMap_nil,List.getElem?_cons_zero,List.getElem?_cons_succ] at K10
          clear K9 H hg8 hb8 hf8 hm8 hno hgRl2
          go_wp2_with fail
          go_roundw
          case rel=>exact ⟨k+1,_,_,_,C8,c8,mb8,by omega,by go_num,rfl,by omega,hid ⟨HRB.out.1.trans HV.out,⟨HRB.out.2.ins,HRB.out.2.eff,fun z hz=>by
           have h:=ZlC (ts:=ts) (fun y hy=>(HRB.out.2.fir y hy).1) HRB.out.2.row z hz
           omega,ZlD (fun y hy=>(HRB.out.2.fir y hy).1) HRB.out.2.row,HRB.out.2.tgs,HRB.out.2.cau⟩⟩,K10⟩
          case measure=>simp [intOf];omega
      ·have hkk:R.toNat - k=0:=by omega
       have HV:=hid (show Xv ts (R.toNat - k) fl' f' tot=tot by rw [hkk];rfl)
       have hfir:YD 5 ts tes=R:=HR.out.symm
       have HFIR:=hid (show XM 5 ts tes des=Xv ts R.toNat fl (Xa tes) 0 by
        unfold XM
        rw [hfir,Lf (by have:=HBG.out;omega),HFL.out]
        rfl)
       clear hfir
       have hdd:decide ((k:Int)<R)=false:=by simp;omega
       go_wp2_with fail
       refine ⟨by simp,.inl ⟨_,_,rfl,run_takeDeferred HKD.out,?_⟩⟩
       exact ⟨_,results_tmp rfl _ _ _,by rw [HFIR.out,HRB.out.1,HV.out];rfl,HBE.out.trans (belowK_b (w:=w) (Kg _) _ D _ _ (by omega) HKD.out rfl rfl)⟩
    case stop=>
     rintro D c pre W _ _ h _
     exact h.elim
end
section
open Go.RowKit
def VA:Vl:=⟨0,0,⟨#[]⟩⟩
def Ve:Ac:=⟨4,⟨#[]⟩,SlP.nil,SlP.nil,SlP.nil,SlP.nil,⟨#[]⟩⟩
def x31 (g:Nat):Tg:=⟨⟨#[97]⟩,Xt,false,1,SlP.nil,true,SlP.nil,SlP.nil,SlP.nil,SlP.nil,⟨some ⟨g,0,none⟩,1,1,[Ve]⟩⟩
def r31 (g1 g2:Nat):List Rw:=[⟨1,some ⟨g1,0,none⟩,2,2,[VA,VA]⟩,⟨2,some ⟨g2,0,none⟩,2,2,[VA,VA]⟩]
def t31 (A:Option Addr) (c gr g1 g2:Nat):Te:=⟨Xt,A,2,c,Xr,3,some ⟨gr,0,none⟩,2,2,r31 g1 g2⟩
def d31 (gr g1 g2:Nat):De:=⟨Xt,some ⟨gr,0,none⟩,2,2,r31 g1 g2,none,0,0,[],none,0,0,[]⟩
theorem Zfq (g:Nat) (tabs:List (ByteArray × List Col)):YO (4+1) [x31 g] tabs 0=false:=rfl
theorem Zcz (g:Nat) (tes:List Te):YD (4+1) [x31 g] tes=2:=by
 have ht:Yy (4+1) [x31 g] tes 1=(0,[]):=Zdw rfl (Zfq g _)
 have ho:Y9 (4+1) [x31 g] (ZY tes) 1=1:=rfl
 unfold YD
 simp only [List.length_cons,List.length_nil,Nat.zero_add]
 rw [ht,ho]
 decide
theorem ZjV (tes:List Te):YD (4+1) [] tes=1:=by
 unfold YD
 simp only [List.length_nil,Yy,Y9]
 decide
theorem Zhc (g:Nat) (A:Option Addr) (c gr g1 g2:Nat):XM 5 [x31 g] [t31 A c gr g1 g2] [d31 gr g1 g2]=2:=by
 unfold XM
 have h:YD 5 [x31 g] [t31 A c gr g1 g2]=2:=Zcz g _
 rw [h,Lf (by decide)]
 have e:Xv [x31 g] (2:Int).toNat ([x31 g].map fun t=>((Ye [t31 A c gr g1 g2] [d31 gr g1 g2] t).length:Int)) (Xa [t31 A c gr g1 g2]) 0=2:=by kernel_rfl
 exact e
theorem Zhh (g:Nat):TgFit 5 (x31 g):=Zbu (by simp [x31]) (by simp [x31,SlP.nil]) rfl (by simp [x31,Ve,WF,acW,rrW,Wl,YT,ZK,SlP.nil]) (by simp [x31,ZQ,Ve]) fun a ha=>by
 simp only [x31,List.mem_cons,List.not_mem_nil,or_false] at ha
 subst ha
 simp [Ve,SlP.nil]
theorem Zfg (g:Nat):BTg (x31 g):=⟨Zhh g,⟨(fun h=>nomatch h),by simp [x31,SlP.nil],by simp [x31],fun a ha=>by
 simp only [x31,List.mem_cons,List.not_mem_nil,or_false] at ha
 subst ha
 simp [Ve,SlP.nil]⟩,(fun r hr=>nomatch hr),⟨by simp [x31],fun a ha=>by
 simp only [x31,List.mem_cons,List.not_mem_nil,or_false] at ha
 subst ha
 simp [Ve,SlP.nil]⟩,by simp [x31,Zdb],by simp [x31,SlP.nil]⟩
theorem Zmz {g:Nat} {w:World} (h:SlR 7 (some ⟨g,0,none⟩) 1 Ve.cells w):TgIn 5 (x31 g) w:=by
 refine ⟨SlP.YM _ _ _ w,SlP.YM _ _ _ w,SlP.YM _ _ _ w,SlP.YM _ _ _ w,SlP.YM _ _ _ w,h,fun x hx=>?_⟩
 simp only [x31,List.mem_cons,List.not_mem_nil,or_false] at hx
 subst hx
 exact ⟨SlP.YM _ _ _ w,SlP.YM _ _ _ w,SlP.YM _ _ _ w,SlP.YM _ _ _ w⟩
def Y4 (M:Nat→Prop) (k:Nat) (x:Array Value) (u:Value) (w:World):Prop:=∃ g:Nat,u=.slice (some ⟨g,0,none⟩) 1 1∧Ro w M (SlR k (some ⟨g,0,none⟩) 1 x.toList)
theorem Qk {M:Nat→Prop} {k:Nat} {x:Array Value} (u:Value) (w w' :World) (hr:RM M w w') (h:Y4 M k x u w):Y4 M k x u w' :=by
 obtain ⟨g,h1,h2⟩:=h
 exact ⟨g,h1,hr.ro h2⟩
theorem G7 {M:Nat→Prop} {k:Nat} {x:Array Value} {g:Nat} {w:World} (h:Y4 M k x (.slice (some ⟨g,0,none⟩) 1 1) w):Ro w M (SlR k (some ⟨g,0,none⟩) 1 x.toList):=by
 obtain ⟨g',h1,h2⟩:=h
 obtain rfl:g=g' :=by injection h1 with h1;injection h1 with h1;injection h1
 exact h2
theorem ZbV (w:World):Calls Tryz.prog 14 #[] w fun e w' =>e=.returned (.bool true)∧Below w.heap.size w w' :=by
 have K1:=((Hold.Yi w).Za #[.int .i64 4,.string ⟨#[]⟩,.slice none 0 0,.slice none 0 0,.slice none 0 0,.slice none 0 0,.string ⟨#[]⟩] 44).Za #[.string ⟨#[97]⟩,.string ⟨#[108,111,103]⟩,.bool false,.int .i64 1,.slice none 0 0,.bool true,.slice none 0 0,.slice none 0 0,.slice none 0 0,.slice none 0 0,.slice (some ⟨w.heap.size,0,none⟩) 1 1] 48
 simp only [World.size_alloc] at K1
 obtain ⟨ga,hga⟩:∃ g,g=w.heap.size:=⟨_,rfl⟩
 obtain ⟨gx,hgx⟩:∃ g,g=ga+1:=⟨_,rfl⟩
 rw [←hga,←hgx] at K1
 go_enter Tryz.func14,Tryz.ntmps14
 go_wp2_with fail
 rw [←hga,←hgx]
 clear hga hgx
 generalize World.alloc _ _=w1 at K1 ⊢
 refine (Zk4 (Mut Zc _) _ K1.Zb).mono ?_
 rintro e w2 ⟨A,n,c,rfl,hnc,hc4,r1,b1⟩
 have hn2:n=2:=by
  have h:=(RdC.ZW r1.now).len
  exact h.symm
 subst hn2
 have K2:=(K1.call b1).add r1
 clear K1 b1 r1
 have K3:=(((K2.Za #[.int .i64 0,.int .i64 0,.string ⟨#[]⟩,.int .i64 0,.int .i64 0,.string ⟨#[]⟩] 30).Za #[.int .i64 0,.int .i64 0,.string ⟨#[]⟩,.int .i64 0,.int .i64 0,.string ⟨#[]⟩] 30).Za #[.int .i64 1,.slice (some ⟨w2.heap.size,0,none⟩) 2 2,.int .i64 2,.slice (some ⟨w2.heap.size+1,0,none⟩) 2 2] 72).Za #[.string Xt,.slice A 2 c,.int .i64 3,.slice (some ⟨w2.heap.size+1+1,0,none⟩) 2 2] 69
 simp only [World.size_alloc] at K3
 obtain ⟨g1,hg1⟩:∃ g,g=w2.heap.size:=⟨_,rfl⟩
 obtain ⟨g2,hg2⟩:∃ g,g=g1+1:=⟨_,rfl⟩
 obtain ⟨gr,hgr⟩:∃ g,g=g2+1:=⟨_,rfl⟩
 obtain ⟨gt,hgt⟩:∃ g,g=gr+1:=⟨_,rfl⟩
 rw [←hg1,←hg2,←hgr,←hgt] at K3
 have F2:=K2.facts
 simp only [zg] at F2
 go_wp2_with fail
 rw [←hg1,←hg2,←hgr,←hgt]
 clear hg1 hg2 hgr hgt F2 K2
 generalize World.alloc _ _=w3 at K3 ⊢
 obtain ⟨KL,hKL,KN⟩:=K3.name
 have hv1:Ro _ _ (VlsIn (some ⟨g1,0,none⟩) 2 [VA,VA]):=ZO (K3.get 3 rfl) rfl
 have hv2:Ro _ _ (VlsIn (some ⟨g2,0,none⟩) 2 [VA,VA]):=ZO (K3.get 2 rfl) rfl
 have hrw:Ro _ _ (SlR 2 (some ⟨gr,0,none⟩) 2 (Zp (r31 g1 g2))):=ZO (K3.get 1 rfl) rfl
 have hrs:Ro _ _ (RwsIn (some ⟨gr,0,none⟩) 2 (r31 g1 g2)):=(hrw.and (hv1.and hv2)).imp fun w4 h4=>⟨h4.1,fun r hr=>by
  simp only [r31,List.mem_cons,List.not_mem_nil,or_false] at hr
  rcases hr with rfl|rfl
  ·exact h4.2.1
  ·exact h4.2.2⟩
 have hT:Ro _ _ (TesIn (some ⟨gt,0,none⟩) 1 [t31 A c gr g1 g2]):=((show Ro _ _ (SlR 4 (some ⟨gt,0,none⟩) 1 (ZC [t31 A c gr g1 g2])) from ZO (K3.get 0 rfl) rfl).and ((K3.ro 4 rfl).and hrs)).imp fun w4 h4=>⟨h4.1,fun x hx=>by
  simp only [List.mem_cons,List.not_mem_nil,or_false] at hx
  subst hx
  exact ⟨h4.2.1,h4.2.2⟩⟩
 have hA:Ro _ _ (TgIn 5 (x31 ga)):=(show Ro _ _ (SlR 7 (some ⟨ga,0,none⟩) 1 Ve.cells) from ZO (K3.get 6 rfl) rfl).imp fun w4 h4=>Zmz h4
 have K4:=((K3.add hT).add (hA.less (by simp [Mut,Hp.foot]))).add (hrs.less (by simp [Mut,Hp.foot]))
 clear K3 hv1 hv2 hrw hrs hT hA
 obtain ⟨KL,hKL,KN⟩:=K4.name
 have HF:Hid (∀ wv,Hold Zc none w wv KL→Blk wv gx 48 #[.string ⟨#[97]⟩,.string ⟨#[108,111,103]⟩,.bool false,.int .i64 1,.slice none 0 0,.bool true,.slice none 0 0,.slice none 0 0,.slice none 0 0,.slice none 0 0,.slice (some ⟨ga,0,none⟩) 1 1]∧Blk wv gt 69 #[.string Xt,.slice A 2 c,.int .i64 3,.slice (some ⟨gr,0,none⟩) 2 2]∧Ro wv Zc (TesIn (some ⟨gt,0,none⟩) 1 [t31 A c gr g1 g2])∧Ro wv Zc (TgIn 5 (x31 ga))∧Ro wv Zc (RwsIn (some ⟨gr,0,none⟩) 2 (r31 g1 g2))):=hid fun wv HC=>by
  rw [hKL] at HC
  exact ⟨HC.Zg 8 rfl,HC.Zg 3 rfl,(HC.ro 2 rfl).less fun b h=>h.elim,(HC.ro 1 rfl).less fun b h=>h.elim,(HC.ro 0 rfl).less fun b h=>h.elim⟩
 have HKL:=hid hKL
 clear hKL K4
 have HTE:∀ x∈[t31 A c gr g1 g2],BTe x:=fun x hx=>by
  simp only [List.mem_cons,List.not_mem_nil,or_false] at hx
  subst hx
  exact ⟨by simp [t31],by simp [t31],by simp [t31,Zdb]⟩
 have HTG:∀ x∈[x31 ga],BTg x:=fun x hx=>by
  simp only [List.mem_cons,List.not_mem_nil,or_false] at hx
  subst hx
  exact Zfg ga
 have HDE:∀ x∈[d31 gr g1 g2],DeB x:=fun x hx=>by
  simp only [List.mem_cons,List.not_mem_nil,or_false] at hx
  subst hx
  exact ⟨by simp [d31],by simp [d31],by simp [d31],fun r hr=>by
   simp only [d31,r31,List.mem_cons,List.not_mem_nil,or_false] at hr
   rcases hr with rfl|rfl<;>simp,fun r hr=>(nomatch hr),fun r hr=>(nomatch hr)⟩
 have HR:=fun (wv:World) (l:List Tg) (A2:Option Addr) (m k:Nat) (HC:Hold Zc none w wv KL) (hG:Ro wv Zc (TgsIn 5 A2 m l)) (hm:m≤1000) (hl:∀ x∈l,BTg x)=>Gm Zc wv zn A2 m k l (some ⟨gt,0,none⟩) 1 1 [t31 A c gr g1 g2] 4 hG (HF.out wv HC).2.2.1 hm (by omega) (fun u hu=>(hl u hu).fit) (fun x hx=>(HTE x hx).n) (fun x hx=>by have:=(HTE x hx).m;omega) (fun u hu=>(hl u hu).rk)
 have HG1:=fun (wv:World) (g:Nat) (HC:Hold Zc none w wv KL) (h:Y4 (Mut Zc KL) 11 #[.string ⟨#[97]⟩,.string ⟨#[108,111,103]⟩,.bool false,.int .i64 1,.slice none 0 0,.bool true,.slice none 0 0,.slice none 0 0,.slice none 0 0,.slice none 0 0,.slice (some ⟨ga,0,none⟩) 1 1] (.slice (some ⟨g,0,none⟩) 1 1) wv)=>(((G7 h).less (M' :=Zc) zn).and (HF.out wv HC).2.2.2.1).imp fun w4 h4=>(⟨h4.1,fun x hx=>by
  simp only [List.mem_cons,List.not_mem_nil,or_false] at hx
  subst hx
  exact h4.2⟩:TgsIn 5 (some ⟨g,0,none⟩) 1 [x31 ga] w4)
 have HD1:=fun (wv:World) (g:Nat) (HC:Hold Zc none w wv KL) (h:Y4 (Mut Zc KL) 4 #[.string ⟨#[108,111,103]⟩,.slice (some ⟨gr,0,none⟩) 2 2,.slice none 0 0,.slice none 0 0] (.slice (some ⟨g,0,none⟩) 1 1) wv)=>(((G7 h).less (M' :=Zc) zn).and (HF.out wv HC).2.2.2.2).imp fun w4 h4=>(⟨h4.1,fun x hx=>by
  simp only [List.mem_cons,List.not_mem_nil,or_false] at hx
  subst hx
  exact ⟨h4.2,⟨ZG 2 w4,fun _ hx=>(nomatch hx)⟩,⟨ZG 3 w4,fun _ hx=>(nomatch hx)⟩⟩⟩:DesIn (some ⟨g,0,none⟩) 1 [d31 gr g1 g2] w4)
 refine Lj (by kernel_rfl) ?_
 refine Zn 23 41 (KL) (spL [(19,Y4 (Mut Zc KL) 11 #[.string ⟨#[97]⟩,.string ⟨#[108,111,103]⟩,.bool false,.int .i64 1,.slice none 0 0,.bool true,.slice none 0 0,.slice none 0 0,.slice none 0 0,.slice none 0 0,.slice (some ⟨ga,0,none⟩) 1 1]),(26,Y4 (Mut Zc KL) 4 #[.string ⟨#[108,111,103]⟩,.slice (some ⟨gr,0,none⟩) 2 2,.slice none 0 0,.slice none 0 0]),(27,IsV (.int .i64 2)),(31,Y4 (Mut Zc KL) 11 #[.string ⟨#[97]⟩,.string ⟨#[108,111,103]⟩,.bool false,.int .i64 1,.slice none 0 0,.bool true,.slice none 0 0,.slice none 0 0,.slice none 0 0,.slice none 0 0,.slice (some ⟨ga,0,none⟩) 1 1]),(33,IsV (.int .i64 2)),(38,IsV (.int .i64 1))]) (by kernel_rfl) (by kernel_rfl) (by kernel_rfl) rfl ?_ (KN.drew) ?_
 ·exact Zd Qk (Zd Qk (Zd Yu (Zd Qk (Zd Yu (Zd Yu (Zm _))))))
 simp only [zd,zp,List.getElem_toArray,List.getElem_cons_zero,List.getElem_cons_succ]
 refine' dv rfl rfl rfl (fun wv HC=>?_) ?_;rotate_left
 ·obtain ⟨q,-⟩:=HF.out _ HC;have x0:=q.cell 0;have x1:=q.cell 1;have x2:=q.cell 2;have x3:=q.cell 3;have x4:=q.cell 4;have x5:=q.cell 5;have x6:=q.cell 6;have x7:=q.cell 7;have x8:=q.cell 8;have x9:=q.cell 9;have x10:=q.cell 10;go_simp<;>rfl
 simp only [zp]
 refine Z8 #[.string ⟨#[97]⟩,.string ⟨#[108,111,103]⟩,.bool false,.int .i64 1,.slice none 0 0,.bool true,.slice none 0 0,.slice none 0 0,.slice none 0 0,.slice none 0 0,.slice (some ⟨ga,0,none⟩) 1 1] 48 19 (Y4 (Mut Zc KL) 11 #[.string ⟨#[97]⟩,.string ⟨#[108,111,103]⟩,.bool false,.int .i64 1,.slice none 0 0,.bool true,.slice none 0 0,.slice none 0 0,.slice none 0 0,.slice none 0 0,.slice (some ⟨ga,0,none⟩) 1 1]) (fun g=>.slice (some ⟨g,0,none⟩) 1 1) rfl rfl rfl rfl (fun wv=>?_) (fun wv HC hrm hD hro=>?_) ?_
 ·go_simp<;>rfl
 ·exact ⟨_,rfl,ZO (hro _ HC.Zb) rfl⟩
 rintro g19 wg HCg hsl
 simp only [zp]
 clear hsl HCg
 repeat (refine' dv rfl rfl rfl (fun wv HC=>?_) ?_;rotate_left;(focus (obtain ⟨-,q,-⟩:=HF.out _ HC;have y0:=q.cell 0;have y3:=q.cell 3;go_simp<;>rfl;done));simp only [zp])
 refine Z8 #[.string ⟨#[108,111,103]⟩,.slice (some ⟨gr,0,none⟩) 2 2,.slice none 0 0,.slice none 0 0] 103 26 (Y4 (Mut Zc KL) 4 #[.string ⟨#[108,111,103]⟩,.slice (some ⟨gr,0,none⟩) 2 2,.slice none 0 0,.slice none 0 0]) (fun g=>.slice (some ⟨g,0,none⟩) 1 1) rfl rfl rfl rfl (fun wv=>?_) (fun wv HC hrm hD hro=>?_) ?_
 ·go_simp<;>rfl
 ·exact ⟨_,rfl,ZO (hro _ HC.Zb) rfl⟩
 rintro g26 wg HCg hsl
 simp only [zp]
 clear hsl HCg
 refine Zi 27 (IsV (.int .i64 2)) (f:=17) (args:=#[.slice (some ⟨g19,0,none⟩) 1 1,.slice (some ⟨gt,0,none⟩) 1 1,.slice (some ⟨g26,0,none⟩) 1 1]) rfl rfl rfl rfl (fun wv=>?_) (fun wv HC hrm hD=>?_) ?_
 ·go_simp<;>rfl
 ·refine (Zay wv _ 1 1 [x31 ga] _ 1 1 [t31 A c gr g1 g2] _ 1 1 [d31 gr g1 g2] (HG1 wv g19 HC (ZI hD 1 rfl (by kernel_rfl) rfl rfl)) (HF.out wv HC).2.2.1 (HD1 wv g26 HC (ZI hD 8 rfl (by kernel_rfl) rfl rfl)) (by omega) (by omega) (by omega) (by omega) HTG HTE HDE).mono ?_
  rintro e w5 ⟨rfl,b5⟩
  exact ⟨_,rfl,by rw [Zhc];rfl,HC.call b5,RM.below b5⟩
 rintro u wx HCx rfl
 simp only [zp]
 clear HCx
 iterate 2
  refine' dv rfl rfl rfl (fun wv HC=>?_) ?_;rotate_left
  · go_simp<;>rfl
  simp only [zp]
 refine' dv rfl rfl rfl (fun wv HC=>?_) ?_;rotate_left
 ·obtain ⟨q,-⟩:=HF.out _ HC;have x0:=q.cell 0;have x1:=q.cell 1;have x2:=q.cell 2;have x3:=q.cell 3;have x4:=q.cell 4;have x5:=q.cell 5;have x6:=q.cell 6;have x7:=q.cell 7;have x8:=q.cell 8;have x9:=q.cell 9;have x10:=q.cell 10;go_simp<;>rfl
 simp only [zp]
 refine Z8 #[.string ⟨#[97]⟩,.string ⟨#[108,111,103]⟩,.bool false,.int .i64 1,.slice none 0 0,.bool true,.slice none 0 0,.slice none 0 0,.slice none 0 0,.slice none 0 0,.slice (some ⟨ga,0,none⟩) 1 1] 48 31 (Y4 (Mut Zc KL) 11 #[.string ⟨#[97]⟩,.string ⟨#[108,111,103]⟩,.bool false,.int .i64 1,.slice none 0 0,.bool true,.slice none 0 0,.slice none 0 0,.slice none 0 0,.slice none 0 0,.slice (some ⟨ga,0,none⟩) 1 1]) (fun g=>.slice (some ⟨g,0,none⟩) 1 1) rfl rfl rfl rfl (fun wv=>?_) (fun wv HC hrm hD hro=>?_) ?_
 ·go_simp<;>rfl
 ·exact ⟨_,rfl,ZO (hro _ HC.Zb) rfl⟩
 rintro g31 wg HCg hsl
 simp only [zp]
 clear hsl HCg
 refine' dv rfl rfl rfl (fun wv HC=>?_) ?_;rotate_left
 · go_simp<;>rfl
 simp only [zp]
 refine Zi 33 (IsV (.int .i64 2)) (f:=16) (args:=#[.slice (some ⟨g31,0,none⟩) 1 1,.slice (some ⟨gt,0,none⟩) 1 1]) rfl rfl rfl rfl (fun wv=>?_) (fun wv HC hrm hD=>?_) ?_
 ·go_simp<;>rfl
 ·refine (HR wv [x31 ga] _ 1 1 HC (HG1 wv g31 HC (ZI hD 13 rfl (by kernel_rfl) rfl rfl)) (by omega) HTG).mono ?_
  rintro e w5 ⟨rfl,b5⟩
  exact ⟨_,rfl,by rw [Zcz];rfl,HC.call b5,RM.below b5⟩
 rintro u wx HCx rfl
 simp only [zp]
 clear HCx
 iterate 4
  refine' dv rfl rfl rfl (fun wv HC=>?_) ?_;rotate_left
  · go_simp<;>rfl
  simp only [zp]
 refine Zi 38 (IsV (.int .i64 1)) (f:=16) (args:=#[.slice none 0 0,.slice (some ⟨gt,0,none⟩) 1 1]) rfl rfl rfl rfl (fun wv=>?_) (fun wv HC hrm hD=>?_) ?_
 ·go_simp<;>rfl
 ·refine (HR wv [] none 0 0 HC (fun w4 _ _=>⟨ZG 11 w4,fun _ hx=>(nomatch hx)⟩) (by omega) (fun _ hx=>nomatch hx)).mono ?_
  rintro e w5 ⟨rfl,b5⟩
  exact ⟨_,rfl,by rw [ZjV];rfl,HC.call b5,RM.below b5⟩
 rintro u wx HCx rfl
 simp only [zp]
 clear HCx
 iterate 2
  refine' dv rfl rfl rfl (fun wv HC=>?_) ?_;rotate_left
  · go_simp<;>rfl
  simp only [zp]
 refine Zk ?_
 rintro wx2 HX
 rintro _hrm HGW
 clear HGW _hrm
 have HB:=hid HX.below
 clear HX HF HKL KN HR HG1 HD1 HTE HTG HDE
 go_wp2_with fail
 go_ret
 exact ⟨rfl,HB.out⟩
end
end Go.Proofs.YtnmnkbnmollpmaaGreatDoor

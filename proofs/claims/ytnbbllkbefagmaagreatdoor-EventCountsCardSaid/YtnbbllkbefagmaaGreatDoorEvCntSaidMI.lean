import Derived.Test.YtnbbllkbefagmaaGreatDoorEvCntSaidMH
import Derived.Deep.CutRange
import Derived.Test.YtnbbllkbefagmaaGreatDoorEvCntSaidMD
import Derived.Orders
import Derived.Test.YtnbbllkbefagmaaGreatDoorEvCntSaidMF
import Derived.Test.YtnbbllkbefagmaaGreatDoorEvCntSaidMC
import Derived.Deep.DeepCutAuto
namespace Go.Proofs.YtnbbllkbefagmaaGreatDoor
open Go.RowKit
set_option linter.unusedVariables false
set_option linter.unusedSimpArgs false
theorem Uq {d g:Nat} {s:Se} {M:Nat→Prop} {w:World} {t:TypeId} {cs:Array Value} (h:Ro w M (fun w=>w.heap[g]? =some (.cells cs t (0,0)))) (hl:cs.toList=Se.cells s) (hr:Ro w M (ExIn d s.e)):Ro w M ((⟨some ⟨g,0,none⟩,1,1,[s]⟩:SlP Se).In 11 Se.cells (YC d)):=by
 have h1:Ro w M (SlR 11 (some ⟨g,0,none⟩) 1 cs.toList):=ZL h (by rw [hl];rfl)
 rw [hl] at h1
 exact (h1.and hr).imp fun w2 h2=>⟨by simpa using h2.1,fun z hz=>by
  simp only [List.mem_cons,List.not_mem_nil,or_false] at hz
  subst hz
  exact h2.2⟩
theorem Y8 {α:Type} {k g:Nat} {s:α} {Q:α→Prop} (hk:1≤k) (h:Q s):LsOk k (⟨some ⟨g,0,none⟩,1,1,[s]⟩:SlP α) Q:=⟨⟨Nat.le_refl _,by simp⟩,by simpa using hk,fun z hz=>by
 simp only [List.mem_cons,List.not_mem_nil,or_false] at hz
 subst hz
 exact h⟩
theorem AcIn.le {d d' :Nat} {a:Ac} {w:World} (h:AcIn d a w) (hd:d≤d'):AcIn d' a w:=⟨⟨h.1.1,fun r hr=>⟨(h.1.2 r hr).1,fun x hx=>((h.1.2 r hr).2 x hx).le hd⟩⟩,⟨h.2.1.1,fun q hq=>(h.2.1.2 q hq).le hd⟩,⟨h.2.2.1.1,fun s hs=>(show ExIn d s.e w from h.2.2.1.2 s hs).le hd⟩,h.2.2.2.1,fun x hx=>(h.2.2.2.2 x hx).le hd⟩
theorem LsOk.imp {α:Type} {k:Nat} {s:SlP α} {Q Q' :α→Prop} (h:LsOk k s Q) (hq:∀ x,Q x→Q' x):LsOk k s Q' :=⟨h.1,h.2.1,fun x hx=>hq x (h.2.2 x hx)⟩
theorem AcGd.le {d d' :Nat} {a:Ac} (h:AcGd d a) (hd:d≤d'):AcGd d' a:=⟨h.k,h.r.imp fun r hr=>hr.imp fun x hx=>hx.le hd,h.q.imp fun q hq=>hq.le hd,h.s.imp fun s hs=>hs.le hd,h.h.imp fun x hx=>hx.le hd⟩
def U0 (M:Nat→Prop) (u:Value) (w:World):Prop:=∃ s:Sm,u=s.val∧s.cols.n≤100∧Ro w M (ZQ s)
theorem Ze0 {M:Nat→Prop} (u:Value) (w w' :World) (hr:RM M w w') (h:U0 M u w):U0 M u w' :=by
 obtain ⟨s,h1,h2,h3⟩:=h
 exact ⟨s,h1,h2,hr.ro h3⟩
def UA (M:Nat→Prop) (n:Nat) (u:Value) (w:World):Prop:=∃ p:Pl,u=p.val∧PlN n p∧Ro w M (Zg p)
theorem ZcX {M:Nat→Prop} {n:Nat} (u:Value) (w w' :World) (hr:RM M w w') (h:UA M n u w):UA M n u w' :=by
 obtain ⟨s,h1,h2,h3⟩:=h
 exact ⟨s,h1,h2,hr.ro h3⟩
theorem Zbj {n:Nat} {p:Pl} (h:PlB p) (hf:p.fr.n≤2) (hn:n≤80):PlN n p:=⟨h,by omega,fun _=>trivial⟩
set_option maxRecDepth 100000 in
set_option maxHeartbeats 60000000 in
theorem ZhL (M:Nat→Prop) (T:Nat) (w:World) (hM:∀ b,M b→b<w.heap.size) (ht:Tp w T) (hMT:∀ b,M b→T≤b) (t:Tg) (s:Sm) (p:Pl) (hp:Ro w (Mut M [.tp T]) (Zg p)) (hsm:Ro w (Mut M [.tp T]) (ZQ s)) (hsc:1≤s.cols.n∧s.cols.n≤4) (hW:Ro w (Mut M [.tp T]) Wds) (hT:1<T) (hB:PlB p) (hfr:p.fr.n≤2) (hs:1≤p.tb.n):
  Calls Tryz.prog 100 #[.pointer (some ⟨T,0,none⟩),t.val,s.val,p.val] w fun e w' =>zJ w T M 5 e w' :=by
 have HBN:=hid (fun (n:Nat) (hn:n≤80)=>Zbj hB hfr hn)
 obtain ⟨tn,tt,tb,te,⟨oA,on,oc,ol⟩,tch,⟨pA,pn,pc,pl⟩,⟨qA,qn,qc,ql⟩,⟨rA,rn,rc,rl⟩,⟨kA,kn,kc,kl⟩,⟨aA,an,ac,al⟩⟩:=t
 obtain ⟨⟨fA,fn,fc,fl⟩,⟨sA,sn,sc,sl⟩⟩:=p
 obtain ⟨snm,⟨cA,cn,cc,cl⟩⟩:=s
 have HS:=hid (show 1≤sn from hs)
 have HBC:=hid (show PlB ⟨⟨fA,fn,fc,fl⟩,SlP.nil⟩ from ⟨hB.f,⟨Nat.le_refl _,by simp [SlP.nil]⟩,hB.fc,fun _ hx=>(nomatch hx)⟩)
 have hcn:1≤cn∧cn≤4:=hsc
 have hfn:fn≤2:=hfr
 obtain ⟨bC,oC,eC,-,-⟩:=(show Rd w w.heap.size 4 cA cn (cl.flatMap Col.cells) from hsm.now.1).2 (by omega)
 obtain rfl:cA=some ⟨bC,oC,none⟩:=eC
 have HLN:=hid (show cl.length=cn from (RdC.Zy (show SlR 4 (some ⟨bC,oC,none⟩) cn (Zd cl) w from hsm.now.1)).len)
 have KZ:=(((((((Hold.Y5 M w T hM ht hMT).add hW).add (hp.less (by simp [ZI,Mut,Hp.foot]))).add ((hsm.imp (S' :=SlR 4 (some ⟨bC,oC,none⟩) cn (Zd cl)) fun w2 h2=>h2.1).less (by simp [ZI,Mut,Hp.foot]))).Za #[.string tn,.string tt,.bool tb,.int .i64 te,.slice oA on oc,.bool tch,.slice pA pn pc,.slice qA qn qc,.slice rA rn rc,.slice kA kn kc,.slice aA an ac] 40).Za #[.string snm,.slice (some ⟨bC,oC,none⟩) cn cc] 49).Za #[.slice fA fn fc,.slice sA sn sc] 177).alloc #[.int .i64 0,.string ⟨#[]⟩,.slice none 0 0,.slice none 0 0,.slice none 0 0,.slice none 0 0,.string ⟨#[]⟩] 97
 rw [World.size_alloc,World.size_alloc,World.size_alloc] at KZ
 obtain ⟨gt,hgt⟩:∃ g,g=w.heap.size:=⟨_,rfl⟩
 rw [←hgt] at KZ
 obtain ⟨gs,hgs⟩:∃ g,g=gt+1:=⟨_,rfl⟩
 obtain ⟨gp,hgp⟩:∃ g,g=gs+1:=⟨_,rfl⟩
 obtain ⟨gr,hgr⟩:∃ g,g=gp+1:=⟨_,rfl⟩
 rw [←hgs,←hgp,←hgr] at KZ
 have K0:Hold M (some T) w _ [.blk gr 97 #[.int .i64 0,.string ⟨#[]⟩,.slice none 0 0,.slice none 0 0,.slice none 0 0,.slice none 0 0,.string ⟨#[]⟩],.cst gp 177 #[.slice fA fn fc,.slice sA sn sc],.cst gs 49 #[.string snm,.slice (some ⟨bC,oC,none⟩) cn cc],.cst gt 40 #[.string tn,.string tt,.bool tb,.int .i64 te,.slice oA on oc,.bool tch,.slice pA pn pc,.slice qA qn qc,.slice rA rn rc,.slice kA kn kc,.slice aA an ac],.ro (SlR 4 (some ⟨bC,oC,none⟩) cn (Zd cl)),.ro (Zg ⟨⟨fA,fn,fc,fl⟩,⟨sA,sn,sc,sl⟩⟩),.ro Wds,.tp T]:=KZ.pick [0,1,2,3,4,5,6,7] (by decide) rfl
 simp only [Tg.val,Pl.val,Sm.val]
 clear hp hW hB hsm KZ hfr hs
 go_enter Tryz.func100,Tryz.ntmps100
 have F0:=K0.facts
 simp only [zg] at F0
 rw [hgr,hgp,hgs,hgt] at F0
 go_upto_region 1 with fail
 rw [←hgt,←hgs,←hgp,←hgr] at F0 ⊢
 have HG:=hid (And.intro hgt (And.intro hgs (And.intro hgp hgr)))
 clear hgt hgs hgp hgr
 go_cut [32] from 17 to 32 (fun v wx=>∃ bb:Bool,v=.bool bb∧Hold M (some T) w wx [.blk gr 97 #[.int .i64 0,.string ⟨#[]⟩,.slice none 0 0,.slice none 0 0,.slice none 0 0,.slice none 0 0,.string ⟨#[]⟩],.cst gp 177 #[.slice fA fn fc,.slice sA sn sc],.cst gs 49 #[.string snm,.slice (some ⟨bC,oC,none⟩) cn cc],.cst gt 40 #[.string tn,.string tt,.bool tb,.int .i64 te,.slice oA on oc,.bool tch,.slice pA pn pc,.slice qA qn qc,.slice rA rn rc,.slice kA kn kc,.slice aA an ac],.ro (SlR 4 (some ⟨bC,oC,none⟩) cn (Zd cl)),.ro (Zg ⟨⟨fA,fn,fc,fl⟩,⟨sA,sn,sc,sl⟩⟩),.ro Wds,.tp T])
 case first=>
  go_wp2_with fail
  refine (Z8 T 9 _ (K0.tp_ 7 rfl) (by omega) (by omega)).mono ?_
  rintro e w1 ⟨b,rfl,t1,g1⟩
  have K1:=Hold.Zf K0 7 rfl g1 t1
  have F1:=K1.facts
  simp only [zg] at F1
  clear F0
  cases b
  ·cases tb
   ·go_wp2_with fail
    all_goals (go_meet;exact ⟨_,rfl,K1⟩)
   ·cases tch
    ·go_wp2_with fail
     all_goals (go_meet;exact ⟨_,rfl,K1⟩)
    ·go_wp2_with fail
     all_goals (go_meet;exact ⟨_,rfl,K1⟩)
  ·go_wp2_with fail
   all_goals (go_meet;exact ⟨_,rfl,K1⟩)
 case rest=>
  obtain ⟨bb,rfl,K1⟩:=hcut
  clear K0 F0
  have F1:=K1.facts
  simp only [zg] at F1
  cases bb
  ·cases tb
   ·go_wp2_with fail
    refine (ZT T 5 _ (K1.tp_ 7 rfl) (by omega) (by omega)).mono ?_
    rintro e w2 ⟨r,rfl,r0,r1,t2,g2⟩
    have K2:=Hold.Zf K1 7 rfl g2 t2
    clear K1 F1 t2 g2
    go_wp2_with fail
    refine (W9 _ ⟨1,r,⟨#[]⟩⟩).mono ?_
    rintro e w3 ⟨rfl,b3⟩
    have HY0:=hid (WL ⟨1,r,⟨#[]⟩⟩ (Zw 1 (by decide)) (show I64 r from ⟨by omega,by omega⟩))
    have K3:=((K2.call b3).add (S:=ExIn 1 (Z4 ⟨1,r,⟨#[]⟩⟩)) (fun w2 _ _=>WN _ _))
    generalize Z4 ⟨1,r,⟨#[]⟩⟩=y0 at *
    have K4:=K3.alloc #[.int .i64 y0.kind,.int .i64 y0.op,.bool y0.nt,.int .i64 y0.v.k,.int .i64 y0.v.i,.string y0.v.s,.string y0.tab,.string y0.nm,.slice y0.A y0.n y0.c,.slice y0.B y0.m y0.d] 126
    have F3:=K3.facts
    simp only [zg] at F3
    have F4:=K4.facts
    simp only [zg] at F4
    rw [show y0.val=.agg #[.int .i64 y0.kind,.int .i64 y0.op,.bool y0.nt,.int .i64 y0.v.k,.int .i64 y0.v.i,.string y0.v.s,.string y0.tab,.string y0.nm,.slice y0.A y0.n y0.c,.slice y0.B y0.m y0.d] from rfl]
    clear K2 K3 b3
    go_wp2_with fail
    obtain ⟨gn,hgn⟩:∃ g,g=w3.heap.size:=⟨_,rfl⟩
    rw [←hgn] at K4 ⊢
    have HGN:=hid hgn
    clear hgn F3 F4
    refine (JL (Mut M _) T _ K4.Zb (K4.tp_ 9 rfl) (K4.get 9 rfl).2 ⟨⟨fA,fn,fc,fl⟩,SlP.nil⟩ 1 (((K4.ro 7 rfl).imp (S' :=Zg ⟨⟨fA,fn,fc,fl⟩,SlP.nil⟩) (fun w2 h2=>⟨h2.1,SlP.Zx _ _ _ w2⟩)).less (Zk (i:=9) rfl)) HBC.out).mono ?_
    rintro e w4 ⟨x,ok,rfl,hx,t4,g4⟩
    have HXK:=hid (show ok=true→ExGd 1 x from fun hok=>by
     rcases hx with ⟨h1,rfl⟩|⟨ct,cn',rfl⟩
     ·rw [hok] at h1;exact absurd h1 (by decide)
     ·exact Xu _ _)
    have K5:=((Hold.Zf K4 9 rfl g4 t4).add (S:=ExIn 1 x) (fun w2 _ _=>by
     rcases hx with ⟨_,rfl⟩|⟨ct,cn',rfl⟩
     ·exact J3 w2
     ·exact XA _ _ w2)).Za #[.int .i64 x.kind,.int .i64 x.op,.bool x.nt,.int .i64 x.v.k,.int .i64 x.v.i,.string x.v.s,.string x.tab,.string x.nm,.slice x.A x.n x.c,.slice x.B x.m x.d] 126
    rw [show x.val=.agg #[.int .i64 x.kind,.int .i64 x.op,.bool x.nt,.int .i64 x.v.k,.int .i64 x.v.i,.string x.v.s,.string x.tab,.string x.nm,.slice x.A x.n x.c,.slice x.B x.m x.d] from rfl]
    clear K4 t4 g4 hx
    have F5:=K5.facts
    simp only [zg] at F5
    go_upto_region 8 with fail
    obtain ⟨gx,hgx⟩:∃ g,g=w4.heap.size:=⟨_,rfl⟩
    rw [←hgx] at K5 F5 ⊢
    have HGX:=hid hgx
    clear hgx
    go_cut [73] from 69 to 73 (fun v wx=>∃ bb:Bool,v=.bool bb∧(bb=true→ok=true)∧Hold M (some T) w wx [.cst gx 126 #[.int .i64 x.kind,.int .i64 x.op,.bool x.nt,.int .i64 x.v.k,.int .i64 x.v.i,.string x.v.s,.string x.tab,.string x.nm,.slice x.A x.n x.c,.slice x.B x.m x.d],.ro (ExIn 1 x),.blk gn 126 #[.int .i64 y0.kind,.int .i64 y0.op,.bool y0.nt,.int .i64 y0.v.k,.int .i64 y0.v.i,.string y0.v.s,.string y0.tab,.string y0.nm,.slice y0.A y0.n y0.c,.slice y0.B y0.m y0.d],.ro (ExIn 1 y0),.blk gr 97 #[.int .i64 0,.string ⟨#[]⟩,.slice none 0 0,.slice none 0 0,.slice none 0 0,.slice none 0 0,.string ⟨#[]⟩],.cst gp 177 #[.slice fA fn fc,.slice sA sn sc],.cst gs 49 #[.string snm,.slice (some ⟨bC,oC,none⟩) cn cc],.cst gt 40 #[.string tn,.string tt,.bool false,.int .i64 te,.slice oA on oc,.bool tch,.slice pA pn pc,.slice qA qn qc,.slice rA rn rc,.slice kA kn kc,.slice aA an ac],.ro (SlR 4 (some ⟨bC,oC,none⟩) cn (Zd cl)),.ro (Zg ⟨⟨fA,fn,fc,fl⟩,⟨sA,sn,sc,sl⟩⟩),.ro Wds,.tp T])
    case first=>
     cases ok
     ·go_wp2_with fail
      go_meet
      exact ⟨false,rfl,fun h=>(nomatch h),K5⟩
     ·go_wp2_with fail
      refine (Z8 T 2 _ (K5.tp_ 11 rfl) (by omega) (by omega)).mono ?_
      rintro e w5 ⟨b5,rfl,t5,g5⟩
      have K6:=Hold.Zf K5 11 rfl g5 t5
      go_wp2_with fail
      go_meet
      exact ⟨b5,rfl,fun _=>(by first|trivial|rfl),K6⟩
    case rest=>
     obtain ⟨bb,rfl,hbb,K6⟩:=hcut
     clear K5 F5
     have HBO:=hid hbb
     clear hbb
     have F6:=K6.facts
     simp only [zg] at F6
     go_upto_if 73 with (fail)
     go_cut [] from 74 to 74 (fun wx=>∃ y:Ex,ExGd 1 y∧Hold M (some T) w wx [.blk gn 126 #[.int .i64 y.kind,.int .i64 y.op,.bool y.nt,.int .i64 y.v.k,.int .i64 y.v.i,.string y.v.s,.string y.tab,.string y.nm,.slice y.A y.n y.c,.slice y.B y.m y.d],.ro (ExIn 1 y),.blk gr 97 #[.int .i64 0,.string ⟨#[]⟩,.slice none 0 0,.slice none 0 0,.slice none 0 0,.slice none 0 0,.string ⟨#[]⟩],.cst gp 177 #[.slice fA fn fc,.slice sA sn sc],.cst gs 49 #[.string snm,.slice (some ⟨bC,oC,none⟩) cn cc],.cst gt 40 #[.string tn,.string tt,.bool false,.int .i64 te,.slice oA on oc,.bool tch,.slice pA pn pc,.slice qA qn qc,.slice rA rn rc,.slice kA kn kc,.slice aA an ac],.ro (SlR 4 (some ⟨bC,oC,none⟩) cn (Zd cl)),.ro (Zg ⟨⟨fA,fn,fc,fl⟩,⟨sA,sn,sc,sl⟩⟩),.ro Wds,.tp T])
     case first=>
      cases bb
      ·go_wp2_with fail
       go_meet
       exact ⟨y0,HY0.out,K6.pick [2,3,4,5,6,7,8,9,10,11] (by decide) rfl⟩
      ·have KC:=((((((((((K6.store 2 rfl 0 (.int .i64 x.kind)).store 2 rfl 1 (.int .i64 x.op)).store 2 rfl 2 (.bool x.nt)).store 2 rfl 3 (.int .i64 x.v.k)).store 2 rfl 4 (.int .i64 x.v.i)).store 2 rfl 5 (.string x.v.s)).store 2 rfl 6 (.string x.tab)).store 2 rfl 7 (.string x.nm)).store 2 rfl 8 (.slice x.A x.n x.c)).store 2 rfl 9 (.slice x.B x.m x.d))
       simp only [zl] at KC
       go_wp2_with fail
       go_meet
       have h2:ok=true:=(by simpa using HBO.out)
       exact ⟨x,HXK.out h2,KC.pick [2,1,4,5,6,7,8,9,10,11] (by decide) rfl⟩
     case rest=>
      obtain ⟨y,hy,K7⟩:=hcut
      clear K6 F6 HBO HXK HY0
      have HYO:=hid hy
      clear hy
      have F7:=K7.facts
      simp only [zg] at F7
      go_wp2_with fail
      refine (ZT T 7 _ (K7.tp_ 9 rfl) (by omega) (by omega)).mono ?_
      rintro e w8 ⟨r,rfl,r0,r1,t8,g8⟩
      have K1:=Hold.Zf K7 9 rfl g8 t8
      clear K7 F7 t8 g8
      have F1:=K1.facts
      simp only [zg] at F1
      by_cases e0:r=0
      ·subst e0
       obtain ⟨KM,hKM,K6⟩:=K1.name
       have H1:∀ wv:World,Hold M (some T) w wv KM→Blk wv gn 126 #[.int .i64 y.kind,.int .i64 y.op,.bool y.nt,.int .i64 y.v.k,.int .i64 y.v.i,.string y.v.s,.string y.tab,.string y.nm,.slice y.A y.n y.c,.slice y.B y.m y.d]:=fun wv h=>by rw [hKM] at h;exact h.ZF 0 rfl
       have H2:∀ wv:World,Hold M (some T) w wv KM→Blk wv gt 40 #[.string tn,.string tt,.bool false,.int .i64 te,.slice oA on oc,.bool tch,.slice pA pn pc,.slice qA qn qc,.slice rA rn rc,.slice kA kn kc,.slice aA an ac]:=fun wv h=>by rw [hKM] at h;exact h.ZB 5 rfl
       have h4:KM[9]? =some (.tp T):=by rw [hKM];rfl
       have HH1:=hid H1
       have HH2:=hid H2
       have HH4:=hid h4
       have HKM:=hid hKM
       clear hKM H1 H2 h4 K1
       go_wp2_with fail
       clear F1
       refine wp_region_any (by as_aux_lemma=>kernel_rfl) ?_
       refine Zp 5 187 (KM) (spL [(83,Zh (Mut M KM) 1)]) (by as_aux_lemma=>kernel_rfl) (by as_aux_lemma=>kernel_rfl) (by as_aux_lemma=>kernel_rfl) rfl ?_ (K6.drew) ?_
       ·exact Ze Yj (Zo _)
       simp only [zd,Act.put,List.getElem_toArray,List.getElem_cons_zero,List.getElem_cons_succ,zl]
       refine' dv rfl rfl rfl (fun wv HC=>?_) ?_;rotate_left
       ·obtain q0:=(HH1.out _ HC).cell 0;obtain q1:=(HH1.out _ HC).cell 1;obtain q2:=(HH1.out _ HC).cell 2;obtain q3:=(HH1.out _ HC).cell 3;obtain q4:=(HH1.out _ HC).cell 4;obtain q5:=(HH1.out _ HC).cell 5;obtain q6:=(HH1.out _ HC).cell 6;obtain q7:=(HH1.out _ HC).cell 7;obtain q8:=(HH1.out _ HC).cell 8;obtain q9:=(HH1.out _ HC).cell 9;go_simp<;>rfl
       simp only [Act.put,zl]
       refine' dv rfl rfl rfl (fun wv HC=>?_) ?_;rotate_left
       · go_simp<;>rfl
       simp only [Act.put,zl]
       refine' dv rfl rfl rfl (fun wv HC=>?_) ?_;rotate_left
       ·obtain q0:=(HH2.out _ HC).cell 0;go_simp<;>rfl
       simp only [Act.put,zl]
       refine' dv rfl rfl rfl (fun wv HC=>?_) ?_;rotate_left
       · go_simp<;>rfl
       simp only [Act.put,zl]
       refine Zm 83 (Zh (Mut M KM) 1) (f:=154) (args:=#[.agg #[.int .i64 3,.int .i64 0,.string tn]]) rfl rfl rfl rfl (fun wv=>?_) (fun wv HC hrm hD=>?_) ?_
       ·go_simp<;>rfl
       ·refine (W9 wv ⟨3,0,tn⟩).mono ?_
        rintro e w5 ⟨rfl,b5⟩
        exact ⟨_,rfl,⟨_,rfl,WL _ (Zw 3 (by decide)) (Zw 0 (by decide)),fun w2 _ _=>WN _ w2⟩,HC.call b5,RM.below b5⟩
       rintro u wx HCx ⟨c1,rfl,hx,rx⟩
       clear HCx hx rx
       simp only [Act.put,zl]
       refine Zj ?_
       rintro wx3 HX
       rintro _hrm HGW
       have hu:Zh (Mut M KM) 1 c1.val wx3:=(Zl (d:=83) rfl).1 (HGW 4 _ rfl (by omega))
       clear HGW _hrm
       obtain ⟨z,hz,hok,hro⟩:=hu
       rw [HKM.out] at HX hro
       rw [hz]
       rw [show z.val=.agg #[.int .i64 z.kind,.int .i64 z.op,.bool z.nt,.int .i64 z.v.k,.int .i64 z.v.i,.string z.v.s,.string z.tab,.string z.nm,.slice z.A z.n z.c,.slice z.B z.m z.d] from rfl]
       clear hz HH1 HH2 HH4 HKM K6 c1
       have HOK:=hid hok
       have K2:=((HX.add hro).Za #[.int .i64 y.kind,.int .i64 y.op,.bool y.nt,.int .i64 y.v.k,.int .i64 y.v.i,.string y.v.s,.string y.tab,.string y.nm,.slice y.A y.n y.c,.slice y.B y.m y.d,.int .i64 z.kind,.int .i64 z.op,.bool z.nt,.int .i64 z.v.k,.int .i64 z.v.i,.string z.v.s,.string z.tab,.string z.nm,.slice z.A z.n z.c,.slice z.B z.m z.d] 126).Za #[.slice (some ⟨wx3.heap.size,0,none⟩) 2 2] 37
       rw [World.size_alloc] at K2
       have F2:=K2.facts
       simp only [zg] at F2
       clear HX hro hok
       have K7:=(((((((K2.store 5 rfl 0 (.int .i64 1)).store 5 rfl 1 (.string ⟨#[108,111,103]⟩)).store 5 rfl 2 (.slice (some ⟨wx3.heap.size+1,0,none⟩) 1 1)).store 5 rfl 3 (.slice none 0 0)).store 5 rfl 4 (.slice none 0 0)).store 5 rfl 5 (.slice none 0 0)).store 5 rfl 6 (.string ⟨#[]⟩))
       simp only [zl] at K7
       have F7:=K7.facts
       simp only [zg] at F7
       have KZ:=K7
       have hR:Ro _ _ (AcIn 5 ⟨1,⟨#[108,111,103]⟩,⟨some ⟨wx3.heap.size+1,0,none⟩,1,1,[⟨some ⟨wx3.heap.size,0,none⟩,2,2,[y,z]⟩]⟩,SlP.nil,SlP.nil,SlP.nil,⟨#[]⟩⟩):=((ZL (KZ.get 0 rfl) rfl:Ro _ _ (SlR 1 (some ⟨wx3.heap.size+1,0,none⟩) 1 [.slice (some ⟨wx3.heap.size,0,none⟩) 2 2])).and (Wq (d:=1) (l:=[y,z]) (KZ.get 1 rfl) rfl (fun a ha=>by
        simp only [List.mem_cons,List.not_mem_nil,or_false] at ha
        rcases ha with rfl|rfl
        ·exact KZ.ro 4 rfl
        ·exact KZ.ro 2 rfl))).imp fun w2 h2=>⟨⟨h2.1,fun r hr=>by
        simp only [List.mem_cons,List.not_mem_nil,or_false] at hr
        subst hr
        exact ⟨h2.2.1,fun x hx=>(h2.2.2 x hx).le (by omega)⟩⟩,SlP.Zx _ _ _ w2,SlP.Zx _ _ _ w2,SlP.Zx _ _ _ w2⟩
       have HR:=hid (hR.less zm)
       have HT:=hid (And.intro (KZ.tp_ 12 rfl) KZ.grow)
       have HGD:=hid (show AcGd 5 ⟨1,⟨#[108,111,103]⟩,⟨some ⟨wx3.heap.size+1,0,none⟩,1,1,[⟨some ⟨wx3.heap.size,0,none⟩,2,2,[y,z]⟩]⟩,SlP.nil,SlP.nil,SlP.nil,⟨#[]⟩⟩ from ⟨⟨by simp,by simp⟩,Y8 (by omega) ⟨⟨Nat.le_refl _,by simp⟩,by simp,fun a ha=>by
        simp only [List.mem_cons,List.not_mem_nil,or_false] at ha
        rcases ha with rfl|rfl
        ·exact HYO.out.le (by omega)
        ·exact HOK.out.le (by omega)⟩,LsOk.nil _ _,LsOk.nil _ _,LsOk.nil _ _⟩)
       clear K2 K7 KZ hR
       go_wp2_with fail
       refine bodyPost_ret (v:=.agg #[.int .i64 1,.string ⟨#[108,111,103]⟩,.slice (some ⟨wx3.heap.size+1,0,none⟩) 1 1,.slice none 0 0,.slice none 0 0,.slice none 0 0,.string ⟨#[]⟩]) ?_ rfl ?_
       ·clear HT HR HGD
        simp [results,Tryz.results100,go_sem,F7]
       ·exact ⟨⟨1,⟨#[108,111,103]⟩,⟨some ⟨wx3.heap.size+1,0,none⟩,1,1,[⟨some ⟨wx3.heap.size,0,none⟩,2,2,[y,z]⟩]⟩,SlP.nil,SlP.nil,SlP.nil,⟨#[]⟩⟩,rfl,HGD.out,HR.out,HT.out.1,HT.out.2⟩
      ·by_cases e1:r=1
       ·subst e1
        obtain ⟨KM,hKM,K6⟩:=K1.name
        have H1:∀ wv:World,Hold M (some T) w wv KM→Blk wv gn 126 #[.int .i64 y.kind,.int .i64 y.op,.bool y.nt,.int .i64 y.v.k,.int .i64 y.v.i,.string y.v.s,.string y.tab,.string y.nm,.slice y.A y.n y.c,.slice y.B y.m y.d]:=fun wv h=>by rw [hKM] at h;exact h.ZF 0 rfl
        have h4:KM[9]? =some (.tp T):=by rw [hKM];rfl
        have HH1:=hid H1
        have HH4:=hid h4
        have HKM:=hid hKM
        clear hKM H1 h4 K1
        go_wp2_with fail
        clear F1
        refine wp_region_any (by as_aux_lemma=>kernel_rfl) ?_
        refine Zp 19 187 (KM) (spL [(89,ValsSlot (Mut M KM) 2 [.string ⟨#[110]⟩,.string ⟨#[109]⟩]),(91,fun u _=>Yt 2 u),(92,Wy (Mut M KM) Vw),(93,WW),(95,fun u _=>Yt 2 u),(97,ValsSlot (Mut M KM) 2 [.string ⟨#[110]⟩,.string ⟨#[109]⟩]),(99,fun u _=>Yt 2 u),(100,Wy (Mut M KM) Vw),(101,WW),(102,Zh (Mut M KM) 1),(104,fun u _=>Yt 3 u),(106,Zh (Mut M KM) 2),(107,Zh (Mut M KM) 3)]) (by as_aux_lemma=>kernel_rfl) (by as_aux_lemma=>kernel_rfl) (by as_aux_lemma=>kernel_rfl) rfl ?_ (K6.drew) ?_
        ·exact Ze ZaC (Ze (fun _ _ _ _ h=>h) (Ze Zbh (Ze Gd (Ze (fun _ _ _ _ h=>h) (Ze ZaC (Ze (fun _ _ _ _ h=>h) (Ze Zbh (Ze Gd (Ze Yj (Ze (fun _ _ _ _ h=>h) (Ze Yj (Ze Yj (Zo _)))))))))))))
        simp only [zd,Act.put,List.getElem_toArray,List.getElem_cons_zero,List.getElem_cons_succ,zl]
        refine Ye #[.string ⟨#[110]⟩,.string ⟨#[109]⟩] 9 89 (ValsSlot (Mut M KM) 2 [.string ⟨#[110]⟩,.string ⟨#[109]⟩]) (fun g=>.slice (some ⟨g,0,none⟩) 2 2) rfl rfl rfl rfl (fun wv=>?_) (fun wv HC _hrm hD hro=>?_) ?_
        ·go_simp<;>rfl
        ·exact ⟨_,rfl,rfl,ZL (hro _ HC.Zb) rfl⟩
        rintro ga1 wg HCg hg21
        simp only [Act.put,zl]
        clear HCg hg21
        refine' dv rfl rfl rfl (fun wv HC=>?_) ?_;rotate_left
        · go_simp<;>rfl
        simp only [Act.put,zl]
        refine Yz 2 9 HH4.out 91 rfl rfl rfl rfl (fun wv=>?_) (fun ra1 hra1=>?_)
        ·go_simp<;>rfl
        have ira1:(ra1:Int)<2:=by omega
        have jra1:(0:Int)≤(ra1:Int):=by omega
        simp only [Act.put,zl]
        refine Va 92 (Wy (Mut M KM) Vw) rfl rfl rfl rfl (fun wv HC hD=>?_) ?_
        ·have ha:ValsSlot (Mut M KM) 2 [.string ⟨#[110]⟩,.string ⟨#[109]⟩] (.slice (some ⟨ga1,0,none⟩) 2 2) wv:=ZM hD 0 rfl (by as_aux_lemma=>kernel_rfl) rfl rfl
         refine ⟨.pointer (some ⟨ga1,ra1,none⟩),?_,ha.cell (by intro z hz;simp only [List.mem_cons,List.not_mem_nil,or_false] at hz;rcases hz with rfl|rfl<;>exact ⟨_,rfl⟩) hra1⟩
         go_simp
        rintro u wx HCx ⟨gz,oz,zz,rfl,hz,-⟩
        clear HCx hz
        simp only [Act.put,zl]
        refine Va 93 WW rfl rfl rfl rfl (fun wv HC hD=>?_) ?_
        ·obtain ⟨g',o',z,e',hz,hc⟩:Wy (Mut M KM) Vw (.pointer (some ⟨gz,oz,none⟩)) wv:=ZM hD 3 rfl (by as_aux_lemma=>kernel_rfl) rfl rfl
         obtain ⟨rfl,rfl⟩:gz=g' ∧oz=o' :=by injection e' with e';injection e' with e';injection e' with e1 e2;exact ⟨e1,e2⟩
         have hc0:=hc.now
         obtain ⟨z',rfl⟩:=hz
         refine ⟨.string z',?_,⟨z',rfl⟩⟩
         go_simp
        rintro u wx HCx ⟨nm1,rfl⟩
        clear HCx
        simp only [Act.put,zl]
        refine' dv rfl rfl rfl (fun wv HC=>?_) ?_;rotate_left
        · go_simp<;>rfl
        simp only [Act.put,zl]
        refine Yz 2 9 HH4.out 95 rfl rfl rfl rfl (fun wv=>?_) (fun ro1 hro1=>?_)
        ·go_simp<;>rfl
        have hwr1:IntKind.i64.wrap (9+(ro1:Int))=9+ro1:=IntWalk.i64_in _ (by omega)
        simp only [Act.put,zl]
        refine' dv rfl rfl rfl (fun wv HC=>?_) ?_;rotate_left
        · go_simp<;>rfl
        simp only [Act.put,zl]
        refine Ye #[.string ⟨#[110]⟩,.string ⟨#[109]⟩] 9 97 (ValsSlot (Mut M KM) 2 [.string ⟨#[110]⟩,.string ⟨#[109]⟩]) (fun g=>.slice (some ⟨g,0,none⟩) 2 2) rfl rfl rfl rfl (fun wv=>?_) (fun wv HC _hrm hD hro=>?_) ?_
        ·go_simp<;>rfl
        ·exact ⟨_,rfl,rfl,ZL (hro _ HC.Zb) rfl⟩
        rintro ga2 wg HCg hg21
        simp only [Act.put,zl]
        clear HCg hg21
        refine' dv rfl rfl rfl (fun wv HC=>?_) ?_;rotate_left
        · go_simp<;>rfl
        simp only [Act.put,zl]
        refine Yz 2 9 HH4.out 99 rfl rfl rfl rfl (fun wv=>?_) (fun ra2 hra2=>?_)
        ·go_simp<;>rfl
        have ira2:(ra2:Int)<2:=by omega
        have jra2:(0:Int)≤(ra2:Int):=by omega
        simp only [Act.put,zl]
        refine Va 100 (Wy (Mut M KM) Vw) rfl rfl rfl rfl (fun wv HC hD=>?_) ?_
        ·have ha:ValsSlot (Mut M KM) 2 [.string ⟨#[110]⟩,.string ⟨#[109]⟩] (.slice (some ⟨ga2,0,none⟩) 2 2) wv:=ZM hD 8 rfl (by as_aux_lemma=>kernel_rfl) rfl rfl
         refine ⟨.pointer (some ⟨ga2,ra2,none⟩),?_,ha.cell (by intro z hz;simp only [List.mem_cons,List.not_mem_nil,or_false] at hz;rcases hz with rfl|rfl<;>exact ⟨_,rfl⟩) hra2⟩
         go_simp
        rintro u wx HCx ⟨gz,oz,zz,rfl,hz,-⟩
        clear HCx hz
        simp only [Act.put,zl]
        refine Va 101 WW rfl rfl rfl rfl (fun wv HC hD=>?_) ?_
        ·obtain ⟨g',o',z,e',hz,hc⟩:Wy (Mut M KM) Vw (.pointer (some ⟨gz,oz,none⟩)) wv:=ZM hD 11 rfl (by as_aux_lemma=>kernel_rfl) rfl rfl
         obtain ⟨rfl,rfl⟩:gz=g' ∧oz=o' :=by injection e' with e';injection e' with e';injection e' with e1 e2;exact ⟨e1,e2⟩
         have hc0:=hc.now
         obtain ⟨z',rfl⟩:=hz
         refine ⟨.string z',?_,⟨z',rfl⟩⟩
         go_simp
        rintro u wx HCx ⟨nm2,rfl⟩
        clear HCx
        simp only [Act.put,zl]
        refine Zm 102 (Zh (Mut M KM) 1) (f:=133) (args:=#[.string ⟨#[]⟩,.string nm2]) rfl rfl rfl rfl (fun wv=>?_) (fun wv HC hrm hD=>?_) ?_
        ·go_simp<;>rfl
        ·refine (XX wv ⟨#[]⟩ nm2).mono ?_
         rintro e w5 ⟨rfl,b5⟩
         exact ⟨_,rfl,⟨_,rfl,Xu _ _,fun w2 _ _=>XA _ _ w2⟩,HC.call b5,RM.below b5⟩
        rintro u wx HCx ⟨c1,rfl,hx,rx⟩
        clear HCx hx rx
        simp only [Act.put,zl]
        refine' dv rfl rfl rfl (fun wv HC=>?_) ?_;rotate_left
        · go_simp<;>rfl
        simp only [Act.put,zl]
        refine Yz 3 9 HH4.out 104 rfl rfl rfl rfl (fun wv=>?_) (fun ro2 hro2=>?_)
        ·go_simp<;>rfl
        have hwr2:IntKind.i64.wrap (1+(ro2:Int))=1+ro2:=IntWalk.i64_in _ (by omega)
        simp only [Act.put,zl]
        refine' dv rfl rfl rfl (fun wv HC=>?_) ?_;rotate_left
        · go_simp<;>rfl
        simp only [Act.put,zl]
        refine Zm 106 (Zh (Mut M KM) 2) (f:=134) (args:=#[.int .i64 (1+(ro2:Int))]) rfl rfl rfl rfl (fun wv=>?_) (fun wv HC hrm hD=>?_) ?_
        ·go_simp<;>rfl
        ·refine (Wj (Mut M KM) wv HC.Zb (1+(ro2:Int)) (by omega)).mono ?_
         rintro e w5 ⟨x,rfl,hx,rx,b5⟩
         exact ⟨_,rfl,⟨x,rfl,Xz hx (by omega) (by omega),rx⟩,HC.call b5,RM.below b5⟩
        rintro u wx HCx ⟨c2,rfl,hx,rx⟩
        clear HCx hx rx
        simp only [Act.put,zl]
        refine Zm 107 (Zh (Mut M KM) 3) (f:=132) (args:=#[.int .i64 (9+(ro1:Int)),c1.val,c2.val]) rfl rfl rfl rfl (fun wv=>?_) (fun wv HC hrm hD=>?_) ?_
        ·go_simp<;>rfl
        ·have h1:Zh (Mut M KM) 1 c1.val wv:=ZM hD 13 rfl (by as_aux_lemma=>kernel_rfl) rfl rfl
         have h2:Zh (Mut M KM) 2 c2.val wv:=ZM hD 17 rfl (by as_aux_lemma=>kernel_rfl) rfl rfl
         obtain ⟨y1,hy1,ok1,q1⟩:=h1
         obtain ⟨y2,hy2,ok2,q2⟩:=h2
         rw [hy1,hy2]
         refine (XJ (Mut M KM) wv HC.Zb (9+(ro1:Int)) y1 y2 2 (q1.imp fun w2 h2=>h2.le (by omega)) q2).mono ?_
         rintro e w5 ⟨g5,rfl,ry,b5⟩
         exact ⟨_,rfl,⟨_,rfl,YU (Zw 5 (by decide)) (show I64 _ from ⟨by omega,by omega⟩) (by omega) (fun a ha=>by
         simp only [List.mem_cons,List.not_mem_nil,or_false] at ha
         rcases ha with rfl|rfl
         ·exact ok1.le (by omega)
         ·exact ok2),ry⟩,HC.call b5,RM.below b5⟩
        rintro u wx HCx ⟨c3,rfl,hx,rx⟩
        clear HCx hx rx
        simp only [Act.put,zl]
        refine Zj ?_
        rintro wx3 HX
        rintro _hrm HGW
        have hu:Zh (Mut M KM) 3 c3.val wx3:=(Zl (d:=107) rfl).1 (HGW 18 _ rfl (by omega))
        clear HGW _hrm
        obtain ⟨z,hz,hok,hro⟩:=hu
        rw [HKM.out] at HX hro
        rw [hz]
        rw [show z.val=.agg #[.int .i64 z.kind,.int .i64 z.op,.bool z.nt,.int .i64 z.v.k,.int .i64 z.v.i,.string z.v.s,.string z.tab,.string z.nm,.slice z.A z.n z.c,.slice z.B z.m z.d] from rfl]
        clear hz HH1 HH4 HKM K6 c3
        have HOK:=hid hok
        have K2:=(HX.add hro).Za #[.string nm1,.int .i64 z.kind,.int .i64 z.op,.bool z.nt,.int .i64 z.v.k,.int .i64 z.v.i,.string z.v.s,.string z.tab,.string z.nm,.slice z.A z.n z.c,.slice z.B z.m z.d] 128
        have F2:=K2.facts
        simp only [zg] at F2
        clear HX hro hok
        have K7:=(((((((K2.store 4 rfl 0 (.int .i64 2)).store 4 rfl 1 (.string ⟨#[117]⟩)).store 4 rfl 2 (.slice none 0 0)).store 4 rfl 3 (.slice none 0 0)).store 4 rfl 4 (.slice (some ⟨wx3.heap.size,0,none⟩) 1 1)).store 4 rfl 5 (.slice none 0 0)).store 4 rfl 6 (.string ⟨#[]⟩))
        simp only [zl] at K7
        have F7:=K7.facts
        simp only [zg] at F7
        have KZ:=K7
        have hR:Ro _ _ (AcIn 5 ⟨2,⟨#[117]⟩,SlP.nil,SlP.nil,⟨some ⟨wx3.heap.size,0,none⟩,1,1,[⟨nm1,z⟩]⟩,SlP.nil,⟨#[]⟩⟩):=((Uq (d:=5) (s:=⟨nm1,z⟩) (KZ.get 0 rfl) rfl ((KZ.ro 1 rfl).imp fun w2 h2=>h2.le (by omega)))).imp fun w2 h2=>⟨SlP.Zx _ _ _ w2,SlP.Zx _ _ _ w2,h2,SlP.Zx _ _ _ w2⟩
        have HR:=hid (hR.less zm)
        have HT:=hid (And.intro (KZ.tp_ 11 rfl) KZ.grow)
        have HGD:=hid (show AcGd 5 ⟨2,⟨#[117]⟩,SlP.nil,SlP.nil,⟨some ⟨wx3.heap.size,0,none⟩,1,1,[⟨nm1,z⟩]⟩,SlP.nil,⟨#[]⟩⟩ from ⟨⟨by simp,by simp⟩,LsOk.nil _ _,LsOk.nil _ _,Y8 (by omega) (HOK.out.le (by omega)),LsOk.nil _ _⟩)
        clear K2 K7 KZ hR
        go_wp2_with fail
        refine bodyPost_ret (v:=.agg #[.int .i64 2,.string ⟨#[117]⟩,.slice none 0 0,.slice none 0 0,.slice (some ⟨wx3.heap.size,0,none⟩) 1 1,.slice none 0 0,.string ⟨#[]⟩]) ?_ rfl ?_
        ·clear HT HR HGD
         simp [results,Tryz.results100,go_sem,F7]
        ·exact ⟨⟨2,⟨#[117]⟩,SlP.nil,SlP.nil,⟨some ⟨wx3.heap.size,0,none⟩,1,1,[⟨nm1,z⟩]⟩,SlP.nil,⟨#[]⟩⟩,rfl,HGD.out,HR.out,HT.out.1,HT.out.2⟩
       ·by_cases e2:r=2
        ·subst e2
         go_upto_region 16 with fail
         go_cut [13] from 113 to 117 (fun v wx=>∃ c:ByteArray,v=.string c∧Hold M (some T) w wx [.blk gn 126 #[.int .i64 y.kind,.int .i64 y.op,.bool y.nt,.int .i64 y.v.k,.int .i64 y.v.i,.string y.v.s,.string y.tab,.string y.nm,.slice y.A y.n y.c,.slice y.B y.m y.d],.ro (ExIn 1 y),.blk gr 97 #[.int .i64 0,.string ⟨#[]⟩,.slice none 0 0,.slice none 0 0,.slice none 0 0,.slice none 0 0,.string ⟨#[]⟩],.cst gp 177 #[.slice fA fn fc,.slice sA sn sc],.cst gs 49 #[.string snm,.slice (some ⟨bC,oC,none⟩) cn cc],.cst gt 40 #[.string tn,.string tt,.bool false,.int .i64 te,.slice oA on oc,.bool tch,.slice pA pn pc,.slice qA qn qc,.slice rA rn rc,.slice kA kn kc,.slice aA an ac],.ro (SlR 4 (some ⟨bC,oC,none⟩) cn (Zd cl)),.ro (Zg ⟨⟨fA,fn,fc,fl⟩,⟨sA,sn,sc,sl⟩⟩),.ro Wds,.tp T])
         case first=>
          have K2:=K1.Za #[.string ⟨#[110]⟩,.string ⟨#[109]⟩] 9
          have F2:=K2.facts
          simp only [zg] at F2
          clear F1
          go_wp2_with fail
          refine (ZT T 2 _ (K2.tp_ 10 rfl) (by omega) (by omega)).mono ?_
          rintro e w9 ⟨r2,rfl,r20,r21,t9,g9⟩
          have K3:=Hold.Zf K2 10 rfl g9 t9
          clear K2 F2 t9 g9
          have F3:=K3.facts
          simp only [zg] at F3
          obtain rfl|rfl:r2=0∨r2=1:=by omega
          ·go_wp2_with fail
           go_meet
           exact ⟨_,rfl,K3.drop (List.sublist_cons_self _ _)⟩
          ·go_wp2_with fail
           go_meet
           exact ⟨_,rfl,K3.drop (List.sublist_cons_self _ _)⟩
         case rest=>
          obtain ⟨c,rfl,K2⟩:=hcut
          clear K1 F1
          go_wp2_with fail
          refine (ZT T 2 _ (K2.tp_ 9 rfl) (by omega) (by omega)).mono ?_
          rintro e w9 ⟨r2,rfl,r20,r21,t9,g9⟩
          have K3:=Hold.Zf K2 9 rfl g9 t9
          have hwr2:IntKind.i64.wrap (9+r2)=9+r2:=IntWalk.i64_in _ (by omega)
          clear K2 t9 g9
          go_wp2_with fail
          refine (XX _ ⟨#[]⟩ c).mono ?_
          rintro e wa ⟨rfl,ba⟩
          have K4:=(K3.call ba).add (S:=ExIn 1 (ZN ⟨#[]⟩ c)) (fun w2 _ _=>XA _ _ w2)
          clear K3 ba
          have HC1:=hid (Xu ⟨#[]⟩ c)
          generalize ZN ⟨#[]⟩ c=z1 at *
          go_wp2_with fail
          refine (ZT T 3 _ (K4.tp_ 10 rfl) (by omega) (by omega)).mono ?_
          rintro e w9 ⟨r3,rfl,r30,r31,t9,g9⟩
          have K5:=Hold.Zf K4 10 rfl g9 t9
          have hwr3:IntKind.i64.wrap (1+r3)=1+r3:=IntWalk.i64_in _ (by omega)
          clear K4 t9 g9
          go_wp2_with fail
          refine (Wj _ _ K5.Zb (1+r3) (by omega)).mono ?_
          rintro e wb ⟨z2,rfl,hz2,rz2,bb⟩
          have K6:=(K5.call bb).add rz2
          have HC2:=hid (Xz hz2 (by omega) (by omega))
          clear K5 bb rz2 hz2
          rw [show z1.val=.agg #[.int .i64 z1.kind,.int .i64 z1.op,.bool z1.nt,.int .i64 z1.v.k,.int .i64 z1.v.i,.string z1.v.s,.string z1.tab,.string z1.nm,.slice z1.A z1.n z1.c,.slice z1.B z1.m z1.d] from rfl]
          rw [show z2.val=.agg #[.int .i64 z2.kind,.int .i64 z2.op,.bool z2.nt,.int .i64 z2.v.k,.int .i64 z2.v.i,.string z2.v.s,.string z2.tab,.string z2.nm,.slice z2.A z2.n z2.c,.slice z2.B z2.m z2.d] from rfl]
          go_wp2_with fail
          refine (XJ (Mut M _) _ K6.Zb (9+r2) z1 z2 2 ((K6.ro 1 rfl).imp fun w2 h2=>h2.le (by omega)) (K6.ro 0 rfl)).mono ?_
          rintro e wd ⟨gd,rfl,rd,bd⟩
          have HC3:=hid (YU (d:=2) (kind:=5) (op:=9+r2) (nt:=false) (g:=gd) (k:=2) (l:=[z1,z2]) (Zw 5 (by decide)) (show I64 _ from ⟨by omega,by omega⟩) (by omega) (fun a ha=>by
           simp only [List.mem_cons,List.not_mem_nil,or_false] at ha
           rcases ha with rfl|rfl
           ·exact HC1.out.le (by omega)
           ·exact HC2.out))
          generalize opE 5 (9+r2) false gd 2 [z1,z2]=z at *
          have K7:=((K6.call bd).add rd).Za #[.string c,.int .i64 z.kind,.int .i64 z.op,.bool z.nt,.int .i64 z.v.k,.int .i64 z.v.i,.string z.v.s,.string z.tab,.string z.nm,.slice z.A z.n z.c,.slice z.B z.m z.d] 128
          rw [show z.val=.agg #[.int .i64 z.kind,.int .i64 z.op,.bool z.nt,.int .i64 z.v.k,.int .i64 z.v.i,.string z.v.s,.string z.tab,.string z.nm,.slice z.A z.n z.c,.slice z.B z.m z.d] from rfl]
          clear K6 bd rd
          go_wp2_with fail
          refine (UT T _ (K7.tp_ 13 rfl)).mono ?_
          rintro e we ⟨zz,rfl,zz0,zz1,te9,ge9⟩
          have K8:=Hold.Zf K7 13 rfl ge9 te9
          clear K7 te9 ge9
          go_wp2_with fail
          refine (Zax (Mut M _) _ K8.Zb c zz 9 (by omega) (by omega)).mono ?_
          rintro e wf ⟨gf,n1,n2,rfl,hn1,hn2,rf,bf⟩
          have HC4:=hid (YU (d:=2) (kind:=7) (op:=0) (nt:=false) (g:=gf) (k:=3) (l:=[ZN ⟨#[]⟩ c,n1,n2]) (Zw 7 (by decide)) (Zw 0 (by decide)) (by omega) (fun a ha=>by
           simp only [List.mem_cons,List.not_mem_nil,or_false] at ha
           rcases ha with rfl|rfl|rfl
           ·exact (Xu _ _).le (by omega)
           ·exact Xz hn1 (by omega) (by omega)
           ·exact Xz hn2 (by omega) (by omega)))
          generalize opE 7 0 false gf 3 [ZN ⟨#[]⟩ c,n1,n2]=q at *
          have K2:=((K8.call bf).add rf).Za #[.int .i64 q.kind,.int .i64 q.op,.bool q.nt,.int .i64 q.v.k,.int .i64 q.v.i,.string q.v.s,.string q.tab,.string q.nm,.slice q.A q.n q.c,.slice q.B q.m q.d] 126
          rw [show q.val=.agg #[.int .i64 q.kind,.int .i64 q.op,.bool q.nt,.int .i64 q.v.k,.int .i64 q.v.i,.string q.v.s,.string q.tab,.string q.nm,.slice q.A q.n q.c,.slice q.B q.m q.d] from rfl]
          clear K8 bf rf hn1 hn2
          have F2:=K2.facts
          simp only [zg] at F2
          have K7:=(((((((K2.store 8 rfl 0 (.int .i64 2)).store 8 rfl 1 (.string ⟨#[117]⟩)).store 8 rfl 2 (.slice none 0 0)).store 8 rfl 3 (.slice none 0 0)).store 8 rfl 4 (.slice (some ⟨wd.heap.size,0,none⟩) 1 1)).store 8 rfl 5 (.slice (some ⟨wf.heap.size,0,none⟩) 1 1)).store 8 rfl 6 (.string ⟨#[]⟩))
          simp only [zl] at K7
          have F7:=K7.facts
          simp only [zg] at F7
          have KZ:=K7
          have hR:Ro _ _ (AcIn 5 ⟨2,⟨#[117]⟩,SlP.nil,SlP.nil,⟨some ⟨wd.heap.size,0,none⟩,1,1,[⟨c,z⟩]⟩,⟨some ⟨wf.heap.size,0,none⟩,1,1,[q]⟩,⟨#[]⟩⟩):=((Uq (d:=5) (s:=⟨c,z⟩) (KZ.get 2 rfl) rfl ((KZ.ro 3 rfl).imp fun w2 h2=>h2.le (by omega))).and (XF (KZ.get 0 rfl) rfl (KZ.ro 1 rfl))).imp fun w2 h2=>⟨SlP.Zx _ _ _ w2,SlP.Zx _ _ _ w2,h2.1,h2.2.1,fun x hx=>(h2.2.2 x hx).le (by omega)⟩
          have HR:=hid (hR.less zm)
          have HT:=hid (And.intro (KZ.tp_ 15 rfl) KZ.grow)
          have HGD:=hid (show AcGd 5 ⟨2,⟨#[117]⟩,SlP.nil,SlP.nil,⟨some ⟨wd.heap.size,0,none⟩,1,1,[⟨c,z⟩]⟩,⟨some ⟨wf.heap.size,0,none⟩,1,1,[q]⟩,⟨#[]⟩⟩ from ⟨⟨by simp,by simp⟩,LsOk.nil _ _,LsOk.nil _ _,Y8 (by omega) (HC3.out.le (by omega)),Y8 (by omega) (HC4.out.le (by omega))⟩)
          clear K2 K7 KZ hR
          go_wp2_with fail
          refine bodyPost_ret (v:=.agg #[.int .i64 2,.string ⟨#[117]⟩,.slice none 0 0,.slice none 0 0,.slice (some ⟨wd.heap.size,0,none⟩) 1 1,.slice (some ⟨wf.heap.size,0,none⟩) 1 1,.string ⟨#[]⟩]) ?_ rfl ?_
          ·clear HT HR HGD
           simp [results,Tryz.results100,go_sem,F7]
          ·exact ⟨⟨2,⟨#[117]⟩,SlP.nil,SlP.nil,⟨some ⟨wd.heap.size,0,none⟩,1,1,[⟨c,z⟩]⟩,⟨some ⟨wf.heap.size,0,none⟩,1,1,[q]⟩,⟨#[]⟩⟩,rfl,HGD.out,HR.out,HT.out.1,HT.out.2⟩
        ·by_cases e3:r=3
         ·subst e3
          go_upto_region 19 with fail
          go_cut [145] from 139 to 145 (fun v wx=>∃ bb:Bool,v=.bool bb∧Hold M (some T) w wx [.blk gn 126 #[.int .i64 y.kind,.int .i64 y.op,.bool y.nt,.int .i64 y.v.k,.int .i64 y.v.i,.string y.v.s,.string y.tab,.string y.nm,.slice y.A y.n y.c,.slice y.B y.m y.d],.ro (ExIn 1 y),.blk gr 97 #[.int .i64 0,.string ⟨#[]⟩,.slice none 0 0,.slice none 0 0,.slice none 0 0,.slice none 0 0,.string ⟨#[]⟩],.cst gp 177 #[.slice fA fn fc,.slice sA sn sc],.cst gs 49 #[.string snm,.slice (some ⟨bC,oC,none⟩) cn cc],.cst gt 40 #[.string tn,.string tt,.bool false,.int .i64 te,.slice oA on oc,.bool tch,.slice pA pn pc,.slice qA qn qc,.slice rA rn rc,.slice kA kn kc,.slice aA an ac],.ro (SlR 4 (some ⟨bC,oC,none⟩) cn (Zd cl)),.ro (Zg ⟨⟨fA,fn,fc,fl⟩,⟨sA,sn,sc,sl⟩⟩),.ro Wds,.tp T])
          case first=>
           cases tch
           ·go_wp2_with fail
            go_meet
            exact ⟨_,rfl,K1⟩
           ·go_wp2_with fail
            go_meet
            exact ⟨_,rfl,K1⟩
          case rest=>
           obtain ⟨bb,rfl,K2⟩:=hcut
           clear K1 F1
           have K1:=K2
           clear K2
           have F1:=K1.facts
           simp only [zg] at F1
           cases bb
           ·go_wp2_with fail
            refine (Za4 (WJ 1) (Mut M _) T _ K1.Zb (K1.tp_ 9 rfl) (K1.get 9 rfl).2 ⟨⟨fA,fn,fc,fl⟩,⟨sA,sn,sc,sl⟩⟩ 1 ((K1.ro 7 rfl).less (Zk (i:=9) rfl)) ((K1.ro 8 rfl).less (Zk (i:=9) rfl)) hT (HBN.out 2 (by omega)) (by omega) (by omega) HS.out).mono ?_
            rintro e w9 ⟨a,rfl,ha,ra,t9,g9⟩
            have K2:=(Hold.Zf K1 9 rfl g9 t9).add ra
            clear K1 F1 t9 g9 ra
            have F2:=K2.facts
            simp only [zg] at F2
            rw [show a.val=.agg #[.int .i64 a.kind,.string a.tab,.slice a.rows.A a.rows.n a.rows.c,.slice a.qs.A a.qs.n a.qs.c,.slice a.sets.A a.sets.n a.sets.c,.slice a.wh.A a.wh.n a.wh.c,.string a.text] from rfl]
            have HA:=hid ha
            clear ha
            have K7:=(((((((K2.store 3 rfl 0 (.int .i64 a.kind)).store 3 rfl 1 (.string (a.tab))).store 3 rfl 2 (.slice a.rows.A a.rows.n a.rows.c)).store 3 rfl 3 (.slice a.qs.A a.qs.n a.qs.c)).store 3 rfl 4 (.slice a.sets.A a.sets.n a.sets.c)).store 3 rfl 5 (.slice a.wh.A a.wh.n a.wh.c)).store 3 rfl 6 (.string (a.text)))
            simp only [zl] at K7
            have F7:=K7.facts
            simp only [zg] at F7
            have KZ:=K7
            have hR:Ro _ _ (AcIn 5 a):=(KZ.ro 0 rfl).imp fun w2 h2=>h2.le (by omega)
            have HR:=hid (hR.less zm)
            have HT:=hid (And.intro (KZ.tp_ 10 rfl) KZ.grow)
            have HGD:=hid (show AcGd 5 a from HA.out.le (by omega))
            clear K2 K7 KZ hR
            go_wp2_with fail
            refine bodyPost_ret (v:=.agg #[.int .i64 a.kind,.string (a.tab),.slice a.rows.A a.rows.n a.rows.c,.slice a.qs.A a.qs.n a.qs.c,.slice a.sets.A a.sets.n a.sets.c,.slice a.wh.A a.wh.n a.wh.c,.string (a.text)]) ?_ rfl ?_
            ·clear HT HR HGD
             simp [results,Tryz.results100,go_sem,F7]
            ·exact ⟨a,rfl,HGD.out,HR.out,HT.out.1,HT.out.2⟩
           ·go_upto_if 148 with (fail)
            go_cut [14] from 148 to 148 (fun v wx=>∃ q:ByteArray,v=.string q∧Hold M (some T) w wx [.blk gn 126 #[.int .i64 y.kind,.int .i64 y.op,.bool y.nt,.int .i64 y.v.k,.int .i64 y.v.i,.string y.v.s,.string y.tab,.string y.nm,.slice y.A y.n y.c,.slice y.B y.m y.d],.ro (ExIn 1 y),.blk gr 97 #[.int .i64 0,.string ⟨#[]⟩,.slice none 0 0,.slice none 0 0,.slice none 0 0,.slice none 0 0,.string ⟨#[]⟩],.cst gp 177 #[.slice fA fn fc,.slice sA sn sc],.cst gs 49 #[.string snm,.slice (some ⟨bC,oC,none⟩) cn cc],.cst gt 40 #[.string tn,.string tt,.bool false,.int .i64 te,.slice oA on oc,.bool tch,.slice pA pn pc,.slice qA qn qc,.slice rA rn rc,.slice kA kn kc,.slice aA an ac],.ro (SlR 4 (some ⟨bC,oC,none⟩) cn (Zd cl)),.ro (Zg ⟨⟨fA,fn,fc,fl⟩,⟨sA,sn,sc,sl⟩⟩),.ro Wds,.tp T])
            case first=>
             by_cases h3:te=3
             ·have h3b:(te==3)=true:=by simpa using h3
              go_wp2_with fail
              all_goals first
               | (exfalso;contradiction)
               | (go_meet;exact ⟨_,rfl,K1⟩)
             ·have h3b:(te==3)=false:=by simpa using h3
              go_wp2_with fail
              all_goals first
               | (exfalso;contradiction)
               | (go_meet;exact ⟨_,rfl,K1⟩)
            case rest=>
             obtain ⟨q,rfl,K2⟩:=hcut
             clear K1 F1
             go_upto_region 23 with fail
             go_cut [15] from 149 to 153 (fun v wx=>∃ o:ByteArray,v=.string o∧Hold M (some T) w wx [.blk gn 126 #[.int .i64 y.kind,.int .i64 y.op,.bool y.nt,.int .i64 y.v.k,.int .i64 y.v.i,.string y.v.s,.string y.tab,.string y.nm,.slice y.A y.n y.c,.slice y.B y.m y.d],.ro (ExIn 1 y),.blk gr 97 #[.int .i64 0,.string ⟨#[]⟩,.slice none 0 0,.slice none 0 0,.slice none 0 0,.slice none 0 0,.string ⟨#[]⟩],.cst gp 177 #[.slice fA fn fc,.slice sA sn sc],.cst gs 49 #[.string snm,.slice (some ⟨bC,oC,none⟩) cn cc],.cst gt 40 #[.string tn,.string tt,.bool false,.int .i64 te,.slice oA on oc,.bool tch,.slice pA pn pc,.slice qA qn qc,.slice rA rn rc,.slice kA kn kc,.slice aA an ac],.ro (SlR 4 (some ⟨bC,oC,none⟩) cn (Zd cl)),.ro (Zg ⟨⟨fA,fn,fc,fl⟩,⟨sA,sn,sc,sl⟩⟩),.ro Wds,.tp T])
             case first=>
              have K3:=K2.Za #[.string ⟨#[116]⟩,.string ⟨#[117]⟩] 9
              have F3:=K3.facts
              simp only [zg] at F3
              go_wp2_with fail
              refine (ZT T 2 _ (K3.tp_ 10 rfl) (by omega) (by omega)).mono ?_
              rintro e w9 ⟨r2,rfl,r20,r21,t9,g9⟩
              have K4:=Hold.Zf K3 10 rfl g9 t9
              clear K3 F3 t9 g9
              have F4:=K4.facts
              simp only [zg] at F4
              obtain rfl|rfl:r2=0∨r2=1:=by omega
              ·go_wp2_with fail
               go_meet
               exact ⟨_,rfl,K4.drop (List.sublist_cons_self _ _)⟩
              ·go_wp2_with fail
               go_meet
               exact ⟨_,rfl,K4.drop (List.sublist_cons_self _ _)⟩
             case rest=>
              obtain ⟨o,rfl,K3⟩:=hcut
              clear K2
              go_wp2_with fail
              refine (XX _ ⟨#[]⟩ ⟨#[105,100]⟩).mono ?_
              rintro e wa ⟨rfl,ba⟩
              have K4:=(K3.call ba).add (S:=ExIn 1 (ZN ⟨#[]⟩ ⟨#[105,100]⟩)) (fun w2 _ _=>XA _ _ w2)
              clear K3 ba
              have HC1:=hid (Xu ⟨#[]⟩ ⟨#[105,100]⟩)
              generalize ZN ⟨#[]⟩ ⟨#[105,100]⟩=z1 at *
              go_wp2_with fail
              refine (XX _ q ⟨#[105,100]⟩).mono ?_
              rintro e wb ⟨rfl,bb⟩
              have K5:=(K4.call bb).add (S:=ExIn 1 (ZN q ⟨#[105,100]⟩)) (fun w2 _ _=>XA _ _ w2)
              clear K4 bb
              have HC2:=hid (Xu q ⟨#[105,100]⟩)
              generalize ZN q ⟨#[105,100]⟩=z2 at *
              rw [show z1.val=.agg #[.int .i64 z1.kind,.int .i64 z1.op,.bool z1.nt,.int .i64 z1.v.k,.int .i64 z1.v.i,.string z1.v.s,.string z1.tab,.string z1.nm,.slice z1.A z1.n z1.c,.slice z1.B z1.m z1.d] from rfl]
              rw [show z2.val=.agg #[.int .i64 z2.kind,.int .i64 z2.op,.bool z2.nt,.int .i64 z2.v.k,.int .i64 z2.v.i,.string z2.v.s,.string z2.tab,.string z2.nm,.slice z2.A z2.n z2.c,.slice z2.B z2.m z2.d] from rfl]
              go_wp2_with fail
              refine (XJ (Mut M _) _ K5.Zb 3 z1 z2 1 (K5.ro 1 rfl) (K5.ro 0 rfl)).mono ?_
              rintro e wd ⟨gd,rfl,rd,bd⟩
              have HZO:=hid (YU (d:=1) (kind:=5) (op:=3) (nt:=false) (g:=gd) (k:=2) (l:=[z1,z2]) (Zw 5 (by decide)) (Zw 3 (by decide)) (by omega) (fun a ha=>by
               simp only [List.mem_cons,List.not_mem_nil,or_false] at ha
               rcases ha with rfl|rfl
               ·exact HC1.out
               ·exact HC2.out))
              generalize opE 5 3 false gd 2 [z1,z2]=z at *
              have K7:=((K5.call bd).add rd).alloc #[.int .i64 z.kind,.int .i64 z.op,.bool z.nt,.int .i64 z.v.k,.int .i64 z.v.i,.string z.v.s,.string z.tab,.string z.nm,.slice z.A z.n z.c,.slice z.B z.m z.d] 126
              rw [show z.val=.agg #[.int .i64 z.kind,.int .i64 z.op,.bool z.nt,.int .i64 z.v.k,.int .i64 z.v.i,.string z.v.s,.string z.tab,.string z.nm,.slice z.A z.n z.c,.slice z.B z.m z.d] from rfl]
              clear K5 bd rd
              have F7:=K7.facts
              simp only [zg] at F7
              go_wp2_with fail
              obtain ⟨gw,hgw⟩:∃ g,g=wd.heap.size:=⟨_,rfl⟩
              rw [←hgw] at K7 ⊢
              have HGW2:=hid hgw
              clear hgw F7
              refine (Z8 T 3 _ (K7.tp_ 13 rfl) (by omega) (by omega)).mono ?_
              rintro e w9 ⟨b9,rfl,t9,g9⟩
              have K8:=Hold.Zf K7 13 rfl g9 t9
              have K5:Hold M (some T) w w9 [.blk gw 126 #[.int .i64 z.kind,.int .i64 z.op,.bool z.nt,.int .i64 z.v.k,.int .i64 z.v.i,.string z.v.s,.string z.tab,.string z.nm,.slice z.A z.n z.c,.slice z.B z.m z.d],.ro (ExIn 2 z),.blk gn 126 #[.int .i64 y.kind,.int .i64 y.op,.bool y.nt,.int .i64 y.v.k,.int .i64 y.v.i,.string y.v.s,.string y.tab,.string y.nm,.slice y.A y.n y.c,.slice y.B y.m y.d],.ro (ExIn 1 y),.blk gr 97 #[.int .i64 0,.string ⟨#[]⟩,.slice none 0 0,.slice none 0 0,.slice none 0 0,.slice none 0 0,.string ⟨#[]⟩],.cst gp 177 #[.slice fA fn fc,.slice sA sn sc],.cst gs 49 #[.string snm,.slice (some ⟨bC,oC,none⟩) cn cc],.cst gt 40 #[.string tn,.string tt,.bool false,.int .i64 te,.slice oA on oc,.bool tch,.slice pA pn pc,.slice qA qn qc,.slice rA rn rc,.slice kA kn kc,.slice aA an ac],.ro (SlR 4 (some ⟨bC,oC,none⟩) cn (Zd cl)),.ro (Zg ⟨⟨fA,fn,fc,fl⟩,⟨sA,sn,sc,sl⟩⟩),.ro Wds,.tp T]:=K8.pick [0,1,4,5,6,7,8,9,10,11,12,13] (by decide) rfl
              clear K7 K8 t9 g9
              have F5:=K5.facts
              simp only [zg] at F5
              go_upto_if 159 with (fail)
              go_cut [] from 160 to 167 (fun wx=>∃ z2:Ex,ExGd 5 z2∧Hold M (some T) w wx [.blk gw 126 #[.int .i64 z2.kind,.int .i64 z2.op,.bool z2.nt,.int .i64 z2.v.k,.int .i64 z2.v.i,.string z2.v.s,.string z2.tab,.string z2.nm,.slice z2.A z2.n z2.c,.slice z2.B z2.m z2.d],.ro (ExIn 5 z2),.blk gn 126 #[.int .i64 y.kind,.int .i64 y.op,.bool y.nt,.int .i64 y.v.k,.int .i64 y.v.i,.string y.v.s,.string y.tab,.string y.nm,.slice y.A y.n y.c,.slice y.B y.m y.d],.ro (ExIn 1 y),.blk gr 97 #[.int .i64 0,.string ⟨#[]⟩,.slice none 0 0,.slice none 0 0,.slice none 0 0,.slice none 0 0,.string ⟨#[]⟩],.cst gp 177 #[.slice fA fn fc,.slice sA sn sc],.cst gs 49 #[.string snm,.slice (some ⟨bC,oC,none⟩) cn cc],.cst gt 40 #[.string tn,.string tt,.bool false,.int .i64 te,.slice oA on oc,.bool tch,.slice pA pn pc,.slice qA qn qc,.slice rA rn rc,.slice kA kn kc,.slice aA an ac],.ro (SlR 4 (some ⟨bC,oC,none⟩) cn (Zd cl)),.ro (Zg ⟨⟨fA,fn,fc,fl⟩,⟨sA,sn,sc,sl⟩⟩),.ro Wds,.tp T])
              case first=>
               cases b9
               ·go_wp2_with fail
                go_meet
                exact ⟨z,HZO.out.le (by omega),(K5.add ((K5.ro 1 rfl).imp (S' :=ExIn 5 z) fun w2 h2=>h2.le (by omega))).pick [1,0,3,4,5,6,7,8,9,10,11,12] (by decide) rfl⟩
               ·obtain ⟨KM,hKM,K6⟩:=K5.name
                have H1:∀ wv:World,Hold M (some T) w wv KM→Blk wv gw 126 #[.int .i64 z.kind,.int .i64 z.op,.bool z.nt,.int .i64 z.v.k,.int .i64 z.v.i,.string z.v.s,.string z.tab,.string z.nm,.slice z.A z.n z.c,.slice z.B z.m z.d]:=fun wv h=>by rw [hKM] at h;exact h.ZF 0 rfl
                have H2:∀ wv:World,Hold M (some T) w wv KM→Blk wv gp 177 #[.slice fA fn fc,.slice sA sn sc]:=fun wv h=>by rw [hKM] at h;exact h.ZB 5 rfl
                have H3:∀ wv:World,Hold M (some T) w wv KM→Ro wv (Mut M KM) (Zg ⟨⟨fA,fn,fc,fl⟩,⟨sA,sn,sc,sl⟩⟩)∧Ro wv (Mut M KM) Wds∧Tp wv T∧∀ b,(Mut M KM) b→T≤b:=fun wv h=>by rw [hKM] at h ⊢;exact ⟨h.ro 9 rfl,h.ro 10 rfl,h.tp_ 11 rfl,(h.get 11 rfl).2⟩
                have h4:KM[11]? =some (.tp T):=by rw [hKM];rfl
                have HH1:=hid H1
                have HH2:=hid H2
                have HH3:=hid H3
                have HH4:=hid h4
                have HKM:=hid hKM
                clear hKM H1 H2 H3 h4 K5
                go_wp2_with fail
                clear F5
                refine wp_region_any (by as_aux_lemma=>kernel_rfl) ?_
                refine Zp 7 187 (KM) (spL [(164,U0 (Mut M KM)),(165,UA (Mut M KM) 2),(166,Zh (Mut M KM) 4)]) (by as_aux_lemma=>kernel_rfl) (by as_aux_lemma=>kernel_rfl) (by as_aux_lemma=>kernel_rfl) rfl ?_ (K6.drew) ?_
                ·exact Ze Ze0 (Ze ZcX (Ze Yj (Zo _)))
                simp only [zd,Act.put,List.getElem_toArray,List.getElem_cons_zero,List.getElem_cons_succ,zl]
                refine' dv rfl rfl rfl (fun wv HC=>?_) ?_;rotate_left
                ·obtain q0:=(HH1.out _ HC).cell 0;obtain q1:=(HH1.out _ HC).cell 1;obtain q2:=(HH1.out _ HC).cell 2;obtain q3:=(HH1.out _ HC).cell 3;obtain q4:=(HH1.out _ HC).cell 4;obtain q5:=(HH1.out _ HC).cell 5;obtain q6:=(HH1.out _ HC).cell 6;obtain q7:=(HH1.out _ HC).cell 7;obtain q8:=(HH1.out _ HC).cell 8;obtain q9:=(HH1.out _ HC).cell 9;go_simp<;>rfl
                simp only [Act.put,zl]
                refine' dv rfl rfl rfl (fun wv HC=>?_) ?_;rotate_left
                · go_simp<;>rfl
                simp only [Act.put,zl]
                refine' dv rfl rfl rfl (fun wv HC=>?_) ?_;rotate_left
                ·obtain q0:=(HH2.out _ HC).cell 0;obtain q1:=(HH2.out _ HC).cell 1;go_simp<;>rfl
                simp only [Act.put,zl]
                refine' dv rfl rfl rfl (fun wv HC=>?_) ?_;rotate_left
                · go_simp<;>rfl
                simp only [Act.put,zl]
                refine Zm 164 (U0 (Mut M KM)) (f:=14) (args:=#[.string o]) rfl rfl rfl rfl (fun wv=>?_) (fun wv HC hrm hD=>?_) ?_
                ·go_simp<;>rfl
                ·refine (VT (Mut M KM) wv HC.Zb o).mono ?_
                 rintro e w5 ⟨A,m,c,rfl,hmc,hc4,r1,b5⟩
                 exact ⟨_,rfl,⟨⟨(ZA o).1,⟨A,m,c,(ZA o).2⟩⟩,rfl,by show m≤100;omega,r1.imp fun w2 h2=>⟨h2,fun _ _=>trivial⟩⟩,HC.call b5,RM.below b5⟩
                rintro u wx HCx ⟨s1,rfl,hs1,rs1⟩
                clear HCx hs1 rs1
                simp only [Act.put,zl]
                refine Zm 165 (UA (Mut M KM) 2) (f:=158) (args:=#[.agg #[.slice fA fn fc,.slice sA sn sc],s1.val]) rfl rfl rfl rfl (fun wv=>?_) (fun wv HC hrm hD=>?_) ?_
                ·go_simp<;>rfl
                ·have h1:U0 (Mut M KM) s1.val wv:=ZM hD 4 rfl (by as_aux_lemma=>kernel_rfl) rfl rfl
                 obtain ⟨s2,hs2,hn2,rs2⟩:=h1
                 rw [hs2]
                 obtain ⟨X0,X1,X2,X3⟩:=HH3.out _ HC
                 refine (Qe (Mut M KM) wv HC.Zb ⟨⟨fA,fn,fc,fl⟩,⟨sA,sn,sc,sl⟩⟩ s2 X0 rs2 (by show fn≤1000;omega)).mono ?_
                 rintro e w5 ⟨A,c,rfl,hc,ro5,b5⟩
                 exact ⟨_,rfl,⟨_,rfl,ZbE (HBN.out 3 (by omega)) hn2 hc,ro5⟩,HC.call b5,RM.below b5⟩
                rintro u wx HCx ⟨p1,rfl,hp1,rp1⟩
                clear HCx hp1 rp1
                simp only [Act.put,zl]
                refine Zm 166 (Zh (Mut M KM) 4) (f:=99) (args:=#[.pointer (some ⟨T,0,none⟩),p1.val,.int .i64 2,.int .i64 2]) rfl rfl rfl rfl (fun wv=>?_) (fun wv HC hrm hD=>?_) ?_
                ·go_simp<;>rfl
                ·have h1:UA (Mut M KM) 2 p1.val wv:=ZM hD 5 rfl (by as_aux_lemma=>kernel_rfl) rfl rfl
                 obtain ⟨p2,hp2,hn2,rp2⟩:=h1
                 rw [hp2]
                 obtain ⟨X0,X1,X2,X3⟩:=HH3.out _ HC
                 refine (WJ 2 (Mut M KM) T wv HC.Zb X2 X3 p2 2 2 (rp2.less (Zk HH4.out)) (X1.less (Zk HH4.out)) hT hn2 (by omega) (by omega)).mono ?_
                 rintro e w5 ⟨x,rfl,hx,rx,t5,g5⟩
                 exact ⟨_,rfl,⟨x,rfl,hx,rx⟩,Hold.Zf HC 11 HH4.out g5 t5,RM.grown g5 (.inr ⟨_,List.mem_of_getElem? HH4.out,rfl⟩)⟩
                rintro u wx HCx ⟨c1,rfl,hx,rx⟩
                clear HCx hx rx
                simp only [Act.put,zl]
                refine Zj ?_
                rintro wx3 HX
                rintro _hrm HGW
                have hu:Zh (Mut M KM) 4 c1.val wx3:=(Zl (d:=166) rfl).1 (HGW 6 _ rfl (by omega))
                clear HGW _hrm
                obtain ⟨v,hv,hok,hro⟩:=hu
                rw [HKM.out] at HX hro
                rw [hv]
                rw [show v.val=.agg #[.int .i64 v.kind,.int .i64 v.op,.bool v.nt,.int .i64 v.v.k,.int .i64 v.v.i,.string v.v.s,.string v.tab,.string v.nm,.slice v.A v.n v.c,.slice v.B v.m v.d] from rfl]
                clear hv HH1 HH2 HH3 HH4 HKM K6 c1
                go_wp2_with fail
                refine (XJ (Mut M _) _ HX.Zb 2 z v 4 ((HX.ro 1 rfl).imp fun w2 h2=>h2.le (by omega)) hro).mono ?_
                rintro e w8 ⟨g8,rfl,ry,b8⟩
                have hyok:=hid (YU (d:=4) (kind:=5) (op:=2) (nt:=false) (g:=g8) (k:=2) (l:=[z,v]) (Zw 5 (by decide)) (Zw 2 (by decide)) (by omega) (fun a ha=>by
                 simp only [List.mem_cons,List.not_mem_nil,or_false] at ha
                 rcases ha with rfl|rfl
                 ·exact HZO.out.le (by omega)
                 ·exact hok))
                have KB:=((HX.call b8).add ry)
                generalize opE 5 2 false g8 2 [z,v]=z2 at *
                have FB:=KB.facts
                simp only [zg] at FB
                have KC:=((((((((((KB.store 1 rfl 0 (.int .i64 z2.kind)).store 1 rfl 1 (.int .i64 z2.op)).store 1 rfl 2 (.bool z2.nt)).store 1 rfl 3 (.int .i64 z2.v.k)).store 1 rfl 4 (.int .i64 z2.v.i)).store 1 rfl 5 (.string z2.v.s)).store 1 rfl 6 (.string z2.tab)).store 1 rfl 7 (.string z2.nm)).store 1 rfl 8 (.slice z2.A z2.n z2.c)).store 1 rfl 9 (.slice z2.B z2.m z2.d))
                simp only [zl] at KC
                rw [show z2.val=.agg #[.int .i64 z2.kind,.int .i64 z2.op,.bool z2.nt,.int .i64 z2.v.k,.int .i64 z2.v.i,.string z2.v.s,.string z2.tab,.string z2.nm,.slice z2.A z2.n z2.c,.slice z2.B z2.m z2.d] from rfl]
                clear HX b8 ry hro hok
                go_wp2_with fail
                go_meet
                exact ⟨z2,hyok.out.le (by omega),KC.pick [1,0,3,4,5,6,7,8,9,10,11,12] (by decide) rfl⟩
              case rest=>
               obtain ⟨z2,hz2,K6⟩:=hcut
               clear K5 F5
               have HZ2:=hid hz2
               clear hz2
               have qa0:=(K6.ZF 2 rfl).cell 0
               have qa1:=(K6.ZF 2 rfl).cell 1
               have qa2:=(K6.ZF 2 rfl).cell 2
               have qa3:=(K6.ZF 2 rfl).cell 3
               have qa4:=(K6.ZF 2 rfl).cell 4
               have qa5:=(K6.ZF 2 rfl).cell 5
               have qa6:=(K6.ZF 2 rfl).cell 6
               have qa7:=(K6.ZF 2 rfl).cell 7
               have qa8:=(K6.ZF 2 rfl).cell 8
               have qa9:=(K6.ZF 2 rfl).cell 9
               have K7:=K6.Za #[.string ⟨#[110]⟩,.int .i64 y.kind,.int .i64 y.op,.bool y.nt,.int .i64 y.v.k,.int .i64 y.v.i,.string y.v.s,.string y.tab,.string y.nm,.slice y.A y.n y.c,.slice y.B y.m y.d] 128
               have qb0:=(K7.ZF 1 rfl).cell 0
               have qb1:=(K7.ZF 1 rfl).cell 1
               have qb2:=(K7.ZF 1 rfl).cell 2
               have qb3:=(K7.ZF 1 rfl).cell 3
               have qb4:=(K7.ZF 1 rfl).cell 4
               have qb5:=(K7.ZF 1 rfl).cell 5
               have qb6:=(K7.ZF 1 rfl).cell 6
               have qb7:=(K7.ZF 1 rfl).cell 7
               have qb8:=(K7.ZF 1 rfl).cell 8
               have qb9:=(K7.ZF 1 rfl).cell 9
               simp only [List.getElem?_toArray,List.getElem?_cons_zero,List.getElem?_cons_succ] at qa0 qb0 qa1 qb1 qa2 qb2 qa3 qb3 qa4 qb4 qa5 qb5 qa6 qb6 qa7 qb7 qa8 qb8 qa9 qb9
               have K2:=K7.Za #[.int .i64 z2.kind,.int .i64 z2.op,.bool z2.nt,.int .i64 z2.v.k,.int .i64 z2.v.i,.string z2.v.s,.string z2.tab,.string z2.nm,.slice z2.A z2.n z2.c,.slice z2.B z2.m z2.d] 126
               rw [World.size_alloc] at K2
               have F2:=K2.facts
               simp only [zg] at F2
               clear K6 K7
               have K7:=(((((((K2.store 6 rfl 0 (.int .i64 2)).store 6 rfl 1 (.string o)).store 6 rfl 2 (.slice none 0 0)).store 6 rfl 3 (.slice none 0 0)).store 6 rfl 4 (.slice (some ⟨wc.heap.size,0,none⟩) 1 1)).store 6 rfl 5 (.slice (some ⟨wc.heap.size+1,0,none⟩) 1 1)).store 6 rfl 6 (.string ⟨#[]⟩))
               simp only [zl] at K7
               have F7:=K7.facts
               simp only [zg] at F7
               have KZ:=K7
               have hR:Ro _ _ (AcIn 5 ⟨2,o,SlP.nil,SlP.nil,⟨some ⟨wc.heap.size,0,none⟩,1,1,[⟨⟨#[110]⟩,y⟩]⟩,⟨some ⟨wc.heap.size+1,0,none⟩,1,1,[z2]⟩,⟨#[]⟩⟩):=((Uq (d:=5) (s:=⟨⟨#[110]⟩,y⟩) (KZ.get 1 rfl) rfl ((KZ.ro 5 rfl).imp fun w2 h2=>h2.le (by omega))).and (XF (KZ.get 0 rfl) rfl (KZ.ro 3 rfl))).imp fun w2 h2=>⟨SlP.Zx _ _ _ w2,SlP.Zx _ _ _ w2,h2.1,h2.2⟩
               have HR:=hid (hR.less zm)
               have HT:=hid (And.intro (KZ.tp_ 13 rfl) KZ.grow)
               have HGD:=hid (show AcGd 5 ⟨2,o,SlP.nil,SlP.nil,⟨some ⟨wc.heap.size,0,none⟩,1,1,[⟨⟨#[110]⟩,y⟩]⟩,⟨some ⟨wc.heap.size+1,0,none⟩,1,1,[z2]⟩,⟨#[]⟩⟩ from ⟨⟨by simp,by simp⟩,LsOk.nil _ _,LsOk.nil _ _,Y8 (by omega) (HYO.out.le (by omega)),Y8 (by omega) HZ2.out⟩)
               clear K2 K7 KZ hR
               go_wp2_with fail
               refine bodyPost_ret (v:=.agg #[.int .i64 2,.string o,.slice none 0 0,.slice none 0 0,.slice (some ⟨wc.heap.size,0,none⟩) 1 1,.slice (some ⟨wc.heap.size+1,0,none⟩) 1 1,.string ⟨#[]⟩]) ?_ rfl ?_
               ·clear HT HR HGD
                simp [results,Tryz.results100,go_sem,F7]
               ·exact ⟨⟨2,o,SlP.nil,SlP.nil,⟨some ⟨wc.heap.size,0,none⟩,1,1,[⟨⟨#[110]⟩,y⟩]⟩,⟨some ⟨wc.heap.size+1,0,none⟩,1,1,[z2]⟩,⟨#[]⟩⟩,rfl,HGD.out,HR.out,HT.out.1,HT.out.2⟩
         ·by_cases e4:r=4
          ·subst e4
           obtain ⟨KM,hKM,K6⟩:=K1.name
           have H1:∀ wv:World,Hold M (some T) w wv KM→Blk wv gn 126 #[.int .i64 y.kind,.int .i64 y.op,.bool y.nt,.int .i64 y.v.k,.int .i64 y.v.i,.string y.v.s,.string y.tab,.string y.nm,.slice y.A y.n y.c,.slice y.B y.m y.d]:=fun wv h=>by rw [hKM] at h;exact h.ZF 0 rfl
           have H3:∀ wv:World,Hold M (some T) w wv KM→Ro wv (Mut M KM) (ExIn 1 y):=fun wv h=>by rw [hKM] at h ⊢;exact h.ro 1 rfl
           have h4:KM[9]? =some (.tp T):=by rw [hKM];rfl
           have HH1:=hid H1
           have HH3:=hid H3
           have HH4:=hid h4
           have HKM:=hid hKM
           clear hKM H1 H3 h4 K1
           go_wp2_with fail
           clear F1
           refine wp_region_any (by as_aux_lemma=>kernel_rfl) ?_
           refine Zp 5 187 (KM) (spL [(178,WW),(179,Zh (Mut M KM) 1),(181,Zh (Mut M KM) 2)]) (by as_aux_lemma=>kernel_rfl) (by as_aux_lemma=>kernel_rfl) (by as_aux_lemma=>kernel_rfl) rfl ?_ (K6.drew) ?_
           ·exact Ze Gd (Ze Yj (Ze Yj (Zo _)))
           simp only [zd,Act.put,List.getElem_toArray,List.getElem_cons_zero,List.getElem_cons_succ,zl]
           refine' dv rfl rfl rfl (fun wv HC=>?_) ?_;rotate_left
           · go_simp<;>rfl
           simp only [Act.put,zl]
           refine Zm 178 WW (f:=96) (args:=#[.pointer (some ⟨T,0,none⟩)]) rfl rfl rfl rfl (fun wv=>?_) (fun wv HC hrm hD=>?_) ?_
           ·go_simp<;>rfl
           ·refine (Js (Mut M KM) T wv HC.Zb (HC.tp_ 9 HH4.out) (HC.get 9 HH4.out).2).mono ?_
            rintro e w5 ⟨s,rfl,hs,t5,g5⟩
            exact ⟨_,rfl,⟨s,rfl⟩,Hold.Zf HC 9 HH4.out g5 t5,RM.grown g5 (.inr ⟨_,List.mem_of_getElem? HH4.out,rfl⟩)⟩
           rintro u wx HCx ⟨tab,rfl⟩
           clear HCx
           simp only [Act.put,zl]
           refine Zm 179 (Zh (Mut M KM) 1) (f:=133) (args:=#[.string ⟨#[]⟩,.string ⟨#[110]⟩]) rfl rfl rfl rfl (fun wv=>?_) (fun wv HC hrm hD=>?_) ?_
           ·go_simp<;>rfl
           ·refine (XX wv ⟨#[]⟩ ⟨#[110]⟩).mono ?_
            rintro e w5 ⟨rfl,b5⟩
            exact ⟨_,rfl,⟨_,rfl,Xu _ _,fun w2 _ _=>XA _ _ w2⟩,HC.call b5,RM.below b5⟩
           rintro u wx HCx ⟨c1,rfl,hx,rx⟩
           clear HCx hx rx
           simp only [Act.put,zl]
           refine' dv rfl rfl rfl (fun wv HC=>?_) ?_;rotate_left
           ·obtain q0:=(HH1.out _ HC).cell 0;obtain q1:=(HH1.out _ HC).cell 1;obtain q2:=(HH1.out _ HC).cell 2;obtain q3:=(HH1.out _ HC).cell 3;obtain q4:=(HH1.out _ HC).cell 4;obtain q5:=(HH1.out _ HC).cell 5;obtain q6:=(HH1.out _ HC).cell 6;obtain q7:=(HH1.out _ HC).cell 7;obtain q8:=(HH1.out _ HC).cell 8;obtain q9:=(HH1.out _ HC).cell 9;go_simp<;>rfl
           simp only [Act.put,zl]
           refine Zm 181 (Zh (Mut M KM) 2) (f:=132) (args:=#[.int .i64 5,c1.val,.agg #[.int .i64 y.kind,.int .i64 y.op,.bool y.nt,.int .i64 y.v.k,.int .i64 y.v.i,.string y.v.s,.string y.tab,.string y.nm,.slice y.A y.n y.c,.slice y.B y.m y.d]]) rfl rfl rfl rfl (fun wv=>?_) (fun wv HC hrm hD=>?_) ?_
           ·go_simp<;>rfl
           ·have h1:Zh (Mut M KM) 1 c1.val wv:=ZM hD 2 rfl (by as_aux_lemma=>kernel_rfl) rfl rfl
            obtain ⟨y1,hy1,ok1,ro1⟩:=h1
            rw [hy1]
            refine (XJ (Mut M KM) wv HC.Zb 5 y1 y 1 ro1 (HH3.out _ HC)).mono ?_
            rintro e w5 ⟨g5,rfl,ry,b5⟩
            exact ⟨_,rfl,⟨_,rfl,YU (Zw 5 (by decide)) (Zw 5 (by decide)) (by omega) (fun a ha=>by
            simp only [List.mem_cons,List.not_mem_nil,or_false] at ha
            rcases ha with rfl|rfl
            ·exact ok1
            ·exact HYO.out),ry⟩,HC.call b5,RM.below b5⟩
           rintro u wx HCx ⟨c2,rfl,hx,rx⟩
           clear HCx hx rx
           simp only [Act.put,zl]
           refine Zj ?_
           rintro wx3 HX
           rintro _hrm HGW
           have hu:Zh (Mut M KM) 2 c2.val wx3:=(Zl (d:=181) rfl).1 (HGW 4 _ rfl (by omega))
           clear HGW _hrm
           obtain ⟨z,hz,hok,hro⟩:=hu
           rw [HKM.out] at HX hro
           rw [hz]
           rw [show z.val=.agg #[.int .i64 z.kind,.int .i64 z.op,.bool z.nt,.int .i64 z.v.k,.int .i64 z.v.i,.string z.v.s,.string z.tab,.string z.nm,.slice z.A z.n z.c,.slice z.B z.m z.d] from rfl]
           clear hz HH1 HH3 HH4 HKM K6 c2
           have HOK:=hid hok
           have K2:=(HX.add hro).Za #[.int .i64 z.kind,.int .i64 z.op,.bool z.nt,.int .i64 z.v.k,.int .i64 z.v.i,.string z.v.s,.string z.tab,.string z.nm,.slice z.A z.n z.c,.slice z.B z.m z.d] 126
           have F2:=K2.facts
           simp only [zg] at F2
           clear HX hro hok
           have K7:=(((((((K2.store 4 rfl 0 (.int .i64 3)).store 4 rfl 1 (.string tab)).store 4 rfl 2 (.slice none 0 0)).store 4 rfl 3 (.slice none 0 0)).store 4 rfl 4 (.slice none 0 0)).store 4 rfl 5 (.slice (some ⟨wx3.heap.size,0,none⟩) 1 1)).store 4 rfl 6 (.string ⟨#[]⟩))
           simp only [zl] at K7
           have F7:=K7.facts
           simp only [zg] at F7
           have KZ:=K7
           have hR:Ro _ _ (AcIn 5 ⟨3,tab,SlP.nil,SlP.nil,SlP.nil,⟨some ⟨wx3.heap.size,0,none⟩,1,1,[z]⟩,⟨#[]⟩⟩):=(XF (KZ.get 0 rfl) rfl (KZ.ro 1 rfl)).imp fun w2 h2=>⟨SlP.Zx _ _ _ w2,SlP.Zx _ _ _ w2,SlP.Zx _ _ _ w2,h2.1,fun x hx=>(h2.2 x hx).le (by omega)⟩
           have HR:=hid (hR.less zm)
           have HT:=hid (And.intro (KZ.tp_ 11 rfl) KZ.grow)
           have HGD:=hid (show AcGd 5 ⟨3,tab,SlP.nil,SlP.nil,SlP.nil,⟨some ⟨wx3.heap.size,0,none⟩,1,1,[z]⟩,⟨#[]⟩⟩ from ⟨⟨by simp,by simp⟩,LsOk.nil _ _,LsOk.nil _ _,LsOk.nil _ _,Y8 (by omega) (HOK.out.le (by omega))⟩)
           clear K2 K7 KZ hR
           go_wp2_with fail
           refine bodyPost_ret (v:=.agg #[.int .i64 3,.string tab,.slice none 0 0,.slice none 0 0,.slice none 0 0,.slice (some ⟨wx3.heap.size,0,none⟩) 1 1,.string ⟨#[]⟩]) ?_ rfl ?_
           ·clear HT HR HGD
            simp [results,Tryz.results100,go_sem,F7]
           ·exact ⟨⟨3,tab,SlP.nil,SlP.nil,SlP.nil,⟨some ⟨wx3.heap.size,0,none⟩,1,1,[z]⟩,⟨#[]⟩⟩,rfl,HGD.out,HR.out,HT.out.1,HT.out.2⟩
          ·have b0:(r==0)=false:=by simpa using e0
           have b1:(r==1)=false:=by simpa using e1
           have b2:(r==2)=false:=by simpa using e2
           have b3:(r==3)=false:=by simpa using e3
           have b4:(r==4)=false:=by simpa using e4
           go_wp2_with fail
           refine (Za4 (WJ 1) (Mut M _) T _ K1.Zb (K1.tp_ 9 rfl) (K1.get 9 rfl).2 ⟨⟨fA,fn,fc,fl⟩,⟨sA,sn,sc,sl⟩⟩ 1 ((K1.ro 7 rfl).less (Zk (i:=9) rfl)) ((K1.ro 8 rfl).less (Zk (i:=9) rfl)) hT (HBN.out 2 (by omega)) (by omega) (by omega) HS.out).mono ?_
           rintro e w9 ⟨a,rfl,ha,ra,t9,g9⟩
           have K2:=(Hold.Zf K1 9 rfl g9 t9).add ra
           clear K1 F1 t9 g9 ra
           have F2:=K2.facts
           simp only [zg] at F2
           rw [show a.val=.agg #[.int .i64 a.kind,.string a.tab,.slice a.rows.A a.rows.n a.rows.c,.slice a.qs.A a.qs.n a.qs.c,.slice a.sets.A a.sets.n a.sets.c,.slice a.wh.A a.wh.n a.wh.c,.string a.text] from rfl]
           have HA:=hid ha
           clear ha
           have K7:=(((((((K2.store 3 rfl 0 (.int .i64 a.kind)).store 3 rfl 1 (.string (a.tab))).store 3 rfl 2 (.slice a.rows.A a.rows.n a.rows.c)).store 3 rfl 3 (.slice a.qs.A a.qs.n a.qs.c)).store 3 rfl 4 (.slice a.sets.A a.sets.n a.sets.c)).store 3 rfl 5 (.slice a.wh.A a.wh.n a.wh.c)).store 3 rfl 6 (.string (a.text)))
           simp only [zl] at K7
           have F7:=K7.facts
           simp only [zg] at F7
           have KZ:=K7
           have hR:Ro _ _ (AcIn 5 a):=(KZ.ro 0 rfl).imp fun w2 h2=>h2.le (by omega)
           have HR:=hid (hR.less zm)
           have HT:=hid (And.intro (KZ.tp_ 10 rfl) KZ.grow)
           have HGD:=hid (show AcGd 5 a from HA.out.le (by omega))
           clear K2 K7 KZ hR
           go_wp2_with fail
           refine bodyPost_ret (v:=.agg #[.int .i64 a.kind,.string (a.tab),.slice a.rows.A a.rows.n a.rows.c,.slice a.qs.A a.qs.n a.qs.c,.slice a.sets.A a.sets.n a.sets.c,.slice a.wh.A a.wh.n a.wh.c,.string (a.text)]) ?_ rfl ?_
           ·clear HT HR HGD
            simp [results,Tryz.results100,go_sem,F7]
           ·exact ⟨a,rfl,HGD.out,HR.out,HT.out.1,HT.out.2⟩
   ·obtain ⟨KM,hKM,K6⟩:=K1.name
    obtain ⟨Ha,hHa⟩:∃ m,m=wc.heap.size:=⟨_,rfl⟩
    have HHa:=hid hHa
    clear hHa
    have H1:∀ wv:World,Hold M (some T) w wv KM→Blk wv gs 49 #[.string snm,.slice (some ⟨bC,oC,none⟩) cn cc]:=fun wv h=>by rw [hKM] at h;exact h.ZB 2 rfl
    have H2:∀ wv:World,Hold M (some T) w wv KM→SlR 4 (some ⟨bC,oC,none⟩) cn (Zd cl) wv:=fun wv h=>by rw [hKM] at h;exact (h.ro 4 rfl).now
    have h4:KM[7]? =some (.tp T):=by rw [hKM];rfl
    have HH1:=hid H1
    have HH2:=hid H2
    have HH4:=hid h4
    have HKM:=hid hKM
    clear hKM H1 H2 h4 K1
    go_wp2_with fail
    clear F1
    refine wp_region_any (by as_aux_lemma=>kernel_rfl) ?_
    refine Zp 10 187 (KM) (spL [(44,fun u _=>Yt cn u),(9,Z6 (Mut M KM) Ha 158 #[.string ⟨#[]⟩,.int .i64 0,.bool false,.bool false])]) (by as_aux_lemma=>kernel_rfl) (by as_aux_lemma=>kernel_rfl) (by as_aux_lemma=>kernel_rfl) rfl ?_ (K6.drew) ?_
    ·exact Ze (fun _ _ _ _ h=>h) (Ze XY (Zo _))
    simp only [zd,Act.put,List.getElem_toArray,List.getElem_cons_zero,List.getElem_cons_succ,zl]
    refine' dv rfl rfl rfl (fun wv HC=>?_) ?_;rotate_left
    · go_simp<;>rfl
    simp only [Act.put,zl]
    refine' dv rfl rfl rfl (fun wv HC=>?_) ?_;rotate_left
    ·obtain q1:=(HH1.out _ HC).cell 1;go_simp<;>rfl
    iterate 2
     simp only [Act.put,zl]
     refine' dv rfl rfl rfl (fun wv HC=>?_) ?_;rotate_left
     · go_simp<;>rfl
    simp only [Act.put,zl]
    refine' dv rfl rfl rfl (fun wv HC=>?_) ?_;rotate_left
    ·obtain q1:=(HH1.out _ HC).cell 1;go_simp<;>rfl
    simp only [Act.put,zl]
    refine' dv rfl rfl rfl (fun wv HC=>?_) ?_;rotate_left
    · go_simp<;>rfl
    simp only [Act.put,zl]
    refine Yz cn 7 HH4.out 44 rfl rfl rfl rfl (fun wv=>?_) (fun r hr=>?_)
    ·go_simp<;>rfl
    have r6:(r:Int)<cn:=by omega
    have r0:(0:Int)≤(r:Int):=by omega
    obtain ⟨⟨ynm,yty,ynn,ykey⟩,hy⟩:=YA HLN.out hr
    have HY:=hid hy
    clear hy
    simp only [Act.put,zl]
    refine' dv rfl rfl rfl (fun wv HC=>?_) ?_;rotate_left
    · go_simp<;>rfl
    simp only [Act.put,zl]
    refine' dv rfl rfl rfl (fun wv HC=>?_) ?_;rotate_left
    ·obtain ⟨b2',o2',hcA,hb2,x0,x1,x2,x3⟩:=(RdC.Zy (HH2.out _ HC)).at_ HY.out;obtain ⟨rfl,rfl⟩:=addr_eq hcA;clear hcA;go_simp<;>rfl
    simp only [Act.put,zl]
    refine Ye #[.string ⟨#[]⟩,.int .i64 0,.bool false,.bool false] 158 9 (Z6 (Mut M KM) Ha 158 #[.string ⟨#[]⟩,.int .i64 0,.bool false,.bool false]) (fun g=>.pointer (some ⟨g,0,none⟩)) rfl rfl rfl rfl (fun wv=>?_) (fun wv HC hrm hD hro=>?_) ?_
    ·go_simp<;>rfl
    ·exact ⟨_,rfl,by have:=hrm.1;rw [HHa.out];exact this,hro _ HC.Zb⟩
    rintro gk wg HCg hsl
    clear HCg hsl
    simp only [Act.put,zl]
    refine Zj ?_
    rintro wx2 HX
    rintro _hrm HGW
    have hu:Z6 (Mut M KM) Ha 158 #[.string ⟨#[]⟩,.int .i64 0,.bool false,.bool false] (.pointer (some ⟨gk,0,none⟩)) wx2:=(Zl (d:=9) rfl).1 (HGW 9 _ rfl (by omega))
    clear HGW
    obtain ⟨gk',e',hg1,hg2⟩:=hu
    obtain rfl:gk=gk' :=by injection e' with e';injection e' with e';injection e'
    clear e'
    rw [HHa.out] at hg1
    have HB:=Hold.We K6.drew HX _hrm hg1 hg2.now
    rw [HKM.out] at HB
    clear HX _hrm hg2 hg1 K6 HH1 HH2 HKM HHa
    have FB:=HB.facts
    simp only [zg] at FB
    have K1:=(((HB.store 0 rfl 0 (.string ynm)).store 0 rfl 1 (.int .i64 yty)).store 0 rfl 2 (.bool ynn)).store 0 rfl 3 (.bool ykey)
    simp only [zl] at K1
    have F1:=K1.facts
    simp only [zg] at F1
    clear HB
    go_upto_region 5 with fail
    clear FB
    generalize World.setCell _ _ _=wb at K1 F1 ⊢
    obtain ⟨KM,hKM,K6⟩:=K1.name
    have H1:∀ wv:World,Hold M (some T) w wv KM→Blk wv gk 158 #[.string ynm,.int .i64 yty,.bool ynn,.bool ykey]:=fun wv h=>by rw [hKM] at h;exact h.ZF 0 rfl
    have H2:∀ wv:World,Hold M (some T) w wv KM→Blk wv gp 177 #[.slice fA fn fc,.slice sA sn sc]:=fun wv h=>by rw [hKM] at h;exact h.ZB 2 rfl
    have H3:∀ wv:World,Hold M (some T) w wv KM→Ro wv (Mut M KM) (Zg ⟨⟨fA,fn,fc,fl⟩,⟨sA,sn,sc,sl⟩⟩)∧Ro wv (Mut M KM) Wds∧Tp wv T∧∀ b,(Mut M KM) b→T≤b:=fun wv h=>by rw [hKM] at h ⊢;exact ⟨h.ro 6 rfl,h.ro 7 rfl,h.tp_ 8 rfl,(h.get 8 rfl).2⟩
    have h4:KM[8]? =some (.tp T):=by rw [hKM];rfl
    have HH1:=hid H1
    have HH2:=hid H2
    have HH3:=hid H3
    have HH4:=hid h4
    have HKM:=hid hKM
    clear hKM H1 H2 H3 h4 K1
    go_wp2_with fail
    clear F1
    refine wp_region_any (by as_aux_lemma=>kernel_rfl) ?_
    refine Zp 7 187 (KM) (spL [(53,Zh (Mut M KM) 3)]) (by as_aux_lemma=>kernel_rfl) (by as_aux_lemma=>kernel_rfl) (by as_aux_lemma=>kernel_rfl) rfl ?_ (K6.drew) ?_
    ·exact Ze Yj (Zo _)
    simp only [zd,Act.put,List.getElem_toArray,List.getElem_cons_zero,List.getElem_cons_succ,zl]
    refine' dv rfl rfl rfl (fun wv HC=>?_) ?_;rotate_left
    · go_simp<;>rfl
    simp only [Act.put,zl]
    refine' dv rfl rfl rfl (fun wv HC=>?_) ?_;rotate_left
    ·obtain q0:=(HH1.out _ HC).cell 0;go_simp<;>rfl
    simp only [Act.put,zl]
    refine' dv rfl rfl rfl (fun wv HC=>?_) ?_;rotate_left
    · go_simp<;>rfl
    simp only [Act.put,zl]
    refine' dv rfl rfl rfl (fun wv HC=>?_) ?_;rotate_left
    ·obtain q0:=(HH2.out _ HC).cell 0;obtain q1:=(HH2.out _ HC).cell 1;go_simp<;>rfl
    simp only [Act.put,zl]
    refine' dv rfl rfl rfl (fun wv HC=>?_) ?_;rotate_left
    · go_simp<;>rfl
    simp only [Act.put,zl]
    refine' dv rfl rfl rfl (fun wv HC=>?_) ?_;rotate_left
    ·obtain q1:=(HH1.out _ HC).cell 1;go_simp<;>rfl
    simp only [Act.put,zl]
    refine Zm 53 (Zh (Mut M KM) 3) (f:=99) (args:=#[.pointer (some ⟨T,0,none⟩),.agg #[.slice fA fn fc,.slice sA sn sc],.int .i64 yty,.int .i64 1]) rfl rfl rfl rfl (fun wv=>?_) (fun wv HC hrm hD=>?_) ?_
    ·go_simp<;>rfl
    ·obtain ⟨X0,X1,X2,X3⟩:=HH3.out _ HC
     refine (WJ 1 (Mut M KM) T wv HC.Zb X2 X3 ⟨⟨fA,fn,fc,fl⟩,⟨sA,sn,sc,sl⟩⟩ yty 1 (X0.less (Zk HH4.out)) (X1.less (Zk HH4.out)) hT (HBN.out 1 (by omega)) (by omega) (by omega)).mono ?_
     rintro e w5 ⟨x,rfl,hx,rx,t5,g5⟩
     exact ⟨_,rfl,⟨x,rfl,hx,rx⟩,Hold.Zf HC 8 HH4.out g5 t5,RM.grown g5 (.inr ⟨_,List.mem_of_getElem? HH4.out,rfl⟩)⟩
    rintro u wx HCx ⟨x,rfl,hx,rx⟩
    clear HCx hx rx
    simp only [Act.put,zl]
    refine Zj ?_
    rintro wx3 HX
    rintro _hrm HGW
    have hu:Zh (Mut M KM) 3 x.val wx3:=(Zl (d:=53) rfl).1 (HGW 6 _ rfl (by omega))
    clear HGW _hrm
    obtain ⟨y,hy,hok,hro⟩:=hu
    rw [HKM.out] at HX hro
    rw [hy]
    rw [show y.val=.agg #[.int .i64 y.kind,.int .i64 y.op,.bool y.nt,.int .i64 y.v.k,.int .i64 y.v.i,.string y.v.s,.string y.tab,.string y.nm,.slice y.A y.n y.c,.slice y.B y.m y.d] from rfl]
    clear hy HH1 HH2 HH3 HKM K6 x
    have HOK:=hid hok
    have K2:=(HX.add hro).Za #[.string ynm,.int .i64 y.kind,.int .i64 y.op,.bool y.nt,.int .i64 y.v.k,.int .i64 y.v.i,.string y.v.s,.string y.tab,.string y.nm,.slice y.A y.n y.c,.slice y.B y.m y.d] 128
    have F2:=K2.facts
    simp only [zg] at F2
    clear HX hro hok
    have K7:=(((((((K2.store 3 rfl 0 (.int .i64 5)).store 3 rfl 1 (.string ⟨#[]⟩)).store 3 rfl 2 (.slice none 0 0)).store 3 rfl 3 (.slice none 0 0)).store 3 rfl 4 (.slice (some ⟨wx3.heap.size,0,none⟩) 1 1)).store 3 rfl 5 (.slice none 0 0)).store 3 rfl 6 (.string ⟨#[]⟩))
    simp only [zl] at K7
    have F7:=K7.facts
    simp only [zg] at F7
    have KZ:=K7
    have hR:Ro _ _ (AcIn 5 ⟨5,⟨#[]⟩,SlP.nil,SlP.nil,⟨some ⟨wx3.heap.size,0,none⟩,1,1,[⟨ynm,y⟩]⟩,SlP.nil,⟨#[]⟩⟩):=((Uq (d:=5) (s:=⟨ynm,y⟩) (KZ.get 0 rfl) rfl ((KZ.ro 1 rfl).imp fun w2 h2=>h2.le (by omega)))).imp fun w2 h2=>⟨SlP.Zx _ _ _ w2,SlP.Zx _ _ _ w2,h2,SlP.Zx _ _ _ w2⟩
    have HR:=hid (hR.less zm)
    have HT:=hid (And.intro (KZ.tp_ 10 rfl) KZ.grow)
    have HGD:=hid (show AcGd 5 ⟨5,⟨#[]⟩,SlP.nil,SlP.nil,⟨some ⟨wx3.heap.size,0,none⟩,1,1,[⟨ynm,y⟩]⟩,SlP.nil,⟨#[]⟩⟩ from ⟨⟨by simp,by simp⟩,LsOk.nil _ _,LsOk.nil _ _,Y8 (by omega) (HOK.out.le (by omega)),LsOk.nil _ _⟩)
    clear K2 K7 KZ hR
    go_wp2_with fail
    refine bodyPost_ret (v:=.agg #[.int .i64 5,.string ⟨#[]⟩,.slice none 0 0,.slice none 0 0,.slice (some ⟨wx3.heap.size,0,none⟩) 1 1,.slice none 0 0,.string ⟨#[]⟩]) ?_ rfl ?_
    ·clear HT HR HGD
     simp [results,Tryz.results100,go_sem,F7]
    ·exact ⟨⟨5,⟨#[]⟩,SlP.nil,SlP.nil,⟨some ⟨wx3.heap.size,0,none⟩,1,1,[⟨ynm,y⟩]⟩,SlP.nil,⟨#[]⟩⟩,rfl,HGD.out,HR.out,HT.out.1,HT.out.2⟩
  ·go_wp2_with fail
   refine (zx T _ (K1.tp_ 7 rfl) (K1.ro 6 rfl).now hT).mono ?_
   rintro e w2 ⟨s,rfl,hpl,hs4,t2,g2⟩
   have K2:=Hold.Zf K1 7 rfl g2 t2
   clear K1 F1 t2 g2
   have F2:=K2.facts
   simp only [zg] at F2
   have K7:=(((((((K2.store 0 rfl 0 (.int .i64 4)).store 0 rfl 1 (.string ⟨#[]⟩)).store 0 rfl 2 (.slice none 0 0)).store 0 rfl 3 (.slice none 0 0)).store 0 rfl 4 (.slice none 0 0)).store 0 rfl 5 (.slice none 0 0)).store 0 rfl 6 (.string s))
   simp only [zl] at K7
   have F7:=K7.facts
   simp only [zg] at F7
   have KZ:=K7
   have hR:Ro _ _ (AcIn 5 ⟨4,⟨#[]⟩,SlP.nil,SlP.nil,SlP.nil,SlP.nil,s⟩):=(KZ.ro 4 rfl).imp fun w2 _=>⟨SlP.Zx _ _ _ w2,SlP.Zx _ _ _ w2,SlP.Zx _ _ _ w2,SlP.Zx _ _ _ w2⟩
   have HR:=hid (hR.less zm)
   have HT:=hid (And.intro (KZ.tp_ 7 rfl) KZ.grow)
   have HGD:=hid (show AcGd 5 ⟨4,⟨#[]⟩,SlP.nil,SlP.nil,SlP.nil,SlP.nil,s⟩ from ⟨⟨by simp,by simp⟩,LsOk.nil _ _,LsOk.nil _ _,LsOk.nil _ _,LsOk.nil _ _⟩)
   clear K2 K7 KZ hR
   go_wp2_with fail
   refine bodyPost_ret (v:=.agg #[.int .i64 4,.string ⟨#[]⟩,.slice none 0 0,.slice none 0 0,.slice none 0 0,.slice none 0 0,.string s]) ?_ rfl ?_
   ·clear HT HR HGD
    simp [results,Tryz.results100,go_sem,F7]
   ·exact ⟨⟨4,⟨#[]⟩,SlP.nil,SlP.nil,SlP.nil,SlP.nil,s⟩,rfl,HGD.out,HR.out,HT.out.1,HT.out.2⟩
def Zel (r:Rk):Prop:=Zfi r∧r.tab.size≤maxLen∧r.col.size≤maxLen
structure TgGd (d:Nat) (t:Tg):Prop where
 e:1≤t.event∧t.event≤3
 o:LsOk 8 t.cols (fun _=>True)
 p:LsOk 8 t.prec (fun _=>True)
 f:LsOk 8 t.foll (fun _=>True)
 r:LsOk 1 t.rank Zel
 h:LsOk 1 t.cond (ExGd d)
 a:LsOk 4 t.acts (AcGd d)
end Go.Proofs.YtnbbllkbefagmaaGreatDoor
namespace Go.Proofs.YtnbbllkbefagmaaGreatDoor
open Go Go.RowKit
set_option linter.unusedVariables false
set_option linter.unusedSectionVars false
set_option linter.unusedSimpArgs false
section
variable {P:Program} {ops:Array Oper} {C:World→Prop} {G:Option Tmp→Value→World→Prop} {R:World→World→Prop} {n N:Nat} {F:Act→Prop}
def Qn (o:Oper):Bool:=match o.op with
 | .move _=>true
 | .extract _ _=>true
 | _=>false
theorem Zgp {o:Oper} (h:Qn o=true) {a:Act} {w:World} {C:World→Prop} {G:Option Tmp→Value→World→Prop} {R:World→World→Prop} (hg:WP P C G R o.dst w ((execOp a.eval o).run P w)):
  ∃ v,(∀ w',(execOp a.eval o).run P w' =.ok (.value v) w')∧G o.dst v w∧C w∧R w w:=by
 unfold Qn at h
 split at h
 ·rename_i x hx
  have e:∀ w',(execOp a.eval o).run P w' =.ok (.value (a.eval x)) w' :=fun w' =>by
   unfold execOp;simp only [hx,Sem.run_pure]
  rw [e w] at hg
  exact ⟨_,e,hg⟩
 ·rename_i t ix hx
  have e:∀ w',(execOp a.eval o).run P w' =((Instr.extract (a.eval t) ix).run P w').andThen fun u=>(pure (.value u):Sem Next).run P:=fun w' =>by
   unfold execOp;simp only [hx,Sem.run_bind]
  by_cases hv:∃ vs v,a.eval t=.tuple vs∧vs[ix]? =some v
  ·obtain ⟨vs,v,h1,h2⟩:=hv
   have e2:∀ w',(execOp a.eval o).run P w' =.ok (.value v) w' :=fun w' =>by
    rw [e w',h1];unfold Instr.extract;simp only [h2,Sem.run_pure,Result.andThen_ok]
   rw [e2 w] at hg
   exact ⟨_,e2,hg⟩
  ·exfalso
   have hh:∃ x w2,(Instr.extract (a.eval t) ix).run P w=.halt x w2:=by
    unfold Instr.extract
    split
    ·rename_i vs hvs
     split
     ·rename_i v hvv;exact absurd ⟨vs,v,hvs,hvv⟩ hv
     ·exact ⟨_,_,rfl⟩
    ·exact ⟨_,_,rfl⟩
   obtain ⟨x,w2,hh⟩:=hh
   rw [e w,hh] at hg
   exact hg
 ·cases h
def GM (ops:Array Oper) (i:Nat):Array Bool:=((List.range ops.size).map fun j=>Region.waitsFor .any ops i j).toArray
def exB (ops:Array Oper) (E:List Nat) (n:Nat):Bool:=E.all fun i=>decide (i<n)&&(match ops[i]? with|some o=>Qn o|none=>false)&&Region.free .any ops (GM ops i) i
def Zbl (ops:Array Oper) (S0:Array Bool) (E:List Nat) (n:Nat):Bool:=(List.range n).all fun i=>E.contains i||S0.getD i false||(List.range (n+1)).any fun j=>decide (i<j)&&!E.contains j&&Region.waitsFor .any ops j i
theorem Zgm {i:Nat} {oi:Oper} (hi:ops[i]? =some oi) (h:Region.free .any ops (GM ops i) i=true) (S:Array Bool) (hS:S.size=ops.size) (hw:∀ e∈oi.after,Region.binds .any e=true→S.getD e.on false=true):Region.free .any ops S i=true:=by
 simp only [Region.free,hi,List.all_eq_true,List.mem_range] at h ⊢
 intro j hj
 have h1:=h j hj
 simp only [Bool.or_eq_true] at h1 ⊢
 rcases h1 with (h1|h1)|h1
 ·exact .inl (.inl h1)
 ·have h2:Region.waitsFor .any ops i j=true:=by simpa [GM,hj] using h1
  obtain ⟨o',ho',e,he,hb,hon⟩:=Region.waitsFor_spec h2
  obtain rfl:oi=o' :=Option.some.inj (hi.symm.trans ho')
  have h3:=hw e he hb
  rw [hon] at h3
  have hl:j<S.size:=by omega
  exact .inl (.inr (by simpa [hl] using h3))
 ·exact .inr h1
theorem Zg7 {S0 listed:Array Bool} {E:List Nat} (hs:Zbl ops S0 E n=true) (hc:Qx ops n=true) (hn:n<ops.size) (inv:HeadInv .any ops n listed) (h0:∀ j,S0.getD j false=true→listed.getD j false=true):
  ∀ (d i:Nat),n - i=d→i<n→E.contains i=false→listed.getD i true=false→∀ t,n≤t→t ∉ Region.ready .any ops listed:=by
 intro d
 induction d using Nat.strongRecOn with
 | _ d ih=>
  intro i hd hi hE hun t ht hr
  obtain ⟨_,ot,hot,hall⟩:=mem_ready.1 hr
  have htlt:t<ops.size:=(Array.getElem?_eq_some_iff.1 hot).1
  by_cases htn:t=n
  ·subst htn
   have h1:=List.all_eq_true.1 hs i (List.mem_range.2 hi)
   have hnot:S0.getD i false=false:=by
    cases hS:S0.getD i false with
    | false=>rfl
    | true=>have:=h0 i hS;rw [getD_both hun] at this;cases this
   rw [hE,hnot,Bool.false_or,Bool.false_or] at h1
   obtain ⟨j,hj,hj2⟩:=List.any_eq_true.1 h1
   simp only [Bool.and_eq_true,decide_eq_true_eq,Bool.not_eq_true'] at hj2
   obtain ⟨oj,hoj,e,he,hb,hon⟩:=Region.waitsFor_spec hj2.2
   have hjle:j≤t:=by have:=List.mem_range.1 hj;omega
   by_cases hjt:j=t
   ·subst hjt
    have:oj=ot:=Option.some.inj (hoj.symm.trans hot)
    subst this
    have h2:=hall e he hb
    rw [hon,getD_both hun] at h2
    cases h2
   ·cases hl:listed.getD j false with
    | true=>
     have h2:=inv.closed j oj hoj hl e he hb
     rw [hon,getD_both hun] at h2
     cases h2
    | false=>
     have hjs:j<listed.size:=by rw [inv.size];omega
     exact ih (t - j) (by omega) j rfl (by omega) hj2.1.2 (getD_in hjs hl) t (Nat.le_refl _) hr
  ·have h1:=List.all_eq_true.1 hc t (List.mem_range.2 htlt)
   simp only [Bool.or_eq_true,decide_eq_true_eq] at h1
   rcases h1 with h1|h1
   ·omega
   ·obtain ⟨j,hj,hj2⟩:=List.any_eq_true.1 h1
    simp only [Bool.and_eq_true,decide_eq_true_eq] at hj2
    obtain ⟨o',ho',e,he,hb,hon⟩:=Region.waitsFor_spec hj2.2
    have:o' =ot:=Option.some.inj (ho'.symm.trans hot)
    subst this
    have h2:=hall e he hb
    rw [hon,getD_both (inv.tail j hj2.1 (List.mem_range.1 hj))] at h2
    cases h2
theorem Zah (sh:Shape ops n N) (hmono:∀ d u w w',R w w' →G d u w→G d u w') (hR:∀ w,C w→R w w) (hu:∀ w,C w→G none undef w) {g:Nat} {Q:Exit→Act→World→Prop} (S0:Array Bool) (E:List Nat)
  (hE:∀ i,E.contains i=true→i<n∧∃ oi,ops[i]? =some oi∧Qn oi=true∧∀ S:Array Bool,S.size=ops.size→(∀ e∈oi.after,Region.binds .any e=true→S.getD e.on false=true)→Region.free .any ops S i=true) (hno:Region.noSelect ops=true) (hQ:∀ c d v a w,Q (.panic c) (a.put d v) w→Q (.panic c) a w)
  (htail:∀ S,HeadInv .any ops n S→(∀ j,S0.getD j false=true→S.getD j false=true)→(∃ i,i<n∧E.contains i=false∧S.getD i true=false)→∀ t,n≤t→t ∉ Region.ready .any ops S)
  (hend:∀ S a w,HeadInv .any ops n S→(∀ j,j<n→S.getD j false=true)→C w→(∀ j oj,ops[j]? =some oj→j<n→G oj.dst (slot a oj.dst) w)→F a→wpAny P .any ops Q g S a w):
  ∀ (f:Nat) (S:Array Bool) (a:Act) (w:World),HeadInv .any ops n S→(∀ j,S0.getD j false=true→S.getD j false=true)→unl n S=f→a.tmps.size=N→Inv ops C G S a w→Wk P ops C G R S F n 0 a→wpAny P .any ops Q (f+g) S a w
 | 0,S,a,w,hd,h0s,hf,hN,hI,h=>by
  have hall:=G7 hf (by rw [hd.size];exact sh.le)
  rw [Nat.zero_add]
  exact hend S a w hd hall hI.1 (fun j oj hj hjn=>hI.2 j oj hj (hall j hjn)) (Wk.done sh hmono n 0 a w (by omega) hall hI.1 (fun j oj hj hs=>hI.2 j oj hj (hs.resolve_right (by omega))) h)
 | f+1,S,a,w,hd,h0s,hf,hN,hI,h=>by
  obtain ⟨k0,hk0,hun0⟩:=ZbN hf
  obtain ⟨k,⟨hk,hun⟩,hmin⟩:=least (p:=fun j=>j<n∧S.getD j true=false) k0 ⟨hk0,hun0⟩
  have hrk:k∈Region.ready .any ops S:=by
   have hks:k<ops.size:=by have:=sh.le;omega
   refine mem_ready.2 ⟨hun,ops[k],Array.getElem?_eq_getElem hks,fun e he hb=>?_⟩
   have hlt:=sh.back k _ (Array.getElem?_eq_getElem hks) hk e he hb
   cases hS:S.getD e.on false with
   | true=>rfl
   | false=>exact absurd ⟨by omega,getD_in (by rw [hd.size];have:=sh.le;omega) hS⟩ (hmin e.on hlt)
  rw [show f+1+g=(f+g)+1 by omega]
  have hstep:∀ i,i<n→i∈Region.ready .any ops S→∃ oi,ops[i]? =some oi∧StepOk P ops C G R oi a∧Yl ops G oi a w∧∀ u w',May P ops C G oi a u→C w' →R w w' →G oi.dst u w' →wpAny P .any ops Q (f+g) (S.setIfInBounds i true) (a.put oi.dst u) w' :=fun i hin hi=>by
   obtain ⟨huni,oi,hoi,hall⟩:=mem_ready.1 hi
   have hunf:S.getD i false=false:=getD_both huni
   have hst:=Wk.ready sh hmono hR hu hoi hin hunf hall n 0 a w (by omega) (by omega) hN hI.1 (fun j oj hj hs=>hI.2 j oj hj (hs.resolve_right (by omega))) h
   have hD:Yl ops G oi a w:=fun e he hb oe hoe=>hI.2 e.on oe hoe (hall e he hb)
   refine ⟨oi,hoi,hst,hD,fun u w' hm hC' hR' hG' =>?_⟩
   refine Zah sh hmono hR hu S0 E hE hno hQ htail hend f _ _ w' (hd.set hi hin) (fun j hj=>getD_set_true (h0s j hj)) ?_ (by rw [size_put];exact hN) ⟨hC',fun j oj hj hs=>?_⟩ (Wk.front sh hmono hoi hin (by rw [hd.size]) hunf hall n 0 a (by omega) (by omega) hN hm h)
   ·have:=zo hin huni;omega
   ·by_cases hji:j=i
    ·subst hji
     obtain rfl:oi=oj:=Option.some.inj (hoi.symm.trans hj)
     exact J2 sh hmono hN hj hG' (fun _=>hu w' hC')
    ·rw [UB sh hmono (S:=S) hoi hj hji]
     rw [getD_set_ne false (Ne.symm hji)] at hs
     exact hmono _ _ _ _ hR' (hI.2 j oj hj hs)
  cases hkE:E.contains k with
  | true=>
   obtain ⟨_,ok,hok,hpl,hfr⟩:=hE k hkE
   obtain ⟨oi,hoi,hst,hD,hnext⟩:=hstep k hk hrk
   obtain ⟨_,o3,ho3,hall⟩:=mem_ready.1 hrk
   obtain rfl:oi=o3:=Option.some.inj (hoi.symm.trans ho3)
   obtain rfl:ok=oi:=Option.some.inj (hok.symm.trans hoi)
   by_cases hw:Region.wanted ok (yielded ops a.tmps)=true
   ·unfold StepOk at hst
    simp only [hw,if_true] at hst
    have hg:=hst w hI.1 hD
    unfold Good at hg
    obtain ⟨v,hv,hG,hC,hRR⟩:=Zgp hpl hg
    refine wpAny_take hok hno (hfr S hd.size hall) (by simpa using hrk) (fun c a w=>hQ c _ _ a w) (.inl ⟨hw,hv⟩) (hnext v w ?_ hC hRR hG)
    unfold May
    rw [if_pos hw]
    exact ⟨w,hI.1,hD,by rw [hv w];rfl⟩
   ·unfold StepOk at hst
    rw [if_neg hw] at hst
    refine wpAny_take hok hno (hfr S hd.size hall) (by simpa using hrk) (fun c a w=>hQ c _ _ a w) (.inr ⟨by simpa using hw,rfl⟩) (hnext undef w ?_ hI.1 (hR w hI.1) (hst w hI.1))
    unfold May
    rw [if_neg hw]
  | false=>
  refine ⟨fun h0=>(by rw [h0] at hrk;cases hrk),fun i hi=>?_⟩
  have hin:i<n:=by
   rcases Nat.lt_or_ge i n with h' |h'
   ·exact h'
   ·exact absurd hi (htail S hd h0s ⟨k,hk,hkE,hun⟩ i h')
  obtain ⟨oi,hoi,hst,hD,hnext⟩:=hstep i hin hi
  unfold wpOp
  simp only [hoi]
  split
  ·rename_i hw
   refine .inl (Zay hI.1 hD hw ?_ hnext)
   unfold StepOk at hst
   simp only [hw,if_true] at hst
   exact hst w hI.1 hD
  ·rename_i hw
   unfold StepOk at hst
   rw [if_neg hw] at hst
   exact hnext undef w (by unfold May;rw [if_neg hw]) hI.1 (hR w hI.1) (hst w hI.1)
def relE (ops:Array Oper) (S0:Array Bool) (E:List Nat) (n N:Nat):Bool:=
 Region.noSelect ops&&UW ops N&&decide (n≤ops.size)&&ZaS ops n&&Zb2 ops n&&(decide (n=ops.size)||(decide (n<ops.size)&&Zbl ops S0 E n&&Qx ops n))&&Qz ops S0 n&&exB ops E n&&Region.seqB .any ops (ops.size - n) n (Wv n ops.size)
theorem Zfs {S0:Array Bool} {E:List Nat} {n N:Nat} (h:relE ops S0 E n N=true):Shape ops n N:=by
 simp only [relE,Bool.and_eq_true,decide_eq_true_eq] at h
 obtain ⟨⟨⟨⟨⟨⟨⟨⟨hsel,hd⟩,hn⟩,hb⟩,ha⟩,_⟩,_⟩,_⟩,_⟩:=h
 refine ⟨hd,hn,fun k o hk hkn e he hbd=>?_,fun k i ok oi hki hin hk hi hno=>?_,Region.noSelect_spec hsel⟩
 ·have h1:=List.all_eq_true.1 hb k (List.mem_range.2 hkn)
  simp only [hk] at h1
  have h2:=Array.all_eq_true'.1 h1 e he
  simp only [hbd,Bool.not_true,Bool.false_or,decide_eq_true_eq] at h2
  exact h2
 ·have h1:=List.all_eq_true.1 (List.all_eq_true.1 ha i (List.mem_range.2 hin)) k (List.mem_range.2 hki)
  simp only [hk,hi,Bool.or_eq_true] at h1
  refine h1.resolve_left fun h2=>?_
  obtain ⟨e,he,hb2⟩:=Array.any_eq_true'.1 h2
  simp only [Bool.and_eq_true,beq_iff_eq] at hb2
  exact hno e he hb2.1 hb2.2
theorem Ze1 {Q:Exit→Act→World→Prop} {a:Act} {w:World} {l:List Oper} (S0:Array Bool) (E:List Nat) (n N:Nat) (C:World→Prop) (G:Option Tmp→Value→World→Prop) (R:World→World→Prop) {fuel:Nat}
  (hB:relE l.toArray S0 E n N=true) (hQ:∀ c d v a w,Q (.panic c) (a.put d v) w→Q (.panic c) a w) (hf:fuel=unl n S0+(l.length - n)) (hN:a.tmps.size=N) (hmono:∀ d u w w',R w w' →G d u w→G d u w') (hR:∀ w,C w→R w w) (hu:∀ w,C w→G none undef w) (hC:C w)
  (h0:∀ j oj,l[j]? =some oj→S0.getD j false=true→G oj.dst (slot a oj.dst) w)
  (h:Zz P l.toArray C G R S0 (fun a' =>∀ w',C w' →(∀ j oj,l[j]? =some oj→j<n→G oj.dst (slot a' oj.dst) w')→wpList P l.toArray Q (l.drop n) a' w') 0 (l.take n) a):wpAny P .any l.toArray Q fuel S0 a w:=by
 have sh:=Zfs hB
 have hB' :=hB
 simp only [relE,Bool.and_eq_true,Bool.or_eq_true,decide_eq_true_eq] at hB'
 obtain ⟨⟨⟨⟨⟨⟨⟨⟨hsel,hd⟩,hn⟩,hb⟩,ha⟩,hsc⟩,hcl⟩,hex⟩,hseq⟩:=hB'
 have hnl:n≤l.length:=by simpa using hn
 have htl:(l.take n).length=n:=by simp;omega
 have hw:=Qm sh (l.take n) 0 a (fun j hj=>by
  have hj' :j<n:=by rw [htl] at hj;exact hj
  simp [hj']) (by simpa using htl) hN h
 rw [htl] at hw
 have:=Zah (Q:=Q) (g:=l.length - n) sh hmono hR hu S0 E (fun i hi=>?_) hsel hQ (fun S hI h0s hex t ht hr=>?_) (fun S a' w' hI hall hC' hg hF=>?_) _ S0 a w
  (ZbT hcl) (fun _ h=>h) rfl hN ⟨hC,fun j oj hj hs=>h0 j oj (by simpa using hj) hs⟩ hw
 ·rw [hf];exact this
 ·have h1:=List.all_eq_true.1 hex i (List.contains_iff_mem.1 hi)
  simp only [Bool.and_eq_true,decide_eq_true_eq] at h1
  obtain ⟨⟨h1,h2⟩,h3⟩:=h1
  have hil:i<l.toArray.size:=by
   have:l.toArray.size=l.length:=by simp
   omega
  have hio:=Array.getElem?_eq_getElem hil
  rw [hio] at h2
  exact ⟨h1,_,hio,h2,fun S hS hw=>Zgm hio h3 S hS hw⟩
 ·obtain ⟨i,hi,hE,hun⟩:=hex
  rcases hsc with hsc|⟨⟨hlt,hs⟩,hc⟩
  ·have:=(mem_ready.1 hr).2
   obtain ⟨o,ho,_⟩:=this
   have:=(Array.getElem?_eq_some_iff.1 ho).1
   omega
  ·exact Zg7 hs hc hlt hI h0s _ i rfl hi hE hun t ht hr
 ·have hSeq:=zB hI.size hn hall hI.tail
  rw [show l.toArray.size=l.length from by simp] at hSeq
  rw [hSeq]
  have hdl:(l.drop n).length=l.length - n:=by simp
  have:=wpAny_of_seq (md:=.any) (Q' :=Q) (ops:=l.toArray) (l.drop n) n (Wv n l.length) a' w' (fun j=>by simp [List.getElem?_drop]) (by rw [hdl];simpa using hseq) (hF w' hC' fun j oj hj hjn=>hg j oj (by simpa using hj) hjn)
  rwa [hdl] at this
end
section
variable {P:Program} {M:Nat→Prop} {row:Option Nat} {w0 w1:World} {L:List Hp} {sp:SpW} {F:Act→Prop} {S0:Array Bool}
theorem Jb {Q:Exit→Act→World→Prop} {a:Act} {w:World} {l:List Oper} (E:List Nat) (n N:Nat) (L:List Hp) (sp:SpW) {fuel:Nat}
  (hB:relE l.toArray S0 E n N=true) (hQ:∀ c d v a w,Q (.panic c) (a.put d v) w→Q (.panic c) a w) (hO:JF l.toArray S0 sp=true) (hf:fuel=unl n S0+(l.length - n)) (hN:a.tmps.size=N) (hs:Us (Mut M L) sp) (hC:Hold M row w0 w L)
  (h:Zz P l.toArray (HC M row w0 w L) (GW sp) (RM (Mut M L)) S0 (fun a' =>∀ w',Hold M row w0 w' L→RM (Mut M L) w w' →(∀ j oj,l[j]? =some oj→j<n→GW sp oj.dst (slot a' oj.dst) w')→wpList P l.toArray Q (l.drop n) a' w') 0 (l.take n) a):wpAny P .any l.toArray Q fuel S0 a w:=by
 refine Ze1 S0 E n N (HC M row w0 w L) (GW sp) (RM (Mut M L)) hB hQ hf hN (fun d u w w' hr hg=>?_) (fun w _=>RM.refl _ w) (fun _ _=>trivial) ⟨hC,RM.refl _ _⟩ (fun j oj hj hs=>Zaq hO (by simpa using hj) hs) (U6 (fun a' hF w' hC' hg=>hF w' hC'.1 hC'.2 hg) _ _ _ h)
 unfold GW at hg ⊢
 cases hd:d.bind sp with
 | none=>trivial
 | some V=>
  rw [hd] at hg
  obtain ⟨t,rfl,ht⟩:=Option.bind_eq_some_iff.1 hd
  exact hs t V ht u w w' hr hg
end
end Go.Proofs.YtnbbllkbefagmaaGreatDoor
namespace Go.Proofs.YtnbbllkbefagmaaGreatDoor
open Go.RowKit
set_option linter.unusedVariables false
set_option linter.unusedSimpArgs false
def UV (M:Nat→Prop) (c:ByteArray) (u:Value) (w:World):Prop:=∃ z:Ex,u=.agg #[.string c,.int .i64 z.kind,.int .i64 z.op,.bool z.nt,.int .i64 z.v.k,.int .i64 z.v.i,.string z.v.s,.string z.tab,.string z.nm,.slice z.A z.n z.c,.slice z.B z.m z.d]∧ExGd 3 z∧Ro w M (ExIn 3 z)
theorem ZhW {M:Nat→Prop} {c:ByteArray} (u:Value) (w w' :World) (hr:RM M w w') (h:UV M c u w):UV M c u w' :=by
 obtain ⟨y,h1,h2,h3⟩:=h
 exact ⟨y,h1,h2,hr.ro h3⟩
def UE (M:Nat→Prop) (c:ByteArray) (u:Value) (w:World):Prop:=∃ (g:Nat) (z:Ex),u=.slice (some ⟨g,0,none⟩) 1 1∧ExGd 3 z∧Ro w M ((⟨some ⟨g,0,none⟩,1,1,[⟨c,z⟩]⟩:SlP Se).In 11 Se.cells (YC 3))
theorem ZhX {M:Nat→Prop} {c:ByteArray} (u:Value) (w w' :World) (hr:RM M w w') (h:UE M c u w):UE M c u w' :=by
 obtain ⟨g,y,h1,h2,h3⟩:=h
 exact ⟨g,y,h1,h2,hr.ro h3⟩
def UH (M:Nat→Prop) (u:Value) (w:World):Prop:=∃ (g:Nat) (z:Ex),u=.slice (some ⟨g,0,none⟩) 1 1∧ExGd 3 z∧Ro w M (Yd 3 ⟨some ⟨g,0,none⟩,1,1,[z]⟩)
theorem Zds {M:Nat→Prop} (u:Value) (w w' :World) (hr:RM M w w') (h:UH M u w):UH M u w' :=by
 obtain ⟨g,y,h1,h2,h3⟩:=h
 exact ⟨g,y,h1,h2,hr.ro h3⟩
set_option maxRecDepth 100000 in
set_option maxHeartbeats 16000000 in
theorem Zcj (M:Nat→Prop) (T gx gr:Nat) (cs0:Array Value) (w0 w:World) (t:Tg) (hgd:TgGd 5 t) (K:Hold M (some T) w0 w [.blk gx 40 #[.string t.name,.string t.tab,.bool t.before,.int .i64 t.event,t.cols.v,.bool t.each,t.prec.v,t.foll.v,t.rank.v,t.cond.v,t.acts.v],.ro (Yg 5 t),.blk gr 40 cs0,.tp T]):
  Calls Tryz.prog 101 #[.pointer (some ⟨T,0,none⟩),.pointer (some ⟨gx,0,none⟩)] w fun e w' =>∃ t' :Tg,e=.returned (.tuple #[])∧TgGd 5 t' ∧t'.name=t.name∧t'.tab=t.tab∧t'.prec=t.prec∧t'.foll=t.foll∧Hold M (some T) w0 w' [.blk gx 40 #[.string t'.name,.string t'.tab,.bool t'.before,.int .i64 t'.event,t'.cols.v,.bool t'.each,t'.prec.v,t'.foll.v,t'.rank.v,t'.cond.v,t'.acts.v],.ro (Yg 5 t'),.blk gr 40 cs0,.tp T]:=by
 obtain ⟨tn,tt,tb,te,⟨oA,on,oc,ol⟩,tch,⟨pA,pn,pc,pl⟩,⟨qA,qn,qc,ql⟩,⟨rA,rn,rc,rl⟩,⟨kA,kn,kc,kl⟩,⟨aA,an,ac,al⟩⟩:=t
 simp only [SlP.v] at *
 have F:=K.facts
 simp only [zg] at F
 go_enter Tryz.func101,Tryz.ntmps101
 cases tb
 ·go_wp2_with fail
  refine (Z8 T 3 _ (K.tp_ 3 rfl) (by omega) (by omega)).mono ?_
  rintro e w1 ⟨b,rfl,t1,g1⟩
  have K1:=Hold.Zf K 3 rfl g1 t1
  clear K F t1 g1
  have F1:=K1.facts
  simp only [zg] at F1
  cases b
  ·go_wp2_with fail
   refine bodyPost_ret (v:=.tuple #[]) ?_ rfl ?_
   ·simp [results,Tryz.results101,go_sem]
   ·exact ⟨⟨tn,tt,false,te,⟨oA,on,oc,ol⟩,tch,⟨pA,pn,pc,pl⟩,⟨qA,qn,qc,ql⟩,⟨rA,rn,rc,rl⟩,⟨kA,kn,kc,kl⟩,⟨aA,an,ac,al⟩⟩,rfl,hgd,rfl,rfl,rfl,rfl,K1⟩
  ·go_upto_region 1 with fail
   go_cut [4] (fun v wx=>∃ c:ByteArray,v=.string c∧Hid (c.size≤maxLen)∧Hold M (some T) w0 wx [.blk gx 40 #[.string tn,.string tt,.bool false,.int .i64 te,.slice oA on oc,.bool tch,.slice pA pn pc,.slice qA qn qc,.slice rA rn rc,.slice kA kn kc,.slice aA an ac],.ro (Yg 5 ⟨tn,tt,false,te,⟨oA,on,oc,ol⟩,tch,⟨pA,pn,pc,pl⟩,⟨qA,qn,qc,ql⟩,⟨rA,rn,rc,rl⟩,⟨kA,kn,kc,kl⟩,⟨aA,an,ac,al⟩⟩),.blk gr 40 cs0,.tp T])
   case first=>
    have K2:=K1.Za #[.string ⟨#[110]⟩,.string ⟨#[109]⟩] 9
    have F2:=K2.facts
    simp only [zg] at F2
    clear F1
    go_wp2_with fail
    refine (ZT T 2 _ (K2.tp_ 4 rfl) (by omega) (by omega)).mono ?_
    rintro e w9 ⟨r2,rfl,r20,r21,t9,g9⟩
    have K3:=Hold.Zf K2 4 rfl g9 t9
    clear K2 F2 t9 g9
    have F3:=K3.facts
    simp only [zg] at F3
    obtain rfl|rfl:r2=0∨r2=1:=by omega
    ·go_wp2_with fail
     go_meet
     exact ⟨_,rfl,hid (show 1≤maxLen by unfold maxLen;omega),K3.drop (List.sublist_cons_self _ _)⟩
    ·go_wp2_with fail
     go_meet
     exact ⟨_,rfl,hid (show 1≤maxLen by unfold maxLen;omega),K3.drop (List.sublist_cons_self _ _)⟩
   case rest=>
    obtain ⟨c,rfl,HCS,K2⟩:=hcut
    clear K1 F1
    go_wp2_with fail
    refine (UT T _ (K2.tp_ 3 rfl)).mono ?_
    rintro e w2 ⟨zz,rfl,zz0,zz1,t2,g2⟩
    have K3:=Hold.Zf K2 3 rfl g2 t2
    clear K2 t2 g2
    go_wp2_with fail
    refine (ZT T 12 _ (K3.tp_ 3 rfl) (by omega) (by omega)).mono ?_
    rintro e w3 ⟨h,rfl,h0,h1,t3,g3⟩
    have hwz:IntKind.i64.wrap (zz+h)=zz+h:=IntWalk.i64_in _ (by omega)
    have K4:=(Hold.Zf K3 3 rfl g3 t3).Za #[.string ⟨#[117]⟩,.string c,.int .i64 zz,.int .i64 (zz+h)] 85
    clear K3 t3 g3
    have F4:=K4.facts
    simp only [zg] at F4
    have K5:=K4.store 1 rfl 8 (.slice (some ⟨w3.heap.size,0,none⟩) 1 1)
    simp only [zl] at K5
    clear K4
    go_wp2_with fail
    obtain ⟨gk,hgk⟩:∃ g,g=w3.heap.size:=⟨_,rfl⟩
    rw [←hgk] at K5 ⊢
    have HGK:=hid hgk
    clear hgk F4
    refine (Z8 T 2 _ (K5.tp_ 4 rfl) (by omega) (by omega)).mono ?_
    rintro e w6 ⟨b6,rfl,t6,g6⟩
    have K6:=Hold.Zf K5 4 rfl g6 t6
    clear K5 t6 g6
    cases b6
    ·have F6:=K6.facts
     simp only [zg] at F6
     have K5:Hold M (some T) w0 _ [.blk gx 40 #[.string tn,.string tt,.bool false,.int .i64 te,.slice oA on oc,.bool false,.slice pA pn pc,.slice qA qn qc,.slice (some ⟨gk,0,none⟩) 1 1,.slice none 0 0,.slice aA an ac],.cst gk 85 #[.string ⟨#[117]⟩,.string c,.int .i64 zz,.int .i64 (zz+h)],.ro (Yg 5 ⟨tn,tt,false,te,⟨oA,on,oc,ol⟩,tch,⟨pA,pn,pc,pl⟩,⟨qA,qn,qc,ql⟩,⟨rA,rn,rc,rl⟩,⟨kA,kn,kc,kl⟩,⟨aA,an,ac,al⟩⟩),.blk gr 40 cs0,.tp T]:=((K6.store 1 rfl 5 (.bool false)).store 1 rfl 9 (.slice none 0 0)).pick [1,0,2,3,4] (by decide) rfl
     have F5:=K5.facts
     simp only [zg] at F5
     clear K6
     go_upto_region 7 with fail
     clear F6
     generalize World.setCell _ _ _=w7 at K5 F5 ⊢
     obtain ⟨KM,hKM,K6⟩:=K5.name
     have H1:∀ wv:World,Hold M (some T) w0 wv KM→Blk wv gx 40 #[.string tn,.string tt,.bool false,.int .i64 te,.slice oA on oc,.bool false,.slice pA pn pc,.slice qA qn qc,.slice (some ⟨gk,0,none⟩) 1 1,.slice none 0 0,.slice aA an ac]:=fun wv h=>by rw [hKM] at h;exact h.ZF 0 rfl
     have H2:∀ wv:World,Hold M (some T) w0 wv KM→Blk wv gk 85 #[.string ⟨#[117]⟩,.string c,.int .i64 zz,.int .i64 (zz+h)]:=fun wv h=>by rw [hKM] at h;exact h.ZB 1 rfl
     have h4:KM[4]? =some (.tp T):=by rw [hKM];rfl
     have HH1:=hid H1
     have HH2:=hid H2
     have HH4:=hid h4
     have HKM:=hid hKM
     clear hKM H1 H2 h4 K5
     go_wp2_with fail
     clear F5
     refine wp_region_any (by kernel_rfl) ?_
     refine Jb [0] 22 67 (KM) (spL [(44,Zh (Mut M KM) 1),(46,fun u _=>Yt 3 u),(48,Zh (Mut M KM) 2),(49,Zh (Mut M KM) 3),(50,UV (Mut M KM) c),(51,UE (Mut M KM) c),(61,Zh (Mut M KM) 3),(62,UH (Mut M KM))]) (by kernel_rfl) (fun _ d _ _ _ h=>by cases d<;>exact h) (by kernel_rfl) (by kernel_rfl) rfl ?_ (K6.drew) ?_
     ·exact Ze Yj (Ze (fun _ _ _ _ h=>h) (Ze Yj (Ze Yj (Ze ZhW (Ze ZhX (Ze Yj (Ze Zds (Zo _))))))))
     simp only [zd,Act.put,List.getElem_toArray,List.getElem_cons_zero,List.getElem_cons_succ,zl]
     iterate 3
      refine' dv rfl rfl rfl (fun wv HC=>?_) ?_;rotate_left
      · go_simp<;>rfl
      simp only [Act.put,zl]
     refine Zm 44 (Zh (Mut M KM) 1) (f:=133) (args:=#[.string ⟨#[]⟩,.string c]) rfl rfl rfl rfl (fun wv=>?_) (fun wv HC hrm hD=>?_) ?_
     ·go_simp<;>rfl
     ·refine (XX wv ⟨#[]⟩ c).mono ?_
      rintro e w5 ⟨rfl,b5⟩
      exact ⟨_,rfl,⟨_,rfl,Xu _ _,fun w2 _ _=>XA _ _ w2⟩,HC.call b5,RM.below b5⟩
     rintro u wx HCx ⟨c1,rfl,hx,rx⟩
     clear HCx hx rx
     simp only [Act.put,zl]
     refine' dv rfl rfl rfl (fun wv HC=>?_) ?_;rotate_left
     · go_simp<;>rfl
     simp only [Act.put,zl]
     refine Yz 3 4 HH4.out 46 rfl rfl rfl rfl (fun wv=>?_) (fun r hr=>?_)
     ·go_simp<;>rfl
     have hwr:IntKind.i64.wrap (1+(r:Int))=1+r:=IntWalk.i64_in _ (by omega)
     simp only [Act.put,zl]
     refine' dv rfl rfl rfl (fun wv HC=>?_) ?_;rotate_left
     · go_simp<;>rfl
     simp only [Act.put,zl]
     refine Zm 48 (Zh (Mut M KM) 2) (f:=134) (args:=#[.int .i64 (1+(r:Int))]) rfl rfl rfl rfl (fun wv=>?_) (fun wv HC hrm hD=>?_) ?_
     ·go_simp<;>rfl
     ·refine (Wj (Mut M KM) wv HC.Zb (1+(r:Int)) (by omega)).mono ?_
      rintro e w5 ⟨x,rfl,hx,rx,b5⟩
      exact ⟨_,rfl,⟨x,rfl,Xz hx (by omega) (by omega),rx⟩,HC.call b5,RM.below b5⟩
     rintro u wx HCx ⟨c2,rfl,hx,rx⟩
     clear HCx hx rx
     simp only [Act.put,zl]
     refine Zm 49 (Zh (Mut M KM) 3) (f:=132) (args:=#[.int .i64 10,c1.val,c2.val]) rfl rfl rfl rfl (fun wv=>?_) (fun wv HC hrm hD=>?_) ?_
     ·go_simp<;>rfl
     ·have h1:Zh (Mut M KM) 1 c1.val wv:=ZM hD 3 rfl (by kernel_rfl) rfl rfl
      have h2:Zh (Mut M KM) 2 c2.val wv:=ZM hD 7 rfl (by kernel_rfl) rfl rfl
      obtain ⟨y1,hy1,ok1,q1⟩:=h1
      obtain ⟨y2,hy2,ok2,q2⟩:=h2
      rw [hy1,hy2]
      refine (XJ (Mut M KM) wv HC.Zb 10 y1 y2 2 (q1.imp fun w2 h2=>h2.le (by omega)) q2).mono ?_
      rintro e w5 ⟨g5,rfl,ry,b5⟩
      exact ⟨_,rfl,⟨_,rfl,YU (Zw 5 (by decide)) (Zw 10 (by decide)) (by omega) (fun a ha=>by
       simp only [List.mem_cons,List.not_mem_nil,or_false] at ha
       rcases ha with rfl|rfl
       ·exact ok1.le (by omega)
       ·exact ok2),ry⟩,HC.call b5,RM.below b5⟩
     rintro u wx HCx ⟨c3,rfl,hx,rx⟩
     clear HCx hx rx
     simp only [Act.put,zl]
     rw [show c3.val=.agg #[.int .i64 c3.kind,.int .i64 c3.op,.bool c3.nt,.int .i64 c3.v.k,.int .i64 c3.v.i,.string c3.v.s,.string c3.tab,.string c3.nm,.slice c3.A c3.n c3.c,.slice c3.B c3.m c3.d] from rfl]
     refine Va 50 (UV (Mut M KM) c) rfl rfl rfl rfl (fun wv HC hD=>?_) ?_
     ·have h1:Zh (Mut M KM) 3 c3.val wv:=ZM hD 8 rfl (by kernel_rfl) rfl rfl
      obtain ⟨y1,hy1,ok1,q1⟩:=h1
      refine ⟨.agg #[.string c,.int .i64 c3.kind,.int .i64 c3.op,.bool c3.nt,.int .i64 c3.v.k,.int .i64 c3.v.i,.string c3.v.s,.string c3.tab,.string c3.nm,.slice c3.A c3.n c3.c,.slice c3.B c3.m c3.d],?_,y1,?_,ok1,q1⟩
      ·go_simp
      ·have h:=hy1
       simp only [Ex.val,Value.agg.injEq,Array.mk.injEq,List.cons.injEq,and_true,true_and] at h ⊢
       exact h
     rintro u wx HCx ⟨c4,rfl,hx,rx⟩
     clear HCx hx rx
     simp only [Act.put,zl]
     refine Ye #[.string c,.int .i64 c4.kind,.int .i64 c4.op,.bool c4.nt,.int .i64 c4.v.k,.int .i64 c4.v.i,.string c4.v.s,.string c4.tab,.string c4.nm,.slice c4.A c4.n c4.c,.slice c4.B c4.m c4.d] 128 51 (UE (Mut M KM) c) (fun g=>.slice (some ⟨g,0,none⟩) 1 1) rfl rfl rfl rfl (fun wv=>?_) (fun wv HC hrm hD hro=>?_) ?_
     ·go_simp<;>rfl
     ·have h1:UV (Mut M KM) c (.agg #[.string c,.int .i64 c4.kind,.int .i64 c4.op,.bool c4.nt,.int .i64 c4.v.k,.int .i64 c4.v.i,.string c4.v.s,.string c4.tab,.string c4.nm,.slice c4.A c4.n c4.c,.slice c4.B c4.m c4.d]) wv:=ZM hD 9 rfl (by kernel_rfl) rfl rfl
      obtain ⟨y1,hy1,ok1,q1⟩:=h1
      rw [show (#[.string c,.int .i64 c4.kind,.int .i64 c4.op,.bool c4.nt,.int .i64 c4.v.k,.int .i64 c4.v.i,.string c4.v.s,.string c4.tab,.string c4.nm,.slice c4.A c4.n c4.c,.slice c4.B c4.m c4.d]:Array Value)=#[.string c,.int .i64 y1.kind,.int .i64 y1.op,.bool y1.nt,.int .i64 y1.v.k,.int .i64 y1.v.i,.string y1.v.s,.string y1.tab,.string y1.nm,.slice y1.A y1.n y1.c,.slice y1.B y1.m y1.d] by simpa using hy1] at hro ⊢
      exact ⟨_,y1,rfl,ok1,Uq (s:=⟨c,y1⟩) (hro _ HC.Zb) rfl ((RM.alloc (Mut M KM) wv _).ro q1)⟩
     rintro g51 wg HCg hg51
     clear HCg hg51
     iterate 5
      simp only [Act.put,zl]
      refine' dv rfl rfl rfl (fun wv HC=>?_) ?_;rotate_left
      · go_simp<;>rfl
     simp only [Act.put,zl]
     refine' dv rfl rfl rfl (fun wv HC=>?_) ?_;rotate_left
     ·obtain q8:=(HH1.out _ HC).cell 8;go_simp<;>rfl
     iterate 2
      simp only [Act.put,zl]
      refine' dv rfl rfl rfl (fun wv HC=>?_) ?_;rotate_left
      · go_simp<;>rfl
     simp only [Act.put,zl]
     refine' dv rfl rfl rfl (fun wv HC=>?_) ?_;rotate_left
     ·obtain q3:=(HH2.out _ HC).cell 3;go_simp<;>rfl
     simp only [Act.put,zl]
     refine Zm 61 (Zh (Mut M KM) 3) (f:=135) (args:=#[.string c,.int .i64 zz,.int .i64 (zz+h)]) rfl rfl rfl rfl (fun wv=>?_) (fun wv HC hrm hD=>?_) ?_
     ·go_simp<;>rfl
     ·refine (Zax (Mut M KM) wv HC.Zb c zz (zz+h) (by omega) (by omega)).mono ?_
      rintro e w5 ⟨g5,n1,n2,rfl,hn1,hn2,ry,b5⟩
      exact ⟨_,rfl,⟨_,rfl,YU (Zw 7 (by decide)) (Zw 0 (by decide)) (by omega) (fun a ha=>by
       simp only [List.mem_cons,List.not_mem_nil,or_false] at ha
       rcases ha with rfl|rfl|rfl
       ·exact (Xu _ _).le (by omega)
       ·exact Xz hn1 (by omega) (by omega)
       ·exact Xz hn2 (by omega) (by omega)),ry⟩,HC.call b5,RM.below b5⟩
     rintro u wx HCx ⟨c5,rfl,hx,rx⟩
     clear HCx hx rx
     simp only [Act.put,zl]
     rw [show c5.val=.agg #[.int .i64 c5.kind,.int .i64 c5.op,.bool c5.nt,.int .i64 c5.v.k,.int .i64 c5.v.i,.string c5.v.s,.string c5.tab,.string c5.nm,.slice c5.A c5.n c5.c,.slice c5.B c5.m c5.d] from rfl]
     refine Ye #[.int .i64 c5.kind,.int .i64 c5.op,.bool c5.nt,.int .i64 c5.v.k,.int .i64 c5.v.i,.string c5.v.s,.string c5.tab,.string c5.nm,.slice c5.A c5.n c5.c,.slice c5.B c5.m c5.d] 126 62 (UH (Mut M KM)) (fun g=>.slice (some ⟨g,0,none⟩) 1 1) rfl rfl rfl rfl (fun wv=>?_) (fun wv HC hrm hD hro=>?_) ?_
     ·go_simp<;>rfl
     ·have h1:Zh (Mut M KM) 3 c5.val wv:=ZM hD 20 rfl (by kernel_rfl) rfl rfl
      obtain ⟨y1,hy1,ok1,q1⟩:=h1
      have hy2:(#[.int .i64 c5.kind,.int .i64 c5.op,.bool c5.nt,.int .i64 c5.v.k,.int .i64 c5.v.i,.string c5.v.s,.string c5.tab,.string c5.nm,.slice c5.A c5.n c5.c,.slice c5.B c5.m c5.d]:Array Value)=#[.int .i64 y1.kind,.int .i64 y1.op,.bool y1.nt,.int .i64 y1.v.k,.int .i64 y1.v.i,.string y1.v.s,.string y1.tab,.string y1.nm,.slice y1.A y1.n y1.c,.slice y1.B y1.m y1.d]:=by
       have h:=hy1
       simp only [Ex.val,Value.agg.injEq] at h
       exact h
      rw [hy2] at hro ⊢
      exact ⟨_,y1,rfl,ok1,XF (hro _ HC.Zb) rfl ((RM.alloc (Mut M KM) wv _).ro q1)⟩
     rintro g62 wg HCg hg62
     clear HCg hg62
     simp only [Act.put,zl]
     refine Zj ?_
     rintro wx3 HX
     rintro _hrm HGW
     have hu:UE (Mut M KM) c (.slice (some ⟨g51,0,none⟩) 1 1) wx3:=(Zl (d:=51) rfl).1 (HGW 10 _ rfl (by omega))
     have hu2:UH (Mut M KM) (.slice (some ⟨g62,0,none⟩) 1 1) wx3:=(Zl (d:=62) rfl).1 (HGW 21 _ rfl (by omega))
     clear HGW _hrm
     obtain ⟨g1,z,e1,hok1,hro1⟩:=hu
     obtain rfl:g51=g1:=by injection e1 with e1;injection e1 with e1;injection e1
     obtain ⟨g2,q,e2,hok2,hro2⟩:=hu2
     obtain rfl:g62=g2:=by injection e2 with e2;injection e2 with e2;injection e2
     rw [HKM.out] at HX hro1 hro2
     clear e1 e2 HH1 HH2 HH4 HKM K6
     have K7:=((HX.add hro1).add (hro2.less (by intro b hb;simpa [ZI,Hp.foot] using hb))).Za #[.int .i64 2,.string ⟨#[117]⟩,.slice none 0 0,.slice none 0 0,.slice (some ⟨g51,0,none⟩) 1 1,.slice (some ⟨g62,0,none⟩) 1 1,.string ⟨#[]⟩] 97
     have F7:=K7.facts
     simp only [zg] at F7
     have K8:=K7.store 3 rfl 10 (.slice (some ⟨wx3.heap.size,0,none⟩) 1 1)
     simp only [zl] at K8
     have hA:Ro _ _ (Yg 5 ⟨tn,tt,false,te,⟨oA,on,oc,ol⟩,false,⟨pA,pn,pc,pl⟩,⟨qA,qn,qc,ql⟩,⟨some ⟨gk,0,none⟩,1,1,[⟨⟨#[117]⟩,c,zz,zz+h⟩]⟩,SlP.nil,⟨some ⟨wx3.heap.size,0,none⟩,1,1,[⟨2,⟨#[117]⟩,SlP.nil,SlP.nil,⟨some ⟨g51,0,none⟩,1,1,[⟨c,z⟩]⟩,⟨some ⟨g62,0,none⟩,1,1,[q]⟩,⟨#[]⟩⟩]⟩⟩):=((K8.ro 5 rfl).and (((ZL (K8.get 4 rfl) rfl:Ro _ _ (SlR 4 (some ⟨gk,0,none⟩) 1 [.string ⟨#[117]⟩,.string c,.int .i64 zz,.int .i64 (zz+h)]))).and (((ZL (K8.get 0 rfl) rfl:Ro _ _ (SlR 7 (some ⟨wx3.heap.size,0,none⟩) 1 [.int .i64 2,.string ⟨#[117]⟩,.slice none 0 0,.slice none 0 0,.slice (some ⟨g51,0,none⟩) 1 1,.slice (some ⟨g62,0,none⟩) 1 1,.string ⟨#[]⟩]))).and ((K8.ro 2 rfl).and (K8.ro 1 rfl))))).imp fun w2 h2=>⟨h2.1.1,h2.1.2.1,h2.1.2.2.1,⟨h2.2.1,fun _ _=>trivial⟩,SlP.Zx _ _ _ w2,⟨h2.2.2.1,fun a ha=>by
      simp only [List.mem_cons,List.not_mem_nil,or_false] at ha
      subst ha
      exact ⟨SlP.Zx _ _ _ w2,SlP.Zx _ _ _ w2,⟨h2.2.2.2.1.1,fun s hs=>(show ExIn 3 s.e w2 from h2.2.2.2.1.2 s hs).le (by omega)⟩,⟨h2.2.2.2.2.1,fun x hx=>(h2.2.2.2.2.2 x hx).le (by omega)⟩⟩⟩⟩
     have K9:=(K8.add hA).pick [4,0,7,8] (by decide) rfl
     clear HX hro1 hro2 K7 K8 hA
     go_wp2_with fail
     refine bodyPost_end (v:=.tuple #[]) ?_ rfl ?_
     ·simp [results,Tryz.results101,go_sem]
     ·exact ⟨⟨tn,tt,false,te,⟨oA,on,oc,ol⟩,false,⟨pA,pn,pc,pl⟩,⟨qA,qn,qc,ql⟩,⟨some ⟨gk,0,none⟩,1,1,[⟨⟨#[117]⟩,c,zz,zz+h⟩]⟩,SlP.nil,⟨some ⟨wx3.heap.size,0,none⟩,1,1,[⟨2,⟨#[117]⟩,SlP.nil,SlP.nil,⟨some ⟨g51,0,none⟩,1,1,[⟨c,z⟩]⟩,⟨some ⟨g62,0,none⟩,1,1,[q]⟩,⟨#[]⟩⟩]⟩⟩,rfl,⟨hgd.e,hgd.o,hgd.p,hgd.f,Y8 (by omega) ⟨⟨show I64 zz from ⟨by omega,by omega⟩,show I64 (zz+h) from ⟨by omega,by omega⟩⟩,show 1≤maxLen by unfold maxLen;omega,HCS.out⟩,LsOk.nil _ _,Y8 (by omega) ⟨⟨by simp,by simp⟩,LsOk.nil _ _,LsOk.nil _ _,Y8 (by omega) (hok1.le (by omega)),Y8 (by omega) (hok2.le (by omega))⟩⟩,rfl,rfl,rfl,rfl,K9⟩
    ·have hA:Ro _ _ (Yg 5 ⟨tn,tt,false,te,⟨oA,on,oc,ol⟩,tch,⟨pA,pn,pc,pl⟩,⟨qA,qn,qc,ql⟩,⟨some ⟨gk,0,none⟩,1,1,[⟨⟨#[117]⟩,c,zz,zz+h⟩]⟩,⟨kA,kn,kc,kl⟩,⟨aA,an,ac,al⟩⟩):=((K6.ro 2 rfl).and ((ZL (K6.get 0 rfl) rfl:Ro _ _ (SlR 4 (some ⟨gk,0,none⟩) 1 [.string ⟨#[117]⟩,.string c,.int .i64 zz,.int .i64 (zz+h)])))).imp fun w2 h2=>⟨h2.1.1,h2.1.2.1,h2.1.2.2.1,⟨h2.2,fun _ _=>trivial⟩,h2.1.2.2.2.2⟩
     have K9:=(K6.add hA).pick [2,0,4,5] (by decide) rfl
     clear K6 hA
     go_wp2_with fail
     refine bodyPost_ret (v:=.tuple #[]) ?_ rfl ?_
     ·simp [results,Tryz.results101,go_sem]
     ·exact ⟨⟨tn,tt,false,te,⟨oA,on,oc,ol⟩,tch,⟨pA,pn,pc,pl⟩,⟨qA,qn,qc,ql⟩,⟨some ⟨gk,0,none⟩,1,1,[⟨⟨#[117]⟩,c,zz,zz+h⟩]⟩,⟨kA,kn,kc,kl⟩,⟨aA,an,ac,al⟩⟩,rfl,⟨hgd.e,hgd.o,hgd.p,hgd.f,Y8 (by omega) ⟨⟨show I64 zz from ⟨by omega,by omega⟩,show I64 (zz+h) from ⟨by omega,by omega⟩⟩,show 1≤maxLen by unfold maxLen;omega,HCS.out⟩,hgd.h,hgd.a⟩,rfl,rfl,rfl,rfl,K9⟩
 ·go_wp2_with fail
  refine bodyPost_ret (v:=.tuple #[]) ?_ rfl ?_
  ·simp [results,Tryz.results101,go_sem]
  ·exact ⟨⟨tn,tt,true,te,⟨oA,on,oc,ol⟩,tch,⟨pA,pn,pc,pl⟩,⟨qA,qn,qc,ql⟩,⟨rA,rn,rc,rl⟩,⟨kA,kn,kc,kl⟩,⟨aA,an,ac,al⟩⟩,rfl,hgd,rfl,rfl,rfl,rfl,K⟩
def UO (l:List ByteArray):List Value:=l.flatMap ZG
theorem Tryz.Ziz:ElemT Tryz.prog 35 9 1 16 (.string ⟨#[]⟩):=⟨Tryz.underlying35,by kernel_rfl,rfl,by omega⟩
def ZfA (w:World) (T:Nat) (M:Nat→Prop) (k:Nat) (e:Ending) (w' :World):Prop:=∃ s:SlP ByteArray,e=.returned s.v∧s.n≤s.c∧s.c≤9223372036854775807∧s.l.length≤k∧Ro w' M (s.In 1 ZG (fun _ _=>True))∧Tp w' T∧w.grownBy w' (some T)
set_option maxRecDepth 100000 in
set_option maxHeartbeats 8000000 in
theorem Zbg (M:Nat→Prop) (T:Nat) (w:World) (hM:∀ b,M b→b<w.heap.size) (ht:Tp w T) (hMT:∀ b,M b→T≤b) (tA:Option Addr) (tn tc:Nat) (tl:List Tg) (hl:Ro w (fun b=>b=T) (SlR 11 tA tn (tl.flatMap Tg.cells))) (hn:tn≤1000):
  Calls Tryz.prog 97 #[.pointer (some ⟨T,0,none⟩),.slice tA tn tc] w fun e w' =>ZfA w T M 8 e w' :=by
 have HLN:=hid (show tl.length=tn from by
  have:=(show Rd _ _ 11 tA tn (tl.flatMap Tg.cells) from hl.now).1
  rw [Yu Tg.cells 11 (fun _=>rfl)] at this
  omega)
 have HLX:=hid hl
 have K0:=((Hold.Y5 M w T hM ht hMT).add (S:=fun _=>True) (fun _ _ _=>trivial)).nil 9 1
 have K1:Hold M (some T) w _ [.own 9 1 (.slice none 0 0) 0 (UO ([]:List ByteArray)),.ro (fun _=>True),.tp T]:=K0
 clear K0 hl
 go_enter Tryz.func97,Tryz.ntmps97
 go_wp2_with fail
 go_loopw [5,10] (fun ov iv wr=>∃ (j k cap:Nat) (O:Option Addr) (outs:List ByteArray),j≤tn∧iv=.int .i64 j∧ov=.slice O k cap∧k≤8∧outs.length=k∧Hold M (some T) w wr [.own 9 1 (.slice O k cap) k (UO outs),.ro (fun _=>True),.tp T]) (fun _ iv _=>tn - (intOf iv).toNat)
 case atStart=>exact ⟨0,0,0,none,[],by omega,rfl,rfl,by omega,rfl,K1⟩
 case round=>
  clear K1
  obtain ⟨j,k,cap,O,outs,hj,rfl,rfl,hk8,hok,H⟩:=hrel
  by_cases hlt:j<tn
  ·obtain ⟨x,hx⟩:∃ c,tl[j]? =some c:=⟨tl[j]'(by rw [HLN.out];exact hlt),List.getElem?_eq_getElem _⟩
   obtain ⟨b,o,rfl,hb2,hc⟩:=(show ∃ b o,tA=some ⟨b,o,none⟩∧b<_∧∀ q u,q<11→x.cells[q]? =some u→World.cell? _ ⟨b,o+j * 11+q,none⟩=some u from by
    obtain ⟨b,o,e,hb,hcl⟩:=(show Rd _ _ 11 tA tn (tl.flatMap Tg.cells) from (HLX.out.grown H.grow rfl).now).2 (by omega)
    refine ⟨b,o,e,hb,fun q u hq hu=>?_⟩
    rw [Nat.add_assoc]
    exact hcl _ _ ((flat_get Tg.cells 11 (fun _=>rfl) tl j q x hq hx).trans hu))
   clear hx
   obtain ⟨xn,xt,xb,xe,⟨oA,on,oc,ol⟩,xch,⟨pA,pn,pc,pl⟩,⟨qA,qn,qc,ql⟩,⟨rA,rn,rc,rl⟩,⟨kA,kn,kc,kl⟩,⟨aA,an,ac,al⟩⟩:=x
   have x0:=hc 0 _ (by omega) rfl
   have x1:=hc 1 _ (by omega) rfl
   have x2:=hc 2 _ (by omega) rfl
   have x3:=hc 3 _ (by omega) rfl
   have x4:=hc 4 _ (by omega) rfl
   have x5:=hc 5 _ (by omega) rfl
   have x6:=hc 6 _ (by omega) rfl
   have x7:=hc 7 _ (by omega) rfl
   have x8:=hc 8 _ (by omega) rfl
   have x9:=hc 9 _ (by omega) rfl
   have x10:=hc 10 _ (by omega) rfl
   simp only [Nat.add_zero,SlP.v] at x0 x1 x2 x3 x4 x5 x6 x7 x8 x9 x10
   clear hc
   have K2:=H.Za #[.string xn,.string xt,.bool xb,.int .i64 xe,.slice oA on oc,.bool xch,.slice pA pn pc,.slice qA qn qc,.slice rA rn rc,.slice kA kn kc,.slice aA an ac] 40
   have F2:=K2.facts
   simp only [zg] at F2
   clear H
   go_wp2_with fail
   refine (Z8 T 4 _ (K2.tp_ 3 rfl) (by omega) (by omega)).mono ?_
   rintro e w3 ⟨b4,rfl,t3,g3⟩
   have K3:=Hold.Zf K2 3 rfl g3 t3
   clear K2 F2 t3 g3 x0 x1 x2 x3 x4 x5 x6 x7 x8 x9 x10
   have F3:=K3.facts
   simp only [zg] at F3
   cases b4
   ·go_wp2_with fail
    go_roundw
    case rel=>exact ⟨j+1,k,cap,O,outs,by omega,by go_num,by first|rfl|trivial,by omega,hok,K3.drop (List.sublist_cons_self _ _)⟩
    case measure=>simp [intOf];omega
   ·by_cases h8:k<8
    ·have h8i:(k:Int)<8:=by omega
     go_wp2_with (at_builtin;go_must (refine ZH K3 1 rfl Tryz.Ziz #[.string xn] rfl (.tmp 21) (.tmp 24) rfl rfl _ (by first|rfl|simp) rfl rfl (by intro u hu;simp at hu;rcases hu with rfl;rfl) (by omega) (by omega) ?_);intro gA capA wA hcA hmA KA;rw [show UO outs++(#[.string xn]:Array Value).toList=UO (outs++[xn]) by simp [UO,ZG]] at KA;simp only [zl] at KA)
     go_roundw
     case rel=>exact ⟨j+1,k+1,capA,_,outs++[xn],by omega,by go_num,by first|rfl|trivial,by omega,by simp [hok],KA.drop (List.sublist_cons_self _ _)⟩
     case measure=>simp [intOf];omega
    ·have h8i:¬(k:Int)<8:=by omega
     go_wp2_with fail
     go_roundw
     case rel=>exact ⟨j+1,k,cap,O,outs,by omega,by go_num,by first|rfl|trivial,by omega,hok,K3.drop (List.sublist_cons_self _ _)⟩
     case measure=>simp [intOf];omega
  ·obtain rfl:tn=j:=by omega
   have hcap:=ZR (H.get 0 rfl)
   have KZ:=H.Zu 0 rfl
   simp only [List.set_cons_zero] at KZ
   have hR:Ro _ _ ((⟨O,k,cap,outs⟩:SlP ByteArray).In 1 ZG (fun _ _=>True)):=(KZ.ro 0 rfl).imp fun w2 h2=>⟨h2,fun _ _=>trivial⟩
   have HR:=hid (hR.less zm)
   have HT:=hid (And.intro (KZ.tp_ 2 rfl) KZ.grow)
   clear KZ hR H
   go_wp2_with fail
   go_ret
   exact ⟨⟨O,k,cap,outs⟩,rfl,hcap.1,hcap.2.1,by show outs.length≤8;omega,HR.out,HT.out.1,HT.out.2⟩
end Go.Proofs.YtnbbllkbefagmaaGreatDoor

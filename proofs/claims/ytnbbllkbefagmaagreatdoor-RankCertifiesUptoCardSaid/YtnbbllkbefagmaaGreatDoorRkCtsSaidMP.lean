import Derived.Test.YtnbbllkbefagmaaGreatDoorRkCtsSaidMN
import Derived.Test.YtnbbllkbefagmaaGreatDoorRkCtsSaidMO
import Derived.Deep.CutRange
namespace Go.Proofs.YtnbbllkbefagmaaGreatDoor
open Go.RowKit
set_option linter.unusedVariables false
set_option linter.unusedSimpArgs false
theorem VX {d g:Nat} {s:Se} {M:Nat→Prop} {w:World} {t:TypeId} {cs:Array Value} (h:Ro w M (fun w=>w.heap[g]? =some (.cells cs t (0,0)))) (hl:cs.toList=Se.cells s) (hr:Ro w M (ExIn d s.e)):Ro w M ((⟨some ⟨g,0,none⟩,1,1,[s]⟩:SlP Se).In 11 Se.cells (ZY d)):=by
 have h1:Ro w M (SlR 11 (some ⟨g,0,none⟩) 1 cs.toList):=ZJ h (by rw [hl];rfl)
 rw [hl] at h1
 exact (h1.and hr).imp fun w2 h2=>⟨by simpa using h2.1,fun z hz=>by
  simp only [List.mem_cons,List.not_mem_nil,or_false] at hz
  subst hz
  exact h2.2⟩
theorem YP {α:Type} {k g:Nat} {s:α} {Q:α→Prop} (hk:1≤k) (h:Q s):LsOk k (⟨some ⟨g,0,none⟩,1,1,[s]⟩:SlP α) Q:=⟨⟨Nat.le_refl _,by simp⟩,by simpa using hk,fun z hz=>by
 simp only [List.mem_cons,List.not_mem_nil,or_false] at hz
 subst hz
 exact h⟩
theorem AcIn.le {d d' :Nat} {a:Ac} {w:World} (h:AcIn d a w) (hd:d≤d'):AcIn d' a w:=⟨⟨h.1.1,fun r hr=>⟨(h.1.2 r hr).1,fun x hx=>((h.1.2 r hr).2 x hx).le hd⟩⟩,⟨h.2.1.1,fun q hq=>(h.2.1.2 q hq).le hd⟩,⟨h.2.2.1.1,fun s hs=>(show ExIn d s.e w from h.2.2.1.2 s hs).le hd⟩,h.2.2.2.1,fun x hx=>(h.2.2.2.2 x hx).le hd⟩
theorem LsOk.imp {α:Type} {k:Nat} {s:SlP α} {Q Q' :α→Prop} (h:LsOk k s Q) (hq:∀ x,Q x→Q' x):LsOk k s Q' :=⟨h.1,h.2.1,fun x hx=>hq x (h.2.2 x hx)⟩
theorem AcGd.le {d d' :Nat} {a:Ac} (h:AcGd d a) (hd:d≤d'):AcGd d' a:=⟨h.k,h.r.imp fun r hr=>hr.imp fun x hx=>hx.le hd,h.q.imp fun q hq=>hq.le hd,h.s.imp fun s hs=>hs.le hd,h.h.imp fun x hx=>hx.le hd⟩
def VT (M:Nat→Prop) (u:Value) (w:World):Prop:=∃ s:Sm,u=s.val∧s.cols.n≤100∧Ro w M (ZK s)
theorem ZcO {M:Nat→Prop} (u:Value) (w w' :World) (hr:RM M w w') (h:VT M u w):VT M u w' :=by
 obtain ⟨s,h1,h2,h3⟩:=h
 exact ⟨s,h1,h2,hr.ro h3⟩
def V7 (M:Nat→Prop) (n:Nat) (u:Value) (w:World):Prop:=∃ p:Pl,u=p.val∧PlN n p∧Ro w M (Zg p)
theorem ZgW {M:Nat→Prop} {n:Nat} (u:Value) (w w' :World) (hr:RM M w w') (h:V7 M n u w):V7 M n u w' :=by
 obtain ⟨s,h1,h2,h3⟩:=h
 exact ⟨s,h1,h2,hr.ro h3⟩
theorem G9 {n:Nat} {p:Pl} (h:PlB p) (hf:p.fr.n≤2) (hn:n≤80):PlN n p:=⟨h,by omega,fun _=>trivial⟩
set_option maxRecDepth 100000 in
set_option maxHeartbeats 60000000 in
theorem Zhf (M:Nat→Prop) (T:Nat) (w:World) (hM:∀ b,M b→b<w.heap.size) (ht:Tp w T) (hMT:∀ b,M b→T≤b) (t:Tg) (s:Sm) (p:Pl) (hp:Ro w (Mut M [.tp T]) (Zg p)) (hsm:Ro w (Mut M [.tp T]) (ZK s)) (hsc:1≤s.cols.n∧s.cols.n≤4) (hW:Ro w (Mut M [.tp T]) Wds) (hT:1<T) (hB:PlB p) (hfr:p.fr.n≤2) (hs:1≤p.tb.n):
  Calls Tryz.prog 100 #[.pointer (some ⟨T,0,none⟩),t.val,s.val,p.val] w fun e w' =>Gl w T M 5 e w' :=by
 have HBN:=hid (fun (n:Nat) (hn:n≤80)=>G9 hB hfr hn)
 obtain ⟨tn,tt,tb,te,⟨oA,on,oc,ol⟩,tch,⟨pA,pn,pc,pl⟩,⟨qA,qn,qc,ql⟩,⟨rA,rn,rc,rl⟩,⟨kA,kn,kc,kl⟩,⟨aA,an,ac,al⟩⟩:=t
 obtain ⟨⟨fA,fn,fc,fl⟩,⟨sA,sn,sc,sl⟩⟩:=p
 obtain ⟨snm,⟨cA,cn,cc,cl⟩⟩:=s
 have HS:=hid (show 1≤sn from hs)
 have HBC:=hid (show PlB ⟨⟨fA,fn,fc,fl⟩,SlP.nil⟩ from ⟨hB.f,⟨Nat.le_refl _,by simp [SlP.nil]⟩,hB.fc,fun _ hx=>(nomatch hx)⟩)
 have hcn:1≤cn∧cn≤4:=hsc
 have hfn:fn≤2:=hfr
 obtain ⟨bC,oC,eC,-,-⟩:=(show Rd w w.heap.size 4 cA cn (cl.flatMap Col.cells) from hsm.now.1).2 (by omega)
 obtain rfl:cA=some ⟨bC,oC,none⟩:=eC
 have HLN:=hid (show cl.length=cn from (RdC.Zw (show SlR 4 (some ⟨bC,oC,none⟩) cn (Zd cl) w from hsm.now.1)).len)
 have KZ:=(((((((Hold.YY M w T hM ht hMT).add hW).add (hp.less (by simp [ZG,Mut,Hp.foot]))).add ((hsm.imp (S' :=SlR 4 (some ⟨bC,oC,none⟩) cn (Zd cl)) fun w2 h2=>h2.1).less (by simp [ZG,Mut,Hp.foot]))).Za #[.string tn,.string tt,.bool tb,.int .i64 te,.slice oA on oc,.bool tch,.slice pA pn pc,.slice qA qn qc,.slice rA rn rc,.slice kA kn kc,.slice aA an ac] 40).Za #[.string snm,.slice (some ⟨bC,oC,none⟩) cn cc] 49).Za #[.slice fA fn fc,.slice sA sn sc] 177).alloc #[.int .i64 0,.string ⟨#[]⟩,.slice none 0 0,.slice none 0 0,.slice none 0 0,.slice none 0 0,.string ⟨#[]⟩] 97
 rw [World.size_alloc,World.size_alloc,World.size_alloc] at KZ
 obtain ⟨gt,hgt⟩:∃ g,g=w.heap.size:=⟨_,rfl⟩
 rw [←hgt] at KZ
 obtain ⟨gs,hgs⟩:∃ g,g=gt+1:=⟨_,rfl⟩
 obtain ⟨gp,hgp⟩:∃ g,g=gs+1:=⟨_,rfl⟩
 obtain ⟨gr,hgr⟩:∃ g,g=gp+1:=⟨_,rfl⟩
 rw [←hgs,←hgp,←hgr] at KZ
 have K0:Hold M (some T) w _ [.blk gr 97 #[.int .i64 0,.string ⟨#[]⟩,.slice none 0 0,.slice none 0 0,.slice none 0 0,.slice none 0 0,.string ⟨#[]⟩],.cst gp 177 #[.slice fA fn fc,.slice sA sn sc],.cst gs 49 #[.string snm,.slice (some ⟨bC,oC,none⟩) cn cc],.cst gt 40 #[.string tn,.string tt,.bool tb,.int .i64 te,.slice oA on oc,.bool tch,.slice pA pn pc,.slice qA qn qc,.slice rA rn rc,.slice kA kn kc,.slice aA an ac],.ro (SlR 4 (some ⟨bC,oC,none⟩) cn (Zd cl)),.ro (Zg ⟨⟨fA,fn,fc,fl⟩,⟨sA,sn,sc,sl⟩⟩),.ro Wds,.tp T]:=KZ.pick [0,1,2,3,4,5,6,7] (by decide) rfl
 simp only [Tg.val,Pl.val,Sm.val]
 clear hp hW hB hsm KZ hfr hs
 go_enter Tryz.func100,Tryz.ntmps100
 have F0:=K0.facts
 simp only [zg] at F0
 rw [hgr,hgp,hgs,hgt] at F0
 go_upto_region 1 with fail
 rw [←hgt,←hgs,←hgp,←hgr] at F0 ⊢
 have HG:=hid (And.intro hgt (And.intro hgs (And.intro hgp hgr)))
 clear hgt hgs hgp hgr
 go_cut [32] from 17 to 32 (fun v wx=>∃ bb:Bool,v=.bool bb∧Hold M (some T) w wx [.blk gr 97 #[.int .i64 0,.string ⟨#[]⟩,.slice none 0 0,.slice none 0 0,.slice none 0 0,.slice none 0 0,.string ⟨#[]⟩],.cst gp 177 #[.slice fA fn fc,.slice sA sn sc],.cst gs 49 #[.string snm,.slice (some ⟨bC,oC,none⟩) cn cc],.cst gt 40 #[.string tn,.string tt,.bool tb,.int .i64 te,.slice oA on oc,.bool tch,.slice pA pn pc,.slice qA qn qc,.slice rA rn rc,.slice kA kn kc,.slice aA an ac],.ro (SlR 4 (some ⟨bC,oC,none⟩) cn (Zd cl)),.ro (Zg ⟨⟨fA,fn,fc,fl⟩,⟨sA,sn,sc,sl⟩⟩),.ro Wds,.tp T])
 case first=>
  go_wp2_with fail
  refine (ZZ T 9 _ (K0.tp_ 7 rfl) (by omega) (by omega)).mono ?_
  rintro e w1 ⟨b,rfl,t1,g1⟩
  have K1:=Hold.Zf K0 7 rfl g1 t1
  have F1:=K1.facts
  simp only [zg] at F1
  clear F0
  cases b
  ·cases tb
   ·go_wp2_with fail
    all_goals (go_meet;exact ⟨_,rfl,K1⟩)
   ·cases tch
    ·go_wp2_with fail
     all_goals (go_meet;exact ⟨_,rfl,K1⟩)
    ·go_wp2_with fail
     all_goals (go_meet;exact ⟨_,rfl,K1⟩)
  ·go_wp2_with fail
   all_goals (go_meet;exact ⟨_,rfl,K1⟩)
 case rest=>
  obtain ⟨bb,rfl,K1⟩:=hcut
  clear K0 F0
  have F1:=K1.facts
  simp only [zg] at F1
  cases bb
  ·cases tb
   ·go_wp2_with fail
    refine (ZQ T 5 _ (K1.tp_ 7 rfl) (by omega) (by omega)).mono ?_
    rintro e w2 ⟨r,rfl,r0,r1,t2,g2⟩
    have K2:=Hold.Zf K1 7 rfl g2 t2
    clear K1 F1 t2 g2
    go_wp2_with fail
    refine (WZ _ ⟨1,r,⟨#[]⟩⟩).mono ?_
    rintro e w3 ⟨rfl,b3⟩
    have HY0:=hid (Wu ⟨1,r,⟨#[]⟩⟩ (Zo 1 (by decide)) (show I64 r from ⟨by omega,by omega⟩))
    have K3:=((K2.call b3).add (S:=ExIn 1 (Zz ⟨1,r,⟨#[]⟩⟩)) (fun w2 _ _=>WB _ _))
    generalize Zz ⟨1,r,⟨#[]⟩⟩=y0 at *
    have K4:=K3.alloc #[.int .i64 y0.kind,.int .i64 y0.op,.bool y0.nt,.int .i64 y0.v.k,.int .i64 y0.v.i,.string y0.v.s,.string y0.tab,.string y0.nm,.slice y0.A y0.n y0.c,.slice y0.B y0.m y0.d] 126
    have F3:=K3.facts
    simp only [zg] at F3
    have F4:=K4.facts
    simp only [zg] at F4
    rw [show y0.val=.agg #[.int .i64 y0.kind,.int .i64 y0.op,.bool y0.nt,.int .i64 y0.v.k,.int .i64 y0.v.i,.string y0.v.s,.string y0.tab,.string y0.nm,.slice y0.A y0.n y0.c,.slice y0.B y0.m y0.d] from rfl]
    clear K2 K3 b3
    go_wp2_with fail
    obtain ⟨gn,hgn⟩:∃ g,g=w3.heap.size:=⟨_,rfl⟩
    rw [←hgn] at K4 ⊢
    have HGN:=hid hgn
    clear hgn F3 F4
    refine (Qn (Mut M _) T _ K4.Zc (K4.tp_ 9 rfl) (K4.get 9 rfl).2 ⟨⟨fA,fn,fc,fl⟩,SlP.nil⟩ 1 (((K4.ro 7 rfl).imp (S' :=Zg ⟨⟨fA,fn,fc,fl⟩,SlP.nil⟩) (fun w2 h2=>⟨h2.1,SlP.Zi _ _ _ w2⟩)).less (Zj (i:=9) rfl)) HBC.out).mono ?_
    rintro e w4 ⟨x,ok,rfl,hx,t4,g4⟩
    have HXK:=hid (show ok=true→ExGd 1 x from fun hok=>by
     rcases hx with ⟨h1,rfl⟩|⟨ct,cn',rfl⟩
     ·rw [hok] at h1;exact absurd h1 (by decide)
     ·exact Xa _ _)
    have K5:=((Hold.Zf K4 9 rfl g4 t4).add (S:=ExIn 1 x) (fun w2 _ _=>by
     rcases hx with ⟨_,rfl⟩|⟨ct,cn',rfl⟩
     ·exact Qv w2
     ·exact Xc _ _ w2)).Za #[.int .i64 x.kind,.int .i64 x.op,.bool x.nt,.int .i64 x.v.k,.int .i64 x.v.i,.string x.v.s,.string x.tab,.string x.nm,.slice x.A x.n x.c,.slice x.B x.m x.d] 126
    rw [show x.val=.agg #[.int .i64 x.kind,.int .i64 x.op,.bool x.nt,.int .i64 x.v.k,.int .i64 x.v.i,.string x.v.s,.string x.tab,.string x.nm,.slice x.A x.n x.c,.slice x.B x.m x.d] from rfl]
    clear K4 t4 g4 hx
    have F5:=K5.facts
    simp only [zg] at F5
    go_upto_region 8 with fail
    obtain ⟨gx,hgx⟩:∃ g,g=w4.heap.size:=⟨_,rfl⟩
    rw [←hgx] at K5 F5 ⊢
    have HGX:=hid hgx
    clear hgx
    go_cut [73] from 69 to 73 (fun v wx=>∃ bb:Bool,v=.bool bb∧(bb=true→ok=true)∧Hold M (some T) w wx [.cst gx 126 #[.int .i64 x.kind,.int .i64 x.op,.bool x.nt,.int .i64 x.v.k,.int .i64 x.v.i,.string x.v.s,.string x.tab,.string x.nm,.slice x.A x.n x.c,.slice x.B x.m x.d],.ro (ExIn 1 x),.blk gn 126 #[.int .i64 y0.kind,.int .i64 y0.op,.bool y0.nt,.int .i64 y0.v.k,.int .i64 y0.v.i,.string y0.v.s,.string y0.tab,.string y0.nm,.slice y0.A y0.n y0.c,.slice y0.B y0.m y0.d],.ro (ExIn 1 y0),.blk gr 97 #[.int .i64 0,.string ⟨#[]⟩,.slice none 0 0,.slice none 0 0,.slice none 0 0,.slice none 0 0,.string ⟨#[]⟩],.cst gp 177 #[.slice fA fn fc,.slice sA sn sc],.cst gs 49 #[.string snm,.slice (some ⟨bC,oC,none⟩) cn cc],.cst gt 40 #[.string tn,.string tt,.bool false,.int .i64 te,.slice oA on oc,.bool tch,.slice pA pn pc,.slice qA qn qc,.slice rA rn rc,.slice kA kn kc,.slice aA an ac],.ro (SlR 4 (some ⟨bC,oC,none⟩) cn (Zd cl)),.ro (Zg ⟨⟨fA,fn,fc,fl⟩,⟨sA,sn,sc,sl⟩⟩),.ro Wds,.tp T])
    case first=>
     cases ok
     ·go_wp2_with fail
      go_meet
      exact ⟨false,rfl,fun h=>(nomatch h),K5⟩
     ·go_wp2_with fail
      refine (ZZ T 2 _ (K5.tp_ 11 rfl) (by omega) (by omega)).mono ?_
      rintro e w5 ⟨b5,rfl,t5,g5⟩
      have K6:=Hold.Zf K5 11 rfl g5 t5
      go_wp2_with fail
      go_meet
      exact ⟨b5,rfl,fun _=>(by first|trivial|rfl),K6⟩
    case rest=>
     obtain ⟨bb,rfl,hbb,K6⟩:=hcut
     clear K5 F5
     have HBO:=hid hbb
     clear hbb
     have F6:=K6.facts
     simp only [zg] at F6
     go_upto_if 73 with (fail)
     go_cut [] from 74 to 74 (fun wx=>∃ y:Ex,ExGd 1 y∧Hold M (some T) w wx [.blk gn 126 #[.int .i64 y.kind,.int .i64 y.op,.bool y.nt,.int .i64 y.v.k,.int .i64 y.v.i,.string y.v.s,.string y.tab,.string y.nm,.slice y.A y.n y.c,.slice y.B y.m y.d],.ro (ExIn 1 y),.blk gr 97 #[.int .i64 0,.string ⟨#[]⟩,.slice none 0 0,.slice none 0 0,.slice none 0 0,.slice none 0 0,.string ⟨#[]⟩],.cst gp 177 #[.slice fA fn fc,.slice sA sn sc],.cst gs 49 #[.string snm,.slice (some ⟨bC,oC,none⟩) cn cc],.cst gt 40 #[.string tn,.string tt,.bool false,.int .i64 te,.slice oA on oc,.bool tch,.slice pA pn pc,.slice qA qn qc,.slice rA rn rc,.slice kA kn kc,.slice aA an ac],.ro (SlR 4 (some ⟨bC,oC,none⟩) cn (Zd cl)),.ro (Zg ⟨⟨fA,fn,fc,fl⟩,⟨sA,sn,sc,sl⟩⟩),.ro Wds,.tp T])
     case first=>
      cases bb
      ·go_wp2_with fail
       go_meet
       exact ⟨y0,HY0.out,K6.pick [2,3,4,5,6,7,8,9,10,11] (by decide) rfl⟩
      ·have KC:=((((((((((K6.store 2 rfl 0 (.int .i64 x.kind)).store 2 rfl 1 (.int .i64 x.op)).store 2 rfl 2 (.bool x.nt)).store 2 rfl 3 (.int .i64 x.v.k)).store 2 rfl 4 (.int .i64 x.v.i)).store 2 rfl 5 (.string x.v.s)).store 2 rfl 6 (.string x.tab)).store 2 rfl 7 (.string x.nm)).store 2 rfl 8 (.slice x.A x.n x.c)).store 2 rfl 9 (.slice x.B x.m x.d))
       simp only [zl] at KC
       go_wp2_with fail
       go_meet
       have h2:ok=true:=(by simpa using HBO.out)
       exact ⟨x,HXK.out h2,KC.pick [2,1,4,5,6,7,8,9,10,11] (by decide) rfl⟩
     case rest=>
      obtain ⟨y,hy,K7⟩:=hcut
      clear K6 F6 HBO HXK HY0
      have HYO:=hid hy
      clear hy
      have F7:=K7.facts
      simp only [zg] at F7
      go_wp2_with fail
      refine (ZQ T 7 _ (K7.tp_ 9 rfl) (by omega) (by omega)).mono ?_
      rintro e w8 ⟨r,rfl,r0,r1,t8,g8⟩
      have K1:=Hold.Zf K7 9 rfl g8 t8
      clear K7 F7 t8 g8
      have F1:=K1.facts
      simp only [zg] at F1
      by_cases e0:r=0
      ·subst e0
       obtain ⟨KM,hKM,K6⟩:=K1.name
       have H1:∀ wv:World,Hold M (some T) w wv KM→Blk wv gn 126 #[.int .i64 y.kind,.int .i64 y.op,.bool y.nt,.int .i64 y.v.k,.int .i64 y.v.i,.string y.v.s,.string y.tab,.string y.nm,.slice y.A y.n y.c,.slice y.B y.m y.d]:=fun wv h=>by rw [hKM] at h;exact h.Zy 0 rfl
       have H2:∀ wv:World,Hold M (some T) w wv KM→Blk wv gt 40 #[.string tn,.string tt,.bool false,.int .i64 te,.slice oA on oc,.bool tch,.slice pA pn pc,.slice qA qn qc,.slice rA rn rc,.slice kA kn kc,.slice aA an ac]:=fun wv h=>by rw [hKM] at h;exact h.ZB 5 rfl
       have h4:KM[9]? =some (.tp T):=by rw [hKM];rfl
       have HH1:=hid H1
       have HH2:=hid H2
       have HH4:=hid h4
       have HKM:=hid hKM
       clear hKM H1 H2 h4 K1
       go_wp2_with fail
       clear F1
       refine wp_region_any (by as_aux_lemma=>kernel_rfl) ?_
       refine ZH 5 187 (KM) (spL [(83,Zh (Mut M KM) 1)]) (by as_aux_lemma=>kernel_rfl) (by as_aux_lemma=>kernel_rfl) (by as_aux_lemma=>kernel_rfl) rfl ?_ (K6.drew) ?_
       ·exact Ze Z7 (ZF _)
       simp only [zd,Act.put,List.getElem_toArray,List.getElem_cons_zero,List.getElem_cons_succ,zl]
       refine' dv rfl rfl rfl (fun wv HC=>?_) ?_;rotate_left
       ·obtain q0:=(HH1.out _ HC).cell 0;obtain q1:=(HH1.out _ HC).cell 1;obtain q2:=(HH1.out _ HC).cell 2;obtain q3:=(HH1.out _ HC).cell 3;obtain q4:=(HH1.out _ HC).cell 4;obtain q5:=(HH1.out _ HC).cell 5;obtain q6:=(HH1.out _ HC).cell 6;obtain q7:=(HH1.out _ HC).cell 7;obtain q8:=(HH1.out _ HC).cell 8;obtain q9:=(HH1.out _ HC).cell 9;go_simp<;>rfl
       simp only [Act.put,zl]
       refine' dv rfl rfl rfl (fun wv HC=>?_) ?_;rotate_left
       · go_simp<;>rfl
       simp only [Act.put,zl]
       refine' dv rfl rfl rfl (fun wv HC=>?_) ?_;rotate_left
       ·obtain q0:=(HH2.out _ HC).cell 0;go_simp<;>rfl
       simp only [Act.put,zl]
       refine' dv rfl rfl rfl (fun wv HC=>?_) ?_;rotate_left
       · go_simp<;>rfl
       simp only [Act.put,zl]
       refine Zq 83 (Zh (Mut M KM) 1) (f:=154) (args:=#[.agg #[.int .i64 3,.int .i64 0,.string tn]]) rfl rfl rfl rfl (fun wv=>?_) (fun wv HC hrm hD=>?_) ?_
       ·go_simp<;>rfl
       ·refine (WZ wv ⟨3,0,tn⟩).mono ?_
        rintro e w5 ⟨rfl,b5⟩
        exact ⟨_,rfl,⟨_,rfl,Wu _ (Zo 3 (by decide)) (Zo 0 (by decide)),fun w2 _ _=>WB _ w2⟩,HC.call b5,RM.below b5⟩
       rintro u wx HCx ⟨c1,rfl,hx,rx⟩
       clear HCx hx rx
       simp only [Act.put,zl]
       refine ZE ?_
       rintro wx3 HX
       rintro _hrm HGW
       have hu:Zh (Mut M KM) 1 c1.val wx3:=(Zp (d:=83) rfl).1 (HGW 4 _ rfl (by omega))
       clear HGW _hrm
       obtain ⟨z,hz,hok,hro⟩:=hu
       rw [HKM.out] at HX hro
       rw [hz]
       rw [show z.val=.agg #[.int .i64 z.kind,.int .i64 z.op,.bool z.nt,.int .i64 z.v.k,.int .i64 z.v.i,.string z.v.s,.string z.tab,.string z.nm,.slice z.A z.n z.c,.slice z.B z.m z.d] from rfl]
       clear hz HH1 HH2 HH4 HKM K6 c1
       have HOK:=hid hok
       have K2:=((HX.add hro).Za #[.int .i64 y.kind,.int .i64 y.op,.bool y.nt,.int .i64 y.v.k,.int .i64 y.v.i,.string y.v.s,.string y.tab,.string y.nm,.slice y.A y.n y.c,.slice y.B y.m y.d,.int .i64 z.kind,.int .i64 z.op,.bool z.nt,.int .i64 z.v.k,.int .i64 z.v.i,.string z.v.s,.string z.tab,.string z.nm,.slice z.A z.n z.c,.slice z.B z.m z.d] 126).Za #[.slice (some ⟨wx3.heap.size,0,none⟩) 2 2] 37
       rw [World.size_alloc] at K2
       have F2:=K2.facts
       simp only [zg] at F2
       clear HX hro hok
       have K7:=(((((((K2.store 5 rfl 0 (.int .i64 1)).store 5 rfl 1 (.string ⟨#[108,111,103]⟩)).store 5 rfl 2 (.slice (some ⟨wx3.heap.size+1,0,none⟩) 1 1)).store 5 rfl 3 (.slice none 0 0)).store 5 rfl 4 (.slice none 0 0)).store 5 rfl 5 (.slice none 0 0)).store 5 rfl 6 (.string ⟨#[]⟩))
       simp only [zl] at K7
       have F7:=K7.facts
       simp only [zg] at F7
       have KZ:=K7
       have hR:Ro _ _ (AcIn 5 ⟨1,⟨#[108,111,103]⟩,⟨some ⟨wx3.heap.size+1,0,none⟩,1,1,[⟨some ⟨wx3.heap.size,0,none⟩,2,2,[y,z]⟩]⟩,SlP.nil,SlP.nil,SlP.nil,⟨#[]⟩⟩):=((ZJ (KZ.get 0 rfl) rfl:Ro _ _ (SlR 1 (some ⟨wx3.heap.size+1,0,none⟩) 1 [.slice (some ⟨wx3.heap.size,0,none⟩) 2 2])).and (XC (d:=1) (l:=[y,z]) (KZ.get 1 rfl) rfl (fun a ha=>by
        simp only [List.mem_cons,List.not_mem_nil,or_false] at ha
        rcases ha with rfl|rfl
        ·exact KZ.ro 4 rfl
        ·exact KZ.ro 2 rfl))).imp fun w2 h2=>⟨⟨h2.1,fun r hr=>by
        simp only [List.mem_cons,List.not_mem_nil,or_false] at hr
        subst hr
        exact ⟨h2.2.1,fun x hx=>(h2.2.2 x hx).le (by omega)⟩⟩,SlP.Zi _ _ _ w2,SlP.Zi _ _ _ w2,SlP.Zi _ _ _ w2⟩
       have HR:=hid (hR.less zm)
       have HT:=hid (And.intro (KZ.tp_ 12 rfl) KZ.grow)
       have HGD:=hid (show AcGd 5 ⟨1,⟨#[108,111,103]⟩,⟨some ⟨wx3.heap.size+1,0,none⟩,1,1,[⟨some ⟨wx3.heap.size,0,none⟩,2,2,[y,z]⟩]⟩,SlP.nil,SlP.nil,SlP.nil,⟨#[]⟩⟩ from ⟨⟨by simp,by simp⟩,YP (by omega) ⟨⟨Nat.le_refl _,by simp⟩,by simp,fun a ha=>by
        simp only [List.mem_cons,List.not_mem_nil,or_false] at ha
        rcases ha with rfl|rfl
        ·exact HYO.out.le (by omega)
        ·exact HOK.out.le (by omega)⟩,LsOk.nil _ _,LsOk.nil _ _,LsOk.nil _ _⟩)
       clear K2 K7 KZ hR
       go_wp2_with fail
       refine bodyPost_ret (v:=.agg #[.int .i64 1,.string ⟨#[108,111,103]⟩,.slice (some ⟨wx3.heap.size+1,0,none⟩) 1 1,.slice none 0 0,.slice none 0 0,.slice none 0 0,.string ⟨#[]⟩]) ?_ rfl ?_
       ·clear HT HR HGD
        simp [results,Tryz.results100,go_sem,F7]
       ·exact ⟨⟨1,⟨#[108,111,103]⟩,⟨some ⟨wx3.heap.size+1,0,none⟩,1,1,[⟨some ⟨wx3.heap.size,0,none⟩,2,2,[y,z]⟩]⟩,SlP.nil,SlP.nil,SlP.nil,⟨#[]⟩⟩,rfl,HGD.out,HR.out,HT.out.1,HT.out.2⟩
      ·by_cases e1:r=1
       ·subst e1
        obtain ⟨KM,hKM,K6⟩:=K1.name
        have H1:∀ wv:World,Hold M (some T) w wv KM→Blk wv gn 126 #[.int .i64 y.kind,.int .i64 y.op,.bool y.nt,.int .i64 y.v.k,.int .i64 y.v.i,.string y.v.s,.string y.tab,.string y.nm,.slice y.A y.n y.c,.slice y.B y.m y.d]:=fun wv h=>by rw [hKM] at h;exact h.Zy 0 rfl
        have h4:KM[9]? =some (.tp T):=by rw [hKM];rfl
        have HH1:=hid H1
        have HH4:=hid h4
        have HKM:=hid hKM
        clear hKM H1 h4 K1
        go_wp2_with fail
        clear F1
        refine wp_region_any (by as_aux_lemma=>kernel_rfl) ?_
        refine ZH 19 187 (KM) (spL [(89,ValsSlot (Mut M KM) 2 [.string ⟨#[110]⟩,.string ⟨#[109]⟩]),(91,fun u _=>Z6 2 u),(92,Xh (Mut M KM) WT),(93,Wo),(95,fun u _=>Z6 2 u),(97,ValsSlot (Mut M KM) 2 [.string ⟨#[110]⟩,.string ⟨#[109]⟩]),(99,fun u _=>Z6 2 u),(100,Xh (Mut M KM) WT),(101,Wo),(102,Zh (Mut M KM) 1),(104,fun u _=>Z6 3 u),(106,Zh (Mut M KM) 2),(107,Zh (Mut M KM) 3)]) (by as_aux_lemma=>kernel_rfl) (by as_aux_lemma=>kernel_rfl) (by as_aux_lemma=>kernel_rfl) rfl ?_ (K6.drew) ?_
        ·exact Ze Jv (Ze (fun _ _ _ _ h=>h) (Ze QO (Ze QH (Ze (fun _ _ _ _ h=>h) (Ze Jv (Ze (fun _ _ _ _ h=>h) (Ze QO (Ze QH (Ze Z7 (Ze (fun _ _ _ _ h=>h) (Ze Z7 (Ze Z7 (ZF _)))))))))))))
        simp only [zd,Act.put,List.getElem_toArray,List.getElem_cons_zero,List.getElem_cons_succ,zl]
        refine Ye #[.string ⟨#[110]⟩,.string ⟨#[109]⟩] 9 89 (ValsSlot (Mut M KM) 2 [.string ⟨#[110]⟩,.string ⟨#[109]⟩]) (fun g=>.slice (some ⟨g,0,none⟩) 2 2) rfl rfl rfl rfl (fun wv=>?_) (fun wv HC _hrm hD hro=>?_) ?_
        ·go_simp<;>rfl
        ·exact ⟨_,rfl,rfl,ZJ (hro _ HC.Zc) rfl⟩
        rintro ga1 wg HCg hg21
        simp only [Act.put,zl]
        clear HCg hg21
        refine' dv rfl rfl rfl (fun wv HC=>?_) ?_;rotate_left
        · go_simp<;>rfl
        simp only [Act.put,zl]
        refine Yk 2 9 HH4.out 91 rfl rfl rfl rfl (fun wv=>?_) (fun ra1 hra1=>?_)
        ·go_simp<;>rfl
        have ira1:(ra1:Int)<2:=by omega
        have jra1:(0:Int)≤(ra1:Int):=by omega
        simp only [Act.put,zl]
        refine XW 92 (Xh (Mut M KM) WT) rfl rfl rfl rfl (fun wv HC hD=>?_) ?_
        ·have ha:ValsSlot (Mut M KM) 2 [.string ⟨#[110]⟩,.string ⟨#[109]⟩] (.slice (some ⟨ga1,0,none⟩) 2 2) wv:=ZV hD 0 rfl (by as_aux_lemma=>kernel_rfl) rfl rfl
         refine ⟨.pointer (some ⟨ga1,ra1,none⟩),?_,ha.cell (by intro z hz;simp only [List.mem_cons,List.not_mem_nil,or_false] at hz;rcases hz with rfl|rfl<;>exact ⟨_,rfl⟩) hra1⟩
         go_simp
        rintro u wx HCx ⟨gz,oz,zz,rfl,hz,-⟩
        clear HCx hz
        simp only [Act.put,zl]
        refine XW 93 Wo rfl rfl rfl rfl (fun wv HC hD=>?_) ?_
        ·obtain ⟨g',o',z,e',hz,hc⟩:Xh (Mut M KM) WT (.pointer (some ⟨gz,oz,none⟩)) wv:=ZV hD 3 rfl (by as_aux_lemma=>kernel_rfl) rfl rfl
         obtain ⟨rfl,rfl⟩:gz=g' ∧oz=o' :=by injection e' with e';injection e' with e';injection e' with e1 e2;exact ⟨e1,e2⟩
         have hc0:=hc.now
         obtain ⟨z',rfl⟩:=hz
         refine ⟨.string z',?_,⟨z',rfl⟩⟩
         go_simp
        rintro u wx HCx ⟨nm1,rfl⟩
        clear HCx
        simp only [Act.put,zl]
        refine' dv rfl rfl rfl (fun wv HC=>?_) ?_;rotate_left
        · go_simp<;>rfl
        simp only [Act.put,zl]
        refine Yk 2 9 HH4.out 95 rfl rfl rfl rfl (fun wv=>?_) (fun ro1 hro1=>?_)
        ·go_simp<;>rfl
        have hwr1:IntKind.i64.wrap (9+(ro1:Int))=9+ro1:=IntWalk.i64_in _ (by omega)
        simp only [Act.put,zl]
        refine' dv rfl rfl rfl (fun wv HC=>?_) ?_;rotate_left
        · go_simp<;>rfl
        simp only [Act.put,zl]
        refine Ye #[.string ⟨#[110]⟩,.string ⟨#[109]⟩] 9 97 (ValsSlot (Mut M KM) 2 [.string ⟨#[110]⟩,.string ⟨#[109]⟩]) (fun g=>.slice (some ⟨g,0,none⟩) 2 2) rfl rfl rfl rfl (fun wv=>?_) (fun wv HC _hrm hD hro=>?_) ?_
        ·go_simp<;>rfl
        ·exact ⟨_,rfl,rfl,ZJ (hro _ HC.Zc) rfl⟩
        rintro ga2 wg HCg hg21
        simp only [Act.put,zl]
        clear HCg hg21
        refine' dv rfl rfl rfl (fun wv HC=>?_) ?_;rotate_left
        · go_simp<;>rfl
        simp only [Act.put,zl]
        refine Yk 2 9 HH4.out 99 rfl rfl rfl rfl (fun wv=>?_) (fun ra2 hra2=>?_)
        ·go_simp<;>rfl
        have ira2:(ra2:Int)<2:=by omega
        have jra2:(0:Int)≤(ra2:Int):=by omega
        simp only [Act.put,zl]
        refine XW 100 (Xh (Mut M KM) WT) rfl rfl rfl rfl (fun wv HC hD=>?_) ?_
        ·have ha:ValsSlot (Mut M KM) 2 [.string ⟨#[110]⟩,.string ⟨#[109]⟩] (.slice (some ⟨ga2,0,none⟩) 2 2) wv:=ZV hD 8 rfl (by as_aux_lemma=>kernel_rfl) rfl rfl
         refine ⟨.pointer (some ⟨ga2,ra2,none⟩),?_,ha.cell (by intro z hz;simp only [List.mem_cons,List.not_mem_nil,or_false] at hz;rcases hz with rfl|rfl<;>exact ⟨_,rfl⟩) hra2⟩
         go_simp
        rintro u wx HCx ⟨gz,oz,zz,rfl,hz,-⟩
        clear HCx hz
        simp only [Act.put,zl]
        refine XW 101 Wo rfl rfl rfl rfl (fun wv HC hD=>?_) ?_
        ·obtain ⟨g',o',z,e',hz,hc⟩:Xh (Mut M KM) WT (.pointer (some ⟨gz,oz,none⟩)) wv:=ZV hD 11 rfl (by as_aux_lemma=>kernel_rfl) rfl rfl
         obtain ⟨rfl,rfl⟩:gz=g' ∧oz=o' :=by injection e' with e';injection e' with e';injection e' with e1 e2;exact ⟨e1,e2⟩
         have hc0:=hc.now
         obtain ⟨z',rfl⟩:=hz
         refine ⟨.string z',?_,⟨z',rfl⟩⟩
         go_simp
        rintro u wx HCx ⟨nm2,rfl⟩
        clear HCx
        simp only [Act.put,zl]
        refine Zq 102 (Zh (Mut M KM) 1) (f:=133) (args:=#[.string ⟨#[]⟩,.string nm2]) rfl rfl rfl rfl (fun wv=>?_) (fun wv HC hrm hD=>?_) ?_
        ·go_simp<;>rfl
        ·refine (Xr wv ⟨#[]⟩ nm2).mono ?_
         rintro e w5 ⟨rfl,b5⟩
         exact ⟨_,rfl,⟨_,rfl,Xa _ _,fun w2 _ _=>Xc _ _ w2⟩,HC.call b5,RM.below b5⟩
        rintro u wx HCx ⟨c1,rfl,hx,rx⟩
        clear HCx hx rx
        simp only [Act.put,zl]
        refine' dv rfl rfl rfl (fun wv HC=>?_) ?_;rotate_left
        · go_simp<;>rfl
        simp only [Act.put,zl]
        refine Yk 3 9 HH4.out 104 rfl rfl rfl rfl (fun wv=>?_) (fun ro2 hro2=>?_)
        ·go_simp<;>rfl
        have hwr2:IntKind.i64.wrap (1+(ro2:Int))=1+ro2:=IntWalk.i64_in _ (by omega)
        simp only [Act.put,zl]
        refine' dv rfl rfl rfl (fun wv HC=>?_) ?_;rotate_left
        · go_simp<;>rfl
        simp only [Act.put,zl]
        refine Zq 106 (Zh (Mut M KM) 2) (f:=134) (args:=#[.int .i64 (1+(ro2:Int))]) rfl rfl rfl rfl (fun wv=>?_) (fun wv HC hrm hD=>?_) ?_
        ·go_simp<;>rfl
        ·refine (XG (Mut M KM) wv HC.Zc (1+(ro2:Int)) (by omega)).mono ?_
         rintro e w5 ⟨x,rfl,hx,rx,b5⟩
         exact ⟨_,rfl,⟨x,rfl,Xw hx (by omega) (by omega),rx⟩,HC.call b5,RM.below b5⟩
        rintro u wx HCx ⟨c2,rfl,hx,rx⟩
        clear HCx hx rx
        simp only [Act.put,zl]
        refine Zq 107 (Zh (Mut M KM) 3) (f:=132) (args:=#[.int .i64 (9+(ro1:Int)),c1.val,c2.val]) rfl rfl rfl rfl (fun wv=>?_) (fun wv HC hrm hD=>?_) ?_
        ·go_simp<;>rfl
        ·have h1:Zh (Mut M KM) 1 c1.val wv:=ZV hD 13 rfl (by as_aux_lemma=>kernel_rfl) rfl rfl
         have h2:Zh (Mut M KM) 2 c2.val wv:=ZV hD 17 rfl (by as_aux_lemma=>kernel_rfl) rfl rfl
         obtain ⟨y1,hy1,ok1,q1⟩:=h1
         obtain ⟨y2,hy2,ok2,q2⟩:=h2
         rw [hy1,hy2]
         refine (Xj (Mut M KM) wv HC.Zc (9+(ro1:Int)) y1 y2 2 (q1.imp fun w2 h2=>h2.le (by omega)) q2).mono ?_
         rintro e w5 ⟨g5,rfl,ry,b5⟩
         exact ⟨_,rfl,⟨_,rfl,YE (Zo 5 (by decide)) (show I64 _ from ⟨by omega,by omega⟩) (by omega) (fun a ha=>by
         simp only [List.mem_cons,List.not_mem_nil,or_false] at ha
         rcases ha with rfl|rfl
         ·exact ok1.le (by omega)
         ·exact ok2),ry⟩,HC.call b5,RM.below b5⟩
        rintro u wx HCx ⟨c3,rfl,hx,rx⟩
        clear HCx hx rx
        simp only [Act.put,zl]
        refine ZE ?_
        rintro wx3 HX
        rintro _hrm HGW
        have hu:Zh (Mut M KM) 3 c3.val wx3:=(Zp (d:=107) rfl).1 (HGW 18 _ rfl (by omega))
        clear HGW _hrm
        obtain ⟨z,hz,hok,hro⟩:=hu
        rw [HKM.out] at HX hro
        rw [hz]
        rw [show z.val=.agg #[.int .i64 z.kind,.int .i64 z.op,.bool z.nt,.int .i64 z.v.k,.int .i64 z.v.i,.string z.v.s,.string z.tab,.string z.nm,.slice z.A z.n z.c,.slice z.B z.m z.d] from rfl]
        clear hz HH1 HH4 HKM K6 c3
        have HOK:=hid hok
        have K2:=(HX.add hro).Za #[.string nm1,.int .i64 z.kind,.int .i64 z.op,.bool z.nt,.int .i64 z.v.k,.int .i64 z.v.i,.string z.v.s,.string z.tab,.string z.nm,.slice z.A z.n z.c,.slice z.B z.m z.d] 128
        have F2:=K2.facts
        simp only [zg] at F2
        clear HX hro hok
        have K7:=(((((((K2.store 4 rfl 0 (.int .i64 2)).store 4 rfl 1 (.string ⟨#[117]⟩)).store 4 rfl 2 (.slice none 0 0)).store 4 rfl 3 (.slice none 0 0)).store 4 rfl 4 (.slice (some ⟨wx3.heap.size,0,none⟩) 1 1)).store 4 rfl 5 (.slice none 0 0)).store 4 rfl 6 (.string ⟨#[]⟩))
        simp only [zl] at K7
        have F7:=K7.facts
        simp only [zg] at F7
        have KZ:=K7
        have hR:Ro _ _ (AcIn 5 ⟨2,⟨#[117]⟩,SlP.nil,SlP.nil,⟨some ⟨wx3.heap.size,0,none⟩,1,1,[⟨nm1,z⟩]⟩,SlP.nil,⟨#[]⟩⟩):=((VX (d:=5) (s:=⟨nm1,z⟩) (KZ.get 0 rfl) rfl ((KZ.ro 1 rfl).imp fun w2 h2=>h2.le (by omega)))).imp fun w2 h2=>⟨SlP.Zi _ _ _ w2,SlP.Zi _ _ _ w2,h2,SlP.Zi _ _ _ w2⟩
        have HR:=hid (hR.less zm)
        have HT:=hid (And.intro (KZ.tp_ 11 rfl) KZ.grow)
        have HGD:=hid (show AcGd 5 ⟨2,⟨#[117]⟩,SlP.nil,SlP.nil,⟨some ⟨wx3.heap.size,0,none⟩,1,1,[⟨nm1,z⟩]⟩,SlP.nil,⟨#[]⟩⟩ from ⟨⟨by simp,by simp⟩,LsOk.nil _ _,LsOk.nil _ _,YP (by omega) (HOK.out.le (by omega)),LsOk.nil _ _⟩)
        clear K2 K7 KZ hR
        go_wp2_with fail
        refine bodyPost_ret (v:=.agg #[.int .i64 2,.string ⟨#[117]⟩,.slice none 0 0,.slice none 0 0,.slice (some ⟨wx3.heap.size,0,none⟩) 1 1,.slice none 0 0,.string ⟨#[]⟩]) ?_ rfl ?_
        ·clear HT HR HGD
         simp [results,Tryz.results100,go_sem,F7]
        ·exact ⟨⟨2,⟨#[117]⟩,SlP.nil,SlP.nil,⟨some ⟨wx3.heap.size,0,none⟩,1,1,[⟨nm1,z⟩]⟩,SlP.nil,⟨#[]⟩⟩,rfl,HGD.out,HR.out,HT.out.1,HT.out.2⟩
       ·by_cases e2:r=2
        ·subst e2
         go_upto_region 16 with fail
         go_cut [13] from 113 to 117 (fun v wx=>∃ c:ByteArray,v=.string c∧Hold M (some T) w wx [.blk gn 126 #[.int .i64 y.kind,.int .i64 y.op,.bool y.nt,.int .i64 y.v.k,.int .i64 y.v.i,.string y.v.s,.string y.tab,.string y.nm,.slice y.A y.n y.c,.slice y.B y.m y.d],.ro (ExIn 1 y),.blk gr 97 #[.int .i64 0,.string ⟨#[]⟩,.slice none 0 0,.slice none 0 0,.slice none 0 0,.slice none 0 0,.string ⟨#[]⟩],.cst gp 177 #[.slice fA fn fc,.slice sA sn sc],.cst gs 49 #[.string snm,.slice (some ⟨bC,oC,none⟩) cn cc],.cst gt 40 #[.string tn,.string tt,.bool false,.int .i64 te,.slice oA on oc,.bool tch,.slice pA pn pc,.slice qA qn qc,.slice rA rn rc,.slice kA kn kc,.slice aA an ac],.ro (SlR 4 (some ⟨bC,oC,none⟩) cn (Zd cl)),.ro (Zg ⟨⟨fA,fn,fc,fl⟩,⟨sA,sn,sc,sl⟩⟩),.ro Wds,.tp T])
         case first=>
          have K2:=K1.Za #[.string ⟨#[110]⟩,.string ⟨#[109]⟩] 9
          have F2:=K2.facts
          simp only [zg] at F2
          clear F1
          go_wp2_with fail
          refine (ZQ T 2 _ (K2.tp_ 10 rfl) (by omega) (by omega)).mono ?_
          rintro e w9 ⟨r2,rfl,r20,r21,t9,g9⟩
          have K3:=Hold.Zf K2 10 rfl g9 t9
          clear K2 F2 t9 g9
          have F3:=K3.facts
          simp only [zg] at F3
          obtain rfl|rfl:r2=0∨r2=1:=by omega
          ·go_wp2_with fail
           go_meet
           exact ⟨_,rfl,K3.drop (List.sublist_cons_self _ _)⟩
          ·go_wp2_with fail
           go_meet
           exact ⟨_,rfl,K3.drop (List.sublist_cons_self _ _)⟩
         case rest=>
          obtain ⟨c,rfl,K2⟩:=hcut
          clear K1 F1
          go_wp2_with fail
          refine (ZQ T 2 _ (K2.tp_ 9 rfl) (by omega) (by omega)).mono ?_
          rintro e w9 ⟨r2,rfl,r20,r21,t9,g9⟩
          have K3:=Hold.Zf K2 9 rfl g9 t9
          have hwr2:IntKind.i64.wrap (9+r2)=9+r2:=IntWalk.i64_in _ (by omega)
          clear K2 t9 g9
          go_wp2_with fail
          refine (Xr _ ⟨#[]⟩ c).mono ?_
          rintro e wa ⟨rfl,ba⟩
          have K4:=(K3.call ba).add (S:=ExIn 1 (Zk ⟨#[]⟩ c)) (fun w2 _ _=>Xc _ _ w2)
          clear K3 ba
          have HC1:=hid (Xa ⟨#[]⟩ c)
          generalize Zk ⟨#[]⟩ c=z1 at *
          go_wp2_with fail
          refine (ZQ T 3 _ (K4.tp_ 10 rfl) (by omega) (by omega)).mono ?_
          rintro e w9 ⟨r3,rfl,r30,r31,t9,g9⟩
          have K5:=Hold.Zf K4 10 rfl g9 t9
          have hwr3:IntKind.i64.wrap (1+r3)=1+r3:=IntWalk.i64_in _ (by omega)
          clear K4 t9 g9
          go_wp2_with fail
          refine (XG _ _ K5.Zc (1+r3) (by omega)).mono ?_
          rintro e wb ⟨z2,rfl,hz2,rz2,bb⟩
          have K6:=(K5.call bb).add rz2
          have HC2:=hid (Xw hz2 (by omega) (by omega))
          clear K5 bb rz2 hz2
          rw [show z1.val=.agg #[.int .i64 z1.kind,.int .i64 z1.op,.bool z1.nt,.int .i64 z1.v.k,.int .i64 z1.v.i,.string z1.v.s,.string z1.tab,.string z1.nm,.slice z1.A z1.n z1.c,.slice z1.B z1.m z1.d] from rfl]
          rw [show z2.val=.agg #[.int .i64 z2.kind,.int .i64 z2.op,.bool z2.nt,.int .i64 z2.v.k,.int .i64 z2.v.i,.string z2.v.s,.string z2.tab,.string z2.nm,.slice z2.A z2.n z2.c,.slice z2.B z2.m z2.d] from rfl]
          go_wp2_with fail
          refine (Xj (Mut M _) _ K6.Zc (9+r2) z1 z2 2 ((K6.ro 1 rfl).imp fun w2 h2=>h2.le (by omega)) (K6.ro 0 rfl)).mono ?_
          rintro e wd ⟨gd,rfl,rd,bd⟩
          have HC3:=hid (YE (d:=2) (kind:=5) (op:=9+r2) (nt:=false) (g:=gd) (k:=2) (l:=[z1,z2]) (Zo 5 (by decide)) (show I64 _ from ⟨by omega,by omega⟩) (by omega) (fun a ha=>by
           simp only [List.mem_cons,List.not_mem_nil,or_false] at ha
           rcases ha with rfl|rfl
           ·exact HC1.out.le (by omega)
           ·exact HC2.out))
          generalize opE 5 (9+r2) false gd 2 [z1,z2]=z at *
          have K7:=((K6.call bd).add rd).Za #[.string c,.int .i64 z.kind,.int .i64 z.op,.bool z.nt,.int .i64 z.v.k,.int .i64 z.v.i,.string z.v.s,.string z.tab,.string z.nm,.slice z.A z.n z.c,.slice z.B z.m z.d] 128
          rw [show z.val=.agg #[.int .i64 z.kind,.int .i64 z.op,.bool z.nt,.int .i64 z.v.k,.int .i64 z.v.i,.string z.v.s,.string z.tab,.string z.nm,.slice z.A z.n z.c,.slice z.B z.m z.d] from rfl]
          clear K6 bd rd
          go_wp2_with fail
          refine (Vd T _ (K7.tp_ 13 rfl)).mono ?_
          rintro e we ⟨zz,rfl,zz0,zz1,te9,ge9⟩
          have K8:=Hold.Zf K7 13 rfl ge9 te9
          clear K7 te9 ge9
          go_wp2_with fail
          refine (JD (Mut M _) _ K8.Zc c zz 9 (by omega) (by omega)).mono ?_
          rintro e wf ⟨gf,n1,n2,rfl,hn1,hn2,rf,bf⟩
          have HC4:=hid (YE (d:=2) (kind:=7) (op:=0) (nt:=false) (g:=gf) (k:=3) (l:=[Zk ⟨#[]⟩ c,n1,n2]) (Zo 7 (by decide)) (Zo 0 (by decide)) (by omega) (fun a ha=>by
           simp only [List.mem_cons,List.not_mem_nil,or_false] at ha
           rcases ha with rfl|rfl|rfl
           ·exact (Xa _ _).le (by omega)
           ·exact Xw hn1 (by omega) (by omega)
           ·exact Xw hn2 (by omega) (by omega)))
          generalize opE 7 0 false gf 3 [Zk ⟨#[]⟩ c,n1,n2]=q at *
          have K2:=((K8.call bf).add rf).Za #[.int .i64 q.kind,.int .i64 q.op,.bool q.nt,.int .i64 q.v.k,.int .i64 q.v.i,.string q.v.s,.string q.tab,.string q.nm,.slice q.A q.n q.c,.slice q.B q.m q.d] 126
          rw [show q.val=.agg #[.int .i64 q.kind,.int .i64 q.op,.bool q.nt,.int .i64 q.v.k,.int .i64 q.v.i,.string q.v.s,.string q.tab,.string q.nm,.slice q.A q.n q.c,.slice q.B q.m q.d] from rfl]
          clear K8 bf rf hn1 hn2
          have F2:=K2.facts
          simp only [zg] at F2
          have K7:=(((((((K2.store 8 rfl 0 (.int .i64 2)).store 8 rfl 1 (.string ⟨#[117]⟩)).store 8 rfl 2 (.slice none 0 0)).store 8 rfl 3 (.slice none 0 0)).store 8 rfl 4 (.slice (some ⟨wd.heap.size,0,none⟩) 1 1)).store 8 rfl 5 (.slice (some ⟨wf.heap.size,0,none⟩) 1 1)).store 8 rfl 6 (.string ⟨#[]⟩))
          simp only [zl] at K7
          have F7:=K7.facts
          simp only [zg] at F7
          have KZ:=K7
          have hR:Ro _ _ (AcIn 5 ⟨2,⟨#[117]⟩,SlP.nil,SlP.nil,⟨some ⟨wd.heap.size,0,none⟩,1,1,[⟨c,z⟩]⟩,⟨some ⟨wf.heap.size,0,none⟩,1,1,[q]⟩,⟨#[]⟩⟩):=((VX (d:=5) (s:=⟨c,z⟩) (KZ.get 2 rfl) rfl ((KZ.ro 3 rfl).imp fun w2 h2=>h2.le (by omega))).and (XD (KZ.get 0 rfl) rfl (KZ.ro 1 rfl))).imp fun w2 h2=>⟨SlP.Zi _ _ _ w2,SlP.Zi _ _ _ w2,h2.1,h2.2.1,fun x hx=>(h2.2.2 x hx).le (by omega)⟩
          have HR:=hid (hR.less zm)
          have HT:=hid (And.intro (KZ.tp_ 15 rfl) KZ.grow)
          have HGD:=hid (show AcGd 5 ⟨2,⟨#[117]⟩,SlP.nil,SlP.nil,⟨some ⟨wd.heap.size,0,none⟩,1,1,[⟨c,z⟩]⟩,⟨some ⟨wf.heap.size,0,none⟩,1,1,[q]⟩,⟨#[]⟩⟩ from ⟨⟨by simp,by simp⟩,LsOk.nil _ _,LsOk.nil _ _,YP (by omega) (HC3.out.le (by omega)),YP (by omega) (HC4.out.le (by omega))⟩)
          clear K2 K7 KZ hR
          go_wp2_with fail
          refine bodyPost_ret (v:=.agg #[.int .i64 2,.string ⟨#[117]⟩,.slice none 0 0,.slice none 0 0,.slice (some ⟨wd.heap.size,0,none⟩) 1 1,.slice (some ⟨wf.heap.size,0,none⟩) 1 1,.string ⟨#[]⟩]) ?_ rfl ?_
          ·clear HT HR HGD
           simp [results,Tryz.results100,go_sem,F7]
          ·exact ⟨⟨2,⟨#[117]⟩,SlP.nil,SlP.nil,⟨some ⟨wd.heap.size,0,none⟩,1,1,[⟨c,z⟩]⟩,⟨some ⟨wf.heap.size,0,none⟩,1,1,[q]⟩,⟨#[]⟩⟩,rfl,HGD.out,HR.out,HT.out.1,HT.out.2⟩
        ·by_cases e3:r=3
         ·subst e3
          go_upto_region 19 with fail
          go_cut [145] from 139 to 145 (fun v wx=>∃ bb:Bool,v=.bool bb∧Hold M (some T) w wx [.blk gn 126 #[.int .i64 y.kind,.int .i64 y.op,.bool y.nt,.int .i64 y.v.k,.int .i64 y.v.i,.string y.v.s,.string y.tab,.string y.nm,.slice y.A y.n y.c,.slice y.B y.m y.d],.ro (ExIn 1 y),.blk gr 97 #[.int .i64 0,.string ⟨#[]⟩,.slice none 0 0,.slice none 0 0,.slice none 0 0,.slice none 0 0,.string ⟨#[]⟩],.cst gp 177 #[.slice fA fn fc,.slice sA sn sc],.cst gs 49 #[.string snm,.slice (some ⟨bC,oC,none⟩) cn cc],.cst gt 40 #[.string tn,.string tt,.bool false,.int .i64 te,.slice oA on oc,.bool tch,.slice pA pn pc,.slice qA qn qc,.slice rA rn rc,.slice kA kn kc,.slice aA an ac],.ro (SlR 4 (some ⟨bC,oC,none⟩) cn (Zd cl)),.ro (Zg ⟨⟨fA,fn,fc,fl⟩,⟨sA,sn,sc,sl⟩⟩),.ro Wds,.tp T])
          case first=>
           cases tch
           ·go_wp2_with fail
            go_meet
            exact ⟨_,rfl,K1⟩
           ·go_wp2_with fail
            go_meet
            exact ⟨_,rfl,K1⟩
          case rest=>
           obtain ⟨bb,rfl,K2⟩:=hcut
           clear K1 F1
           have K1:=K2
           clear K2
           have F1:=K1.facts
           simp only [zg] at F1
           cases bb
           ·go_wp2_with fail
            refine (Zbp (WC 1) (Mut M _) T _ K1.Zc (K1.tp_ 9 rfl) (K1.get 9 rfl).2 ⟨⟨fA,fn,fc,fl⟩,⟨sA,sn,sc,sl⟩⟩ 1 ((K1.ro 7 rfl).less (Zj (i:=9) rfl)) ((K1.ro 8 rfl).less (Zj (i:=9) rfl)) hT (HBN.out 2 (by omega)) (by omega) (by omega) HS.out).mono ?_
            rintro e w9 ⟨a,rfl,ha,ra,t9,g9⟩
            have K2:=(Hold.Zf K1 9 rfl g9 t9).add ra
            clear K1 F1 t9 g9 ra
            have F2:=K2.facts
            simp only [zg] at F2
            rw [show a.val=.agg #[.int .i64 a.kind,.string a.tab,.slice a.rows.A a.rows.n a.rows.c,.slice a.qs.A a.qs.n a.qs.c,.slice a.sets.A a.sets.n a.sets.c,.slice a.wh.A a.wh.n a.wh.c,.string a.text] from rfl]
            have HA:=hid ha
            clear ha
            have K7:=(((((((K2.store 3 rfl 0 (.int .i64 a.kind)).store 3 rfl 1 (.string (a.tab))).store 3 rfl 2 (.slice a.rows.A a.rows.n a.rows.c)).store 3 rfl 3 (.slice a.qs.A a.qs.n a.qs.c)).store 3 rfl 4 (.slice a.sets.A a.sets.n a.sets.c)).store 3 rfl 5 (.slice a.wh.A a.wh.n a.wh.c)).store 3 rfl 6 (.string (a.text)))
            simp only [zl] at K7
            have F7:=K7.facts
            simp only [zg] at F7
            have KZ:=K7
            have hR:Ro _ _ (AcIn 5 a):=(KZ.ro 0 rfl).imp fun w2 h2=>h2.le (by omega)
            have HR:=hid (hR.less zm)
            have HT:=hid (And.intro (KZ.tp_ 10 rfl) KZ.grow)
            have HGD:=hid (show AcGd 5 a from HA.out.le (by omega))
            clear K2 K7 KZ hR
            go_wp2_with fail
            refine bodyPost_ret (v:=.agg #[.int .i64 a.kind,.string (a.tab),.slice a.rows.A a.rows.n a.rows.c,.slice a.qs.A a.qs.n a.qs.c,.slice a.sets.A a.sets.n a.sets.c,.slice a.wh.A a.wh.n a.wh.c,.string (a.text)]) ?_ rfl ?_
            ·clear HT HR HGD
             simp [results,Tryz.results100,go_sem,F7]
            ·exact ⟨a,rfl,HGD.out,HR.out,HT.out.1,HT.out.2⟩
           ·go_upto_if 148 with (fail)
            go_cut [14] from 148 to 148 (fun v wx=>∃ q:ByteArray,v=.string q∧Hold M (some T) w wx [.blk gn 126 #[.int .i64 y.kind,.int .i64 y.op,.bool y.nt,.int .i64 y.v.k,.int .i64 y.v.i,.string y.v.s,.string y.tab,.string y.nm,.slice y.A y.n y.c,.slice y.B y.m y.d],.ro (ExIn 1 y),.blk gr 97 #[.int .i64 0,.string ⟨#[]⟩,.slice none 0 0,.slice none 0 0,.slice none 0 0,.slice none 0 0,.string ⟨#[]⟩],.cst gp 177 #[.slice fA fn fc,.slice sA sn sc],.cst gs 49 #[.string snm,.slice (some ⟨bC,oC,none⟩) cn cc],.cst gt 40 #[.string tn,.string tt,.bool false,.int .i64 te,.slice oA on oc,.bool tch,.slice pA pn pc,.slice qA qn qc,.slice rA rn rc,.slice kA kn kc,.slice aA an ac],.ro (SlR 4 (some ⟨bC,oC,none⟩) cn (Zd cl)),.ro (Zg ⟨⟨fA,fn,fc,fl⟩,⟨sA,sn,sc,sl⟩⟩),.ro Wds,.tp T])
            case first=>
             by_cases h3:te=3
             ·have h3b:(te==3)=true:=by simpa using h3
              go_wp2_with fail
              all_goals first
               | (exfalso;contradiction)
               | (go_meet;exact ⟨_,rfl,K1⟩)
             ·have h3b:(te==3)=false:=by simpa using h3
              go_wp2_with fail
              all_goals first
               | (exfalso;contradiction)
               | (go_meet;exact ⟨_,rfl,K1⟩)
            case rest=>
             obtain ⟨q,rfl,K2⟩:=hcut
             clear K1 F1
             go_upto_region 23 with fail
             go_cut [15] from 149 to 153 (fun v wx=>∃ o:ByteArray,v=.string o∧Hold M (some T) w wx [.blk gn 126 #[.int .i64 y.kind,.int .i64 y.op,.bool y.nt,.int .i64 y.v.k,.int .i64 y.v.i,.string y.v.s,.string y.tab,.string y.nm,.slice y.A y.n y.c,.slice y.B y.m y.d],.ro (ExIn 1 y),.blk gr 97 #[.int .i64 0,.string ⟨#[]⟩,.slice none 0 0,.slice none 0 0,.slice none 0 0,.slice none 0 0,.string ⟨#[]⟩],.cst gp 177 #[.slice fA fn fc,.slice sA sn sc],.cst gs 49 #[.string snm,.slice (some ⟨bC,oC,none⟩) cn cc],.cst gt 40 #[.string tn,.string tt,.bool false,.int .i64 te,.slice oA on oc,.bool tch,.slice pA pn pc,.slice qA qn qc,.slice rA rn rc,.slice kA kn kc,.slice aA an ac],.ro (SlR 4 (some ⟨bC,oC,none⟩) cn (Zd cl)),.ro (Zg ⟨⟨fA,fn,fc,fl⟩,⟨sA,sn,sc,sl⟩⟩),.ro Wds,.tp T])
             case first=>
              have K3:=K2.Za #[.string ⟨#[116]⟩,.string ⟨#[117]⟩] 9
              have F3:=K3.facts
              simp only [zg] at F3
              go_wp2_with fail
              refine (ZQ T 2 _ (K3.tp_ 10 rfl) (by omega) (by omega)).mono ?_
              rintro e w9 ⟨r2,rfl,r20,r21,t9,g9⟩
              have K4:=Hold.Zf K3 10 rfl g9 t9
              clear K3 F3 t9 g9
              have F4:=K4.facts
              simp only [zg] at F4
              obtain rfl|rfl:r2=0∨r2=1:=by omega
              ·go_wp2_with fail
               go_meet
               exact ⟨_,rfl,K4.drop (List.sublist_cons_self _ _)⟩
              ·go_wp2_with fail
               go_meet
               exact ⟨_,rfl,K4.drop (List.sublist_cons_self _ _)⟩
             case rest=>
              obtain ⟨o,rfl,K3⟩:=hcut
              clear K2
              go_wp2_with fail
              refine (Xr _ ⟨#[]⟩ ⟨#[105,100]⟩).mono ?_
              rintro e wa ⟨rfl,ba⟩
              have K4:=(K3.call ba).add (S:=ExIn 1 (Zk ⟨#[]⟩ ⟨#[105,100]⟩)) (fun w2 _ _=>Xc _ _ w2)
              clear K3 ba
              have HC1:=hid (Xa ⟨#[]⟩ ⟨#[105,100]⟩)
              generalize Zk ⟨#[]⟩ ⟨#[105,100]⟩=z1 at *
              go_wp2_with fail
              refine (Xr _ q ⟨#[105,100]⟩).mono ?_
              rintro e wb ⟨rfl,bb⟩
              have K5:=(K4.call bb).add (S:=ExIn 1 (Zk q ⟨#[105,100]⟩)) (fun w2 _ _=>Xc _ _ w2)
              clear K4 bb
              have HC2:=hid (Xa q ⟨#[105,100]⟩)
              generalize Zk q ⟨#[105,100]⟩=z2 at *
              rw [show z1.val=.agg #[.int .i64 z1.kind,.int .i64 z1.op,.bool z1.nt,.int .i64 z1.v.k,.int .i64 z1.v.i,.string z1.v.s,.string z1.tab,.string z1.nm,.slice z1.A z1.n z1.c,.slice z1.B z1.m z1.d] from rfl]
              rw [show z2.val=.agg #[.int .i64 z2.kind,.int .i64 z2.op,.bool z2.nt,.int .i64 z2.v.k,.int .i64 z2.v.i,.string z2.v.s,.string z2.tab,.string z2.nm,.slice z2.A z2.n z2.c,.slice z2.B z2.m z2.d] from rfl]
              go_wp2_with fail
              refine (Xj (Mut M _) _ K5.Zc 3 z1 z2 1 (K5.ro 1 rfl) (K5.ro 0 rfl)).mono ?_
              rintro e wd ⟨gd,rfl,rd,bd⟩
              have HZO:=hid (YE (d:=1) (kind:=5) (op:=3) (nt:=false) (g:=gd) (k:=2) (l:=[z1,z2]) (Zo 5 (by decide)) (Zo 3 (by decide)) (by omega) (fun a ha=>by
               simp only [List.mem_cons,List.not_mem_nil,or_false] at ha
               rcases ha with rfl|rfl
               ·exact HC1.out
               ·exact HC2.out))
              generalize opE 5 3 false gd 2 [z1,z2]=z at *
              have K7:=((K5.call bd).add rd).alloc #[.int .i64 z.kind,.int .i64 z.op,.bool z.nt,.int .i64 z.v.k,.int .i64 z.v.i,.string z.v.s,.string z.tab,.string z.nm,.slice z.A z.n z.c,.slice z.B z.m z.d] 126
              rw [show z.val=.agg #[.int .i64 z.kind,.int .i64 z.op,.bool z.nt,.int .i64 z.v.k,.int .i64 z.v.i,.string z.v.s,.string z.tab,.string z.nm,.slice z.A z.n z.c,.slice z.B z.m z.d] from rfl]
              clear K5 bd rd
              have F7:=K7.facts
              simp only [zg] at F7
              go_wp2_with fail
              obtain ⟨gw,hgw⟩:∃ g,g=wd.heap.size:=⟨_,rfl⟩
              rw [←hgw] at K7 ⊢
              have HGW2:=hid hgw
              clear hgw F7
              refine (ZZ T 3 _ (K7.tp_ 13 rfl) (by omega) (by omega)).mono ?_
              rintro e w9 ⟨b9,rfl,t9,g9⟩
              have K8:=Hold.Zf K7 13 rfl g9 t9
              have K5:Hold M (some T) w w9 [.blk gw 126 #[.int .i64 z.kind,.int .i64 z.op,.bool z.nt,.int .i64 z.v.k,.int .i64 z.v.i,.string z.v.s,.string z.tab,.string z.nm,.slice z.A z.n z.c,.slice z.B z.m z.d],.ro (ExIn 2 z),.blk gn 126 #[.int .i64 y.kind,.int .i64 y.op,.bool y.nt,.int .i64 y.v.k,.int .i64 y.v.i,.string y.v.s,.string y.tab,.string y.nm,.slice y.A y.n y.c,.slice y.B y.m y.d],.ro (ExIn 1 y),.blk gr 97 #[.int .i64 0,.string ⟨#[]⟩,.slice none 0 0,.slice none 0 0,.slice none 0 0,.slice none 0 0,.string ⟨#[]⟩],.cst gp 177 #[.slice fA fn fc,.slice sA sn sc],.cst gs 49 #[.string snm,.slice (some ⟨bC,oC,none⟩) cn cc],.cst gt 40 #[.string tn,.string tt,.bool false,.int .i64 te,.slice oA on oc,.bool tch,.slice pA pn pc,.slice qA qn qc,.slice rA rn rc,.slice kA kn kc,.slice aA an ac],.ro (SlR 4 (some ⟨bC,oC,none⟩) cn (Zd cl)),.ro (Zg ⟨⟨fA,fn,fc,fl⟩,⟨sA,sn,sc,sl⟩⟩),.ro Wds,.tp T]:=K8.pick [0,1,4,5,6,7,8,9,10,11,12,13] (by decide) rfl
              clear K7 K8 t9 g9
              have F5:=K5.facts
              simp only [zg] at F5
              go_upto_if 159 with (fail)
              go_cut [] from 160 to 167 (fun wx=>∃ z2:Ex,ExGd 5 z2∧Hold M (some T) w wx [.blk gw 126 #[.int .i64 z2.kind,.int .i64 z2.op,.bool z2.nt,.int .i64 z2.v.k,.int .i64 z2.v.i,.string z2.v.s,.string z2.tab,.string z2.nm,.slice z2.A z2.n z2.c,.slice z2.B z2.m z2.d],.ro (ExIn 5 z2),.blk gn 126 #[.int .i64 y.kind,.int .i64 y.op,.bool y.nt,.int .i64 y.v.k,.int .i64 y.v.i,.string y.v.s,.string y.tab,.string y.nm,.slice y.A y.n y.c,.slice y.B y.m y.d],.ro (ExIn 1 y),.blk gr 97 #[.int .i64 0,.string ⟨#[]⟩,.slice none 0 0,.slice none 0 0,.slice none 0 0,.slice none 0 0,.string ⟨#[]⟩],.cst gp 177 #[.slice fA fn fc,.slice sA sn sc],.cst gs 49 #[.string snm,.slice (some ⟨bC,oC,none⟩) cn cc],.cst gt 40 #[.string tn,.string tt,.bool false,.int .i64 te,.slice oA on oc,.bool tch,.slice pA pn pc,.slice qA qn qc,.slice rA rn rc,.slice kA kn kc,.slice aA an ac],.ro (SlR 4 (some ⟨bC,oC,none⟩) cn (Zd cl)),.ro (Zg ⟨⟨fA,fn,fc,fl⟩,⟨sA,sn,sc,sl⟩⟩),.ro Wds,.tp T])
              case first=>
               cases b9
               ·go_wp2_with fail
                go_meet
                exact ⟨z,HZO.out.le (by omega),(K5.add ((K5.ro 1 rfl).imp (S' :=ExIn 5 z) fun w2 h2=>h2.le (by omega))).pick [1,0,3,4,5,6,7,8,9,10,11,12] (by decide) rfl⟩
               ·obtain ⟨KM,hKM,K6⟩:=K5.name
                have H1:∀ wv:World,Hold M (some T) w wv KM→Blk wv gw 126 #[.int .i64 z.kind,.int .i64 z.op,.bool z.nt,.int .i64 z.v.k,.int .i64 z.v.i,.string z.v.s,.string z.tab,.string z.nm,.slice z.A z.n z.c,.slice z.B z.m z.d]:=fun wv h=>by rw [hKM] at h;exact h.Zy 0 rfl
                have H2:∀ wv:World,Hold M (some T) w wv KM→Blk wv gp 177 #[.slice fA fn fc,.slice sA sn sc]:=fun wv h=>by rw [hKM] at h;exact h.ZB 5 rfl
                have H3:∀ wv:World,Hold M (some T) w wv KM→Ro wv (Mut M KM) (Zg ⟨⟨fA,fn,fc,fl⟩,⟨sA,sn,sc,sl⟩⟩)∧Ro wv (Mut M KM) Wds∧Tp wv T∧∀ b,(Mut M KM) b→T≤b:=fun wv h=>by rw [hKM] at h ⊢;exact ⟨h.ro 9 rfl,h.ro 10 rfl,h.tp_ 11 rfl,(h.get 11 rfl).2⟩
                have h4:KM[11]? =some (.tp T):=by rw [hKM];rfl
                have HH1:=hid H1
                have HH2:=hid H2
                have HH3:=hid H3
                have HH4:=hid h4
                have HKM:=hid hKM
                clear hKM H1 H2 H3 h4 K5
                go_wp2_with fail
                clear F5
                refine wp_region_any (by as_aux_lemma=>kernel_rfl) ?_
                refine ZH 7 187 (KM) (spL [(164,VT (Mut M KM)),(165,V7 (Mut M KM) 2),(166,Zh (Mut M KM) 4)]) (by as_aux_lemma=>kernel_rfl) (by as_aux_lemma=>kernel_rfl) (by as_aux_lemma=>kernel_rfl) rfl ?_ (K6.drew) ?_
                ·exact Ze ZcO (Ze ZgW (Ze Z7 (ZF _)))
                simp only [zd,Act.put,List.getElem_toArray,List.getElem_cons_zero,List.getElem_cons_succ,zl]
                refine' dv rfl rfl rfl (fun wv HC=>?_) ?_;rotate_left
                ·obtain q0:=(HH1.out _ HC).cell 0;obtain q1:=(HH1.out _ HC).cell 1;obtain q2:=(HH1.out _ HC).cell 2;obtain q3:=(HH1.out _ HC).cell 3;obtain q4:=(HH1.out _ HC).cell 4;obtain q5:=(HH1.out _ HC).cell 5;obtain q6:=(HH1.out _ HC).cell 6;obtain q7:=(HH1.out _ HC).cell 7;obtain q8:=(HH1.out _ HC).cell 8;obtain q9:=(HH1.out _ HC).cell 9;go_simp<;>rfl
                simp only [Act.put,zl]
                refine' dv rfl rfl rfl (fun wv HC=>?_) ?_;rotate_left
                · go_simp<;>rfl
                simp only [Act.put,zl]
                refine' dv rfl rfl rfl (fun wv HC=>?_) ?_;rotate_left
                ·obtain q0:=(HH2.out _ HC).cell 0;obtain q1:=(HH2.out _ HC).cell 1;go_simp<;>rfl
                simp only [Act.put,zl]
                refine' dv rfl rfl rfl (fun wv HC=>?_) ?_;rotate_left
                · go_simp<;>rfl
                simp only [Act.put,zl]
                refine Zq 164 (VT (Mut M KM)) (f:=14) (args:=#[.string o]) rfl rfl rfl rfl (fun wv=>?_) (fun wv HC hrm hD=>?_) ?_
                ·go_simp<;>rfl
                ·refine (Ur (Mut M KM) wv HC.Zc o).mono ?_
                 rintro e w5 ⟨A,m,c,rfl,hmc,hc4,r1,b5⟩
                 exact ⟨_,rfl,⟨⟨(ZP o).1,⟨A,m,c,(ZP o).2⟩⟩,rfl,by show m≤100;omega,r1.imp fun w2 h2=>⟨h2,fun _ _=>trivial⟩⟩,HC.call b5,RM.below b5⟩
                rintro u wx HCx ⟨s1,rfl,hs1,rs1⟩
                clear HCx hs1 rs1
                simp only [Act.put,zl]
                refine Zq 165 (V7 (Mut M KM) 2) (f:=158) (args:=#[.agg #[.slice fA fn fc,.slice sA sn sc],s1.val]) rfl rfl rfl rfl (fun wv=>?_) (fun wv HC hrm hD=>?_) ?_
                ·go_simp<;>rfl
                ·have h1:VT (Mut M KM) s1.val wv:=ZV hD 4 rfl (by as_aux_lemma=>kernel_rfl) rfl rfl
                 obtain ⟨s2,hs2,hn2,rs2⟩:=h1
                 rw [hs2]
                 obtain ⟨X0,X1,X2,X3⟩:=HH3.out _ HC
                 refine (UV (Mut M KM) wv HC.Zc ⟨⟨fA,fn,fc,fl⟩,⟨sA,sn,sc,sl⟩⟩ s2 X0 rs2 (by show fn≤1000;omega)).mono ?_
                 rintro e w5 ⟨A,c,rfl,hc,ro5,b5⟩
                 exact ⟨_,rfl,⟨_,rfl,GA (HBN.out 3 (by omega)) hn2 hc,ro5⟩,HC.call b5,RM.below b5⟩
                rintro u wx HCx ⟨p1,rfl,hp1,rp1⟩
                clear HCx hp1 rp1
                simp only [Act.put,zl]
                refine Zq 166 (Zh (Mut M KM) 4) (f:=99) (args:=#[.pointer (some ⟨T,0,none⟩),p1.val,.int .i64 2,.int .i64 2]) rfl rfl rfl rfl (fun wv=>?_) (fun wv HC hrm hD=>?_) ?_
                ·go_simp<;>rfl
                ·have h1:V7 (Mut M KM) 2 p1.val wv:=ZV hD 5 rfl (by as_aux_lemma=>kernel_rfl) rfl rfl
                 obtain ⟨p2,hp2,hn2,rp2⟩:=h1
                 rw [hp2]
                 obtain ⟨X0,X1,X2,X3⟩:=HH3.out _ HC
                 refine (WC 2 (Mut M KM) T wv HC.Zc X2 X3 p2 2 2 (rp2.less (Zj HH4.out)) (X1.less (Zj HH4.out)) hT hn2 (by omega) (by omega)).mono ?_
                 rintro e w5 ⟨x,rfl,hx,rx,t5,g5⟩
                 exact ⟨_,rfl,⟨x,rfl,hx,rx⟩,Hold.Zf HC 11 HH4.out g5 t5,RM.grown g5 (.inr ⟨_,List.mem_of_getElem? HH4.out,rfl⟩)⟩
                rintro u wx HCx ⟨c1,rfl,hx,rx⟩
                clear HCx hx rx
                simp only [Act.put,zl]
                refine ZE ?_
                rintro wx3 HX
                rintro _hrm HGW
                have hu:Zh (Mut M KM) 4 c1.val wx3:=(Zp (d:=166) rfl).1 (HGW 6 _ rfl (by omega))
                clear HGW _hrm
                obtain ⟨v,hv,hok,hro⟩:=hu
                rw [HKM.out] at HX hro
                rw [hv]
                rw [show v.val=.agg #[.int .i64 v.kind,.int .i64 v.op,.bool v.nt,.int .i64 v.v.k,.int .i64 v.v.i,.string v.v.s,.string v.tab,.string v.nm,.slice v.A v.n v.c,.slice v.B v.m v.d] from rfl]
                clear hv HH1 HH2 HH3 HH4 HKM K6 c1
                go_wp2_with fail
                refine (Xj (Mut M _) _ HX.Zc 2 z v 4 ((HX.ro 1 rfl).imp fun w2 h2=>h2.le (by omega)) hro).mono ?_
                rintro e w8 ⟨g8,rfl,ry,b8⟩
                have hyok:=hid (YE (d:=4) (kind:=5) (op:=2) (nt:=false) (g:=g8) (k:=2) (l:=[z,v]) (Zo 5 (by decide)) (Zo 2 (by decide)) (by omega) (fun a ha=>by
                 simp only [List.mem_cons,List.not_mem_nil,or_false] at ha
                 rcases ha with rfl|rfl
                 ·exact HZO.out.le (by omega)
                 ·exact hok))
                have KB:=((HX.call b8).add ry)
                generalize opE 5 2 false g8 2 [z,v]=z2 at *
                have FB:=KB.facts
                simp only [zg] at FB
                have KC:=((((((((((KB.store 1 rfl 0 (.int .i64 z2.kind)).store 1 rfl 1 (.int .i64 z2.op)).store 1 rfl 2 (.bool z2.nt)).store 1 rfl 3 (.int .i64 z2.v.k)).store 1 rfl 4 (.int .i64 z2.v.i)).store 1 rfl 5 (.string z2.v.s)).store 1 rfl 6 (.string z2.tab)).store 1 rfl 7 (.string z2.nm)).store 1 rfl 8 (.slice z2.A z2.n z2.c)).store 1 rfl 9 (.slice z2.B z2.m z2.d))
                simp only [zl] at KC
                rw [show z2.val=.agg #[.int .i64 z2.kind,.int .i64 z2.op,.bool z2.nt,.int .i64 z2.v.k,.int .i64 z2.v.i,.string z2.v.s,.string z2.tab,.string z2.nm,.slice z2.A z2.n z2.c,.slice z2.B z2.m z2.d] from rfl]
                clear HX b8 ry hro hok
                go_wp2_with fail
                go_meet
                exact ⟨z2,hyok.out.le (by omega),KC.pick [1,0,3,4,5,6,7,8,9,10,11,12] (by decide) rfl⟩
              case rest=>
               obtain ⟨z2,hz2,K6⟩:=hcut
               clear K5 F5
               have HZ2:=hid hz2
               clear hz2
               have qa0:=(K6.Zy 2 rfl).cell 0
               have qa1:=(K6.Zy 2 rfl).cell 1
               have qa2:=(K6.Zy 2 rfl).cell 2
               have qa3:=(K6.Zy 2 rfl).cell 3
               have qa4:=(K6.Zy 2 rfl).cell 4
               have qa5:=(K6.Zy 2 rfl).cell 5
               have qa6:=(K6.Zy 2 rfl).cell 6
               have qa7:=(K6.Zy 2 rfl).cell 7
               have qa8:=(K6.Zy 2 rfl).cell 8
               have qa9:=(K6.Zy 2 rfl).cell 9
               have K7:=K6.Za #[.string ⟨#[110]⟩,.int .i64 y.kind,.int .i64 y.op,.bool y.nt,.int .i64 y.v.k,.int .i64 y.v.i,.string y.v.s,.string y.tab,.string y.nm,.slice y.A y.n y.c,.slice y.B y.m y.d] 128
               have qb0:=(K7.Zy 1 rfl).cell 0
               have qb1:=(K7.Zy 1 rfl).cell 1
               have qb2:=(K7.Zy 1 rfl).cell 2
               have qb3:=(K7.Zy 1 rfl).cell 3
               have qb4:=(K7.Zy 1 rfl).cell 4
               have qb5:=(K7.Zy 1 rfl).cell 5
               have qb6:=(K7.Zy 1 rfl).cell 6
               have qb7:=(K7.Zy 1 rfl).cell 7
               have qb8:=(K7.Zy 1 rfl).cell 8
               have qb9:=(K7.Zy 1 rfl).cell 9
               simp only [List.getElem?_toArray,List.getElem?_cons_zero,List.getElem?_cons_succ] at qa0 qb0 qa1 qb1 qa2 qb2 qa3 qb3 qa4 qb4 qa5 qb5 qa6 qb6 qa7 qb7 qa8 qb8 qa9 qb9
               have K2:=K7.Za #[.int .i64 z2.kind,.int .i64 z2.op,.bool z2.nt,.int .i64 z2.v.k,.int .i64 z2.v.i,.string z2.v.s,.string z2.tab,.string z2.nm,.slice z2.A z2.n z2.c,.slice z2.B z2.m z2.d] 126
               rw [World.size_alloc] at K2
               have F2:=K2.facts
               simp only [zg] at F2
               clear K6 K7
               have K7:=(((((((K2.store 6 rfl 0 (.int .i64 2)).store 6 rfl 1 (.string o)).store 6 rfl 2 (.slice none 0 0)).store 6 rfl 3 (.slice none 0 0)).store 6 rfl 4 (.slice (some ⟨wc.heap.size,0,none⟩) 1 1)).store 6 rfl 5 (.slice (some ⟨wc.heap.size+1,0,none⟩) 1 1)).store 6 rfl 6 (.string ⟨#[]⟩))
               simp only [zl] at K7
               have F7:=K7.facts
               simp only [zg] at F7
               have KZ:=K7
               have hR:Ro _ _ (AcIn 5 ⟨2,o,SlP.nil,SlP.nil,⟨some ⟨wc.heap.size,0,none⟩,1,1,[⟨⟨#[110]⟩,y⟩]⟩,⟨some ⟨wc.heap.size+1,0,none⟩,1,1,[z2]⟩,⟨#[]⟩⟩):=((VX (d:=5) (s:=⟨⟨#[110]⟩,y⟩) (KZ.get 1 rfl) rfl ((KZ.ro 5 rfl).imp fun w2 h2=>h2.le (by omega))).and (XD (KZ.get 0 rfl) rfl (KZ.ro 3 rfl))).imp fun w2 h2=>⟨SlP.Zi _ _ _ w2,SlP.Zi _ _ _ w2,h2.1,h2.2⟩
               have HR:=hid (hR.less zm)
               have HT:=hid (And.intro (KZ.tp_ 13 rfl) KZ.grow)
               have HGD:=hid (show AcGd 5 ⟨2,o,SlP.nil,SlP.nil,⟨some ⟨wc.heap.size,0,none⟩,1,1,[⟨⟨#[110]⟩,y⟩]⟩,⟨some ⟨wc.heap.size+1,0,none⟩,1,1,[z2]⟩,⟨#[]⟩⟩ from ⟨⟨by simp,by simp⟩,LsOk.nil _ _,LsOk.nil _ _,YP (by omega) (HYO.out.le (by omega)),YP (by omega) HZ2.out⟩)
               clear K2 K7 KZ hR
               go_wp2_with fail
               refine bodyPost_ret (v:=.agg #[.int .i64 2,.string o,.slice none 0 0,.slice none 0 0,.slice (some ⟨wc.heap.size,0,none⟩) 1 1,.slice (some ⟨wc.heap.size+1,0,none⟩) 1 1,.string ⟨#[]⟩]) ?_ rfl ?_
               ·clear HT HR HGD
                simp [results,Tryz.results100,go_sem,F7]
               ·exact ⟨⟨2,o,SlP.nil,SlP.nil,⟨some ⟨wc.heap.size,0,none⟩,1,1,[⟨⟨#[110]⟩,y⟩]⟩,⟨some ⟨wc.heap.size+1,0,none⟩,1,1,[z2]⟩,⟨#[]⟩⟩,rfl,HGD.out,HR.out,HT.out.1,HT.out.2⟩
         ·by_cases e4:r=4
          ·subst e4
           obtain ⟨KM,hKM,K6⟩:=K1.name
           have H1:∀ wv:World,Hold M (some T) w wv KM→Blk wv gn 126 #[.int .i64 y.kind,.int .i64 y.op,.bool y.nt,.int .i64 y.v.k,.int .i64 y.v.i,.string y.v.s,.string y.tab,.string y.nm,.slice y.A y.n y.c,.slice y.B y.m y.d]:=fun wv h=>by rw [hKM] at h;exact h.Zy 0 rfl
           have H3:∀ wv:World,Hold M (some T) w wv KM→Ro wv (Mut M KM) (ExIn 1 y):=fun wv h=>by rw [hKM] at h ⊢;exact h.ro 1 rfl
           have h4:KM[9]? =some (.tp T):=by rw [hKM];rfl
           have HH1:=hid H1
           have HH3:=hid H3
           have HH4:=hid h4
           have HKM:=hid hKM
           clear hKM H1 H3 h4 K1
           go_wp2_with fail
           clear F1
           refine wp_region_any (by as_aux_lemma=>kernel_rfl) ?_
           refine ZH 5 187 (KM) (spL [(178,Wo),(179,Zh (Mut M KM) 1),(181,Zh (Mut M KM) 2)]) (by as_aux_lemma=>kernel_rfl) (by as_aux_lemma=>kernel_rfl) (by as_aux_lemma=>kernel_rfl) rfl ?_ (K6.drew) ?_
           ·exact Ze QH (Ze Z7 (Ze Z7 (ZF _)))
           simp only [zd,Act.put,List.getElem_toArray,List.getElem_cons_zero,List.getElem_cons_succ,zl]
           refine' dv rfl rfl rfl (fun wv HC=>?_) ?_;rotate_left
           · go_simp<;>rfl
           simp only [Act.put,zl]
           refine Zq 178 Wo (f:=96) (args:=#[.pointer (some ⟨T,0,none⟩)]) rfl rfl rfl rfl (fun wv=>?_) (fun wv HC hrm hD=>?_) ?_
           ·go_simp<;>rfl
           ·refine (Qs (Mut M KM) T wv HC.Zc (HC.tp_ 9 HH4.out) (HC.get 9 HH4.out).2).mono ?_
            rintro e w5 ⟨s,rfl,hs,t5,g5⟩
            exact ⟨_,rfl,⟨s,rfl⟩,Hold.Zf HC 9 HH4.out g5 t5,RM.grown g5 (.inr ⟨_,List.mem_of_getElem? HH4.out,rfl⟩)⟩
           rintro u wx HCx ⟨tab,rfl⟩
           clear HCx
           simp only [Act.put,zl]
           refine Zq 179 (Zh (Mut M KM) 1) (f:=133) (args:=#[.string ⟨#[]⟩,.string ⟨#[110]⟩]) rfl rfl rfl rfl (fun wv=>?_) (fun wv HC hrm hD=>?_) ?_
           ·go_simp<;>rfl
           ·refine (Xr wv ⟨#[]⟩ ⟨#[110]⟩).mono ?_
            rintro e w5 ⟨rfl,b5⟩
            exact ⟨_,rfl,⟨_,rfl,Xa _ _,fun w2 _ _=>Xc _ _ w2⟩,HC.call b5,RM.below b5⟩
           rintro u wx HCx ⟨c1,rfl,hx,rx⟩
           clear HCx hx rx
           simp only [Act.put,zl]
           refine' dv rfl rfl rfl (fun wv HC=>?_) ?_;rotate_left
           ·obtain q0:=(HH1.out _ HC).cell 0;obtain q1:=(HH1.out _ HC).cell 1;obtain q2:=(HH1.out _ HC).cell 2;obtain q3:=(HH1.out _ HC).cell 3;obtain q4:=(HH1.out _ HC).cell 4;obtain q5:=(HH1.out _ HC).cell 5;obtain q6:=(HH1.out _ HC).cell 6;obtain q7:=(HH1.out _ HC).cell 7;obtain q8:=(HH1.out _ HC).cell 8;obtain q9:=(HH1.out _ HC).cell 9;go_simp<;>rfl
           simp only [Act.put,zl]
           refine Zq 181 (Zh (Mut M KM) 2) (f:=132) (args:=#[.int .i64 5,c1.val,.agg #[.int .i64 y.kind,.int .i64 y.op,.bool y.nt,.int .i64 y.v.k,.int .i64 y.v.i,.string y.v.s,.string y.tab,.string y.nm,.slice y.A y.n y.c,.slice y.B y.m y.d]]) rfl rfl rfl rfl (fun wv=>?_) (fun wv HC hrm hD=>?_) ?_
           ·go_simp<;>rfl
           ·have h1:Zh (Mut M KM) 1 c1.val wv:=ZV hD 2 rfl (by as_aux_lemma=>kernel_rfl) rfl rfl
            obtain ⟨y1,hy1,ok1,ro1⟩:=h1
            rw [hy1]
            refine (Xj (Mut M KM) wv HC.Zc 5 y1 y 1 ro1 (HH3.out _ HC)).mono ?_
            rintro e w5 ⟨g5,rfl,ry,b5⟩
            exact ⟨_,rfl,⟨_,rfl,YE (Zo 5 (by decide)) (Zo 5 (by decide)) (by omega) (fun a ha=>by
            simp only [List.mem_cons,List.not_mem_nil,or_false] at ha
            rcases ha with rfl|rfl
            ·exact ok1
            ·exact HYO.out),ry⟩,HC.call b5,RM.below b5⟩
           rintro u wx HCx ⟨c2,rfl,hx,rx⟩
           clear HCx hx rx
           simp only [Act.put,zl]
           refine ZE ?_
           rintro wx3 HX
           rintro _hrm HGW
           have hu:Zh (Mut M KM) 2 c2.val wx3:=(Zp (d:=181) rfl).1 (HGW 4 _ rfl (by omega))
           clear HGW _hrm
           obtain ⟨z,hz,hok,hro⟩:=hu
           rw [HKM.out] at HX hro
           rw [hz]
           rw [show z.val=.agg #[.int .i64 z.kind,.int .i64 z.op,.bool z.nt,.int .i64 z.v.k,.int .i64 z.v.i,.string z.v.s,.string z.tab,.string z.nm,.slice z.A z.n z.c,.slice z.B z.m z.d] from rfl]
           clear hz HH1 HH3 HH4 HKM K6 c2
           have HOK:=hid hok
           have K2:=(HX.add hro).Za #[.int .i64 z.kind,.int .i64 z.op,.bool z.nt,.int .i64 z.v.k,.int .i64 z.v.i,.string z.v.s,.string z.tab,.string z.nm,.slice z.A z.n z.c,.slice z.B z.m z.d] 126
           have F2:=K2.facts
           simp only [zg] at F2
           clear HX hro hok
           have K7:=(((((((K2.store 4 rfl 0 (.int .i64 3)).store 4 rfl 1 (.string tab)).store 4 rfl 2 (.slice none 0 0)).store 4 rfl 3 (.slice none 0 0)).store 4 rfl 4 (.slice none 0 0)).store 4 rfl 5 (.slice (some ⟨wx3.heap.size,0,none⟩) 1 1)).store 4 rfl 6 (.string ⟨#[]⟩))
           simp only [zl] at K7
           have F7:=K7.facts
           simp only [zg] at F7
           have KZ:=K7
           have hR:Ro _ _ (AcIn 5 ⟨3,tab,SlP.nil,SlP.nil,SlP.nil,⟨some ⟨wx3.heap.size,0,none⟩,1,1,[z]⟩,⟨#[]⟩⟩):=(XD (KZ.get 0 rfl) rfl (KZ.ro 1 rfl)).imp fun w2 h2=>⟨SlP.Zi _ _ _ w2,SlP.Zi _ _ _ w2,SlP.Zi _ _ _ w2,h2.1,fun x hx=>(h2.2 x hx).le (by omega)⟩
           have HR:=hid (hR.less zm)
           have HT:=hid (And.intro (KZ.tp_ 11 rfl) KZ.grow)
           have HGD:=hid (show AcGd 5 ⟨3,tab,SlP.nil,SlP.nil,SlP.nil,⟨some ⟨wx3.heap.size,0,none⟩,1,1,[z]⟩,⟨#[]⟩⟩ from ⟨⟨by simp,by simp⟩,LsOk.nil _ _,LsOk.nil _ _,LsOk.nil _ _,YP (by omega) (HOK.out.le (by omega))⟩)
           clear K2 K7 KZ hR
           go_wp2_with fail
           refine bodyPost_ret (v:=.agg #[.int .i64 3,.string tab,.slice none 0 0,.slice none 0 0,.slice none 0 0,.slice (some ⟨wx3.heap.size,0,none⟩) 1 1,.string ⟨#[]⟩]) ?_ rfl ?_
           ·clear HT HR HGD
            simp [results,Tryz.results100,go_sem,F7]
           ·exact ⟨⟨3,tab,SlP.nil,SlP.nil,SlP.nil,⟨some ⟨wx3.heap.size,0,none⟩,1,1,[z]⟩,⟨#[]⟩⟩,rfl,HGD.out,HR.out,HT.out.1,HT.out.2⟩
          ·have b0:(r==0)=false:=by simpa using e0
           have b1:(r==1)=false:=by simpa using e1
           have b2:(r==2)=false:=by simpa using e2
           have b3:(r==3)=false:=by simpa using e3
           have b4:(r==4)=false:=by simpa using e4
           go_wp2_with fail
           refine (Zbp (WC 1) (Mut M _) T _ K1.Zc (K1.tp_ 9 rfl) (K1.get 9 rfl).2 ⟨⟨fA,fn,fc,fl⟩,⟨sA,sn,sc,sl⟩⟩ 1 ((K1.ro 7 rfl).less (Zj (i:=9) rfl)) ((K1.ro 8 rfl).less (Zj (i:=9) rfl)) hT (HBN.out 2 (by omega)) (by omega) (by omega) HS.out).mono ?_
           rintro e w9 ⟨a,rfl,ha,ra,t9,g9⟩
           have K2:=(Hold.Zf K1 9 rfl g9 t9).add ra
           clear K1 F1 t9 g9 ra
           have F2:=K2.facts
           simp only [zg] at F2
           rw [show a.val=.agg #[.int .i64 a.kind,.string a.tab,.slice a.rows.A a.rows.n a.rows.c,.slice a.qs.A a.qs.n a.qs.c,.slice a.sets.A a.sets.n a.sets.c,.slice a.wh.A a.wh.n a.wh.c,.string a.text] from rfl]
           have HA:=hid ha
           clear ha
           have K7:=(((((((K2.store 3 rfl 0 (.int .i64 a.kind)).store 3 rfl 1 (.string (a.tab))).store 3 rfl 2 (.slice a.rows.A a.rows.n a.rows.c)).store 3 rfl 3 (.slice a.qs.A a.qs.n a.qs.c)).store 3 rfl 4 (.slice a.sets.A a.sets.n a.sets.c)).store 3 rfl 5 (.slice a.wh.A a.wh.n a.wh.c)).store 3 rfl 6 (.string (a.text)))
           simp only [zl] at K7
           have F7:=K7.facts
           simp only [zg] at F7
           have KZ:=K7
           have hR:Ro _ _ (AcIn 5 a):=(KZ.ro 0 rfl).imp fun w2 h2=>h2.le (by omega)
           have HR:=hid (hR.less zm)
           have HT:=hid (And.intro (KZ.tp_ 10 rfl) KZ.grow)
           have HGD:=hid (show AcGd 5 a from HA.out.le (by omega))
           clear K2 K7 KZ hR
           go_wp2_with fail
           refine bodyPost_ret (v:=.agg #[.int .i64 a.kind,.string (a.tab),.slice a.rows.A a.rows.n a.rows.c,.slice a.qs.A a.qs.n a.qs.c,.slice a.sets.A a.sets.n a.sets.c,.slice a.wh.A a.wh.n a.wh.c,.string (a.text)]) ?_ rfl ?_
           ·clear HT HR HGD
            simp [results,Tryz.results100,go_sem,F7]
           ·exact ⟨a,rfl,HGD.out,HR.out,HT.out.1,HT.out.2⟩
   ·obtain ⟨KM,hKM,K6⟩:=K1.name
    obtain ⟨Ha,hHa⟩:∃ m,m=wc.heap.size:=⟨_,rfl⟩
    have HHa:=hid hHa
    clear hHa
    have H1:∀ wv:World,Hold M (some T) w wv KM→Blk wv gs 49 #[.string snm,.slice (some ⟨bC,oC,none⟩) cn cc]:=fun wv h=>by rw [hKM] at h;exact h.ZB 2 rfl
    have H2:∀ wv:World,Hold M (some T) w wv KM→SlR 4 (some ⟨bC,oC,none⟩) cn (Zd cl) wv:=fun wv h=>by rw [hKM] at h;exact (h.ro 4 rfl).now
    have h4:KM[7]? =some (.tp T):=by rw [hKM];rfl
    have HH1:=hid H1
    have HH2:=hid H2
    have HH4:=hid h4
    have HKM:=hid hKM
    clear hKM H1 H2 h4 K1
    go_wp2_with fail
    clear F1
    refine wp_region_any (by as_aux_lemma=>kernel_rfl) ?_
    refine ZH 10 187 (KM) (spL [(44,fun u _=>Z6 cn u),(9,Yf (Mut M KM) Ha 158 #[.string ⟨#[]⟩,.int .i64 0,.bool false,.bool false])]) (by as_aux_lemma=>kernel_rfl) (by as_aux_lemma=>kernel_rfl) (by as_aux_lemma=>kernel_rfl) rfl ?_ (K6.drew) ?_
    ·exact Ze (fun _ _ _ _ h=>h) (Ze Wv (ZF _))
    simp only [zd,Act.put,List.getElem_toArray,List.getElem_cons_zero,List.getElem_cons_succ,zl]
    refine' dv rfl rfl rfl (fun wv HC=>?_) ?_;rotate_left
    · go_simp<;>rfl
    simp only [Act.put,zl]
    refine' dv rfl rfl rfl (fun wv HC=>?_) ?_;rotate_left
    ·obtain q1:=(HH1.out _ HC).cell 1;go_simp<;>rfl
    iterate 2
     simp only [Act.put,zl]
     refine' dv rfl rfl rfl (fun wv HC=>?_) ?_;rotate_left
     · go_simp<;>rfl
    simp only [Act.put,zl]
    refine' dv rfl rfl rfl (fun wv HC=>?_) ?_;rotate_left
    ·obtain q1:=(HH1.out _ HC).cell 1;go_simp<;>rfl
    simp only [Act.put,zl]
    refine' dv rfl rfl rfl (fun wv HC=>?_) ?_;rotate_left
    · go_simp<;>rfl
    simp only [Act.put,zl]
    refine Yk cn 7 HH4.out 44 rfl rfl rfl rfl (fun wv=>?_) (fun r hr=>?_)
    ·go_simp<;>rfl
    have r6:(r:Int)<cn:=by omega
    have r0:(0:Int)≤(r:Int):=by omega
    obtain ⟨⟨ynm,yty,ynn,ykey⟩,hy⟩:=YC HLN.out hr
    have HY:=hid hy
    clear hy
    simp only [Act.put,zl]
    refine' dv rfl rfl rfl (fun wv HC=>?_) ?_;rotate_left
    · go_simp<;>rfl
    simp only [Act.put,zl]
    refine' dv rfl rfl rfl (fun wv HC=>?_) ?_;rotate_left
    ·obtain ⟨b2',o2',hcA,hb2,x0,x1,x2,x3⟩:=(RdC.Zw (HH2.out _ HC)).at_ HY.out;obtain ⟨rfl,rfl⟩:=addr_eq hcA;clear hcA;go_simp<;>rfl
    simp only [Act.put,zl]
    refine Ye #[.string ⟨#[]⟩,.int .i64 0,.bool false,.bool false] 158 9 (Yf (Mut M KM) Ha 158 #[.string ⟨#[]⟩,.int .i64 0,.bool false,.bool false]) (fun g=>.pointer (some ⟨g,0,none⟩)) rfl rfl rfl rfl (fun wv=>?_) (fun wv HC hrm hD hro=>?_) ?_
    ·go_simp<;>rfl
    ·exact ⟨_,rfl,by have:=hrm.1;rw [HHa.out];exact this,hro _ HC.Zc⟩
    rintro gk wg HCg hsl
    clear HCg hsl
    simp only [Act.put,zl]
    refine ZE ?_
    rintro wx2 HX
    rintro _hrm HGW
    have hu:Yf (Mut M KM) Ha 158 #[.string ⟨#[]⟩,.int .i64 0,.bool false,.bool false] (.pointer (some ⟨gk,0,none⟩)) wx2:=(Zp (d:=9) rfl).1 (HGW 9 _ rfl (by omega))
    clear HGW
    obtain ⟨gk',e',hg1,hg2⟩:=hu
    obtain rfl:gk=gk' :=by injection e' with e';injection e' with e';injection e'
    clear e'
    rw [HHa.out] at hg1
    have HB:=Hold.WJ K6.drew HX _hrm hg1 hg2.now
    rw [HKM.out] at HB
    clear HX _hrm hg2 hg1 K6 HH1 HH2 HKM HHa
    have FB:=HB.facts
    simp only [zg] at FB
    have K1:=(((HB.store 0 rfl 0 (.string ynm)).store 0 rfl 1 (.int .i64 yty)).store 0 rfl 2 (.bool ynn)).store 0 rfl 3 (.bool ykey)
    simp only [zl] at K1
    have F1:=K1.facts
    simp only [zg] at F1
    clear HB
    go_upto_region 5 with fail
    clear FB
    generalize World.setCell _ _ _=wb at K1 F1 ⊢
    obtain ⟨KM,hKM,K6⟩:=K1.name
    have H1:∀ wv:World,Hold M (some T) w wv KM→Blk wv gk 158 #[.string ynm,.int .i64 yty,.bool ynn,.bool ykey]:=fun wv h=>by rw [hKM] at h;exact h.Zy 0 rfl
    have H2:∀ wv:World,Hold M (some T) w wv KM→Blk wv gp 177 #[.slice fA fn fc,.slice sA sn sc]:=fun wv h=>by rw [hKM] at h;exact h.ZB 2 rfl
    have H3:∀ wv:World,Hold M (some T) w wv KM→Ro wv (Mut M KM) (Zg ⟨⟨fA,fn,fc,fl⟩,⟨sA,sn,sc,sl⟩⟩)∧Ro wv (Mut M KM) Wds∧Tp wv T∧∀ b,(Mut M KM) b→T≤b:=fun wv h=>by rw [hKM] at h ⊢;exact ⟨h.ro 6 rfl,h.ro 7 rfl,h.tp_ 8 rfl,(h.get 8 rfl).2⟩
    have h4:KM[8]? =some (.tp T):=by rw [hKM];rfl
    have HH1:=hid H1
    have HH2:=hid H2
    have HH3:=hid H3
    have HH4:=hid h4
    have HKM:=hid hKM
    clear hKM H1 H2 H3 h4 K1
    go_wp2_with fail
    clear F1
    refine wp_region_any (by as_aux_lemma=>kernel_rfl) ?_
    refine ZH 7 187 (KM) (spL [(53,Zh (Mut M KM) 3)]) (by as_aux_lemma=>kernel_rfl) (by as_aux_lemma=>kernel_rfl) (by as_aux_lemma=>kernel_rfl) rfl ?_ (K6.drew) ?_
    ·exact Ze Z7 (ZF _)
    simp only [zd,Act.put,List.getElem_toArray,List.getElem_cons_zero,List.getElem_cons_succ,zl]
    refine' dv rfl rfl rfl (fun wv HC=>?_) ?_;rotate_left
    · go_simp<;>rfl
    simp only [Act.put,zl]
    refine' dv rfl rfl rfl (fun wv HC=>?_) ?_;rotate_left
    ·obtain q0:=(HH1.out _ HC).cell 0;go_simp<;>rfl
    simp only [Act.put,zl]
    refine' dv rfl rfl rfl (fun wv HC=>?_) ?_;rotate_left
    · go_simp<;>rfl
    simp only [Act.put,zl]
    refine' dv rfl rfl rfl (fun wv HC=>?_) ?_;rotate_left
    ·obtain q0:=(HH2.out _ HC).cell 0;obtain q1:=(HH2.out _ HC).cell 1;go_simp<;>rfl
    simp only [Act.put,zl]
    refine' dv rfl rfl rfl (fun wv HC=>?_) ?_;rotate_left
    · go_simp<;>rfl
    simp only [Act.put,zl]
    refine' dv rfl rfl rfl (fun wv HC=>?_) ?_;rotate_left
    ·obtain q1:=(HH1.out _ HC).cell 1;go_simp<;>rfl
    simp only [Act.put,zl]
    refine Zq 53 (Zh (Mut M KM) 3) (f:=99) (args:=#[.pointer (some ⟨T,0,none⟩),.agg #[.slice fA fn fc,.slice sA sn sc],.int .i64 yty,.int .i64 1]) rfl rfl rfl rfl (fun wv=>?_) (fun wv HC hrm hD=>?_) ?_
    ·go_simp<;>rfl
    ·obtain ⟨X0,X1,X2,X3⟩:=HH3.out _ HC
     refine (WC 1 (Mut M KM) T wv HC.Zc X2 X3 ⟨⟨fA,fn,fc,fl⟩,⟨sA,sn,sc,sl⟩⟩ yty 1 (X0.less (Zj HH4.out)) (X1.less (Zj HH4.out)) hT (HBN.out 1 (by omega)) (by omega) (by omega)).mono ?_
     rintro e w5 ⟨x,rfl,hx,rx,t5,g5⟩
     exact ⟨_,rfl,⟨x,rfl,hx,rx⟩,Hold.Zf HC 8 HH4.out g5 t5,RM.grown g5 (.inr ⟨_,List.mem_of_getElem? HH4.out,rfl⟩)⟩
    rintro u wx HCx ⟨x,rfl,hx,rx⟩
    clear HCx hx rx
    simp only [Act.put,zl]
    refine ZE ?_
    rintro wx3 HX
    rintro _hrm HGW
    have hu:Zh (Mut M KM) 3 x.val wx3:=(Zp (d:=53) rfl).1 (HGW 6 _ rfl (by omega))
    clear HGW _hrm
    obtain ⟨y,hy,hok,hro⟩:=hu
    rw [HKM.out] at HX hro
    rw [hy]
    rw [show y.val=.agg #[.int .i64 y.kind,.int .i64 y.op,.bool y.nt,.int .i64 y.v.k,.int .i64 y.v.i,.string y.v.s,.string y.tab,.string y.nm,.slice y.A y.n y.c,.slice y.B y.m y.d] from rfl]
    clear hy HH1 HH2 HH3 HKM K6 x
    have HOK:=hid hok
    have K2:=(HX.add hro).Za #[.string ynm,.int .i64 y.kind,.int .i64 y.op,.bool y.nt,.int .i64 y.v.k,.int .i64 y.v.i,.string y.v.s,.string y.tab,.string y.nm,.slice y.A y.n y.c,.slice y.B y.m y.d] 128
    have F2:=K2.facts
    simp only [zg] at F2
    clear HX hro hok
    have K7:=(((((((K2.store 3 rfl 0 (.int .i64 5)).store 3 rfl 1 (.string ⟨#[]⟩)).store 3 rfl 2 (.slice none 0 0)).store 3 rfl 3 (.slice none 0 0)).store 3 rfl 4 (.slice (some ⟨wx3.heap.size,0,none⟩) 1 1)).store 3 rfl 5 (.slice none 0 0)).store 3 rfl 6 (.string ⟨#[]⟩))
    simp only [zl] at K7
    have F7:=K7.facts
    simp only [zg] at F7
    have KZ:=K7
    have hR:Ro _ _ (AcIn 5 ⟨5,⟨#[]⟩,SlP.nil,SlP.nil,⟨some ⟨wx3.heap.size,0,none⟩,1,1,[⟨ynm,y⟩]⟩,SlP.nil,⟨#[]⟩⟩):=((VX (d:=5) (s:=⟨ynm,y⟩) (KZ.get 0 rfl) rfl ((KZ.ro 1 rfl).imp fun w2 h2=>h2.le (by omega)))).imp fun w2 h2=>⟨SlP.Zi _ _ _ w2,SlP.Zi _ _ _ w2,h2,SlP.Zi _ _ _ w2⟩
    have HR:=hid (hR.less zm)
    have HT:=hid (And.intro (KZ.tp_ 10 rfl) KZ.grow)
    have HGD:=hid (show AcGd 5 ⟨5,⟨#[]⟩,SlP.nil,SlP.nil,⟨some ⟨wx3.heap.size,0,none⟩,1,1,[⟨ynm,y⟩]⟩,SlP.nil,⟨#[]⟩⟩ from ⟨⟨by simp,by simp⟩,LsOk.nil _ _,LsOk.nil _ _,YP (by omega) (HOK.out.le (by omega)),LsOk.nil _ _⟩)
    clear K2 K7 KZ hR
    go_wp2_with fail
    refine bodyPost_ret (v:=.agg #[.int .i64 5,.string ⟨#[]⟩,.slice none 0 0,.slice none 0 0,.slice (some ⟨wx3.heap.size,0,none⟩) 1 1,.slice none 0 0,.string ⟨#[]⟩]) ?_ rfl ?_
    ·clear HT HR HGD
     simp [results,Tryz.results100,go_sem,F7]
    ·exact ⟨⟨5,⟨#[]⟩,SlP.nil,SlP.nil,⟨some ⟨wx3.heap.size,0,none⟩,1,1,[⟨ynm,y⟩]⟩,SlP.nil,⟨#[]⟩⟩,rfl,HGD.out,HR.out,HT.out.1,HT.out.2⟩
  ·go_wp2_with fail
   refine (ZaG T _ (K1.tp_ 7 rfl) (K1.ro 6 rfl).now hT).mono ?_
   rintro e w2 ⟨s,rfl,hpl,hs4,t2,g2⟩
   have K2:=Hold.Zf K1 7 rfl g2 t2
   clear K1 F1 t2 g2
   have F2:=K2.facts
   simp only [zg] at F2
   have K7:=(((((((K2.store 0 rfl 0 (.int .i64 4)).store 0 rfl 1 (.string ⟨#[]⟩)).store 0 rfl 2 (.slice none 0 0)).store 0 rfl 3 (.slice none 0 0)).store 0 rfl 4 (.slice none 0 0)).store 0 rfl 5 (.slice none 0 0)).store 0 rfl 6 (.string s))
   simp only [zl] at K7
   have F7:=K7.facts
   simp only [zg] at F7
   have KZ:=K7
   have hR:Ro _ _ (AcIn 5 ⟨4,⟨#[]⟩,SlP.nil,SlP.nil,SlP.nil,SlP.nil,s⟩):=(KZ.ro 4 rfl).imp fun w2 _=>⟨SlP.Zi _ _ _ w2,SlP.Zi _ _ _ w2,SlP.Zi _ _ _ w2,SlP.Zi _ _ _ w2⟩
   have HR:=hid (hR.less zm)
   have HT:=hid (And.intro (KZ.tp_ 7 rfl) KZ.grow)
   have HGD:=hid (show AcGd 5 ⟨4,⟨#[]⟩,SlP.nil,SlP.nil,SlP.nil,SlP.nil,s⟩ from ⟨⟨by simp,by simp⟩,LsOk.nil _ _,LsOk.nil _ _,LsOk.nil _ _,LsOk.nil _ _⟩)
   clear K2 K7 KZ hR
   go_wp2_with fail
   refine bodyPost_ret (v:=.agg #[.int .i64 4,.string ⟨#[]⟩,.slice none 0 0,.slice none 0 0,.slice none 0 0,.slice none 0 0,.string s]) ?_ rfl ?_
   ·clear HT HR HGD
    simp [results,Tryz.results100,go_sem,F7]
   ·exact ⟨⟨4,⟨#[]⟩,SlP.nil,SlP.nil,SlP.nil,SlP.nil,s⟩,rfl,HGD.out,HR.out,HT.out.1,HT.out.2⟩
end Go.Proofs.YtnbbllkbefagmaaGreatDoor

import Derived.Test.YtnbbllkbefagmaaGreatDoorRkCtsSaidMQ
import Derived.Deep.CutBlock
import Derived.Test.YtnbbllkbefagmaaGreatDoorRkCtsSaidMD
import Derived.Test.YtnbbllkbefagmaaGreatDoorRkCtsSaidMG
import Derived.Test.YtnbbllkbefagmaaGreatDoorRkCtsSaidME
import Derived.Deep.DeepCutAuto
namespace Go.Proofs.YtnbbllkbefagmaaGreatDoor
open Go.RowKit
set_option linter.unusedVariables false
set_option linter.unusedSimpArgs false
def Vf (l:List Ac):List Value:=l.flatMap Ac.cells
theorem Tryz.Zhz:ElemT Tryz.prog 38 97 7 136 (.agg #[.int .i64 0,.string ⟨#[]⟩,.slice none 0 0,.slice none 0 0,.slice none 0 0,.slice none 0 0,.string ⟨#[]⟩]):=⟨Tryz.underlying38,by kernel_rfl,rfl,by omega⟩
def VO (M:Nat→Prop) (u:Value) (w:World):Prop:=∃ (g:Nat) (s:ByteArray),u=.slice (some ⟨g,0,none⟩) 1 1∧Ro w M ((⟨some ⟨g,0,none⟩,1,1,[s]⟩:SlP ByteArray).In 1 Zt (fun _ _=>True))
theorem ZbV {M:Nat→Prop} (u:Value) (w w' :World) (hr:RM M w w') (h:VO M u w):VO M u w' :=by
 obtain ⟨g,s,h1,h2⟩:=h
 exact ⟨g,s,h1,hr.ro h2⟩
def Uj (M:Nat→Prop) (u:Value) (w:World):Prop:=∃ a:Ac,u=a.val∧AcGd 5 a∧Ro w M (AcIn 5 a)
theorem ZdA {M:Nat→Prop} (u:Value) (w w' :World) (hr:RM M w w') (h:Uj M u w):Uj M u w' :=by
 obtain ⟨g,h1,h2,h3⟩:=h
 exact ⟨g,h1,h2,hr.ro h3⟩
def Uh (M:Nat→Prop) (u:Value) (w:World):Prop:=∃ (g:Nat) (a:Ac),u=.slice (some ⟨g,0,none⟩) 1 1∧AcGd 5 a∧Ro w M (SlR 7 (some ⟨g,0,none⟩) 1 (Ac.cells a))∧Ro w M (AcIn 5 a)
theorem ZeG {M:Nat→Prop} (u:Value) (w w' :World) (hr:RM M w w') (h:Uh M u w):Uh M u w' :=by
 obtain ⟨g,a,h1,h2,h3,h4⟩:=h
 exact ⟨g,a,h1,h2,hr.ro h3,hr.ro h4⟩
def Zgq (w:World) (T:Nat) (M:Nat→Prop) (name:ByteArray) (e:Ending) (w' :World):Prop:=∃ t:Tg,e=.returned t.val∧TgGd 5 t∧t.name=name∧WU t.tab∧Ro w' M (TgIn 5 t)∧Tp w' T∧w.grownBy w' (some T)
set_option maxRecDepth 100000 in
set_option maxHeartbeats 16000000 in
theorem ZfP (M:Nat→Prop) (T:Nat) (w:World) (hM:∀ b,M b→b<w.heap.size) (ht:Tp w T) (hMT:∀ b,M b→T≤b) (name:ByteArray) (tA:Option Addr) (tn tc:Nat) (tl:List Tg) (hl:Ro w (fun b=>b=T) (SlR 11 tA tn (tl.flatMap Tg.cells))) (hn:tn≤1000) (hW:Ro w (Mut M [.tp T]) Wds) (hT:1<T):
  Calls Tryz.prog 43 #[.pointer (some ⟨T,0,none⟩),.string name,.slice tA tn tc] w fun e w' =>Zgq w T M name e w' :=by
 have HLX:=hid hl
 have K0:=(((Hold.YY M w T hM ht hMT).add hW).add (S:=fun _=>True) (fun _ _ _=>trivial)).alloc #[.string ⟨#[]⟩,.string ⟨#[]⟩,.bool false,.int .i64 0,.slice none 0 0,.bool false,.slice none 0 0,.slice none 0 0,.slice none 0 0,.slice none 0 0,.slice none 0 0] 40
 obtain ⟨gr,hgr⟩:∃ g,g=w.heap.size:=⟨_,rfl⟩
 rw [←hgr] at K0
 clear hW hl
 go_enter Tryz.func43,Tryz.ntmps43
 go_wp2_with fail
 rw [←hgr]
 have HGR:=hid hgr
 clear hgr
 refine (Qs (Mut M _) T _ K0.Zc (K0.tp_ 3 rfl) (K0.get 3 rfl).2).mono ?_
 rintro e w1 ⟨tt,rfl,hT1,t1,g1⟩
 have K1:=Hold.Zf K0 3 rfl g1 t1
 clear K0 g1 t1
 go_wp2_with fail
 refine (ZQ T 3 _ (K1.tp_ 3 rfl) (by omega) (by omega)).mono ?_
 rintro e w2 ⟨r,rfl,r0,r1,t2,g2⟩
 have K2:=Hold.Zf K1 3 rfl g2 t2
 obtain ⟨ev,hev⟩:∃ ev:Int,ev=1+r:=⟨_,rfl⟩
 have hwr:IntKind.i64.wrap (1+r)=ev:=by rw [hev];exact IntWalk.i64_in _ (by omega)
 have hev3:1≤ev∧ev≤3:=by omega
 have HEV:=hid hev
 clear K1 g2 t2 hev r0 r1
 go_wp2_with fail
 refine (ZZ T 2 _ (K2.tp_ 3 rfl) (by omega) (by omega)).mono ?_
 rintro e w3 ⟨be,rfl,t3,g3⟩
 have K3:=Hold.Zf K2 3 rfl g3 t3
 clear K2 g3 t3
 go_wp2_with fail
 refine (ZZ T 4 _ (K3.tp_ 3 rfl) (by omega) (by omega)).mono ?_
 rintro e w4 ⟨bb,rfl,t4,g4⟩
 have K4:=(Hold.Zf K3 3 rfl g4 t4).alloc #[.string name,.string tt,.bool bb,.int .i64 ev,.slice none 0 0,.bool be,.slice none 0 0,.slice none 0 0,.slice none 0 0,.slice none 0 0,.slice none 0 0] 40
 clear K3 g4 t4
 have F4:=K4.facts
 simp only [zg] at F4
 go_wp2_with fail
 obtain ⟨gx,hgx⟩:∃ g,g=w4.heap.size:=⟨_,rfl⟩
 rw [←hgx] at K4 ⊢
 have HGX:=hid hgx
 clear hgx F4
 refine (Ur (Mut M _) _ K4.Zc tt).mono ?_
 rintro e w5 ⟨cA,cn,cc,rfl,hcc,hc4,r5,b5⟩
 have hcl:1≤cn∧cn≤4:=by
  have h:=(show Rd w5 w5.heap.size 4 cA cn (Zd (ZP tt).2) from r5.now).1
  have h2:=Jr hT1
  have h3:(Zd (ZP tt).2).length=(ZP tt).2.length * 4:=Yu _ 4 (fun _=>rfl) _
  omega
 obtain ⟨bC,oC,eC,-,-⟩:=(show Rd w5 w5.heap.size 4 cA cn (Zd (ZP tt).2) from r5.now).2 (by omega)
 subst eC
 obtain ⟨snm,hsnm⟩:∃ x,x=(ZP tt).1:=⟨_,rfl⟩
 obtain ⟨cl,hcs⟩:∃ x,x=(ZP tt).2:=⟨_,rfl⟩
 rw [←hcs] at r5
 rw [←hsnm]
 have HLN:=hid (show cl.length=cn from (RdC.Zw r5.now).len)
 have K5:=((K4.call b5).add r5).alloc #[.string snm,.slice (some ⟨bC,oC,none⟩) cn cc] 49
 clear K4 hsnm hcs r5 b5
 have F5:=K5.facts
 simp only [zg] at F5
 go_upto_region 3 with fail
 obtain ⟨gs,hgs⟩:∃ g,g=w5.heap.size:=⟨_,rfl⟩
 rw [←hgs] at K5 F5 ⊢
 have HGS:=hid hgs
 clear hgs
 have K6:Hold M (some T) w _ [.blk gx 40 #[.string name,.string tt,.bool bb,.int .i64 ev,.slice none 0 0,.bool be,.slice none 0 0,.slice none 0 0,.slice none 0 0,.slice none 0 0,.slice none 0 0],.blk gs 49 #[.string snm,.slice (some ⟨bC,oC,none⟩) cn cc],.ro (SlR 4 (some ⟨bC,oC,none⟩) cn (Zd cl)),.blk gr 40 #[.string ⟨#[]⟩,.string ⟨#[]⟩,.bool false,.int .i64 0,.slice none 0 0,.bool false,.slice none 0 0,.slice none 0 0,.slice none 0 0,.slice none 0 0,.slice none 0 0],.ro (fun _=>True),.ro Wds,.tp T]:=K5.pick [2,0,1,3,4,5,6] (by decide) rfl
 clear K5
 go_cut [31] (fun v wx=>∃ b:Bool,v=.bool b∧Hold M (some T) w wx [.blk gx 40 #[.string name,.string tt,.bool bb,.int .i64 ev,.slice none 0 0,.bool be,.slice none 0 0,.slice none 0 0,.slice none 0 0,.slice none 0 0,.slice none 0 0],.blk gs 49 #[.string snm,.slice (some ⟨bC,oC,none⟩) cn cc],.ro (SlR 4 (some ⟨bC,oC,none⟩) cn (Zd cl)),.blk gr 40 #[.string ⟨#[]⟩,.string ⟨#[]⟩,.bool false,.int .i64 0,.slice none 0 0,.bool false,.slice none 0 0,.slice none 0 0,.slice none 0 0,.slice none 0 0,.slice none 0 0],.ro (fun _=>True),.ro Wds,.tp T])
 case first=>
  by_cases h2:ev=2
  ·have h2b:(ev==2)=true:=by simpa using h2
   go_wp2_with fail
   all_goals first
    | (exfalso;contradiction)
    | skip
   refine (ZZ T 2 _ (K6.tp_ 6 rfl) (by omega) (by omega)).mono ?_
   rintro e w7 ⟨b7,rfl,t7,g7⟩
   have K7:=Hold.Zf K6 6 rfl g7 t7
   go_wp2_with fail
   go_meet
   exact ⟨b7,rfl,K7⟩
  ·have h2b:(ev==2)=false:=by simpa using h2
   go_wp2_with fail
   all_goals first
    | (exfalso;contradiction)
    | (go_meet;exact ⟨false,rfl,K6⟩)
 case rest=>
  obtain ⟨b7,rfl,K5⟩:=hcut
  clear K6 F5
  have F5:=K5.facts
  simp only [zg] at F5
  go_upto_if 31 with (fail)
  go_cut [] (fun wx=>∃ cs:SlP ByteArray,LsOk 8 cs (fun _=>True)∧Hold M (some T) w wx [.blk gx 40 #[.string name,.string tt,.bool bb,.int .i64 ev,.slice cs.A cs.n cs.c,.bool be,.slice none 0 0,.slice none 0 0,.slice none 0 0,.slice none 0 0,.slice none 0 0],.ro (SlP.In cs 1 Zt (fun _ _=>True)),.blk gs 49 #[.string snm,.slice (some ⟨bC,oC,none⟩) cn cc],.ro (SlR 4 (some ⟨bC,oC,none⟩) cn (Zd cl)),.blk gr 40 #[.string ⟨#[]⟩,.string ⟨#[]⟩,.bool false,.int .i64 0,.slice none 0 0,.bool false,.slice none 0 0,.slice none 0 0,.slice none 0 0,.slice none 0 0,.slice none 0 0],.ro (fun _=>True),.ro Wds,.tp T])
  case first=>
   cases b7
   ·go_wp2_with fail
    go_meet
    exact ⟨SlP.nil,LsOk.nil _ _,(K5.add (S:=SlP.In (SlP.nil:SlP ByteArray) 1 Zt (fun _ _=>True)) (fun w2 _ _=>SlP.Zi _ _ _ w2)).pick [1,0,2,3,4,5,6,7] (by decide) rfl⟩
   ·obtain ⟨KM,hKM,K6⟩:=K5.name
    have H1:∀ wv:World,Hold M (some T) w wv KM→Blk wv gs 49 #[.string snm,.slice (some ⟨bC,oC,none⟩) cn cc]:=fun wv h=>by rw [hKM] at h;exact h.Zy 1 rfl
    have H2:∀ wv:World,Hold M (some T) w wv KM→SlR 4 (some ⟨bC,oC,none⟩) cn (Zd cl) wv:=fun wv h=>by rw [hKM] at h;exact (h.ro 2 rfl).now
    have h4:KM[6]? =some (.tp T):=by rw [hKM];rfl
    have HH1:=hid H1
    have HH2:=hid H2
    have HH4:=hid h4
    have HKM:=hid hKM
    clear hKM H1 H2 h4 K5
    go_wp2_with fail
    clear F5
    refine wp_region_any (by kernel_rfl) ?_
    refine ZH 12 87 (KM) (spL [(38,fun u _=>Z6 cn u),(42,VO (Mut M KM))]) (by kernel_rfl) (by kernel_rfl) (by kernel_rfl) rfl ?_ (K6.drew) ?_
    ·exact Ze (fun _ _ _ _ h=>h) (Ze ZbV (ZF _))
    simp only [zd,Act.put,List.getElem_toArray,List.getElem_cons_zero,List.getElem_cons_succ,zl]
    refine' dv rfl rfl rfl (fun wv HC=>?_) ?_;rotate_left
    · go_simp<;>rfl
    simp only [Act.put,zl]
    refine' dv rfl rfl rfl (fun wv HC=>?_) ?_;rotate_left
    ·obtain q1:=(HH1.out _ HC).cell 1;go_simp<;>rfl
    iterate 2
     simp only [Act.put,zl]
     refine' dv rfl rfl rfl (fun wv HC=>?_) ?_;rotate_left
     · go_simp<;>rfl
    simp only [Act.put,zl]
    refine' dv rfl rfl rfl (fun wv HC=>?_) ?_;rotate_left
    ·obtain q1:=(HH1.out _ HC).cell 1;go_simp<;>rfl
    simp only [Act.put,zl]
    refine' dv rfl rfl rfl (fun wv HC=>?_) ?_;rotate_left
    · go_simp<;>rfl
    simp only [Act.put,zl]
    refine Yk cn 6 HH4.out 38 rfl rfl rfl rfl (fun wv=>?_) (fun r hr=>?_)
    ·go_simp<;>rfl
    have r6:(r:Int)<cn:=by omega
    have r0:(0:Int)≤(r:Int):=by omega
    obtain ⟨⟨ynm,yty,ynn,ykey⟩,hy⟩:=YC HLN.out hr
    have HY:=hid hy
    clear hy
    iterate 2
     simp only [Act.put,zl]
     refine' dv rfl rfl rfl (fun wv HC=>?_) ?_;rotate_left
     · go_simp<;>rfl
    simp only [Act.put,zl]
    refine' dv rfl rfl rfl (fun wv HC=>?_) ?_;rotate_left
    ·obtain ⟨b2',o2',hcA,hb2,x0,x1,x2,x3⟩:=(RdC.Zw (HH2.out _ HC)).at_ HY.out;obtain ⟨rfl,rfl⟩:=addr_eq hcA;clear hcA;go_simp<;>rfl
    simp only [Act.put,zl]
    refine Ye #[.string ynm] 9 42 (VO (Mut M KM)) (fun g=>.slice (some ⟨g,0,none⟩) 1 1) rfl rfl rfl rfl (fun wv=>?_) (fun wv HC hrm hD hro=>?_) ?_
    ·go_simp<;>rfl
    ·exact ⟨_,ynm,rfl,(ZJ (hro _ HC.Zc) rfl:Ro _ _ (SlR 1 _ 1 [.string ynm])).imp fun w2 h2=>⟨h2,fun _ _=>trivial⟩⟩
    rintro g42 wg HCg hg42
    clear HCg hg42
    simp only [Act.put,zl]
    refine' dv rfl rfl rfl (fun wv HC=>?_) ?_;rotate_left
    · go_simp<;>rfl
    simp only [Act.put,zl]
    refine ZE ?_
    rintro wx3 HX
    rintro _hrm HGW
    have hu:VO (Mut M KM) (.slice (some ⟨g42,0,none⟩) 1 1) wx3:=(Zp (d:=42) rfl).1 (HGW 10 _ rfl (by omega))
    clear HGW _hrm
    obtain ⟨g1,s1,e1,hro1⟩:=hu
    obtain rfl:g42=g1:=by injection e1 with e1;injection e1 with e1;injection e1
    rw [HKM.out] at HX hro1
    clear e1 HH1 HH2 HH4 HKM K6
    have F7:=HX.facts
    simp only [zg] at F7
    have K8:=(HX.add hro1).store 1 rfl 4 (.slice (some ⟨g42,0,none⟩) 1 1)
    simp only [zl] at K8
    clear HX hro1
    go_wp2_with fail
    go_meet
    exact ⟨⟨some ⟨g42,0,none⟩,1,1,[s1]⟩,YP (by omega) trivial,K8.pick [1,0,2,3,4,5,6,7] (by decide) rfl⟩
  case rest=>
   obtain ⟨cs,hcs,K6⟩:=hcut
   clear K5 F5 HLN
   have HCS:=hid hcs
   clear hcs
   have F6:=K6.facts
   simp only [zg] at F6
   go_wp2_with fail
   refine (ZQ T 3 _ (K6.tp_ 7 rfl) (by omega) (by omega)).mono ?_
   rintro e w7 ⟨r3,rfl,r30,r31,t7,g7⟩
   have K7:=Hold.Zf K6 7 rfl g7 t7
   clear K6 F6 t7 g7
   have F7:=K7.facts
   simp only [zg] at F7
   go_upto_block 0 with fail
   go_cut [] (fun wx=>∃ ps qs:SlP ByteArray,LsOk 8 ps (fun _=>True)∧LsOk 8 qs (fun _=>True)∧Hold M (some T) w wx [.blk gx 40 #[.string name,.string tt,.bool bb,.int .i64 ev,.slice cs.A cs.n cs.c,.bool be,.slice ps.A ps.n ps.c,.slice qs.A qs.n qs.c,.slice none 0 0,.slice none 0 0,.slice none 0 0],.ro (SlP.In cs 1 Zt (fun _ _=>True)),.ro (SlP.In ps 1 Zt (fun _ _=>True)),.ro (SlP.In qs 1 Zt (fun _ _=>True)),.blk gs 49 #[.string snm,.slice (some ⟨bC,oC,none⟩) cn cc],.ro (SlR 4 (some ⟨bC,oC,none⟩) cn (Zd cl)),.blk gr 40 #[.string ⟨#[]⟩,.string ⟨#[]⟩,.bool false,.int .i64 0,.slice none 0 0,.bool false,.slice none 0 0,.slice none 0 0,.slice none 0 0,.slice none 0 0,.slice none 0 0],.ro (fun _=>True),.ro Wds,.tp T])
   case first=>
    by_cases h0:r3=0
    ·subst h0
     go_wp2_with fail
     refine (Za9 (Mut M _) T _ K7.Zc (K7.tp_ 7 rfl) (K7.get 7 rfl).2 tA tn tc tl (HLX.out.grown K7.grow rfl) hn).mono ?_
     rintro e w8 ⟨ps,rfl,hp1,hp2,hp3,rp,t8,g8⟩
     have K8:=((Hold.Zf K7 7 rfl g8 t8).add rp).add (S:=SlP.In (SlP.nil:SlP ByteArray) 1 Zt (fun _ _=>True)) (fun w2 _ _=>SlP.Zi _ _ _ w2)
     simp only [SlP.v]
     clear K7 F7 rp t8 g8
     have F8:=K8.facts
     simp only [zg] at F8
     have K9:=K8.store 2 rfl 6 (.slice ps.A ps.n ps.c)
     simp only [zl] at K9
     clear K8
     go_wp2_with fail
     go_meet
     exact ⟨ps,SlP.nil,⟨⟨hp1,hp2⟩,hp3,fun _ _=>trivial⟩,LsOk.nil _ _,K9.pick [2,3,1,0,4,5,6,7,8,9] (by decide) rfl⟩
    ·have h0b:(r3==0)=false:=by simpa using h0
     by_cases h1:r3=1
     ·subst h1
      go_wp2_with fail
      refine (Za9 (Mut M _) T _ K7.Zc (K7.tp_ 7 rfl) (K7.get 7 rfl).2 tA tn tc tl (HLX.out.grown K7.grow rfl) hn).mono ?_
      rintro e w8 ⟨ps,rfl,hp1,hp2,hp3,rp,t8,g8⟩
      have K8:=((Hold.Zf K7 7 rfl g8 t8).add rp).add (S:=SlP.In (SlP.nil:SlP ByteArray) 1 Zt (fun _ _=>True)) (fun w2 _ _=>SlP.Zi _ _ _ w2)
      simp only [SlP.v]
      clear K7 F7 rp t8 g8
      have F8:=K8.facts
      simp only [zg] at F8
      have K9:=K8.store 2 rfl 7 (.slice ps.A ps.n ps.c)
      simp only [zl] at K9
      clear K8
      go_wp2_with fail
      go_meet
      exact ⟨SlP.nil,ps,LsOk.nil _ _,⟨⟨hp1,hp2⟩,hp3,fun _ _=>trivial⟩,K9.pick [2,3,0,1,4,5,6,7,8,9] (by decide) rfl⟩
     ·have h1b:(r3==1)=false:=by simpa using h1
      go_wp2_with fail
      go_meet
      exact ⟨SlP.nil,SlP.nil,LsOk.nil _ _,LsOk.nil _ _,((K7.add (S:=SlP.In (SlP.nil:SlP ByteArray) 1 Zt (fun _ _=>True)) (fun w2 _ _=>SlP.Zi _ _ _ w2)).add (S:=SlP.In (SlP.nil:SlP ByteArray) 1 Zt (fun _ _=>True)) (fun w2 _ _=>SlP.Zi _ _ _ w2)).pick [2,3,0,1,4,5,6,7,8,9] (by decide) rfl⟩
   case rest=>
    obtain ⟨ps,qs,hps,hqs,K8⟩:=hcut
    clear K7 F7
    have HPQ:=hid (And.intro hps hqs)
    clear hps hqs
    have F8:=K8.facts
    simp only [zg] at F8
    go_wp2_with fail
    refine (ZgJ (Mut M _) _ K8.Zc ⟨name,tt,bb,ev,cs,be,ps,qs,SlP.nil,SlP.nil,SlP.nil⟩ hT1).mono ?_
    rintro e w9 ⟨⟨⟨fA,fn,fc,fl⟩,⟨sA,sn,sc,sl⟩⟩,rfl,hpb,hpf,hpt,rpl,b9⟩
    have HPB:=hid (And.intro hpb (And.intro hpf hpt))
    have K9:=((K8.call b9).add rpl).alloc #[.slice fA fn fc,.slice sA sn sc] 177
    simp only [Pl.val]
    clear K8 F8 hpb hpf hpt rpl b9
    have F9:=K9.facts
    simp only [zg] at F9
    go_wp2_with fail
    obtain ⟨gpl,hgpl⟩:∃ g,g=w9.heap.size:=⟨_,rfl⟩
    rw [←hgpl] at K9 ⊢
    have HGP:=hid hgpl
    clear hgpl F9
    refine (ZZ T 3 _ (K9.tp_ 11 rfl) (by omega) (by omega)).mono ?_
    rintro e wa ⟨ba,rfl,ta,ga⟩
    have KA:=Hold.Zf K9 11 rfl ga ta
    clear K9 ta ga
    have FA:=KA.facts
    simp only [zg] at FA
    go_upto_if 61 with (fail)
    go_cut [] (fun wx=>∃ hs:SlP Ex,LsOk 1 hs (ExGd 5)∧Hold M (some T) w wx [.blk gx 40 #[.string name,.string tt,.bool bb,.int .i64 ev,.slice cs.A cs.n cs.c,.bool be,.slice ps.A ps.n ps.c,.slice qs.A qs.n qs.c,.slice none 0 0,.slice hs.A hs.n hs.c,.slice none 0 0],.ro (Z0 5 hs),.ro (SlP.In cs 1 Zt (fun _ _=>True)),.ro (SlP.In ps 1 Zt (fun _ _=>True)),.ro (SlP.In qs 1 Zt (fun _ _=>True)),.blk gpl 177 #[.slice fA fn fc,.slice sA sn sc],.ro (Zg ⟨⟨fA,fn,fc,fl⟩,⟨sA,sn,sc,sl⟩⟩),.blk gs 49 #[.string snm,.slice (some ⟨bC,oC,none⟩) cn cc],.ro (SlR 4 (some ⟨bC,oC,none⟩) cn (Zd cl)),.blk gr 40 #[.string ⟨#[]⟩,.string ⟨#[]⟩,.bool false,.int .i64 0,.slice none 0 0,.bool false,.slice none 0 0,.slice none 0 0,.slice none 0 0,.slice none 0 0,.slice none 0 0],.ro Wds,.tp T])
    case first=>
     cases ba
     ·go_wp2_with fail
      go_meet
      exact ⟨SlP.nil,LsOk.nil _ _,(KA.add (S:=Z0 5 SlP.nil) (fun w2 _ _=>SlP.Zi _ _ _ w2)).pick [3,0,4,5,6,1,2,7,8,9,11,12] (by decide) rfl⟩
     ·go_wp2_with fail
      refine (WC 1 (Mut M _) T _ KA.Zc (KA.tp_ 11 rfl) (KA.get 11 rfl).2 ⟨⟨fA,fn,fc,fl⟩,⟨sA,sn,sc,sl⟩⟩ 2 1 ((KA.ro 1 rfl).less (Zj (i:=11) rfl)) ((KA.ro 10 rfl).less (Zj (i:=11) rfl)) hT (G9 HPB.out.1 HPB.out.2.1 (by omega)) (by omega) (by omega)).mono ?_
      rintro e wb ⟨x,rfl,hx,rx,tY,gY⟩
      have KB:=((Hold.Zf KA 11 rfl gY tY).add rx).Za #[.int .i64 x.kind,.int .i64 x.op,.bool x.nt,.int .i64 x.v.k,.int .i64 x.v.i,.string x.v.s,.string x.tab,.string x.nm,.slice x.A x.n x.c,.slice x.B x.m x.d] 126
      rw [show x.val=.agg #[.int .i64 x.kind,.int .i64 x.op,.bool x.nt,.int .i64 x.v.k,.int .i64 x.v.i,.string x.v.s,.string x.tab,.string x.nm,.slice x.A x.n x.c,.slice x.B x.m x.d] from rfl]
      clear FA KA rx tY gY
      have FB:=KB.facts
      simp only [zg] at FB
      have KC:=KB.store 4 rfl 9 (.slice (some ⟨wb.heap.size,0,none⟩) 1 1)
      simp only [zl] at KC
      clear KB
      go_wp2_with fail
      go_meet
      exact ⟨⟨some ⟨wb.heap.size,0,none⟩,1,1,[x]⟩,YP (by omega) (hx.le (by omega)),(KC.add (XD (d:=5) (KC.get 0 rfl) rfl ((KC.ro 1 rfl).imp fun w2 h2=>h2.le (by omega)))).pick [5,0,6,7,8,3,4,9,10,11,13,14] (by decide) rfl⟩
    case rest=>
     obtain ⟨hs,hhs,KB⟩:=hcut
     clear KA FA
     have HHS:=hid hhs
     clear hhs
     go_wp2_with fail
     refine (ZQ T 2 _ (KB.tp_ 11 rfl) (by omega) (by omega)).mono ?_
     rintro e wc ⟨r4,rfl,r40,r41,tc,gc⟩
     have KC:=((Hold.Zf KB 11 rfl gc tc).nil 97 7).add (S:=fun w=>∀ a∈([]:List Ac),AcIn 5 a w) (fun w2 _ _ a ha=>(nomatch ha))
     have KD:Hold M (some T) w _ [.own 97 7 (.slice none 0 0) 0 (Vf ([]:List Ac)),.ro (fun w=>∀ a∈([]:List Ac),AcIn 5 a w),.blk gx 40 #[.string name,.string tt,.bool bb,.int .i64 ev,.slice cs.A cs.n cs.c,.bool be,.slice ps.A ps.n ps.c,.slice qs.A qs.n qs.c,.slice none 0 0,.slice hs.A hs.n hs.c,.slice none 0 0],.ro (Z0 5 hs),.ro (SlP.In cs 1 Zt (fun _ _=>True)),.ro (SlP.In ps 1 Zt (fun _ _=>True)),.ro (SlP.In qs 1 Zt (fun _ _=>True)),.blk gpl 177 #[.slice fA fn fc,.slice sA sn sc],.ro (Zg ⟨⟨fA,fn,fc,fl⟩,⟨sA,sn,sc,sl⟩⟩),.blk gs 49 #[.string snm,.slice (some ⟨bC,oC,none⟩) cn cc],.ro (SlR 4 (some ⟨bC,oC,none⟩) cn (Zd cl)),.blk gr 40 #[.string ⟨#[]⟩,.string ⟨#[]⟩,.bool false,.int .i64 0,.slice none 0 0,.bool false,.slice none 0 0,.slice none 0 0,.slice none 0 0,.slice none 0 0,.slice none 0 0],.ro Wds,.tp T]:=KC.pick [1,0,2,3,4,5,6,7,8,9,10,11,12,13] (by decide) rfl
     obtain ⟨i0,hi0⟩:∃ i0:Nat,1+r4=i0:=⟨(1+r4).toNat,by omega⟩
     have hi02:i0≤2:=by omega
     have hwi0:IntKind.i64.wrap (1+r4)=i0:=by rw [hi0];exact IntWalk.i64_in _ (by omega)
     have HI0:=hid hi0
     clear KB KC tc gc hi0
     go_wp2_with fail
     go_loopw [10] (fun iv wr=>∃ (i k cap:Nat) (O:Option Addr) (l:List Ac),iv=.int .i64 i∧k+i≤2∧(∀ a∈l,AcGd 5 a)∧Hold M (some T) w wr [.own 97 7 (.slice O k cap) k (Vf l),.ro (fun w=>∀ a∈l,AcIn 5 a w),.blk gx 40 #[.string name,.string tt,.bool bb,.int .i64 ev,.slice cs.A cs.n cs.c,.bool be,.slice ps.A ps.n ps.c,.slice qs.A qs.n qs.c,.slice none 0 0,.slice hs.A hs.n hs.c,.slice O k cap],.ro (Z0 5 hs),.ro (SlP.In cs 1 Zt (fun _ _=>True)),.ro (SlP.In ps 1 Zt (fun _ _=>True)),.ro (SlP.In qs 1 Zt (fun _ _=>True)),.blk gpl 177 #[.slice fA fn fc,.slice sA sn sc],.ro (Zg ⟨⟨fA,fn,fc,fl⟩,⟨sA,sn,sc,sl⟩⟩),.blk gs 49 #[.string snm,.slice (some ⟨bC,oC,none⟩) cn cc],.ro (SlR 4 (some ⟨bC,oC,none⟩) cn (Zd cl)),.blk gr 40 #[.string ⟨#[]⟩,.string ⟨#[]⟩,.bool false,.int .i64 0,.slice none 0 0,.bool false,.slice none 0 0,.slice none 0 0,.slice none 0 0,.slice none 0 0,.slice none 0 0],.ro Wds,.tp T]) (fun iv _=>(intOf iv).toNat)
     case atStart=>exact ⟨i0,0,0,none,[],rfl,by omega,fun s hs=>(nomatch hs),KD⟩
     case round=>
      clear KD
      obtain ⟨i,k,cap,O,l,rfl,hki,hgd,H⟩:=hrel
      by_cases hi:0<i
      ·have hii:(0:Int)<(i:Int):=by omega
       have hwi:IntKind.i64.wrap ((i:Int) - 1)=((i - 1:Nat):Int):=by rw [show ((i - 1:Nat):Int)=(i:Int) - 1 by omega];exact IntWalk.i64_in _ (by omega)
       have F:=H.facts
       simp only [zg] at F
       obtain ⟨KM,hKM,K6⟩:=H.name
       have H1:∀ wv:World,Hold M (some T) w wv KM→Blk wv gx 40 #[.string name,.string tt,.bool bb,.int .i64 ev,.slice cs.A cs.n cs.c,.bool be,.slice ps.A ps.n ps.c,.slice qs.A qs.n qs.c,.slice none 0 0,.slice hs.A hs.n hs.c,.slice O k cap]:=fun wv h=>by rw [hKM] at h;exact h.Zy 2 rfl
       have H2:∀ wv:World,Hold M (some T) w wv KM→Blk wv gs 49 #[.string snm,.slice (some ⟨bC,oC,none⟩) cn cc]:=fun wv h=>by rw [hKM] at h;exact h.Zy 9 rfl
       have H5:∀ wv:World,Hold M (some T) w wv KM→Blk wv gpl 177 #[.slice fA fn fc,.slice sA sn sc]:=fun wv h=>by rw [hKM] at h;exact h.Zy 7 rfl
       have H3:∀ wv:World,Hold M (some T) w wv KM→Ro wv (Mut M KM) (Zg ⟨⟨fA,fn,fc,fl⟩,⟨sA,sn,sc,sl⟩⟩)∧Ro wv (Mut M KM) Wds∧Ro wv (Mut M KM) (SlR 4 (some ⟨bC,oC,none⟩) cn (Zd cl))∧Tp wv T∧∀ b,(Mut M KM) b→T≤b:=fun wv h=>by rw [hKM] at h ⊢;exact ⟨h.ro 8 rfl,h.ro 12 rfl,h.ro 10 rfl,h.tp_ 13 rfl,(h.get 13 rfl).2⟩
       have h4:KM[13]? =some (.tp T):=by rw [hKM];rfl
       have HH1:=hid H1
       have HH2:=hid H2
       have HH3:=hid H3
       have HH5:=hid H5
       have HH4:=hid h4
       have HKM:=hid hKM
       clear hKM H1 H2 H3 H5 h4 H
       go_wp2_with fail
       clear F
       refine wp_region_any (by kernel_rfl) ?_
       refine ZH 8 87 (KM) (spL [(80,Uj (Mut M KM)),(81,Uh (Mut M KM))]) (by kernel_rfl) (by kernel_rfl) (by kernel_rfl) rfl ?_ (K6.drew) ?_
       ·exact Ze ZdA (Ze ZeG (ZF _))
       simp only [zd,Act.put,List.getElem_toArray,List.getElem_cons_zero,List.getElem_cons_succ,zl]
       refine' dv rfl rfl rfl (fun wv HC=>?_) ?_;rotate_left
       · go_simp<;>rfl
       simp only [Act.put,zl]
       refine' dv rfl rfl rfl (fun wv HC=>?_) ?_;rotate_left
       ·obtain q10:=(HH1.out _ HC).cell 10;go_simp<;>rfl
       simp only [Act.put,zl]
       refine' dv rfl rfl rfl (fun wv HC=>?_) ?_;rotate_left
       · go_simp<;>rfl
       simp only [Act.put,zl]
       refine' dv rfl rfl rfl (fun wv HC=>?_) ?_;rotate_left
       ·obtain q0:=(HH1.out _ HC).cell 0;obtain q1:=(HH1.out _ HC).cell 1;obtain q2:=(HH1.out _ HC).cell 2;obtain q3:=(HH1.out _ HC).cell 3;obtain q4:=(HH1.out _ HC).cell 4;obtain q5:=(HH1.out _ HC).cell 5;obtain q6:=(HH1.out _ HC).cell 6;obtain q7:=(HH1.out _ HC).cell 7;obtain q8:=(HH1.out _ HC).cell 8;obtain q9:=(HH1.out _ HC).cell 9;obtain q10:=(HH1.out _ HC).cell 10;go_simp<;>rfl
       simp only [Act.put,zl]
       refine' dv rfl rfl rfl (fun wv HC=>?_) ?_;rotate_left
       ·obtain q0:=(HH2.out _ HC).cell 0;obtain q1:=(HH2.out _ HC).cell 1;go_simp<;>rfl
       simp only [Act.put,zl]
       refine' dv rfl rfl rfl (fun wv HC=>?_) ?_;rotate_left
       ·obtain q0:=(HH5.out _ HC).cell 0;obtain q1:=(HH5.out _ HC).cell 1;go_simp<;>rfl
       simp only [Act.put,zl]
       refine Zq 80 (Uj (Mut M KM)) (f:=100) (args:=#[.pointer (some ⟨T,0,none⟩),.agg #[.string name,.string tt,.bool bb,.int .i64 ev,.slice cs.A cs.n cs.c,.bool be,.slice ps.A ps.n ps.c,.slice qs.A qs.n qs.c,.slice none 0 0,.slice hs.A hs.n hs.c,.slice O k cap],.agg #[.string snm,.slice (some ⟨bC,oC,none⟩) cn cc],.agg #[.slice fA fn fc,.slice sA sn sc]]) rfl rfl rfl rfl (fun wv=>?_) (fun wv HC hrm hD=>?_) ?_
       ·go_simp<;>rfl
       ·obtain ⟨X0,X1,X2,X3,X4⟩:=HH3.out _ HC
        refine (Zhf (Mut M KM) T wv HC.Zc X3 X4 ⟨name,tt,bb,ev,cs,be,ps,qs,SlP.nil,hs,⟨O,k,cap,[]⟩⟩ ⟨snm,⟨some ⟨bC,oC,none⟩,cn,cc,cl⟩⟩ ⟨⟨fA,fn,fc,fl⟩,⟨sA,sn,sc,sl⟩⟩ (X0.less (Zj HH4.out)) ((X2.imp fun w2 h2=>⟨h2,fun _ _=>trivial⟩).less (Zj HH4.out)) hcl (X1.less (Zj HH4.out)) hT HPB.out.1 HPB.out.2.1 HPB.out.2.2).mono ?_
        rintro e w5 ⟨x,rfl,hx,rx,t5,g5⟩
        exact ⟨_,rfl,⟨x,rfl,hx,rx⟩,Hold.Zf HC 13 HH4.out g5 t5,RM.grown g5 (.inr ⟨_,List.mem_of_getElem? HH4.out,rfl⟩)⟩
       rintro u wx HCx ⟨a0,rfl,hx,rx⟩
       clear HCx hx rx
       simp only [Act.put,zl]
       rw [show a0.val=.agg #[.int .i64 a0.kind,.string a0.tab,.slice a0.rows.A a0.rows.n a0.rows.c,.slice a0.qs.A a0.qs.n a0.qs.c,.slice a0.sets.A a0.sets.n a0.sets.c,.slice a0.wh.A a0.wh.n a0.wh.c,.string a0.text] from rfl]
       refine Ye #[.int .i64 a0.kind,.string a0.tab,.slice a0.rows.A a0.rows.n a0.rows.c,.slice a0.qs.A a0.qs.n a0.qs.c,.slice a0.sets.A a0.sets.n a0.sets.c,.slice a0.wh.A a0.wh.n a0.wh.c,.string a0.text] 97 81 (Uh (Mut M KM)) (fun g=>.slice (some ⟨g,0,none⟩) 1 1) rfl rfl rfl rfl (fun wv=>?_) (fun wv HC hrm hD hro=>?_) ?_
       ·go_simp<;>rfl
       ·have h1:Uj (Mut M KM) a0.val wv:=ZV hD 6 rfl (by kernel_rfl) rfl rfl
        obtain ⟨y1,hy1,ok1,q1⟩:=h1
        have hy2:(#[.int .i64 a0.kind,.string a0.tab,.slice a0.rows.A a0.rows.n a0.rows.c,.slice a0.qs.A a0.qs.n a0.qs.c,.slice a0.sets.A a0.sets.n a0.sets.c,.slice a0.wh.A a0.wh.n a0.wh.c,.string a0.text]:Array Value)=#[.int .i64 y1.kind,.string y1.tab,.slice y1.rows.A y1.rows.n y1.rows.c,.slice y1.qs.A y1.qs.n y1.qs.c,.slice y1.sets.A y1.sets.n y1.sets.c,.slice y1.wh.A y1.wh.n y1.wh.c,.string y1.text]:=by
         have h:=hy1
         simp only [Ac.val,Value.agg.injEq] at h
         exact h
        rw [hy2] at hro ⊢
        exact ⟨_,y1,rfl,ok1,(ZJ (hro _ HC.Zc) rfl:Ro _ _ (SlR 7 _ 1 (Ac.cells y1))),(RM.alloc (Mut M KM) wv _).ro q1⟩
       rintro g81 wg HCg hg81
       clear HCg hg81
       simp only [Act.put,zl]
       refine ZE ?_
       rintro wx3 HX
       rintro _hrm HGW
       have hu:Uh (Mut M KM) (.slice (some ⟨g81,0,none⟩) 1 1) wx3:=(Zp (d:=81) rfl).1 (HGW 7 _ rfl (by omega))
       clear HGW _hrm
       obtain ⟨g1,a,e1,hok1,hro1,hro2⟩:=hu
       obtain rfl:g81=g1:=by injection e1 with e1;injection e1 with e1;injection e1
       rw [HKM.out] at HX hro2
       have HSR:=hid hro1.now
       clear e1 HH1 HH2 HH3 HH4 HH5 HKM K6 hro1
       have K7:=HX.add hro2
       have F7:=K7.facts
       simp only [zg] at F7
       clear HX hro2
       go_wp2_with (at_builtin;go_must (refine Yy K7 1 rfl Tryz.Zhz HSR.out rfl (.tmp 75) (.tmp 81) rfl rfl rfl (by intro u hu;simp [Ac.cells,SlP.v] at hu;rcases hu with rfl|rfl|rfl|rfl|rfl|rfl|rfl<;>rfl) (by omega) (by omega) ?_);intro gA capA wA hcA hmA KA;rw [show Vf l++Ac.cells a=Vf (l++[a]) by simp [Vf]] at KA;simp only [zl] at KA;have FA:=KA.facts;simp only [zg] at FA)
       have KB:=KA.store 3 rfl 10 (.slice gA (k+1) capA)
       simp only [zl] at KB
       have KC:=KB.add (S:=fun w=>∀ z∈l++[a],AcIn 5 z w) (((KB.ro 2 rfl).and (KB.ro 0 rfl)).imp fun w2 h2 z hz=>by
        rcases List.mem_append.1 hz with hz|hz
        ·exact h2.1 z hz
        ·simp only [List.mem_cons,List.not_mem_nil,or_false] at hz
         subst hz
         exact h2.2)
       go_roundw
       case rel=>
        refine ⟨i - 1,k+1,capA,gA,l++[a],by first|rfl|(rw [hwi];go_num),by omega,fun z hz=>?_,KC.pick [2,0,4,5,6,7,8,9,10,11,12,13,14,15] (by decide) rfl⟩
        rcases List.mem_append.1 hz with hz|hz
        ·exact hgd z hz
        ·simp only [List.mem_cons,List.not_mem_nil,or_false] at hz
         subst hz
         exact hok1
       case measure=>simp [intOf];omega
      ·obtain rfl:i=0:=by omega
       have hcap:=Yx (H.get 0 rfl)
       have hlen:=(H.get 0 rfl).1
       rw [show (Vf l).length=l.length * 7 from Yu Ac.cells 7 (fun _=>rfl) l] at hlen
       have KS:=H.ZC 0 rfl
       simp only [List.set_cons_zero] at KS
       have hTG:Ro _ _ (TgIn 5 ⟨name,tt,bb,ev,cs,be,ps,qs,SlP.nil,hs,⟨O,k,cap,l⟩⟩):=((KS.ro 4 rfl).and ((KS.ro 5 rfl).and ((KS.ro 6 rfl).and ((KS.ro 3 rfl).and ((KS.ro 0 rfl).and (KS.ro 1 rfl)))))).imp fun w2 h2=>⟨h2.1,h2.2.1,h2.2.2.1,SlP.Zi _ _ _ w2,h2.2.2.2.1,⟨h2.2.2.2.2.1,h2.2.2.2.2.2⟩⟩
       have KT:Hold M (some T) w _ [.blk gx 40 #[.string name,.string tt,.bool bb,.int .i64 ev,.slice cs.A cs.n cs.c,.bool be,.slice ps.A ps.n ps.c,.slice qs.A qs.n qs.c,.slice none 0 0,.slice hs.A hs.n hs.c,.slice O k cap],.ro (TgIn 5 ⟨name,tt,bb,ev,cs,be,ps,qs,SlP.nil,hs,⟨O,k,cap,l⟩⟩),.blk gr 40 #[.string ⟨#[]⟩,.string ⟨#[]⟩,.bool false,.int .i64 0,.slice none 0 0,.bool false,.slice none 0 0,.slice none 0 0,.slice none 0 0,.slice none 0 0,.slice none 0 0],.tp T]:=(KS.add hTG).pick [3,0,12,14] (by decide) rfl
       have hTGd:TgGd 5 ⟨name,tt,bb,ev,cs,be,ps,qs,SlP.nil,hs,⟨O,k,cap,l⟩⟩:=⟨hev3,HCS.out,HPQ.out.1,HPQ.out.2,LsOk.nil _ _,HHS.out,⟨⟨hcap.1,hcap.2.1⟩,by show l.length≤4;omega,hgd⟩⟩
       clear KS H hTG
       go_wp2_with fail
       refine (ZeN M T gx gr _ w _ _ hTGd KT).mono ?_
       rintro e wd ⟨t2,rfl,hgd2,hn2,ht2,hp2,hf2,KU⟩
       clear KT
       obtain ⟨un,ut,ub,ue,⟨oA,on,oc,ol⟩,uch,⟨pA,pn,pc,pl⟩,⟨qA,qn,qc,ql⟩,⟨rA,rn,rc,rl⟩,⟨kA,kn,kc,kl⟩,⟨aA,an,ac,al⟩⟩:=t2
       simp only [SlP.v] at KU hn2 ht2
       subst hn2 ht2
       have F6:=KU.facts
       simp only [zg] at F6
       have K7:=(((((((((((KU.store 2 rfl 0 (.string un)).store 2 rfl 1 (.string ut)).store 2 rfl 2 (.bool ub)).store 2 rfl 3 (.int .i64 ue)).store 2 rfl 4 (.slice oA on oc)).store 2 rfl 5 (.bool uch)).store 2 rfl 6 (.slice pA pn pc)).store 2 rfl 7 (.slice qA qn qc)).store 2 rfl 8 (.slice rA rn rc)).store 2 rfl 9 (.slice kA kn kc)).store 2 rfl 10 (.slice aA an ac))
       simp only [zl] at K7
       have F7:=K7.facts
       simp only [zg] at F7
       have HR:=hid ((K7.ro 1 rfl).less zm)
       have HT:=hid (And.intro (K7.tp_ 3 rfl) K7.grow)
       have HGD:=hid hgd2
       clear KU K7 hgd2 hp2 hf2
       go_wp2_with fail
       refine bodyPost_ret (v:=.agg #[.string un,.string ut,.bool ub,.int .i64 ue,.slice oA on oc,.bool uch,.slice pA pn pc,.slice qA qn qc,.slice rA rn rc,.slice kA kn kc,.slice aA an ac]) ?_ rfl ?_
       ·clear HT HR HGD
        simp [results,Tryz.results43,go_sem,F7]
       ·exact ⟨⟨un,ut,ub,ue,⟨oA,on,oc,ol⟩,uch,⟨pA,pn,pc,pl⟩,⟨qA,qn,qc,ql⟩,⟨rA,rn,rc,rl⟩,⟨kA,kn,kc,kl⟩,⟨aA,an,ac,al⟩⟩,rfl,HGD.out,rfl,hT1,HR.out,HT.out.1,HT.out.2⟩
def YR (w:World) (e:Ending) (w' :World):Prop:=∃ b:Bool,e=.returned (.bool b)∧Below w.heap.size w w'
set_option maxHeartbeats 4000000 in
set_option maxRecDepth 100000 in
theorem WG (s:ByteArray) (w:World):Calls Tryz.prog 232 #[.string s] w fun e w' =>YR w e w' :=by
 have K0:=Hold.start Zb w zn
 go_enter Tryz.func232,Tryz.ntmps232
 go_wp2_with fail
 refine (Qq s _).mono ?_
 rintro e w1 ⟨rfl,rfl⟩
 generalize Yv s=b
 go_wp2_with fail
 all_goals (go_ret;exact ⟨_,rfl,K0.below⟩)
set_option maxHeartbeats 4000000 in
set_option maxRecDepth 100000 in
theorem Vj (x:Ex) (w:World):Calls Tryz.prog 233 #[.agg #[.int .i64 x.kind,.int .i64 x.op,.bool x.nt,.int .i64 x.v.k,.int .i64 x.v.i,.string x.v.s,.string x.tab,.string x.nm,.slice x.A x.n x.c,.slice x.B x.m x.d]] w fun e w' =>YR w e w' :=by
 have K0:=(Hold.start Zb w zn).Za #[.int .i64 x.kind,.int .i64 x.op,.bool x.nt,.int .i64 x.v.k,.int .i64 x.v.i,.string x.v.s,.string x.tab,.string x.nm,.slice x.A x.n x.c,.slice x.B x.m x.d] 126
 have F0:=K0.facts
 simp only [zg] at F0
 go_enter Tryz.func233,Tryz.ntmps233
 go_upto_region 1 with fail
 generalize World.alloc _ _=w1 at K0 F0 ⊢
 go_wp2_with fail
 all_goals (go_ret;exact ⟨_,rfl,K0.below⟩)
theorem Ud {d:Nat} {x:Ex} {w:World} (h:ExIn d x w) (h1:x.m=1):∃ (b o:Nat) (q:Qu),x.B=some ⟨b,o,none⟩∧b<w.heap.size∧x.sub=[q]∧w.cell? ⟨b,o,none⟩=some (.bool q.star)∧w.cell? ⟨b,o+1,none⟩=some (.slice q.A q.n q.c)∧w.cell? ⟨b,o+2,none⟩=some (.string q.src)∧w.cell? ⟨b,o+3,none⟩=some (.slice q.B q.m q.d):=by
 cases d with
 | zero=>exact h.elim
 | succ d=>
  have h3:Rd w w.heap.size 4 x.B x.m (YU x.sub):=h.2.2.1
  have hl:x.sub.length=1:=by
   have:=h3.1
   rw [Qb] at this
   omega
  obtain ⟨q,hq⟩:∃ q,x.sub=[q]:=by
   match hh:x.sub,hl with
   | [q],_=>exact ⟨q,rfl⟩
  obtain ⟨b,o,e,hb,hc⟩:=h3.2 (by omega)
  rw [hq] at hc
  exact ⟨b,o,q,e,hb,hq,by simpa using hc 0 _ rfl,hc 1 _ rfl,hc 2 _ rfl,hc 3 _ rfl⟩
set_option maxHeartbeats 16000000 in
set_option maxRecDepth 100000 in
theorem WS (d:Nat) (x:Ex) (w:World) (hx:Ro w Zb (ExIn d x)):Calls Tryz.prog 183 #[.agg #[.int .i64 x.kind,.int .i64 x.op,.bool x.nt,.int .i64 x.v.k,.int .i64 x.v.i,.string x.v.s,.string x.tab,.string x.nm,.slice x.A x.n x.c,.slice x.B x.m x.d]] w fun e w' =>YR w e w' :=by
 have K0:=((Hold.start Zb w zn).add (hx.less (by simp [Mut]))).Za #[.int .i64 x.kind,.int .i64 x.op,.bool x.nt,.int .i64 x.v.k,.int .i64 x.v.i,.string x.v.s,.string x.tab,.string x.nm,.slice x.A x.n x.c,.slice x.B x.m x.d] 126
 have F0:=K0.facts
 simp only [zg] at F0
 have HX:=hid (K0.ro 1 rfl).now
 clear hx
 go_enter Tryz.func183,Tryz.ntmps183
 by_cases hm:x.m=1
 ·obtain ⟨b,o,q,eB,hb,-,q0,q1,q2,q3⟩:=Ud HX.out hm
  rw [eB,hm] at K0 F0 q0 q1 q2 q3 hb ⊢
  clear HX hm eB
  go_upto_region 1 with fail
  generalize World.alloc _ _=w1 at K0 F0 q0 q1 q2 q3 hb ⊢
  go_wp2_with fail
  all_goals first
   | (go_ret;exact ⟨_,rfl,K0.below⟩)
 ·have hmb:((x.m:Int)==1)=false:=by simp;omega
  clear HX
  go_upto_region 1 with fail
  generalize World.alloc _ _=w1 at K0 F0 ⊢
  go_wp2_with fail
  all_goals (go_ret;exact ⟨_,rfl,K0.below⟩)
def VE (d:Nat):Prop:=∀ (x:Ex) (w:World) (hx:Ro w Zb (ExIn d x)) (hg:ExGd d x),Calls Tryz.prog 207 #[.agg #[.int .i64 x.kind,.int .i64 x.op,.bool x.nt,.int .i64 x.v.k,.int .i64 x.v.i,.string x.v.s,.string x.tab,.string x.nm,.slice x.A x.n x.c,.slice x.B x.m x.d]] w fun e w' =>YR w e w'
def VA (d:Nat):Prop:=∀ (A:Option Addr) (n c:Nat) (l:List Ex) (w:World) (hx:Ro w Zb (ExsIn d A n l)) (hg:∀ x∈l,ExGd d x) (hn:n≤1000),Calls Tryz.prog 162 #[.slice A n c] w fun e w' =>YR w e w'
set_option maxHeartbeats 8000000 in
set_option maxRecDepth 100000 in
theorem zM {d:Nat} (h:VE d):VA d:=by
 intro A n c l w hx hg hn
 have HLN:=hid (show l.length=n from hx.now.len)
 have K0:=(Hold.start Zb w zn).add (hx.less (by simp [Mut]))
 clear hx
 go_enter Tryz.func162,Tryz.ntmps162
 go_wp2_with fail
 go_loopw [7] (fun iv wr=>∃ j:Nat,j≤n∧iv=.int .i64 j∧Hold Zb none w wr [.ro (ExsIn d A n l)]) (fun iv _=>n - (intOf iv).toNat)
 case atStart=>exact ⟨0,by omega,rfl,K0⟩
 case round=>
  clear K0
  obtain ⟨j,hj,rfl,H⟩:=hrel
  by_cases hlt:j<n
  ·obtain ⟨x,hx⟩:∃ c,l[j]? =some c:=⟨l[j]'(by rw [HLN.out];exact hlt),List.getElem?_eq_getElem _⟩
   have hm:=List.mem_of_getElem? hx
   obtain ⟨b,o,rfl,hb2,hc,-⟩:=(H.ro 0 rfl).now.at_ hx
   have x0:=hc 0 _ (by omega) rfl
   have x1:=hc 1 _ (by omega) rfl
   have x2:=hc 2 _ (by omega) rfl
   have x3:=hc 3 _ (by omega) rfl
   have x4:=hc 4 _ (by omega) rfl
   have x5:=hc 5 _ (by omega) rfl
   have x6:=hc 6 _ (by omega) rfl
   have x7:=hc 7 _ (by omega) rfl
   have x8:=hc 8 _ (by omega) rfl
   have x9:=hc 9 _ (by omega) rfl
   simp only [Nat.add_zero] at x0 x1 x2 x3 x4 x5 x6 x7 x8 x9
   clear hc hx
   have K2:=H.Za #[.int .i64 x.kind,.int .i64 x.op,.bool x.nt,.int .i64 x.v.k,.int .i64 x.v.i,.string x.v.s,.string x.tab,.string x.nm,.slice x.A x.n x.c,.slice x.B x.m x.d] 126
   have F2:=K2.facts
   simp only [zg] at F2
   clear H
   go_wp2_with fail
   refine (h x _ (((K2.ro 1 rfl).imp fun w2 h2=>h2.2 x hm).less zn) (hg x hm)).mono ?_
   rintro e w3 ⟨r,rfl,b3⟩
   have K3:=K2.call b3
   clear K2 F2 b3 x0 x1 x2 x3 x4 x5 x6 x7 x8 x9
   cases r
   ·have HB:=hid K3.below
    go_wp2_with fail
    go_ret
    exact ⟨_,rfl,HB.out⟩
   ·go_wp2_with fail
    go_roundw
    case rel=>exact ⟨j+1,by omega,by go_num,K3.drop (List.sublist_cons_self _ _)⟩
    case measure=>simp [intOf];omega
  ·obtain rfl:n=j:=by omega
   have HB:=hid H.below
   go_wp2_with fail
   go_ret
   exact ⟨_,rfl,HB.out⟩
theorem ZO (s:ByteArray) (w:World):Calls Tryz.prog 160 #[.string s] w fun e w' =>YR w e w' :=(Qq s w).mono fun e w' ⟨h1,h2⟩=>⟨_,h1,by subst h2;exact (Hold.start Zb w zn).below⟩
theorem ZU (k i:Int) (s:ByteArray) (w:World):Calls Tryz.prog 182 #[.agg #[.int .i64 k,.int .i64 i,.string s]] w fun e w' =>YR w e w' :=(ZcI k i s w).mono fun e w' ⟨h1,h2⟩=>⟨_,h1,by subst h2;exact ((Hold.start Zb w zn).Za _ _).below⟩
set_option maxHeartbeats 16000000 in
set_option maxRecDepth 100000 in
theorem ZcD {d:Nat} (HA:VA d):VE (d+1):=by
 intro x w hx hg
 obtain ⟨kind,op,nt,⟨vk,vi,vs⟩,tab,nm,A,n,c,args,B,m,e,sub⟩:=x
 have hsl:sub.length=m:=by
  have h:=(show Rd _ _ 4 B m (YU sub) from (ExIn.succ.1 hx.now).2.1).1
  rw [Qb] at h
  omega
 have HG:=hid (show (∀ a∈args,ExGd d a)∧n≤1000∧m≤1 from ⟨hg.2.2.1,by
  have h:args.length=n:=(ExIn.succ.1 hx.now).1.len
  have h2:args.length≤3:=hg.2.1.2.1
  omega,by
  have h2:sub.length≤1:=hg.2.1.2.2
  omega⟩)
 have HQ0:=hid (show ∀ q∈sub,(∀ a∈q.items,ExGd d a)∧(∀ a∈q.wh,ExGd d a)∧q.n≤1000∧q.m≤1000 from fun q hq=>by
  have h3:=hg.2.2.2 q hq
  have h5:=(ExIn.succ.1 hx.now).2.2 q hq
  have h6:q.items.length=q.n:=ExsIn.len h5.1
  have h7:q.wh.length=q.m:=ExsIn.len (show ExsIn d q.B q.m q.wh w from h5.2)
  have h8:=h3.2.1
  exact ⟨h3.2.2.1,h3.2.2.2,by omega,by omega⟩)
 have K0:=((Hold.start Zb w zn).add (hx.less (by simp [Mut]))).Za #[.int .i64 kind,.int .i64 op,.bool nt,.int .i64 vk,.int .i64 vi,.string vs,.string tab,.string nm,.slice A n c,.slice B m e] 126
 obtain ⟨gx,hgx⟩:∃ g,g=w.heap.size:=⟨_,rfl⟩
 rw [←hgx] at K0
 have F0:=K0.facts
 simp only [zg] at F0
 rw [hgx] at F0
 clear hx hg
 go_enter Tryz.func207,Tryz.ntmps207
 go_upto_region 1 with fail
 rw [←hgx] at F0 ⊢
 have HGX:=hid hgx
 clear hgx
 generalize World.alloc _ _=w1 at K0 F0 ⊢
 obtain ⟨c5,h5⟩:∃ z:Bool,(kind !=5)=z:=⟨_,rfl⟩
 obtain ⟨c6,h6⟩:∃ z:Bool,(kind !=6)=z:=⟨_,rfl⟩
 obtain ⟨c0,h0⟩:∃ z:Bool,(op !=0)=z:=⟨_,rfl⟩
 go_cut [27] (fun v wx=>∃ bb:Bool,v=.bool bb∧Hold Zb none w wx [.cst gx 126 #[.int .i64 kind,.int .i64 op,.bool nt,.int .i64 vk,.int .i64 vi,.string vs,.string tab,.string nm,.slice A n c,.slice B m e],.ro (ExIn (d+1) ⟨kind,op,nt,⟨vk,vi,vs⟩,tab,nm,A,n,c,args,B,m,e,sub⟩)])
 case first=>
  go_wp2_with (first
  | (go_at_call 183;go_must (refine (WS (d+1) ⟨kind,op,nt,⟨vk,vi,vs⟩,tab,nm,A,n,c,args,B,m,e,sub⟩ _ ((K0.ro 1 rfl).less zn)).mono ?_);rintro e w1 ⟨r,rfl,b1⟩;replace K0:=K0.call b1;replace F0:=K0.facts;simp only [zg] at F0;clear b1)
  | (go_at_call 182;go_must (refine (ZU _ _ _ _).mono ?_);rintro e w1 ⟨r,rfl,b1⟩;replace K0:=K0.call b1;replace F0:=K0.facts;simp only [zg] at F0;clear b1)
  | (go_at_call 232;go_must (refine (WG _ _).mono ?_);rintro e w1 ⟨r,rfl,b1⟩;replace K0:=K0.call b1;replace F0:=K0.facts;simp only [zg] at F0;clear b1)
  | (go_at_call 160;go_must (refine (ZO _ _).mono ?_);rintro e w1 ⟨r,rfl,b1⟩;replace K0:=K0.call b1;replace F0:=K0.facts;simp only [zg] at F0;clear b1)
  | (go_at_call 233;go_must (refine (Vj ⟨kind,op,nt,⟨vk,vi,vs⟩,tab,nm,A,n,c,args,B,m,e,sub⟩ _).mono ?_);rintro e w1 ⟨r,rfl,b1⟩;replace K0:=K0.call b1;replace F0:=K0.facts;simp only [zg] at F0;clear b1))
  all_goals (go_meet;exact ⟨_,rfl,K0⟩)
 case rest=>
  obtain ⟨bb,rfl,K1⟩:=hcut
  clear K0 F0
  have K0:=K1
  clear K1
  have F0:=K0.facts
  simp only [zg] at F0
  clear h5 h6 h0
  cases bb
  ·by_cases k1:kind=1
   ·subst k1
    go_wp2_with (first
  | (go_at_call 183;go_must (refine (WS (d+1) ⟨1,op,nt,⟨vk,vi,vs⟩,tab,nm,A,n,c,args,B,m,e,sub⟩ _ ((K0.ro 1 rfl).less zn)).mono ?_);rintro e w1 ⟨r,rfl,b1⟩;replace K0:=K0.call b1;replace F0:=K0.facts;simp only [zg] at F0;clear b1)
  | (go_at_call 182;go_must (refine (ZU _ _ _ _).mono ?_);rintro e w1 ⟨r,rfl,b1⟩;replace K0:=K0.call b1;replace F0:=K0.facts;simp only [zg] at F0;clear b1)
  | (go_at_call 232;go_must (refine (WG _ _).mono ?_);rintro e w1 ⟨r,rfl,b1⟩;replace K0:=K0.call b1;replace F0:=K0.facts;simp only [zg] at F0;clear b1)
  | (go_at_call 160;go_must (refine (ZO _ _).mono ?_);rintro e w1 ⟨r,rfl,b1⟩;replace K0:=K0.call b1;replace F0:=K0.facts;simp only [zg] at F0;clear b1)
  | (go_at_call 233;go_must (refine (Vj ⟨1,op,nt,⟨vk,vi,vs⟩,tab,nm,A,n,c,args,B,m,e,sub⟩ _).mono ?_);rintro e w1 ⟨r,rfl,b1⟩;replace K0:=K0.call b1;replace F0:=K0.facts;simp only [zg] at F0;clear b1))
    all_goals (go_ret;exact ⟨_,rfl,K0.below⟩)
   ·have k1b:(kind==1)=false:=by simpa using k1
    by_cases k2:kind=2
    ·subst k2
     go_upto_region 7 with fail
     go_cut [3] (fun v wx=>∃ bb:Bool,v=.bool bb∧Hold Zb none w wx [.cst gx 126 #[.int .i64 2,.int .i64 op,.bool nt,.int .i64 vk,.int .i64 vi,.string vs,.string tab,.string nm,.slice A n c,.slice B m e],.ro (ExIn (d+1) ⟨2,op,nt,⟨vk,vi,vs⟩,tab,nm,A,n,c,args,B,m,e,sub⟩)])
     case first=>
      go_wp2_with (first
  | (go_at_call 183;go_must (refine (WS (d+1) ⟨2,op,nt,⟨vk,vi,vs⟩,tab,nm,A,n,c,args,B,m,e,sub⟩ _ ((K0.ro 1 rfl).less zn)).mono ?_);rintro e w1 ⟨r,rfl,b1⟩;replace K0:=K0.call b1;replace F0:=K0.facts;simp only [zg] at F0;clear b1)
  | (go_at_call 182;go_must (refine (ZU _ _ _ _).mono ?_);rintro e w1 ⟨r,rfl,b1⟩;replace K0:=K0.call b1;replace F0:=K0.facts;simp only [zg] at F0;clear b1)
  | (go_at_call 232;go_must (refine (WG _ _).mono ?_);rintro e w1 ⟨r,rfl,b1⟩;replace K0:=K0.call b1;replace F0:=K0.facts;simp only [zg] at F0;clear b1)
  | (go_at_call 160;go_must (refine (ZO _ _).mono ?_);rintro e w1 ⟨r,rfl,b1⟩;replace K0:=K0.call b1;replace F0:=K0.facts;simp only [zg] at F0;clear b1)
  | (go_at_call 233;go_must (refine (Vj ⟨2,op,nt,⟨vk,vi,vs⟩,tab,nm,A,n,c,args,B,m,e,sub⟩ _).mono ?_);rintro e w1 ⟨r,rfl,b1⟩;replace K0:=K0.call b1;replace F0:=K0.facts;simp only [zg] at F0;clear b1))
      all_goals (go_meet;exact ⟨_,rfl,K0⟩)
     case rest=>
      obtain ⟨bb,rfl,K1⟩:=hcut
      clear K0 F0
      have K0:=K1
      clear K1
      have F0:=K0.facts
      simp only [zg] at F0
      go_wp2_with (first
  | (go_at_call 183;go_must (refine (WS (d+1) ⟨2,op,nt,⟨vk,vi,vs⟩,tab,nm,A,n,c,args,B,m,e,sub⟩ _ ((K0.ro 1 rfl).less zn)).mono ?_);rintro e w1 ⟨r,rfl,b1⟩;replace K0:=K0.call b1;replace F0:=K0.facts;simp only [zg] at F0;clear b1)
  | (go_at_call 182;go_must (refine (ZU _ _ _ _).mono ?_);rintro e w1 ⟨r,rfl,b1⟩;replace K0:=K0.call b1;replace F0:=K0.facts;simp only [zg] at F0;clear b1)
  | (go_at_call 232;go_must (refine (WG _ _).mono ?_);rintro e w1 ⟨r,rfl,b1⟩;replace K0:=K0.call b1;replace F0:=K0.facts;simp only [zg] at F0;clear b1)
  | (go_at_call 160;go_must (refine (ZO _ _).mono ?_);rintro e w1 ⟨r,rfl,b1⟩;replace K0:=K0.call b1;replace F0:=K0.facts;simp only [zg] at F0;clear b1)
  | (go_at_call 233;go_must (refine (Vj ⟨2,op,nt,⟨vk,vi,vs⟩,tab,nm,A,n,c,args,B,m,e,sub⟩ _).mono ?_);rintro e w1 ⟨r,rfl,b1⟩;replace K0:=K0.call b1;replace F0:=K0.facts;simp only [zg] at F0;clear b1))
      all_goals (go_ret;exact ⟨_,rfl,K0.below⟩)
    ·have k2b:(kind==2)=false:=by simpa using k2
     go_upto_region 9 with fail
     go_cut [97] (fun v wx=>∃ bb:Bool,v=.bool bb∧Hold Zb none w wx [.cst gx 126 #[.int .i64 kind,.int .i64 op,.bool nt,.int .i64 vk,.int .i64 vi,.string vs,.string tab,.string nm,.slice A n c,.slice B m e],.ro (ExIn (d+1) ⟨kind,op,nt,⟨vk,vi,vs⟩,tab,nm,A,n,c,args,B,m,e,sub⟩)])
     case first=>
      go_wp2_with (first
  | (go_at_call 183;go_must (refine (WS (d+1) ⟨kind,op,nt,⟨vk,vi,vs⟩,tab,nm,A,n,c,args,B,m,e,sub⟩ _ ((K0.ro 1 rfl).less zn)).mono ?_);rintro e w1 ⟨r,rfl,b1⟩;replace K0:=K0.call b1;replace F0:=K0.facts;simp only [zg] at F0;clear b1)
  | (go_at_call 182;go_must (refine (ZU _ _ _ _).mono ?_);rintro e w1 ⟨r,rfl,b1⟩;replace K0:=K0.call b1;replace F0:=K0.facts;simp only [zg] at F0;clear b1)
  | (go_at_call 232;go_must (refine (WG _ _).mono ?_);rintro e w1 ⟨r,rfl,b1⟩;replace K0:=K0.call b1;replace F0:=K0.facts;simp only [zg] at F0;clear b1)
  | (go_at_call 160;go_must (refine (ZO _ _).mono ?_);rintro e w1 ⟨r,rfl,b1⟩;replace K0:=K0.call b1;replace F0:=K0.facts;simp only [zg] at F0;clear b1)
  | (go_at_call 233;go_must (refine (Vj ⟨kind,op,nt,⟨vk,vi,vs⟩,tab,nm,A,n,c,args,B,m,e,sub⟩ _).mono ?_);rintro e w1 ⟨r,rfl,b1⟩;replace K0:=K0.call b1;replace F0:=K0.facts;simp only [zg] at F0;clear b1)
  | (go_at_call 162;go_must (refine (HA A n c args _ (((K0.ro 1 rfl).imp fun w2 h2=>(ExIn.succ.1 h2).1).less zn) HG.out.1 HG.out.2.1).mono ?_);rintro e w1 ⟨r,rfl,b1⟩;replace K0:=K0.call b1;replace F0:=K0.facts;simp only [zg] at F0;clear b1))
      all_goals (go_meet;exact ⟨_,rfl,K0⟩)
     case rest=>
      obtain ⟨bb,rfl,K1⟩:=hcut
      clear K0 F0
      have K0:=K1
      clear K1
      have F0:=K0.facts
      simp only [zg] at F0
      cases bb
      ·have hm1:=HG.out.2.2
       obtain rfl|rfl:m=0∨m=1:=by omega
       ·go_wp2_with fail
        go_loopw [101] (fun iv wr=>iv=.int .i64 0∧Hold Zb none w wr [.cst gx 126 #[.int .i64 kind,.int .i64 op,.bool nt,.int .i64 vk,.int .i64 vi,.string vs,.string tab,.string nm,.slice A n c,.slice B 0 e],.ro (ExIn (d+1) ⟨kind,op,nt,⟨vk,vi,vs⟩,tab,nm,A,n,c,args,B,0,e,sub⟩)]) (fun _ _=>0)
        case atStart=>exact ⟨rfl,K0⟩
        case round=>
         clear K0 F0
         obtain ⟨rfl,K0⟩:=hrel
         go_wp2_with fail
         all_goals (go_ret;exact ⟨_,rfl,K0.below⟩)
       ·obtain ⟨b,o,q,eB,hb,hsub,-,-,-,-⟩:=Ud (K0.ro 1 rfl).now rfl
        have eB:B=some ⟨b,o,none⟩:=eB
        have hsub:sub=[q]:=hsub
        subst eB
        have hqm:q∈sub:=by have h:sub=[q]:=hsub;rw [h];exact List.mem_singleton_self q
        have HQ:=hid (HQ0.out q hqm)
        go_wp2_with fail
        go_loopw [101] (fun iv wr=>∃ j:Nat,j≤1∧iv=.int .i64 j∧Hold Zb none w wr [.cst gx 126 #[.int .i64 kind,.int .i64 op,.bool nt,.int .i64 vk,.int .i64 vi,.string vs,.string tab,.string nm,.slice A n c,.slice (some ⟨b,o,none⟩) 1 e],.ro (ExIn (d+1) ⟨kind,op,nt,⟨vk,vi,vs⟩,tab,nm,A,n,c,args,some ⟨b,o,none⟩,1,e,sub⟩)]) (fun iv _=>1 - (intOf iv).toNat)
        case atStart=>exact ⟨0,by omega,rfl,K0⟩
        case round=>
         clear K0 F0 hb
         obtain ⟨j,hj,rfl,H⟩:=hrel
         obtain rfl|rfl:j=0∨j=1:=by omega
         ·obtain ⟨b2,o2,q',eB,hb,hs2,q0,q1,q2,q3⟩:=Ud (H.ro 1 rfl).now rfl
          obtain ⟨rfl,rfl⟩:b=b2∧o=o2:=by injection eB with eB;injection eB with e1 e2;exact ⟨e1,e2⟩
          have hs2:sub=[q']:=hs2
          obtain rfl:q=q' :=by rw [hsub] at hs2;injection hs2
          obtain ⟨gq,hgq,K0⟩:∃ gq,gq=_∧Hold Zb none w _ [.cst gq 273 #[.bool q.star,.slice q.A q.n q.c,.string q.src,.slice q.B q.m q.d],.cst gx 126 #[.int .i64 kind,.int .i64 op,.bool nt,.int .i64 vk,.int .i64 vi,.string vs,.string tab,.string nm,.slice A n c,.slice (some ⟨b,o,none⟩) 1 e],.ro (ExIn (d+1) ⟨kind,op,nt,⟨vk,vi,vs⟩,tab,nm,A,n,c,args,some ⟨b,o,none⟩,1,e,sub⟩)]:=⟨_,rfl,H.Za #[.bool q.star,.slice q.A q.n q.c,.string q.src,.slice q.B q.m q.d] 273⟩
          have F0:=K0.facts
          simp only [zg] at F0
          rw [hgq] at F0
          clear H hs2 eB
          go_upto_region 14 with fail
          rw [←hgq] at F0 ⊢
          have HGQ:=hid hgq
          clear hgq q0 q1 q2 q3 hb
          generalize World.alloc _ _=w2 at K0 F0 ⊢
          have HI:=hid (fun (wv:World) (h:Hold Zb none w wv [.cst gq 273 #[.bool q.star,.slice q.A q.n q.c,.string q.src,.slice q.B q.m q.d],.cst gx 126 #[.int .i64 kind,.int .i64 op,.bool nt,.int .i64 vk,.int .i64 vi,.string vs,.string tab,.string nm,.slice A n c,.slice (some ⟨b,o,none⟩) 1 e],.ro (ExIn (d+1) ⟨kind,op,nt,⟨vk,vi,vs⟩,tab,nm,A,n,c,args,some ⟨b,o,none⟩,1,e,sub⟩)])=>HA q.A q.n q.c q.items wv (((h.ro 2 rfl).imp fun w2 h2=>((ExIn.succ.1 h2).2.2 q hqm).1).less zn) HQ.out.1 HQ.out.2.2.1)
          have HW:=hid (fun (wv:World) (h:Hold Zb none w wv [.cst gq 273 #[.bool q.star,.slice q.A q.n q.c,.string q.src,.slice q.B q.m q.d],.cst gx 126 #[.int .i64 kind,.int .i64 op,.bool nt,.int .i64 vk,.int .i64 vi,.string vs,.string tab,.string nm,.slice A n c,.slice (some ⟨b,o,none⟩) 1 e],.ro (ExIn (d+1) ⟨kind,op,nt,⟨vk,vi,vs⟩,tab,nm,A,n,c,args,some ⟨b,o,none⟩,1,e,sub⟩)])=>HA q.B q.m q.d q.wh wv (((h.ro 2 rfl).imp fun w2 h2=>((ExIn.succ.1 h2).2.2 q hqm).2).less zn) HQ.out.2.1 HQ.out.2.2.2)
          go_cut [128] (fun v wx=>∃ bb:Bool,v=.bool bb∧Hold Zb none w wx [.cst gq 273 #[.bool q.star,.slice q.A q.n q.c,.string q.src,.slice q.B q.m q.d],.cst gx 126 #[.int .i64 kind,.int .i64 op,.bool nt,.int .i64 vk,.int .i64 vi,.string vs,.string tab,.string nm,.slice A n c,.slice (some ⟨b,o,none⟩) 1 e],.ro (ExIn (d+1) ⟨kind,op,nt,⟨vk,vi,vs⟩,tab,nm,A,n,c,args,some ⟨b,o,none⟩,1,e,sub⟩)])
          case first=>
           skip
           go_wp2_with (first
  | (go_at_call 183;go_must (refine (WS (d+1) ⟨kind,op,nt,⟨vk,vi,vs⟩,tab,nm,A,n,c,args,B,m,e,sub⟩ _ ((K0.ro 2 rfl).less zn)).mono ?_);rintro e w1 ⟨r,rfl,b1⟩;replace K0:=K0.call b1;replace F0:=K0.facts;simp only [zg] at F0;clear b1)
  | (go_at_call 182;go_must (refine (ZU _ _ _ _).mono ?_);rintro e w1 ⟨r,rfl,b1⟩;replace K0:=K0.call b1;replace F0:=K0.facts;simp only [zg] at F0;clear b1)
  | (go_at_call 232;go_must (refine (WG _ _).mono ?_);rintro e w1 ⟨r,rfl,b1⟩;replace K0:=K0.call b1;replace F0:=K0.facts;simp only [zg] at F0;clear b1)
  | (go_at_call 160;go_must (refine (ZO _ _).mono ?_);rintro e w1 ⟨r,rfl,b1⟩;replace K0:=K0.call b1;replace F0:=K0.facts;simp only [zg] at F0;clear b1)
  | (go_at_call 233;go_must (refine (Vj ⟨kind,op,nt,⟨vk,vi,vs⟩,tab,nm,A,n,c,args,B,m,e,sub⟩ _).mono ?_);rintro e w1 ⟨r,rfl,b1⟩;replace K0:=K0.call b1;replace F0:=K0.facts;simp only [zg] at F0;clear b1)
  | (go_at_call 162;go_must (first|with_reducible refine (HI.out _ K0).mono ?_|with_reducible refine (HW.out _ K0).mono ?_);rintro e w1 ⟨r,rfl,b1⟩;replace K0:=K0.call b1;replace F0:=K0.facts;simp only [zg] at F0;clear b1))
           all_goals (go_meet;exact ⟨_,rfl,K0⟩)
          case rest=>
           obtain ⟨bb,rfl,K1⟩:=hcut
           clear K0 F0
           have K0:=K1
           clear K1
           have F0:=K0.facts
           simp only [zg] at F0
           cases bb
           ·go_wp2_with fail
            go_roundw
            case rel=>exact ⟨1,by omega,by go_num,K0.drop (List.sublist_cons_self _ _)⟩
            case measure=>simp [intOf]
           ·go_wp2_with fail
            all_goals (go_ret;exact ⟨_,rfl,K0.below⟩)
         ·have K0:=H
          go_wp2_with fail
          all_goals (go_ret;exact ⟨_,rfl,K0.below⟩)
      ·go_wp2_with fail
       all_goals (go_ret;exact ⟨_,rfl,K0.below⟩)
  ·go_wp2_with fail
   all_goals (go_ret;exact ⟨_,rfl,K0.below⟩)
theorem Jo:∀ d:Nat,VE d
 | 0=>fun x w hx hg=>hg.elim
 | d+1=>ZcD (zM (Jo d))
end Go.Proofs.YtnbbllkbefagmaaGreatDoor

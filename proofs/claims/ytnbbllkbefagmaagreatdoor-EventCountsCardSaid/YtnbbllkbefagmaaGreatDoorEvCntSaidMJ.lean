import Derived.Test.YtnbbllkbefagmaaGreatDoorEvCntSaidMI
import Derived.Deep.CutBlock
import Derived.Test.YtnbbllkbefagmaaGreatDoorEvCntSaidMC
import Derived.Test.YtnbbllkbefagmaaGreatDoorEvCntSaidME
import Derived.Test.YtnbbllkbefagmaaGreatDoorEvCntSaidMD
import Derived.Deep.DeepCutAuto
import Derived.Test.YtnbbllkbefagmaaGreatDoorEvCntSaidMG
import Derived.Test.YtnbbllkbefagmaaGreatDoorEvCntSaidMH
namespace Go.Proofs.YtnbbllkbefagmaaGreatDoor
open Go.RowKit
set_option linter.unusedVariables false
set_option linter.unusedSimpArgs false
def VP (l:List Ac):List Value:=l.flatMap Ac.cells
theorem Tryz.Zh9:ElemT Tryz.prog 38 97 7 136 (.agg #[.int .i64 0,.string ⟨#[]⟩,.slice none 0 0,.slice none 0 0,.slice none 0 0,.slice none 0 0,.string ⟨#[]⟩]):=⟨Tryz.underlying38,by kernel_rfl,rfl,by omega⟩
def Ud (M:Nat→Prop) (u:Value) (w:World):Prop:=∃ (g:Nat) (s:ByteArray),u=.slice (some ⟨g,0,none⟩) 1 1∧Ro w M ((⟨some ⟨g,0,none⟩,1,1,[s]⟩:SlP ByteArray).In 1 ZG (fun _ _=>True))
theorem ZfU {M:Nat→Prop} (u:Value) (w w' :World) (hr:RM M w w') (h:Ud M u w):Ud M u w' :=by
 obtain ⟨g,s,h1,h2⟩:=h
 exact ⟨g,s,h1,hr.ro h2⟩
def UC (M:Nat→Prop) (u:Value) (w:World):Prop:=∃ a:Ac,u=a.val∧AcGd 5 a∧Ro w M (AcIn 5 a)
theorem Zfc {M:Nat→Prop} (u:Value) (w w' :World) (hr:RM M w w') (h:UC M u w):UC M u w' :=by
 obtain ⟨g,h1,h2,h3⟩:=h
 exact ⟨g,h1,h2,hr.ro h3⟩
def Uz (M:Nat→Prop) (u:Value) (w:World):Prop:=∃ (g:Nat) (a:Ac),u=.slice (some ⟨g,0,none⟩) 1 1∧AcGd 5 a∧Ro w M (SlR 7 (some ⟨g,0,none⟩) 1 (Ac.cells a))∧Ro w M (AcIn 5 a)
theorem Zec {M:Nat→Prop} (u:Value) (w w' :World) (hr:RM M w w') (h:Uz M u w):Uz M u w' :=by
 obtain ⟨g,a,h1,h2,h3,h4⟩:=h
 exact ⟨g,a,h1,h2,hr.ro h3,hr.ro h4⟩
def ZfD (w:World) (T:Nat) (M:Nat→Prop) (name:ByteArray) (e:Ending) (w' :World):Prop:=∃ t:Tg,e=.returned t.val∧TgGd 5 t∧t.name=name∧Wi t.tab∧Ro w' M (Yg 5 t)∧Tp w' T∧w.grownBy w' (some T)
set_option maxRecDepth 100000 in
set_option maxHeartbeats 16000000 in
theorem ZgM (M:Nat→Prop) (T:Nat) (w:World) (hM:∀ b,M b→b<w.heap.size) (ht:Tp w T) (hMT:∀ b,M b→T≤b) (name:ByteArray) (tA:Option Addr) (tn tc:Nat) (tl:List Tg) (hl:Ro w (fun b=>b=T) (SlR 11 tA tn (tl.flatMap Tg.cells))) (hn:tn≤1000) (hW:Ro w (Mut M [.tp T]) Wds) (hT:1<T):
  Calls Tryz.prog 43 #[.pointer (some ⟨T,0,none⟩),.string name,.slice tA tn tc] w fun e w' =>ZfD w T M name e w' :=by
 have HLX:=hid hl
 have K0:=(((Hold.Y5 M w T hM ht hMT).add hW).add (S:=fun _=>True) (fun _ _ _=>trivial)).alloc #[.string ⟨#[]⟩,.string ⟨#[]⟩,.bool false,.int .i64 0,.slice none 0 0,.bool false,.slice none 0 0,.slice none 0 0,.slice none 0 0,.slice none 0 0,.slice none 0 0] 40
 obtain ⟨gr,hgr⟩:∃ g,g=w.heap.size:=⟨_,rfl⟩
 rw [←hgr] at K0
 clear hW hl
 go_enter Tryz.func43,Tryz.ntmps43
 go_wp2_with fail
 rw [←hgr]
 have HGR:=hid hgr
 clear hgr
 refine (Js (Mut M _) T _ K0.Zb (K0.tp_ 3 rfl) (K0.get 3 rfl).2).mono ?_
 rintro e w1 ⟨tt,rfl,hT1,t1,g1⟩
 have K1:=Hold.Zf K0 3 rfl g1 t1
 clear K0 g1 t1
 go_wp2_with fail
 refine (ZT T 3 _ (K1.tp_ 3 rfl) (by omega) (by omega)).mono ?_
 rintro e w2 ⟨r,rfl,r0,r1,t2,g2⟩
 have K2:=Hold.Zf K1 3 rfl g2 t2
 obtain ⟨ev,hev⟩:∃ ev:Int,ev=1+r:=⟨_,rfl⟩
 have hwr:IntKind.i64.wrap (1+r)=ev:=by rw [hev];exact IntWalk.i64_in _ (by omega)
 have hev3:1≤ev∧ev≤3:=by omega
 have HEV:=hid hev
 clear K1 g2 t2 hev r0 r1
 go_wp2_with fail
 refine (Z8 T 2 _ (K2.tp_ 3 rfl) (by omega) (by omega)).mono ?_
 rintro e w3 ⟨be,rfl,t3,g3⟩
 have K3:=Hold.Zf K2 3 rfl g3 t3
 clear K2 g3 t3
 go_wp2_with fail
 refine (Z8 T 4 _ (K3.tp_ 3 rfl) (by omega) (by omega)).mono ?_
 rintro e w4 ⟨bb,rfl,t4,g4⟩
 have K4:=(Hold.Zf K3 3 rfl g4 t4).alloc #[.string name,.string tt,.bool bb,.int .i64 ev,.slice none 0 0,.bool be,.slice none 0 0,.slice none 0 0,.slice none 0 0,.slice none 0 0,.slice none 0 0] 40
 clear K3 g4 t4
 have F4:=K4.facts
 simp only [zg] at F4
 go_wp2_with fail
 obtain ⟨gx,hgx⟩:∃ g,g=w4.heap.size:=⟨_,rfl⟩
 rw [←hgx] at K4 ⊢
 have HGX:=hid hgx
 clear hgx F4
 refine (VT (Mut M _) _ K4.Zb tt).mono ?_
 rintro e w5 ⟨cA,cn,cc,rfl,hcc,hc4,r5,b5⟩
 have hcl:1≤cn∧cn≤4:=by
  have h:=(show Rd w5 w5.heap.size 4 cA cn (Zd (ZA tt).2) from r5.now).1
  have h2:=JJ hT1
  have h3:(Zd (ZA tt).2).length=(ZA tt).2.length * 4:=Yu _ 4 (fun _=>rfl) _
  omega
 obtain ⟨bC,oC,eC,-,-⟩:=(show Rd w5 w5.heap.size 4 cA cn (Zd (ZA tt).2) from r5.now).2 (by omega)
 subst eC
 obtain ⟨snm,hsnm⟩:∃ x,x=(ZA tt).1:=⟨_,rfl⟩
 obtain ⟨cl,hcs⟩:∃ x,x=(ZA tt).2:=⟨_,rfl⟩
 rw [←hcs] at r5
 rw [←hsnm]
 have HLN:=hid (show cl.length=cn from (RdC.Zy r5.now).len)
 have K5:=((K4.call b5).add r5).alloc #[.string snm,.slice (some ⟨bC,oC,none⟩) cn cc] 49
 clear K4 hsnm hcs r5 b5
 have F5:=K5.facts
 simp only [zg] at F5
 go_upto_region 3 with fail
 obtain ⟨gs,hgs⟩:∃ g,g=w5.heap.size:=⟨_,rfl⟩
 rw [←hgs] at K5 F5 ⊢
 have HGS:=hid hgs
 clear hgs
 have K6:Hold M (some T) w _ [.blk gx 40 #[.string name,.string tt,.bool bb,.int .i64 ev,.slice none 0 0,.bool be,.slice none 0 0,.slice none 0 0,.slice none 0 0,.slice none 0 0,.slice none 0 0],.blk gs 49 #[.string snm,.slice (some ⟨bC,oC,none⟩) cn cc],.ro (SlR 4 (some ⟨bC,oC,none⟩) cn (Zd cl)),.blk gr 40 #[.string ⟨#[]⟩,.string ⟨#[]⟩,.bool false,.int .i64 0,.slice none 0 0,.bool false,.slice none 0 0,.slice none 0 0,.slice none 0 0,.slice none 0 0,.slice none 0 0],.ro (fun _=>True),.ro Wds,.tp T]:=K5.pick [2,0,1,3,4,5,6] (by decide) rfl
 clear K5
 go_cut [31] (fun v wx=>∃ b:Bool,v=.bool b∧Hold M (some T) w wx [.blk gx 40 #[.string name,.string tt,.bool bb,.int .i64 ev,.slice none 0 0,.bool be,.slice none 0 0,.slice none 0 0,.slice none 0 0,.slice none 0 0,.slice none 0 0],.blk gs 49 #[.string snm,.slice (some ⟨bC,oC,none⟩) cn cc],.ro (SlR 4 (some ⟨bC,oC,none⟩) cn (Zd cl)),.blk gr 40 #[.string ⟨#[]⟩,.string ⟨#[]⟩,.bool false,.int .i64 0,.slice none 0 0,.bool false,.slice none 0 0,.slice none 0 0,.slice none 0 0,.slice none 0 0,.slice none 0 0],.ro (fun _=>True),.ro Wds,.tp T])
 case first=>
  by_cases h2:ev=2
  ·have h2b:(ev==2)=true:=by simpa using h2
   go_wp2_with fail
   all_goals first
    | (exfalso;contradiction)
    | skip
   refine (Z8 T 2 _ (K6.tp_ 6 rfl) (by omega) (by omega)).mono ?_
   rintro e w7 ⟨b7,rfl,t7,g7⟩
   have K7:=Hold.Zf K6 6 rfl g7 t7
   go_wp2_with fail
   go_meet
   exact ⟨b7,rfl,K7⟩
  ·have h2b:(ev==2)=false:=by simpa using h2
   go_wp2_with fail
   all_goals first
    | (exfalso;contradiction)
    | (go_meet;exact ⟨false,rfl,K6⟩)
 case rest=>
  obtain ⟨b7,rfl,K5⟩:=hcut
  clear K6 F5
  have F5:=K5.facts
  simp only [zg] at F5
  go_upto_if 31 with (fail)
  go_cut [] (fun wx=>∃ cs:SlP ByteArray,LsOk 8 cs (fun _=>True)∧Hold M (some T) w wx [.blk gx 40 #[.string name,.string tt,.bool bb,.int .i64 ev,.slice cs.A cs.n cs.c,.bool be,.slice none 0 0,.slice none 0 0,.slice none 0 0,.slice none 0 0,.slice none 0 0],.ro (SlP.In cs 1 ZG (fun _ _=>True)),.blk gs 49 #[.string snm,.slice (some ⟨bC,oC,none⟩) cn cc],.ro (SlR 4 (some ⟨bC,oC,none⟩) cn (Zd cl)),.blk gr 40 #[.string ⟨#[]⟩,.string ⟨#[]⟩,.bool false,.int .i64 0,.slice none 0 0,.bool false,.slice none 0 0,.slice none 0 0,.slice none 0 0,.slice none 0 0,.slice none 0 0],.ro (fun _=>True),.ro Wds,.tp T])
  case first=>
   cases b7
   ·go_wp2_with fail
    go_meet
    exact ⟨SlP.nil,LsOk.nil _ _,(K5.add (S:=SlP.In (SlP.nil:SlP ByteArray) 1 ZG (fun _ _=>True)) (fun w2 _ _=>SlP.Zx _ _ _ w2)).pick [1,0,2,3,4,5,6,7] (by decide) rfl⟩
   ·obtain ⟨KM,hKM,K6⟩:=K5.name
    have H1:∀ wv:World,Hold M (some T) w wv KM→Blk wv gs 49 #[.string snm,.slice (some ⟨bC,oC,none⟩) cn cc]:=fun wv h=>by rw [hKM] at h;exact h.ZF 1 rfl
    have H2:∀ wv:World,Hold M (some T) w wv KM→SlR 4 (some ⟨bC,oC,none⟩) cn (Zd cl) wv:=fun wv h=>by rw [hKM] at h;exact (h.ro 2 rfl).now
    have h4:KM[6]? =some (.tp T):=by rw [hKM];rfl
    have HH1:=hid H1
    have HH2:=hid H2
    have HH4:=hid h4
    have HKM:=hid hKM
    clear hKM H1 H2 h4 K5
    go_wp2_with fail
    clear F5
    refine wp_region_any (by kernel_rfl) ?_
    refine Zp 12 87 (KM) (spL [(38,fun u _=>Yt cn u),(42,Ud (Mut M KM))]) (by kernel_rfl) (by kernel_rfl) (by kernel_rfl) rfl ?_ (K6.drew) ?_
    ·exact Ze (fun _ _ _ _ h=>h) (Ze ZfU (Zo _))
    simp only [zd,Act.put,List.getElem_toArray,List.getElem_cons_zero,List.getElem_cons_succ,zl]
    refine' dv rfl rfl rfl (fun wv HC=>?_) ?_;rotate_left
    · go_simp<;>rfl
    simp only [Act.put,zl]
    refine' dv rfl rfl rfl (fun wv HC=>?_) ?_;rotate_left
    ·obtain q1:=(HH1.out _ HC).cell 1;go_simp<;>rfl
    iterate 2
     simp only [Act.put,zl]
     refine' dv rfl rfl rfl (fun wv HC=>?_) ?_;rotate_left
     · go_simp<;>rfl
    simp only [Act.put,zl]
    refine' dv rfl rfl rfl (fun wv HC=>?_) ?_;rotate_left
    ·obtain q1:=(HH1.out _ HC).cell 1;go_simp<;>rfl
    simp only [Act.put,zl]
    refine' dv rfl rfl rfl (fun wv HC=>?_) ?_;rotate_left
    · go_simp<;>rfl
    simp only [Act.put,zl]
    refine Yz cn 6 HH4.out 38 rfl rfl rfl rfl (fun wv=>?_) (fun r hr=>?_)
    ·go_simp<;>rfl
    have r6:(r:Int)<cn:=by omega
    have r0:(0:Int)≤(r:Int):=by omega
    obtain ⟨⟨ynm,yty,ynn,ykey⟩,hy⟩:=YA HLN.out hr
    have HY:=hid hy
    clear hy
    iterate 2
     simp only [Act.put,zl]
     refine' dv rfl rfl rfl (fun wv HC=>?_) ?_;rotate_left
     · go_simp<;>rfl
    simp only [Act.put,zl]
    refine' dv rfl rfl rfl (fun wv HC=>?_) ?_;rotate_left
    ·obtain ⟨b2',o2',hcA,hb2,x0,x1,x2,x3⟩:=(RdC.Zy (HH2.out _ HC)).at_ HY.out;obtain ⟨rfl,rfl⟩:=addr_eq hcA;clear hcA;go_simp<;>rfl
    simp only [Act.put,zl]
    refine Ye #[.string ynm] 9 42 (Ud (Mut M KM)) (fun g=>.slice (some ⟨g,0,none⟩) 1 1) rfl rfl rfl rfl (fun wv=>?_) (fun wv HC hrm hD hro=>?_) ?_
    ·go_simp<;>rfl
    ·exact ⟨_,ynm,rfl,(ZL (hro _ HC.Zb) rfl:Ro _ _ (SlR 1 _ 1 [.string ynm])).imp fun w2 h2=>⟨h2,fun _ _=>trivial⟩⟩
    rintro g42 wg HCg hg42
    clear HCg hg42
    simp only [Act.put,zl]
    refine' dv rfl rfl rfl (fun wv HC=>?_) ?_;rotate_left
    · go_simp<;>rfl
    simp only [Act.put,zl]
    refine Zj ?_
    rintro wx3 HX
    rintro _hrm HGW
    have hu:Ud (Mut M KM) (.slice (some ⟨g42,0,none⟩) 1 1) wx3:=(Zl (d:=42) rfl).1 (HGW 10 _ rfl (by omega))
    clear HGW _hrm
    obtain ⟨g1,s1,e1,hro1⟩:=hu
    obtain rfl:g42=g1:=by injection e1 with e1;injection e1 with e1;injection e1
    rw [HKM.out] at HX hro1
    clear e1 HH1 HH2 HH4 HKM K6
    have F7:=HX.facts
    simp only [zg] at F7
    have K8:=(HX.add hro1).store 1 rfl 4 (.slice (some ⟨g42,0,none⟩) 1 1)
    simp only [zl] at K8
    clear HX hro1
    go_wp2_with fail
    go_meet
    exact ⟨⟨some ⟨g42,0,none⟩,1,1,[s1]⟩,Y8 (by omega) trivial,K8.pick [1,0,2,3,4,5,6,7] (by decide) rfl⟩
  case rest=>
   obtain ⟨cs,hcs,K6⟩:=hcut
   clear K5 F5 HLN
   have HCS:=hid hcs
   clear hcs
   have F6:=K6.facts
   simp only [zg] at F6
   go_wp2_with fail
   refine (ZT T 3 _ (K6.tp_ 7 rfl) (by omega) (by omega)).mono ?_
   rintro e w7 ⟨r3,rfl,r30,r31,t7,g7⟩
   have K7:=Hold.Zf K6 7 rfl g7 t7
   clear K6 F6 t7 g7
   have F7:=K7.facts
   simp only [zg] at F7
   go_upto_block 0 with fail
   go_cut [] (fun wx=>∃ ps qs:SlP ByteArray,LsOk 8 ps (fun _=>True)∧LsOk 8 qs (fun _=>True)∧Hold M (some T) w wx [.blk gx 40 #[.string name,.string tt,.bool bb,.int .i64 ev,.slice cs.A cs.n cs.c,.bool be,.slice ps.A ps.n ps.c,.slice qs.A qs.n qs.c,.slice none 0 0,.slice none 0 0,.slice none 0 0],.ro (SlP.In cs 1 ZG (fun _ _=>True)),.ro (SlP.In ps 1 ZG (fun _ _=>True)),.ro (SlP.In qs 1 ZG (fun _ _=>True)),.blk gs 49 #[.string snm,.slice (some ⟨bC,oC,none⟩) cn cc],.ro (SlR 4 (some ⟨bC,oC,none⟩) cn (Zd cl)),.blk gr 40 #[.string ⟨#[]⟩,.string ⟨#[]⟩,.bool false,.int .i64 0,.slice none 0 0,.bool false,.slice none 0 0,.slice none 0 0,.slice none 0 0,.slice none 0 0,.slice none 0 0],.ro (fun _=>True),.ro Wds,.tp T])
   case first=>
    by_cases h0:r3=0
    ·subst h0
     go_wp2_with fail
     refine (Zbg (Mut M _) T _ K7.Zb (K7.tp_ 7 rfl) (K7.get 7 rfl).2 tA tn tc tl (HLX.out.grown K7.grow rfl) hn).mono ?_
     rintro e w8 ⟨ps,rfl,hp1,hp2,hp3,rp,t8,g8⟩
     have K8:=((Hold.Zf K7 7 rfl g8 t8).add rp).add (S:=SlP.In (SlP.nil:SlP ByteArray) 1 ZG (fun _ _=>True)) (fun w2 _ _=>SlP.Zx _ _ _ w2)
     simp only [SlP.v]
     clear K7 F7 rp t8 g8
     have F8:=K8.facts
     simp only [zg] at F8
     have K9:=K8.store 2 rfl 6 (.slice ps.A ps.n ps.c)
     simp only [zl] at K9
     clear K8
     go_wp2_with fail
     go_meet
     exact ⟨ps,SlP.nil,⟨⟨hp1,hp2⟩,hp3,fun _ _=>trivial⟩,LsOk.nil _ _,K9.pick [2,3,1,0,4,5,6,7,8,9] (by decide) rfl⟩
    ·have h0b:(r3==0)=false:=by simpa using h0
     by_cases h1:r3=1
     ·subst h1
      go_wp2_with fail
      refine (Zbg (Mut M _) T _ K7.Zb (K7.tp_ 7 rfl) (K7.get 7 rfl).2 tA tn tc tl (HLX.out.grown K7.grow rfl) hn).mono ?_
      rintro e w8 ⟨ps,rfl,hp1,hp2,hp3,rp,t8,g8⟩
      have K8:=((Hold.Zf K7 7 rfl g8 t8).add rp).add (S:=SlP.In (SlP.nil:SlP ByteArray) 1 ZG (fun _ _=>True)) (fun w2 _ _=>SlP.Zx _ _ _ w2)
      simp only [SlP.v]
      clear K7 F7 rp t8 g8
      have F8:=K8.facts
      simp only [zg] at F8
      have K9:=K8.store 2 rfl 7 (.slice ps.A ps.n ps.c)
      simp only [zl] at K9
      clear K8
      go_wp2_with fail
      go_meet
      exact ⟨SlP.nil,ps,LsOk.nil _ _,⟨⟨hp1,hp2⟩,hp3,fun _ _=>trivial⟩,K9.pick [2,3,0,1,4,5,6,7,8,9] (by decide) rfl⟩
     ·have h1b:(r3==1)=false:=by simpa using h1
      go_wp2_with fail
      go_meet
      exact ⟨SlP.nil,SlP.nil,LsOk.nil _ _,LsOk.nil _ _,((K7.add (S:=SlP.In (SlP.nil:SlP ByteArray) 1 ZG (fun _ _=>True)) (fun w2 _ _=>SlP.Zx _ _ _ w2)).add (S:=SlP.In (SlP.nil:SlP ByteArray) 1 ZG (fun _ _=>True)) (fun w2 _ _=>SlP.Zx _ _ _ w2)).pick [2,3,0,1,4,5,6,7,8,9] (by decide) rfl⟩
   case rest=>
    obtain ⟨ps,qs,hps,hqs,K8⟩:=hcut
    clear K7 F7
    have HPQ:=hid (And.intro hps hqs)
    clear hps hqs
    have F8:=K8.facts
    simp only [zg] at F8
    go_wp2_with fail
    refine (Zcl (Mut M _) _ K8.Zb ⟨name,tt,bb,ev,cs,be,ps,qs,SlP.nil,SlP.nil,SlP.nil⟩ hT1).mono ?_
    rintro e w9 ⟨⟨⟨fA,fn,fc,fl⟩,⟨sA,sn,sc,sl⟩⟩,rfl,hpb,hpf,hpt,rpl,b9⟩
    have HPB:=hid (And.intro hpb (And.intro hpf hpt))
    have K9:=((K8.call b9).add rpl).alloc #[.slice fA fn fc,.slice sA sn sc] 177
    simp only [Pl.val]
    clear K8 F8 hpb hpf hpt rpl b9
    have F9:=K9.facts
    simp only [zg] at F9
    go_wp2_with fail
    obtain ⟨gpl,hgpl⟩:∃ g,g=w9.heap.size:=⟨_,rfl⟩
    rw [←hgpl] at K9 ⊢
    have HGP:=hid hgpl
    clear hgpl F9
    refine (Z8 T 3 _ (K9.tp_ 11 rfl) (by omega) (by omega)).mono ?_
    rintro e wa ⟨ba,rfl,ta,ga⟩
    have KA:=Hold.Zf K9 11 rfl ga ta
    clear K9 ta ga
    have FA:=KA.facts
    simp only [zg] at FA
    go_upto_if 61 with (fail)
    go_cut [] (fun wx=>∃ hs:SlP Ex,LsOk 1 hs (ExGd 5)∧Hold M (some T) w wx [.blk gx 40 #[.string name,.string tt,.bool bb,.int .i64 ev,.slice cs.A cs.n cs.c,.bool be,.slice ps.A ps.n ps.c,.slice qs.A qs.n qs.c,.slice none 0 0,.slice hs.A hs.n hs.c,.slice none 0 0],.ro (Yd 5 hs),.ro (SlP.In cs 1 ZG (fun _ _=>True)),.ro (SlP.In ps 1 ZG (fun _ _=>True)),.ro (SlP.In qs 1 ZG (fun _ _=>True)),.blk gpl 177 #[.slice fA fn fc,.slice sA sn sc],.ro (Zg ⟨⟨fA,fn,fc,fl⟩,⟨sA,sn,sc,sl⟩⟩),.blk gs 49 #[.string snm,.slice (some ⟨bC,oC,none⟩) cn cc],.ro (SlR 4 (some ⟨bC,oC,none⟩) cn (Zd cl)),.blk gr 40 #[.string ⟨#[]⟩,.string ⟨#[]⟩,.bool false,.int .i64 0,.slice none 0 0,.bool false,.slice none 0 0,.slice none 0 0,.slice none 0 0,.slice none 0 0,.slice none 0 0],.ro Wds,.tp T])
    case first=>
     cases ba
     ·go_wp2_with fail
      go_meet
      exact ⟨SlP.nil,LsOk.nil _ _,(KA.add (S:=Yd 5 SlP.nil) (fun w2 _ _=>SlP.Zx _ _ _ w2)).pick [3,0,4,5,6,1,2,7,8,9,11,12] (by decide) rfl⟩
     ·go_wp2_with fail
      refine (WJ 1 (Mut M _) T _ KA.Zb (KA.tp_ 11 rfl) (KA.get 11 rfl).2 ⟨⟨fA,fn,fc,fl⟩,⟨sA,sn,sc,sl⟩⟩ 2 1 ((KA.ro 1 rfl).less (Zk (i:=11) rfl)) ((KA.ro 10 rfl).less (Zk (i:=11) rfl)) hT (Zbj HPB.out.1 HPB.out.2.1 (by omega)) (by omega) (by omega)).mono ?_
      rintro e wb ⟨x,rfl,hx,rx,tY,gY⟩
      have KB:=((Hold.Zf KA 11 rfl gY tY).add rx).Za #[.int .i64 x.kind,.int .i64 x.op,.bool x.nt,.int .i64 x.v.k,.int .i64 x.v.i,.string x.v.s,.string x.tab,.string x.nm,.slice x.A x.n x.c,.slice x.B x.m x.d] 126
      rw [show x.val=.agg #[.int .i64 x.kind,.int .i64 x.op,.bool x.nt,.int .i64 x.v.k,.int .i64 x.v.i,.string x.v.s,.string x.tab,.string x.nm,.slice x.A x.n x.c,.slice x.B x.m x.d] from rfl]
      clear FA KA rx tY gY
      have FB:=KB.facts
      simp only [zg] at FB
      have KC:=KB.store 4 rfl 9 (.slice (some ⟨wb.heap.size,0,none⟩) 1 1)
      simp only [zl] at KC
      clear KB
      go_wp2_with fail
      go_meet
      exact ⟨⟨some ⟨wb.heap.size,0,none⟩,1,1,[x]⟩,Y8 (by omega) (hx.le (by omega)),(KC.add (XF (d:=5) (KC.get 0 rfl) rfl ((KC.ro 1 rfl).imp fun w2 h2=>h2.le (by omega)))).pick [5,0,6,7,8,3,4,9,10,11,13,14] (by decide) rfl⟩
    case rest=>
     obtain ⟨hs,hhs,KB⟩:=hcut
     clear KA FA
     have HHS:=hid hhs
     clear hhs
     go_wp2_with fail
     refine (ZT T 2 _ (KB.tp_ 11 rfl) (by omega) (by omega)).mono ?_
     rintro e wc ⟨r4,rfl,r40,r41,tc,gc⟩
     have KC:=((Hold.Zf KB 11 rfl gc tc).nil 97 7).add (S:=fun w=>∀ a∈([]:List Ac),AcIn 5 a w) (fun w2 _ _ a ha=>(nomatch ha))
     have KD:Hold M (some T) w _ [.own 97 7 (.slice none 0 0) 0 (VP ([]:List Ac)),.ro (fun w=>∀ a∈([]:List Ac),AcIn 5 a w),.blk gx 40 #[.string name,.string tt,.bool bb,.int .i64 ev,.slice cs.A cs.n cs.c,.bool be,.slice ps.A ps.n ps.c,.slice qs.A qs.n qs.c,.slice none 0 0,.slice hs.A hs.n hs.c,.slice none 0 0],.ro (Yd 5 hs),.ro (SlP.In cs 1 ZG (fun _ _=>True)),.ro (SlP.In ps 1 ZG (fun _ _=>True)),.ro (SlP.In qs 1 ZG (fun _ _=>True)),.blk gpl 177 #[.slice fA fn fc,.slice sA sn sc],.ro (Zg ⟨⟨fA,fn,fc,fl⟩,⟨sA,sn,sc,sl⟩⟩),.blk gs 49 #[.string snm,.slice (some ⟨bC,oC,none⟩) cn cc],.ro (SlR 4 (some ⟨bC,oC,none⟩) cn (Zd cl)),.blk gr 40 #[.string ⟨#[]⟩,.string ⟨#[]⟩,.bool false,.int .i64 0,.slice none 0 0,.bool false,.slice none 0 0,.slice none 0 0,.slice none 0 0,.slice none 0 0,.slice none 0 0],.ro Wds,.tp T]:=KC.pick [1,0,2,3,4,5,6,7,8,9,10,11,12,13] (by decide) rfl
     obtain ⟨i0,hi0⟩:∃ i0:Nat,1+r4=i0:=⟨(1+r4).toNat,by omega⟩
     have hi02:i0≤2:=by omega
     have hwi0:IntKind.i64.wrap (1+r4)=i0:=by rw [hi0];exact IntWalk.i64_in _ (by omega)
     have HI0:=hid hi0
     clear KB KC tc gc hi0
     go_wp2_with fail
     go_loopw [10] (fun iv wr=>∃ (i k cap:Nat) (O:Option Addr) (l:List Ac),iv=.int .i64 i∧k+i≤2∧(∀ a∈l,AcGd 5 a)∧Hold M (some T) w wr [.own 97 7 (.slice O k cap) k (VP l),.ro (fun w=>∀ a∈l,AcIn 5 a w),.blk gx 40 #[.string name,.string tt,.bool bb,.int .i64 ev,.slice cs.A cs.n cs.c,.bool be,.slice ps.A ps.n ps.c,.slice qs.A qs.n qs.c,.slice none 0 0,.slice hs.A hs.n hs.c,.slice O k cap],.ro (Yd 5 hs),.ro (SlP.In cs 1 ZG (fun _ _=>True)),.ro (SlP.In ps 1 ZG (fun _ _=>True)),.ro (SlP.In qs 1 ZG (fun _ _=>True)),.blk gpl 177 #[.slice fA fn fc,.slice sA sn sc],.ro (Zg ⟨⟨fA,fn,fc,fl⟩,⟨sA,sn,sc,sl⟩⟩),.blk gs 49 #[.string snm,.slice (some ⟨bC,oC,none⟩) cn cc],.ro (SlR 4 (some ⟨bC,oC,none⟩) cn (Zd cl)),.blk gr 40 #[.string ⟨#[]⟩,.string ⟨#[]⟩,.bool false,.int .i64 0,.slice none 0 0,.bool false,.slice none 0 0,.slice none 0 0,.slice none 0 0,.slice none 0 0,.slice none 0 0],.ro Wds,.tp T]) (fun iv _=>(intOf iv).toNat)
     case atStart=>exact ⟨i0,0,0,none,[],rfl,by omega,fun s hs=>(nomatch hs),KD⟩
     case round=>
      clear KD
      obtain ⟨i,k,cap,O,l,rfl,hki,hgd,H⟩:=hrel
      by_cases hi:0<i
      ·have hii:(0:Int)<(i:Int):=by omega
       have hwi:IntKind.i64.wrap ((i:Int) - 1)=((i - 1:Nat):Int):=by rw [show ((i - 1:Nat):Int)=(i:Int) - 1 by omega];exact IntWalk.i64_in _ (by omega)
       have F:=H.facts
       simp only [zg] at F
       obtain ⟨KM,hKM,K6⟩:=H.name
       have H1:∀ wv:World,Hold M (some T) w wv KM→Blk wv gx 40 #[.string name,.string tt,.bool bb,.int .i64 ev,.slice cs.A cs.n cs.c,.bool be,.slice ps.A ps.n ps.c,.slice qs.A qs.n qs.c,.slice none 0 0,.slice hs.A hs.n hs.c,.slice O k cap]:=fun wv h=>by rw [hKM] at h;exact h.ZF 2 rfl
       have H2:∀ wv:World,Hold M (some T) w wv KM→Blk wv gs 49 #[.string snm,.slice (some ⟨bC,oC,none⟩) cn cc]:=fun wv h=>by rw [hKM] at h;exact h.ZF 9 rfl
       have H5:∀ wv:World,Hold M (some T) w wv KM→Blk wv gpl 177 #[.slice fA fn fc,.slice sA sn sc]:=fun wv h=>by rw [hKM] at h;exact h.ZF 7 rfl
       have H3:∀ wv:World,Hold M (some T) w wv KM→Ro wv (Mut M KM) (Zg ⟨⟨fA,fn,fc,fl⟩,⟨sA,sn,sc,sl⟩⟩)∧Ro wv (Mut M KM) Wds∧Ro wv (Mut M KM) (SlR 4 (some ⟨bC,oC,none⟩) cn (Zd cl))∧Tp wv T∧∀ b,(Mut M KM) b→T≤b:=fun wv h=>by rw [hKM] at h ⊢;exact ⟨h.ro 8 rfl,h.ro 12 rfl,h.ro 10 rfl,h.tp_ 13 rfl,(h.get 13 rfl).2⟩
       have h4:KM[13]? =some (.tp T):=by rw [hKM];rfl
       have HH1:=hid H1
       have HH2:=hid H2
       have HH3:=hid H3
       have HH5:=hid H5
       have HH4:=hid h4
       have HKM:=hid hKM
       clear hKM H1 H2 H3 H5 h4 H
       go_wp2_with fail
       clear F
       refine wp_region_any (by kernel_rfl) ?_
       refine Zp 8 87 (KM) (spL [(80,UC (Mut M KM)),(81,Uz (Mut M KM))]) (by kernel_rfl) (by kernel_rfl) (by kernel_rfl) rfl ?_ (K6.drew) ?_
       ·exact Ze Zfc (Ze Zec (Zo _))
       simp only [zd,Act.put,List.getElem_toArray,List.getElem_cons_zero,List.getElem_cons_succ,zl]
       refine' dv rfl rfl rfl (fun wv HC=>?_) ?_;rotate_left
       · go_simp<;>rfl
       simp only [Act.put,zl]
       refine' dv rfl rfl rfl (fun wv HC=>?_) ?_;rotate_left
       ·obtain q10:=(HH1.out _ HC).cell 10;go_simp<;>rfl
       simp only [Act.put,zl]
       refine' dv rfl rfl rfl (fun wv HC=>?_) ?_;rotate_left
       · go_simp<;>rfl
       simp only [Act.put,zl]
       refine' dv rfl rfl rfl (fun wv HC=>?_) ?_;rotate_left
       ·obtain q0:=(HH1.out _ HC).cell 0;obtain q1:=(HH1.out _ HC).cell 1;obtain q2:=(HH1.out _ HC).cell 2;obtain q3:=(HH1.out _ HC).cell 3;obtain q4:=(HH1.out _ HC).cell 4;obtain q5:=(HH1.out _ HC).cell 5;obtain q6:=(HH1.out _ HC).cell 6;obtain q7:=(HH1.out _ HC).cell 7;obtain q8:=(HH1.out _ HC).cell 8;obtain q9:=(HH1.out _ HC).cell 9;obtain q10:=(HH1.out _ HC).cell 10;go_simp<;>rfl
       simp only [Act.put,zl]
       refine' dv rfl rfl rfl (fun wv HC=>?_) ?_;rotate_left
       ·obtain q0:=(HH2.out _ HC).cell 0;obtain q1:=(HH2.out _ HC).cell 1;go_simp<;>rfl
       simp only [Act.put,zl]
       refine' dv rfl rfl rfl (fun wv HC=>?_) ?_;rotate_left
       ·obtain q0:=(HH5.out _ HC).cell 0;obtain q1:=(HH5.out _ HC).cell 1;go_simp<;>rfl
       simp only [Act.put,zl]
       refine Zm 80 (UC (Mut M KM)) (f:=100) (args:=#[.pointer (some ⟨T,0,none⟩),.agg #[.string name,.string tt,.bool bb,.int .i64 ev,.slice cs.A cs.n cs.c,.bool be,.slice ps.A ps.n ps.c,.slice qs.A qs.n qs.c,.slice none 0 0,.slice hs.A hs.n hs.c,.slice O k cap],.agg #[.string snm,.slice (some ⟨bC,oC,none⟩) cn cc],.agg #[.slice fA fn fc,.slice sA sn sc]]) rfl rfl rfl rfl (fun wv=>?_) (fun wv HC hrm hD=>?_) ?_
       ·go_simp<;>rfl
       ·obtain ⟨X0,X1,X2,X3,X4⟩:=HH3.out _ HC
        refine (ZhL (Mut M KM) T wv HC.Zb X3 X4 ⟨name,tt,bb,ev,cs,be,ps,qs,SlP.nil,hs,⟨O,k,cap,[]⟩⟩ ⟨snm,⟨some ⟨bC,oC,none⟩,cn,cc,cl⟩⟩ ⟨⟨fA,fn,fc,fl⟩,⟨sA,sn,sc,sl⟩⟩ (X0.less (Zk HH4.out)) ((X2.imp fun w2 h2=>⟨h2,fun _ _=>trivial⟩).less (Zk HH4.out)) hcl (X1.less (Zk HH4.out)) hT HPB.out.1 HPB.out.2.1 HPB.out.2.2).mono ?_
        rintro e w5 ⟨x,rfl,hx,rx,t5,g5⟩
        exact ⟨_,rfl,⟨x,rfl,hx,rx⟩,Hold.Zf HC 13 HH4.out g5 t5,RM.grown g5 (.inr ⟨_,List.mem_of_getElem? HH4.out,rfl⟩)⟩
       rintro u wx HCx ⟨a0,rfl,hx,rx⟩
       clear HCx hx rx
       simp only [Act.put,zl]
       rw [show a0.val=.agg #[.int .i64 a0.kind,.string a0.tab,.slice a0.rows.A a0.rows.n a0.rows.c,.slice a0.qs.A a0.qs.n a0.qs.c,.slice a0.sets.A a0.sets.n a0.sets.c,.slice a0.wh.A a0.wh.n a0.wh.c,.string a0.text] from rfl]
       refine Ye #[.int .i64 a0.kind,.string a0.tab,.slice a0.rows.A a0.rows.n a0.rows.c,.slice a0.qs.A a0.qs.n a0.qs.c,.slice a0.sets.A a0.sets.n a0.sets.c,.slice a0.wh.A a0.wh.n a0.wh.c,.string a0.text] 97 81 (Uz (Mut M KM)) (fun g=>.slice (some ⟨g,0,none⟩) 1 1) rfl rfl rfl rfl (fun wv=>?_) (fun wv HC hrm hD hro=>?_) ?_
       ·go_simp<;>rfl
       ·have h1:UC (Mut M KM) a0.val wv:=ZM hD 6 rfl (by kernel_rfl) rfl rfl
        obtain ⟨y1,hy1,ok1,q1⟩:=h1
        have hy2:(#[.int .i64 a0.kind,.string a0.tab,.slice a0.rows.A a0.rows.n a0.rows.c,.slice a0.qs.A a0.qs.n a0.qs.c,.slice a0.sets.A a0.sets.n a0.sets.c,.slice a0.wh.A a0.wh.n a0.wh.c,.string a0.text]:Array Value)=#[.int .i64 y1.kind,.string y1.tab,.slice y1.rows.A y1.rows.n y1.rows.c,.slice y1.qs.A y1.qs.n y1.qs.c,.slice y1.sets.A y1.sets.n y1.sets.c,.slice y1.wh.A y1.wh.n y1.wh.c,.string y1.text]:=by
         have h:=hy1
         simp only [Ac.val,Value.agg.injEq] at h
         exact h
        rw [hy2] at hro ⊢
        exact ⟨_,y1,rfl,ok1,(ZL (hro _ HC.Zb) rfl:Ro _ _ (SlR 7 _ 1 (Ac.cells y1))),(RM.alloc (Mut M KM) wv _).ro q1⟩
       rintro g81 wg HCg hg81
       clear HCg hg81
       simp only [Act.put,zl]
       refine Zj ?_
       rintro wx3 HX
       rintro _hrm HGW
       have hu:Uz (Mut M KM) (.slice (some ⟨g81,0,none⟩) 1 1) wx3:=(Zl (d:=81) rfl).1 (HGW 7 _ rfl (by omega))
       clear HGW _hrm
       obtain ⟨g1,a,e1,hok1,hro1,hro2⟩:=hu
       obtain rfl:g81=g1:=by injection e1 with e1;injection e1 with e1;injection e1
       rw [HKM.out] at HX hro2
       have HSR:=hid hro1.now
       clear e1 HH1 HH2 HH3 HH4 HH5 HKM K6 hro1
       have K7:=HX.add hro2
       have F7:=K7.facts
       simp only [zg] at F7
       clear HX hro2
       go_wp2_with (at_builtin;go_must (refine ZW K7 1 rfl Tryz.Zh9 HSR.out rfl (.tmp 75) (.tmp 81) rfl rfl rfl (by intro u hu;simp [Ac.cells,SlP.v] at hu;rcases hu with rfl|rfl|rfl|rfl|rfl|rfl|rfl<;>rfl) (by omega) (by omega) ?_);intro gA capA wA hcA hmA KA;rw [show VP l++Ac.cells a=VP (l++[a]) by simp [VP]] at KA;simp only [zl] at KA;have FA:=KA.facts;simp only [zg] at FA)
       have KB:=KA.store 3 rfl 10 (.slice gA (k+1) capA)
       simp only [zl] at KB
       have KC:=KB.add (S:=fun w=>∀ z∈l++[a],AcIn 5 z w) (((KB.ro 2 rfl).and (KB.ro 0 rfl)).imp fun w2 h2 z hz=>by
        rcases List.mem_append.1 hz with hz|hz
        ·exact h2.1 z hz
        ·simp only [List.mem_cons,List.not_mem_nil,or_false] at hz
         subst hz
         exact h2.2)
       go_roundw
       case rel=>
        refine ⟨i - 1,k+1,capA,gA,l++[a],by first|rfl|(rw [hwi];go_num),by omega,fun z hz=>?_,KC.pick [2,0,4,5,6,7,8,9,10,11,12,13,14,15] (by decide) rfl⟩
        rcases List.mem_append.1 hz with hz|hz
        ·exact hgd z hz
        ·simp only [List.mem_cons,List.not_mem_nil,or_false] at hz
         subst hz
         exact hok1
       case measure=>simp [intOf];omega
      ·obtain rfl:i=0:=by omega
       have hcap:=ZR (H.get 0 rfl)
       have hlen:=(H.get 0 rfl).1
       rw [show (VP l).length=l.length * 7 from Yu Ac.cells 7 (fun _=>rfl) l] at hlen
       have KS:=H.Zu 0 rfl
       simp only [List.set_cons_zero] at KS
       have hTG:Ro _ _ (Yg 5 ⟨name,tt,bb,ev,cs,be,ps,qs,SlP.nil,hs,⟨O,k,cap,l⟩⟩):=((KS.ro 4 rfl).and ((KS.ro 5 rfl).and ((KS.ro 6 rfl).and ((KS.ro 3 rfl).and ((KS.ro 0 rfl).and (KS.ro 1 rfl)))))).imp fun w2 h2=>⟨h2.1,h2.2.1,h2.2.2.1,SlP.Zx _ _ _ w2,h2.2.2.2.1,⟨h2.2.2.2.2.1,h2.2.2.2.2.2⟩⟩
       have KT:Hold M (some T) w _ [.blk gx 40 #[.string name,.string tt,.bool bb,.int .i64 ev,.slice cs.A cs.n cs.c,.bool be,.slice ps.A ps.n ps.c,.slice qs.A qs.n qs.c,.slice none 0 0,.slice hs.A hs.n hs.c,.slice O k cap],.ro (Yg 5 ⟨name,tt,bb,ev,cs,be,ps,qs,SlP.nil,hs,⟨O,k,cap,l⟩⟩),.blk gr 40 #[.string ⟨#[]⟩,.string ⟨#[]⟩,.bool false,.int .i64 0,.slice none 0 0,.bool false,.slice none 0 0,.slice none 0 0,.slice none 0 0,.slice none 0 0,.slice none 0 0],.tp T]:=(KS.add hTG).pick [3,0,12,14] (by decide) rfl
       have hTGd:TgGd 5 ⟨name,tt,bb,ev,cs,be,ps,qs,SlP.nil,hs,⟨O,k,cap,l⟩⟩:=⟨hev3,HCS.out,HPQ.out.1,HPQ.out.2,LsOk.nil _ _,HHS.out,⟨⟨hcap.1,hcap.2.1⟩,by show l.length≤4;omega,hgd⟩⟩
       clear KS H hTG
       go_wp2_with fail
       refine (Zcj M T gx gr _ w _ _ hTGd KT).mono ?_
       rintro e wd ⟨t2,rfl,hgd2,hn2,ht2,hp2,hf2,KU⟩
       clear KT
       obtain ⟨un,ut,ub,ue,⟨oA,on,oc,ol⟩,uch,⟨pA,pn,pc,pl⟩,⟨qA,qn,qc,ql⟩,⟨rA,rn,rc,rl⟩,⟨kA,kn,kc,kl⟩,⟨aA,an,ac,al⟩⟩:=t2
       simp only [SlP.v] at KU hn2 ht2
       subst hn2 ht2
       have F6:=KU.facts
       simp only [zg] at F6
       have K7:=(((((((((((KU.store 2 rfl 0 (.string un)).store 2 rfl 1 (.string ut)).store 2 rfl 2 (.bool ub)).store 2 rfl 3 (.int .i64 ue)).store 2 rfl 4 (.slice oA on oc)).store 2 rfl 5 (.bool uch)).store 2 rfl 6 (.slice pA pn pc)).store 2 rfl 7 (.slice qA qn qc)).store 2 rfl 8 (.slice rA rn rc)).store 2 rfl 9 (.slice kA kn kc)).store 2 rfl 10 (.slice aA an ac))
       simp only [zl] at K7
       have F7:=K7.facts
       simp only [zg] at F7
       have HR:=hid ((K7.ro 1 rfl).less zm)
       have HT:=hid (And.intro (K7.tp_ 3 rfl) K7.grow)
       have HGD:=hid hgd2
       clear KU K7 hgd2 hp2 hf2
       go_wp2_with fail
       refine bodyPost_ret (v:=.agg #[.string un,.string ut,.bool ub,.int .i64 ue,.slice oA on oc,.bool uch,.slice pA pn pc,.slice qA qn qc,.slice rA rn rc,.slice kA kn kc,.slice aA an ac]) ?_ rfl ?_
       ·clear HT HR HGD
        simp [results,Tryz.results43,go_sem,F7]
       ·exact ⟨⟨un,ut,ub,ue,⟨oA,on,oc,ol⟩,uch,⟨pA,pn,pc,pl⟩,⟨qA,qn,qc,ql⟩,⟨rA,rn,rc,rl⟩,⟨kA,kn,kc,kl⟩,⟨aA,an,ac,al⟩⟩,rfl,HGD.out,rfl,hT1,HR.out,HT.out.1,HT.out.2⟩
def Xc (w:World) (e:Ending) (w' :World):Prop:=∃ b:Bool,e=.returned (.bool b)∧Below w.heap.size w w'
set_option maxHeartbeats 4000000 in
set_option maxRecDepth 100000 in
theorem WT (s:ByteArray) (w:World):Calls Tryz.prog 232 #[.string s] w fun e w' =>Xc w e w' :=by
 have K0:=Hold.start Zc w zn
 go_enter Tryz.func232,Tryz.ntmps232
 go_wp2_with fail
 refine (Q8 s _).mono ?_
 rintro e w1 ⟨rfl,rfl⟩
 generalize YG s=b
 go_wp2_with fail
 all_goals (go_ret;exact ⟨_,rfl,K0.below⟩)
set_option maxHeartbeats 4000000 in
set_option maxRecDepth 100000 in
theorem VZ (x:Ex) (w:World):Calls Tryz.prog 233 #[.agg #[.int .i64 x.kind,.int .i64 x.op,.bool x.nt,.int .i64 x.v.k,.int .i64 x.v.i,.string x.v.s,.string x.tab,.string x.nm,.slice x.A x.n x.c,.slice x.B x.m x.d]] w fun e w' =>Xc w e w' :=by
 have K0:=(Hold.start Zc w zn).Za #[.int .i64 x.kind,.int .i64 x.op,.bool x.nt,.int .i64 x.v.k,.int .i64 x.v.i,.string x.v.s,.string x.tab,.string x.nm,.slice x.A x.n x.c,.slice x.B x.m x.d] 126
 have F0:=K0.facts
 simp only [zg] at F0
 go_enter Tryz.func233,Tryz.ntmps233
 go_upto_region 1 with fail
 generalize World.alloc _ _=w1 at K0 F0 ⊢
 go_wp2_with fail
 all_goals (go_ret;exact ⟨_,rfl,K0.below⟩)
theorem UF {d:Nat} {x:Ex} {w:World} (h:ExIn d x w) (h1:x.m=1):∃ (b o:Nat) (q:Qu),x.B=some ⟨b,o,none⟩∧b<w.heap.size∧x.sub=[q]∧w.cell? ⟨b,o,none⟩=some (.bool q.star)∧w.cell? ⟨b,o+1,none⟩=some (.slice q.A q.n q.c)∧w.cell? ⟨b,o+2,none⟩=some (.string q.src)∧w.cell? ⟨b,o+3,none⟩=some (.slice q.B q.m q.d):=by
 cases d with
 | zero=>exact h.elim
 | succ d=>
  have h3:Rd w w.heap.size 4 x.B x.m (XK x.sub):=h.2.2.1
  have hl:x.sub.length=1:=by
   have:=h3.1
   rw [QH] at this
   omega
  obtain ⟨q,hq⟩:∃ q,x.sub=[q]:=by
   match hh:x.sub,hl with
   | [q],_=>exact ⟨q,rfl⟩
  obtain ⟨b,o,e,hb,hc⟩:=h3.2 (by omega)
  rw [hq] at hc
  exact ⟨b,o,q,e,hb,hq,by simpa using hc 0 _ rfl,hc 1 _ rfl,hc 2 _ rfl,hc 3 _ rfl⟩
set_option maxHeartbeats 16000000 in
set_option maxRecDepth 100000 in
theorem Vn (d:Nat) (x:Ex) (w:World) (hx:Ro w Zc (ExIn d x)):Calls Tryz.prog 183 #[.agg #[.int .i64 x.kind,.int .i64 x.op,.bool x.nt,.int .i64 x.v.k,.int .i64 x.v.i,.string x.v.s,.string x.tab,.string x.nm,.slice x.A x.n x.c,.slice x.B x.m x.d]] w fun e w' =>Xc w e w' :=by
 have K0:=((Hold.start Zc w zn).add (hx.less (by simp [Mut]))).Za #[.int .i64 x.kind,.int .i64 x.op,.bool x.nt,.int .i64 x.v.k,.int .i64 x.v.i,.string x.v.s,.string x.tab,.string x.nm,.slice x.A x.n x.c,.slice x.B x.m x.d] 126
 have F0:=K0.facts
 simp only [zg] at F0
 have HX:=hid (K0.ro 1 rfl).now
 clear hx
 go_enter Tryz.func183,Tryz.ntmps183
 by_cases hm:x.m=1
 ·obtain ⟨b,o,q,eB,hb,-,q0,q1,q2,q3⟩:=UF HX.out hm
  rw [eB,hm] at K0 F0 q0 q1 q2 q3 hb ⊢
  clear HX hm eB
  go_upto_region 1 with fail
  generalize World.alloc _ _=w1 at K0 F0 q0 q1 q2 q3 hb ⊢
  go_wp2_with fail
  all_goals first
   | (go_ret;exact ⟨_,rfl,K0.below⟩)
 ·have hmb:((x.m:Int)==1)=false:=by simp;omega
  clear HX
  go_upto_region 1 with fail
  generalize World.alloc _ _=w1 at K0 F0 ⊢
  go_wp2_with fail
  all_goals (go_ret;exact ⟨_,rfl,K0.below⟩)
def VE (d:Nat):Prop:=∀ (x:Ex) (w:World) (hx:Ro w Zc (ExIn d x)) (hg:ExGd d x),Calls Tryz.prog 207 #[.agg #[.int .i64 x.kind,.int .i64 x.op,.bool x.nt,.int .i64 x.v.k,.int .i64 x.v.i,.string x.v.s,.string x.tab,.string x.nm,.slice x.A x.n x.c,.slice x.B x.m x.d]] w fun e w' =>Xc w e w'
def VA (d:Nat):Prop:=∀ (A:Option Addr) (n c:Nat) (l:List Ex) (w:World) (hx:Ro w Zc (ExsIn d A n l)) (hg:∀ x∈l,ExGd d x) (hn:n≤1000),Calls Tryz.prog 162 #[.slice A n c] w fun e w' =>Xc w e w'
set_option maxHeartbeats 8000000 in
set_option maxRecDepth 100000 in
theorem ZaQ {d:Nat} (h:VE d):VA d:=by
 intro A n c l w hx hg hn
 have HLN:=hid (show l.length=n from hx.now.len)
 have K0:=(Hold.start Zc w zn).add (hx.less (by simp [Mut]))
 clear hx
 go_enter Tryz.func162,Tryz.ntmps162
 go_wp2_with fail
 go_loopw [7] (fun iv wr=>∃ j:Nat,j≤n∧iv=.int .i64 j∧Hold Zc none w wr [.ro (ExsIn d A n l)]) (fun iv _=>n - (intOf iv).toNat)
 case atStart=>exact ⟨0,by omega,rfl,K0⟩
 case round=>
  clear K0
  obtain ⟨j,hj,rfl,H⟩:=hrel
  by_cases hlt:j<n
  ·obtain ⟨x,hx⟩:∃ c,l[j]? =some c:=⟨l[j]'(by rw [HLN.out];exact hlt),List.getElem?_eq_getElem _⟩
   have hm:=List.mem_of_getElem? hx
   obtain ⟨b,o,rfl,hb2,hc,-⟩:=(H.ro 0 rfl).now.at_ hx
   have x0:=hc 0 _ (by omega) rfl
   have x1:=hc 1 _ (by omega) rfl
   have x2:=hc 2 _ (by omega) rfl
   have x3:=hc 3 _ (by omega) rfl
   have x4:=hc 4 _ (by omega) rfl
   have x5:=hc 5 _ (by omega) rfl
   have x6:=hc 6 _ (by omega) rfl
   have x7:=hc 7 _ (by omega) rfl
   have x8:=hc 8 _ (by omega) rfl
   have x9:=hc 9 _ (by omega) rfl
   simp only [Nat.add_zero] at x0 x1 x2 x3 x4 x5 x6 x7 x8 x9
   clear hc hx
   have K2:=H.Za #[.int .i64 x.kind,.int .i64 x.op,.bool x.nt,.int .i64 x.v.k,.int .i64 x.v.i,.string x.v.s,.string x.tab,.string x.nm,.slice x.A x.n x.c,.slice x.B x.m x.d] 126
   have F2:=K2.facts
   simp only [zg] at F2
   clear H
   go_wp2_with fail
   refine (h x _ (((K2.ro 1 rfl).imp fun w2 h2=>h2.2 x hm).less zn) (hg x hm)).mono ?_
   rintro e w3 ⟨r,rfl,b3⟩
   have K3:=K2.call b3
   clear K2 F2 b3 x0 x1 x2 x3 x4 x5 x6 x7 x8 x9
   cases r
   ·have HB:=hid K3.below
    go_wp2_with fail
    go_ret
    exact ⟨_,rfl,HB.out⟩
   ·go_wp2_with fail
    go_roundw
    case rel=>exact ⟨j+1,by omega,by go_num,K3.drop (List.sublist_cons_self _ _)⟩
    case measure=>simp [intOf];omega
  ·obtain rfl:n=j:=by omega
   have HB:=hid H.below
   go_wp2_with fail
   go_ret
   exact ⟨_,rfl,HB.out⟩
theorem ZY (s:ByteArray) (w:World):Calls Tryz.prog 160 #[.string s] w fun e w' =>Xc w e w' :=(Q8 s w).mono fun e w' ⟨h1,h2⟩=>⟨_,h1,by subst h2;exact (Hold.start Zc w zn).below⟩
theorem Z9 (k i:Int) (s:ByteArray) (w:World):Calls Tryz.prog 182 #[.agg #[.int .i64 k,.int .i64 i,.string s]] w fun e w' =>Xc w e w' :=(zD k i s w).mono fun e w' ⟨h1,h2⟩=>⟨_,h1,by subst h2;exact ((Hold.start Zc w zn).Za _ _).below⟩
set_option maxHeartbeats 16000000 in
set_option maxRecDepth 100000 in
theorem Zcs {d:Nat} (HA:VA d):VE (d+1):=by
 intro x w hx hg
 obtain ⟨kind,op,nt,⟨vk,vi,vs⟩,tab,nm,A,n,c,args,B,m,e,sub⟩:=x
 have hsl:sub.length=m:=by
  have h:=(show Rd _ _ 4 B m (XK sub) from (ExIn.succ.1 hx.now).2.1).1
  rw [QH] at h
  omega
 have HG:=hid (show (∀ a∈args,ExGd d a)∧n≤1000∧m≤1 from ⟨hg.2.2.1,by
  have h:args.length=n:=(ExIn.succ.1 hx.now).1.len
  have h2:args.length≤3:=hg.2.1.2.1
  omega,by
  have h2:sub.length≤1:=hg.2.1.2.2
  omega⟩)
 have HQ0:=hid (show ∀ q∈sub,(∀ a∈q.items,ExGd d a)∧(∀ a∈q.wh,ExGd d a)∧q.n≤1000∧q.m≤1000 from fun q hq=>by
  have h3:=hg.2.2.2 q hq
  have h5:=(ExIn.succ.1 hx.now).2.2 q hq
  have h6:q.items.length=q.n:=ExsIn.len h5.1
  have h7:q.wh.length=q.m:=ExsIn.len (show ExsIn d q.B q.m q.wh w from h5.2)
  have h8:=h3.2.1
  exact ⟨h3.2.2.1,h3.2.2.2,by omega,by omega⟩)
 have K0:=((Hold.start Zc w zn).add (hx.less (by simp [Mut]))).Za #[.int .i64 kind,.int .i64 op,.bool nt,.int .i64 vk,.int .i64 vi,.string vs,.string tab,.string nm,.slice A n c,.slice B m e] 126
 obtain ⟨gx,hgx⟩:∃ g,g=w.heap.size:=⟨_,rfl⟩
 rw [←hgx] at K0
 have F0:=K0.facts
 simp only [zg] at F0
 rw [hgx] at F0
 clear hx hg
 go_enter Tryz.func207,Tryz.ntmps207
 go_upto_region 1 with fail
 rw [←hgx] at F0 ⊢
 have HGX:=hid hgx
 clear hgx
 generalize World.alloc _ _=w1 at K0 F0 ⊢
 obtain ⟨c5,h5⟩:∃ z:Bool,(kind !=5)=z:=⟨_,rfl⟩
 obtain ⟨c6,h6⟩:∃ z:Bool,(kind !=6)=z:=⟨_,rfl⟩
 obtain ⟨c0,h0⟩:∃ z:Bool,(op !=0)=z:=⟨_,rfl⟩
 go_cut [27] (fun v wx=>∃ bb:Bool,v=.bool bb∧Hold Zc none w wx [.cst gx 126 #[.int .i64 kind,.int .i64 op,.bool nt,.int .i64 vk,.int .i64 vi,.string vs,.string tab,.string nm,.slice A n c,.slice B m e],.ro (ExIn (d+1) ⟨kind,op,nt,⟨vk,vi,vs⟩,tab,nm,A,n,c,args,B,m,e,sub⟩)])
 case first=>
  go_wp2_with (first
  | (go_at_call 183;go_must (refine (Vn (d+1) ⟨kind,op,nt,⟨vk,vi,vs⟩,tab,nm,A,n,c,args,B,m,e,sub⟩ _ ((K0.ro 1 rfl).less zn)).mono ?_);rintro e w1 ⟨r,rfl,b1⟩;replace K0:=K0.call b1;replace F0:=K0.facts;simp only [zg] at F0;clear b1)
  | (go_at_call 182;go_must (refine (Z9 _ _ _ _).mono ?_);rintro e w1 ⟨r,rfl,b1⟩;replace K0:=K0.call b1;replace F0:=K0.facts;simp only [zg] at F0;clear b1)
  | (go_at_call 232;go_must (refine (WT _ _).mono ?_);rintro e w1 ⟨r,rfl,b1⟩;replace K0:=K0.call b1;replace F0:=K0.facts;simp only [zg] at F0;clear b1)
  | (go_at_call 160;go_must (refine (ZY _ _).mono ?_);rintro e w1 ⟨r,rfl,b1⟩;replace K0:=K0.call b1;replace F0:=K0.facts;simp only [zg] at F0;clear b1)
  | (go_at_call 233;go_must (refine (VZ ⟨kind,op,nt,⟨vk,vi,vs⟩,tab,nm,A,n,c,args,B,m,e,sub⟩ _).mono ?_);rintro e w1 ⟨r,rfl,b1⟩;replace K0:=K0.call b1;replace F0:=K0.facts;simp only [zg] at F0;clear b1))
  all_goals (go_meet;exact ⟨_,rfl,K0⟩)
 case rest=>
  obtain ⟨bb,rfl,K1⟩:=hcut
  clear K0 F0
  have K0:=K1
  clear K1
  have F0:=K0.facts
  simp only [zg] at F0
  clear h5 h6 h0
  cases bb
  ·by_cases k1:kind=1
   ·subst k1
    go_wp2_with (first
  | (go_at_call 183;go_must (refine (Vn (d+1) ⟨1,op,nt,⟨vk,vi,vs⟩,tab,nm,A,n,c,args,B,m,e,sub⟩ _ ((K0.ro 1 rfl).less zn)).mono ?_);rintro e w1 ⟨r,rfl,b1⟩;replace K0:=K0.call b1;replace F0:=K0.facts;simp only [zg] at F0;clear b1)
  | (go_at_call 182;go_must (refine (Z9 _ _ _ _).mono ?_);rintro e w1 ⟨r,rfl,b1⟩;replace K0:=K0.call b1;replace F0:=K0.facts;simp only [zg] at F0;clear b1)
  | (go_at_call 232;go_must (refine (WT _ _).mono ?_);rintro e w1 ⟨r,rfl,b1⟩;replace K0:=K0.call b1;replace F0:=K0.facts;simp only [zg] at F0;clear b1)
  | (go_at_call 160;go_must (refine (ZY _ _).mono ?_);rintro e w1 ⟨r,rfl,b1⟩;replace K0:=K0.call b1;replace F0:=K0.facts;simp only [zg] at F0;clear b1)
  | (go_at_call 233;go_must (refine (VZ ⟨1,op,nt,⟨vk,vi,vs⟩,tab,nm,A,n,c,args,B,m,e,sub⟩ _).mono ?_);rintro e w1 ⟨r,rfl,b1⟩;replace K0:=K0.call b1;replace F0:=K0.facts;simp only [zg] at F0;clear b1))
    all_goals (go_ret;exact ⟨_,rfl,K0.below⟩)
   ·have k1b:(kind==1)=false:=by simpa using k1
    by_cases k2:kind=2
    ·subst k2
     go_upto_region 7 with fail
     go_cut [3] (fun v wx=>∃ bb:Bool,v=.bool bb∧Hold Zc none w wx [.cst gx 126 #[.int .i64 2,.int .i64 op,.bool nt,.int .i64 vk,.int .i64 vi,.string vs,.string tab,.string nm,.slice A n c,.slice B m e],.ro (ExIn (d+1) ⟨2,op,nt,⟨vk,vi,vs⟩,tab,nm,A,n,c,args,B,m,e,sub⟩)])
     case first=>
      go_wp2_with (first
  | (go_at_call 183;go_must (refine (Vn (d+1) ⟨2,op,nt,⟨vk,vi,vs⟩,tab,nm,A,n,c,args,B,m,e,sub⟩ _ ((K0.ro 1 rfl).less zn)).mono ?_);rintro e w1 ⟨r,rfl,b1⟩;replace K0:=K0.call b1;replace F0:=K0.facts;simp only [zg] at F0;clear b1)
  | (go_at_call 182;go_must (refine (Z9 _ _ _ _).mono ?_);rintro e w1 ⟨r,rfl,b1⟩;replace K0:=K0.call b1;replace F0:=K0.facts;simp only [zg] at F0;clear b1)
  | (go_at_call 232;go_must (refine (WT _ _).mono ?_);rintro e w1 ⟨r,rfl,b1⟩;replace K0:=K0.call b1;replace F0:=K0.facts;simp only [zg] at F0;clear b1)
  | (go_at_call 160;go_must (refine (ZY _ _).mono ?_);rintro e w1 ⟨r,rfl,b1⟩;replace K0:=K0.call b1;replace F0:=K0.facts;simp only [zg] at F0;clear b1)
  | (go_at_call 233;go_must (refine (VZ ⟨2,op,nt,⟨vk,vi,vs⟩,tab,nm,A,n,c,args,B,m,e,sub⟩ _).mono ?_);rintro e w1 ⟨r,rfl,b1⟩;replace K0:=K0.call b1;replace F0:=K0.facts;simp only [zg] at F0;clear b1))
      all_goals (go_meet;exact ⟨_,rfl,K0⟩)
     case rest=>
      obtain ⟨bb,rfl,K1⟩:=hcut
      clear K0 F0
      have K0:=K1
      clear K1
      have F0:=K0.facts
      simp only [zg] at F0
      go_wp2_with (first
  | (go_at_call 183;go_must (refine (Vn (d+1) ⟨2,op,nt,⟨vk,vi,vs⟩,tab,nm,A,n,c,args,B,m,e,sub⟩ _ ((K0.ro 1 rfl).less zn)).mono ?_);rintro e w1 ⟨r,rfl,b1⟩;replace K0:=K0.call b1;replace F0:=K0.facts;simp only [zg] at F0;clear b1)
  | (go_at_call 182;go_must (refine (Z9 _ _ _ _).mono ?_);rintro e w1 ⟨r,rfl,b1⟩;replace K0:=K0.call b1;replace F0:=K0.facts;simp only [zg] at F0;clear b1)
  | (go_at_call 232;go_must (refine (WT _ _).mono ?_);rintro e w1 ⟨r,rfl,b1⟩;replace K0:=K0.call b1;replace F0:=K0.facts;simp only [zg] at F0;clear b1)
  | (go_at_call 160;go_must (refine (ZY _ _).mono ?_);rintro e w1 ⟨r,rfl,b1⟩;replace K0:=K0.call b1;replace F0:=K0.facts;simp only [zg] at F0;clear b1)
  | (go_at_call 233;go_must (refine (VZ ⟨2,op,nt,⟨vk,vi,vs⟩,tab,nm,A,n,c,args,B,m,e,sub⟩ _).mono ?_);rintro e w1 ⟨r,rfl,b1⟩;replace K0:=K0.call b1;replace F0:=K0.facts;simp only [zg] at F0;clear b1))
      all_goals (go_ret;exact ⟨_,rfl,K0.below⟩)
    ·have k2b:(kind==2)=false:=by simpa using k2
     go_upto_region 9 with fail
     go_cut [97] (fun v wx=>∃ bb:Bool,v=.bool bb∧Hold Zc none w wx [.cst gx 126 #[.int .i64 kind,.int .i64 op,.bool nt,.int .i64 vk,.int .i64 vi,.string vs,.string tab,.string nm,.slice A n c,.slice B m e],.ro (ExIn (d+1) ⟨kind,op,nt,⟨vk,vi,vs⟩,tab,nm,A,n,c,args,B,m,e,sub⟩)])
     case first=>
      go_wp2_with (first
  | (go_at_call 183;go_must (refine (Vn (d+1) ⟨kind,op,nt,⟨vk,vi,vs⟩,tab,nm,A,n,c,args,B,m,e,sub⟩ _ ((K0.ro 1 rfl).less zn)).mono ?_);rintro e w1 ⟨r,rfl,b1⟩;replace K0:=K0.call b1;replace F0:=K0.facts;simp only [zg] at F0;clear b1)
  | (go_at_call 182;go_must (refine (Z9 _ _ _ _).mono ?_);rintro e w1 ⟨r,rfl,b1⟩;replace K0:=K0.call b1;replace F0:=K0.facts;simp only [zg] at F0;clear b1)
  | (go_at_call 232;go_must (refine (WT _ _).mono ?_);rintro e w1 ⟨r,rfl,b1⟩;replace K0:=K0.call b1;replace F0:=K0.facts;simp only [zg] at F0;clear b1)
  | (go_at_call 160;go_must (refine (ZY _ _).mono ?_);rintro e w1 ⟨r,rfl,b1⟩;replace K0:=K0.call b1;replace F0:=K0.facts;simp only [zg] at F0;clear b1)
  | (go_at_call 233;go_must (refine (VZ ⟨kind,op,nt,⟨vk,vi,vs⟩,tab,nm,A,n,c,args,B,m,e,sub⟩ _).mono ?_);rintro e w1 ⟨r,rfl,b1⟩;replace K0:=K0.call b1;replace F0:=K0.facts;simp only [zg] at F0;clear b1)
  | (go_at_call 162;go_must (refine (HA A n c args _ (((K0.ro 1 rfl).imp fun w2 h2=>(ExIn.succ.1 h2).1).less zn) HG.out.1 HG.out.2.1).mono ?_);rintro e w1 ⟨r,rfl,b1⟩;replace K0:=K0.call b1;replace F0:=K0.facts;simp only [zg] at F0;clear b1))
      all_goals (go_meet;exact ⟨_,rfl,K0⟩)
     case rest=>
      obtain ⟨bb,rfl,K1⟩:=hcut
      clear K0 F0
      have K0:=K1
      clear K1
      have F0:=K0.facts
      simp only [zg] at F0
      cases bb
      ·have hm1:=HG.out.2.2
       obtain rfl|rfl:m=0∨m=1:=by omega
       ·go_wp2_with fail
        go_loopw [101] (fun iv wr=>iv=.int .i64 0∧Hold Zc none w wr [.cst gx 126 #[.int .i64 kind,.int .i64 op,.bool nt,.int .i64 vk,.int .i64 vi,.string vs,.string tab,.string nm,.slice A n c,.slice B 0 e],.ro (ExIn (d+1) ⟨kind,op,nt,⟨vk,vi,vs⟩,tab,nm,A,n,c,args,B,0,e,sub⟩)]) (fun _ _=>0)
        case atStart=>exact ⟨rfl,K0⟩
        case round=>
         clear K0 F0
         obtain ⟨rfl,K0⟩:=hrel
         go_wp2_with fail
         all_goals (go_ret;exact ⟨_,rfl,K0.below⟩)
       ·obtain ⟨b,o,q,eB,hb,hsub,-,-,-,-⟩:=UF (K0.ro 1 rfl).now rfl
        have eB:B=some ⟨b,o,none⟩:=eB
        have hsub:sub=[q]:=hsub
        subst eB
        have hqm:q∈sub:=by have h:sub=[q]:=hsub;rw [h];exact List.mem_singleton_self q
        have HQ:=hid (HQ0.out q hqm)
        go_wp2_with fail
        go_loopw [101] (fun iv wr=>∃ j:Nat,j≤1∧iv=.int .i64 j∧Hold Zc none w wr [.cst gx 126 #[.int .i64 kind,.int .i64 op,.bool nt,.int .i64 vk,.int .i64 vi,.string vs,.string tab,.string nm,.slice A n c,.slice (some ⟨b,o,none⟩) 1 e],.ro (ExIn (d+1) ⟨kind,op,nt,⟨vk,vi,vs⟩,tab,nm,A,n,c,args,some ⟨b,o,none⟩,1,e,sub⟩)]) (fun iv _=>1 - (intOf iv).toNat)
        case atStart=>exact ⟨0,by omega,rfl,K0⟩
        case round=>
         clear K0 F0 hb
         obtain ⟨j,hj,rfl,H⟩:=hrel
         obtain rfl|rfl:j=0∨j=1:=by omega
         ·obtain ⟨b2,o2,q',eB,hb,hs2,q0,q1,q2,q3⟩:=UF (H.ro 1 rfl).now rfl
          obtain ⟨rfl,rfl⟩:b=b2∧o=o2:=by injection eB with eB;injection eB with e1 e2;exact ⟨e1,e2⟩
          have hs2:sub=[q']:=hs2
          obtain rfl:q=q' :=by rw [hsub] at hs2;injection hs2
          obtain ⟨gq,hgq,K0⟩:∃ gq,gq=_∧Hold Zc none w _ [.cst gq 273 #[.bool q.star,.slice q.A q.n q.c,.string q.src,.slice q.B q.m q.d],.cst gx 126 #[.int .i64 kind,.int .i64 op,.bool nt,.int .i64 vk,.int .i64 vi,.string vs,.string tab,.string nm,.slice A n c,.slice (some ⟨b,o,none⟩) 1 e],.ro (ExIn (d+1) ⟨kind,op,nt,⟨vk,vi,vs⟩,tab,nm,A,n,c,args,some ⟨b,o,none⟩,1,e,sub⟩)]:=⟨_,rfl,H.Za #[.bool q.star,.slice q.A q.n q.c,.string q.src,.slice q.B q.m q.d] 273⟩
          have F0:=K0.facts
          simp only [zg] at F0
          rw [hgq] at F0
          clear H hs2 eB
          go_upto_region 14 with fail
          rw [←hgq] at F0 ⊢
          have HGQ:=hid hgq
          clear hgq q0 q1 q2 q3 hb
          generalize World.alloc _ _=w2 at K0 F0 ⊢
          have HI:=hid (fun (wv:World) (h:Hold Zc none w wv [.cst gq 273 #[.bool q.star,.slice q.A q.n q.c,.string q.src,.slice q.B q.m q.d],.cst gx 126 #[.int .i64 kind,.int .i64 op,.bool nt,.int .i64 vk,.int .i64 vi,.string vs,.string tab,.string nm,.slice A n c,.slice (some ⟨b,o,none⟩) 1 e],.ro (ExIn (d+1) ⟨kind,op,nt,⟨vk,vi,vs⟩,tab,nm,A,n,c,args,some ⟨b,o,none⟩,1,e,sub⟩)])=>HA q.A q.n q.c q.items wv (((h.ro 2 rfl).imp fun w2 h2=>((ExIn.succ.1 h2).2.2 q hqm).1).less zn) HQ.out.1 HQ.out.2.2.1)
          have HW:=hid (fun (wv:World) (h:Hold Zc none w wv [.cst gq 273 #[.bool q.star,.slice q.A q.n q.c,.string q.src,.slice q.B q.m q.d],.cst gx 126 #[.int .i64 kind,.int .i64 op,.bool nt,.int .i64 vk,.int .i64 vi,.string vs,.string tab,.string nm,.slice A n c,.slice (some ⟨b,o,none⟩) 1 e],.ro (ExIn (d+1) ⟨kind,op,nt,⟨vk,vi,vs⟩,tab,nm,A,n,c,args,some ⟨b,o,none⟩,1,e,sub⟩)])=>HA q.B q.m q.d q.wh wv (((h.ro 2 rfl).imp fun w2 h2=>((ExIn.succ.1 h2).2.2 q hqm).2).less zn) HQ.out.2.1 HQ.out.2.2.2)
          go_cut [128] (fun v wx=>∃ bb:Bool,v=.bool bb∧Hold Zc none w wx [.cst gq 273 #[.bool q.star,.slice q.A q.n q.c,.string q.src,.slice q.B q.m q.d],.cst gx 126 #[.int .i64 kind,.int .i64 op,.bool nt,.int .i64 vk,.int .i64 vi,.string vs,.string tab,.string nm,.slice A n c,.slice (some ⟨b,o,none⟩) 1 e],.ro (ExIn (d+1) ⟨kind,op,nt,⟨vk,vi,vs⟩,tab,nm,A,n,c,args,some ⟨b,o,none⟩,1,e,sub⟩)])
          case first=>
           skip
           go_wp2_with (first
  | (go_at_call 183;go_must (refine (Vn (d+1) ⟨kind,op,nt,⟨vk,vi,vs⟩,tab,nm,A,n,c,args,B,m,e,sub⟩ _ ((K0.ro 2 rfl).less zn)).mono ?_);rintro e w1 ⟨r,rfl,b1⟩;replace K0:=K0.call b1;replace F0:=K0.facts;simp only [zg] at F0;clear b1)
  | (go_at_call 182;go_must (refine (Z9 _ _ _ _).mono ?_);rintro e w1 ⟨r,rfl,b1⟩;replace K0:=K0.call b1;replace F0:=K0.facts;simp only [zg] at F0;clear b1)
  | (go_at_call 232;go_must (refine (WT _ _).mono ?_);rintro e w1 ⟨r,rfl,b1⟩;replace K0:=K0.call b1;replace F0:=K0.facts;simp only [zg] at F0;clear b1)
  | (go_at_call 160;go_must (refine (ZY _ _).mono ?_);rintro e w1 ⟨r,rfl,b1⟩;replace K0:=K0.call b1;replace F0:=K0.facts;simp only [zg] at F0;clear b1)
  | (go_at_call 233;go_must (refine (VZ ⟨kind,op,nt,⟨vk,vi,vs⟩,tab,nm,A,n,c,args,B,m,e,sub⟩ _).mono ?_);rintro e w1 ⟨r,rfl,b1⟩;replace K0:=K0.call b1;replace F0:=K0.facts;simp only [zg] at F0;clear b1)
  | (go_at_call 162;go_must (first|with_reducible refine (HI.out _ K0).mono ?_|with_reducible refine (HW.out _ K0).mono ?_);rintro e w1 ⟨r,rfl,b1⟩;replace K0:=K0.call b1;replace F0:=K0.facts;simp only [zg] at F0;clear b1))
           all_goals (go_meet;exact ⟨_,rfl,K0⟩)
          case rest=>
           obtain ⟨bb,rfl,K1⟩:=hcut
           clear K0 F0
           have K0:=K1
           clear K1
           have F0:=K0.facts
           simp only [zg] at F0
           cases bb
           ·go_wp2_with fail
            go_roundw
            case rel=>exact ⟨1,by omega,by go_num,K0.drop (List.sublist_cons_self _ _)⟩
            case measure=>simp [intOf]
           ·go_wp2_with fail
            all_goals (go_ret;exact ⟨_,rfl,K0.below⟩)
         ·have K0:=H
          go_wp2_with fail
          all_goals (go_ret;exact ⟨_,rfl,K0.below⟩)
      ·go_wp2_with fail
       all_goals (go_ret;exact ⟨_,rfl,K0.below⟩)
  ·go_wp2_with fail
   all_goals (go_ret;exact ⟨_,rfl,K0.below⟩)
theorem Gp:∀ d:Nat,VE d
 | 0=>fun x w hx hg=>hg.elim
 | d+1=>Zcs (ZaQ (Gp d))
theorem Vr {b o b2 o2:Nat} (h:some (⟨b,o,none⟩:Addr)=some ⟨b2,o2,none⟩):b=b2∧o=o2:=by
 injection h with h
 injection h with e1 e2
 exact ⟨e1,e2⟩
set_option maxHeartbeats 8000000 in
set_option maxRecDepth 100000 in
theorem JK (s:SlP ByteArray) (w:World) (hx:Ro w Zc (s.In 1 ZG (fun _ _=>True))) (hn:s.n≤1000) (hcap:s.n≤s.c):Calls Tryz.prog 161 #[.slice s.A s.n s.c] w fun e w' =>Xc w e w' :=by
 obtain ⟨A,n,c,l⟩:=s
 have HLN:=hid (show l.length=n from SlP.In.len (s:=⟨A,n,c,l⟩) (k:=1) (cel:=ZG) (P:=fun _ _=>True) hx.now (by omega) (fun _=>rfl))
 have hn:n≤1000:=hn
 have hcap:n≤c:=hcap
 have K0:=(Hold.start Zc w zn).add (hx.less (by simp [Mut]))
 clear hx
 go_enter Tryz.func161,Tryz.ntmps161
 by_cases h8:8<n
 ·have h8i:(8:Int)<(n:Int):=by omega
  go_wp2_with fail
  all_goals (go_ret;exact ⟨_,rfl,K0.below⟩)
 ·have h8i:¬(8:Int)<(n:Int):=by omega
  rcases Nat.eq_zero_or_pos n with h0|h0
  ·subst h0
   go_wp2_with fail
   go_loopw [12] (fun iv wr=>iv=.int .i64 0∧Hold Zc none w wr []) (fun _ _=>0)
   case atStart=>exact ⟨rfl,K0.drop (List.sublist_cons_self _ _)⟩
   case round=>
    clear K0
    obtain ⟨rfl,K0⟩:=hrel
    go_wp2_with fail
    all_goals (go_ret;exact ⟨_,rfl,K0.below⟩)
  ·obtain ⟨b,o,eA,-,-⟩:=(show Rd _ _ 1 A n (l.flatMap ZG) from (K0.ro 0 rfl).now.1).2 h0
   have eA:A=some ⟨b,o,none⟩:=eA
   subst eA
   have K1:Hold Zc none w _ [.ro (SlR 1 (some ⟨b,o,none⟩) n (l.flatMap ZG))]:=(K0.add ((K0.ro 0 rfl).imp (S' :=SlR 1 (some ⟨b,o,none⟩) n (l.flatMap ZG)) fun w2 h2=>h2.1)).pick [0] (by decide) rfl
   clear K0
   have HAT:=hid (fun (wv:World) (h:Hold Zc none w wv [.ro (SlR 1 (some ⟨b,o,none⟩) n (l.flatMap ZG))]) (j:Nat) (hj:j<n)=>(show ∃ x:ByteArray,wv.cell? ⟨b,o+j,none⟩=some (.string x) from by
    obtain ⟨b',o',e,-,hc⟩:=(show Rd _ _ 1 (some ⟨b,o,none⟩) n (l.flatMap ZG) from (h.ro 0 rfl).now).2 h0
    obtain ⟨rfl,rfl⟩:=Vr e
    obtain ⟨x,hx⟩:∃ x,l[j]? =some x:=⟨l[j]'(by rw [HLN.out];exact hj),List.getElem?_eq_getElem _⟩
    exact ⟨x,by simpa using hc _ _ ((flat_get ZG 1 (fun _=>rfl) l j 0 x (by omega) hx).trans rfl)⟩))
   go_wp2_with fail
   go_loopw [12] (fun iv wr=>∃ j:Nat,j≤n∧iv=.int .i64 j∧Hold Zc none w wr [.ro (SlR 1 (some ⟨b,o,none⟩) n (l.flatMap ZG))]) (fun iv _=>n - (intOf iv).toNat)
   case atStart=>exact ⟨0,by omega,rfl,K1⟩
   case round=>
    clear K1
    obtain ⟨j,hj,rfl,H⟩:=hrel
    by_cases hlt:j<n
    ·obtain ⟨x,hx⟩:=HAT.out _ H j hlt
     go_wp2_with fail
     refine (ZY _ _).mono ?_
     rintro e w1 ⟨r,rfl,b1⟩
     have K2:=H.call b1
     clear H hx b1
     cases r
     ·go_wp2_with fail
      go_ret
      exact ⟨_,rfl,K2.below⟩
     ·go_wp2_with fail
      go_loopw [24] (fun iv wr=>∃ k:Nat,k≤j∧iv=.int .i64 k∧Hold Zc none w wr [.ro (SlR 1 (some ⟨b,o,none⟩) n (l.flatMap ZG))]) (fun iv _=>j - (intOf iv).toNat)
      case atStart=>exact ⟨0,by omega,rfl,K2⟩
      case round=>
       clear K2
       obtain ⟨k,hk,rfl,H2⟩:=hrel
       by_cases hlt2:k<j
       ·obtain ⟨y,hy⟩:=HAT.out _ H2 k (by omega)
        obtain ⟨bb,hbb⟩:∃ z:Bool,(y.toList==x.toList)=z:=⟨_,rfl⟩
        cases bb
        ·go_wp2_with fail
         go_roundw
         case rel=>exact ⟨k+1,by omega,by go_num,H2⟩
         case measure=>simp [intOf];omega
        ·go_wp2_with fail
         go_ret
         exact ⟨_,rfl,H2.below⟩
       ·obtain rfl:j=k:=by omega
        go_wp2_with fail
        go_roundw
        case rel=>exact ⟨j+1,by omega,by go_num,H2⟩
        case measure=>simp [intOf];omega
    ·obtain rfl:n=j:=by omega
     go_wp2_with fail
     go_ret
     exact ⟨_,rfl,H.below⟩
theorem X5 (d:Nat):VA d:=ZaQ (Gp d)
set_option maxHeartbeats 8000000 in
set_option maxRecDepth 100000 in
theorem zC (d:Nat) (q:Qu) (w:World) (hx:Ro w Zc (QuIn d q)) (hg:(∀ a∈q.items,ExGd d a)∧(∀ a∈q.wh,ExGd d a)∧q.n≤1000∧q.m≤1000):Calls Tryz.prog 234 #[.agg #[.bool q.star,.slice q.A q.n q.c,.string q.src,.slice q.B q.m q.d]] w fun e w' =>Xc w e w' :=by
 obtain ⟨st,A,n,c,items,src,B,m,e,wh⟩:=q
 have HG:=hid hg
 have K0:=((Hold.start Zc w zn).add (hx.less (by simp [Mut]))).Za #[.bool st,.slice A n c,.string src,.slice B m e] 273
 obtain ⟨gx,hgx⟩:∃ g,g=w.heap.size:=⟨_,rfl⟩
 rw [←hgx] at K0
 have F0:=K0.facts
 simp only [zg] at F0
 rw [hgx] at F0
 have HI:=hid (fun (wv:World) (h:Hold Zc none w wv [.cst gx 273 #[.bool st,.slice A n c,.string src,.slice B m e],.ro (QuIn d ⟨st,A,n,c,items,src,B,m,e,wh⟩)])=>X5 d A n c items wv ((h.ro 1 rfl).imp (S' :=ExsIn d A n items) (fun w2 h2=>h2.1)|>.less zn) HG.out.1 HG.out.2.2.1)
 have HW:=hid (fun (wv:World) (h:Hold Zc none w wv [.cst gx 273 #[.bool st,.slice A n c,.string src,.slice B m e],.ro (QuIn d ⟨st,A,n,c,items,src,B,m,e,wh⟩)])=>X5 d B m e wh wv ((h.ro 1 rfl).imp (S' :=ExsIn d B m wh) (fun w2 h2=>h2.2)|>.less zn) HG.out.2.1 HG.out.2.2.2)
 clear hx hg
 go_enter Tryz.func234,Tryz.ntmps234
 go_upto_region 1 with fail
 rw [←hgx] at F0 ⊢
 have HGX:=hid hgx
 clear hgx
 generalize World.alloc _ _=w1 at K0 F0 ⊢
 go_cut [27] (fun v wx=>∃ bb:Bool,v=.bool bb∧Hold Zc none w wx [.cst gx 273 #[.bool st,.slice A n c,.string src,.slice B m e],.ro (QuIn d ⟨st,A,n,c,items,src,B,m,e,wh⟩)])
 case first=>
  go_wp2_with (first
  | (go_at_call 232;go_must (refine (WT _ _).mono ?_);rintro e w1 ⟨r,rfl,b1⟩;replace K0:=K0.call b1;replace F0:=K0.facts;simp only [zg] at F0;clear b1)
  | (go_at_call 162;go_must (first|with_reducible refine (HI.out _ K0).mono ?_|with_reducible refine (HW.out _ K0).mono ?_);rintro e w1 ⟨r,rfl,b1⟩;replace K0:=K0.call b1;replace F0:=K0.facts;simp only [zg] at F0;clear b1))
  all_goals (go_meet;exact ⟨_,rfl,K0⟩)
 case rest=>
  obtain ⟨bb,rfl,K1⟩:=hcut
  clear K0 F0
  have K0:=K1
  clear K1
  have F0:=K0.facts
  simp only [zg] at F0
  cases bb
  ·go_wp2_with (first
  | (go_at_call 232;go_must (refine (WT _ _).mono ?_);rintro e w1 ⟨r,rfl,b1⟩;replace K0:=K0.call b1;replace F0:=K0.facts;simp only [zg] at F0;clear b1)
  | (go_at_call 162;go_must (first|with_reducible refine (HI.out _ K0).mono ?_|with_reducible refine (HW.out _ K0).mono ?_);rintro e w1 ⟨r,rfl,b1⟩;replace K0:=K0.call b1;replace F0:=K0.facts;simp only [zg] at F0;clear b1))
   all_goals (go_ret;exact ⟨_,rfl,K0.below⟩)
  ·go_wp2_with fail
   all_goals (go_ret;exact ⟨_,rfl,K0.below⟩)
def JO (w:World) (e:Ending) (w' :World):Prop:=∃ t c:Int,e=.returned (.tuple #[.int .i64 t,.int .i64 c])∧Below w.heap.size w w'
theorem Qt (a b:Int) (w:World):Calls Tryz.prog 165 #[.int .i64 a,.int .i64 b] w fun e w' =>Xc w e w' :=by
 have K0:=Hold.start Zc w zn
 go_enter Tryz.func165,Tryz.ntmps165
 go_wp2_with fail
 all_goals (go_ret;exact ⟨_,rfl,K0.below⟩)
theorem Ql (a b:Int) (w:World):Calls Tryz.prog 166 #[.int .i64 a,.int .i64 b] w fun e w' =>Xc w e w' :=by
 have K0:=Hold.start Zc w zn
 go_enter Tryz.func166,Tryz.ntmps166
 go_wp2_with fail
 refine (Qt _ _ _).mono ?_
 rintro e w1 ⟨r,rfl,b1⟩
 have K1:=K0.call b1
 go_wp2_with fail
 all_goals (go_ret;exact ⟨_,rfl,K1.below⟩)
def tyC (l:List Int):List Value:=l.map fun t=>Value.int .i64 t
theorem ZbJ (l:List Int):(tyC l).length=l.length:=by simp [tyC]
set_option maxHeartbeats 8000000 in
set_option maxRecDepth 100000 in
theorem ZhQ (x:Ex) (A:Option Addr) (n c:Nat) (l:List Int) (w:World) (hx:Ro w Zc (SlR 1 A n (tyC l))) (hn:n≤1000):Calls Tryz.prog 211 #[.agg #[.int .i64 x.kind,.int .i64 x.op,.bool x.nt,.int .i64 x.v.k,.int .i64 x.v.i,.string x.v.s,.string x.tab,.string x.nm,.slice x.A x.n x.c,.slice x.B x.m x.d],.slice A n c] w fun e w' =>JO w e w' :=by
 have HLN:=hid (show l.length=n from by
  have:=(show Rd _ _ 1 A n (tyC l) from hx.now).1
  rw [ZbJ] at this
  omega)
 have HAT:=hid (show ∀ (wv:World),SlR 1 A n (tyC l) wv→∀ j,j<n→∃ b o t,A=some ⟨b,o,none⟩∧wv.cell? ⟨b,o+j,none⟩=some (.int .i64 t) from fun wv h j hj=>by
  obtain ⟨b,o,e,-,hc⟩:=(show Rd _ _ 1 A n (tyC l) from h).2 (by omega)
  have hl:j<l.length:=by rw [HLN.out];exact hj
  exact ⟨b,o,l[j],e,by simpa using hc j (.int .i64 l[j]) (by simp [tyC,List.getElem?_eq_getElem hl])⟩)
 have K0:=((Hold.start Zc w zn).add (hx.less (by simp [Mut]))).Za #[.int .i64 x.kind,.int .i64 x.op,.bool x.nt,.int .i64 x.v.k,.int .i64 x.v.i,.string x.v.s,.string x.tab,.string x.nm,.slice x.A x.n x.c,.slice x.B x.m x.d] 126
 obtain ⟨gx,hgx⟩:∃ g,g=w.heap.size:=⟨_,rfl⟩
 rw [←hgx] at K0
 have F0:=K0.facts
 simp only [zg] at F0
 rw [hgx] at F0
 clear hx
 go_enter Tryz.func211,Tryz.ntmps211
 go_upto_block 0 with fail
 rw [←hgx] at F0 ⊢
 have HGX:=hid hgx
 clear hgx
 generalize World.alloc _ _=w1 at K0 F0 ⊢
 go_cut [6,7] (fun a b wx=>∃ p q:Int,a=.int .i64 p∧b=.int .i64 q∧Hold Zc none w wx [.cst gx 126 #[.int .i64 x.kind,.int .i64 x.op,.bool x.nt,.int .i64 x.v.k,.int .i64 x.v.i,.string x.v.s,.string x.tab,.string x.nm,.slice x.A x.n x.c,.slice x.B x.m x.d],.ro (SlR 1 A n (tyC l))])
 case first=>
  obtain ⟨c6,h6⟩:∃ z:Bool,(x.kind==6)=z:=⟨_,rfl⟩
  obtain ⟨c3,h3⟩:∃ z:Bool,(x.kind==3)=z:=⟨_,rfl⟩
  obtain ⟨c5,h5⟩:∃ z:Bool,(x.kind==5)=z:=⟨_,rfl⟩
  obtain ⟨c4,h4⟩:∃ z:Bool,(x.kind==4)=z:=⟨_,rfl⟩
  go_wp2_with fail
  all_goals first
   | (go_ret2;exact ⟨_,_,rfl,K0.below⟩)
   | (go_meet;exact ⟨_,_,rfl,rfl,K0⟩)
   | skip
  all_goals
   go_loopw [6,14] (fun pv iv wr=>∃ (p:Int) (j:Nat),j≤n∧pv=.int .i64 p∧iv=.int .i64 j∧Hold Zc none w wr [.cst gx 126 #[.int .i64 x.kind,.int .i64 x.op,.bool x.nt,.int .i64 x.v.k,.int .i64 x.v.i,.string x.v.s,.string x.tab,.string x.nm,.slice x.A x.n x.c,.slice x.B x.m x.d],.ro (SlR 1 A n (tyC l))]) (fun _ iv _=>n - (intOf iv).toNat)
   case atStart=>exact ⟨_,0,by omega,rfl,rfl,K0⟩
   case round=>
    clear K0 F0
    obtain ⟨p,j,hj,rfl,rfl,H⟩:=hrel
    by_cases hlt:j<n
    ·obtain ⟨b,o,t,rfl,hc⟩:=HAT.out _ (H.ro 1 rfl).now j hlt
     obtain ⟨z,hz⟩:∃ z:Bool,(t==0)=z:=⟨_,rfl⟩
     have hz2:(t !=0)=!z:=by rw [←hz];rfl
     cases z
     ·go_wp2_with fail
      all_goals first
       | (exfalso;contradiction)
       | skip
      all_goals
       go_roundw
       case rel=>exact ⟨_,j+1,by omega,by first|rfl|trivial,by go_num,H⟩
       case measure=>simp [intOf];omega
     ·go_wp2_with fail
      all_goals first
       | (exfalso;contradiction)
       | skip
      all_goals
       go_roundw
       case rel=>exact ⟨_,j+1,by omega,by first|rfl|trivial,by go_num,H⟩
       case measure=>simp [intOf];omega
    ·obtain rfl:n=j:=by omega
     go_wp2_with fail
     go_meet
     exact ⟨_,_,rfl,rfl,H⟩
 case rest=>
  obtain ⟨p,q,rfl,rfl,K1⟩:=hcut
  clear K0 F0
  go_wp2_with fail
  go_loopw [56] (fun iv wr=>∃ (j:Nat),j≤n∧iv=.int .i64 j∧Hold Zc none w wr [.cst gx 126 #[.int .i64 x.kind,.int .i64 x.op,.bool x.nt,.int .i64 x.v.k,.int .i64 x.v.i,.string x.v.s,.string x.tab,.string x.nm,.slice x.A x.n x.c,.slice x.B x.m x.d],.ro (SlR 1 A n (tyC l))]) (fun iv _=>n - (intOf iv).toNat)
  case atStart=>exact ⟨0,by omega,rfl,K1⟩
  case round=>
   clear K1
   obtain ⟨j,hj,rfl,H⟩:=hrel
   by_cases hlt:j<n
   ·obtain ⟨b,o,t,rfl,hc⟩:=HAT.out _ (H.ro 1 rfl).now j hlt
    go_wp2_with fail
    refine (Qt _ _ _).mono ?_
    rintro e w3 ⟨r,rfl,b3⟩
    have K3:=H.call b3
    clear H b3 hc
    cases r
    ·go_wp2_with fail
     go_ret2
     exact ⟨_,_,rfl,K3.below⟩
    ·go_wp2_with fail
     go_roundw
     case rel=>exact ⟨j+1,by omega,by go_num,K3⟩
     case measure=>simp [intOf];omega
   ·obtain rfl:n=j:=by omega
    go_wp2_with fail
    go_ret2
    exact ⟨_,_,rfl,H.below⟩
def ZdA (fl:List Fr) (w:World) (e:Ending) (w' :World):Prop:=∃ (i k:Nat) (ok:Bool),e=.returned (.tuple #[.int .i64 i,.int .i64 k,.bool ok])∧(ok=true→∃ f c,fl[i]? =some f∧f.cols.l[k]? =some c)∧Below w.heap.size w w'
set_option maxHeartbeats 8000000 in
set_option maxRecDepth 100000 in
theorem ZeM (fA:Option Addr) (fn fc:Nat) (fl:List Fr) (q nm:ByteArray) (w:World) (hx:Ro w Zc (FrsIn ⟨fA,fn,fc,fl⟩)) (hn:fn≤1000) (hc:∀ f∈fl,f.cols.n≤1000):Calls Tryz.prog 184 #[.slice fA fn fc,.string q,.string nm] w fun e w' =>ZdA fl w e w' :=by
 have HLN:=hid (show fl.length=fn from FrsIn.len hx.now)
 have HC:=hid hc
 have K0:=(Hold.start Zc w zn).add (hx.less (by simp [Mut]))
 clear hx hc
 go_enter Tryz.func184,Tryz.ntmps184
 go_upto_region 1 with fail
 have hw0:IntKind.i64.wrap ((fn:Int) - 1)=(fn:Int) - 1:=IntWalk.i64_in _ (by omega)
 go_wp2_with fail
 go_loopw [9] (fun iv wr=>∃ (i:Int),-1≤i∧i<fn∧iv=.int .i64 i∧Hold Zc none w wr [.ro (FrsIn ⟨fA,fn,fc,fl⟩)]) (fun iv _=>(intOf iv+1).toNat)
 case atStart=>exact ⟨_,by omega,by omega,rfl,K0⟩
 case round=>
  clear K0 hw0
  obtain ⟨i,hi,hi2,rfl,H⟩:=hrel
  by_cases hlt:0≤i
  ·obtain ⟨j,rfl⟩:∃ j:Nat,i=(j:Int):=⟨i.toNat,by omega⟩
   have hj:j<fn:=by omega
   have hwi:IntKind.i64.wrap ((j:Int) - 1)=(j:Int) - 1:=IntWalk.i64_in _ (by omega)
   obtain ⟨⟨fnm,fst,⟨cA,cn,cc,cl⟩,⟨vA,vn,vc,vl⟩⟩,hfx⟩:=Yo HLN.out hj
   obtain ⟨b,o,rfl,hb,hcl,hfin⟩:=FrsIn.at_ (H.ro 0 rfl).now hfx
   have c0:=hcl 0 _ (by omega) rfl
   have c1:=hcl 1 _ (by omega) rfl
   have c2:=hcl 2 _ (by omega) rfl
   have c3:=hcl 3 _ (by omega) rfl
   simp only [Nat.add_zero,SlP.v] at c0 c1 c2 c3
   have hcn:cn≤1000:=HC.out _ (List.mem_of_getElem? hfx)
   have HFX:=hid hfx
   clear hcl hfx
   have HCL:=hid (show cl.length=cn from (RdC.Zy hfin.cols).len)
   have K1:=(H.Za #[.string fnm,.bool fst,.slice cA cn cc,.slice vA vn vc] 210).add (S:=SlR 4 cA cn (Zd cl)) (((H.Za #[.string fnm,.bool fst,.slice cA cn cc,.slice vA vn vc] 210).ro 1 rfl).imp fun w2 h2=>(h2.2 _ (List.mem_of_getElem? HFX.out)).cols)
   obtain ⟨gF,hgF⟩:∃ g,g=wr.heap.size:=⟨_,rfl⟩
   rw [←hgF] at K1
   have F1:=K1.facts
   simp only [zg] at F1
   rw [hgF] at F1
   clear H hfin
   go_upto_region 5 with fail
   rw [←hgF] at F1 ⊢
   have HGF:=hid hgF
   clear hgF c0 c1 c2 c3
   generalize World.alloc _ _=w1 at K1 F1 ⊢
   obtain ⟨d1,h1⟩:∃ z:Bool,(q.toList==([]:List UInt8))=z:=⟨_,rfl⟩
   go_cut [39] (fun v wx=>∃ bb:Bool,v=.bool bb∧Hold Zc none w wx [.ro (SlR 4 cA cn (Zd cl)),.cst gF 210 #[.string fnm,.bool fst,.slice cA cn cc,.slice vA vn vc],.ro (FrsIn ⟨some ⟨b,o,none⟩,fn,fc,fl⟩)])
   case first=>
    go_wp2_with fail
    all_goals (go_meet;exact ⟨_,rfl,K1⟩)
   case rest=>
    obtain ⟨bb,rfl,K2⟩:=hcut
    clear K1 F1 h1
    have F2:=K2.facts
    simp only [zg] at F2
    cases bb
    ·go_wp2_with fail
     go_loopw [43] (fun iv wr=>∃ k:Nat,k≤cn∧iv=.int .i64 k∧Hold Zc none w wr [.ro (SlR 4 cA cn (Zd cl)),.ro (FrsIn ⟨some ⟨b,o,none⟩,fn,fc,fl⟩)]) (fun iv _=>cn - (intOf iv).toNat)
     case atStart=>exact ⟨0,by omega,rfl,K2.pick [0,2] (by decide) rfl⟩
     case round=>
      clear K2 F2
      obtain ⟨k,hk,rfl,H⟩:=hrel
      by_cases hlt2:k<cn
      ·obtain ⟨⟨xnm,xty,xnn,xkey⟩,hcx⟩:=YA HCL.out hlt2
       obtain ⟨b2,o2,rfl,hb2,x0,x1,x2,x3⟩:=(RdC.Zy (H.ro 0 rfl).now).at_ hcx
       simp only at x0 x1 x2 x3
       have K3:=H.Za #[.string xnm,.int .i64 xty,.bool xnn,.bool xkey] 158
       have F3:=K3.facts
       simp only [zg] at F3
       have HCX:=hid hcx
       clear hcx H
       obtain ⟨z,hz⟩:∃ z:Bool,(xnm.toList==nm.toList)=z:=⟨_,rfl⟩
       cases z
       ·go_wp2_with fail
        go_roundw
        case rel=>exact ⟨k+1,by omega,by go_num,K3.drop (List.sublist_cons_self _ _)⟩
        case measure=>simp [intOf];omega
       ·go_wp2_with fail
        go_ret3
        exact ⟨j,k,true,rfl,fun _=>⟨_,_,HFX.out,HCX.out⟩,K3.below⟩
      ·obtain rfl:cn=k:=by omega
       go_wp2_with fail
       go_roundw
       case rel=>exact ⟨(j:Int) - 1,by omega,by omega,rfl,H.drop (List.sublist_cons_self _ _)⟩
       case measure=>simp [intOf]
    ·go_wp2_with fail
     go_roundw
     case rel=>exact ⟨(j:Int) - 1,by omega,by omega,rfl,K2.pick [2] (by decide) rfl⟩
     case measure=>simp [intOf]
  ·go_wp2_with fail
   go_ret3
   exact ⟨0,0,false,rfl,fun h=>(nomatch h),H.below⟩
def Zc7 (w:World) (M:Nat→Prop) (l:List Te) (e:Ending) (w' :World):Prop:=∃ (s:Sm) (ok:Bool),e=.returned (.tuple #[.agg #[.string s.nm,.slice s.cols.A s.cols.n s.cols.c],.bool ok])∧s.cols.n≤1000∧(ok=true→∃ x∈l,x.n=s.cols.n)∧Ro w' M (ZQ s)∧Below w.heap.size w w'
def Ws (s:ByteArray) (x:Te):Bool:=decide (x.nm=s)
theorem Zdn {l:List Te} {s:ByteArray} {j:Nat} {x:Te} (h:(l.take j).find? (Ws s)=none) (hx:l[j]? =some x) (hz:(x.nm.toList==s.toList)=false):(l.take (j+1)).find? (Ws s)=none:=by
 have hn:Ws s x=false:=decide_eq_false fun e=>by rw [e] at hz;simp at hz
 rw [List.take_add_one,hx,List.find?_append,h]
 simp [hn]
theorem ZdE {l:List Te} {s:ByteArray} {j:Nat} {x:Te} (h:(l.take j).find? (Ws s)=none) (hx:l[j]? =some x) (hz:(x.nm.toList==s.toList)=true):l.find? (Ws s)=some x:=by
 have hn:Ws s x=true:=decide_eq_true (Xt (beq_iff_eq.1 hz))
 have hl:=(List.getElem?_eq_some_iff.1 hx)
 have e:l=l.take j++x::l.drop (j+1):=by
  conv=>lhs;rw [←List.take_append_drop j l,List.drop_eq_getElem_cons hl.1,hl.2]
 rw [e,List.find?_append,h]
 simp [hn]
def ZeF (w:World) (M:Nat→Prop) (l:List Te) (s0:ByteArray) (e:Ending) (w' :World):Prop:=∃ (s:Sm) (ok:Bool),e=.returned (.tuple #[.agg #[.string s.nm,.slice s.cols.A s.cols.n s.cols.c],.bool ok])∧s.cols.n≤1000∧(ok=true→∃ x∈l,x.n=s.cols.n)∧(l.find? (Ws s0)=none∧ok=false∨∃ x,l.find? (Ws s0)=some x∧ok=true∧s.cols.l=x.cs∧s.nm=x.nm)∧Ro w' M (ZQ s)∧Below w.heap.size w w'
set_option maxHeartbeats 8000000 in
set_option maxRecDepth 100000 in
theorem Zg3 (M:Nat→Prop) (w:World) (hM:∀ b,M b→b<w.heap.size) (A:Option Addr) (n c:Nat) (l:List Te) (s:ByteArray) (hD:Ro w M (TesIn A n l)) (hn:n≤1000) (hc:∀ x∈l,x.n≤1000):Calls Tryz.prog 72 #[.slice A n c,.string s] w fun e w' =>ZeF w M l s e w' :=by
 have HLN:=hid (show l.length=n from hD.now.len)
 have HC:=hid hc
 have K0:=((Hold.start M w hM).add (hD.less (by simp [Mut]))).alloc #[.string ⟨#[]⟩,.slice none 0 0] 49
 obtain ⟨gr,hgr⟩:∃ g,g=w.heap.size:=⟨_,rfl⟩
 rw [←hgr] at K0
 clear hD hc
 go_enter Tryz.func72,Tryz.ntmps72
 go_wp2_with fail
 rw [←hgr]
 have HGR:=hid hgr
 clear hgr
 go_loopw [11] (fun iv wr=>∃ j:Nat,j≤n∧iv=.int .i64 j∧Hid ((l.take j).find? (Ws s)=none)∧Hold M none w wr [.blk gr 49 #[.string ⟨#[]⟩,.slice none 0 0],.ro (TesIn A n l)]) (fun iv _=>n - (intOf iv).toNat)
 case atStart=>exact ⟨0,by omega,rfl,hid rfl,K0⟩
 case round=>
  clear K0
  obtain ⟨j,hj,rfl,HP,H⟩:=hrel
  by_cases hlt:j<n
  ·obtain ⟨x,hx⟩:=Zq HLN.out hlt
   obtain ⟨b,o,rfl,hb,c0,c1,c2,c3,-⟩:=(H.ro 1 rfl).now.at_ hx
   have hxn:x.n≤1000:=HC.out x (List.mem_of_getElem? hx)
   have HX:=hid hx
   clear hx
   have K1:=H.Za #[.string x.nm,.slice x.A x.n x.c,.int .i64 x.nx,.slice x.B x.m x.d] 67
   have F1:=K1.facts
   simp only [zg] at F1
   obtain ⟨z,hz⟩:∃ z:Bool,(x.nm.toList==s.toList)=z:=⟨_,rfl⟩
   clear H
   have HZ:=hid hz
   cases z
   ·have HN:=hid (Zdn HP.out HX.out HZ.out)
    go_wp2_with fail
    go_roundw
    case rel=>exact ⟨j+1,by omega,by go_num,HN,K1.drop (List.sublist_cons_self _ _)⟩
    case measure=>simp [intOf];omega
   ·have HF:=hid (ZdE HP.out HX.out HZ.out)
    obtain ⟨xnm,xA,xn,xc,xcs,xnx,xB,xm,xd,xl⟩:=x
    have hxn:xn≤1000:=hxn
    go_upto_region 6 with fail
    have KA:=(K1.add (S:=ColsIn xA xn xcs) ((K1.ro 2 rfl).imp fun w2 h2=>(h2.2 _ (List.mem_of_getElem? HX.out)).1)).alloc #[.string xnm,.slice xA xn xc] 49
    obtain ⟨g8,hg8⟩:∃ g,g=wr.heap.size+1:=⟨_,rfl⟩
    rw [World.size_alloc,←hg8] at KA
    rw [←hg8]
    have HG8:=hid hg8
    clear hg8
    have FA:=KA.facts
    simp only [zg] at FA
    clear K1 F1 c0 c1 c2 c3
    have KN:=KA.nil 158 4
    have HSL:=hid (show SlR 4 xA xn (Zd xcs) _ from (KN.ro 2 rfl).now)
    clear KA
    go_wp2_with (at_builtin;go_must (refine ZW KN 0 rfl Tryz.WG HSL.out rfl (.const (.slice none 0 0)) (.tmp 23) rfl rfl rfl (WX xcs) (by omega) (by omega) ?_);intro C1 cap1 wA hcA hmA KB;simp only [Nat.zero_add] at hcA ⊢;simp only [Nat.zero_add,List.nil_append,List.set_cons_zero,List.set_cons_succ] at KB;(have KS:=KB.Zu 0 rfl);simp only [List.set_cons_zero] at KS;(have K3:=KS.store 1 rfl 1 (.slice C1 xn cap1));simp only [zl] at K3;(have K4:=(K3.store 4 rfl 0 (.string xnm)).store 4 rfl 1 (.slice C1 xn cap1));simp only [zl] at K4;(have FS:=KS.facts);simp only [zg] at FS;(have F3:=K3.facts);simp only [zg] at F3;(have F4:=K4.facts);simp only [zg] at F4)
    have HR:=hid ((K4.ro 0 rfl).less zm)
    have HB:=hid K4.below
    clear K4 K3 KS KB KN FA
    refine bodyPost_ret (v:=.tuple #[.agg #[.string xnm,.slice C1 xn cap1],.bool true]) ?_ rfl ?_
    ·clear HR HB
     simp [results,Tryz.results72,go_sem,F4]
    ·exact ⟨⟨xnm,⟨C1,xn,cap1,xcs⟩⟩,true,rfl,hxn,fun _=>⟨_,List.mem_of_getElem? HX.out,rfl⟩,.inr ⟨_,HF.out,rfl,rfl,rfl⟩,HR.out.imp fun w2 h2=>⟨h2,fun _ _=>trivial⟩,HB.out⟩
  ·obtain rfl:n=j:=by omega
   have hNO:=HP.out
   rw [List.take_of_length_le (by rw [HLN.out];exact Nat.le_refl _)] at hNO
   have HNO:=hid hNO
   clear hNO
   have K1:=(H.store 0 rfl 0 (.string ⟨#[]⟩)).store 0 rfl 1 (.slice none 0 0)
   simp only [zl] at K1
   have F0:=H.facts
   simp only [zg] at F0
   have F1:=K1.facts
   simp only [zg] at F1
   have HB:=hid K1.below
   clear K1 H
   go_wp2_with fail
   refine bodyPost_ret (v:=.tuple #[.agg #[.string ⟨#[]⟩,.slice none 0 0],.bool false]) ?_ rfl ?_
   ·clear HB
    simp [results,Tryz.results72,go_sem,F1]
   ·exact ⟨⟨⟨#[]⟩,SlP.nil⟩,false,rfl,by simp [SlP.nil],fun h=>(nomatch h),.inl ⟨HNO.out,rfl⟩,fun w2 _ _=>SlP.Zx 4 Col.cells (fun _ _=>True) w2,HB.out⟩
theorem UL (M:Nat→Prop) (w:World) (hM:∀ b,M b→b<w.heap.size) (A:Option Addr) (n c:Nat) (l:List Te) (s:ByteArray) (hD:Ro w M (TesIn A n l)) (hn:n≤1000) (hc:∀ x∈l,x.n≤1000):Calls Tryz.prog 72 #[.slice A n c,.string s] w fun e w' =>Zc7 w M l e w' :=
 (Zg3 M w hM A n c l s hD hn hc).mono fun e w' ⟨s,ok,h1,h2,h3,_,h4,h5⟩=>⟨s,ok,h1,h2,h3,h4,h5⟩
def ZhK (w:World) (M:Nat→Prop) (fn:Nat) (fl:List Fr) (s:Sm) (e:Ending) (w' :World):Prop:=∃ (A:Option Addr) (c:Nat),e=.returned (.slice A (fn+1) c)∧Ro w' M (FrsIn ⟨A,fn+1,c,fl++[⟨s.nm,false,s.cols,SlP.nil⟩]⟩)∧Below w.heap.size w w'
set_option maxHeartbeats 8000000 in
set_option maxRecDepth 100000 in
theorem Ji (M:Nat→Prop) (w:World) (hM:∀ b,M b→b<w.heap.size) (fA:Option Addr) (fn fc:Nat) (fl:List Fr) (s:Sm) (hf:Ro w M (FrsIn ⟨fA,fn,fc,fl⟩)) (hs:Ro w M (ZQ s)) (hn:fn≤1000):Calls Tryz.prog 202 #[.slice fA fn fc,.agg #[.string s.nm,.slice s.cols.A s.cols.n s.cols.c],.slice none 0 0] w fun e w' =>ZhK w M fn fl s e w' :=by
 obtain ⟨snm,⟨cA,cn,cc,cl⟩⟩:=s
 have K0:=(((Hold.start M w hM).add (hs.less (by simp [Mut]))).add (hf.less (by simp [Mut,Hp.foot]))).Za #[.string snm,.slice cA cn cc] 49
 obtain ⟨gs,hgs⟩:∃ g,g=w.heap.size:=⟨_,rfl⟩
 rw [←hgs] at K0
 clear hf hs
 go_enter Tryz.func202,Tryz.ntmps202
 go_upto_region 1 with fail
 rw [←hgs]
 have HGS:=hid hgs
 clear hgs
 generalize World.alloc _ _=w1 at K0 ⊢
 have F0:=K0.facts
 simp only [zg] at F0
 have KN:=K0.nil 210 4
 have HSL:=hid (show SlR 4 fA fn (XR fl) _ from (KN.ro 2 rfl).now.1)
 go_upto_region 2 with (at_builtin;go_must (refine ZW KN 0 rfl Tryz.WZ HSL.out rfl (.const (.slice none 0 0)) (.tmp 8) rfl rfl rfl (ze fl) (by omega) (by omega) ?_);intro C1 cap1 wA hcA hmA KB;simp only [Nat.zero_add] at hcA ⊢;simp only [Nat.zero_add,List.nil_append,List.set_cons_zero,List.set_cons_succ] at KB)
 clear K0 F0 KN
 have KD:=KB.Za #[.string snm,.bool false,.slice cA cn cc,.slice none 0 0] 210
 have FB:=KB.facts
 simp only [zg] at FB
 have FD:=KD.facts
 simp only [zg] at FD
 have E1:=hid (show SlR 4 (some ⟨wA.heap.size,0,none⟩) 1 [.string snm,.bool false,.slice cA cn cc,.slice none 0 0] _ from ((ZL (KD.get 0 rfl) rfl:Ro _ _ _).now))
 clear KB
 go_wp2_with (at_builtin;go_must (refine ZW KD 1 rfl Tryz.WZ E1.out rfl (.tmp 10) (.tmp 17) rfl rfl rfl (by intro u hu;simp at hu;rcases hu with rfl|rfl|rfl|rfl<;>rfl) (by omega) (by omega) ?_);intro G1 gc1 wB hcB hmB KE;simp only [zl] at KE)
 have KZ:=KE.Zu 1 rfl
 simp only [zl] at KZ
 have hR:Ro _ _ (FrsIn ⟨G1,fn+1,gc1,fl++[⟨snm,false,⟨cA,cn,cc,cl⟩,SlP.nil⟩]⟩):=((KZ.ro 1 rfl).and ((KZ.ro 3 rfl).and (KZ.ro 4 rfl))).imp fun w2 h2=>⟨by
   have h3:=h2.1
   have e:XR fl++[.string snm,.bool false,.slice cA cn cc,.slice none 0 0]=(fl++[(⟨snm,false,⟨cA,cn,cc,cl⟩,SlP.nil⟩:Fr)]).flatMap Fr.cells:=by simp [XR,Fr.cells,SlP.v,SlP.nil]
   rw [e] at h3
   exact h3,fun x hx=>by
   have hx:x∈fl++[(⟨snm,false,⟨cA,cn,cc,cl⟩,SlP.nil⟩:Fr)]:=hx
   rcases List.mem_append.1 hx with hx|hx
   ·exact h2.2.1.2 x hx
   ·simp only [List.mem_cons,List.not_mem_nil,or_false] at hx
    subst hx
    exact ⟨h2.2.2,SlP.Zx _ _ _ _⟩⟩
 have HR:=hid (hR.less zm)
 have HB:=hid KZ.below
 clear KZ KE KD hR FD
 go_wp2_with fail
 go_ret
 exact ⟨_,_,rfl,HR.out,HB.out⟩
set_option maxHeartbeats 8000000 in
set_option maxRecDepth 100000 in
theorem VM (d:Nat) (s:SlP Se) (w:World) (hx:Ro w Zc (s.In 11 Se.cells (YC d))) (hg:∀ z∈s.l,ExGd d z.e) (hn:s.n≤1000) (hcap:s.n≤s.c):Calls Tryz.prog 209 #[.slice s.A s.n s.c] w fun e w' =>Xc w e w' :=by
 obtain ⟨A,n,c,l⟩:=s
 have HLN:=hid (show l.length=n from SlP.In.len (s:=⟨A,n,c,l⟩) (k:=11) (cel:=Se.cells) (P:=YC d) hx.now (by omega) (fun _=>rfl))
 have hn:n≤1000:=hn
 have hcap:n≤c:=hcap
 have HG:=hid (show ∀ z∈l,ExGd d z.e from hg)
 have K0:=(Hold.start Zc w zn).add (hx.less (by simp [Mut]))
 clear hx hg
 go_enter Tryz.func209,Tryz.ntmps209
 rcases Nat.eq_zero_or_pos n with h0|h0
 ·subst h0
  go_wp2_with fail
  go_loopw [9] (fun iv wr=>iv=.int .i64 0∧Hold Zc none w wr []) (fun _ _=>0)
  case atStart=>exact ⟨rfl,K0.drop (List.sublist_cons_self _ _)⟩
  case round=>
   clear K0
   obtain ⟨rfl,K0⟩:=hrel
   go_wp2_with fail
   all_goals (go_ret;exact ⟨_,rfl,K0.below⟩)
 ·obtain ⟨b,o,eA,-,-⟩:=(show Rd _ _ 11 A n (l.flatMap Se.cells) from (K0.ro 0 rfl).now.1).2 h0
  have eA:A=some ⟨b,o,none⟩:=eA
  subst eA
  go_wp2_with fail
  go_loopw [9] (fun iv wr=>∃ j:Nat,j≤n∧iv=.int .i64 j∧Hold Zc none w wr [.ro (SlP.In ⟨some ⟨b,o,none⟩,n,c,l⟩ 11 Se.cells (YC d))]) (fun iv _=>n - (intOf iv).toNat)
  case atStart=>exact ⟨0,by omega,rfl,K0⟩
  case round=>
   clear K0
   obtain ⟨j,hj,rfl,H⟩:=hrel
   by_cases hlt:j<n
   ·skip
    obtain ⟨⟨xc,xe⟩,xx⟩:=Yo HLN.out (show j<n by omega)
    obtain ⟨xb,xo,xE,-,xh,xin⟩:=SlP.In.at_ (s:=⟨some ⟨b,o,none⟩,n,c,l⟩) (k:=11) (cel:=Se.cells) (P:=YC d) (H.ro 0 rfl).now (by omega) (fun _=>rfl) xx
    obtain ⟨rfl,rfl⟩:=Vr (show some (⟨b,o,none⟩:Addr)=some ⟨xb,xo,none⟩ from xE)
    have x0:=xh 0 _ (by omega) rfl
    have x1:=xh 1 _ (by omega) rfl
    have x2:=xh 2 _ (by omega) rfl
    have x3:=xh 3 _ (by omega) rfl
    have x4:=xh 4 _ (by omega) rfl
    have x5:=xh 5 _ (by omega) rfl
    have x6:=xh 6 _ (by omega) rfl
    have x7:=xh 7 _ (by omega) rfl
    have x8:=xh 8 _ (by omega) rfl
    have x9:=xh 9 _ (by omega) rfl
    have x10:=xh 10 _ (by omega) rfl
    simp only [Nat.add_zero] at x0 x1 x2 x3 x4 x5 x6 x7 x8 x9 x10
    clear xh xE
    obtain ⟨gs,hgs,K0⟩:∃ gs,gs=_∧Hold Zc none w _ [.cst gs 128 #[.string xc,.int .i64 xe.kind,.int .i64 xe.op,.bool xe.nt,.int .i64 xe.v.k,.int .i64 xe.v.i,.string xe.v.s,.string xe.tab,.string xe.nm,.slice xe.A xe.n xe.c,.slice xe.B xe.m xe.d],.ro (SlP.In ⟨some ⟨b,o,none⟩,n,c,l⟩ 11 Se.cells (YC d))]:=⟨_,rfl,H.Za #[.string xc,.int .i64 xe.kind,.int .i64 xe.op,.bool xe.nt,.int .i64 xe.v.k,.int .i64 xe.v.i,.string xe.v.s,.string xe.tab,.string xe.nm,.slice xe.A xe.n xe.c,.slice xe.B xe.m xe.d] 128⟩
    have F0:=K0.facts
    simp only [zg] at F0
    rw [hgs] at F0
    have hm:=HG.out _ (List.mem_of_getElem? xx)
    have HV:=hid (fun (wv:World) (h:Hold Zc none w wv [.cst gs 128 #[.string xc,.int .i64 xe.kind,.int .i64 xe.op,.bool xe.nt,.int .i64 xe.v.k,.int .i64 xe.v.i,.string xe.v.s,.string xe.tab,.string xe.nm,.slice xe.A xe.n xe.c,.slice xe.B xe.m xe.d],.ro (SlP.In ⟨some ⟨b,o,none⟩,n,c,l⟩ 11 Se.cells (YC d))])=>Gp d xe wv (((h.ro 1 rfl).imp fun w2 h2=>(show ExIn d xe w2 from h2.2 _ (List.mem_of_getElem? xx))).less zn) hm)
    clear H xin xx hm
    go_upto_region 4 with fail
    rw [←hgs] at F0 ⊢
    have HGS:=hid hgs
    clear hgs x0 x1 x2 x3 x4 x5 x6 x7 x8 x9 x10
    generalize World.alloc _ _=w2 at K0 F0 ⊢
    go_cut [23] (fun v wx=>∃ bb:Bool,v=.bool bb∧Hold Zc none w wx [.cst gs 128 #[.string xc,.int .i64 xe.kind,.int .i64 xe.op,.bool xe.nt,.int .i64 xe.v.k,.int .i64 xe.v.i,.string xe.v.s,.string xe.tab,.string xe.nm,.slice xe.A xe.n xe.c,.slice xe.B xe.m xe.d],.ro (SlP.In ⟨some ⟨b,o,none⟩,n,c,l⟩ 11 Se.cells (YC d))])
    case first=>
     go_wp2_with (first
      | (go_at_call 160;go_must (refine (ZY _ _).mono ?_);rintro e w1 ⟨r,rfl,b1⟩;replace K0:=K0.call b1;replace F0:=K0.facts;simp only [zg] at F0;clear b1)
      | (go_at_call 207;go_must (refine (HV.out _ K0).mono ?_);rintro e w1 ⟨r,rfl,b1⟩;replace K0:=K0.call b1;replace F0:=K0.facts;simp only [zg] at F0;clear b1))
     all_goals (go_meet;exact ⟨_,rfl,K0⟩)
    case rest=>
     obtain ⟨bb,rfl,K1⟩:=hcut
     clear K0 F0
     cases bb
     ·go_wp2_with fail
      go_loopw [28] (fun iv wr=>∃ k:Nat,k≤j∧iv=.int .i64 k∧Hold Zc none w wr [.cst gs 128 #[.string xc,.int .i64 xe.kind,.int .i64 xe.op,.bool xe.nt,.int .i64 xe.v.k,.int .i64 xe.v.i,.string xe.v.s,.string xe.tab,.string xe.nm,.slice xe.A xe.n xe.c,.slice xe.B xe.m xe.d],.ro (SlP.In ⟨some ⟨b,o,none⟩,n,c,l⟩ 11 Se.cells (YC d))]) (fun iv _=>j - (intOf iv).toNat)
      case atStart=>exact ⟨0,by omega,rfl,K1⟩
      case round=>
       clear K1
       obtain ⟨k,hk,rfl,H2⟩:=hrel
       by_cases hlt2:k<j
       ·skip
        obtain ⟨⟨yc,ye⟩,yx⟩:=Yo HLN.out (show k<n by omega)
        obtain ⟨yb,yo,yE,-,yh,yin⟩:=SlP.In.at_ (s:=⟨some ⟨b,o,none⟩,n,c,l⟩) (k:=11) (cel:=Se.cells) (P:=YC d) ((H2.drop (List.sublist_cons_self _ _)).ro 0 rfl).now (by omega) (fun _=>rfl) yx
        obtain ⟨rfl,rfl⟩:=Vr (show some (⟨b,o,none⟩:Addr)=some ⟨yb,yo,none⟩ from yE)
        have y0:=yh 0 _ (by omega) rfl
        have y1:=yh 1 _ (by omega) rfl
        have y2:=yh 2 _ (by omega) rfl
        have y3:=yh 3 _ (by omega) rfl
        have y4:=yh 4 _ (by omega) rfl
        have y5:=yh 5 _ (by omega) rfl
        have y6:=yh 6 _ (by omega) rfl
        have y7:=yh 7 _ (by omega) rfl
        have y8:=yh 8 _ (by omega) rfl
        have y9:=yh 9 _ (by omega) rfl
        have y10:=yh 10 _ (by omega) rfl
        simp only [Nat.add_zero] at y0 y1 y2 y3 y4 y5 y6 y7 y8 y9 y10
        clear yh yE
        have K2:=H2.Za #[.string yc,.int .i64 ye.kind,.int .i64 ye.op,.bool ye.nt,.int .i64 ye.v.k,.int .i64 ye.v.i,.string ye.v.s,.string ye.tab,.string ye.nm,.slice ye.A ye.n ye.c,.slice ye.B ye.m ye.d] 128
        have F2:=K2.facts
        simp only [zg] at F2
        clear H2 yin yx
        obtain ⟨bb,hbb⟩:∃ z:Bool,(yc.toList==xc.toList)=z:=⟨_,rfl⟩
        cases bb
        ·go_wp2_with fail
         go_roundw
         case rel=>exact ⟨k+1,by omega,by go_num,K2.drop (List.sublist_cons_self _ _)⟩
         case measure=>simp [intOf];omega
        ·go_wp2_with fail
         go_ret
         exact ⟨_,rfl,K2.below⟩
       ·obtain rfl:j=k:=by omega
        go_wp2_with fail
        go_roundw
        case rel=>exact ⟨j+1,by omega,by go_num,H2.drop (List.sublist_cons_self _ _)⟩
        case measure=>simp [intOf];omega
     ·go_wp2_with fail
      go_ret
      exact ⟨_,rfl,K1.below⟩
   ·obtain rfl:n=j:=by omega
    go_wp2_with fail
    go_ret
    exact ⟨_,rfl,H.below⟩
set_option maxHeartbeats 8000000 in
set_option maxRecDepth 100000 in
theorem V8 (d:Nat) (a:Ac) (w:World) (hx:Ro w Zc (AcIn d a)) (hg:AcGd d a):Calls Tryz.prog 208 #[.agg #[.int .i64 a.kind,.string a.tab,.slice a.rows.A a.rows.n a.rows.c,.slice a.qs.A a.qs.n a.qs.c,.slice a.sets.A a.sets.n a.sets.c,.slice a.wh.A a.wh.n a.wh.c,.string a.text]] w fun e w' =>Xc w e w' :=by
 obtain ⟨kind,tab,⟨rA,rn,rc,rl⟩,⟨qA,qn,qc,ql⟩,⟨sA,sn,sc,sl⟩,⟨hA,hn,hc,hl⟩,text⟩:=a
 have HRN:=hid (show rl.length=rn from SlP.In.len (s:=⟨rA,rn,rc,rl⟩) (k:=1) (cel:=fun r:SlP Ex=>[r.v]) (P:=fun r w=>r.In 10 Ex.cells (ExIn d) w) hx.now.1 (by omega) (fun _=>rfl))
 have HQN:=hid (show ql.length=qn from SlP.In.len (s:=⟨qA,qn,qc,ql⟩) (k:=4) (cel:=Qu.cells) (P:=QuIn d) hx.now.2.1 (by omega) (fun _=>rfl))
 have HQL:=hid (show qn≤1 from by have h:ql.length≤1:=hg.q.2.1;have:=HQN.out;omega)
 have hrn:rn≤8:=by have h:rl.length≤8:=hg.r.2.1;have:=HRN.out;omega
 have HQG:=hid (show ∀ q∈ql,∀ w,QuIn d q w→(∀ a∈q.items,ExGd d a)∧(∀ a∈q.wh,ExGd d a)∧q.n≤1000∧q.m≤1000 from fun q hq w hin=>by
  have h:=hg.q.2.2 q hq
  have h6:q.items.length=q.n:=ExsIn.len hin.1
  have h7:q.wh.length=q.m:=ExsIn.len (show ExsIn d q.B q.m q.wh w from hin.2)
  have h8:=h.2.1
  exact ⟨h.2.2.1,h.2.2.2,by omega,by omega⟩)
 have HRG:=hid (show ∀ r∈rl,(∀ x∈r.l,ExGd d x)∧r.l.length≤8 from fun r hr=>⟨(hg.r.2.2 r hr).2.2,(hg.r.2.2 r hr).2.1⟩)
 have K0:=((Hold.start Zc w zn).add (hx.less (by simp [Mut]))).Za #[.int .i64 kind,.string tab,.slice rA rn rc,.slice qA qn qc,.slice sA sn sc,.slice hA hn hc,.string text] 97
 obtain ⟨gx,hgx⟩:∃ g,g=w.heap.size:=⟨_,rfl⟩
 rw [←hgx] at K0
 have F0:=K0.facts
 simp only [zg] at F0
 rw [hgx] at F0
 clear hx hg
 go_enter Tryz.func208,Tryz.ntmps208
 go_upto_region 1 with fail
 rw [←hgx] at F0 ⊢
 have HGX:=hid hgx
 clear hgx
 generalize World.alloc _ _=w1 at K0 F0 ⊢
 obtain ⟨c1,h1⟩:∃ z:Bool,((qn:Int)==1)=z:=⟨_,rfl⟩
 go_cut [25] (fun v wx=>∃ bb:Bool,v=.bool bb∧Hold Zc none w wx [.cst gx 97 #[.int .i64 kind,.string tab,.slice rA rn rc,.slice qA qn qc,.slice sA sn sc,.slice hA hn hc,.string text],.ro (AcIn d ⟨kind,tab,⟨rA,rn,rc,rl⟩,⟨qA,qn,qc,ql⟩,⟨sA,sn,sc,sl⟩,⟨hA,hn,hc,hl⟩,text⟩)])
 case first=>
  go_wp2_with fail
  all_goals (go_meet;exact ⟨_,rfl,K0⟩)
 case rest=>
  obtain ⟨bb,rfl,K1⟩:=hcut
  clear K0 F0 h1
  have K0:=K1
  clear K1
  have F0:=K0.facts
  simp only [zg] at F0
  cases bb
  ·rcases Nat.eq_zero_or_pos rn with h0|h0
   ·subst h0
    go_wp2_with fail
    go_loopw [29] (fun iv wr=>iv=.int .i64 0∧Hold Zc none w wr [.cst gx 97 #[.int .i64 kind,.string tab,.slice rA 0 rc,.slice qA qn qc,.slice sA sn sc,.slice hA hn hc,.string text],.ro (AcIn d ⟨kind,tab,⟨rA,0,rc,rl⟩,⟨qA,qn,qc,ql⟩,⟨sA,sn,sc,sl⟩,⟨hA,hn,hc,hl⟩,text⟩)]) (fun _ _=>0)
    case atStart=>exact ⟨rfl,K0⟩
    case round=>
     clear K0 F0
     obtain ⟨rfl,K0⟩:=hrel
     have F0:=K0.facts
     simp only [zg] at F0
     obtain rfl|rfl:qn=0∨qn=1:=by have:=HQL.out;omega
     ·go_wp2_with fail
      all_goals (go_ret;exact ⟨_,rfl,K0.below⟩)
     ·obtain ⟨q,hq⟩:∃ q,ql[0]? =some q:=Yo HQN.out (by omega)
      obtain ⟨b9,o9,eB,-,hc9,hin9⟩:=SlP.In.at_ (s:=⟨qA,1,qc,ql⟩) (k:=4) (cel:=Qu.cells) (P:=QuIn d) (K0.ro 1 rfl).now.2.1 (by omega) (fun _=>rfl) hq
      have eB:qA=some ⟨b9,o9,none⟩:=eB
      subst eB
      have q0:=hc9 0 _ (by omega) rfl
      have q1:=hc9 1 _ (by omega) rfl
      have q2:=hc9 2 _ (by omega) rfl
      have q3:=hc9 3 _ (by omega) rfl
      simp only [Nat.add_zero,Nat.zero_mul] at q0 q1 q2 q3
      have HVQ:=hid (zC d q _ (((K0.ro 1 rfl).imp fun w2 h2=>h2.2.1.2 q (List.mem_of_getElem? hq)).less zn) (HQG.out q (List.mem_of_getElem? hq) _ hin9))
      clear hc9 hin9 hq
      go_wp2_with (go_at_call 234;go_must (refine HVQ.out.mono ?_);rintro e w1 ⟨r,rfl,b1⟩;replace K0:=K0.call b1;replace F0:=K0.facts;simp only [zg] at F0;clear b1)
      all_goals (go_ret;exact ⟨_,rfl,K0.below⟩)
   ·obtain ⟨b,o,eA,-,-⟩:=(show Rd _ _ 1 rA rn (rl.flatMap fun r:SlP Ex=>[r.v]) from (K0.ro 1 rfl).now.1.1).2 h0
    subst eA
    go_wp2_with fail
    go_loopw [29] (fun iv wr=>∃ j:Nat,j≤rn∧iv=.int .i64 j∧Hold Zc none w wr [.cst gx 97 #[.int .i64 kind,.string tab,.slice (some ⟨b,o,none⟩) rn rc,.slice qA qn qc,.slice sA sn sc,.slice hA hn hc,.string text],.ro (AcIn d ⟨kind,tab,⟨some ⟨b,o,none⟩,rn,rc,rl⟩,⟨qA,qn,qc,ql⟩,⟨sA,sn,sc,sl⟩,⟨hA,hn,hc,hl⟩,text⟩)]) (fun iv _=>rn - (intOf iv).toNat)
    case atStart=>exact ⟨0,by omega,rfl,K0⟩
    case round=>
     clear K0 F0
     obtain ⟨j,hj,rfl,K0⟩:=hrel
     by_cases hlt:j<rn
     ·obtain ⟨⟨eA,en,ec,el⟩,hr⟩:=Yo HRN.out hlt
      obtain ⟨b9,o9,eB,-,hc9,hin9⟩:=SlP.In.at_ (s:=⟨some ⟨b,o,none⟩,rn,rc,rl⟩) (k:=1) (cel:=fun r:SlP Ex=>[r.v]) (P:=fun r w=>r.In 10 Ex.cells (ExIn d) w) (K0.ro 1 rfl).now.1 (by omega) (fun _=>rfl) hr
      obtain ⟨rfl,rfl⟩:=Vr (show some (⟨b,o,none⟩:Addr)=some ⟨b9,o9,none⟩ from eB)
      have q0:=hc9 0 _ (by omega) rfl
      simp only [Nat.add_zero,Nat.mul_one,SlP.v] at q0
      have hml:=List.mem_of_getElem? hr
      have hel:el.length=en:=ExsIn.len (show ExsIn d eA en el _ from hin9)
      have h8:=(HRG.out _ hml).2
      simp only at h8
      have HV:=hid (fun (wv:World) (h:Hold Zc none w wv [.cst gx 97 #[.int .i64 kind,.string tab,.slice (some ⟨b,o,none⟩) rn rc,.slice qA qn qc,.slice sA sn sc,.slice hA hn hc,.string text],.ro (AcIn d ⟨kind,tab,⟨some ⟨b,o,none⟩,rn,rc,rl⟩,⟨qA,qn,qc,ql⟩,⟨sA,sn,sc,sl⟩,⟨hA,hn,hc,hl⟩,text⟩)])=>X5 d eA en ec el wv (((h.ro 1 rfl).imp fun w2 h2=>(show ExsIn d eA en el w2 from h2.1.2 _ hml)).less zn) (HRG.out _ hml).1 (by omega))
      have F0:=K0.facts
      simp only [zg] at F0
      clear hc9 hin9 eB hr
      go_upto_region 6 with fail
      go_cut [45] (fun v wx=>∃ bb:Bool,v=.bool bb∧Hold Zc none w wx [.cst gx 97 #[.int .i64 kind,.string tab,.slice (some ⟨b,o,none⟩) rn rc,.slice qA qn qc,.slice sA sn sc,.slice hA hn hc,.string text],.ro (AcIn d ⟨kind,tab,⟨some ⟨b,o,none⟩,rn,rc,rl⟩,⟨qA,qn,qc,ql⟩,⟨sA,sn,sc,sl⟩,⟨hA,hn,hc,hl⟩,text⟩)])
      case first=>
       go_wp2_with (go_at_call 162;go_must (refine (HV.out _ K0).mono ?_);rintro e w1 ⟨r,rfl,b1⟩;replace K0:=K0.call b1;replace F0:=K0.facts;simp only [zg] at F0;clear b1)
       all_goals (go_meet;exact ⟨_,rfl,K0⟩)
      case rest=>
       obtain ⟨bb,rfl,K1⟩:=hcut
       clear K0 F0 q0
       cases bb
       ·go_wp2_with fail
        go_roundw
        case rel=>exact ⟨j+1,by omega,by go_num,K1⟩
        case measure=>simp [intOf];omega
       ·go_wp2_with fail
        go_ret
        exact ⟨_,rfl,K1.below⟩
     ·obtain rfl:rn=j:=by omega
      have F0:=K0.facts
      simp only [zg] at F0
      obtain rfl|rfl:qn=0∨qn=1:=by have:=HQL.out;omega
      ·go_wp2_with fail
       all_goals (go_ret;exact ⟨_,rfl,K0.below⟩)
      ·obtain ⟨q,hq⟩:∃ q,ql[0]? =some q:=Yo HQN.out (by omega)
       obtain ⟨b9,o9,eB,-,hc9,hin9⟩:=SlP.In.at_ (s:=⟨qA,1,qc,ql⟩) (k:=4) (cel:=Qu.cells) (P:=QuIn d) (K0.ro 1 rfl).now.2.1 (by omega) (fun _=>rfl) hq
       have eB:qA=some ⟨b9,o9,none⟩:=eB
       subst eB
       have q0:=hc9 0 _ (by omega) rfl
       have q1:=hc9 1 _ (by omega) rfl
       have q2:=hc9 2 _ (by omega) rfl
       have q3:=hc9 3 _ (by omega) rfl
       simp only [Nat.add_zero,Nat.zero_mul] at q0 q1 q2 q3
       have HVQ:=hid (zC d q _ (((K0.ro 1 rfl).imp fun w2 h2=>h2.2.1.2 q (List.mem_of_getElem? hq)).less zn) (HQG.out q (List.mem_of_getElem? hq) _ hin9))
       clear hc9 hin9 hq
       go_wp2_with (go_at_call 234;go_must (refine HVQ.out.mono ?_);rintro e w1 ⟨r,rfl,b1⟩;replace K0:=K0.call b1;replace F0:=K0.facts;simp only [zg] at F0;clear b1)
       all_goals (go_ret;exact ⟨_,rfl,K0.below⟩)
  ·go_wp2_with fail
   all_goals (go_ret;exact ⟨_,rfl,K0.below⟩)
def FB (d fn:Nat) (fl:List Fr):Prop:=fn+d≤1000∧∀ f∈fl,f.cols.n≤1000
def TBd (tn:Nat) (tl:List Te):Prop:=tn≤1000∧∀ x∈tl,x.n≤1000
def TY (d:Nat):Prop:=∀ (x:Ex) (fA:Option Addr) (fn fc:Nat) (fl:List Fr) (tA:Option Addr) (tn tc:Nat) (tl:List Te) (w:World) (hx:Ro w Zc (ExIn d x)) (hg:ExGd d x) (hf:Ro w Zc (FrsIn ⟨fA,fn,fc,fl⟩)) (ht:Ro w Zc (TesIn tA tn tl)) (hfb:FB d fn fl) (htb:TBd tn tl),Calls Tryz.prog 164 #[.agg #[.int .i64 x.kind,.int .i64 x.op,.bool x.nt,.int .i64 x.v.k,.int .i64 x.v.i,.string x.v.s,.string x.tab,.string x.nm,.slice x.A x.n x.c,.slice x.B x.m x.d],.slice fA fn fc,.slice tA tn tc] w fun e w' =>JO w e w'
def UI (w:World) (e:Ending) (w' :World):Prop:=∃ c:Int,e=.returned (.int .i64 c)∧Below w.heap.size w w'
def CO (d:Nat):Prop:=∀ (A:Option Addr) (n c:Nat) (l:List Ex) (fA:Option Addr) (fn fc:Nat) (fl:List Fr) (tA:Option Addr) (tn tc:Nat) (tl:List Te) (w:World) (hx:Ro w Zc (ExsIn d A n l)) (hg:∀ x∈l,ExGd d x) (hf:Ro w Zc (FrsIn ⟨fA,fn,fc,fl⟩)) (ht:Ro w Zc (TesIn tA tn tl)) (hfb:FB d fn fl) (htb:TBd tn tl),Calls Tryz.prog 103 #[.slice A n c,.slice fA fn fc,.slice tA tn tc] w fun e w' =>UI w e w'
set_option maxHeartbeats 8000000 in
set_option maxRecDepth 100000 in
theorem Za5 {d:Nat} (HT:TY d):CO d:=by
 intro A n c l fA fn fc fl tA tn tc tl w hx hg hf ht hfb htb
 have HLN:=hid (show l.length=n from hx.now.len)
 have HG:=hid hg
 have K0:=(((Hold.start Zc w zn).add (ht.less (by simp [Mut]))).add (hf.less (by simp [Mut,Hp.foot]))).add (hx.less (by simp [Mut,Hp.foot]))
 clear hx hg hf ht
 go_enter Tryz.func103,Tryz.ntmps103
 rcases Nat.eq_zero_or_pos n with h0|h0
 ·subst h0
  go_wp2_with fail
  go_ret
  exact ⟨_,rfl,K0.below⟩
 ·have hnz:((n:Int)==0)=false:=by simp;omega
  have hn0:(0:Int)<n:=by omega
  obtain ⟨x,hx⟩:=Yo HLN.out (show 0<n from h0)
  obtain ⟨b,o,rfl,hb,hc,-⟩:=(K0.ro 0 rfl).now.at_ hx
  have hm:=List.mem_of_getElem? hx
  have x0:=hc 0 _ (by omega) rfl
  have x1:=hc 1 _ (by omega) rfl
  have x2:=hc 2 _ (by omega) rfl
  have x3:=hc 3 _ (by omega) rfl
  have x4:=hc 4 _ (by omega) rfl
  have x5:=hc 5 _ (by omega) rfl
  have x6:=hc 6 _ (by omega) rfl
  have x7:=hc 7 _ (by omega) rfl
  have x8:=hc 8 _ (by omega) rfl
  have x9:=hc 9 _ (by omega) rfl
  simp only [Nat.add_zero,Nat.zero_mul] at x0 x1 x2 x3 x4 x5 x6 x7 x8 x9
  clear hc hx
  go_wp2_with fail
  refine (HT x fA fn fc fl tA tn tc tl _ (((K0.ro 0 rfl).imp fun w2 h2=>h2.2 x hm).less zn) (HG.out x hm) ((K0.ro 1 rfl).less zn) ((K0.ro 2 rfl).less zn) hfb htb).mono ?_
  rintro e w1 ⟨t,cd,rfl,b1⟩
  have K1:=K0.call b1
  clear K0 b1 x0 x1 x2 x3 x4 x5 x6 x7 x8 x9
  obtain ⟨z,hz⟩:∃ z:Bool,(cd !=0)=z:=⟨_,rfl⟩
  cases z
  ·go_wp2_with fail
   refine (Qt _ _ _).mono ?_
   rintro e w3 ⟨r,rfl,b3⟩
   have K3:=K1.call b3
   clear K1 b3
   cases r
   ·go_wp2_with fail
    go_ret
    exact ⟨_,rfl,K3.below⟩
   ·go_wp2_with fail
    go_ret
    exact ⟨_,rfl,K3.below⟩
  ·go_wp2_with fail
   go_ret
   exact ⟨_,rfl,K1.below⟩
theorem ExIn.Zcc {d:Nat} {x:Ex} {w:World} (h:ExIn (d+1) x w):ExsIn d x.A x.n x.args w:=⟨h.1,h.2.1⟩
theorem Zc3 {d:Nat} {x:Ex} {w:World} (h:ExIn (d+1) x w) (h1:x.m=1):∃ (b o:Nat) (q:Qu),x.B=some ⟨b,o,none⟩∧x.sub=[q]∧QuIn d q w:=by
 obtain ⟨b,o,q,e,-,hs,-⟩:=UF h h1
 exact ⟨b,o,q,e,hs,h.2.2.2 q (by rw [hs];simp)⟩
set_option maxHeartbeats 8000000 in
set_option maxRecDepth 100000 in
theorem ZcZ {d:Nat} (HT:TY d) (HC:CO d) (x:Ex) (fA:Option Addr) (fn fc:Nat) (fl:List Fr) (tA:Option Addr) (tn tc:Nat) (tl:List Te) (w:World) (hx:Ro w Zc (ExIn (d+1) x)) (hg:ExGd (d+1) x) (hm1:x.m=1) (hf:Ro w Zc (FrsIn ⟨fA,fn,fc,fl⟩)) (ht:Ro w Zc (TesIn tA tn tl)) (hfb:FB (d+1) fn fl) (htb:TBd tn tl):Calls Tryz.prog 210 #[.agg #[.int .i64 x.kind,.int .i64 x.op,.bool x.nt,.int .i64 x.v.k,.int .i64 x.v.i,.string x.v.s,.string x.tab,.string x.nm,.slice x.A x.n x.c,.slice x.B x.m x.d],.slice fA fn fc,.slice tA tn tc] w fun e w' =>JO w e w' :=by
 obtain ⟨b,o,⟨star,qA,qn,qc,qil,src,qB,qm,qd,qwl⟩,eB,hsub,-⟩:=Zc3 hx.now hm1
 have HQG:=hid (show QuGd d ⟨star,qA,qn,qc,qil,src,qB,qm,qd,qwl⟩ from by
  have h:=hg.2.2.2 ⟨star,qA,qn,qc,qil,src,qB,qm,qd,qwl⟩ (by rw [hsub];simp)
  exact h)
 have HQI:=hid (show ∀ w2,ExIn (d+1) x w2→QuIn d ⟨star,qA,qn,qc,qil,src,qB,qm,qd,qwl⟩ w2 from fun w2 h2=>h2.2.2.2 ⟨star,qA,qn,qc,qil,src,qB,qm,qd,qwl⟩ (by rw [hsub];simp))
 have HFB:=hid hfb
 have HTB:=hid htb
 have HQC:=hid (show ∀ w2,ExIn (d+1) x w2→w2.cell? ⟨b,o,none⟩=some (.bool star)∧w2.cell? ⟨b,o+1,none⟩=some (.slice qA qn qc)∧w2.cell? ⟨b,o+2,none⟩=some (.string src)∧w2.cell? ⟨b,o+3,none⟩=some (.slice qB qm qd) from fun w2 h2=>by
  obtain ⟨b',o',q',e',-,hs',hh⟩:=UF h2 hm1
  rw [eB] at e'
  obtain ⟨rfl,rfl⟩:=Vr e'
  rw [hsub] at hs'
  obtain rfl:=(List.cons.inj hs').1
  exact hh)
 have hfn:fn≤1000:=by have:=hfb.1;omega
 have KS:=((((Hold.start Zc w zn).add (ht.less (by simp [Mut]))).add (hf.less (by simp [Mut,Hp.foot]))).add (hx.less (by simp [Mut,Hp.foot]))).Za #[.int .i64 x.kind,.int .i64 x.op,.bool x.nt,.int .i64 x.v.k,.int .i64 x.v.i,.string x.v.s,.string x.tab,.string x.nm,.slice x.A x.n x.c,.slice x.B x.m x.d] 126
 obtain ⟨gx,hgx⟩:∃ g,g=w.heap.size:=⟨_,rfl⟩
 rw [←hgx] at KS
 rw [hm1,eB] at KS ⊢
 clear hx hg hf ht hfb htb
 go_enter Tryz.func210,Tryz.ntmps210
 go_upto_region 1 with fail
 rw [←hgx]
 have HGX:=hid hgx
 clear hgx
 generalize World.alloc _ _=w1 at KS ⊢
 obtain ⟨q0,q1,q2,q3⟩:=HQC.out _ (KS.ro 1 rfl).now
 have K0:=(KS.add (S:=QuIn d ⟨star,qA,qn,qc,qil,src,qB,qm,qd,qwl⟩) ((KS.ro 1 rfl).imp HQI.out)).Za #[.bool star,.slice qA qn qc,.string src,.slice qB qm qd] 273
 have FS:=KS.facts
 simp only [zg] at FS
 have F0:=K0.facts
 simp only [zg] at F0
 clear KS
 go_wp2_with fail
 obtain ⟨gq,hgq⟩:∃ g,g=w1.heap.size:=⟨_,rfl⟩
 rw [←hgq] at K0 ⊢
 have HGQ:=hid hgq
 clear hgq F0 FS q0 q1 q2 q3
 refine (UL (Mut Zc _) _ K0.Zb tA tn tc tl src (K0.ro 5 rfl) HTB.out.1 HTB.out.2).mono ?_
 rintro e w2 ⟨s,ok,rfl,hsn,hsc,rs,b2⟩
 have K1:=((K0.call b2).add rs).Za #[.string s.nm,.slice s.cols.A s.cols.n s.cols.c] 49
 clear K0 rs b2
 have F1:=K1.facts
 simp only [zg] at F1
 cases ok
 ·go_wp2_with fail
  go_ret2
  exact ⟨_,_,rfl,K1.below⟩
 ·go_wp2_with fail
  obtain ⟨gs,hgs⟩:∃ g,g=w2.heap.size:=⟨_,rfl⟩
  rw [←hgs] at K1 ⊢
  have HGS:=hid hgs
  clear hgs F1
  refine (Ji (Mut Zc _) _ K1.Zb fA fn fc fl s (K1.ro 6 rfl) (K1.ro 1 rfl) hfn).mono ?_
  rintro e w3 ⟨IA,ic,rfl,ri,b3⟩
  have K2:=((K1.call b3).add ri)
  clear K1 ri b3
  have HIB:=hid (show FB d (fn+1) (fl++[(⟨s.nm,false,s.cols,SlP.nil⟩:Fr)]) from ⟨by have:=HFB.out.1;omega,fun f hf=>by
   rcases List.mem_append.1 hf with hf|hf
   ·exact HFB.out.2 f hf
   ·simp only [List.mem_cons,List.not_mem_nil,or_false] at hf
    subst hf
    exact hsn⟩)
  have HIN:=hid (show qil.length=qn from ExsIn.len (K2.ro 4 rfl).now.1)
  have hq8:qn≤8:=by rw [←HIN.out];exact HQG.out.2.1.1
  have F2:=K2.facts
  simp only [zg] at F2
  go_wp2_with fail
  clear F2
  go_loopw [12,37] (fun pv iv wr=>∃ (p:Int) (j:Nat),j≤qn∧pv=.int .i64 p∧iv=.int .i64 j∧Hold Zc none w wr [.ro (FrsIn ⟨IA,fn+1,ic,fl++[⟨s.nm,false,s.cols,SlP.nil⟩]⟩),.cst gq 273 #[.bool star,.slice qA qn qc,.string src,.slice qB qm qd],.ro (QuIn d ⟨star,qA,qn,qc,qil,src,qB,qm,qd,qwl⟩),.cst gx 126 #[.int .i64 x.kind,.int .i64 x.op,.bool x.nt,.int .i64 x.v.k,.int .i64 x.v.i,.string x.v.s,.string x.tab,.string x.nm,.slice x.A x.n x.c,.slice (some ⟨b,o,none⟩) 1 x.d],.ro (TesIn tA tn tl)]) (fun _ iv _=>qn - (intOf iv).toNat)
  case atStart=>exact ⟨1,0,by omega,rfl,rfl,K2.pick [0,3,4,5,8] (by decide) rfl⟩
  case round=>
   clear K2
   obtain ⟨p,j,hj,rfl,rfl,H⟩:=hrel
   by_cases hlt:j<qn
   ·obtain ⟨y,hy⟩:=Yo HIN.out hlt
    obtain ⟨qb,qo,rfl,hb,hc,-⟩:=(show ExsIn d qA qn qil _ from (H.ro 2 rfl).now.1).at_ hy
    have hm:=List.mem_of_getElem? hy
    have x0:=hc 0 _ (by omega) rfl
    have x1:=hc 1 _ (by omega) rfl
    have x2:=hc 2 _ (by omega) rfl
    have x3:=hc 3 _ (by omega) rfl
    have x4:=hc 4 _ (by omega) rfl
    have x5:=hc 5 _ (by omega) rfl
    have x6:=hc 6 _ (by omega) rfl
    have x7:=hc 7 _ (by omega) rfl
    have x8:=hc 8 _ (by omega) rfl
    have x9:=hc 9 _ (by omega) rfl
    simp only [Nat.add_zero] at x0 x1 x2 x3 x4 x5 x6 x7 x8 x9
    clear hc hy
    have K3:=H.Za #[.int .i64 y.kind,.int .i64 y.op,.bool y.nt,.int .i64 y.v.k,.int .i64 y.v.i,.string y.v.s,.string y.tab,.string y.nm,.slice y.A y.n y.c,.slice y.B y.m y.d] 126
    have F3:=K3.facts
    simp only [zg] at F3
    clear H
    go_wp2_with fail
    refine (HT y IA (fn+1) ic (fl++[⟨s.nm,false,s.cols,SlP.nil⟩]) tA tn tc tl _ (((K3.ro 3 rfl).imp fun w2 h2=>h2.1.2 y hm).less zn) (HQG.out.2.2.1 y hm) ((K3.ro 1 rfl).less zn) ((K3.ro 5 rfl).less zn) HIB.out HTB.out).mono ?_
    rintro e w4 ⟨t,cd,rfl,b4⟩
    have K4:=K3.call b4
    clear K3 F3 b4 x0 x1 x2 x3 x4 x5 x6 x7 x8 x9
    obtain ⟨z,hz⟩:∃ z:Bool,(cd !=0)=z:=⟨_,rfl⟩
    cases z
    ·go_wp2_with fail
     go_roundw
     case rel=>exact ⟨t,j+1,by omega,rfl,by go_num,K4.drop (List.sublist_cons_self _ _)⟩
     case measure=>simp [intOf];omega
    ·go_wp2_with fail
     go_ret2
     exact ⟨_,_,rfl,K4.below⟩
   ·obtain rfl:qn=j:=by omega
    have F4:=H.facts
    simp only [zg] at F4
    go_wp2_with fail
    refine (HC qB qm qd qwl IA (fn+1) ic (fl++[⟨s.nm,false,s.cols,SlP.nil⟩]) tA tn tc tl _ (((H.ro 2 rfl).imp fun w2 h2=>(show ExsIn d qB qm qwl w2 from h2.2)).less zn) HQG.out.2.2.2 ((H.ro 0 rfl).less zn) ((H.ro 4 rfl).less zn) HIB.out HTB.out).mono ?_
    rintro e w4 ⟨cd,rfl,b4⟩
    have K4:=H.call b4
    clear H F4 b4
    have F4:=K4.facts
    simp only [zg] at F4
    obtain ⟨z,hz⟩:∃ z:Bool,(cd !=0)=z:=⟨_,rfl⟩
    cases z
    ·obtain ⟨c8,h8⟩:∃ z:Bool,(x.kind==8)=z:=⟨_,rfl⟩
     obtain ⟨c11,h11⟩:∃ z:Bool,(x.kind==11)=z:=⟨_,rfl⟩
     obtain ⟨c12,h12⟩:∃ z:Bool,(x.kind==12)=z:=⟨_,rfl⟩
     obtain ⟨c10,h10⟩:∃ z:Bool,(x.kind==10)=z:=⟨_,rfl⟩
     cases c10
     ·go_wp2_with fail
      all_goals (go_ret2;exact ⟨_,_,rfl,K4.below⟩)
     ·go_wp2_with (go_at_call 165;go_must (refine (Qt _ _ _).mono ?_);rintro e w5 ⟨r,rfl,b5⟩;replace K4:=K4.call b5;clear b5;replace F4:=K4.facts;simp only [zg] at F4)
      all_goals (go_ret2;exact ⟨_,_,rfl,K4.below⟩)
    ·go_wp2_with fail
     go_ret2
     exact ⟨_,_,rfl,K4.below⟩
theorem Tryz.G8:ElemT Tryz.prog 22 3 1 8 (.int .i64 0):=⟨Tryz.underlying22,by kernel_rfl,rfl,by omega⟩
set_option maxHeartbeats 16000000 in
set_option maxRecDepth 100000 in
theorem ZgR {d:Nat} (HT:TY d) (HC:CO d):TY (d+1):=by
 intro x fA fn fc fl tA tn tc tl w hx hg hf ht hfb htb
 have HG:=hid hg
 have HFB:=hid hfb
 have HTB:=hid htb
 have HLN:=hid (show x.args.length=x.n from ExsIn.len hx.now.Zcc)
 have hn3:x.n≤3:=by rw [←HLN.out];exact hg.2.1.2.1
 have HSB:=hid (show x.sub.length=x.m from by
  have h3:Rd w w.heap.size 4 x.B x.m (XK x.sub):=hx.now.2.2.1
  have:=h3.1
  rw [QH] at this
  omega)
 have hm1:x.m≤1:=by rw [←HSB.out];exact hg.2.1.2.2
 have K0:=((((Hold.start Zc w zn).add (ht.less (by simp [Mut]))).add (hf.less (by simp [Mut,Hp.foot]))).add (hx.less (by simp [Mut,Hp.foot]))).Za #[.int .i64 x.kind,.int .i64 x.op,.bool x.nt,.int .i64 x.v.k,.int .i64 x.v.i,.string x.v.s,.string x.tab,.string x.nm,.slice x.A x.n x.c,.slice x.B x.m x.d] 126
 obtain ⟨gx,hgx⟩:∃ g,g=w.heap.size:=⟨_,rfl⟩
 rw [←hgx] at K0
 clear hx hg hf ht hfb htb
 go_enter Tryz.func164,Tryz.ntmps164
 go_upto_region 1 with fail
 rw [←hgx]
 have HGX:=hid hgx
 clear hgx
 generalize World.alloc _ _=w1 at K0 ⊢
 have F0:=K0.facts
 simp only [zg] at F0
 go_wp2_with fail
 refine (Vn (d+1) x _ ((K0.ro 1 rfl).less zn)).mono ?_
 rintro e w2 ⟨r,rfl,b2⟩
 have K1:=K0.call b2
 clear K0 F0 b2
 have F1:=K1.facts
 simp only [zg] at F1
 cases r
 ·go_wp2_with fail
  go_ret2
  exact ⟨_,_,rfl,K1.below⟩
 ·obtain ⟨c1,h1⟩:∃ z:Bool,(x.kind==1)=z:=⟨_,rfl⟩
  obtain ⟨c2,h2⟩:∃ z:Bool,(x.kind==2)=z:=⟨_,rfl⟩
  cases c1
  ·cases c2
   ·by_cases hm0:0<x.m
    ·have hm0i:(0:Int)<x.m:=by omega
     have hm11:=hid (show x.m=1 by omega)
     go_wp2_with fail
     refine (ZcZ HT HC x fA fn fc fl tA tn tc tl _ ((K1.ro 1 rfl).less zn) HG.out hm11.out ((K1.ro 2 rfl).less zn) ((K1.ro 3 rfl).less zn) HFB.out HTB.out).mono ?_
     rintro e w3 ⟨t,cd,rfl,b3⟩
     have K2:=K1.call b3
     clear K1 F1 b3
     go_wp2_with fail
     go_ret2
     exact ⟨_,_,rfl,K2.below⟩
    ·have hm0i:¬(0:Int)<x.m:=by omega
     have KN:=K1.nil 3 1
     clear hm1
     go_wp2_with fail
     clear K1 F1
     obtain ⟨kind,op,nt,v,tab,nm,A,n,c,args,B,m,dd,sub⟩:=x
     go_loopw [11,62] (fun ov iv wr=>∃ (j cap:Nat) (O:Option Addr) (outs:List Int),j≤n∧outs.length=j∧iv=.int .i64 j∧ov=.slice O j cap∧Hold Zc none w wr [.own 3 1 (.slice O j cap) j (tyC outs),.cst gx 126 #[.int .i64 kind,.int .i64 op,.bool nt,.int .i64 v.k,.int .i64 v.i,.string v.s,.string tab,.string nm,.slice A n c,.slice B m dd],.ro (ExIn (d+1) ⟨kind,op,nt,v,tab,nm,A,n,c,args,B,m,dd,sub⟩),.ro (FrsIn ⟨fA,fn,fc,fl⟩),.ro (TesIn tA tn tl)]) (fun _ iv _=>n - (intOf iv).toNat)
     case atStart=>exact ⟨0,0,none,[],by omega,rfl,rfl,rfl,KN⟩
     case round=>
      clear KN
      obtain ⟨j,cap,O,outs,hj,hol,rfl,rfl,H⟩:=hrel
      by_cases hlt:j<n
      ·obtain ⟨y,hy⟩:=Yo HLN.out hlt
       obtain ⟨qb,qo,rfl,hb,hc,-⟩:=(show ExsIn d A n args _ from (H.ro 2 rfl).now.Zcc).at_ hy
       have hm:=List.mem_of_getElem? hy
       have x0:=hc 0 _ (by omega) rfl
       have x1:=hc 1 _ (by omega) rfl
       have x2:=hc 2 _ (by omega) rfl
       have x3:=hc 3 _ (by omega) rfl
       have x4:=hc 4 _ (by omega) rfl
       have x5:=hc 5 _ (by omega) rfl
       have x6:=hc 6 _ (by omega) rfl
       have x7:=hc 7 _ (by omega) rfl
       have x8:=hc 8 _ (by omega) rfl
       have x9:=hc 9 _ (by omega) rfl
       simp only [Nat.add_zero] at x0 x1 x2 x3 x4 x5 x6 x7 x8 x9
       clear hc hy
       have K3:=H.Za #[.int .i64 y.kind,.int .i64 y.op,.bool y.nt,.int .i64 y.v.k,.int .i64 y.v.i,.string y.v.s,.string y.tab,.string y.nm,.slice y.A y.n y.c,.slice y.B y.m y.d] 126
       have F3:=K3.facts
       simp only [zg] at F3
       clear H
       have HOL:=hid hol
       clear hol
       go_wp2_with fail
       refine (HT y fA fn fc fl tA tn tc tl _ (((K3.ro 3 rfl).imp fun w2 h2=>h2.2.1 y hm).less zn) (HG.out.2.2.1 y hm) ((K3.ro 4 rfl).less zn) ((K3.ro 5 rfl).less zn) (show FB d fn fl from ⟨by have:=HFB.out.1;omega,HFB.out.2⟩) HTB.out).mono ?_
       rintro e w4 ⟨t,cd,rfl,b4⟩
       have K4:=K3.call b4
       clear K3 F3 b4 x0 x1 x2 x3 x4 x5 x6 x7 x8 x9
       obtain ⟨z,hz⟩:∃ z:Bool,(cd !=0)=z:=⟨_,rfl⟩
       cases z
       ·go_wp2_with (at_builtin;go_must (refine ZH K4 1 rfl Tryz.G8 #[.int .i64 t] rfl (.tmp 76) (.tmp 78) rfl rfl _ (by first|rfl|simp) rfl rfl (by intro u hu;simp at hu;rcases hu with rfl;rfl) (by omega) (by omega) ?_);intro gA capA wA hcA hmA KA;rw [show tyC outs++(#[.int .i64 t]:Array Value).toList=tyC (outs++[t]) by simp [tyC]] at KA;simp only [zl] at KA)
        go_roundw
        case rel=>exact ⟨j+1,capA,_,outs++[t],by omega,by simp [HOL.out],by go_num,by first|rfl|trivial,KA.drop (List.sublist_cons_self _ _)⟩
        case measure=>simp [intOf];omega
       ·go_wp2_with fail
        go_ret2
        exact ⟨_,_,rfl,K4.below⟩
      ·obtain rfl:n=j:=by omega
       have KZ:=H.Zu 0 rfl
       simp only [List.set_cons_zero] at KZ
       have F4:=KZ.facts
       simp only [zg] at F4
       go_wp2_with fail
       refine (ZhQ ⟨kind,op,nt,v,tab,nm,A,n,c,args,B,m,dd,sub⟩ O n cap outs _ ((KZ.ro 0 rfl).less zn) (by omega)).mono ?_
       rintro e w4 ⟨t,cd,rfl,b4⟩
       have K4:=KZ.call b4
       clear KZ H F4 b4
       go_wp2_with fail
       go_ret2
       exact ⟨_,_,rfl,K4.below⟩
   ·go_wp2_with fail
    refine (ZeM fA fn fc fl x.tab x.nm _ ((K1.ro 2 rfl).less zn) (by have:=HFB.out.1;omega) HFB.out.2).mono ?_
    rintro e w3 ⟨i,k,ok,rfl,hok,b3⟩
    have K2:=K1.call b3
    clear K1 F1 b3
    cases ok
    ·go_wp2_with fail
     go_ret2
     exact ⟨_,_,rfl,K2.below⟩
    ·obtain ⟨⟨fnm,fst,⟨cA,cn,cc,cl⟩,⟨vA,vn,vc,vl⟩⟩,cx,hfi,hck⟩:=hok rfl
     have hfl:fl.length=fn:=FrsIn.len (K2.ro 2 rfl).now
     have hi:i<fn:=by rw [←hfl];exact (List.getElem?_eq_some_iff.1 hfi).1
     obtain ⟨b,o,rfl,hb,hcl,hfin⟩:=FrsIn.at_ (K2.ro 2 rfl).now hfi
     have f2:=hcl 2 _ (by omega) rfl
     simp only [SlP.v] at f2
     obtain ⟨b2,o2,rfl,hb2,-,e1,-,-⟩:=(RdC.Zy (show SlR 4 cA cn (Zd cl) _ from hfin.cols)).at_ hck
     have hcl2:cl.length=cn:=(RdC.Zy (show SlR 4 _ cn (Zd cl) _ from hfin.cols)).len
     have hk:k<cn:=by rw [←hcl2];exact (List.getElem?_eq_some_iff.1 hck).1
     have hii:(i:Int)<fn:=by omega
     have hkk:(k:Int)<cn:=by omega
     have HB:=hid K2.below
     clear hcl hfin hfi hck hfl hcl2 hok
     go_wp2_with fail
     go_ret2
     exact ⟨_,_,rfl,HB.out⟩
  ·go_wp2_with fail
   go_ret2
   exact ⟨_,_,rfl,K1.below⟩
theorem Vt:∀ d:Nat,TY d
 | 0=>fun x _ _ _ _ _ _ _ _ _ hx hg=>hg.elim
 | d+1=>ZgR (Vt d) (Za5 (Vt d))
theorem JY (d:Nat):CO d:=Za5 (Vt d)
theorem GI {α:Type} (p:α→Bool) (l:List α) (h:0≤Zi p l):Zi p l<l.length:=by
 have h2:=find_range p l
 rcases l with _|⟨x,l⟩
 ·have:Zi p ([]:List α)=-1:=WY (k:=0) rfl (Nat.le_refl _)
  omega
 ·simp only [List.length_cons] at h2 ⊢
  omega
def Zdb (w:World) (M:Nat→Prop) (e:Ending) (w' :World):Prop:=∃ (A:Option Addr) (n c:Nat) (l:List Int) (cd:Int),e=.returned (.tuple #[.slice A n c,.int .i64 cd])∧n≤1000∧Ro w' M (SlR 1 A n (tyC l))∧Below w.heap.size w w'
set_option maxHeartbeats 16000000 in
set_option maxRecDepth 100000 in
theorem Zgg (d:Nat) (M:Nat→Prop) (w:World) (hM:∀ b,M b→b<w.heap.size) (q:Qu) (fA:Option Addr) (fn fc:Nat) (fl:List Fr) (tA:Option Addr) (tn tc:Nat) (tl:List Te) (hx:Ro w M (QuIn d q)) (hg:QuGd d q) (hf:Ro w M (FrsIn ⟨fA,fn,fc,fl⟩)) (ht:Ro w M (TesIn tA tn tl)) (hfb:FB (d+1) fn fl) (htb:TBd tn tl):Calls Tryz.prog 235 #[.agg #[.bool q.star,.slice q.A q.n q.c,.string q.src,.slice q.B q.m q.d],.slice fA fn fc,.slice tA tn tc] w fun e w' =>Zdb w M e w' :=by
 obtain ⟨star,qA,qn,qc,qil,src,qB,qm,qd,qwl⟩:=q
 have HQG:=hid hg
 have HFB:=hid hfb
 have HTB:=hid htb
 have hfn:fn≤1000:=by have:=hfb.1;omega
 have K0:=((((Hold.start M w hM).add (ht.less (by simp [Mut]))).add (hf.less (by simp [Mut,Hp.foot]))).add (hx.less (by simp [Mut,Hp.foot]))).Za #[.bool star,.slice qA qn qc,.string src,.slice qB qm qd] 273
 obtain ⟨gq,hgq⟩:∃ g,g=w.heap.size:=⟨_,rfl⟩
 rw [←hgq] at K0
 clear hx hg hf ht hfb htb
 go_enter Tryz.func235,Tryz.ntmps235
 go_upto_region 1 with fail
 rw [←hgq]
 have HGX:=hid hgq
 clear hgq
 generalize World.alloc _ _=w1 at K0 ⊢
 have F0:=K0.facts
 simp only [zg] at F0
 go_wp2_with fail
 clear F0
 refine (UL (Mut M _) _ K0.Zb tA tn tc tl src (K0.ro 3 rfl) HTB.out.1 HTB.out.2).mono ?_
 rintro e w2 ⟨s,ok,rfl,hsn,hsc,rs,b2⟩
 have K1:=((K0.call b2).add rs).Za #[.string s.nm,.slice s.cols.A s.cols.n s.cols.c] 49
 clear K0 rs b2
 have F1:=K1.facts
 simp only [zg] at F1
 cases ok
 ·go_wp2_with fail
  go_ret2
  exact ⟨none,0,0,[],_,rfl,by omega,fun w2 _ _=>ZE 1 w2,K1.below⟩
 ·go_wp2_with fail
  obtain ⟨gs,hgs⟩:∃ g,g=w2.heap.size:=⟨_,rfl⟩
  rw [←hgs] at K1 ⊢
  have HGS:=hid hgs
  clear hgs F1
  refine (Ji (Mut M _) _ K1.Zb fA fn fc fl s (K1.ro 4 rfl) (K1.ro 1 rfl) hfn).mono ?_
  rintro e w3 ⟨IA,ic,rfl,ri,b3⟩
  have K2:=((K1.call b3).add ri)
  clear K1 ri b3
  have HIB:=hid (show FB d (fn+1) (fl++[(⟨s.nm,false,s.cols,SlP.nil⟩:Fr)]) from ⟨by have:=HFB.out.1;omega,fun f hf=>by
   rcases List.mem_append.1 hf with hf|hf
   ·exact HFB.out.2 f hf
   ·simp only [List.mem_cons,List.not_mem_nil,or_false] at hf
    subst hf
    exact hsn⟩)
  have HIN:=hid (show qil.length=qn from ExsIn.len (show ExsIn d qA qn qil _ from (K2.ro 4 rfl).now.1))
  have hq8:qn≤8:=by rw [←HIN.out];exact HQG.out.2.1.1
  obtain ⟨snm,⟨cA,cn,cc,cl⟩⟩:=s
  have hsn:cn≤1000:=hsn
  have K3:Hold M none w _ [.own 3 1 (.slice none 0 0) 0 (tyC []),.cst gs 49 #[.string snm,.slice cA cn cc],.ro (SlR 4 cA cn (Zd cl)),.cst gq 273 #[.bool star,.slice qA qn qc,.string src,.slice qB qm qd],.ro (QuIn d ⟨star,qA,qn,qc,qil,src,qB,qm,qd,qwl⟩),.ro (FrsIn ⟨IA,fn+1,ic,fl++[⟨snm,false,⟨cA,cn,cc,cl⟩,SlP.nil⟩]⟩),.ro (TesIn tA tn tl)]:=((K2.add (S:=SlR 4 cA cn (Zd cl)) ((K2.ro 2 rfl).imp fun w2 h2=>h2.1)).nil 3 1).pick [0,3,1,5,6,2,8] (by decide) rfl
  have HCL:=hid (show cl.length=cn from (RdC.Zy (K3.ro 2 rfl).now).len)
  clear K2
  have F3:=K3.facts
  simp only [zg] at F3
  go_upto_if 32 with (fail)
  go_cut [11] (fun v wx=>∃ (j cap:Nat) (O:Option Addr) (outs:List Int),v=.slice O j cap∧j≤1000∧Hold M none w wx [.own 3 1 (.slice O j cap) j (tyC outs),.cst gq 273 #[.bool star,.slice qA qn qc,.string src,.slice qB qm qd],.ro (QuIn d ⟨star,qA,qn,qc,qil,src,qB,qm,qd,qwl⟩),.ro (FrsIn ⟨IA,fn+1,ic,fl++[⟨snm,false,⟨cA,cn,cc,cl⟩,SlP.nil⟩]⟩),.ro (TesIn tA tn tl)])
  case first=>
   cases star
   ·go_wp2_with fail
    clear F3
    go_loopw [11,49] (fun ov iv wr=>∃ (j cap:Nat) (O:Option Addr) (outs:List Int),j≤qn∧iv=.int .i64 j∧ov=.slice O j cap∧Hold M none w wr [.own 3 1 (.slice O j cap) j (tyC outs),.cst gs 49 #[.string snm,.slice cA cn cc],.ro (SlR 4 cA cn (Zd cl)),.cst gq 273 #[.bool false,.slice qA qn qc,.string src,.slice qB qm qd],.ro (QuIn d ⟨false,qA,qn,qc,qil,src,qB,qm,qd,qwl⟩),.ro (FrsIn ⟨IA,fn+1,ic,fl++[⟨snm,false,⟨cA,cn,cc,cl⟩,SlP.nil⟩]⟩),.ro (TesIn tA tn tl)]) (fun _ iv _=>qn - (intOf iv).toNat)
    case atStart=>exact ⟨0,0,none,[],by omega,rfl,rfl,K3⟩
    case round=>
     clear K3
     obtain ⟨j,cap,O,outs,hj,rfl,rfl,H⟩:=hrel
     by_cases hlt:j<qn
     ·obtain ⟨y,hy⟩:=Yo HIN.out hlt
      obtain ⟨qb,qo,rfl,hb,hc,-⟩:=(show ExsIn d qA qn qil _ from (H.ro 4 rfl).now.1).at_ hy
      have hm:=List.mem_of_getElem? hy
      have x0:=hc 0 _ (by omega) rfl
      have x1:=hc 1 _ (by omega) rfl
      have x2:=hc 2 _ (by omega) rfl
      have x3:=hc 3 _ (by omega) rfl
      have x4:=hc 4 _ (by omega) rfl
      have x5:=hc 5 _ (by omega) rfl
      have x6:=hc 6 _ (by omega) rfl
      have x7:=hc 7 _ (by omega) rfl
      have x8:=hc 8 _ (by omega) rfl
      have x9:=hc 9 _ (by omega) rfl
      simp only [Nat.add_zero] at x0 x1 x2 x3 x4 x5 x6 x7 x8 x9
      clear hc hy
      have K3:=H.Za #[.int .i64 y.kind,.int .i64 y.op,.bool y.nt,.int .i64 y.v.k,.int .i64 y.v.i,.string y.v.s,.string y.tab,.string y.nm,.slice y.A y.n y.c,.slice y.B y.m y.d] 126
      have F3:=K3.facts
      simp only [zg] at F3
      clear H
      go_wp2_with fail
      refine (Vt d y IA (fn+1) ic (fl++[⟨snm,false,⟨cA,cn,cc,cl⟩,SlP.nil⟩]) tA tn tc tl _ (((K3.ro 5 rfl).imp fun w2 h2=>h2.1.2 y hm).less zn) (HQG.out.2.2.1 y hm) ((K3.ro 6 rfl).less zn) ((K3.ro 7 rfl).less zn) HIB.out HTB.out).mono ?_
      rintro e w4 ⟨t,cd,rfl,b4⟩
      have K4:=K3.call b4
      clear K3 F3 b4 x0 x1 x2 x3 x4 x5 x6 x7 x8 x9
      obtain ⟨z,hz⟩:∃ z:Bool,(cd !=0)=z:=⟨_,rfl⟩
      cases z
      ·go_wp2_with (at_builtin;go_must (refine ZH K4 1 rfl Tryz.G8 #[.int .i64 t] rfl (.tmp 63) (.tmp 65) rfl rfl _ (by first|rfl|simp) rfl rfl (by intro u hu;simp at hu;rcases hu with rfl;rfl) (by omega) (by omega) ?_);intro gA capA wA hcA hmA KA;rw [show tyC outs++(#[.int .i64 t]:Array Value).toList=tyC (outs++[t]) by simp [tyC]] at KA;simp only [zl] at KA)
       go_roundw
       case rel=>exact ⟨j+1,capA,_,outs++[t],by omega,by go_num,by first|rfl|trivial,KA.drop (List.sublist_cons_self _ _)⟩
       case measure=>simp [intOf];omega
      ·go_wp2_with fail
       go_ret2
       exact ⟨none,0,0,[],_,rfl,by omega,fun w2 _ _=>ZE 1 w2,K4.below⟩
     ·obtain rfl:qn=j:=by omega
      go_wp2_with fail
      go_meet
      exact ⟨_,_,_,_,rfl,by omega,H.pick [0,3,4,5,6] (by decide) rfl⟩
   ·go_wp2_with fail
    clear F3
    go_loopw [11,36] (fun ov iv wr=>∃ (j cap:Nat) (O:Option Addr) (outs:List Int),j≤cn∧iv=.int .i64 j∧ov=.slice O j cap∧Hold M none w wr [.own 3 1 (.slice O j cap) j (tyC outs),.cst gs 49 #[.string snm,.slice cA cn cc],.ro (SlR 4 cA cn (Zd cl)),.cst gq 273 #[.bool true,.slice qA qn qc,.string src,.slice qB qm qd],.ro (QuIn d ⟨true,qA,qn,qc,qil,src,qB,qm,qd,qwl⟩),.ro (FrsIn ⟨IA,fn+1,ic,fl++[⟨snm,false,⟨cA,cn,cc,cl⟩,SlP.nil⟩]⟩),.ro (TesIn tA tn tl)]) (fun _ iv _=>cn - (intOf iv).toNat)
    case atStart=>exact ⟨0,0,none,[],by omega,rfl,rfl,K3⟩
    case round=>
     clear K3
     obtain ⟨j,cap,O,outs,hj,rfl,rfl,H⟩:=hrel
     by_cases hlt:j<cn
     ·obtain ⟨⟨xnm,xty,xnn,xkey⟩,hcx⟩:=YA HCL.out hlt
      obtain ⟨b2,o2,rfl,hb2,x0,x1,x2,x3⟩:=(RdC.Zy (H.ro 2 rfl).now).at_ hcx
      simp only at x0 x1 x2 x3
      clear hcx
      have K4:=H.Za #[.string xnm,.int .i64 xty,.bool xnn,.bool xkey] 158
      have F4:=K4.facts
      simp only [zg] at F4
      clear H
      go_wp2_with (at_builtin;go_must (refine ZH K4 1 rfl Tryz.G8 #[.int .i64 xty] rfl (.tmp 40) (.tmp 43) rfl rfl _ (by first|rfl|simp) rfl rfl (by intro u hu;simp at hu;rcases hu with rfl;rfl) (by omega) (by omega) ?_);intro gA capA wA hcA hmA KA;rw [show tyC outs++(#[.int .i64 xty]:Array Value).toList=tyC (outs++[xty]) by simp [tyC]] at KA;simp only [zl] at KA)
      go_roundw
      case rel=>exact ⟨j+1,capA,_,outs++[xty],by omega,by go_num,by first|rfl|trivial,KA.drop (List.sublist_cons_self _ _)⟩
      case measure=>simp [intOf];omega
     ·obtain rfl:cn=j:=by omega
      go_wp2_with fail
      go_meet
      exact ⟨_,_,_,_,rfl,by omega,H.pick [0,3,4,5,6] (by decide) rfl⟩
  case rest=>
   obtain ⟨j,cap,O,outs,rfl,hj,K4⟩:=hcut
   clear K3 F3
   have KZ:=K4.Zu 0 rfl
   simp only [List.set_cons_zero] at KZ
   have FZ:=KZ.facts
   simp only [zg] at FZ
   clear K4
   go_wp2_with fail
   refine (JY d qB qm qd qwl IA (fn+1) ic (fl++[⟨snm,false,⟨cA,cn,cc,cl⟩,SlP.nil⟩]) tA tn tc tl _ (((KZ.ro 2 rfl).imp fun w2 h2=>(show ExsIn d qB qm qwl w2 from h2.2)).less zn) HQG.out.2.2.2 ((KZ.ro 3 rfl).less zn) ((KZ.ro 4 rfl).less zn) HIB.out HTB.out).mono ?_
   rintro e w4 ⟨cd,rfl,b4⟩
   have K5:=KZ.call b4
   have HR:=hid ((K5.ro 0 rfl).less zm)
   have HB:=hid K5.below
   clear KZ FZ b4 K5
   obtain ⟨z,hz⟩:∃ z:Bool,(cd !=0)=z:=⟨_,rfl⟩
   cases z
   ·go_wp2_with fail
    go_ret2
    exact ⟨O,j,cap,outs,_,rfl,hj,HR.out,HB.out⟩
   ·go_wp2_with fail
    go_ret2
    exact ⟨none,0,0,[],_,rfl,by omega,fun w2 _ _=>ZE 1 w2,HB.out⟩
end Go.Proofs.YtnbbllkbefagmaaGreatDoor

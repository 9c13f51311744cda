import Derived.Test.YtnbbllkbefagmaaGreatDoorRkCtsSaidMI
import Derived.Test.YtnbbllkbefagmaaGreatDoorRkCtsSaidMG
import Derived.Test.YtnbbllkbefagmaaGreatDoorRkCtsSaidMD
namespace Go.Proofs.YtnbbllkbefagmaaGreatDoor
open Go.RowKit
set_option linter.unusedVariables false
set_option linter.unusedSimpArgs false
set_option maxRecDepth 100000 in
set_option maxHeartbeats 16000000 in
theorem Zc4 {m:Nat} (HE:GE m):GC (m+1):=by
 intro M T w hM ht hMT p depth hp hW hT hB hd hd2
 obtain ⟨⟨fA,fn,fc,fl⟩,⟨sA,sn,sc,sl⟩⟩:=p
 have KS:=((((Hold.YY M w T hM ht hMT).add hW).add (hp.less (by simp [ZG,Mut,Hp.foot]))).Za #[.slice fA fn fc,.slice sA sn sc] 177).alloc #[.int .i64 0,.int .i64 0,.bool false,.int .i64 0,.int .i64 0,.string ⟨#[]⟩,.string ⟨#[]⟩,.string ⟨#[]⟩,.slice none 0 0,.slice none 0 0] 126
 rw [World.size_alloc] at KS
 obtain ⟨gp,hgp⟩:∃ g,g=w.heap.size:=⟨_,rfl⟩
 rw [←hgp] at KS
 obtain ⟨gr,hgr⟩:∃ g,g=gp+1:=⟨_,rfl⟩
 rw [←hgr] at KS
 have HBE:=hid (show PlN m ⟨⟨fA,fn,fc,fl⟩,⟨sA,sn,sc,sl⟩⟩ from ⟨hB.b,by have:=hB.n;omega,fun _=>trivial⟩)
 have hm90:m≤90:=by have:=hB.n;omega
 simp only [Pl.val]
 clear hp hW hB
 go_enter Tryz.func156,Tryz.ntmps156
 go_wp2_with fail
 rw [←hgp]
 try rw [←hgr]
 have HG:=hid (And.intro hgp hgr)
 clear hgp hgr
 refine (ZQ T 3 _ (KS.tp_ 4 rfl) (by omega) (by omega)).mono ?_
 rintro e w1 ⟨s,rfl,s0,s1,t1,g1⟩
 have K1:=Hold.Zf KS 4 rfl g1 t1
 clear KS g1 t1
 have hws:IntKind.i64.wrap (1+s)=1+s:=IntWalk.i64_in _ (by omega)
 have hs1:IntKind.i64.wrap (depth - 1)=depth - 1:=IntWalk.i64_in _ (by omega)
 go_wp2_with fail
 refine (ZQ T 6 _ (K1.tp_ 4 rfl) (by omega) (by omega)).mono ?_
 rintro e w2 ⟨r,rfl,r0,r1,t2,g2⟩
 have K5:=Hold.Zf K1 4 rfl g2 t2
 clear K1 g2 t2
 have F5:=K5.facts
 simp only [zg] at F5
 by_cases hr0:r=0
 ·subst hr0
  go_wp2_with fail
  refine (HE (Mut M _) T _ K5.Zc (K5.tp_ 4 rfl) (K5.get 4 rfl).2 ⟨⟨fA,fn,fc,fl⟩,⟨sA,sn,sc,sl⟩⟩ 2 (depth - 1) ((K5.ro 2 rfl).less (Zj (i:=4) rfl)) ((K5.ro 3 rfl).less (Zj (i:=4) rfl)) hT HBE.out (by omega) (by omega)).mono ?_
  rintro e w5 ⟨x,rfl,hx,rx,tY,gY⟩
  have K4:=(Hold.Zf K5 4 rfl gY tY).add rx
  clear F5 K5 rx tY gY
  have HOK:=hid (fun g:Nat=>YE (d:=m+2) (kind:=3) (op:=0) (nt:=false) (g:=g) (k:=1) (l:=[x]) (Zo 3 (by decide)) (Zo 0 (by decide)) (by omega) (fun z hz=>by
   simp only [List.mem_cons,List.not_mem_nil,or_false] at hz
   subst hz
   exact hx))
  have K7:=K4.Za #[.int .i64 x.kind,.int .i64 x.op,.bool x.nt,.int .i64 x.v.k,.int .i64 x.v.i,.string x.v.s,.string x.tab,.string x.nm,.slice x.A x.n x.c,.slice x.B x.m x.d] 126
  rw [show x.val=.agg #[.int .i64 x.kind,.int .i64 x.op,.bool x.nt,.int .i64 x.v.k,.int .i64 x.v.i,.string x.v.s,.string x.tab,.string x.nm,.slice x.A x.n x.c,.slice x.B x.m x.d] from rfl]
  have F7:=K7.facts
  simp only [zg] at F7
  have K8:=((((((((((K7.store 2 rfl 0 (.int .i64 3)).store 2 rfl 1 (.int .i64 0)).store 2 rfl 2 (.bool false)).store 2 rfl 3 (.int .i64 0)).store 2 rfl 4 (.int .i64 0)).store 2 rfl 5 (.string ⟨#[]⟩)).store 2 rfl 6 (.string ⟨#[]⟩)).store 2 rfl 7 (.string ⟨#[]⟩)).store 2 rfl 8 (.slice (some ⟨w5.heap.size,0,none⟩) 1 1)).store 2 rfl 9 (.slice none 0 0))
  simp only [zl] at K8
  have F8:=K8.facts
  simp only [zg] at F8
  have hE1:Ro _ _ (ExsIn (m+2) (some ⟨w5.heap.size,0,none⟩) 1 [x]):=XC (l:=[x]) (K8.get 0 rfl) rfl (fun z hz=>by
     simp only [List.mem_cons,List.not_mem_nil,or_false] at hz
     subst hz
     exact K8.ro 1 rfl)
  have HR:=hid ((hE1.imp (S' :=ExIn (m+2+1) (opE 3 0 false w5.heap.size 1 [x])) fun w2 h2=>W9 h2).less zm)
  have HT:=hid (And.intro (K8.tp_ 6 rfl) K8.grow)
  clear K7 K8 hE1
  go_wp2_with fail
  refine bodyPost_ret (v:=.agg #[.int .i64 3,.int .i64 0,.bool false,.int .i64 0,.int .i64 0,.string ⟨#[]⟩,.string ⟨#[]⟩,.string ⟨#[]⟩,.slice (some ⟨w5.heap.size,0,none⟩) 1 1,.slice none 0 0]) ?_ rfl ?_
  ·clear HT HR HOK
   simp [results,Tryz.results156,go_sem,F8]
  ·exact ⟨opE 3 0 false w5.heap.size 1 [x],rfl,HOK.out _,HR.out,HT.out.1,HT.out.2⟩
 ·by_cases hr1:r=1
  ·subst hr1
   obtain ⟨KL,hKL⟩:∃ KL:List Hp,KL=[.blk gr 126 #[.int .i64 0,.int .i64 0,.bool false,.int .i64 0,.int .i64 0,.string ⟨#[]⟩,.string ⟨#[]⟩,.string ⟨#[]⟩,.slice none 0 0,.slice none 0 0],.cst gp 177 #[.slice fA fn fc,.slice sA sn sc],.ro (Zg ⟨⟨fA,fn,fc,fl⟩,⟨sA,sn,sc,sl⟩⟩),.ro Wds,.tp T]:=⟨_,rfl⟩
   have hcast:∀ (L1:List Hp) (wz:World),Hold M (some T) w wz L1→L1=KL→Hold M (some T) w wz KL:=fun _ _ h e=>e ▸ h
   have K6:=hcast _ _ K5 hKL.symm
   have H1:∀ wv:World,Hold M (some T) w wv KL→Blk wv gp 177 #[.slice fA fn fc,.slice sA sn sc]:=fun wv h=>by rw [hKL] at h;exact h.ZB 1 rfl
   have H2:∀ wv:World,Hold M (some T) w wv KL→Ro wv (Mut M KL) (Zg ⟨⟨fA,fn,fc,fl⟩,⟨sA,sn,sc,sl⟩⟩)∧Ro wv (Mut M KL) Wds∧Tp wv T∧∀ b,(Mut M KL) b→T≤b:=fun wv h=>by rw [hKL] at h ⊢;exact ⟨h.ro 2 rfl,h.ro 3 rfl,h.tp_ 4 rfl,(h.get 4 rfl).2⟩
   have h4:KL[4]? =some (.tp T):=by rw [hKL];rfl
   have HH1:=hid H1
   have HH2:=hid H2
   have HH4:=hid h4
   have HKL:=hid hKL
   clear hKL hcast H1 H2 h4 K5
   go_wp2_with fail
   clear F5
   refine wp_region_any (by kernel_rfl) ?_
   refine ZH 13 85 (KL) (spL [(25,fun u _=>Z6 2 u),(31,Zh (Mut M KL) (m+2)),(36,Zh (Mut M KL) (m+2))]) (by kernel_rfl) (by kernel_rfl) (by kernel_rfl) rfl ?_ (K6.drew) ?_
   ·exact Ze (fun _ _ _ _ h=>h) (Ze Z7 (Ze Z7 (ZF _)))
   simp only [zd,Act.put,List.getElem_toArray,List.getElem_cons_zero,List.getElem_cons_succ,zl]
   refine' dv rfl rfl rfl (fun wv HC=>?_) ?_;rotate_left
   · go_simp<;>rfl
   simp only [Act.put,zl]
   refine Yk 2 4 HH4.out 25 rfl rfl rfl rfl (fun wv=>?_) (fun r hr=>?_)
   ·go_simp<;>rfl
   have r6:(r:Int)<2:=by omega
   have r0:(0:Int)≤(r:Int):=by omega
   have hwr:IntKind.i64.wrap (1+(r:Int))=1+r:=IntWalk.i64_in _ (by omega)
   simp only [Act.put,zl]
   repeat (refine' dv rfl rfl rfl (fun wv HC=>?_) ?_;rotate_left;(focus (obtain q0:=(HH1.out _ HC).cell 0;obtain q1:=(HH1.out _ HC).cell 1;go_simp<;>rfl;done));simp only [Act.put,zl])
   refine Zq 31 (Zh (Mut M KL) (m+2)) (f:=99) (args:=#[.pointer (some ⟨T,0,none⟩),.agg #[.slice fA fn fc,.slice sA sn sc],.int .i64 2,.int .i64 (depth - 1)]) rfl rfl rfl rfl (fun wv=>?_) (fun wv HC hrm hD=>?_) ?_
   ·go_simp<;>rfl
   ·obtain ⟨X0,X1,X2,X3⟩:=HH2.out _ HC
    refine (HE (Mut M KL) T wv HC.Zc X2 X3 ⟨⟨fA,fn,fc,fl⟩,⟨sA,sn,sc,sl⟩⟩ 2 (depth - 1) (X0.less (Zj HH4.out)) (X1.less (Zj HH4.out)) hT HBE.out (by omega) (by omega)).mono ?_
    rintro e w5 ⟨x,rfl,hx,rx,t5,g5⟩
    exact ⟨_,rfl,⟨x,rfl,hx,rx⟩,Hold.Zf HC 4 HH4.out g5 t5,RM.grown g5 (.inr ⟨_,List.mem_of_getElem? HH4.out,rfl⟩)⟩
   rintro u wx HCx ⟨x,rfl,hx,rx⟩
   clear HCx hx rx
   simp only [Act.put,zl]
   repeat (refine' dv rfl rfl rfl (fun wv HC=>?_) ?_;rotate_left;(focus (obtain q0:=(HH1.out _ HC).cell 0;obtain q1:=(HH1.out _ HC).cell 1;go_simp<;>rfl;done));simp only [Act.put,zl])
   refine Zq 36 (Zh (Mut M KL) (m+2)) (f:=99) (args:=#[.pointer (some ⟨T,0,none⟩),.agg #[.slice fA fn fc,.slice sA sn sc],.int .i64 2,.int .i64 (depth - 1)]) rfl rfl rfl rfl (fun wv=>?_) (fun wv HC hrm hD=>?_) ?_
   ·go_simp<;>rfl
   ·obtain ⟨X0,X1,X2,X3⟩:=HH2.out _ HC
    refine (HE (Mut M KL) T wv HC.Zc X2 X3 ⟨⟨fA,fn,fc,fl⟩,⟨sA,sn,sc,sl⟩⟩ 2 (depth - 1) (X0.less (Zj HH4.out)) (X1.less (Zj HH4.out)) hT HBE.out (by omega) (by omega)).mono ?_
    rintro e w5 ⟨x,rfl,hx,rx,t5,g5⟩
    exact ⟨_,rfl,⟨x,rfl,hx,rx⟩,Hold.Zf HC 4 HH4.out g5 t5,RM.grown g5 (.inr ⟨_,List.mem_of_getElem? HH4.out,rfl⟩)⟩
   rintro u wx HCx ⟨x2,rfl,hx,rx⟩
   clear HCx hx rx
   simp only [Act.put,zl]
   refine ZE ?_
   rintro wx2 HX
   rintro _hrm HG
   have hu:Zh (Mut M KL) (m+2) x.val wx2:=(Zp (d:=31) rfl).1 (HG 7 _ rfl (by omega))
   have hu2:Zh (Mut M KL) (m+2) x2.val wx2:=(Zp (d:=36) rfl).1 (HG 12 _ rfl (by omega))
   clear HG _hrm
   obtain ⟨y1,hy1,hok1,hro1⟩:=hu
   obtain ⟨y2,hy2,hok2,hro2⟩:=hu2
   rw [HKL.out] at HX hro1 hro2
   have HYA:=hid (YE (d:=m+2) (kind:=5) (op:=1+(r:Int)) (nt:=false) (g:=0) (k:=2) (l:=[y1,y2]) (Zo 5 (by decide)) (show I64 _ from ⟨by omega,by omega⟩) (by omega) (fun z hz=>by
    simp only [List.mem_cons,List.not_mem_nil,or_false] at hz
    rcases hz with rfl|rfl
    ·exact hok1
    ·exact hok2))
   clear hok1 hok2
   rw [hy1,hy2]
   clear hy1 hy2 x x2
   rw [show y1.val=.agg #[.int .i64 y1.kind,.int .i64 y1.op,.bool y1.nt,.int .i64 y1.v.k,.int .i64 y1.v.i,.string y1.v.s,.string y1.tab,.string y1.nm,.slice y1.A y1.n y1.c,.slice y1.B y1.m y1.d] from rfl]
   rw [show y2.val=.agg #[.int .i64 y2.kind,.int .i64 y2.op,.bool y2.nt,.int .i64 y2.v.k,.int .i64 y2.v.i,.string y2.v.s,.string y2.tab,.string y2.nm,.slice y2.A y2.n y2.c,.slice y2.B y2.m y2.d] from rfl]
   go_wp2_with fail
   refine (Xj (Mut M _) _ HX.Zc (1+r) y1 y2 (m+2) hro1 hro2).mono ?_
   rintro e w6 ⟨g6,rfl,ry,b6⟩
   have HYB:=hid (show ExGd (m+1+2) (opE 5 (1+r) false g6 2 [y1,y2]) from HYA.out)
   generalize opE 5 (1+(r:Int)) false g6 2 [y1,y2]=y at *
   have HY:=HYB
   have KC:Hold M (some T) w w6 [.blk gr 126 #[.int .i64 0,.int .i64 0,.bool false,.int .i64 0,.int .i64 0,.string ⟨#[]⟩,.string ⟨#[]⟩,.string ⟨#[]⟩,.slice none 0 0,.slice none 0 0],.cst gp 177 #[.slice fA fn fc,.slice sA sn sc],.ro (Zg ⟨⟨fA,fn,fc,fl⟩,⟨sA,sn,sc,sl⟩⟩),.ro Wds,.tp T,.ro (ExIn (m+2+1) y)]:=((HX.call b6).add ry).pick [1,2,3,4,5,0] (by decide) rfl
   clear HX hro1 hro2 ry b6 HYA HYB
   rw [show y.val=.agg #[.int .i64 y.kind,.int .i64 y.op,.bool y.nt,.int .i64 y.v.k,.int .i64 y.v.i,.string y.v.s,.string y.tab,.string y.nm,.slice y.A y.n y.c,.slice y.B y.m y.d] from rfl]
   have F9:=KC.facts
   simp only [zg] at F9
   have KA:=((((((((((KC.store 0 rfl 0 (.int .i64 y.kind)).store 0 rfl 1 (.int .i64 y.op)).store 0 rfl 2 (.bool y.nt)).store 0 rfl 3 (.int .i64 y.v.k)).store 0 rfl 4 (.int .i64 y.v.i)).store 0 rfl 5 (.string y.v.s)).store 0 rfl 6 (.string y.tab)).store 0 rfl 7 (.string y.nm)).store 0 rfl 8 (.slice y.A y.n y.c)).store 0 rfl 9 (.slice y.B y.m y.d))
   simp only [zl] at KA
   have FA:=KA.facts
   simp only [zg] at FA
   have HR:=hid ((KA.ro 5 rfl).less zm)
   have HT:=hid (And.intro (KA.tp_ 4 rfl) KA.grow)
   clear KC KA
   go_wp2_with fail
   refine bodyPost_ret (v:=.agg #[.int .i64 y.kind,.int .i64 y.op,.bool y.nt,.int .i64 y.v.k,.int .i64 y.v.i,.string y.v.s,.string y.tab,.string y.nm,.slice y.A y.n y.c,.slice y.B y.m y.d]) ?_ rfl ?_
   ·clear HT HR
    simp [results,Tryz.results156,go_sem,FA]
   ·exact ⟨y,rfl,HY.out.le (by omega),HR.out.imp (fun w2 h2=>h2.le (by omega)),HT.out.1,HT.out.2⟩
  ·by_cases hr2:r=2
   ·subst hr2
    obtain ⟨KL,hKL⟩:∃ KL:List Hp,KL=[.blk gr 126 #[.int .i64 0,.int .i64 0,.bool false,.int .i64 0,.int .i64 0,.string ⟨#[]⟩,.string ⟨#[]⟩,.string ⟨#[]⟩,.slice none 0 0,.slice none 0 0],.cst gp 177 #[.slice fA fn fc,.slice sA sn sc],.ro (Zg ⟨⟨fA,fn,fc,fl⟩,⟨sA,sn,sc,sl⟩⟩),.ro Wds,.tp T]:=⟨_,rfl⟩
    have hcast:∀ (L1:List Hp) (wz:World),Hold M (some T) w wz L1→L1=KL→Hold M (some T) w wz KL:=fun _ _ h e=>e ▸ h
    have K6:=hcast _ _ K5 hKL.symm
    have H1:∀ wv:World,Hold M (some T) w wv KL→Blk wv gp 177 #[.slice fA fn fc,.slice sA sn sc]:=fun wv h=>by rw [hKL] at h;exact h.ZB 1 rfl
    have H2:∀ wv:World,Hold M (some T) w wv KL→Ro wv (Mut M KL) (Zg ⟨⟨fA,fn,fc,fl⟩,⟨sA,sn,sc,sl⟩⟩)∧Ro wv (Mut M KL) Wds∧Tp wv T∧∀ b,(Mut M KL) b→T≤b:=fun wv h=>by rw [hKL] at h ⊢;exact ⟨h.ro 2 rfl,h.ro 3 rfl,h.tp_ 4 rfl,(h.get 4 rfl).2⟩
    have h4:KL[4]? =some (.tp T):=by rw [hKL];rfl
    have HH1:=hid H1
    have HH2:=hid H2
    have HH4:=hid h4
    have HKL:=hid hKL
    clear hKL hcast H1 H2 h4 K5
    go_wp2_with fail
    clear F5
    refine wp_region_any (by kernel_rfl) ?_
    refine ZH 8 85 (KL) (spL [(41,Jj),(47,Zh (Mut M KL) (m+2))]) (by kernel_rfl) (by kernel_rfl) (by kernel_rfl) rfl ?_ (K6.drew) ?_
    ·exact Ze (fun _ _ _ _ h=>h) (Ze Z7 (ZF _))
    simp only [zd,Act.put,List.getElem_toArray,List.getElem_cons_zero,List.getElem_cons_succ,zl]
    refine' dv rfl rfl rfl (fun wv HC=>?_) ?_;rotate_left
    · go_simp<;>rfl
    simp only [Act.put,zl]
    refine Zdg 2 4 HH4.out 41 rfl rfl rfl rfl (fun wv=>?_) (fun bb=>?_)
    ·go_simp<;>rfl
    simp only [Act.put,zl]
    repeat (refine' dv rfl rfl rfl (fun wv HC=>?_) ?_;rotate_left;(focus (obtain q0:=(HH1.out _ HC).cell 0;obtain q1:=(HH1.out _ HC).cell 1;go_simp<;>rfl;done));simp only [Act.put,zl])
    refine Zq 47 (Zh (Mut M KL) (m+2)) (f:=99) (args:=#[.pointer (some ⟨T,0,none⟩),.agg #[.slice fA fn fc,.slice sA sn sc],.int .i64 (1+s),.int .i64 (depth - 1)]) rfl rfl rfl rfl (fun wv=>?_) (fun wv HC hrm hD=>?_) ?_
    ·go_simp<;>rfl
    ·obtain ⟨X0,X1,X2,X3⟩:=HH2.out _ HC
     refine (HE (Mut M KL) T wv HC.Zc X2 X3 ⟨⟨fA,fn,fc,fl⟩,⟨sA,sn,sc,sl⟩⟩ (1+s) (depth - 1) (X0.less (Zj HH4.out)) (X1.less (Zj HH4.out)) hT HBE.out (by omega) (by omega)).mono ?_
     rintro e w5 ⟨x,rfl,hx,rx,t5,g5⟩
     exact ⟨_,rfl,⟨x,rfl,hx,rx⟩,Hold.Zf HC 4 HH4.out g5 t5,RM.grown g5 (.inr ⟨_,List.mem_of_getElem? HH4.out,rfl⟩)⟩
    rintro u wx HCx ⟨x,rfl,hx,rx⟩
    clear HCx hx rx
    simp only [Act.put,zl]
    refine ZE ?_
    rintro wx2 HX
    rintro _hrm HG
    have hu:Zh (Mut M KL) (m+2) x.val wx2:=(Zp (d:=47) rfl).1 (HG 7 _ rfl (by omega))
    clear HG _hrm
    obtain ⟨y1,hy1,hok1,hro1⟩:=hu
    rw [HKL.out] at HX hro1
    rw [hy1]
    clear hy1 x
    have K4:=HX.add hro1
    clear HX hro1
    have HOK:=hid (fun g:Nat=>YE (d:=m+2) (kind:=6) (op:=0) (nt:=bb) (g:=g) (k:=1) (l:=[y1]) (Zo 6 (by decide)) (Zo 0 (by decide)) (by omega) (fun z hz=>by
     simp only [List.mem_cons,List.not_mem_nil,or_false] at hz
     subst hz
     exact hok1))
    have K7:=K4.Za #[.int .i64 y1.kind,.int .i64 y1.op,.bool y1.nt,.int .i64 y1.v.k,.int .i64 y1.v.i,.string y1.v.s,.string y1.tab,.string y1.nm,.slice y1.A y1.n y1.c,.slice y1.B y1.m y1.d] 126
    rw [show y1.val=.agg #[.int .i64 y1.kind,.int .i64 y1.op,.bool y1.nt,.int .i64 y1.v.k,.int .i64 y1.v.i,.string y1.v.s,.string y1.tab,.string y1.nm,.slice y1.A y1.n y1.c,.slice y1.B y1.m y1.d] from rfl]
    have F7:=K7.facts
    simp only [zg] at F7
    have K8:=((((((((((K7.store 2 rfl 0 (.int .i64 6)).store 2 rfl 1 (.int .i64 0)).store 2 rfl 2 (.bool bb)).store 2 rfl 3 (.int .i64 0)).store 2 rfl 4 (.int .i64 0)).store 2 rfl 5 (.string ⟨#[]⟩)).store 2 rfl 6 (.string ⟨#[]⟩)).store 2 rfl 7 (.string ⟨#[]⟩)).store 2 rfl 8 (.slice (some ⟨wx2.heap.size,0,none⟩) 1 1)).store 2 rfl 9 (.slice none 0 0))
    simp only [zl] at K8
    have F8:=K8.facts
    simp only [zg] at F8
    have hE1:Ro _ _ (ExsIn (m+2) (some ⟨wx2.heap.size,0,none⟩) 1 [y1]):=XC (l:=[y1]) (K8.get 0 rfl) rfl (fun z hz=>by
       simp only [List.mem_cons,List.not_mem_nil,or_false] at hz
       subst hz
       exact K8.ro 1 rfl)
    have HR:=hid ((hE1.imp (S' :=ExIn (m+2+1) (opE 6 0 bb wx2.heap.size 1 [y1])) fun w2 h2=>W9 h2).less zm)
    have HT:=hid (And.intro (K8.tp_ 6 rfl) K8.grow)
    clear K7 K8 hE1
    go_wp2_with fail
    refine bodyPost_ret (v:=.agg #[.int .i64 6,.int .i64 0,.bool bb,.int .i64 0,.int .i64 0,.string ⟨#[]⟩,.string ⟨#[]⟩,.string ⟨#[]⟩,.slice (some ⟨wx2.heap.size,0,none⟩) 1 1,.slice none 0 0]) ?_ rfl ?_
    ·clear HT HR HOK
     simp [results,Tryz.results156,go_sem,F8]
    ·exact ⟨opE 6 0 bb wx2.heap.size 1 [y1],rfl,HOK.out _,HR.out,HT.out.1,HT.out.2⟩
   ·by_cases hr3:r=3
    ·subst hr3
     obtain ⟨KL,hKL⟩:∃ KL:List Hp,KL=[.blk gr 126 #[.int .i64 0,.int .i64 0,.bool false,.int .i64 0,.int .i64 0,.string ⟨#[]⟩,.string ⟨#[]⟩,.string ⟨#[]⟩,.slice none 0 0,.slice none 0 0],.cst gp 177 #[.slice fA fn fc,.slice sA sn sc],.ro (Zg ⟨⟨fA,fn,fc,fl⟩,⟨sA,sn,sc,sl⟩⟩),.ro Wds,.tp T]:=⟨_,rfl⟩
     have hcast:∀ (L1:List Hp) (wz:World),Hold M (some T) w wz L1→L1=KL→Hold M (some T) w wz KL:=fun _ _ h e=>e ▸ h
     have K6:=hcast _ _ K5 hKL.symm
     have H1:∀ wv:World,Hold M (some T) w wv KL→Blk wv gp 177 #[.slice fA fn fc,.slice sA sn sc]:=fun wv h=>by rw [hKL] at h;exact h.ZB 1 rfl
     have H2:∀ wv:World,Hold M (some T) w wv KL→Ro wv (Mut M KL) (Zg ⟨⟨fA,fn,fc,fl⟩,⟨sA,sn,sc,sl⟩⟩)∧Ro wv (Mut M KL) Wds∧Tp wv T∧∀ b,(Mut M KL) b→T≤b:=fun wv h=>by rw [hKL] at h ⊢;exact ⟨h.ro 2 rfl,h.ro 3 rfl,h.tp_ 4 rfl,(h.get 4 rfl).2⟩
     have h4:KL[4]? =some (.tp T):=by rw [hKL];rfl
     have HH1:=hid H1
     have HH2:=hid H2
     have HH4:=hid h4
     have HKL:=hid hKL
     clear hKL hcast H1 H2 h4 K5
     go_wp2_with fail
     clear F5
     refine wp_region_any (by kernel_rfl) ?_
     refine ZH 15 85 (KL) (spL [(56,Zh (Mut M KL) (m+2)),(61,Zh (Mut M KL) (m+2)),(66,Zh (Mut M KL) (m+2))]) (by kernel_rfl) (by kernel_rfl) (by kernel_rfl) rfl ?_ (K6.drew) ?_
     ·exact Ze Z7 (Ze Z7 (Ze Z7 (ZF _)))
     simp only [zd,Act.put,List.getElem_toArray,List.getElem_cons_zero,List.getElem_cons_succ,zl]
     repeat (refine' dv rfl rfl rfl (fun wv HC=>?_) ?_;rotate_left;(focus (obtain q0:=(HH1.out _ HC).cell 0;obtain q1:=(HH1.out _ HC).cell 1;go_simp<;>rfl;done));simp only [Act.put,zl])
     refine Zq 56 (Zh (Mut M KL) (m+2)) (f:=99) (args:=#[.pointer (some ⟨T,0,none⟩),.agg #[.slice fA fn fc,.slice sA sn sc],.int .i64 1,.int .i64 (depth - 1)]) rfl rfl rfl rfl (fun wv=>?_) (fun wv HC hrm hD=>?_) ?_
     ·go_simp<;>rfl
     ·obtain ⟨X0,X1,X2,X3⟩:=HH2.out _ HC
      refine (HE (Mut M KL) T wv HC.Zc X2 X3 ⟨⟨fA,fn,fc,fl⟩,⟨sA,sn,sc,sl⟩⟩ 1 (depth - 1) (X0.less (Zj HH4.out)) (X1.less (Zj HH4.out)) hT HBE.out (by omega) (by omega)).mono ?_
      rintro e w5 ⟨x,rfl,hx,rx,t5,g5⟩
      exact ⟨_,rfl,⟨x,rfl,hx,rx⟩,Hold.Zf HC 4 HH4.out g5 t5,RM.grown g5 (.inr ⟨_,List.mem_of_getElem? HH4.out,rfl⟩)⟩
     rintro u wx HCx ⟨x,rfl,hx,rx⟩
     clear HCx hx rx
     simp only [Act.put,zl]
     repeat (refine' dv rfl rfl rfl (fun wv HC=>?_) ?_;rotate_left;(focus (obtain q0:=(HH1.out _ HC).cell 0;obtain q1:=(HH1.out _ HC).cell 1;go_simp<;>rfl;done));simp only [Act.put,zl])
     refine Zq 61 (Zh (Mut M KL) (m+2)) (f:=99) (args:=#[.pointer (some ⟨T,0,none⟩),.agg #[.slice fA fn fc,.slice sA sn sc],.int .i64 1,.int .i64 (depth - 1)]) rfl rfl rfl rfl (fun wv=>?_) (fun wv HC hrm hD=>?_) ?_
     ·go_simp<;>rfl
     ·obtain ⟨X0,X1,X2,X3⟩:=HH2.out _ HC
      refine (HE (Mut M KL) T wv HC.Zc X2 X3 ⟨⟨fA,fn,fc,fl⟩,⟨sA,sn,sc,sl⟩⟩ 1 (depth - 1) (X0.less (Zj HH4.out)) (X1.less (Zj HH4.out)) hT HBE.out (by omega) (by omega)).mono ?_
      rintro e w5 ⟨x,rfl,hx,rx,t5,g5⟩
      exact ⟨_,rfl,⟨x,rfl,hx,rx⟩,Hold.Zf HC 4 HH4.out g5 t5,RM.grown g5 (.inr ⟨_,List.mem_of_getElem? HH4.out,rfl⟩)⟩
     rintro u wx HCx ⟨x2,rfl,hx,rx⟩
     clear HCx hx rx
     simp only [Act.put,zl]
     repeat (refine' dv rfl rfl rfl (fun wv HC=>?_) ?_;rotate_left;(focus (obtain q0:=(HH1.out _ HC).cell 0;obtain q1:=(HH1.out _ HC).cell 1;go_simp<;>rfl;done));simp only [Act.put,zl])
     refine Zq 66 (Zh (Mut M KL) (m+2)) (f:=99) (args:=#[.pointer (some ⟨T,0,none⟩),.agg #[.slice fA fn fc,.slice sA sn sc],.int .i64 1,.int .i64 (depth - 1)]) rfl rfl rfl rfl (fun wv=>?_) (fun wv HC hrm hD=>?_) ?_
     ·go_simp<;>rfl
     ·obtain ⟨X0,X1,X2,X3⟩:=HH2.out _ HC
      refine (HE (Mut M KL) T wv HC.Zc X2 X3 ⟨⟨fA,fn,fc,fl⟩,⟨sA,sn,sc,sl⟩⟩ 1 (depth - 1) (X0.less (Zj HH4.out)) (X1.less (Zj HH4.out)) hT HBE.out (by omega) (by omega)).mono ?_
      rintro e w5 ⟨x,rfl,hx,rx,t5,g5⟩
      exact ⟨_,rfl,⟨x,rfl,hx,rx⟩,Hold.Zf HC 4 HH4.out g5 t5,RM.grown g5 (.inr ⟨_,List.mem_of_getElem? HH4.out,rfl⟩)⟩
     rintro u wx HCx ⟨x3,rfl,hx,rx⟩
     clear HCx hx rx
     simp only [Act.put,zl]
     refine ZE ?_
     rintro wx2 HX
     rintro _hrm HG
     have hu:Zh (Mut M KL) (m+2) x.val wx2:=(Zp (d:=56) rfl).1 (HG 4 _ rfl (by omega))
     have hu2:Zh (Mut M KL) (m+2) x2.val wx2:=(Zp (d:=61) rfl).1 (HG 9 _ rfl (by omega))
     have hu3:Zh (Mut M KL) (m+2) x3.val wx2:=(Zp (d:=66) rfl).1 (HG 14 _ rfl (by omega))
     clear HG _hrm
     obtain ⟨y1,hy1,hok1,hro1⟩:=hu
     obtain ⟨y2,hy2,hok2,hro2⟩:=hu2
     obtain ⟨y3,hy3,hok3,hro3⟩:=hu3
     rw [HKL.out] at HX hro1 hro2 hro3
     rw [hy1,hy2,hy3]
     clear hy1 hy2 hy3 x x2 x3
     have K4:=((HX.add hro1).add (hro2.less (by intro b hb;simpa [Mut,Hp.foot] using hb))).add (hro3.less (by intro b hb;simpa [Mut,Hp.foot] using hb))
     clear HX hro1 hro2 hro3
     have HOK:=hid (fun g:Nat=>YE (d:=m+2) (kind:=7) (op:=0) (nt:=false) (g:=g) (k:=3) (l:=[y1,y2,y3]) (Zo 7 (by decide)) (Zo 0 (by decide)) (by omega) (fun z hz=>by
      simp only [List.mem_cons,List.not_mem_nil,or_false] at hz
      rcases hz with rfl|rfl|rfl
      ·exact hok1
      ·exact hok2
      ·exact hok3))
     have K7:=K4.Za #[.int .i64 y1.kind,.int .i64 y1.op,.bool y1.nt,.int .i64 y1.v.k,.int .i64 y1.v.i,.string y1.v.s,.string y1.tab,.string y1.nm,.slice y1.A y1.n y1.c,.slice y1.B y1.m y1.d,.int .i64 y2.kind,.int .i64 y2.op,.bool y2.nt,.int .i64 y2.v.k,.int .i64 y2.v.i,.string y2.v.s,.string y2.tab,.string y2.nm,.slice y2.A y2.n y2.c,.slice y2.B y2.m y2.d,.int .i64 y3.kind,.int .i64 y3.op,.bool y3.nt,.int .i64 y3.v.k,.int .i64 y3.v.i,.string y3.v.s,.string y3.tab,.string y3.nm,.slice y3.A y3.n y3.c,.slice y3.B y3.m y3.d] 126
     rw [show y1.val=.agg #[.int .i64 y1.kind,.int .i64 y1.op,.bool y1.nt,.int .i64 y1.v.k,.int .i64 y1.v.i,.string y1.v.s,.string y1.tab,.string y1.nm,.slice y1.A y1.n y1.c,.slice y1.B y1.m y1.d] from rfl]
     rw [show y2.val=.agg #[.int .i64 y2.kind,.int .i64 y2.op,.bool y2.nt,.int .i64 y2.v.k,.int .i64 y2.v.i,.string y2.v.s,.string y2.tab,.string y2.nm,.slice y2.A y2.n y2.c,.slice y2.B y2.m y2.d] from rfl]
     rw [show y3.val=.agg #[.int .i64 y3.kind,.int .i64 y3.op,.bool y3.nt,.int .i64 y3.v.k,.int .i64 y3.v.i,.string y3.v.s,.string y3.tab,.string y3.nm,.slice y3.A y3.n y3.c,.slice y3.B y3.m y3.d] from rfl]
     have F7:=K7.facts
     simp only [zg] at F7
     have K8:=((((((((((K7.store 4 rfl 0 (.int .i64 7)).store 4 rfl 1 (.int .i64 0)).store 4 rfl 2 (.bool false)).store 4 rfl 3 (.int .i64 0)).store 4 rfl 4 (.int .i64 0)).store 4 rfl 5 (.string ⟨#[]⟩)).store 4 rfl 6 (.string ⟨#[]⟩)).store 4 rfl 7 (.string ⟨#[]⟩)).store 4 rfl 8 (.slice (some ⟨wx2.heap.size,0,none⟩) 3 3)).store 4 rfl 9 (.slice none 0 0))
     simp only [zl] at K8
     have F8:=K8.facts
     simp only [zg] at F8
     have hE1:Ro _ _ (ExsIn (m+2) (some ⟨wx2.heap.size,0,none⟩) 3 [y1,y2,y3]):=XC (l:=[y1,y2,y3]) (K8.get 0 rfl) rfl (fun z hz=>by
        simp only [List.mem_cons,List.not_mem_nil,or_false] at hz
        rcases hz with rfl|rfl|rfl
        ·exact K8.ro 3 rfl
        ·exact K8.ro 2 rfl
        ·exact K8.ro 1 rfl)
     have HR:=hid ((hE1.imp (S' :=ExIn (m+2+1) (opE 7 0 false wx2.heap.size 3 [y1,y2,y3])) fun w2 h2=>W9 h2).less zm)
     have HT:=hid (And.intro (K8.tp_ 8 rfl) K8.grow)
     clear K7 K8 hE1
     go_wp2_with fail
     refine bodyPost_ret (v:=.agg #[.int .i64 7,.int .i64 0,.bool false,.int .i64 0,.int .i64 0,.string ⟨#[]⟩,.string ⟨#[]⟩,.string ⟨#[]⟩,.slice (some ⟨wx2.heap.size,0,none⟩) 3 3,.slice none 0 0]) ?_ rfl ?_
     ·clear HT HR HOK
      simp [results,Tryz.results156,go_sem,F8]
     ·exact ⟨opE 7 0 false wx2.heap.size 3 [y1,y2,y3],rfl,HOK.out _,HR.out,HT.out.1,HT.out.2⟩
    ·have hb0:(r==0)=false:=by simpa using hr0
     have hb1:(r==1)=false:=by simpa using hr1
     have hb2:(r==2)=false:=by simpa using hr2
     have hb3:(r==3)=false:=by simpa using hr3
     obtain ⟨KL,hKL⟩:∃ KL:List Hp,KL=[.blk gr 126 #[.int .i64 0,.int .i64 0,.bool false,.int .i64 0,.int .i64 0,.string ⟨#[]⟩,.string ⟨#[]⟩,.string ⟨#[]⟩,.slice none 0 0,.slice none 0 0],.cst gp 177 #[.slice fA fn fc,.slice sA sn sc],.ro (Zg ⟨⟨fA,fn,fc,fl⟩,⟨sA,sn,sc,sl⟩⟩),.ro Wds,.tp T]:=⟨_,rfl⟩
     have hcast:∀ (L1:List Hp) (wz:World),Hold M (some T) w wz L1→L1=KL→Hold M (some T) w wz KL:=fun _ _ h e=>e ▸ h
     have K6:=hcast _ _ K5 hKL.symm
     have H1:∀ wv:World,Hold M (some T) w wv KL→Blk wv gp 177 #[.slice fA fn fc,.slice sA sn sc]:=fun wv h=>by rw [hKL] at h;exact h.ZB 1 rfl
     have H2:∀ wv:World,Hold M (some T) w wv KL→Ro wv (Mut M KL) (Zg ⟨⟨fA,fn,fc,fl⟩,⟨sA,sn,sc,sl⟩⟩)∧Ro wv (Mut M KL) Wds∧Tp wv T∧∀ b,(Mut M KL) b→T≤b:=fun wv h=>by rw [hKL] at h ⊢;exact ⟨h.ro 2 rfl,h.ro 3 rfl,h.tp_ 4 rfl,(h.get 4 rfl).2⟩
     have h4:KL[4]? =some (.tp T):=by rw [hKL];rfl
     have HH1:=hid H1
     have HH2:=hid H2
     have HH4:=hid h4
     have HKL:=hid hKL
     clear hKL hcast H1 H2 h4 K5
     go_wp2_with fail
     clear F5
     refine wp_region_any (by kernel_rfl) ?_
     refine ZH 15 85 (KL) (spL [(70,fun u _=>Z6 6 u),(77,Zh (Mut M KL) (m+2)),(83,Zh (Mut M KL) (m+2))]) (by kernel_rfl) (by kernel_rfl) (by kernel_rfl) rfl ?_ (K6.drew) ?_
     ·exact Ze (fun _ _ _ _ h=>h) (Ze Z7 (Ze Z7 (ZF _)))
     simp only [zd,Act.put,List.getElem_toArray,List.getElem_cons_zero,List.getElem_cons_succ,zl]
     refine' dv rfl rfl rfl (fun wv HC=>?_) ?_;rotate_left
     · go_simp<;>rfl
     simp only [Act.put,zl]
     refine Yk 6 4 HH4.out 70 rfl rfl rfl rfl (fun wv=>?_) (fun r hr=>?_)
     ·go_simp<;>rfl
     have r6:(r:Int)<6:=by omega
     have r0:(0:Int)≤(r:Int):=by omega
     have hwr:IntKind.i64.wrap (3+(r:Int))=3+r:=IntWalk.i64_in _ (by omega)
     simp only [Act.put,zl]
     repeat (refine' dv rfl rfl rfl (fun wv HC=>?_) ?_;rotate_left;(focus (obtain q0:=(HH1.out _ HC).cell 0;obtain q1:=(HH1.out _ HC).cell 1;go_simp<;>rfl;done));simp only [Act.put,zl])
     refine Zq 77 (Zh (Mut M KL) (m+2)) (f:=99) (args:=#[.pointer (some ⟨T,0,none⟩),.agg #[.slice fA fn fc,.slice sA sn sc],.int .i64 (1+s),.int .i64 (depth - 1)]) rfl rfl rfl rfl (fun wv=>?_) (fun wv HC hrm hD=>?_) ?_
     ·go_simp<;>rfl
     ·obtain ⟨X0,X1,X2,X3⟩:=HH2.out _ HC
      refine (HE (Mut M KL) T wv HC.Zc X2 X3 ⟨⟨fA,fn,fc,fl⟩,⟨sA,sn,sc,sl⟩⟩ (1+s) (depth - 1) (X0.less (Zj HH4.out)) (X1.less (Zj HH4.out)) hT HBE.out (by omega) (by omega)).mono ?_
      rintro e w5 ⟨x,rfl,hx,rx,t5,g5⟩
      exact ⟨_,rfl,⟨x,rfl,hx,rx⟩,Hold.Zf HC 4 HH4.out g5 t5,RM.grown g5 (.inr ⟨_,List.mem_of_getElem? HH4.out,rfl⟩)⟩
     rintro u wx HCx ⟨x,rfl,hx,rx⟩
     clear HCx hx rx
     simp only [Act.put,zl]
     repeat (refine' dv rfl rfl rfl (fun wv HC=>?_) ?_;rotate_left;(focus (obtain q0:=(HH1.out _ HC).cell 0;obtain q1:=(HH1.out _ HC).cell 1;go_simp<;>rfl;done));simp only [Act.put,zl])
     refine Zq 83 (Zh (Mut M KL) (m+2)) (f:=99) (args:=#[.pointer (some ⟨T,0,none⟩),.agg #[.slice fA fn fc,.slice sA sn sc],.int .i64 (1+s),.int .i64 (depth - 1)]) rfl rfl rfl rfl (fun wv=>?_) (fun wv HC hrm hD=>?_) ?_
     ·go_simp<;>rfl
     ·obtain ⟨X0,X1,X2,X3⟩:=HH2.out _ HC
      refine (HE (Mut M KL) T wv HC.Zc X2 X3 ⟨⟨fA,fn,fc,fl⟩,⟨sA,sn,sc,sl⟩⟩ (1+s) (depth - 1) (X0.less (Zj HH4.out)) (X1.less (Zj HH4.out)) hT HBE.out (by omega) (by omega)).mono ?_
      rintro e w5 ⟨x,rfl,hx,rx,t5,g5⟩
      exact ⟨_,rfl,⟨x,rfl,hx,rx⟩,Hold.Zf HC 4 HH4.out g5 t5,RM.grown g5 (.inr ⟨_,List.mem_of_getElem? HH4.out,rfl⟩)⟩
     rintro u wx HCx ⟨x2,rfl,hx,rx⟩
     clear HCx hx rx
     simp only [Act.put,zl]
     refine ZE ?_
     rintro wx2 HX
     rintro _hrm HG
     have hu:Zh (Mut M KL) (m+2) x.val wx2:=(Zp (d:=77) rfl).1 (HG 8 _ rfl (by omega))
     have hu2:Zh (Mut M KL) (m+2) x2.val wx2:=(Zp (d:=83) rfl).1 (HG 14 _ rfl (by omega))
     clear HG _hrm
     obtain ⟨y1,hy1,hok1,hro1⟩:=hu
     obtain ⟨y2,hy2,hok2,hro2⟩:=hu2
     rw [HKL.out] at HX hro1 hro2
     have HYA:=hid (YE (d:=m+2) (kind:=5) (op:=3+(r:Int)) (nt:=false) (g:=0) (k:=2) (l:=[y1,y2]) (Zo 5 (by decide)) (show I64 _ from ⟨by omega,by omega⟩) (by omega) (fun z hz=>by
      simp only [List.mem_cons,List.not_mem_nil,or_false] at hz
      rcases hz with rfl|rfl
      ·exact hok1
      ·exact hok2))
     clear hok1 hok2
     rw [hy1,hy2]
     clear hy1 hy2 x x2
     rw [show y1.val=.agg #[.int .i64 y1.kind,.int .i64 y1.op,.bool y1.nt,.int .i64 y1.v.k,.int .i64 y1.v.i,.string y1.v.s,.string y1.tab,.string y1.nm,.slice y1.A y1.n y1.c,.slice y1.B y1.m y1.d] from rfl]
     rw [show y2.val=.agg #[.int .i64 y2.kind,.int .i64 y2.op,.bool y2.nt,.int .i64 y2.v.k,.int .i64 y2.v.i,.string y2.v.s,.string y2.tab,.string y2.nm,.slice y2.A y2.n y2.c,.slice y2.B y2.m y2.d] from rfl]
     go_wp2_with fail
     refine (Xj (Mut M _) _ HX.Zc (3+r) y1 y2 (m+2) hro1 hro2).mono ?_
     rintro e w6 ⟨g6,rfl,ry,b6⟩
     have HYB:=hid (show ExGd (m+1+2) (opE 5 (3+r) false g6 2 [y1,y2]) from HYA.out)
     generalize opE 5 (3+(r:Int)) false g6 2 [y1,y2]=y at *
     have HY:=HYB
     have KC:Hold M (some T) w w6 [.blk gr 126 #[.int .i64 0,.int .i64 0,.bool false,.int .i64 0,.int .i64 0,.string ⟨#[]⟩,.string ⟨#[]⟩,.string ⟨#[]⟩,.slice none 0 0,.slice none 0 0],.cst gp 177 #[.slice fA fn fc,.slice sA sn sc],.ro (Zg ⟨⟨fA,fn,fc,fl⟩,⟨sA,sn,sc,sl⟩⟩),.ro Wds,.tp T,.ro (ExIn (m+2+1) y)]:=((HX.call b6).add ry).pick [1,2,3,4,5,0] (by decide) rfl
     clear HX hro1 hro2 ry b6 HYA HYB
     rw [show y.val=.agg #[.int .i64 y.kind,.int .i64 y.op,.bool y.nt,.int .i64 y.v.k,.int .i64 y.v.i,.string y.v.s,.string y.tab,.string y.nm,.slice y.A y.n y.c,.slice y.B y.m y.d] from rfl]
     have F9:=KC.facts
     simp only [zg] at F9
     have KA:=((((((((((KC.store 0 rfl 0 (.int .i64 y.kind)).store 0 rfl 1 (.int .i64 y.op)).store 0 rfl 2 (.bool y.nt)).store 0 rfl 3 (.int .i64 y.v.k)).store 0 rfl 4 (.int .i64 y.v.i)).store 0 rfl 5 (.string y.v.s)).store 0 rfl 6 (.string y.tab)).store 0 rfl 7 (.string y.nm)).store 0 rfl 8 (.slice y.A y.n y.c)).store 0 rfl 9 (.slice y.B y.m y.d))
     simp only [zl] at KA
     have FA:=KA.facts
     simp only [zg] at FA
     have HR:=hid ((KA.ro 5 rfl).less zm)
     have HT:=hid (And.intro (KA.tp_ 4 rfl) KA.grow)
     clear KC KA
     go_wp2_with fail
     refine bodyPost_ret (v:=.agg #[.int .i64 y.kind,.int .i64 y.op,.bool y.nt,.int .i64 y.v.k,.int .i64 y.v.i,.string y.v.s,.string y.tab,.string y.nm,.slice y.A y.n y.c,.slice y.B y.m y.d]) ?_ rfl ?_
     ·clear HT HR
      simp [results,Tryz.results156,go_sem,FA]
     ·exact ⟨y,rfl,HY.out.le (by omega),HR.out.imp (fun w2 h2=>h2.le (by omega)),HT.out.1,HT.out.2⟩
theorem JY {m:Nat} {p:Pl} (h:PlN (m+1) p) {s:Sm} (hs:s∈p.tb.l) {A:Option Addr} {c:Nat} (hc:p.fr.n+1≤c):PlN m (p.more s A c):=by
 have hn:=h.n
 refine ⟨⟨⟨hc,?_⟩,h.b.t,fun f hf=>?_,h.b.tc⟩,?_,fun _=>trivial⟩
 ·show p.fr.n+1≤100
  omega
 ·rcases List.mem_append.1 hf with hf|hf
  ·exact h.b.fc f hf
  ·simp only [List.mem_singleton] at hf
   subst hf
   exact h.b.tc s hs
 ·show p.fr.n+1+m≤90
  omega
theorem SmsIn.len {s:SlP Sm} {w:World} (h:SmsIn s w):s.l.length=s.n:=SlP.In.len (s:=s) (k:=2) (cel:=Sm.cells) (P:=ZK) h (by omega) (fun _=>rfl)
theorem SmsIn.at_ {s:SlP Sm} {w:World} (h:SmsIn s w) {k:Nat} {x:Sm} (hx:s.l[k]? =some x):
  ∃ b o,s.A=some ⟨b,o,none⟩∧b<w.heap.size∧(∀ j u,j<2→x.cells[j]? =some u→w.cell? ⟨b,o+k * 2+j,none⟩=some u)∧ZK x w:=SlP.In.at_ (s:=s) (k:=2) (cel:=Sm.cells) (P:=ZK) h (by omega) (fun _=>rfl) hx
def Z0 (d:Nat) (s:SlP Ex) (w:World):Prop:=s.In 10 Ex.cells (ExIn d) w
theorem XD {d g:Nat} {x:Ex} {M:Nat→Prop} {w:World} {t:TypeId} {cs:Array Value} (h:Ro w M (fun w=>w.heap[g]? =some (.cells cs t (0,0)))) (hl:cs.toList=Zl [x]) (hr:Ro w M (ExIn d x)):Ro w M (Z0 d ⟨some ⟨g,0,none⟩,1,1,[x]⟩):=
 XC (l:=[x]) h hl (fun z hz=>by
  simp only [List.mem_cons,List.not_mem_nil,or_false] at hz
  subst hz
  exact hr)
def XR (d:Nat) (s:SlP Ex):Prop:=(s.n≤s.c∧s.c≤9223372036854775807)∧s.l.length≤1∧∀ x∈s.l,ExGd d x
theorem Vn {d g:Nat} {x:Ex} (h:ExGd d x):XR d (⟨some ⟨g,0,none⟩,1,1,[x]⟩:SlP Ex):=⟨⟨Nat.le_refl _,by simp⟩,by simp,fun z hz=>by
 simp only [List.mem_cons,List.not_mem_nil,or_false] at hz
 subst hz
 exact h⟩
theorem Vs {d:Nat}:XR d (SlP.nil:SlP Ex):=⟨⟨Nat.le_refl _,by simp [SlP.nil]⟩,by simp [SlP.nil],fun z hz=>(nomatch hz)⟩
def quE (kind:Int) (g:Nat) (q:Qu):Ex:=⟨kind,0,false,vlZ,⟨#[]⟩,⟨#[]⟩,none,0,0,[],some ⟨g,0,none⟩,1,1,[q]⟩
def Wp (star:Bool) (it:SlP Ex) (nm:ByteArray) (wh:SlP Ex):Qu:=⟨star,it.A,it.n,it.c,it.l,nm,wh.A,wh.n,wh.c,wh.l⟩
theorem Zcr {d:Nat} {kind:Int} {g:Nat} {star:Bool} {it wh:SlP Ex} {nm:ByteArray} (hk:I64 kind) (hk1:1≤kind) (h1:XR d it) (h2:XR d wh):ExGd (d+1) (quE kind g (Wp star it nm wh)):=by
 refine ⟨⟨hk,Zo 0 (by decide),Zo 0 (by decide),Zo 0 (by decide),Nat.le_refl _,by simp [quE],Nat.le_refl _,by simp [quE]⟩,⟨hk1,by simp [quE],by simp [quE]⟩,fun a ha=>(nomatch ha),fun q hq=>?_⟩
 have hq:q∈[Wp star it nm wh]:=hq
 simp only [List.mem_cons,List.not_mem_nil,or_false] at hq
 subst hq
 have h3:=h1.2.1
 exact ⟨⟨h1.1.1,h1.1.2,h2.1.1,h2.1.2⟩,⟨by show it.l.length≤8;omega,h2.2.1⟩,h1.2.2,h2.2.2⟩
theorem ZgA {d:Nat} {kind:Int} {g:Nat} {star:Bool} {it wh:SlP Ex} {nm:ByteArray} {w:World} (h:SlR 4 (some ⟨g,0,none⟩) 1 (Qu.cells (Wp star it nm wh)) w) (h1:Z0 d it w) (h2:Z0 d wh w):ExIn (d+1) (quE kind g (Wp star it nm wh)) w:=by
 refine ⟨ZR 10 w,fun a ha=>(nomatch ha),?_,fun q hq=>?_⟩
 ·show SlR 4 (some ⟨g,0,none⟩) 1 (YU [Wp star it nm wh]) w
  simpa [YU] using h
 ·have hq:q∈[Wp star it nm wh]:=hq
  simp only [List.mem_cons,List.not_mem_nil,or_false] at hq
  subst hq
  exact ⟨h1,h2.1,h2.2⟩
set_option maxRecDepth 100000 in
set_option maxHeartbeats 16000000 in
theorem Zc8 {m:Nat} (HE:GE m):GQ (m+1):=by
 intro M T w hM ht hMT p kind depth hp hW hT hB hd hd2 hs hk hk1
 have HBM:=hid (fun (s:Sm) (hs:s∈p.tb.l) (A:Option Addr) (c:Nat) (hc:p.fr.n+1≤c)=>JY hB hs (A:=A) hc)
 obtain ⟨⟨fA,fn,fc,fl⟩,⟨sA,sn,sc,sl⟩⟩:=p
 have hs:0<sn:=hs
 have HSL:=hid (show sl.length=sn from SmsIn.len hp.now.2)
 obtain ⟨bS,oS,eS,-,-⟩:=(show Rd w w.heap.size 2 sA sn (sl.flatMap Sm.cells) from hp.now.2.1).2 hs
 obtain rfl:sA=some ⟨bS,oS,none⟩:=eS
 have KS:=((((Hold.YY M w T hM ht hMT).add hW).add (hp.less (by simp [ZG,Mut,Hp.foot]))).Za #[.slice fA fn fc,.slice (some ⟨bS,oS,none⟩) sn sc] 177).alloc #[.int .i64 0,.int .i64 0,.bool false,.int .i64 0,.int .i64 0,.string ⟨#[]⟩,.string ⟨#[]⟩,.string ⟨#[]⟩,.slice none 0 0,.slice none 0 0] 126
 rw [World.size_alloc] at KS
 obtain ⟨gp,hgp⟩:∃ g,g=w.heap.size:=⟨_,rfl⟩
 rw [←hgp] at KS
 obtain ⟨gr,hgr⟩:∃ g,g=gp+1:=⟨_,rfl⟩
 rw [←hgr] at KS
 have hm90:m≤90∧fn≤100:=by have h1:fn+(m+1)≤90:=hB.n;omega
 have hsn:sn≤100:=hB.b.t.2
 simp only [Pl.val]
 clear hp hW hB
 go_enter Tryz.func155,Tryz.ntmps155
 obtain ⟨KL,hKL⟩:∃ KL:List Hp,KL=[.blk gr 126 #[.int .i64 0,.int .i64 0,.bool false,.int .i64 0,.int .i64 0,.string ⟨#[]⟩,.string ⟨#[]⟩,.string ⟨#[]⟩,.slice none 0 0,.slice none 0 0],.cst gp 177 #[.slice fA fn fc,.slice (some ⟨bS,oS,none⟩) sn sc],.ro (Zg ⟨⟨fA,fn,fc,fl⟩,⟨some ⟨bS,oS,none⟩,sn,sc,sl⟩⟩),.ro Wds,.tp T]:=⟨_,rfl⟩
 have hcast:∀ (L1:List Hp) (wz:World),Hold M (some T) w wz L1→L1=KL→Hold M (some T) w wz KL:=fun _ _ h e=>e ▸ h
 have K6:=hcast _ _ KS hKL.symm
 have H1:∀ wv:World,Hold M (some T) w wv KL→Blk wv gp 177 #[.slice fA fn fc,.slice (some ⟨bS,oS,none⟩) sn sc]:=fun wv h=>by rw [hKL] at h;exact h.ZB 1 rfl
 have H2:∀ wv:World,Hold M (some T) w wv KL→Ro wv (Mut M KL) (Zg ⟨⟨fA,fn,fc,fl⟩,⟨some ⟨bS,oS,none⟩,sn,sc,sl⟩⟩)∧Ro wv (Mut M KL) Wds∧Tp wv T∧∀ b,(Mut M KL) b→T≤b:=fun wv h=>by rw [hKL] at h ⊢;exact ⟨h.ro 2 rfl,h.ro 3 rfl,h.tp_ 4 rfl,(h.get 4 rfl).2⟩
 have h4:KL[4]? =some (.tp T):=by rw [hKL];rfl
 have HH1:=hid H1
 have HH2:=hid H2
 have HH4:=hid h4
 have HKL:=hid hKL
 clear hKL hcast H1 H2 h4 KS
 have H5:∀ wv:World,Hold M (some T) w wv KL→∀ k x,sl[k]? =some x→wv.cell? ⟨bS,oS+k * 2,none⟩=some (.string x.nm)∧wv.cell? ⟨bS,oS+k * 2+1,none⟩=some (.slice x.cols.A x.cols.n x.cols.c):=fun wv h k x hx=>by
  rw [HKL.out] at h
  obtain ⟨b,o,e,-,hc,-⟩:=SmsIn.at_ (h.ro 2 rfl).now.2 hx
  have e:some (⟨bS,oS,none⟩:Addr)=some ⟨b,o,none⟩:=e
  obtain ⟨rfl,rfl⟩:bS=b∧oS=o:=by injection e with e;injection e with e1 e2;exact ⟨e1,e2⟩
  exact ⟨hc 0 _ (by omega) rfl,hc 1 _ (by omega) rfl⟩
 have HH5:=hid H5
 clear H5
 go_wp2_with fail
 rw [←hgp]
 try rw [←hgr]
 have HG:=hid (And.intro hgp hgr)
 clear hgp hgr
 refine wp_region_any (by kernel_rfl) ?_
 refine ZH 10 52 (KL) (spL [(18,fun u _=>Z6 sn u),(9,Yf (Mut M KL) (gr+1) 49 #[.string ⟨#[]⟩,.slice none 0 0])]) (by kernel_rfl) (by kernel_rfl) (by kernel_rfl) rfl ?_ (K6.drew) ?_
 ·exact Ze (fun _ _ _ _ h=>h) (Ze Wv (ZF _))
 simp only [zd,Act.put,List.getElem_toArray,List.getElem_cons_zero,List.getElem_cons_succ,zl]
 refine' dv rfl rfl rfl (fun wv HC=>?_) ?_;rotate_left
 · go_simp<;>rfl
 simp only [Act.put,zl]
 refine' dv rfl rfl rfl (fun wv HC=>?_) ?_;rotate_left
 ·obtain q1:=(HH1.out _ HC).cell 1;go_simp<;>rfl
 iterate 2
  simp only [Act.put,zl]
  refine' dv rfl rfl rfl (fun wv HC=>?_) ?_;rotate_left
  · go_simp<;>rfl
 simp only [Act.put,zl]
 refine' dv rfl rfl rfl (fun wv HC=>?_) ?_;rotate_left
 ·obtain q1:=(HH1.out _ HC).cell 1;go_simp<;>rfl
 simp only [Act.put,zl]
 refine' dv rfl rfl rfl (fun wv HC=>?_) ?_;rotate_left
 · go_simp<;>rfl
 simp only [Act.put,zl]
 refine Yk sn 4 HH4.out 18 rfl rfl rfl rfl (fun wv=>?_) (fun r hr=>?_)
 ·go_simp<;>rfl
 have r6:(r:Int)<sn:=by omega
 have r0:(0:Int)≤(r:Int):=by omega
 obtain ⟨x,hx⟩:=Yg HSL.out hr
 have HX0:=hid hx
 clear hx
 simp only [Act.put,zl]
 refine' dv rfl rfl rfl (fun wv HC=>?_) ?_;rotate_left
 · go_simp<;>rfl
 simp only [Act.put,zl]
 refine' dv rfl rfl rfl (fun wv HC=>?_) ?_;rotate_left
 ·obtain ⟨q2,q3⟩:=HH5.out _ HC r x HX0.out;go_simp<;>rfl
 simp only [Act.put,zl]
 refine Ye #[.string ⟨#[]⟩,.slice none 0 0] 49 9 (Yf (Mut M KL) (gr+1) 49 #[.string ⟨#[]⟩,.slice none 0 0]) (fun g=>.pointer (some ⟨g,0,none⟩)) rfl rfl rfl rfl (fun wv=>?_) (fun wv HC hrm hD hro=>?_) ?_
 ·go_simp<;>rfl
 ·exact ⟨_,rfl,by have:=hrm.1;simp only [World.size_alloc,World.size_drew] at this;have:=HG.out;omega,hro _ HC.Zc⟩
 rintro gs wg HCg hsl
 clear HCg hsl
 simp only [Act.put,zl]
 refine ZE ?_
 rintro wx2 HX
 rintro _hrm HGW
 have hu:Yf (Mut M KL) (gr+1) 49 #[.string ⟨#[]⟩,.slice none 0 0] (.pointer (some ⟨gs,0,none⟩)) wx2:=(Zp (d:=9) rfl).1 (HGW 9 _ rfl (by omega))
 clear HGW
 obtain ⟨gs',e',hg1,hg2⟩:=hu
 obtain rfl:gs=gs' :=by injection e' with e';injection e' with e';injection e'
 clear e'
 have HB:=Hold.WJ K6.drew HX _hrm (by simp only [World.size_alloc,World.size_drew];have:=HG.out;omega) hg2.now
 rw [HKL.out] at HB
 clear HX _hrm hg2 K6 HH1 HH2 HH4 HH5 HKL
 have hxm:x∈sl:=List.mem_of_getElem? HX0.out
 obtain ⟨xnm,⟨cA,cn,cc,cl⟩⟩:=x
 simp only
 have K7:=(HB.store 0 rfl 0 (.string xnm)).store 0 rfl 1 (.slice cA cn cc)
 simp only [zl] at K7
 have F0:=HB.facts
 simp only [zg] at F0
 have F7:=K7.facts
 simp only [zg] at F7
 clear HB
 go_wp2_with fail
 refine (UV (Mut M _) _ K7.Zc ⟨⟨fA,fn,fc,fl⟩,⟨some ⟨bS,oS,none⟩,sn,sc,sl⟩⟩ ⟨xnm,⟨cA,cn,cc,cl⟩⟩ (K7.ro 3 rfl) ((K7.ro 3 rfl).imp fun w2 h2=>h2.2.2 _ hxm) (by have:=hm90;show fn≤1000;omega)).mono ?_
 rintro e w5 ⟨A9,c9,rfl,hc9,ro9,b9⟩
 have HIN:=hid (HBM.out ⟨xnm,⟨cA,cn,cc,cl⟩⟩ hxm A9 c9 hc9)
 simp only [Pl.val,Pl.more] at *
 obtain ⟨fl2,hfl2⟩:∃ l,l=fl++[(⟨xnm,false,⟨cA,cn,cc,cl⟩,SlP.nil⟩:Fr)]:=⟨_,rfl⟩
 rw [←hfl2] at ro9 HIN
 clear hfl2 HBM HX0 HSL F0 F7 hxm
 have K8:=((K7.call b9).add ro9).alloc #[.slice A9 (fn+1) c9,.slice (some ⟨bS,oS,none⟩) sn sc] 177
 have F8a:=(K7.call b9).facts
 simp only [zg] at F8a
 have F8:=K8.facts
 simp only [zg] at F8
 have KR:=K8.alloc #[.bool (kind==8),.slice none 0 0,.string xnm,.slice none 0 0] 273
 rw [World.size_alloc] at KR
 have FR:=KR.facts
 simp only [zg] at FR
 clear K7 b9 ro9 K8
 go_upto_if 30 with (fail)
 obtain ⟨gi,hgi⟩:∃ g,g=w5.heap.size:=⟨_,rfl⟩
 rw [←hgi] at KR FR ⊢
 obtain ⟨gq,hgq⟩:∃ g,g=gi+1:=⟨_,rfl⟩
 rw [←hgq] at KR FR ⊢
 have HGI:=hid (And.intro hgi hgq)
 clear hgi hgq F8 F8a
 have hs2:IntKind.i64.wrap (depth - 2)=depth - 2:=IntWalk.i64_in _ (by omega)
 have hs1:IntKind.i64.wrap (depth - 1)=depth - 1:=IntWalk.i64_in _ (by omega)
 go_cut [] (fun wx=>∃ it:SlP Ex,XR (m+2) it∧Hold M (some T) w wx [.blk gq 273 #[.bool (kind==8),.slice it.A it.n it.c,.string xnm,.slice none 0 0],.ro (Z0 (m+2) it),.blk gi 177 #[.slice A9 (fn+1) c9,.slice (some ⟨bS,oS,none⟩) sn sc],.ro (Zg ⟨⟨A9,fn+1,c9,fl2⟩,⟨some ⟨bS,oS,none⟩,sn,sc,sl⟩⟩),.blk gr 126 #[.int .i64 0,.int .i64 0,.bool false,.int .i64 0,.int .i64 0,.string ⟨#[]⟩,.string ⟨#[]⟩,.string ⟨#[]⟩,.slice none 0 0,.slice none 0 0],.ro Wds,.tp T])
 case first=>
  by_cases h10:10≤kind
  ·go_wp2_with fail
   refine (HE (Mut M _) T _ KR.Zc (KR.tp_ 8 rfl) (KR.get 8 rfl).2 ⟨⟨A9,fn+1,c9,fl2⟩,⟨some ⟨bS,oS,none⟩,sn,sc,sl⟩⟩ 1 (depth - 2) ((KR.ro 2 rfl).less (Zj (i:=8) rfl)) ((KR.ro 7 rfl).less (Zj (i:=8) rfl)) hT HIN.out (by omega) (by omega)).mono ?_
   rintro e w6 ⟨x,rfl,hx,rx,tY,gY⟩
   have K7:=((Hold.Zf KR 8 rfl gY tY).add rx).Za #[.int .i64 x.kind,.int .i64 x.op,.bool x.nt,.int .i64 x.v.k,.int .i64 x.v.i,.string x.v.s,.string x.tab,.string x.nm,.slice x.A x.n x.c,.slice x.B x.m x.d] 126
   rw [show x.val=.agg #[.int .i64 x.kind,.int .i64 x.op,.bool x.nt,.int .i64 x.v.k,.int .i64 x.v.i,.string x.v.s,.string x.tab,.string x.nm,.slice x.A x.n x.c,.slice x.B x.m x.d] from rfl]
   clear FR KR rx tY gY
   have F7:=K7.facts
   simp only [zg] at F7
   have K8:=K7.store 2 rfl 1 (.slice (some ⟨w6.heap.size,0,none⟩) 1 1)
   simp only [zl] at K8
   clear K7
   go_wp2_with fail
   go_meet
   exact ⟨⟨some ⟨w6.heap.size,0,none⟩,1,1,[x]⟩,Vn hx,(K8.add (XD (K8.get 0 rfl) rfl (K8.ro 1 rfl))).pick [3,0,4,5,7,10,11] (by decide) rfl⟩
  ·go_wp2_with fail
   go_meet
   exact ⟨SlP.nil,Vs,(KR.add (S:=Z0 (m+2) SlP.nil) (fun w2 _ _=>SlP.Zi _ _ _ w2)).pick [1,0,2,3,5,8,9] (by decide) rfl⟩
 case rest=>
  obtain ⟨⟨iA,iN,iC,il⟩,hit,K3⟩:=hcut
  clear KR FR
  simp only at K3
  have HIT:=hid hit
  clear hit
  have F3:=K3.facts
  simp only [zg] at F3
  go_wp2_with fail
  refine (ZZ T 3 _ (K3.tp_ 6 rfl) (by omega) (by omega)).mono ?_
  rintro e w7 ⟨b,rfl,t7,g7⟩
  have K4:=Hold.Zf K3 6 rfl g7 t7
  clear K3 F3 g7 t7
  have F4:=K4.facts
  simp only [zg] at F4
  go_upto_if 40 with (fail)
  go_cut [] (fun wx=>∃ wh:SlP Ex,XR (m+2) wh∧Hold M (some T) w wx [.blk gq 273 #[.bool (kind==8),.slice iA iN iC,.string xnm,.slice wh.A wh.n wh.c],.ro (Z0 (m+2) ⟨iA,iN,iC,il⟩),.ro (Z0 (m+2) wh),.blk gr 126 #[.int .i64 0,.int .i64 0,.bool false,.int .i64 0,.int .i64 0,.string ⟨#[]⟩,.string ⟨#[]⟩,.string ⟨#[]⟩,.slice none 0 0,.slice none 0 0],.tp T])
  case first=>
   cases b
   ·go_wp2_with fail
    refine (HE (Mut M _) T _ K4.Zc (K4.tp_ 6 rfl) (K4.get 6 rfl).2 ⟨⟨A9,fn+1,c9,fl2⟩,⟨some ⟨bS,oS,none⟩,sn,sc,sl⟩⟩ 2 (depth - 1) ((K4.ro 3 rfl).less (Zj (i:=6) rfl)) ((K4.ro 5 rfl).less (Zj (i:=6) rfl)) hT HIN.out (by omega) (by omega)).mono ?_
    rintro e w6 ⟨x,rfl,hx,rx,tY,gY⟩
    have K7:=((Hold.Zf K4 6 rfl gY tY).add rx).Za #[.int .i64 x.kind,.int .i64 x.op,.bool x.nt,.int .i64 x.v.k,.int .i64 x.v.i,.string x.v.s,.string x.tab,.string x.nm,.slice x.A x.n x.c,.slice x.B x.m x.d] 126
    rw [show x.val=.agg #[.int .i64 x.kind,.int .i64 x.op,.bool x.nt,.int .i64 x.v.k,.int .i64 x.v.i,.string x.v.s,.string x.tab,.string x.nm,.slice x.A x.n x.c,.slice x.B x.m x.d] from rfl]
    clear F4 K4 rx tY gY
    have F7:=K7.facts
    simp only [zg] at F7
    have K8:=K7.store 2 rfl 3 (.slice (some ⟨w6.heap.size,0,none⟩) 1 1)
    simp only [zl] at K8
    clear K7
    go_wp2_with fail
    go_meet
    exact ⟨⟨some ⟨w6.heap.size,0,none⟩,1,1,[x]⟩,Vn hx,(K8.add (XD (K8.get 0 rfl) rfl (K8.ro 1 rfl))).pick [3,4,0,7,9] (by decide) rfl⟩
   ·go_wp2_with fail
    go_meet
    exact ⟨SlP.nil,Vs,(K4.add (S:=Z0 (m+2) SlP.nil) (fun w2 _ _=>SlP.Zi _ _ _ w2)).pick [1,2,0,5,7] (by decide) rfl⟩
  case rest=>
   obtain ⟨⟨hA,hN,hC,hl⟩,hwh,K5⟩:=hcut
   clear K4 F4
   simp only at K5
   have HOK:=hid (fun g:Nat=>Zcr (g:=g) (star:=(kind==8)) (nm:=xnm) hk hk1 HIT.out hwh)
   clear hwh
   have K6:=K5.Za #[.bool (kind==8),.slice iA iN iC,.string xnm,.slice hA hN hC] 273
   have q0:=(K5.Zy 0 rfl).cell 0
   have q1:=(K5.Zy 0 rfl).cell 1
   have q2:=(K5.Zy 0 rfl).cell 2
   have q3:=(K5.Zy 0 rfl).cell 3
   simp only [List.getElem?_toArray,List.getElem?_cons_zero,List.getElem?_cons_succ] at q0 q1 q2 q3
   have F6:=K6.facts
   simp only [zg] at F6
   have K7:=((((((((((K6.store 4 rfl 0 (.int .i64 kind)).store 4 rfl 1 (.int .i64 0)).store 4 rfl 2 (.bool false)).store 4 rfl 3 (.int .i64 0)).store 4 rfl 4 (.int .i64 0)).store 4 rfl 5 (.string ⟨#[]⟩)).store 4 rfl 6 (.string ⟨#[]⟩)).store 4 rfl 7 (.string ⟨#[]⟩)).store 4 rfl 8 (.slice none 0 0)).store 4 rfl 9 (.slice (some ⟨wc.heap.size,0,none⟩) 1 1))
   simp only [zl] at K7
   have F7:=K7.facts
   simp only [zg] at F7
   have hq1:Ro _ _ (SlR 4 (some ⟨wc.heap.size,0,none⟩) 1 [.bool (kind==8),.slice iA iN iC,.string xnm,.slice hA hN hC]):=ZJ (K7.get 0 rfl) rfl
   have HR:=hid (((hq1.and ((K7.ro 2 rfl).and (K7.ro 3 rfl))).imp (S' :=ExIn (m+2+1) (quE kind wc.heap.size (Wp (kind==8) ⟨iA,iN,iC,il⟩ xnm ⟨hA,hN,hC,hl⟩))) fun w2 h2=>ZgA h2.1 h2.2.1 h2.2.2).less zm)
   have HT:=hid (And.intro (K7.tp_ 5 rfl) K7.grow)
   clear K5 K6 K7 hq1
   go_wp2_with fail
   refine bodyPost_ret (v:=.agg #[.int .i64 kind,.int .i64 0,.bool false,.int .i64 0,.int .i64 0,.string ⟨#[]⟩,.string ⟨#[]⟩,.string ⟨#[]⟩,.slice none 0 0,.slice (some ⟨wc.heap.size,0,none⟩) 1 1]) ?_ rfl ?_
   ·clear HT HR HOK HIT
    simp [results,Tryz.results155,go_sem,F7]
   ·exact ⟨quE kind wc.heap.size (Wp (kind==8) ⟨iA,iN,iC,il⟩ xnm ⟨hA,hN,hC,hl⟩),rfl,(HOK.out _).le (by omega),HR.out.imp (fun w2 h2=>h2.le (by omega)),HT.out.1,HT.out.2⟩
theorem WC:∀ n:Nat,GE n
 | 0=>Za7 (fun m h=>absurd h (by omega)) (fun h=>absurd h (by omega)) (fun h=>absurd h (by omega))
 | n+1=>Za7 (fun m h=>(show n=m by omega) ▸ WC n) (fun _=>Zc8 (WC n)) (fun _=>Zc4 (WC n))
def Ac.val (a:Ac):Value:=.agg #[.int .i64 a.kind,.string a.tab,.slice a.rows.A a.rows.n a.rows.c,.slice a.qs.A a.qs.n a.qs.c,.slice a.sets.A a.sets.n a.sets.c,.slice a.wh.A a.wh.n a.wh.c,.string a.text]
def Tg.val (t:Tg):Value:=.agg #[.string t.name,.string t.tab,.bool t.before,.int .i64 t.event,.slice t.cols.A t.cols.n t.cols.c,.bool t.each,.slice t.prec.A t.prec.n t.prec.c,.slice t.foll.A t.foll.n t.foll.c,.slice t.rank.A t.rank.n t.rank.c,.slice t.cond.A t.cond.n t.cond.c,.slice t.acts.A t.acts.n t.acts.c]
def ZX (l:List Tg):List Value:=l.flatMap Tg.cells
def TgsIn (d:Nat) (A:Option Addr) (n:Nat) (l:List Tg) (w:World):Prop:=SlR 11 A n (ZX l) w∧∀ t∈l,TgIn d t w
def WR (d:Nat) (l:List Tg) (w:World):Prop:=∀ t∈l,TgIn d t w
theorem Zd4 (l:List Tg) (x:Tg):ZX (l++[x])=ZX l++x.cells:=by simp [ZX]
theorem TgsIn.len {d:Nat} {A:Option Addr} {n:Nat} {l:List Tg} {w:World} (h:TgsIn d A n l w):l.length=n:=SlP.In.len (s:=⟨A,n,0,l⟩) (k:=11) (cel:=Tg.cells) (P:=TgIn d) h (by omega) (fun _=>rfl)
theorem TgsIn.at_ {d:Nat} {w:World} {A:Option Addr} {n:Nat} {l:List Tg} (h:TgsIn d A n l w) {k:Nat} {x:Tg} (hx:l[k]? =some x):
  ∃ b o,A=some ⟨b,o,none⟩∧b<w.heap.size∧(∀ j u,j<11→x.cells[j]? =some u→w.cell? ⟨b,o+k * 11+j,none⟩=some u)∧TgIn d x w:=SlP.In.at_ (s:=⟨A,n,0,l⟩) (k:=11) (cel:=Tg.cells) (P:=TgIn d) h (by omega) (fun _=>rfl) hx
end Go.Proofs.YtnbbllkbefagmaaGreatDoor

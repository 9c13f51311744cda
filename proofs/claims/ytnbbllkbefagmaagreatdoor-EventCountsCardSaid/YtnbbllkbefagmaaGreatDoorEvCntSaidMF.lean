import Derived.Test.YtnbbllkbefagmaaGreatDoorEvCntSaidME
import Derived.Test.YtnbbllkbefagmaaGreatDoorEvCntSaidMD
import Derived.Test.YtnbbllkbefagmaaGreatDoorEvCntSaidMC
import Derived.Deep.DeepCutAuto
import Derived.StillTailTactics
import Derived.Deep.LoopGhost
import Derived.IntWalk
import Derived.Laws.BytesArg
namespace Go.Proofs.YtnbbllkbefagmaaGreatDoor
open Go.RowKit
set_option linter.unusedVariables false
set_option linter.unusedSimpArgs false
set_option maxRecDepth 100000 in
set_option maxHeartbeats 16000000 in
theorem Zd0 {m:Nat} (HE:GE m):GC (m+1):=by
 intro M T w hM ht hMT p depth hp hW hT hB hd hd2
 obtain ⟨⟨fA,fn,fc,fl⟩,⟨sA,sn,sc,sl⟩⟩:=p
 have KS:=((((Hold.Y5 M w T hM ht hMT).add hW).add (hp.less (by simp [ZI,Mut,Hp.foot]))).Za #[.slice fA fn fc,.slice sA sn sc] 177).alloc #[.int .i64 0,.int .i64 0,.bool false,.int .i64 0,.int .i64 0,.string ⟨#[]⟩,.string ⟨#[]⟩,.string ⟨#[]⟩,.slice none 0 0,.slice none 0 0] 126
 rw [World.size_alloc] at KS
 obtain ⟨gp,hgp⟩:∃ g,g=w.heap.size:=⟨_,rfl⟩
 rw [←hgp] at KS
 obtain ⟨gr,hgr⟩:∃ g,g=gp+1:=⟨_,rfl⟩
 rw [←hgr] at KS
 have HBE:=hid (show PlN m ⟨⟨fA,fn,fc,fl⟩,⟨sA,sn,sc,sl⟩⟩ from ⟨hB.b,by have:=hB.n;omega,fun _=>trivial⟩)
 have hm90:m≤90:=by have:=hB.n;omega
 simp only [Pl.val]
 clear hp hW hB
 go_enter Tryz.func156,Tryz.ntmps156
 go_wp2_with fail
 rw [←hgp]
 try rw [←hgr]
 have HG:=hid (And.intro hgp hgr)
 clear hgp hgr
 refine (ZT T 3 _ (KS.tp_ 4 rfl) (by omega) (by omega)).mono ?_
 rintro e w1 ⟨s,rfl,s0,s1,t1,g1⟩
 have K1:=Hold.Zf KS 4 rfl g1 t1
 clear KS g1 t1
 have hws:IntKind.i64.wrap (1+s)=1+s:=IntWalk.i64_in _ (by omega)
 have hs1:IntKind.i64.wrap (depth - 1)=depth - 1:=IntWalk.i64_in _ (by omega)
 go_wp2_with fail
 refine (ZT T 6 _ (K1.tp_ 4 rfl) (by omega) (by omega)).mono ?_
 rintro e w2 ⟨r,rfl,r0,r1,t2,g2⟩
 have K5:=Hold.Zf K1 4 rfl g2 t2
 clear K1 g2 t2
 have F5:=K5.facts
 simp only [zg] at F5
 by_cases hr0:r=0
 ·subst hr0
  go_wp2_with fail
  refine (HE (Mut M _) T _ K5.Zb (K5.tp_ 4 rfl) (K5.get 4 rfl).2 ⟨⟨fA,fn,fc,fl⟩,⟨sA,sn,sc,sl⟩⟩ 2 (depth - 1) ((K5.ro 2 rfl).less (Zk (i:=4) rfl)) ((K5.ro 3 rfl).less (Zk (i:=4) rfl)) hT HBE.out (by omega) (by omega)).mono ?_
  rintro e w5 ⟨x,rfl,hx,rx,tY,gY⟩
  have K4:=(Hold.Zf K5 4 rfl gY tY).add rx
  clear F5 K5 rx tY gY
  have HOK:=hid (fun g:Nat=>YU (d:=m+2) (kind:=3) (op:=0) (nt:=false) (g:=g) (k:=1) (l:=[x]) (Zw 3 (by decide)) (Zw 0 (by decide)) (by omega) (fun z hz=>by
   simp only [List.mem_cons,List.not_mem_nil,or_false] at hz
   subst hz
   exact hx))
  have K7:=K4.Za #[.int .i64 x.kind,.int .i64 x.op,.bool x.nt,.int .i64 x.v.k,.int .i64 x.v.i,.string x.v.s,.string x.tab,.string x.nm,.slice x.A x.n x.c,.slice x.B x.m x.d] 126
  rw [show x.val=.agg #[.int .i64 x.kind,.int .i64 x.op,.bool x.nt,.int .i64 x.v.k,.int .i64 x.v.i,.string x.v.s,.string x.tab,.string x.nm,.slice x.A x.n x.c,.slice x.B x.m x.d] from rfl]
  have F7:=K7.facts
  simp only [zg] at F7
  have K8:=((((((((((K7.store 2 rfl 0 (.int .i64 3)).store 2 rfl 1 (.int .i64 0)).store 2 rfl 2 (.bool false)).store 2 rfl 3 (.int .i64 0)).store 2 rfl 4 (.int .i64 0)).store 2 rfl 5 (.string ⟨#[]⟩)).store 2 rfl 6 (.string ⟨#[]⟩)).store 2 rfl 7 (.string ⟨#[]⟩)).store 2 rfl 8 (.slice (some ⟨w5.heap.size,0,none⟩) 1 1)).store 2 rfl 9 (.slice none 0 0))
  simp only [zl] at K8
  have F8:=K8.facts
  simp only [zg] at F8
  have hE1:Ro _ _ (ExsIn (m+2) (some ⟨w5.heap.size,0,none⟩) 1 [x]):=Wq (l:=[x]) (K8.get 0 rfl) rfl (fun z hz=>by
     simp only [List.mem_cons,List.not_mem_nil,or_false] at hz
     subst hz
     exact K8.ro 1 rfl)
  have HR:=hid ((hE1.imp (S' :=ExIn (m+2+1) (opE 3 0 false w5.heap.size 1 [x])) fun w2 h2=>Vx h2).less zm)
  have HT:=hid (And.intro (K8.tp_ 6 rfl) K8.grow)
  clear K7 K8 hE1
  go_wp2_with fail
  refine bodyPost_ret (v:=.agg #[.int .i64 3,.int .i64 0,.bool false,.int .i64 0,.int .i64 0,.string ⟨#[]⟩,.string ⟨#[]⟩,.string ⟨#[]⟩,.slice (some ⟨w5.heap.size,0,none⟩) 1 1,.slice none 0 0]) ?_ rfl ?_
  ·clear HT HR HOK
   simp [results,Tryz.results156,go_sem,F8]
  ·exact ⟨opE 3 0 false w5.heap.size 1 [x],rfl,HOK.out _,HR.out,HT.out.1,HT.out.2⟩
 ·by_cases hr1:r=1
  ·subst hr1
   obtain ⟨KL,hKL⟩:∃ KL:List Hp,KL=[.blk gr 126 #[.int .i64 0,.int .i64 0,.bool false,.int .i64 0,.int .i64 0,.string ⟨#[]⟩,.string ⟨#[]⟩,.string ⟨#[]⟩,.slice none 0 0,.slice none 0 0],.cst gp 177 #[.slice fA fn fc,.slice sA sn sc],.ro (Zg ⟨⟨fA,fn,fc,fl⟩,⟨sA,sn,sc,sl⟩⟩),.ro Wds,.tp T]:=⟨_,rfl⟩
   have hcast:∀ (L1:List Hp) (wz:World),Hold M (some T) w wz L1→L1=KL→Hold M (some T) w wz KL:=fun _ _ h e=>e ▸ h
   have K6:=hcast _ _ K5 hKL.symm
   have H1:∀ wv:World,Hold M (some T) w wv KL→Blk wv gp 177 #[.slice fA fn fc,.slice sA sn sc]:=fun wv h=>by rw [hKL] at h;exact h.ZB 1 rfl
   have H2:∀ wv:World,Hold M (some T) w wv KL→Ro wv (Mut M KL) (Zg ⟨⟨fA,fn,fc,fl⟩,⟨sA,sn,sc,sl⟩⟩)∧Ro wv (Mut M KL) Wds∧Tp wv T∧∀ b,(Mut M KL) b→T≤b:=fun wv h=>by rw [hKL] at h ⊢;exact ⟨h.ro 2 rfl,h.ro 3 rfl,h.tp_ 4 rfl,(h.get 4 rfl).2⟩
   have h4:KL[4]? =some (.tp T):=by rw [hKL];rfl
   have HH1:=hid H1
   have HH2:=hid H2
   have HH4:=hid h4
   have HKL:=hid hKL
   clear hKL hcast H1 H2 h4 K5
   go_wp2_with fail
   clear F5
   refine wp_region_any (by kernel_rfl) ?_
   refine Zp 13 85 (KL) (spL [(25,fun u _=>Yt 2 u),(31,Zh (Mut M KL) (m+2)),(36,Zh (Mut M KL) (m+2))]) (by kernel_rfl) (by kernel_rfl) (by kernel_rfl) rfl ?_ (K6.drew) ?_
   ·exact Ze (fun _ _ _ _ h=>h) (Ze Yj (Ze Yj (Zo _)))
   simp only [zd,Act.put,List.getElem_toArray,List.getElem_cons_zero,List.getElem_cons_succ,zl]
   refine' dv rfl rfl rfl (fun wv HC=>?_) ?_;rotate_left
   · go_simp<;>rfl
   simp only [Act.put,zl]
   refine Yz 2 4 HH4.out 25 rfl rfl rfl rfl (fun wv=>?_) (fun r hr=>?_)
   ·go_simp<;>rfl
   have r6:(r:Int)<2:=by omega
   have r0:(0:Int)≤(r:Int):=by omega
   have hwr:IntKind.i64.wrap (1+(r:Int))=1+r:=IntWalk.i64_in _ (by omega)
   simp only [Act.put,zl]
   repeat (refine' dv rfl rfl rfl (fun wv HC=>?_) ?_;rotate_left;(focus (obtain q0:=(HH1.out _ HC).cell 0;obtain q1:=(HH1.out _ HC).cell 1;go_simp<;>rfl;done));simp only [Act.put,zl])
   refine Zm 31 (Zh (Mut M KL) (m+2)) (f:=99) (args:=#[.pointer (some ⟨T,0,none⟩),.agg #[.slice fA fn fc,.slice sA sn sc],.int .i64 2,.int .i64 (depth - 1)]) rfl rfl rfl rfl (fun wv=>?_) (fun wv HC hrm hD=>?_) ?_
   ·go_simp<;>rfl
   ·obtain ⟨X0,X1,X2,X3⟩:=HH2.out _ HC
    refine (HE (Mut M KL) T wv HC.Zb X2 X3 ⟨⟨fA,fn,fc,fl⟩,⟨sA,sn,sc,sl⟩⟩ 2 (depth - 1) (X0.less (Zk HH4.out)) (X1.less (Zk HH4.out)) hT HBE.out (by omega) (by omega)).mono ?_
    rintro e w5 ⟨x,rfl,hx,rx,t5,g5⟩
    exact ⟨_,rfl,⟨x,rfl,hx,rx⟩,Hold.Zf HC 4 HH4.out g5 t5,RM.grown g5 (.inr ⟨_,List.mem_of_getElem? HH4.out,rfl⟩)⟩
   rintro u wx HCx ⟨x,rfl,hx,rx⟩
   clear HCx hx rx
   simp only [Act.put,zl]
   repeat (refine' dv rfl rfl rfl (fun wv HC=>?_) ?_;rotate_left;(focus (obtain q0:=(HH1.out _ HC).cell 0;obtain q1:=(HH1.out _ HC).cell 1;go_simp<;>rfl;done));simp only [Act.put,zl])
   refine Zm 36 (Zh (Mut M KL) (m+2)) (f:=99) (args:=#[.pointer (some ⟨T,0,none⟩),.agg #[.slice fA fn fc,.slice sA sn sc],.int .i64 2,.int .i64 (depth - 1)]) rfl rfl rfl rfl (fun wv=>?_) (fun wv HC hrm hD=>?_) ?_
   ·go_simp<;>rfl
   ·obtain ⟨X0,X1,X2,X3⟩:=HH2.out _ HC
    refine (HE (Mut M KL) T wv HC.Zb X2 X3 ⟨⟨fA,fn,fc,fl⟩,⟨sA,sn,sc,sl⟩⟩ 2 (depth - 1) (X0.less (Zk HH4.out)) (X1.less (Zk HH4.out)) hT HBE.out (by omega) (by omega)).mono ?_
    rintro e w5 ⟨x,rfl,hx,rx,t5,g5⟩
    exact ⟨_,rfl,⟨x,rfl,hx,rx⟩,Hold.Zf HC 4 HH4.out g5 t5,RM.grown g5 (.inr ⟨_,List.mem_of_getElem? HH4.out,rfl⟩)⟩
   rintro u wx HCx ⟨x2,rfl,hx,rx⟩
   clear HCx hx rx
   simp only [Act.put,zl]
   refine Zj ?_
   rintro wx2 HX
   rintro _hrm HG
   have hu:Zh (Mut M KL) (m+2) x.val wx2:=(Zl (d:=31) rfl).1 (HG 7 _ rfl (by omega))
   have hu2:Zh (Mut M KL) (m+2) x2.val wx2:=(Zl (d:=36) rfl).1 (HG 12 _ rfl (by omega))
   clear HG _hrm
   obtain ⟨y1,hy1,hok1,hro1⟩:=hu
   obtain ⟨y2,hy2,hok2,hro2⟩:=hu2
   rw [HKL.out] at HX hro1 hro2
   have HYA:=hid (YU (d:=m+2) (kind:=5) (op:=1+(r:Int)) (nt:=false) (g:=0) (k:=2) (l:=[y1,y2]) (Zw 5 (by decide)) (show I64 _ from ⟨by omega,by omega⟩) (by omega) (fun z hz=>by
    simp only [List.mem_cons,List.not_mem_nil,or_false] at hz
    rcases hz with rfl|rfl
    ·exact hok1
    ·exact hok2))
   clear hok1 hok2
   rw [hy1,hy2]
   clear hy1 hy2 x x2
   rw [show y1.val=.agg #[.int .i64 y1.kind,.int .i64 y1.op,.bool y1.nt,.int .i64 y1.v.k,.int .i64 y1.v.i,.string y1.v.s,.string y1.tab,.string y1.nm,.slice y1.A y1.n y1.c,.slice y1.B y1.m y1.d] from rfl]
   rw [show y2.val=.agg #[.int .i64 y2.kind,.int .i64 y2.op,.bool y2.nt,.int .i64 y2.v.k,.int .i64 y2.v.i,.string y2.v.s,.string y2.tab,.string y2.nm,.slice y2.A y2.n y2.c,.slice y2.B y2.m y2.d] from rfl]
   go_wp2_with fail
   refine (XJ (Mut M _) _ HX.Zb (1+r) y1 y2 (m+2) hro1 hro2).mono ?_
   rintro e w6 ⟨g6,rfl,ry,b6⟩
   have HYB:=hid (show ExGd (m+1+2) (opE 5 (1+r) false g6 2 [y1,y2]) from HYA.out)
   generalize opE 5 (1+(r:Int)) false g6 2 [y1,y2]=y at *
   have HY:=HYB
   have KC:Hold M (some T) w w6 [.blk gr 126 #[.int .i64 0,.int .i64 0,.bool false,.int .i64 0,.int .i64 0,.string ⟨#[]⟩,.string ⟨#[]⟩,.string ⟨#[]⟩,.slice none 0 0,.slice none 0 0],.cst gp 177 #[.slice fA fn fc,.slice sA sn sc],.ro (Zg ⟨⟨fA,fn,fc,fl⟩,⟨sA,sn,sc,sl⟩⟩),.ro Wds,.tp T,.ro (ExIn (m+2+1) y)]:=((HX.call b6).add ry).pick [1,2,3,4,5,0] (by decide) rfl
   clear HX hro1 hro2 ry b6 HYA HYB
   rw [show y.val=.agg #[.int .i64 y.kind,.int .i64 y.op,.bool y.nt,.int .i64 y.v.k,.int .i64 y.v.i,.string y.v.s,.string y.tab,.string y.nm,.slice y.A y.n y.c,.slice y.B y.m y.d] from rfl]
   have F9:=KC.facts
   simp only [zg] at F9
   have KA:=((((((((((KC.store 0 rfl 0 (.int .i64 y.kind)).store 0 rfl 1 (.int .i64 y.op)).store 0 rfl 2 (.bool y.nt)).store 0 rfl 3 (.int .i64 y.v.k)).store 0 rfl 4 (.int .i64 y.v.i)).store 0 rfl 5 (.string y.v.s)).store 0 rfl 6 (.string y.tab)).store 0 rfl 7 (.string y.nm)).store 0 rfl 8 (.slice y.A y.n y.c)).store 0 rfl 9 (.slice y.B y.m y.d))
   simp only [zl] at KA
   have FA:=KA.facts
   simp only [zg] at FA
   have HR:=hid ((KA.ro 5 rfl).less zm)
   have HT:=hid (And.intro (KA.tp_ 4 rfl) KA.grow)
   clear KC KA
   go_wp2_with fail
   refine bodyPost_ret (v:=.agg #[.int .i64 y.kind,.int .i64 y.op,.bool y.nt,.int .i64 y.v.k,.int .i64 y.v.i,.string y.v.s,.string y.tab,.string y.nm,.slice y.A y.n y.c,.slice y.B y.m y.d]) ?_ rfl ?_
   ·clear HT HR
    simp [results,Tryz.results156,go_sem,FA]
   ·exact ⟨y,rfl,HY.out.le (by omega),HR.out.imp (fun w2 h2=>h2.le (by omega)),HT.out.1,HT.out.2⟩
  ·by_cases hr2:r=2
   ·subst hr2
    obtain ⟨KL,hKL⟩:∃ KL:List Hp,KL=[.blk gr 126 #[.int .i64 0,.int .i64 0,.bool false,.int .i64 0,.int .i64 0,.string ⟨#[]⟩,.string ⟨#[]⟩,.string ⟨#[]⟩,.slice none 0 0,.slice none 0 0],.cst gp 177 #[.slice fA fn fc,.slice sA sn sc],.ro (Zg ⟨⟨fA,fn,fc,fl⟩,⟨sA,sn,sc,sl⟩⟩),.ro Wds,.tp T]:=⟨_,rfl⟩
    have hcast:∀ (L1:List Hp) (wz:World),Hold M (some T) w wz L1→L1=KL→Hold M (some T) w wz KL:=fun _ _ h e=>e ▸ h
    have K6:=hcast _ _ K5 hKL.symm
    have H1:∀ wv:World,Hold M (some T) w wv KL→Blk wv gp 177 #[.slice fA fn fc,.slice sA sn sc]:=fun wv h=>by rw [hKL] at h;exact h.ZB 1 rfl
    have H2:∀ wv:World,Hold M (some T) w wv KL→Ro wv (Mut M KL) (Zg ⟨⟨fA,fn,fc,fl⟩,⟨sA,sn,sc,sl⟩⟩)∧Ro wv (Mut M KL) Wds∧Tp wv T∧∀ b,(Mut M KL) b→T≤b:=fun wv h=>by rw [hKL] at h ⊢;exact ⟨h.ro 2 rfl,h.ro 3 rfl,h.tp_ 4 rfl,(h.get 4 rfl).2⟩
    have h4:KL[4]? =some (.tp T):=by rw [hKL];rfl
    have HH1:=hid H1
    have HH2:=hid H2
    have HH4:=hid h4
    have HKL:=hid hKL
    clear hKL hcast H1 H2 h4 K5
    go_wp2_with fail
    clear F5
    refine wp_region_any (by kernel_rfl) ?_
    refine Zp 8 85 (KL) (spL [(41,GK),(47,Zh (Mut M KL) (m+2))]) (by kernel_rfl) (by kernel_rfl) (by kernel_rfl) rfl ?_ (K6.drew) ?_
    ·exact Ze (fun _ _ _ _ h=>h) (Ze Yj (Zo _))
    simp only [zd,Act.put,List.getElem_toArray,List.getElem_cons_zero,List.getElem_cons_succ,zl]
    refine' dv rfl rfl rfl (fun wv HC=>?_) ?_;rotate_left
    · go_simp<;>rfl
    simp only [Act.put,zl]
    refine ZgG 2 4 HH4.out 41 rfl rfl rfl rfl (fun wv=>?_) (fun bb=>?_)
    ·go_simp<;>rfl
    simp only [Act.put,zl]
    repeat (refine' dv rfl rfl rfl (fun wv HC=>?_) ?_;rotate_left;(focus (obtain q0:=(HH1.out _ HC).cell 0;obtain q1:=(HH1.out _ HC).cell 1;go_simp<;>rfl;done));simp only [Act.put,zl])
    refine Zm 47 (Zh (Mut M KL) (m+2)) (f:=99) (args:=#[.pointer (some ⟨T,0,none⟩),.agg #[.slice fA fn fc,.slice sA sn sc],.int .i64 (1+s),.int .i64 (depth - 1)]) rfl rfl rfl rfl (fun wv=>?_) (fun wv HC hrm hD=>?_) ?_
    ·go_simp<;>rfl
    ·obtain ⟨X0,X1,X2,X3⟩:=HH2.out _ HC
     refine (HE (Mut M KL) T wv HC.Zb X2 X3 ⟨⟨fA,fn,fc,fl⟩,⟨sA,sn,sc,sl⟩⟩ (1+s) (depth - 1) (X0.less (Zk HH4.out)) (X1.less (Zk HH4.out)) hT HBE.out (by omega) (by omega)).mono ?_
     rintro e w5 ⟨x,rfl,hx,rx,t5,g5⟩
     exact ⟨_,rfl,⟨x,rfl,hx,rx⟩,Hold.Zf HC 4 HH4.out g5 t5,RM.grown g5 (.inr ⟨_,List.mem_of_getElem? HH4.out,rfl⟩)⟩
    rintro u wx HCx ⟨x,rfl,hx,rx⟩
    clear HCx hx rx
    simp only [Act.put,zl]
    refine Zj ?_
    rintro wx2 HX
    rintro _hrm HG
    have hu:Zh (Mut M KL) (m+2) x.val wx2:=(Zl (d:=47) rfl).1 (HG 7 _ rfl (by omega))
    clear HG _hrm
    obtain ⟨y1,hy1,hok1,hro1⟩:=hu
    rw [HKL.out] at HX hro1
    rw [hy1]
    clear hy1 x
    have K4:=HX.add hro1
    clear HX hro1
    have HOK:=hid (fun g:Nat=>YU (d:=m+2) (kind:=6) (op:=0) (nt:=bb) (g:=g) (k:=1) (l:=[y1]) (Zw 6 (by decide)) (Zw 0 (by decide)) (by omega) (fun z hz=>by
     simp only [List.mem_cons,List.not_mem_nil,or_false] at hz
     subst hz
     exact hok1))
    have K7:=K4.Za #[.int .i64 y1.kind,.int .i64 y1.op,.bool y1.nt,.int .i64 y1.v.k,.int .i64 y1.v.i,.string y1.v.s,.string y1.tab,.string y1.nm,.slice y1.A y1.n y1.c,.slice y1.B y1.m y1.d] 126
    rw [show y1.val=.agg #[.int .i64 y1.kind,.int .i64 y1.op,.bool y1.nt,.int .i64 y1.v.k,.int .i64 y1.v.i,.string y1.v.s,.string y1.tab,.string y1.nm,.slice y1.A y1.n y1.c,.slice y1.B y1.m y1.d] from rfl]
    have F7:=K7.facts
    simp only [zg] at F7
    have K8:=((((((((((K7.store 2 rfl 0 (.int .i64 6)).store 2 rfl 1 (.int .i64 0)).store 2 rfl 2 (.bool bb)).store 2 rfl 3 (.int .i64 0)).store 2 rfl 4 (.int .i64 0)).store 2 rfl 5 (.string ⟨#[]⟩)).store 2 rfl 6 (.string ⟨#[]⟩)).store 2 rfl 7 (.string ⟨#[]⟩)).store 2 rfl 8 (.slice (some ⟨wx2.heap.size,0,none⟩) 1 1)).store 2 rfl 9 (.slice none 0 0))
    simp only [zl] at K8
    have F8:=K8.facts
    simp only [zg] at F8
    have hE1:Ro _ _ (ExsIn (m+2) (some ⟨wx2.heap.size,0,none⟩) 1 [y1]):=Wq (l:=[y1]) (K8.get 0 rfl) rfl (fun z hz=>by
       simp only [List.mem_cons,List.not_mem_nil,or_false] at hz
       subst hz
       exact K8.ro 1 rfl)
    have HR:=hid ((hE1.imp (S' :=ExIn (m+2+1) (opE 6 0 bb wx2.heap.size 1 [y1])) fun w2 h2=>Vx h2).less zm)
    have HT:=hid (And.intro (K8.tp_ 6 rfl) K8.grow)
    clear K7 K8 hE1
    go_wp2_with fail
    refine bodyPost_ret (v:=.agg #[.int .i64 6,.int .i64 0,.bool bb,.int .i64 0,.int .i64 0,.string ⟨#[]⟩,.string ⟨#[]⟩,.string ⟨#[]⟩,.slice (some ⟨wx2.heap.size,0,none⟩) 1 1,.slice none 0 0]) ?_ rfl ?_
    ·clear HT HR HOK
     simp [results,Tryz.results156,go_sem,F8]
    ·exact ⟨opE 6 0 bb wx2.heap.size 1 [y1],rfl,HOK.out _,HR.out,HT.out.1,HT.out.2⟩
   ·by_cases hr3:r=3
    ·subst hr3
     obtain ⟨KL,hKL⟩:∃ KL:List Hp,KL=[.blk gr 126 #[.int .i64 0,.int .i64 0,.bool false,.int .i64 0,.int .i64 0,.string ⟨#[]⟩,.string ⟨#[]⟩,.string ⟨#[]⟩,.slice none 0 0,.slice none 0 0],.cst gp 177 #[.slice fA fn fc,.slice sA sn sc],.ro (Zg ⟨⟨fA,fn,fc,fl⟩,⟨sA,sn,sc,sl⟩⟩),.ro Wds,.tp T]:=⟨_,rfl⟩
     have hcast:∀ (L1:List Hp) (wz:World),Hold M (some T) w wz L1→L1=KL→Hold M (some T) w wz KL:=fun _ _ h e=>e ▸ h
     have K6:=hcast _ _ K5 hKL.symm
     have H1:∀ wv:World,Hold M (some T) w wv KL→Blk wv gp 177 #[.slice fA fn fc,.slice sA sn sc]:=fun wv h=>by rw [hKL] at h;exact h.ZB 1 rfl
     have H2:∀ wv:World,Hold M (some T) w wv KL→Ro wv (Mut M KL) (Zg ⟨⟨fA,fn,fc,fl⟩,⟨sA,sn,sc,sl⟩⟩)∧Ro wv (Mut M KL) Wds∧Tp wv T∧∀ b,(Mut M KL) b→T≤b:=fun wv h=>by rw [hKL] at h ⊢;exact ⟨h.ro 2 rfl,h.ro 3 rfl,h.tp_ 4 rfl,(h.get 4 rfl).2⟩
     have h4:KL[4]? =some (.tp T):=by rw [hKL];rfl
     have HH1:=hid H1
     have HH2:=hid H2
     have HH4:=hid h4
     have HKL:=hid hKL
     clear hKL hcast H1 H2 h4 K5
     go_wp2_with fail
     clear F5
     refine wp_region_any (by kernel_rfl) ?_
     refine Zp 15 85 (KL) (spL [(56,Zh (Mut M KL) (m+2)),(61,Zh (Mut M KL) (m+2)),(66,Zh (Mut M KL) (m+2))]) (by kernel_rfl) (by kernel_rfl) (by kernel_rfl) rfl ?_ (K6.drew) ?_
     ·exact Ze Yj (Ze Yj (Ze Yj (Zo _)))
     simp only [zd,Act.put,List.getElem_toArray,List.getElem_cons_zero,List.getElem_cons_succ,zl]
     repeat (refine' dv rfl rfl rfl (fun wv HC=>?_) ?_;rotate_left;(focus (obtain q0:=(HH1.out _ HC).cell 0;obtain q1:=(HH1.out _ HC).cell 1;go_simp<;>rfl;done));simp only [Act.put,zl])
     refine Zm 56 (Zh (Mut M KL) (m+2)) (f:=99) (args:=#[.pointer (some ⟨T,0,none⟩),.agg #[.slice fA fn fc,.slice sA sn sc],.int .i64 1,.int .i64 (depth - 1)]) rfl rfl rfl rfl (fun wv=>?_) (fun wv HC hrm hD=>?_) ?_
     ·go_simp<;>rfl
     ·obtain ⟨X0,X1,X2,X3⟩:=HH2.out _ HC
      refine (HE (Mut M KL) T wv HC.Zb X2 X3 ⟨⟨fA,fn,fc,fl⟩,⟨sA,sn,sc,sl⟩⟩ 1 (depth - 1) (X0.less (Zk HH4.out)) (X1.less (Zk HH4.out)) hT HBE.out (by omega) (by omega)).mono ?_
      rintro e w5 ⟨x,rfl,hx,rx,t5,g5⟩
      exact ⟨_,rfl,⟨x,rfl,hx,rx⟩,Hold.Zf HC 4 HH4.out g5 t5,RM.grown g5 (.inr ⟨_,List.mem_of_getElem? HH4.out,rfl⟩)⟩
     rintro u wx HCx ⟨x,rfl,hx,rx⟩
     clear HCx hx rx
     simp only [Act.put,zl]
     repeat (refine' dv rfl rfl rfl (fun wv HC=>?_) ?_;rotate_left;(focus (obtain q0:=(HH1.out _ HC).cell 0;obtain q1:=(HH1.out _ HC).cell 1;go_simp<;>rfl;done));simp only [Act.put,zl])
     refine Zm 61 (Zh (Mut M KL) (m+2)) (f:=99) (args:=#[.pointer (some ⟨T,0,none⟩),.agg #[.slice fA fn fc,.slice sA sn sc],.int .i64 1,.int .i64 (depth - 1)]) rfl rfl rfl rfl (fun wv=>?_) (fun wv HC hrm hD=>?_) ?_
     ·go_simp<;>rfl
     ·obtain ⟨X0,X1,X2,X3⟩:=HH2.out _ HC
      refine (HE (Mut M KL) T wv HC.Zb X2 X3 ⟨⟨fA,fn,fc,fl⟩,⟨sA,sn,sc,sl⟩⟩ 1 (depth - 1) (X0.less (Zk HH4.out)) (X1.less (Zk HH4.out)) hT HBE.out (by omega) (by omega)).mono ?_
      rintro e w5 ⟨x,rfl,hx,rx,t5,g5⟩
      exact ⟨_,rfl,⟨x,rfl,hx,rx⟩,Hold.Zf HC 4 HH4.out g5 t5,RM.grown g5 (.inr ⟨_,List.mem_of_getElem? HH4.out,rfl⟩)⟩
     rintro u wx HCx ⟨x2,rfl,hx,rx⟩
     clear HCx hx rx
     simp only [Act.put,zl]
     repeat (refine' dv rfl rfl rfl (fun wv HC=>?_) ?_;rotate_left;(focus (obtain q0:=(HH1.out _ HC).cell 0;obtain q1:=(HH1.out _ HC).cell 1;go_simp<;>rfl;done));simp only [Act.put,zl])
     refine Zm 66 (Zh (Mut M KL) (m+2)) (f:=99) (args:=#[.pointer (some ⟨T,0,none⟩),.agg #[.slice fA fn fc,.slice sA sn sc],.int .i64 1,.int .i64 (depth - 1)]) rfl rfl rfl rfl (fun wv=>?_) (fun wv HC hrm hD=>?_) ?_
     ·go_simp<;>rfl
     ·obtain ⟨X0,X1,X2,X3⟩:=HH2.out _ HC
      refine (HE (Mut M KL) T wv HC.Zb X2 X3 ⟨⟨fA,fn,fc,fl⟩,⟨sA,sn,sc,sl⟩⟩ 1 (depth - 1) (X0.less (Zk HH4.out)) (X1.less (Zk HH4.out)) hT HBE.out (by omega) (by omega)).mono ?_
      rintro e w5 ⟨x,rfl,hx,rx,t5,g5⟩
      exact ⟨_,rfl,⟨x,rfl,hx,rx⟩,Hold.Zf HC 4 HH4.out g5 t5,RM.grown g5 (.inr ⟨_,List.mem_of_getElem? HH4.out,rfl⟩)⟩
     rintro u wx HCx ⟨x3,rfl,hx,rx⟩
     clear HCx hx rx
     simp only [Act.put,zl]
     refine Zj ?_
     rintro wx2 HX
     rintro _hrm HG
     have hu:Zh (Mut M KL) (m+2) x.val wx2:=(Zl (d:=56) rfl).1 (HG 4 _ rfl (by omega))
     have hu2:Zh (Mut M KL) (m+2) x2.val wx2:=(Zl (d:=61) rfl).1 (HG 9 _ rfl (by omega))
     have hu3:Zh (Mut M KL) (m+2) x3.val wx2:=(Zl (d:=66) rfl).1 (HG 14 _ rfl (by omega))
     clear HG _hrm
     obtain ⟨y1,hy1,hok1,hro1⟩:=hu
     obtain ⟨y2,hy2,hok2,hro2⟩:=hu2
     obtain ⟨y3,hy3,hok3,hro3⟩:=hu3
     rw [HKL.out] at HX hro1 hro2 hro3
     rw [hy1,hy2,hy3]
     clear hy1 hy2 hy3 x x2 x3
     have K4:=((HX.add hro1).add (hro2.less (by intro b hb;simpa [Mut,Hp.foot] using hb))).add (hro3.less (by intro b hb;simpa [Mut,Hp.foot] using hb))
     clear HX hro1 hro2 hro3
     have HOK:=hid (fun g:Nat=>YU (d:=m+2) (kind:=7) (op:=0) (nt:=false) (g:=g) (k:=3) (l:=[y1,y2,y3]) (Zw 7 (by decide)) (Zw 0 (by decide)) (by omega) (fun z hz=>by
      simp only [List.mem_cons,List.not_mem_nil,or_false] at hz
      rcases hz with rfl|rfl|rfl
      ·exact hok1
      ·exact hok2
      ·exact hok3))
     have K7:=K4.Za #[.int .i64 y1.kind,.int .i64 y1.op,.bool y1.nt,.int .i64 y1.v.k,.int .i64 y1.v.i,.string y1.v.s,.string y1.tab,.string y1.nm,.slice y1.A y1.n y1.c,.slice y1.B y1.m y1.d,.int .i64 y2.kind,.int .i64 y2.op,.bool y2.nt,.int .i64 y2.v.k,.int .i64 y2.v.i,.string y2.v.s,.string y2.tab,.string y2.nm,.slice y2.A y2.n y2.c,.slice y2.B y2.m y2.d,.int .i64 y3.kind,.int .i64 y3.op,.bool y3.nt,.int .i64 y3.v.k,.int .i64 y3.v.i,.string y3.v.s,.string y3.tab,.string y3.nm,.slice y3.A y3.n y3.c,.slice y3.B y3.m y3.d] 126
     rw [show y1.val=.agg #[.int .i64 y1.kind,.int .i64 y1.op,.bool y1.nt,.int .i64 y1.v.k,.int .i64 y1.v.i,.string y1.v.s,.string y1.tab,.string y1.nm,.slice y1.A y1.n y1.c,.slice y1.B y1.m y1.d] from rfl]
     rw [show y2.val=.agg #[.int .i64 y2.kind,.int .i64 y2.op,.bool y2.nt,.int .i64 y2.v.k,.int .i64 y2.v.i,.string y2.v.s,.string y2.tab,.string y2.nm,.slice y2.A y2.n y2.c,.slice y2.B y2.m y2.d] from rfl]
     rw [show y3.val=.agg #[.int .i64 y3.kind,.int .i64 y3.op,.bool y3.nt,.int .i64 y3.v.k,.int .i64 y3.v.i,.string y3.v.s,.string y3.tab,.string y3.nm,.slice y3.A y3.n y3.c,.slice y3.B y3.m y3.d] from rfl]
     have F7:=K7.facts
     simp only [zg] at F7
     have K8:=((((((((((K7.store 4 rfl 0 (.int .i64 7)).store 4 rfl 1 (.int .i64 0)).store 4 rfl 2 (.bool false)).store 4 rfl 3 (.int .i64 0)).store 4 rfl 4 (.int .i64 0)).store 4 rfl 5 (.string ⟨#[]⟩)).store 4 rfl 6 (.string ⟨#[]⟩)).store 4 rfl 7 (.string ⟨#[]⟩)).store 4 rfl 8 (.slice (some ⟨wx2.heap.size,0,none⟩) 3 3)).store 4 rfl 9 (.slice none 0 0))
     simp only [zl] at K8
     have F8:=K8.facts
     simp only [zg] at F8
     have hE1:Ro _ _ (ExsIn (m+2) (some ⟨wx2.heap.size,0,none⟩) 3 [y1,y2,y3]):=Wq (l:=[y1,y2,y3]) (K8.get 0 rfl) rfl (fun z hz=>by
        simp only [List.mem_cons,List.not_mem_nil,or_false] at hz
        rcases hz with rfl|rfl|rfl
        ·exact K8.ro 3 rfl
        ·exact K8.ro 2 rfl
        ·exact K8.ro 1 rfl)
     have HR:=hid ((hE1.imp (S' :=ExIn (m+2+1) (opE 7 0 false wx2.heap.size 3 [y1,y2,y3])) fun w2 h2=>Vx h2).less zm)
     have HT:=hid (And.intro (K8.tp_ 8 rfl) K8.grow)
     clear K7 K8 hE1
     go_wp2_with fail
     refine bodyPost_ret (v:=.agg #[.int .i64 7,.int .i64 0,.bool false,.int .i64 0,.int .i64 0,.string ⟨#[]⟩,.string ⟨#[]⟩,.string ⟨#[]⟩,.slice (some ⟨wx2.heap.size,0,none⟩) 3 3,.slice none 0 0]) ?_ rfl ?_
     ·clear HT HR HOK
      simp [results,Tryz.results156,go_sem,F8]
     ·exact ⟨opE 7 0 false wx2.heap.size 3 [y1,y2,y3],rfl,HOK.out _,HR.out,HT.out.1,HT.out.2⟩
    ·have hb0:(r==0)=false:=by simpa using hr0
     have hb1:(r==1)=false:=by simpa using hr1
     have hb2:(r==2)=false:=by simpa using hr2
     have hb3:(r==3)=false:=by simpa using hr3
     obtain ⟨KL,hKL⟩:∃ KL:List Hp,KL=[.blk gr 126 #[.int .i64 0,.int .i64 0,.bool false,.int .i64 0,.int .i64 0,.string ⟨#[]⟩,.string ⟨#[]⟩,.string ⟨#[]⟩,.slice none 0 0,.slice none 0 0],.cst gp 177 #[.slice fA fn fc,.slice sA sn sc],.ro (Zg ⟨⟨fA,fn,fc,fl⟩,⟨sA,sn,sc,sl⟩⟩),.ro Wds,.tp T]:=⟨_,rfl⟩
     have hcast:∀ (L1:List Hp) (wz:World),Hold M (some T) w wz L1→L1=KL→Hold M (some T) w wz KL:=fun _ _ h e=>e ▸ h
     have K6:=hcast _ _ K5 hKL.symm
     have H1:∀ wv:World,Hold M (some T) w wv KL→Blk wv gp 177 #[.slice fA fn fc,.slice sA sn sc]:=fun wv h=>by rw [hKL] at h;exact h.ZB 1 rfl
     have H2:∀ wv:World,Hold M (some T) w wv KL→Ro wv (Mut M KL) (Zg ⟨⟨fA,fn,fc,fl⟩,⟨sA,sn,sc,sl⟩⟩)∧Ro wv (Mut M KL) Wds∧Tp wv T∧∀ b,(Mut M KL) b→T≤b:=fun wv h=>by rw [hKL] at h ⊢;exact ⟨h.ro 2 rfl,h.ro 3 rfl,h.tp_ 4 rfl,(h.get 4 rfl).2⟩
     have h4:KL[4]? =some (.tp T):=by rw [hKL];rfl
     have HH1:=hid H1
     have HH2:=hid H2
     have HH4:=hid h4
     have HKL:=hid hKL
     clear hKL hcast H1 H2 h4 K5
     go_wp2_with fail
     clear F5
     refine wp_region_any (by kernel_rfl) ?_
     refine Zp 15 85 (KL) (spL [(70,fun u _=>Yt 6 u),(77,Zh (Mut M KL) (m+2)),(83,Zh (Mut M KL) (m+2))]) (by kernel_rfl) (by kernel_rfl) (by kernel_rfl) rfl ?_ (K6.drew) ?_
     ·exact Ze (fun _ _ _ _ h=>h) (Ze Yj (Ze Yj (Zo _)))
     simp only [zd,Act.put,List.getElem_toArray,List.getElem_cons_zero,List.getElem_cons_succ,zl]
     refine' dv rfl rfl rfl (fun wv HC=>?_) ?_;rotate_left
     · go_simp<;>rfl
     simp only [Act.put,zl]
     refine Yz 6 4 HH4.out 70 rfl rfl rfl rfl (fun wv=>?_) (fun r hr=>?_)
     ·go_simp<;>rfl
     have r6:(r:Int)<6:=by omega
     have r0:(0:Int)≤(r:Int):=by omega
     have hwr:IntKind.i64.wrap (3+(r:Int))=3+r:=IntWalk.i64_in _ (by omega)
     simp only [Act.put,zl]
     repeat (refine' dv rfl rfl rfl (fun wv HC=>?_) ?_;rotate_left;(focus (obtain q0:=(HH1.out _ HC).cell 0;obtain q1:=(HH1.out _ HC).cell 1;go_simp<;>rfl;done));simp only [Act.put,zl])
     refine Zm 77 (Zh (Mut M KL) (m+2)) (f:=99) (args:=#[.pointer (some ⟨T,0,none⟩),.agg #[.slice fA fn fc,.slice sA sn sc],.int .i64 (1+s),.int .i64 (depth - 1)]) rfl rfl rfl rfl (fun wv=>?_) (fun wv HC hrm hD=>?_) ?_
     ·go_simp<;>rfl
     ·obtain ⟨X0,X1,X2,X3⟩:=HH2.out _ HC
      refine (HE (Mut M KL) T wv HC.Zb X2 X3 ⟨⟨fA,fn,fc,fl⟩,⟨sA,sn,sc,sl⟩⟩ (1+s) (depth - 1) (X0.less (Zk HH4.out)) (X1.less (Zk HH4.out)) hT HBE.out (by omega) (by omega)).mono ?_
      rintro e w5 ⟨x,rfl,hx,rx,t5,g5⟩
      exact ⟨_,rfl,⟨x,rfl,hx,rx⟩,Hold.Zf HC 4 HH4.out g5 t5,RM.grown g5 (.inr ⟨_,List.mem_of_getElem? HH4.out,rfl⟩)⟩
     rintro u wx HCx ⟨x,rfl,hx,rx⟩
     clear HCx hx rx
     simp only [Act.put,zl]
     repeat (refine' dv rfl rfl rfl (fun wv HC=>?_) ?_;rotate_left;(focus (obtain q0:=(HH1.out _ HC).cell 0;obtain q1:=(HH1.out _ HC).cell 1;go_simp<;>rfl;done));simp only [Act.put,zl])
     refine Zm 83 (Zh (Mut M KL) (m+2)) (f:=99) (args:=#[.pointer (some ⟨T,0,none⟩),.agg #[.slice fA fn fc,.slice sA sn sc],.int .i64 (1+s),.int .i64 (depth - 1)]) rfl rfl rfl rfl (fun wv=>?_) (fun wv HC hrm hD=>?_) ?_
     ·go_simp<;>rfl
     ·obtain ⟨X0,X1,X2,X3⟩:=HH2.out _ HC
      refine (HE (Mut M KL) T wv HC.Zb X2 X3 ⟨⟨fA,fn,fc,fl⟩,⟨sA,sn,sc,sl⟩⟩ (1+s) (depth - 1) (X0.less (Zk HH4.out)) (X1.less (Zk HH4.out)) hT HBE.out (by omega) (by omega)).mono ?_
      rintro e w5 ⟨x,rfl,hx,rx,t5,g5⟩
      exact ⟨_,rfl,⟨x,rfl,hx,rx⟩,Hold.Zf HC 4 HH4.out g5 t5,RM.grown g5 (.inr ⟨_,List.mem_of_getElem? HH4.out,rfl⟩)⟩
     rintro u wx HCx ⟨x2,rfl,hx,rx⟩
     clear HCx hx rx
     simp only [Act.put,zl]
     refine Zj ?_
     rintro wx2 HX
     rintro _hrm HG
     have hu:Zh (Mut M KL) (m+2) x.val wx2:=(Zl (d:=77) rfl).1 (HG 8 _ rfl (by omega))
     have hu2:Zh (Mut M KL) (m+2) x2.val wx2:=(Zl (d:=83) rfl).1 (HG 14 _ rfl (by omega))
     clear HG _hrm
     obtain ⟨y1,hy1,hok1,hro1⟩:=hu
     obtain ⟨y2,hy2,hok2,hro2⟩:=hu2
     rw [HKL.out] at HX hro1 hro2
     have HYA:=hid (YU (d:=m+2) (kind:=5) (op:=3+(r:Int)) (nt:=false) (g:=0) (k:=2) (l:=[y1,y2]) (Zw 5 (by decide)) (show I64 _ from ⟨by omega,by omega⟩) (by omega) (fun z hz=>by
      simp only [List.mem_cons,List.not_mem_nil,or_false] at hz
      rcases hz with rfl|rfl
      ·exact hok1
      ·exact hok2))
     clear hok1 hok2
     rw [hy1,hy2]
     clear hy1 hy2 x x2
     rw [show y1.val=.agg #[.int .i64 y1.kind,.int .i64 y1.op,.bool y1.nt,.int .i64 y1.v.k,.int .i64 y1.v.i,.string y1.v.s,.string y1.tab,.string y1.nm,.slice y1.A y1.n y1.c,.slice y1.B y1.m y1.d] from rfl]
     rw [show y2.val=.agg #[.int .i64 y2.kind,.int .i64 y2.op,.bool y2.nt,.int .i64 y2.v.k,.int .i64 y2.v.i,.string y2.v.s,.string y2.tab,.string y2.nm,.slice y2.A y2.n y2.c,.slice y2.B y2.m y2.d] from rfl]
     go_wp2_with fail
     refine (XJ (Mut M _) _ HX.Zb (3+r) y1 y2 (m+2) hro1 hro2).mono ?_
     rintro e w6 ⟨g6,rfl,ry,b6⟩
     have HYB:=hid (show ExGd (m+1+2) (opE 5 (3+r) false g6 2 [y1,y2]) from HYA.out)
     generalize opE 5 (3+(r:Int)) false g6 2 [y1,y2]=y at *
     have HY:=HYB
     have KC:Hold M (some T) w w6 [.blk gr 126 #[.int .i64 0,.int .i64 0,.bool false,.int .i64 0,.int .i64 0,.string ⟨#[]⟩,.string ⟨#[]⟩,.string ⟨#[]⟩,.slice none 0 0,.slice none 0 0],.cst gp 177 #[.slice fA fn fc,.slice sA sn sc],.ro (Zg ⟨⟨fA,fn,fc,fl⟩,⟨sA,sn,sc,sl⟩⟩),.ro Wds,.tp T,.ro (ExIn (m+2+1) y)]:=((HX.call b6).add ry).pick [1,2,3,4,5,0] (by decide) rfl
     clear HX hro1 hro2 ry b6 HYA HYB
     rw [show y.val=.agg #[.int .i64 y.kind,.int .i64 y.op,.bool y.nt,.int .i64 y.v.k,.int .i64 y.v.i,.string y.v.s,.string y.tab,.string y.nm,.slice y.A y.n y.c,.slice y.B y.m y.d] from rfl]
     have F9:=KC.facts
     simp only [zg] at F9
     have KA:=((((((((((KC.store 0 rfl 0 (.int .i64 y.kind)).store 0 rfl 1 (.int .i64 y.op)).store 0 rfl 2 (.bool y.nt)).store 0 rfl 3 (.int .i64 y.v.k)).store 0 rfl 4 (.int .i64 y.v.i)).store 0 rfl 5 (.string y.v.s)).store 0 rfl 6 (.string y.tab)).store 0 rfl 7 (.string y.nm)).store 0 rfl 8 (.slice y.A y.n y.c)).store 0 rfl 9 (.slice y.B y.m y.d))
     simp only [zl] at KA
     have FA:=KA.facts
     simp only [zg] at FA
     have HR:=hid ((KA.ro 5 rfl).less zm)
     have HT:=hid (And.intro (KA.tp_ 4 rfl) KA.grow)
     clear KC KA
     go_wp2_with fail
     refine bodyPost_ret (v:=.agg #[.int .i64 y.kind,.int .i64 y.op,.bool y.nt,.int .i64 y.v.k,.int .i64 y.v.i,.string y.v.s,.string y.tab,.string y.nm,.slice y.A y.n y.c,.slice y.B y.m y.d]) ?_ rfl ?_
     ·clear HT HR
      simp [results,Tryz.results156,go_sem,FA]
     ·exact ⟨y,rfl,HY.out.le (by omega),HR.out.imp (fun w2 h2=>h2.le (by omega)),HT.out.1,HT.out.2⟩
theorem Zbb {m:Nat} {p:Pl} (h:PlN (m+1) p) {s:Sm} (hs:s∈p.tb.l) {A:Option Addr} {c:Nat} (hc:p.fr.n+1≤c):PlN m (p.more s A c):=by
 have hn:=h.n
 refine ⟨⟨⟨hc,?_⟩,h.b.t,fun f hf=>?_,h.b.tc⟩,?_,fun _=>trivial⟩
 ·show p.fr.n+1≤100
  omega
 ·rcases List.mem_append.1 hf with hf|hf
  ·exact h.b.fc f hf
  ·simp only [List.mem_singleton] at hf
   subst hf
   exact h.b.tc s hs
 ·show p.fr.n+1+m≤90
  omega
theorem SmsIn.len {s:SlP Sm} {w:World} (h:SmsIn s w):s.l.length=s.n:=SlP.In.len (s:=s) (k:=2) (cel:=Sm.cells) (P:=ZQ) h (by omega) (fun _=>rfl)
theorem SmsIn.at_ {s:SlP Sm} {w:World} (h:SmsIn s w) {k:Nat} {x:Sm} (hx:s.l[k]? =some x):
  ∃ b o,s.A=some ⟨b,o,none⟩∧b<w.heap.size∧(∀ j u,j<2→x.cells[j]? =some u→w.cell? ⟨b,o+k * 2+j,none⟩=some u)∧ZQ x w:=SlP.In.at_ (s:=s) (k:=2) (cel:=Sm.cells) (P:=ZQ) h (by omega) (fun _=>rfl) hx
def Yd (d:Nat) (s:SlP Ex) (w:World):Prop:=s.In 10 Ex.cells (ExIn d) w
theorem XF {d g:Nat} {x:Ex} {M:Nat→Prop} {w:World} {t:TypeId} {cs:Array Value} (h:Ro w M (fun w=>w.heap[g]? =some (.cells cs t (0,0)))) (hl:cs.toList=Zv [x]) (hr:Ro w M (ExIn d x)):Ro w M (Yd d ⟨some ⟨g,0,none⟩,1,1,[x]⟩):=
 Wq (l:=[x]) h hl (fun z hz=>by
  simp only [List.mem_cons,List.not_mem_nil,or_false] at hz
  subst hz
  exact hr)
def Wd (d:Nat) (s:SlP Ex):Prop:=(s.n≤s.c∧s.c≤9223372036854775807)∧s.l.length≤1∧∀ x∈s.l,ExGd d x
theorem VV {d g:Nat} {x:Ex} (h:ExGd d x):Wd d (⟨some ⟨g,0,none⟩,1,1,[x]⟩:SlP Ex):=⟨⟨Nat.le_refl _,by simp⟩,by simp,fun z hz=>by
 simp only [List.mem_cons,List.not_mem_nil,or_false] at hz
 subst hz
 exact h⟩
theorem VO {d:Nat}:Wd d (SlP.nil:SlP Ex):=⟨⟨Nat.le_refl _,by simp [SlP.nil]⟩,by simp [SlP.nil],fun z hz=>(nomatch hz)⟩
def quE (kind:Int) (g:Nat) (q:Qu):Ex:=⟨kind,0,false,vlZ,⟨#[]⟩,⟨#[]⟩,none,0,0,[],some ⟨g,0,none⟩,1,1,[q]⟩
def WU (star:Bool) (it:SlP Ex) (nm:ByteArray) (wh:SlP Ex):Qu:=⟨star,it.A,it.n,it.c,it.l,nm,wh.A,wh.n,wh.c,wh.l⟩
theorem ZdI {d:Nat} {kind:Int} {g:Nat} {star:Bool} {it wh:SlP Ex} {nm:ByteArray} (hk:I64 kind) (hk1:1≤kind) (h1:Wd d it) (h2:Wd d wh):ExGd (d+1) (quE kind g (WU star it nm wh)):=by
 refine ⟨⟨hk,Zw 0 (by decide),Zw 0 (by decide),Zw 0 (by decide),Nat.le_refl _,by simp [quE],Nat.le_refl _,by simp [quE]⟩,⟨hk1,by simp [quE],by simp [quE]⟩,fun a ha=>(nomatch ha),fun q hq=>?_⟩
 have hq:q∈[WU star it nm wh]:=hq
 simp only [List.mem_cons,List.not_mem_nil,or_false] at hq
 subst hq
 have h3:=h1.2.1
 exact ⟨⟨h1.1.1,h1.1.2,h2.1.1,h2.1.2⟩,⟨by show it.l.length≤8;omega,h2.2.1⟩,h1.2.2,h2.2.2⟩
theorem Zci {d:Nat} {kind:Int} {g:Nat} {star:Bool} {it wh:SlP Ex} {nm:ByteArray} {w:World} (h:SlR 4 (some ⟨g,0,none⟩) 1 (Qu.cells (WU star it nm wh)) w) (h1:Yd d it w) (h2:Yd d wh w):ExIn (d+1) (quE kind g (WU star it nm wh)) w:=by
 refine ⟨ZE 10 w,fun a ha=>(nomatch ha),?_,fun q hq=>?_⟩
 ·show SlR 4 (some ⟨g,0,none⟩) 1 (XK [WU star it nm wh]) w
  simpa [XK] using h
 ·have hq:q∈[WU star it nm wh]:=hq
  simp only [List.mem_cons,List.not_mem_nil,or_false] at hq
  subst hq
  exact ⟨h1,h2.1,h2.2⟩
set_option maxRecDepth 100000 in
set_option maxHeartbeats 16000000 in
theorem ZhD {m:Nat} (HE:GE m):GQ (m+1):=by
 intro M T w hM ht hMT p kind depth hp hW hT hB hd hd2 hs hk hk1
 have HBM:=hid (fun (s:Sm) (hs:s∈p.tb.l) (A:Option Addr) (c:Nat) (hc:p.fr.n+1≤c)=>Zbb hB hs (A:=A) hc)
 obtain ⟨⟨fA,fn,fc,fl⟩,⟨sA,sn,sc,sl⟩⟩:=p
 have hs:0<sn:=hs
 have HSL:=hid (show sl.length=sn from SmsIn.len hp.now.2)
 obtain ⟨bS,oS,eS,-,-⟩:=(show Rd w w.heap.size 2 sA sn (sl.flatMap Sm.cells) from hp.now.2.1).2 hs
 obtain rfl:sA=some ⟨bS,oS,none⟩:=eS
 have KS:=((((Hold.Y5 M w T hM ht hMT).add hW).add (hp.less (by simp [ZI,Mut,Hp.foot]))).Za #[.slice fA fn fc,.slice (some ⟨bS,oS,none⟩) sn sc] 177).alloc #[.int .i64 0,.int .i64 0,.bool false,.int .i64 0,.int .i64 0,.string ⟨#[]⟩,.string ⟨#[]⟩,.string ⟨#[]⟩,.slice none 0 0,.slice none 0 0] 126
 rw [World.size_alloc] at KS
 obtain ⟨gp,hgp⟩:∃ g,g=w.heap.size:=⟨_,rfl⟩
 rw [←hgp] at KS
 obtain ⟨gr,hgr⟩:∃ g,g=gp+1:=⟨_,rfl⟩
 rw [←hgr] at KS
 have hm90:m≤90∧fn≤100:=by have h1:fn+(m+1)≤90:=hB.n;omega
 have hsn:sn≤100:=hB.b.t.2
 simp only [Pl.val]
 clear hp hW hB
 go_enter Tryz.func155,Tryz.ntmps155
 obtain ⟨KL,hKL⟩:∃ KL:List Hp,KL=[.blk gr 126 #[.int .i64 0,.int .i64 0,.bool false,.int .i64 0,.int .i64 0,.string ⟨#[]⟩,.string ⟨#[]⟩,.string ⟨#[]⟩,.slice none 0 0,.slice none 0 0],.cst gp 177 #[.slice fA fn fc,.slice (some ⟨bS,oS,none⟩) sn sc],.ro (Zg ⟨⟨fA,fn,fc,fl⟩,⟨some ⟨bS,oS,none⟩,sn,sc,sl⟩⟩),.ro Wds,.tp T]:=⟨_,rfl⟩
 have hcast:∀ (L1:List Hp) (wz:World),Hold M (some T) w wz L1→L1=KL→Hold M (some T) w wz KL:=fun _ _ h e=>e ▸ h
 have K6:=hcast _ _ KS hKL.symm
 have H1:∀ wv:World,Hold M (some T) w wv KL→Blk wv gp 177 #[.slice fA fn fc,.slice (some ⟨bS,oS,none⟩) sn sc]:=fun wv h=>by rw [hKL] at h;exact h.ZB 1 rfl
 have H2:∀ wv:World,Hold M (some T) w wv KL→Ro wv (Mut M KL) (Zg ⟨⟨fA,fn,fc,fl⟩,⟨some ⟨bS,oS,none⟩,sn,sc,sl⟩⟩)∧Ro wv (Mut M KL) Wds∧Tp wv T∧∀ b,(Mut M KL) b→T≤b:=fun wv h=>by rw [hKL] at h ⊢;exact ⟨h.ro 2 rfl,h.ro 3 rfl,h.tp_ 4 rfl,(h.get 4 rfl).2⟩
 have h4:KL[4]? =some (.tp T):=by rw [hKL];rfl
 have HH1:=hid H1
 have HH2:=hid H2
 have HH4:=hid h4
 have HKL:=hid hKL
 clear hKL hcast H1 H2 h4 KS
 have H5:∀ wv:World,Hold M (some T) w wv KL→∀ k x,sl[k]? =some x→wv.cell? ⟨bS,oS+k * 2,none⟩=some (.string x.nm)∧wv.cell? ⟨bS,oS+k * 2+1,none⟩=some (.slice x.cols.A x.cols.n x.cols.c):=fun wv h k x hx=>by
  rw [HKL.out] at h
  obtain ⟨b,o,e,-,hc,-⟩:=SmsIn.at_ (h.ro 2 rfl).now.2 hx
  have e:some (⟨bS,oS,none⟩:Addr)=some ⟨b,o,none⟩:=e
  obtain ⟨rfl,rfl⟩:bS=b∧oS=o:=by injection e with e;injection e with e1 e2;exact ⟨e1,e2⟩
  exact ⟨hc 0 _ (by omega) rfl,hc 1 _ (by omega) rfl⟩
 have HH5:=hid H5
 clear H5
 go_wp2_with fail
 rw [←hgp]
 try rw [←hgr]
 have HG:=hid (And.intro hgp hgr)
 clear hgp hgr
 refine wp_region_any (by kernel_rfl) ?_
 refine Zp 10 52 (KL) (spL [(18,fun u _=>Yt sn u),(9,Z6 (Mut M KL) (gr+1) 49 #[.string ⟨#[]⟩,.slice none 0 0])]) (by kernel_rfl) (by kernel_rfl) (by kernel_rfl) rfl ?_ (K6.drew) ?_
 ·exact Ze (fun _ _ _ _ h=>h) (Ze XY (Zo _))
 simp only [zd,Act.put,List.getElem_toArray,List.getElem_cons_zero,List.getElem_cons_succ,zl]
 refine' dv rfl rfl rfl (fun wv HC=>?_) ?_;rotate_left
 · go_simp<;>rfl
 simp only [Act.put,zl]
 refine' dv rfl rfl rfl (fun wv HC=>?_) ?_;rotate_left
 ·obtain q1:=(HH1.out _ HC).cell 1;go_simp<;>rfl
 iterate 2
  simp only [Act.put,zl]
  refine' dv rfl rfl rfl (fun wv HC=>?_) ?_;rotate_left
  · go_simp<;>rfl
 simp only [Act.put,zl]
 refine' dv rfl rfl rfl (fun wv HC=>?_) ?_;rotate_left
 ·obtain q1:=(HH1.out _ HC).cell 1;go_simp<;>rfl
 simp only [Act.put,zl]
 refine' dv rfl rfl rfl (fun wv HC=>?_) ?_;rotate_left
 · go_simp<;>rfl
 simp only [Act.put,zl]
 refine Yz sn 4 HH4.out 18 rfl rfl rfl rfl (fun wv=>?_) (fun r hr=>?_)
 ·go_simp<;>rfl
 have r6:(r:Int)<sn:=by omega
 have r0:(0:Int)≤(r:Int):=by omega
 obtain ⟨x,hx⟩:=Yo HSL.out hr
 have HX0:=hid hx
 clear hx
 simp only [Act.put,zl]
 refine' dv rfl rfl rfl (fun wv HC=>?_) ?_;rotate_left
 · go_simp<;>rfl
 simp only [Act.put,zl]
 refine' dv rfl rfl rfl (fun wv HC=>?_) ?_;rotate_left
 ·obtain ⟨q2,q3⟩:=HH5.out _ HC r x HX0.out;go_simp<;>rfl
 simp only [Act.put,zl]
 refine Ye #[.string ⟨#[]⟩,.slice none 0 0] 49 9 (Z6 (Mut M KL) (gr+1) 49 #[.string ⟨#[]⟩,.slice none 0 0]) (fun g=>.pointer (some ⟨g,0,none⟩)) rfl rfl rfl rfl (fun wv=>?_) (fun wv HC hrm hD hro=>?_) ?_
 ·go_simp<;>rfl
 ·exact ⟨_,rfl,by have:=hrm.1;simp only [World.size_alloc,World.size_drew] at this;have:=HG.out;omega,hro _ HC.Zb⟩
 rintro gs wg HCg hsl
 clear HCg hsl
 simp only [Act.put,zl]
 refine Zj ?_
 rintro wx2 HX
 rintro _hrm HGW
 have hu:Z6 (Mut M KL) (gr+1) 49 #[.string ⟨#[]⟩,.slice none 0 0] (.pointer (some ⟨gs,0,none⟩)) wx2:=(Zl (d:=9) rfl).1 (HGW 9 _ rfl (by omega))
 clear HGW
 obtain ⟨gs',e',hg1,hg2⟩:=hu
 obtain rfl:gs=gs' :=by injection e' with e';injection e' with e';injection e'
 clear e'
 have HB:=Hold.We K6.drew HX _hrm (by simp only [World.size_alloc,World.size_drew];have:=HG.out;omega) hg2.now
 rw [HKL.out] at HB
 clear HX _hrm hg2 K6 HH1 HH2 HH4 HH5 HKL
 have hxm:x∈sl:=List.mem_of_getElem? HX0.out
 obtain ⟨xnm,⟨cA,cn,cc,cl⟩⟩:=x
 simp only
 have K7:=(HB.store 0 rfl 0 (.string xnm)).store 0 rfl 1 (.slice cA cn cc)
 simp only [zl] at K7
 have F0:=HB.facts
 simp only [zg] at F0
 have F7:=K7.facts
 simp only [zg] at F7
 clear HB
 go_wp2_with fail
 refine (Qe (Mut M _) _ K7.Zb ⟨⟨fA,fn,fc,fl⟩,⟨some ⟨bS,oS,none⟩,sn,sc,sl⟩⟩ ⟨xnm,⟨cA,cn,cc,cl⟩⟩ (K7.ro 3 rfl) ((K7.ro 3 rfl).imp fun w2 h2=>h2.2.2 _ hxm) (by have:=hm90;show fn≤1000;omega)).mono ?_
 rintro e w5 ⟨A9,c9,rfl,hc9,ro9,b9⟩
 have HIN:=hid (HBM.out ⟨xnm,⟨cA,cn,cc,cl⟩⟩ hxm A9 c9 hc9)
 simp only [Pl.val,Pl.more] at *
 obtain ⟨fl2,hfl2⟩:∃ l,l=fl++[(⟨xnm,false,⟨cA,cn,cc,cl⟩,SlP.nil⟩:Fr)]:=⟨_,rfl⟩
 rw [←hfl2] at ro9 HIN
 clear hfl2 HBM HX0 HSL F0 F7 hxm
 have K8:=((K7.call b9).add ro9).alloc #[.slice A9 (fn+1) c9,.slice (some ⟨bS,oS,none⟩) sn sc] 177
 have F8a:=(K7.call b9).facts
 simp only [zg] at F8a
 have F8:=K8.facts
 simp only [zg] at F8
 have KR:=K8.alloc #[.bool (kind==8),.slice none 0 0,.string xnm,.slice none 0 0] 273
 rw [World.size_alloc] at KR
 have FR:=KR.facts
 simp only [zg] at FR
 clear K7 b9 ro9 K8
 go_upto_if 30 with (fail)
 obtain ⟨gi,hgi⟩:∃ g,g=w5.heap.size:=⟨_,rfl⟩
 rw [←hgi] at KR FR ⊢
 obtain ⟨gq,hgq⟩:∃ g,g=gi+1:=⟨_,rfl⟩
 rw [←hgq] at KR FR ⊢
 have HGI:=hid (And.intro hgi hgq)
 clear hgi hgq F8 F8a
 have hs2:IntKind.i64.wrap (depth - 2)=depth - 2:=IntWalk.i64_in _ (by omega)
 have hs1:IntKind.i64.wrap (depth - 1)=depth - 1:=IntWalk.i64_in _ (by omega)
 go_cut [] (fun wx=>∃ it:SlP Ex,Wd (m+2) it∧Hold M (some T) w wx [.blk gq 273 #[.bool (kind==8),.slice it.A it.n it.c,.string xnm,.slice none 0 0],.ro (Yd (m+2) it),.blk gi 177 #[.slice A9 (fn+1) c9,.slice (some ⟨bS,oS,none⟩) sn sc],.ro (Zg ⟨⟨A9,fn+1,c9,fl2⟩,⟨some ⟨bS,oS,none⟩,sn,sc,sl⟩⟩),.blk gr 126 #[.int .i64 0,.int .i64 0,.bool false,.int .i64 0,.int .i64 0,.string ⟨#[]⟩,.string ⟨#[]⟩,.string ⟨#[]⟩,.slice none 0 0,.slice none 0 0],.ro Wds,.tp T])
 case first=>
  by_cases h10:10≤kind
  ·go_wp2_with fail
   refine (HE (Mut M _) T _ KR.Zb (KR.tp_ 8 rfl) (KR.get 8 rfl).2 ⟨⟨A9,fn+1,c9,fl2⟩,⟨some ⟨bS,oS,none⟩,sn,sc,sl⟩⟩ 1 (depth - 2) ((KR.ro 2 rfl).less (Zk (i:=8) rfl)) ((KR.ro 7 rfl).less (Zk (i:=8) rfl)) hT HIN.out (by omega) (by omega)).mono ?_
   rintro e w6 ⟨x,rfl,hx,rx,tY,gY⟩
   have K7:=((Hold.Zf KR 8 rfl gY tY).add rx).Za #[.int .i64 x.kind,.int .i64 x.op,.bool x.nt,.int .i64 x.v.k,.int .i64 x.v.i,.string x.v.s,.string x.tab,.string x.nm,.slice x.A x.n x.c,.slice x.B x.m x.d] 126
   rw [show x.val=.agg #[.int .i64 x.kind,.int .i64 x.op,.bool x.nt,.int .i64 x.v.k,.int .i64 x.v.i,.string x.v.s,.string x.tab,.string x.nm,.slice x.A x.n x.c,.slice x.B x.m x.d] from rfl]
   clear FR KR rx tY gY
   have F7:=K7.facts
   simp only [zg] at F7
   have K8:=K7.store 2 rfl 1 (.slice (some ⟨w6.heap.size,0,none⟩) 1 1)
   simp only [zl] at K8
   clear K7
   go_wp2_with fail
   go_meet
   exact ⟨⟨some ⟨w6.heap.size,0,none⟩,1,1,[x]⟩,VV hx,(K8.add (XF (K8.get 0 rfl) rfl (K8.ro 1 rfl))).pick [3,0,4,5,7,10,11] (by decide) rfl⟩
  ·go_wp2_with fail
   go_meet
   exact ⟨SlP.nil,VO,(KR.add (S:=Yd (m+2) SlP.nil) (fun w2 _ _=>SlP.Zx _ _ _ w2)).pick [1,0,2,3,5,8,9] (by decide) rfl⟩
 case rest=>
  obtain ⟨⟨iA,iN,iC,il⟩,hit,K3⟩:=hcut
  clear KR FR
  simp only at K3
  have HIT:=hid hit
  clear hit
  have F3:=K3.facts
  simp only [zg] at F3
  go_wp2_with fail
  refine (Z8 T 3 _ (K3.tp_ 6 rfl) (by omega) (by omega)).mono ?_
  rintro e w7 ⟨b,rfl,t7,g7⟩
  have K4:=Hold.Zf K3 6 rfl g7 t7
  clear K3 F3 g7 t7
  have F4:=K4.facts
  simp only [zg] at F4
  go_upto_if 40 with (fail)
  go_cut [] (fun wx=>∃ wh:SlP Ex,Wd (m+2) wh∧Hold M (some T) w wx [.blk gq 273 #[.bool (kind==8),.slice iA iN iC,.string xnm,.slice wh.A wh.n wh.c],.ro (Yd (m+2) ⟨iA,iN,iC,il⟩),.ro (Yd (m+2) wh),.blk gr 126 #[.int .i64 0,.int .i64 0,.bool false,.int .i64 0,.int .i64 0,.string ⟨#[]⟩,.string ⟨#[]⟩,.string ⟨#[]⟩,.slice none 0 0,.slice none 0 0],.tp T])
  case first=>
   cases b
   ·go_wp2_with fail
    refine (HE (Mut M _) T _ K4.Zb (K4.tp_ 6 rfl) (K4.get 6 rfl).2 ⟨⟨A9,fn+1,c9,fl2⟩,⟨some ⟨bS,oS,none⟩,sn,sc,sl⟩⟩ 2 (depth - 1) ((K4.ro 3 rfl).less (Zk (i:=6) rfl)) ((K4.ro 5 rfl).less (Zk (i:=6) rfl)) hT HIN.out (by omega) (by omega)).mono ?_
    rintro e w6 ⟨x,rfl,hx,rx,tY,gY⟩
    have K7:=((Hold.Zf K4 6 rfl gY tY).add rx).Za #[.int .i64 x.kind,.int .i64 x.op,.bool x.nt,.int .i64 x.v.k,.int .i64 x.v.i,.string x.v.s,.string x.tab,.string x.nm,.slice x.A x.n x.c,.slice x.B x.m x.d] 126
    rw [show x.val=.agg #[.int .i64 x.kind,.int .i64 x.op,.bool x.nt,.int .i64 x.v.k,.int .i64 x.v.i,.string x.v.s,.string x.tab,.string x.nm,.slice x.A x.n x.c,.slice x.B x.m x.d] from rfl]
    clear F4 K4 rx tY gY
    have F7:=K7.facts
    simp only [zg] at F7
    have K8:=K7.store 2 rfl 3 (.slice (some ⟨w6.heap.size,0,none⟩) 1 1)
    simp only [zl] at K8
    clear K7
    go_wp2_with fail
    go_meet
    exact ⟨⟨some ⟨w6.heap.size,0,none⟩,1,1,[x]⟩,VV hx,(K8.add (XF (K8.get 0 rfl) rfl (K8.ro 1 rfl))).pick [3,4,0,7,9] (by decide) rfl⟩
   ·go_wp2_with fail
    go_meet
    exact ⟨SlP.nil,VO,(K4.add (S:=Yd (m+2) SlP.nil) (fun w2 _ _=>SlP.Zx _ _ _ w2)).pick [1,2,0,5,7] (by decide) rfl⟩
  case rest=>
   obtain ⟨⟨hA,hN,hC,hl⟩,hwh,K5⟩:=hcut
   clear K4 F4
   simp only at K5
   have HOK:=hid (fun g:Nat=>ZdI (g:=g) (star:=(kind==8)) (nm:=xnm) hk hk1 HIT.out hwh)
   clear hwh
   have K6:=K5.Za #[.bool (kind==8),.slice iA iN iC,.string xnm,.slice hA hN hC] 273
   have q0:=(K5.ZF 0 rfl).cell 0
   have q1:=(K5.ZF 0 rfl).cell 1
   have q2:=(K5.ZF 0 rfl).cell 2
   have q3:=(K5.ZF 0 rfl).cell 3
   simp only [List.getElem?_toArray,List.getElem?_cons_zero,List.getElem?_cons_succ] at q0 q1 q2 q3
   have F6:=K6.facts
   simp only [zg] at F6
   have K7:=((((((((((K6.store 4 rfl 0 (.int .i64 kind)).store 4 rfl 1 (.int .i64 0)).store 4 rfl 2 (.bool false)).store 4 rfl 3 (.int .i64 0)).store 4 rfl 4 (.int .i64 0)).store 4 rfl 5 (.string ⟨#[]⟩)).store 4 rfl 6 (.string ⟨#[]⟩)).store 4 rfl 7 (.string ⟨#[]⟩)).store 4 rfl 8 (.slice none 0 0)).store 4 rfl 9 (.slice (some ⟨wc.heap.size,0,none⟩) 1 1))
   simp only [zl] at K7
   have F7:=K7.facts
   simp only [zg] at F7
   have hq1:Ro _ _ (SlR 4 (some ⟨wc.heap.size,0,none⟩) 1 [.bool (kind==8),.slice iA iN iC,.string xnm,.slice hA hN hC]):=ZL (K7.get 0 rfl) rfl
   have HR:=hid (((hq1.and ((K7.ro 2 rfl).and (K7.ro 3 rfl))).imp (S' :=ExIn (m+2+1) (quE kind wc.heap.size (WU (kind==8) ⟨iA,iN,iC,il⟩ xnm ⟨hA,hN,hC,hl⟩))) fun w2 h2=>Zci h2.1 h2.2.1 h2.2.2).less zm)
   have HT:=hid (And.intro (K7.tp_ 5 rfl) K7.grow)
   clear K5 K6 K7 hq1
   go_wp2_with fail
   refine bodyPost_ret (v:=.agg #[.int .i64 kind,.int .i64 0,.bool false,.int .i64 0,.int .i64 0,.string ⟨#[]⟩,.string ⟨#[]⟩,.string ⟨#[]⟩,.slice none 0 0,.slice (some ⟨wc.heap.size,0,none⟩) 1 1]) ?_ rfl ?_
   ·clear HT HR HOK HIT
    simp [results,Tryz.results155,go_sem,F7]
   ·exact ⟨quE kind wc.heap.size (WU (kind==8) ⟨iA,iN,iC,il⟩ xnm ⟨hA,hN,hC,hl⟩),rfl,(HOK.out _).le (by omega),HR.out.imp (fun w2 h2=>h2.le (by omega)),HT.out.1,HT.out.2⟩
theorem WJ:∀ n:Nat,GE n
 | 0=>Zap (fun m h=>absurd h (by omega)) (fun h=>absurd h (by omega)) (fun h=>absurd h (by omega))
 | n+1=>Zap (fun m h=>(show n=m by omega) ▸ WJ n) (fun _=>ZhD (WJ n)) (fun _=>Zd0 (WJ n))
def Ac.val (a:Ac):Value:=.agg #[.int .i64 a.kind,.string a.tab,.slice a.rows.A a.rows.n a.rows.c,.slice a.qs.A a.qs.n a.qs.c,.slice a.sets.A a.sets.n a.sets.c,.slice a.wh.A a.wh.n a.wh.c,.string a.text]
def Tg.val (t:Tg):Value:=.agg #[.string t.name,.string t.tab,.bool t.before,.int .i64 t.event,.slice t.cols.A t.cols.n t.cols.c,.bool t.each,.slice t.prec.A t.prec.n t.prec.c,.slice t.foll.A t.foll.n t.foll.c,.slice t.rank.A t.rank.n t.rank.c,.slice t.cond.A t.cond.n t.cond.c,.slice t.acts.A t.acts.n t.acts.c]
def Xw (l:List Tg):List Value:=l.flatMap Tg.cells
def Wx (d:Nat) (A:Option Addr) (n:Nat) (l:List Tg) (w:World):Prop:=SlR 11 A n (Xw l) w∧∀ t∈l,Yg d t w
def Vd (d:Nat) (l:List Tg) (w:World):Prop:=∀ t∈l,Yg d t w
theorem Zfg (l:List Tg) (x:Tg):Xw (l++[x])=Xw l++x.cells:=by simp [Xw]
def ZfK (w:World) (M:Nat→Prop) (s:Sm) (e:Ending) (w' :World):Prop:=∃ fs:SlP Fr,e=.returned fs.v∧fs.n≤fs.c∧fs.n≤2∧(∀ f∈fs.l,f.cols.n=s.cols.n)∧Ro w' M (FrsIn fs)∧Below w.heap.size w w'
set_option maxRecDepth 100000 in
set_option maxHeartbeats 8000000 in
theorem ZaE (M:Nat→Prop) (w:World) (hM:∀ b,M b→b<w.heap.size) (t:Tg) (s:Sm) (hs:Ro w M (ZQ s)) (hn:s.cols.n≤1000):Calls Tryz.prog 75 #[t.val,s.val,.slice none 0 0,.slice none 0 0] w fun e w' =>ZfK w M s e w' :=by
 obtain ⟨tn,tt,tb,te,⟨oA,on,oc,ol⟩,tch,⟨pA,pn,pc,pl⟩,⟨qA,qn,qc,ql⟩,⟨rA,rn,rc,rl⟩,⟨kA,kn,kc,kl⟩,⟨aA,an,ac,al⟩⟩:=t
 obtain ⟨snm,⟨cA,cn,cc,cl⟩⟩:=s
 have hcn:cn≤1000:=hn
 have K0:=((((Hold.start M w hM).add (hs.less (by simp [Mut]))).Za #[.string tn,.string tt,.bool tb,.int .i64 te,.slice oA on oc,.bool tch,.slice pA pn pc,.slice qA qn qc,.slice rA rn rc,.slice kA kn kc,.slice aA an ac] 40).Za #[.string snm,.slice cA cn cc] 49).nil 210 4
 have F0:=K0.facts
 simp only [zg] at F0
 rw [World.size_alloc] at K0
 have KP:Hold M none w _ [.own 210 4 (.slice none 0 0) 0 [],.ro (ZQ ⟨snm,⟨cA,cn,cc,cl⟩⟩),.cst w.heap.size 40 #[.string tn,.string tt,.bool tb,.int .i64 te,.slice oA on oc,.bool tch,.slice pA pn pc,.slice qA qn qc,.slice rA rn rc,.slice kA kn kc,.slice aA an ac],.cst (w.heap.size+1) 49 #[.string snm,.slice cA cn cc]]:=K0.pick [0,3,2,1] (by decide) rfl
 simp only [Tg.val,Sm.val]
 clear hs K0
 go_enter Tryz.func75,Tryz.ntmps75
 cases tch
 ·have HB:=hid KP.below
  go_wp2_with fail
  go_ret
  exact ⟨SlP.nil,rfl,Nat.le_refl _,by simp [SlP.nil],fun f hf=>(nomatch hf),fun w2 _ _=>⟨ZE 4 w2,fun _ hx=>(nomatch hx)⟩,HB.out⟩
 ·by_cases e2:te=2
  ·subst e2
   have N1:=KP.nil 158 4
   have H1:=hid (show SlR 4 cA cn (Zd cl) _ from (N1.ro 2 rfl).now.1)
   go_wp2_with (at_builtin;go_must (refine ZW N1 0 rfl Tryz.WG H1.out rfl (.const (.slice none 0 0)) (.tmp 24) rfl rfl rfl (WX cl) (by omega) (by omega) ?_);intro C1 cap1 wA1 hcA1 hmA1 KB1;simp only [Nat.zero_add] at hcA1 ⊢;simp only [Nat.zero_add,List.nil_append,List.set_cons_zero,List.set_cons_succ] at KB1)
   have KS1:=KB1.Zu 0 rfl
   simp only [List.set_cons_zero] at KS1
   refine (Xf (Mut M _) _ KS1.Zb none 0 0 [] (fun w2 _ _=>ZE 3 w2) (by omega)).mono ?_
   rintro e w1 ⟨D1,dn1,dc1,rfl,hd01,hd11,hd21,ro1,b1⟩
   obtain rfl:dn1=0:=by simpa using hd01
   clear hd01
   have KD1:=((KS1.call b1).add ro1).Za #[.string ⟨#[79,76,68]⟩,.bool true,.slice C1 cn cap1,.slice D1 0 dc1] 210
   have FD1:=KD1.facts
   simp only [zg] at FD1
   have E1:=hid (show SlR 4 (some ⟨w1.heap.size,0,none⟩) 1 [.string ⟨#[79,76,68]⟩,.bool true,.slice C1 cn cap1,.slice D1 0 dc1] _ from ((ZL (KD1.get 0 rfl) rfl:Ro _ _ _).now))
   clear KB1 KS1 b1 ro1
   go_upto_region 4 with (at_builtin;go_must (refine ZW KD1 3 rfl Tryz.WZ E1.out rfl (.tmp 22) (.tmp 29) rfl rfl rfl (by intro u hu;simp at hu;rcases hu with rfl|rfl|rfl|rfl<;>rfl) (by omega) (by omega) ?_);intro G1 gc1 wB1 hcB1 hmB1 KE1;(try simp only [Nat.zero_add,Nat.reduceAdd] at hcB1 ⊢);simp only [Nat.zero_add,Nat.reduceAdd,List.nil_append,List.set_cons_zero,List.set_cons_succ] at KE1;(have hf1:Ro _ _ (FrIn ⟨⟨#[79,76,68]⟩,true,⟨C1,cn,cap1,cl⟩,⟨D1,0,dc1,[]⟩⟩):=((KE1.ro 2 rfl).and (KE1.ro 1 rfl)).imp fun w2 h2=>⟨⟨h2.1,fun _ _=>trivial⟩,⟨h2.2,fun _ hx=>(nomatch hx)⟩⟩);(have K1:Hold M none w wB1 [.own 210 4 (.slice G1 1 gc1) 1 [.string ⟨#[79,76,68]⟩,.bool true,.slice C1 cn cap1,.slice D1 0 dc1],.ro (ZQ ⟨snm,⟨cA,cn,cc,cl⟩⟩),.cst w.heap.size 40 #[.string tn,.string tt,.bool tb,.int .i64 2,.slice oA on oc,.bool true,.slice pA pn pc,.slice qA qn qc,.slice rA rn rc,.slice kA kn kc,.slice aA an ac],.cst (w.heap.size+1) 49 #[.string snm,.slice cA cn cc],.ro (FrIn ⟨⟨#[79,76,68]⟩,true,⟨C1,cn,cap1,cl⟩,⟨D1,0,dc1,[]⟩⟩)]:=(KE1.add hf1).pick [4,5,6,7,0] (by decide) rfl);(have F1:=K1.facts);simp only [zg] at F1;clear KE1 KD1 FD1 hf1)
   have N2:=K1.nil 158 4
   have H2:=hid (show SlR 4 cA cn (Zd cl) _ from (N2.ro 2 rfl).now.1)
   go_wp2_with (at_builtin;go_must (refine ZW N2 0 rfl Tryz.WG H2.out rfl (.const (.slice none 0 0)) (.tmp 45) rfl rfl rfl (WX cl) (by omega) (by omega) ?_);intro C2 cap2 wA2 hcA2 hmA2 KB2;simp only [Nat.zero_add] at hcA2 ⊢;simp only [Nat.zero_add,List.nil_append,List.set_cons_zero,List.set_cons_succ] at KB2)
   have KS2:=KB2.Zu 0 rfl
   simp only [List.set_cons_zero] at KS2
   refine (Xf (Mut M _) _ KS2.Zb none 0 0 [] (fun w2 _ _=>ZE 3 w2) (by omega)).mono ?_
   rintro e w2 ⟨D2,dn2,dc2,rfl,hd02,hd12,hd22,ro2,b2⟩
   obtain rfl:dn2=0:=by simpa using hd02
   clear hd02
   have KD2:=((KS2.call b2).add ro2).Za #[.string ⟨#[78,69,87]⟩,.bool true,.slice C2 cn cap2,.slice D2 0 dc2] 210
   have FD2:=KD2.facts
   simp only [zg] at FD2
   have E2:=hid (show SlR 4 (some ⟨w2.heap.size,0,none⟩) 1 [.string ⟨#[78,69,87]⟩,.bool true,.slice C2 cn cap2,.slice D2 0 dc2] _ from ((ZL (KD2.get 0 rfl) rfl:Ro _ _ _).now))
   clear KB2 KS2 b2 ro2
   go_wp2_with (at_builtin;go_must (refine ZW KD2 3 rfl Tryz.WZ E2.out rfl (.tmp 43) (.tmp 50) rfl rfl rfl (by intro u hu;simp at hu;rcases hu with rfl|rfl|rfl|rfl<;>rfl) (by omega) (by omega) ?_);intro G2 gc2 wB2 hcB2 hmB2 KE2;(try simp only [Nat.zero_add,Nat.reduceAdd] at hcB2 ⊢);simp only [Nat.zero_add,Nat.reduceAdd,List.nil_append,List.set_cons_zero,List.set_cons_succ] at KE2;(have hf2:Ro _ _ (FrIn ⟨⟨#[78,69,87]⟩,true,⟨C2,cn,cap2,cl⟩,⟨D2,0,dc2,[]⟩⟩):=((KE2.ro 2 rfl).and (KE2.ro 1 rfl)).imp fun w2 h2=>⟨⟨h2.1,fun _ _=>trivial⟩,⟨h2.2,fun _ hx=>(nomatch hx)⟩⟩);(have K2:Hold M none w wB2 [.own 210 4 (.slice G2 2 gc2) 2 [.string ⟨#[79,76,68]⟩,.bool true,.slice C1 cn cap1,.slice D1 0 dc1,.string ⟨#[78,69,87]⟩,.bool true,.slice C2 cn cap2,.slice D2 0 dc2],.ro (ZQ ⟨snm,⟨cA,cn,cc,cl⟩⟩),.cst w.heap.size 40 #[.string tn,.string tt,.bool tb,.int .i64 2,.slice oA on oc,.bool true,.slice pA pn pc,.slice qA qn qc,.slice rA rn rc,.slice kA kn kc,.slice aA an ac],.cst (w.heap.size+1) 49 #[.string snm,.slice cA cn cc],.ro (FrIn ⟨⟨#[79,76,68]⟩,true,⟨C1,cn,cap1,cl⟩,⟨D1,0,dc1,[]⟩⟩),.ro (FrIn ⟨⟨#[78,69,87]⟩,true,⟨C2,cn,cap2,cl⟩,⟨D2,0,dc2,[]⟩⟩)]:=(KE2.add hf2).pick [4,5,6,7,8,0] (by decide) rfl);(have F2:=K2.facts);simp only [zg] at F2;clear KE2 KD2 FD2 hf2)
   have KZ:=K2.Zu 0 rfl
   simp only [List.set_cons_zero] at KZ
   have HB:=hid KZ.below
   have hR:Ro _ _ (FrsIn ⟨G2,2,gc2,[⟨⟨#[79,76,68]⟩,true,⟨C1,cn,cap1,cl⟩,⟨D1,0,dc1,[]⟩⟩,⟨⟨#[78,69,87]⟩,true,⟨C2,cn,cap2,cl⟩,⟨D2,0,dc2,[]⟩⟩]⟩):=((KZ.ro 0 rfl).and ((KZ.ro 4 rfl).and (KZ.ro 5 rfl))).imp (fun w2 h2=>⟨h2.1,fun f hf=>by
      simp only [List.mem_cons,List.not_mem_nil,or_false] at hf
      rcases hf with rfl|rfl
      ·exact h2.2.1
      ·exact h2.2.2⟩)
   have HR:=hid (hR.less zm)
   clear KZ hR
   go_wp2_with fail
   go_ret
   exact ⟨⟨G2,2,gc2,[⟨⟨#[79,76,68]⟩,true,⟨C1,cn,cap1,cl⟩,⟨D1,0,dc1,[]⟩⟩,⟨⟨#[78,69,87]⟩,true,⟨C2,cn,cap2,cl⟩,⟨D2,0,dc2,[]⟩⟩]⟩,rfl,by simpa using hcB2,by simp,fun f hf=>by
     simp only [List.mem_cons,List.not_mem_nil,or_false] at hf
     rcases hf with rfl|rfl<;>rfl,HR.out,HB.out⟩
  ·by_cases e3:te=3
   ·subst e3
    have N1:=KP.nil 158 4
    have H1:=hid (show SlR 4 cA cn (Zd cl) _ from (N1.ro 2 rfl).now.1)
    go_wp2_with (at_builtin;go_must (refine ZW N1 0 rfl Tryz.WG H1.out rfl (.const (.slice none 0 0)) (.tmp 24) rfl rfl rfl (WX cl) (by omega) (by omega) ?_);intro C1 cap1 wA1 hcA1 hmA1 KB1;simp only [Nat.zero_add] at hcA1 ⊢;simp only [Nat.zero_add,List.nil_append,List.set_cons_zero,List.set_cons_succ] at KB1)
    have KS1:=KB1.Zu 0 rfl
    simp only [List.set_cons_zero] at KS1
    refine (Xf (Mut M _) _ KS1.Zb none 0 0 [] (fun w2 _ _=>ZE 3 w2) (by omega)).mono ?_
    rintro e w1 ⟨D1,dn1,dc1,rfl,hd01,hd11,hd21,ro1,b1⟩
    obtain rfl:dn1=0:=by simpa using hd01
    clear hd01
    have KD1:=((KS1.call b1).add ro1).Za #[.string ⟨#[79,76,68]⟩,.bool true,.slice C1 cn cap1,.slice D1 0 dc1] 210
    have FD1:=KD1.facts
    simp only [zg] at FD1
    have E1:=hid (show SlR 4 (some ⟨w1.heap.size,0,none⟩) 1 [.string ⟨#[79,76,68]⟩,.bool true,.slice C1 cn cap1,.slice D1 0 dc1] _ from ((ZL (KD1.get 0 rfl) rfl:Ro _ _ _).now))
    clear KB1 KS1 b1 ro1
    go_wp2_with (at_builtin;go_must (refine ZW KD1 3 rfl Tryz.WZ E1.out rfl (.tmp 22) (.tmp 29) rfl rfl rfl (by intro u hu;simp at hu;rcases hu with rfl|rfl|rfl|rfl<;>rfl) (by omega) (by omega) ?_);intro G1 gc1 wB1 hcB1 hmB1 KE1;(try simp only [Nat.zero_add,Nat.reduceAdd] at hcB1 ⊢);simp only [Nat.zero_add,Nat.reduceAdd,List.nil_append,List.set_cons_zero,List.set_cons_succ] at KE1;(have hf1:Ro _ _ (FrIn ⟨⟨#[79,76,68]⟩,true,⟨C1,cn,cap1,cl⟩,⟨D1,0,dc1,[]⟩⟩):=((KE1.ro 2 rfl).and (KE1.ro 1 rfl)).imp fun w2 h2=>⟨⟨h2.1,fun _ _=>trivial⟩,⟨h2.2,fun _ hx=>(nomatch hx)⟩⟩);(have K1:Hold M none w wB1 [.own 210 4 (.slice G1 1 gc1) 1 [.string ⟨#[79,76,68]⟩,.bool true,.slice C1 cn cap1,.slice D1 0 dc1],.ro (ZQ ⟨snm,⟨cA,cn,cc,cl⟩⟩),.cst w.heap.size 40 #[.string tn,.string tt,.bool tb,.int .i64 3,.slice oA on oc,.bool true,.slice pA pn pc,.slice qA qn qc,.slice rA rn rc,.slice kA kn kc,.slice aA an ac],.cst (w.heap.size+1) 49 #[.string snm,.slice cA cn cc],.ro (FrIn ⟨⟨#[79,76,68]⟩,true,⟨C1,cn,cap1,cl⟩,⟨D1,0,dc1,[]⟩⟩)]:=(KE1.add hf1).pick [4,5,6,7,0] (by decide) rfl);(have F1:=K1.facts);simp only [zg] at F1;clear KE1 KD1 FD1 hf1)
    have KZ:=K1.Zu 0 rfl
    simp only [List.set_cons_zero] at KZ
    have HB:=hid KZ.below
    have hR:Ro _ _ (FrsIn ⟨G1,1,gc1,[⟨⟨#[79,76,68]⟩,true,⟨C1,cn,cap1,cl⟩,⟨D1,0,dc1,[]⟩⟩]⟩):=((KZ.ro 0 rfl).and (KZ.ro 4 rfl)).imp (fun w2 h2=>⟨h2.1,fun f hf=>by
       simp only [List.mem_cons,List.not_mem_nil,or_false] at hf
       subst hf
       exact h2.2⟩)
    have HR:=hid (hR.less zm)
    clear KZ hR
    go_wp2_with fail
    go_ret
    exact ⟨⟨G1,1,gc1,[⟨⟨#[79,76,68]⟩,true,⟨C1,cn,cap1,cl⟩,⟨D1,0,dc1,[]⟩⟩]⟩,rfl,by simpa using hcB1,by simp,fun f hf=>by
      simp only [List.mem_cons,List.not_mem_nil,or_false] at hf
      subst hf
      rfl,HR.out,HB.out⟩
   ·by_cases e1:te=1
    ·subst e1
     have N1:=KP.nil 158 4
     have H1:=hid (show SlR 4 cA cn (Zd cl) _ from (N1.ro 2 rfl).now.1)
     go_wp2_with (at_builtin;go_must (refine ZW N1 0 rfl Tryz.WG H1.out rfl (.const (.slice none 0 0)) (.tmp 45) rfl rfl rfl (WX cl) (by omega) (by omega) ?_);intro C1 cap1 wA1 hcA1 hmA1 KB1;simp only [Nat.zero_add] at hcA1 ⊢;simp only [Nat.zero_add,List.nil_append,List.set_cons_zero,List.set_cons_succ] at KB1)
     have KS1:=KB1.Zu 0 rfl
     simp only [List.set_cons_zero] at KS1
     refine (Xf (Mut M _) _ KS1.Zb none 0 0 [] (fun w2 _ _=>ZE 3 w2) (by omega)).mono ?_
     rintro e w1 ⟨D1,dn1,dc1,rfl,hd01,hd11,hd21,ro1,b1⟩
     obtain rfl:dn1=0:=by simpa using hd01
     clear hd01
     have KD1:=((KS1.call b1).add ro1).Za #[.string ⟨#[78,69,87]⟩,.bool true,.slice C1 cn cap1,.slice D1 0 dc1] 210
     have FD1:=KD1.facts
     simp only [zg] at FD1
     have E1:=hid (show SlR 4 (some ⟨w1.heap.size,0,none⟩) 1 [.string ⟨#[78,69,87]⟩,.bool true,.slice C1 cn cap1,.slice D1 0 dc1] _ from ((ZL (KD1.get 0 rfl) rfl:Ro _ _ _).now))
     clear KB1 KS1 b1 ro1
     go_wp2_with (at_builtin;go_must (refine ZW KD1 3 rfl Tryz.WZ E1.out rfl (.tmp 43) (.tmp 50) rfl rfl rfl (by intro u hu;simp at hu;rcases hu with rfl|rfl|rfl|rfl<;>rfl) (by omega) (by omega) ?_);intro G1 gc1 wB1 hcB1 hmB1 KE1;(try simp only [Nat.zero_add,Nat.reduceAdd] at hcB1 ⊢);simp only [Nat.zero_add,Nat.reduceAdd,List.nil_append,List.set_cons_zero,List.set_cons_succ] at KE1;(have hf1:Ro _ _ (FrIn ⟨⟨#[78,69,87]⟩,true,⟨C1,cn,cap1,cl⟩,⟨D1,0,dc1,[]⟩⟩):=((KE1.ro 2 rfl).and (KE1.ro 1 rfl)).imp fun w2 h2=>⟨⟨h2.1,fun _ _=>trivial⟩,⟨h2.2,fun _ hx=>(nomatch hx)⟩⟩);(have K1:Hold M none w wB1 [.own 210 4 (.slice G1 1 gc1) 1 [.string ⟨#[78,69,87]⟩,.bool true,.slice C1 cn cap1,.slice D1 0 dc1],.ro (ZQ ⟨snm,⟨cA,cn,cc,cl⟩⟩),.cst w.heap.size 40 #[.string tn,.string tt,.bool tb,.int .i64 1,.slice oA on oc,.bool true,.slice pA pn pc,.slice qA qn qc,.slice rA rn rc,.slice kA kn kc,.slice aA an ac],.cst (w.heap.size+1) 49 #[.string snm,.slice cA cn cc],.ro (FrIn ⟨⟨#[78,69,87]⟩,true,⟨C1,cn,cap1,cl⟩,⟨D1,0,dc1,[]⟩⟩)]:=(KE1.add hf1).pick [4,5,6,7,0] (by decide) rfl);(have F1:=K1.facts);simp only [zg] at F1;clear KE1 KD1 FD1 hf1)
     have KZ:=K1.Zu 0 rfl
     simp only [List.set_cons_zero] at KZ
     have HB:=hid KZ.below
     have hR:Ro _ _ (FrsIn ⟨G1,1,gc1,[⟨⟨#[78,69,87]⟩,true,⟨C1,cn,cap1,cl⟩,⟨D1,0,dc1,[]⟩⟩]⟩):=((KZ.ro 0 rfl).and (KZ.ro 4 rfl)).imp (fun w2 h2=>⟨h2.1,fun f hf=>by
        simp only [List.mem_cons,List.not_mem_nil,or_false] at hf
        subst hf
        exact h2.2⟩)
     have HR:=hid (hR.less zm)
     clear KZ hR
     go_wp2_with fail
     go_ret
     exact ⟨⟨G1,1,gc1,[⟨⟨#[78,69,87]⟩,true,⟨C1,cn,cap1,cl⟩,⟨D1,0,dc1,[]⟩⟩]⟩,rfl,by simpa using hcB1,by simp,fun f hf=>by
       simp only [List.mem_cons,List.not_mem_nil,or_false] at hf
       subst hf
       rfl,HR.out,HB.out⟩
    ·have c2:(te==2)=false:=by simpa using e2
     have c3:(te==3)=false:=by simpa using e3
     have c1:(te==1)=false:=by simpa using e1
     have HB:=hid KP.below
     go_wp2_with fail
     go_ret
     exact ⟨SlP.nil,rfl,Nat.le_refl _,by simp [SlP.nil],fun f hf=>(nomatch hf),(fun w2 _ _=>⟨ZE 4 w2,fun _ hx=>(nomatch hx)⟩),HB.out⟩
theorem Zbc {cs:List Col} {nx nx' :Int} (h:nx≤nx'):∀ {lst:Int} {rs:List Row},okR cs nx lst rs=true→okR cs nx' lst rs=true
 | _,[],_=>rfl
 | lst,r::rs,hr=>by
  rw [okR] at hr ⊢
  simp only [Bool.and_eq_true,decide_eq_true_eq] at hr ⊢
  exact ⟨⟨⟨hr.1.1.1,by omega⟩,hr.1.2⟩,Zbc h hr.2⟩
theorem Zan {cs:List Col} {nx nx' :Int} {vs:List Vl} (hf:ZC cs vs=0) (hx:nx<nx'):∀ {lst:Int} {rs:List Row},lst<nx→okR cs nx lst rs=true→okR cs nx' lst (rs++[(nx,vs)])=true
 | lst,[],hl,_=>by
  simp only [List.nil_append,okR,Bool.and_eq_true,decide_eq_true_eq,Bool.and_true]
  exact ⟨⟨hl,hx⟩,hf⟩
 | lst,r::rs,hl,hr=>by
  rw [okR] at hr
  rw [List.cons_append,okR]
  simp only [Bool.and_eq_true,decide_eq_true_eq] at hr ⊢
  exact ⟨⟨⟨hr.1.1.1,by omega⟩,hr.1.2⟩,Zan hf hx (by omega) hr.2⟩
def Xv (κ:Nat) (l:List (List Vl)):List Vl:=l.filterMap (·[κ]?)
theorem J6 {κ:Nat}:∀ (l:List (List Vl)) (seen:List Vl),Yi κ seen l=false↔(∀ v∈Xv κ l,v ∉ seen)∧(Xv κ l).Nodup
 | [],seen=>by simp [Yi,Xv]
 | r::l,seen=>by
  have h0:(0:Int)≤(κ:Int):=by omega
  rw [Yi,if_pos h0]
  simp only [Int.toNat_natCast]
  cases hr:r[κ]? with
  | none=>
   have e:Xv κ (r::l)=Xv κ l:=by simp [Xv,hr]
   rw [e]
   simpa using J6 l seen
  | some v=>
   have e:Xv κ (r::l)=v::Xv κ l:=by simp [Xv,hr]
   rw [e]
   simp only
   by_cases hv:v∈seen
   ·simp [hv]
   ·rw [if_neg hv,J6 l (v::seen)]
    simp only [List.mem_cons,not_or,List.nodup_cons,List.forall_mem_cons]
    constructor
    ·rintro ⟨h1,h2⟩
     refine ⟨fun x hx=>?_,fun hm=>(h1 v hm).1 rfl,h2⟩
     rcases hx with rfl|hx
     ·exact hv
     ·exact (h1 x hx).2
    ·rintro ⟨h1,h2,h3⟩
     exact ⟨fun x hx=>⟨fun hxv=>h2 (hxv ▸ hx),h1 x (.inr hx)⟩,h3⟩
theorem Zc9 {κ:Nat} {l:List (List Vl)} {vs:List Vl} (h:Yi κ [] l=false) (hn:∀ x∈l,x[κ]? =none∨x[κ]? ≠vs[κ]?):Yi κ [] (l++[vs])=false:=by
 rw [J6] at h ⊢
 refine ⟨fun v _ hv=>(List.not_mem_nil hv),?_⟩
 have e:Xv κ (l++[vs])=Xv κ l++(vs[κ]?).toList:=by
  unfold Xv
  rw [List.filterMap_append]
  congr 1
 rw [e]
 cases hv:vs[κ]? with
 | none=>simpa using h.2
 | some v=>
  simp only [Option.toList_some]
  rw [List.nodup_append]
  refine ⟨h.2,by simp,fun x hx y hy=>?_⟩
  simp only [List.mem_singleton] at hy
  subst hy
  rintro rfl
  obtain ⟨r,hr,hrx⟩:=List.mem_filterMap.1 hx
  rcases hn r hr with h1|h1
  ·rw [h1] at hrx;cases hrx
  ·exact h1 (hrx.trans hv.symm)
theorem Zc2 {cs:List Col} {rs:List Row} {id:Int} {vs:List Vl} (h:YW cs rs=false) (hn:Zi Col.key cs<0∨∀ x∈rs,x.2[(Zi Col.key cs).toNat]? =none∨x.2[(Zi Col.key cs).toNat]? ≠vs[(Zi Col.key cs).toNat]?):YW cs (rs++[(id,vs)])=false:=by
 rcases Int.lt_or_le (Zi Col.key cs) 0 with hk|hk
 ·exact GA hk _ _
 ·obtain ⟨κ,hκ⟩:=Int.eq_ofNat_of_zero_le hk
  have hn2:=hn.resolve_left (by omega)
  unfold YW at h ⊢
  rw [hκ] at h hn2 ⊢
  rw [List.map_append]
  exact Zc9 h fun x hx=>by
   obtain ⟨r,hr,rfl⟩:=List.mem_map.1 hx
   exact hn2 r hr
theorem zQ {α:Type} (p:α→Bool):∀ (l:List α) (k f:Nat),Z7 p k l=(f:Int)→k≤f∧f<k+l.length
 | [],k,f,h=>by rw [Z7] at h;omega
 | c::r,k,f,h=>by
  rw [Z7] at h
  split at h
  ·simp only [List.length_cons];omega
  ·have:=zQ p r (k+1) f h
   simp only [List.length_cons];omega
theorem Zfz {cs:List Col} {κ:Nat} (h:(κ:Int)=Zi Col.key cs):κ<cs.length:=by
 have:=zQ Col.key cs 0 κ h.symm
 omega
def QL (cs:List Col):Prop:=∀ (i:Nat) (c:Col),cs[i]? =some c→c.key=true→Zi Col.key cs=i
theorem ZeH {nm:ByteArray} {cs:List Col} {nx:Int} {rs:List Row} (h1:Yc nm cs=true) (h2:rs.length≤100) (h3:1≤nx) (h4:nx≤2147483648) (h5:okR cs nx 0 rs=true) (h6:YW cs rs=false):Zn nm cs nx rs=true:=by
 rw [Zag h1 h2 h3 h4 h5,h6];rfl
theorem Ro.U8 {w:World} {M:Nat→Prop} {A:Option Addr} {n:Nat} {l:List Vl} (h:Ro w M (VlsIn A n l)) {k:Nat} {x:Vl} (hx:l[k]? =some x):
  ∃ b o,A=some ⟨b,o,none⟩∧Ro w M (fun w=>b<w.heap.size∧w.cell? ⟨b,o+k * 3,none⟩=some (.int .i64 x.k)∧w.cell? ⟨b,o+k * 3+1,none⟩=some (.int .i64 x.i)∧w.cell? ⟨b,o+k * 3+2,none⟩=some (.string x.s)):=by
 obtain ⟨b,o,e,_⟩:=h.now.at_ hx
 refine ⟨b,o,e,fun w2 h1 h2=>?_⟩
 obtain ⟨b',o',e',h3,h4,h5,h6⟩:=(h w2 h1 h2).at_ hx
 rw [e] at e'
 injection e' with e'
 injection e' with e1 e2
 subst e1;subst e2
 exact ⟨h3,h4,h5,h6⟩
theorem Hold.name {M:Nat→Prop} {row:Option Nat} {w0 w:World} {L:List Hp} (h:Hold M row w0 w L):∃ KL,KL=L∧Hold M row w0 w KL:=⟨L,rfl,h⟩
theorem Zhy {xs:List Int} {k:Nat} {x y:Int} (hx:xs[k]? =some y) (h:x=y):xs.contains x=true:=by
 subst h;simpa using List.mem_of_getElem? hx
theorem ZhN {xs:List Int} {k:Nat} {x y:Int} (hx:xs[k]? =some y) (h:x≠y) (hk:(xs.take k).contains x=false):(xs.take (k+1)).contains x=false:=by
 rw [List.take_add_one,hx]
 simp at hk ⊢
 exact ⟨hk,h⟩
def VN (ids:List Int) (k:Nat) (last:Option Int):Prop:=(k=0→last=none)∧∀ p,k=p+1→∃ z,ids[p]? =some z∧last=some z
def QZ (rs:List Row) (W:Nat) (us:List Upd):Bool:=us.all fun u=>decide (Zr rs u.1=some u.2.1)&&decide (u.2.2.length=W)
def Ya (nm:ByteArray) (cs:List Col) (nx:Int) (rs:List Row) (ins:List (List Vl)) (dels:List Int) (us:List Upd):Bool:=
 Zn nm cs nx rs&&YB rs [] none dels&&QZ rs cs.length us&&YB rs dels none (us.map (·.1))&&!(ins.any fun s=>decide (s.length≠cs.length))
theorem Vp {cs:List Col} {nx:Int}:∀ {lst:Int} {rs:List Row},okR cs nx lst rs=true→∀ r∈rs,ZC cs r.2=0
 | _,[],_,r,hr=>nomatch hr
 | lst,x::rs,h,r,hr=>by
  rw [okR] at h
  simp only [Bool.and_eq_true,decide_eq_true_eq] at h
  rcases List.mem_cons.1 hr with rfl|hr
  ·exact h.1.2
  ·exact Vp h.2 r hr
theorem Vy {cs:List Col} {vs:List Vl} (h:ZC cs vs=0):vs.length=cs.length:=by
 unfold ZC at h
 split at h
 ·assumption
 ·omega
theorem Uc {nm:ByteArray} {cs:List Col} {nx:Int} {rs:List Row} (h:Zn nm cs nx rs=true):cs.length≤6:=by
 unfold Zn at h
 simp only [Bool.and_eq_true] at h
 have h1:=h.1.1.1.1.1
 unfold Yc at h1
 simp only [Bool.and_eq_true,decide_eq_true_eq] at h1
 exact h1.1.1.2
theorem Ui {nm:ByteArray} {cs:List Col} {nx:Int} {rs:List Row} (h:Zn nm cs nx rs=true) {r:Row} (hr:r∈rs):r.2.length=cs.length:=by
 unfold Zn at h
 simp only [Bool.and_eq_true] at h
 exact Vy (Vp h.1.2 r hr)
theorem U7 {nm:ByteArray} {cs:List Col} {nx:Int} {rs:List Row} (h:Zn nm cs nx rs=true):rs.length≤100∧1≤nx∧nx≤2147483648:=by
 unfold Zn at h
 simp only [Bool.and_eq_true,decide_eq_true_eq] at h
 exact ⟨h.1.1.1.1.2,h.1.1.1.2,h.1.1.2⟩
theorem J4 {w:World} {B:Option Addr} {m:Nat} {l:List Rw} {nm:ByteArray} {cs:List Col} {nx:Int} (hE:RwsIn B m l w) (h:Zn nm cs nx (l.map Rw.row)=true):∀ r∈l,r.n≤6:=fun r hr=>by
 have h1:=Ui h (List.mem_map_of_mem (f:=Rw.row) hr)
 have h2:=Uc h
 have h3:=(hE.2 r hr).len
 have:r.vs.length=cs.length:=h1
 omega
theorem Tryz.Zh7:ElemT Tryz.prog 22 3 1 8 (.int .i64 0):=⟨Tryz.underlying22,by kernel_rfl,rfl,by omega⟩
def Zcq (w:World) (T:Nat) (M:Nat→Prop) (nm:ByteArray) (cs:List Col) (N:Nat) (e:Ending) (w' :World):Prop:=
 ∃ (v:Value) (nx:Int) (rs:List Row),e=.returned v∧Y2 w' M v ⟨nm,cs,nx,rs⟩∧Zn nm cs nx rs=true∧rs.length≤N∧Tp w' T∧w.grownBy w' (some T)
theorem YS {M:Nat→Prop} {L:List Hp} {T i:Nat} (hi:L[i]? =some (.tp T)):∀ b,Mut (Mut M L) [.tp T] b→Mut M L b:=fun b hb=>by
 rcases hb with hb|⟨k,hk,hf⟩
 ·exact hb
 ·simp only [List.mem_singleton] at hk
  subst hk
  exact .inr ⟨_,List.mem_of_getElem? hi,hf⟩
theorem Zav {α:Type} {p:α→Bool}:∀ (l:List α) (k:Nat),(∀ (i:Nat) (x:α),l[i]? =some x→p x=false)→Z7 p k l=-1
 | [],_,_=>rfl
 | x::l,k,h=>by
  rw [Z7,if_neg (by rw [h 0 x rfl];simp)]
  exact Zav l (k+1) fun i y hy=>h (i+1) y (by simpa using hy)
def Ug (cs:List Col) (k:Nat) (q:Int):Prop:=(q=-1∧∀ i x,i<k→cs[i]? =some x→x.key=false)∨(0≤q∧q=Zi Col.key cs)
theorem Zhj {cs:List Col} {q:Int} (h:Ug cs cs.length q):q=Zi Col.key cs:=by
 rcases h with ⟨rfl,h⟩|⟨_,h⟩
 ·exact (Zav cs 0 fun i x hx=>h i x (List.getElem?_eq_some_iff.1 hx).1 hx).symm
 ·exact h
theorem Zgk {cs:List Col} {k:Nat} {q:Int} {x:Col} (h:Ug cs k q) (hx:cs[k]? =some x) (hk:x.key=false):Ug cs (k+1) q:=by
 rcases h with ⟨rfl,h⟩|h
 ·refine .inl ⟨rfl,fun i y hi hy=>?_⟩
  rcases Nat.lt_or_ge i k with h' |h'
  ·exact h i y h' hy
  ·obtain rfl:i=k:=by omega
   rw [hx] at hy
   injection hy with hy
   rw [←hy];exact hk
 ·exact .inr h
theorem Zeh {cs:List Col} {k:Nat} {x:Col} (ho:QL cs) (hx:cs[k]? =some x) (hk:x.key=true):Ug cs (k+1) (k:Int):=.inr ⟨by omega,(ho k x hx hk).symm⟩
structure RowsOk (cs:List Col) (nx:Int) (rs:List Rw):Prop where
 ok:okR cs nx 0 (rs.map Rw.row)=true
 dup:YW cs (rs.map Rw.row)=false
 rok:∀ r∈rs,r.ok
def WB (q:Int) (rs:List Rw) (vr:List Vl) (fr:Bool):Prop:=fr=true→q<0∨∀ x∈rs,x.vs[q.toNat]? ≠vr[q.toNat]?
theorem Zej {q:Int} {rs:List Rw} {vr:List Vl} {fr:Bool} (h:q<0):WB q rs vr fr:=fun _=>.inl h
theorem Zdi {q:Int} {rs:List Rw} {vr:List Vl}:WB q rs vr false:=fun h=>nomatch h
theorem Zhb {q:Nat} {rs:List Rw} {vr:List Vl} {j:Nat} {x:Rw} {vx vy:Vl} {fr:Bool} (hx:rs[j]? =some x) (h1:x.vs[q]? =some vx) (h2:vr[q]? =some vy) (h:WB q (rs.take j) vr true) (hf:fr=decide (vx≠vy)):WB q (rs.take (j+1)) vr fr:=by
 intro hfr
 rw [hfr] at hf
 have hne:vx≠vy:=of_decide_eq_true hf.symm
 refine .inr fun y hy=>?_
 rw [List.take_add_one,hx] at hy
 rcases List.mem_append.1 hy with hy|hy
 ·exact (h rfl).resolve_left (by omega) y hy
 ·simp at hy
  subst hy
  simp only [Int.toNat_natCast]
  rw [h1,h2]
  intro e
  injection e with e
  exact hne e
theorem Zgr {cs:List Col} {nx nx' :Int} {rs:List Rw} {x:Rw} (h:RowsOk cs nx rs) (hid:x.id=nx) (h1:0<nx) (h2:nx<nx') (hf:ZC cs x.vs=0) (hok:x.ok) (hfr:Zi Col.key cs<0∨∀ y∈rs,y.vs[(Zi Col.key cs).toNat]? ≠x.vs[(Zi Col.key cs).toNat]?):RowsOk cs nx' (rs++[x]):=by
 refine ⟨?_,?_,fun y hy=>?_⟩
 ·rw [List.map_append]
  show okR cs nx' 0 (rs.map Rw.row++[(x.id,x.vs)])=true
  rw [hid]
  exact Zan hf h2 h1 h.ok
 ·rw [List.map_append]
  refine Zc2 (id:=x.id) (vs:=x.vs) h.dup (hfr.imp (fun h=>h) fun h y hy=>?_)
  obtain ⟨z,hz,rfl⟩:=List.mem_map.1 hy
  exact .inr (h z hz)
 ·rcases List.mem_append.1 hy with hy|hy
  ·exact h.rok y hy
  ·simp at hy;subst hy;exact hok
theorem Zfy {cs:List Col} {nx nx' :Int} {rs:List Rw} (h:RowsOk cs nx rs) (h2:nx≤nx'):RowsOk cs nx' rs:=⟨Zbc h2 h.ok,h.dup,h.rok⟩
set_option maxHeartbeats 4000000 in
set_option maxRecDepth 100000 in
theorem Zco (M:Nat→Prop) (T:Nat) (w:World) (hM:∀ b,M b→b<w.heap.size) (ht:Tp w T) (hMT:∀ b,M b→T≤b) (nm:ByteArray) (A:Option Addr) (n c:Nat) (cs:List Col) (N:Nat) (hD:Ro w (Mut M [.tp T]) (ColsIn A n cs)) (hW:Ro w (Mut M [.tp T]) Wds) (hT:1<T)
  (hn:n≤1000) (hnc:n≤c) (hc:c≤9223372036854775807) (hok:∀ x∈cs,Ua x) (hsch:Yc nm cs=true) (hkey:QL cs) (hN:N≤50):Calls Tryz.prog 60 #[.pointer (some ⟨T,0,none⟩),.agg #[.string nm,.slice A n c],.int .i64 N] w fun e w' =>Zcq w T M nm cs N e w' :=by
 have HL:=hid (WR hD.now)
 have HOKC:=hid hok
 have HKEY:=hid hkey
 have HSCH:=hid hsch
 clear hok hkey hsch
 have K0:=((((Hold.Y5 M w T hM ht hMT).add hD).add (hW.less (Xa rfl))).Za #[.string nm,.slice A n c] 49).alloc #[.string ⟨#[]⟩,.slice none 0 0,.int .i64 0,.slice none 0 0] 67
 rw [World.size_alloc] at K0
 clear hD hW
 go_enter Tryz.func60,Tryz.ntmps60
 go_wp2_with fail
 obtain ⟨gs,hgs⟩:∃ gs,gs=w.heap.size:=⟨_,rfl⟩
 obtain ⟨g6,hg6⟩:∃ g6,g6=gs+1:=⟨_,rfl⟩
 rw [←hgs,←hg6] at K0 ⊢
 generalize (w.alloc _).alloc _=w1 at K0 ⊢
 have HGS:=hid hgs
 have HG6:=hid hg6
 clear hgs hg6
 obtain ⟨H,hH⟩:∃ H,H=w1.drew.heap.size:=⟨_,rfl⟩
 have HH:=hid hH
 clear hH
 refine wp_region_any (by kernel_rfl) ?_
 refine Zp 6 90 ([.blk g6 67 #[.string ⟨#[]⟩,.slice none 0 0,.int .i64 0,.slice none 0 0],.cst gs 49 #[.string nm,.slice A n c],.ro Wds,.ro (ColsIn A n cs),.tp T]) (spL [(18,fun u _=>Yt 3 u),(7,Z6 (Mut M ([.blk g6 67 #[.string ⟨#[]⟩,.slice none 0 0,.int .i64 0,.slice none 0 0],.cst gs 49 #[.string nm,.slice A n c],.ro Wds,.ro (ColsIn A n cs),.tp T])) H 67 #[.string ⟨#[]⟩,.slice none 0 0,.int .i64 0,.slice none 0 0])]) (by kernel_rfl) (by kernel_rfl) (by kernel_rfl) rfl ?_ (K0.drew) ?_
 ·exact Ze (fun _ _ _ _ h=>h) (Ze XY (Zo _))
 simp only [zd,Act.put,List.getElem_toArray,List.getElem_cons_zero,List.getElem_cons_succ,zl]
 refine' dv rfl rfl rfl (fun wv HC=>?_) ?_;rotate_left
 ·have FC:=HC.facts;simp only [ZU,Zt,Nat.reduceAdd,List.toList_toArray,and_true,true_and] at FC;go_simp<;>rfl
 simp only [Act.put,zl]
 refine' dv rfl rfl rfl (fun wv HC=>?_) ?_;rotate_left
 · go_simp<;>rfl
 simp only [Act.put,zl]
 refine Yz 3 4 rfl 18 rfl rfl rfl rfl (fun wv=>?_) ?_
 ·go_simp<;>rfl
 rintro r hr
 simp only [Act.put,zl]
 have s1:IntKind.i64.wrap (1+(r:Int))=1+(r:Int):=by rw [IntKind.wrap_i64];omega
 iterate 2
  refine' dv rfl rfl rfl (fun wv HC=>?_) ?_;rotate_left
  · go_simp<;>rfl
  simp only [Act.put,zl]
 refine Ye #[.string ⟨#[]⟩,.slice none 0 0,.int .i64 0,.slice none 0 0] 67 7 (Z6 (Mut M ([.blk g6 67 #[.string ⟨#[]⟩,.slice none 0 0,.int .i64 0,.slice none 0 0],.cst gs 49 #[.string nm,.slice A n c],.ro Wds,.ro (ColsIn A n cs),.tp T])) H 67 #[.string ⟨#[]⟩,.slice none 0 0,.int .i64 0,.slice none 0 0]) (fun g=>.pointer (some ⟨g,0,none⟩)) rfl rfl rfl rfl (fun wv=>?_) (fun wv HC hrm hD hro=>?_) ?_
 ·go_simp<;>rfl
 ·exact ⟨_,rfl,by have:=hrm.1;rw [HH.out];exact this,hro _ HC.Zb⟩
 rintro g7 wg HCg hsl
 simp only [Act.put,zl]
 clear hsl HCg s1
 refine Zj ?_
 rintro wx1 HX
 rintro _hrm HGW
 have hns:Z6 (Mut M ([.blk g6 67 #[.string ⟨#[]⟩,.slice none 0 0,.int .i64 0,.slice none 0 0],.cst gs 49 #[.string nm,.slice A n c],.ro Wds,.ro (ColsIn A n cs),.tp T])) H 67 #[.string ⟨#[]⟩,.slice none 0 0,.int .i64 0,.slice none 0 0] (.pointer (some ⟨g7,0,none⟩)) wx1:=(Zl (d:=7) rfl).1 (HGW 5 _ rfl (by omega))
 clear HGW
 obtain ⟨gq,hgq,hgH,hgB⟩:=hns
 obtain rfl:g7=gq:=by injection hgq with hgq;injection hgq with hgq;injection hgq
 clear hgq
 rw [HH.out] at hgH
 have HB:=Hold.We K0.drew HX _hrm hgH hgB.now
 clear hgB hgH HX _hrm K0 HH
 have FB:=HB.facts
 simp only [ZU,Zt,Nat.reduceAdd,List.toList_toArray,and_true,true_and] at FB
 have K1:=(((HB.store 0 rfl 0 (.string nm)).store 0 rfl 1 (.slice A n c)).store 0 rfl 2 (.int .i64 (1+(r:Int)))).store 0 rfl 3 (.slice none 0 0)
 have F1:=K1.facts
 simp only [zg] at F1
 simp only [zl] at K1
 clear HB
 go_wp2_with fail
 generalize (((wx1.setCell _ _).setCell _ _).setCell _ _).setCell _ _=w2 at K1 ⊢
 clear F1 FB
 go_loopw [8,24] (fun qv iv wr=>∃ (k:Nat) (q:Int),k≤n∧iv=.int .i64 k∧qv=.int .i64 q∧Hid (Ug cs k q)∧Hold M (some T) w wr ([.blk g7 67 #[.string nm,.slice A n c,.int .i64 (1+(r:Int)),.slice none 0 0],.blk g6 67 #[.string ⟨#[]⟩,.slice none 0 0,.int .i64 0,.slice none 0 0],.cst gs 49 #[.string nm,.slice A n c],.ro Wds,.ro (ColsIn A n cs),.tp T])) (fun _ iv _=>n - (intOf iv).toNat)
 case atStart=>exact ⟨0,-1,by omega,rfl,rfl,hid (.inl ⟨rfl,fun i x hi=>absurd hi (by omega)⟩),K1⟩
 case round=>
  clear K1
  obtain ⟨k,q,hk,rfl,rfl,HQ,H⟩:=hrel
  by_cases hlt:k<n
  ·have hd:decide ((k:Int)<(n:Int))=true:=by simp;omega
   have k0:(0:Int)≤(k:Int):=by omega
   have k1:(k:Int)<(n:Int):=by omega
   obtain ⟨⟨xn,xt,xnn,xk⟩,hx⟩:=YA HL.out hlt
   obtain ⟨g,o,rfl,hgb,c0,c1,c2,c3⟩:=(RdC.Zy (H.ro 4 rfl).now).at_ hx
   dsimp only at c0 c1 c2 c3
   have HX:=hid hx
   clear hx
   have K2:=H.Za #[.string xn,.int .i64 xt,.bool xnn,.bool xk] 158
   clear H
   have F2:=K2.facts
   simp only [zg] at F2
   cases xk
   ·have HN:=hid (Zgk HQ.out HX.out rfl)
    go_wp2_with fail
    have K3:=K2.drop (List.sublist_cons_self _ _)
    go_roundw
    case rel=>exact ⟨k+1,q,by omega,by go_num,by first|rfl|trivial,HN,K3⟩
    case measure=>simp [intOf];omega
   ·have HN:=hid (Zeh HKEY.out HX.out rfl)
    go_wp2_with fail
    have K3:=K2.drop (List.sublist_cons_self _ _)
    go_roundw
    case rel=>exact ⟨k+1,k,by omega,by go_num,by first|rfl|trivial,HN,K3⟩
    case measure=>simp [intOf];omega
  ·obtain rfl:k=n:=by omega
   have hd:decide ((k:Int)<(k:Int))=false:=by simp
   clear hlt
   have HKQ:=hid (show q=Zi Col.key cs from Zhj (by have h:=HQ.out;rwa [←HL.out] at h))
   clear HQ
   go_wp2_with fail
   refine (ZT T ((N:Int)+1) _ (H.tp_ 5 rfl) (by omega) (by omega)).mono ?_
   rintro e w3 ⟨i0,rfl,i00,i01,t3,g3⟩
   obtain ⟨i0,rfl⟩:=Int.eq_ofNat_of_zero_le i00
   have K2:=(((Hold.Zf H 5 rfl g3 t3).add (V3 _ _)).nil 124 2)
   clear H g3 t3
   have hi0:i0≤N:=by omega
   clear i00 i01
   go_wp2_with fail
   clear hd
   go_loopw [11] (fun iv wr=>∃ (i k2 cap:Nat) (nx:Int) (O:Option Addr) (rs:List Rw),iv=.int .i64 i∧i+k2≤N∧1≤nx∧nx≤3+2 * ((N:Int) - i)∧Hid (RowsOk cs nx rs)∧Hold M (some T) w wr ([.own 124 2 (.slice O k2 cap) k2 (ZJ rs),.ro (YT rs),.blk g7 67 #[.string nm,.slice A k c,.int .i64 nx,.slice O k2 cap],.blk g6 67 #[.string ⟨#[]⟩,.slice none 0 0,.int .i64 0,.slice none 0 0],.cst gs 49 #[.string nm,.slice A k c],.ro Wds,.ro (ColsIn A k cs),.tp T])) (fun iv _=>(intOf iv).toNat)
   case atStart=>exact ⟨i0,0,0,1+(r:Int),none,[],rfl,by omega,by omega,by omega,hid ⟨rfl,by rcases Int.lt_or_le (Zi Col.key cs) 0 with h|h<;>rfl,fun r hr=>nomatch hr⟩,K2⟩
   case round=>
    clear K2 hi0
    obtain ⟨i,k2,cap,nx,O,rs,rfl,hik,hnx,hnx2,HR,H⟩:=hrel
    by_cases hlt:0<i
    ·obtain ⟨i,rfl⟩:∃ i',i=i' +1:=⟨i - 1,by omega⟩
     have hd:decide (((i+1:Nat):Int) > 0)=true:=by rw [decide_eq_true_iff];omega
     clear hlt
     have F2:=H.facts
     simp only [zg] at F2
     go_wp2_with fail
     refine (Gl (Mut M _) T _ H.Zb (H.tp_ 7 rfl) (H.get 7 rfl).2 nm A k c cs ((H.ro 6 rfl).less (YS (i:=7) rfl)) ((H.ro 5 rfl).less (YS (i:=7) rfl)) hT hn HOKC.out).mono ?_
     rintro e w4 ⟨Ar,nr,cr,vr,rfl,hnr,hvr,hfr,ho,t4,g4⟩
     have K3a:=Hold.Q4 H (Hold.Zf H 7 rfl g4 t4) (RM.grown g4 (.inr ⟨_,List.mem_of_getElem? (i:=7) rfl,rfl⟩)) ho
     obtain ⟨hcr1,hcr2,_⟩:=ZR (K3a.get 0 rfl)
     have K3:=K3a.Zu 0 rfl
     simp only [List.set_cons_zero] at K3
     have HNR:=hid hnr
     have HFR:=hid hfr
     have HVR:=hid hvr
     clear K3a H ho t4 g4 hnr hfr hvr F2
     have F3:=K3.facts
     simp only [zg] at F3
     go_wp2_with fail
     clear F3
     go_loopw [13,47] (fun fv jv wr=>∃ (j:Nat) (fr:Bool),j≤k2∧jv=.int .i64 j∧fv=.bool fr∧Hid (WB q (rs.take j) vr fr)∧Hold M (some T) w wr ([.ro (VlsIn Ar nr vr),.own 124 2 (.slice O k2 cap) k2 (ZJ rs),.ro (YT rs),.blk g7 67 #[.string nm,.slice A k c,.int .i64 nx,.slice O k2 cap],.blk g6 67 #[.string ⟨#[]⟩,.slice none 0 0,.int .i64 0,.slice none 0 0],.cst gs 49 #[.string nm,.slice A k c],.ro Wds,.ro (ColsIn A k cs),.tp T])) (fun _ jv _=>k2 - (intOf jv).toNat)
     case atStart=>exact ⟨0,true,by omega,rfl,rfl,hid (fun _=>.inr fun x hx=>(by simp at hx)),K3⟩
     case round=>
      clear K3 hd
      obtain ⟨j,fr,hj,rfl,rfl,HFS,H⟩:=hrel
      have hRW:RwsIn O k2 rs wr:=⟨Rd.U9 (H.get 1 rfl),(H.ro 2 rfl).now⟩
      have HLR:=hid hRW.len
      by_cases hlt:j<k2
      ·have hd:decide ((j:Int)<(k2:Int))=true:=by simp;omega
       have j0:(0:Int)≤(j:Int):=by omega
       have j1:(j:Int)<(k2:Int):=by omega
       obtain ⟨x,hx⟩:=Zq HLR.out hlt
       obtain ⟨b,o,rfl,hb,c0,c1,hxv⟩:=hRW.at_ hx
       have HX:=hid hx
       have HXV:=hid (show x.vs.length=x.n from hxv.len)
       have HXF:=hid (show ZC cs x.vs=0 from Vp HR.out.ok _ (List.mem_map_of_mem (f:=Rw.row) (List.mem_of_getElem? hx)))
       have hxr:Ro wr _ (VlsIn x.A x.n x.vs):=(H.ro 2 rfl).imp fun w2 h2=>h2 x (List.mem_of_getElem? hx)
       clear hx hxv hRW
       have K4:=(H.add hxr).Za #[.int .i64 x.id,.slice x.A x.n x.c] 124
       obtain ⟨gx,hgx⟩:∃ gx,gx=wr.heap.size:=⟨_,rfl⟩
       rw [←hgx] at K4
       clear H hxr
       obtain ⟨xid,xA,xn,xc,xvs⟩:=x
       dsimp only at *
       go_wp2_with fail
       rw [←hgx]
       have HGX:=hid hgx
       clear hgx c0 c1
       generalize wr.alloc _=w5 at K4 ⊢
       obtain ⟨KL,hKL,K5⟩:=K4.name
       clear K4
       cases fr
       ·have HKL:=hid hKL
        clear hKL
        refine wp_region_any (by kernel_rfl) ?_
        refine Zp 18 90 (KL) (spL []) (by kernel_rfl) (by kernel_rfl) (by kernel_rfl) rfl ?_ (K5.drew) ?_
        ·exact Zo _
        simp only [zd,Act.put,List.getElem_toArray,List.getElem_cons_zero,List.getElem_cons_succ,zl]
        repeat (first|(refine dw_skip rfl rfl rfl ?_;simp only [Act.put,zl])|(refine' dv rfl rfl rfl (fun wv HC=>?_) ?_;rotate_left;(focus (go_simp<;>rfl;done));simp only [Act.put,zl]))
        refine Zj ?_
        rintro wx4 HX4
        rintro _hrm _HG
        rw [HKL.out] at HX4
        clear _hrm _HG
        have HQ:=hid ((Zdi:WB q (rs.take (j+1)) vr false))
        have K6:=HX4.drop (List.Sublist.cons _ (List.sublist_cons_self _ _))
        have F5:=K6.facts
        simp only [zg] at F5
        go_wp2_with fail
        go_roundw
        case rel=>exact ⟨j+1,_,by omega,by go_num,by first|rfl|trivial|simp,HQ,K6⟩
        case measure=>simp [intOf];omega
       ·by_cases hq:q<0
        ·have hq1:decide (q<0)=true:=by simpa using hq
         have HKL:=hid hKL
         have HQN:=hid hq
         clear hKL hq
         refine wp_region_any (by kernel_rfl) ?_
         refine Zp 18 90 (KL) (spL []) (by kernel_rfl) (by kernel_rfl) (by kernel_rfl) rfl ?_ (K5.drew) ?_
         ·exact Zo _
         simp only [zd,Act.put,List.getElem_toArray,List.getElem_cons_zero,List.getElem_cons_succ,zl]
         repeat (first|(refine dw_skip rfl rfl rfl ?_;simp only [Act.put,zl])|(refine' dv rfl rfl rfl (fun wv HC=>?_) ?_;rotate_left;(focus (go_simp<;>rfl;done));simp only [Act.put,zl]))
         refine Zj ?_
         rintro wx4 HX4
         rintro _hrm _HG
         rw [HKL.out] at HX4
         clear _hrm _HG
         have HQ:=hid ((Zej HQN.out:WB q (rs.take (j+1)) vr true))
         have K6:=HX4.drop (List.Sublist.cons _ (List.sublist_cons_self _ _))
         have F5:=K6.facts
         simp only [zg] at F5
         go_wp2_with fail
         go_roundw
         case rel=>exact ⟨j+1,_,by omega,by go_num,by first|rfl|trivial|simp,HQ,K6⟩
         case measure=>simp [intOf];omega
        ·obtain ⟨κ,rfl⟩:=Int.eq_ofNat_of_zero_le (show 0≤q by omega)
         have hq1:decide ((κ:Int)<0)=false:=by rw [decide_eq_false_iff_not];omega
         clear hq
         have hκ:κ<cs.length:=Zfz HKQ.out
         have q0:(0:Int)≤(κ:Int):=by omega
         have q1:(κ:Int)<(xn:Int):=by have h:=Vy HXF.out;have h2:=HXV.out;omega
         have q2:(κ:Int)<(nr:Int):=by have h:=VW HFR.out;have h2:=HNR.out;omega
         clear hκ
         obtain ⟨vx,hvx⟩:=Zq HXV.out (show κ<xn by omega)
         obtain ⟨vy,hvy⟩:=Zq HNR.out.symm (show κ<nr by omega)
         have K6:=K5
         rw [hKL] at K6
         obtain ⟨bx,ox,rfl,rx⟩:=(K6.ro 1 rfl).U8 hvx
         obtain ⟨by_,oy,rfl,ry⟩:=(K6.ro 2 rfl).U8 hvy
         have K7:=(K6.add rx).add (ry.less (Xa rfl))
         clear K6 K5 hKL rx ry
         obtain ⟨KM,hKM,K5⟩:=K7.name
         clear K7
         have HF:Hid (∀ wv,Hold M (some T) w wv KM→(wv.cell? ⟨gx,1,none⟩=some (.slice (some ⟨bx,ox,none⟩) xn xc)∧gx<wv.heap.size)∧(bx<wv.heap.size∧wv.cell? ⟨bx,ox+κ * 3,none⟩=some (.int .i64 vx.k)∧wv.cell? ⟨bx,ox+κ * 3+1,none⟩=some (.int .i64 vx.i)∧wv.cell? ⟨bx,ox+κ * 3+2,none⟩=some (.string vx.s))∧by_<wv.heap.size∧wv.cell? ⟨by_,oy+κ * 3,none⟩=some (.int .i64 vy.k)∧wv.cell? ⟨by_,oy+κ * 3+1,none⟩=some (.int .i64 vy.i)∧wv.cell? ⟨by_,oy+κ * 3+2,none⟩=some (.string vy.s)):=hid fun wv HC=>by
          rw [hKM] at HC
          have y1:=HC.ZB 2 rfl
          exact ⟨⟨cell_of_row _ _ 1 _ _ _ y1,Blk.lt y1⟩,(HC.ro 1 rfl).now,(HC.ro 0 rfl).now⟩
         have HKL:=hid hKM
         have HVX:=hid hvx
         have HVY:=hid hvy
         clear hKM hvx hvy
         refine wp_region_any (by kernel_rfl) ?_
         refine Zp 18 90 (KM) (spL []) (by kernel_rfl) (by kernel_rfl) (by kernel_rfl) rfl ?_ (K5.drew) ?_
         ·exact Zo _
         simp only [zd,Act.put,List.getElem_toArray,List.getElem_cons_zero,List.getElem_cons_succ,zl]
         repeat (refine' dv rfl rfl rfl (fun wv HC=>?_) ?_;rotate_left;(focus (obtain ⟨⟨f0,f1⟩,⟨f2,f3,f4,f5⟩,f6,f7,f8,f9⟩:=HF.out _ HC;go_simp<;>rfl;done));simp only [Act.put,zl])
         refine XT rfl rfl rfl ⟨.bool (decide (vx≠vy)),fun wv HC=>?_,?_⟩
         ·by_cases h0:vx.k=vy.k
          ·have e0:(vx.k==vy.k)=true:=by simp [h0]
           by_cases h1:vx.i=vy.i
           ·have e1:(vx.i==vy.i)=true:=by simp [h1]
            by_cases h2:vx.s=vy.s
            ·have e2:(vx.s.toList==vy.s.toList)=true:=by simp [h2]
             have e3:decide (vx≠vy)=false:=by rw [decide_eq_false_iff_not];exact fun h=>h (GU h0 h1 h2)
             rw [e3]
             clear h0 h1 h2
             go_simp<;>rfl
            ·have e2:(vx.s.toList==vy.s.toList)=false:=by rw [beq_eq_false_iff_ne];exact fun h=>h2 (Xt h)
             have e3:decide (vx≠vy)=true:=by rw [decide_eq_true_iff];rintro rfl;exact h2 rfl
             rw [e3]
             clear h0 h1 h2
             go_simp<;>rfl
           ·have e1:(vx.i==vy.i)=false:=by simpa using h1
            have e3:decide (vx≠vy)=true:=by rw [decide_eq_true_iff];rintro rfl;exact h1 rfl
            rw [e3]
            clear h0 h1
            go_simp<;>rfl
          ·have e0:(vx.k==vy.k)=false:=by simpa using h0
           have e3:decide (vx≠vy)=true:=by rw [decide_eq_true_iff];rintro rfl;exact h0 rfl
           rw [e3]
           clear h0
           go_simp<;>rfl
         iterate 3
          simp only [Act.put,zl]
          refine' dv rfl rfl rfl (fun wv HC=>?_) ?_;rotate_left
          · go_simp<;>rfl
         simp only [Act.put,zl]
         refine Zj ?_
         rintro wx4 HX4
         rintro _hrm _HG
         rw [HKL.out] at HX4
         clear _hrm _HG
         have HQ:=hid ((Zhb HX.out (by simpa using HVX.out) HVY.out HFS.out rfl:WB (κ:Int) (rs.take (j+1)) vr (decide (vx≠vy))))
         have K6:=HX4.drop (List.Sublist.cons _ (List.Sublist.cons _ (List.Sublist.cons _ (List.sublist_cons_self _ _))))
         have F5:=K6.facts
         simp only [zg] at F5
         go_wp2_with fail
         go_roundw
         case rel=>exact ⟨j+1,_,by omega,by go_num,by first|rfl|trivial|simp,HQ,K6⟩
         case measure=>simp [intOf];omega
      ·obtain rfl:j=k2:=by omega
       have hd:decide ((j:Int)<(j:Int))=false:=by simp
       clear hlt
       have HFE:=hid (show WB q rs vr fr by have h:=HFS.out;rwa [List.take_of_length_le (by rw [HLR.out];exact Nat.le_refl _)] at h)
       clear hRW HFS
       have F3:=H.facts
       simp only [zg] at F3
       cases fr
       ·go_wp2_with fail
        clear F3 hd
        have K4:=H.drop (List.sublist_cons_self _ _)
        clear H
        refine wp_region_any (by kernel_rfl) ?_
        refine Zp 10 90 ([.own 124 2 (.slice O j cap) j (ZJ rs),.ro (YT rs),.blk g7 67 #[.string nm,.slice A k c,.int .i64 nx,.slice O j cap],.blk g6 67 #[.string ⟨#[]⟩,.slice none 0 0,.int .i64 0,.slice none 0 0],.cst gs 49 #[.string nm,.slice A k c],.ro Wds,.ro (ColsIn A k cs),.tp T]) (spL [(82,fun u _=>Yt 2 u),(84,fun u _=>Yt 2 u)]) (by kernel_rfl) (by kernel_rfl) (by kernel_rfl) rfl ?_ (K4.drew) ?_
        ·exact Ze (fun _ _ _ _ h=>h) (Ze (fun _ _ _ _ h=>h) (Zo _))
        simp only [zd,Act.put,List.getElem_toArray,List.getElem_cons_zero,List.getElem_cons_succ,zl]
        refine' dv rfl rfl rfl (fun wv HC=>?_) ?_;rotate_left
        · go_simp<;>rfl
        simp only [Act.put,zl]
        refine' dv rfl rfl rfl (fun wv HC=>?_) ?_;rotate_left
        ·have FC:=HC.facts;simp only [ZU,Zt,Nat.reduceAdd,List.toList_toArray,and_true,true_and] at FC;go_simp<;>rfl
        simp only [Act.put,zl]
        refine' dv rfl rfl rfl (fun wv HC=>?_) ?_;rotate_left
        · go_simp<;>rfl
        simp only [Act.put,zl]
        refine Yz 2 7 rfl 82 rfl rfl rfl rfl (fun wv=>?_) ?_
        ·go_simp<;>rfl
        rintro a ha
        simp only [Act.put,zl]
        refine' dv rfl rfl rfl (fun wv HC=>?_) ?_;rotate_left
        · go_simp<;>rfl
        simp only [Act.put,zl]
        refine Yz 2 7 rfl 84 rfl rfl rfl rfl (fun wv=>?_) ?_
        ·go_simp<;>rfl
        rintro b hb
        simp only [Act.put,zl]
        obtain ⟨m,hm,hm1⟩:∃ m:Nat,(a:Int) * (b:Int)=(m:Int)∧m≤1:=⟨a * b,by simp,by
         obtain rfl|rfl:a=0∨a=1:=by omega
         ·simp
         ·omega⟩
        have s1:IntKind.i64.wrap ((a:Int) * (b:Int))=(m:Int):=by rw [hm,IntKind.wrap_i64];omega
        have s2:IntKind.i64.wrap (1+(m:Int))=1+(m:Int):=by rw [IntKind.wrap_i64];omega
        have s3:IntKind.i64.wrap (nx+(1+(m:Int)))=nx+(1+(m:Int)):=by rw [IntKind.wrap_i64];omega
        clear hm
        repeat (refine' dv rfl rfl rfl (fun wv HC=>?_) ?_;rotate_left;(focus (go_simp<;>rfl;done));simp only [Act.put,zl])
        refine Zj ?_
        rintro wx5 HX5
        rintro _hrm _HG
        clear _hrm _HG s1 s2 s3
        have F6:=HX5.facts
        simp only [zg] at F6
        have K9:=HX5.store 2 rfl 2 (.int .i64 (nx+(1+(m:Int))))
        simp only [zl] at K9
        have HRN:=hid (Zfy HR.out (show nx≤nx+(1+(m:Int)) by omega))
        go_wp2_with fail
        go_roundw
        case rel=>exact ⟨i,j,cap,nx+(1+(m:Int)),_,_,by first|rfl|go_num,by omega,by omega,by omega,HRN,K9⟩
        case measure=>simp [intOf]<;>omega
       ·have hx2:(ZJ rs++(#[Value.int .i64 nx,.slice Ar nr cr]).toList)=ZJ (rs++[⟨nx,Ar,nr,cr,vr⟩]):=WH _ _ _ _ _ _
        have HCE:=hid hx2
        clear hx2
        go_wp2_with (at_builtin;go_must (refine ZH H 1 rfl Tryz.WE #[.int .i64 nx,.slice Ar nr cr] rfl (.tmp 71) (.tmp 76) rfl rfl _ rfl rfl rfl (by intro u hu;simp at hu;rcases hu with rfl|rfl<;>rfl) (by omega) (by omega) ?_);intro g9 cap9 w9 hc9 hm9 KB;rw [HCE.out] at KB;simp only [zl] at KB;(have FB:=KB.facts);simp only [zg] at FB)
        clear F3 hd
        have KC:=KB.store 3 rfl 3 (.slice (some ⟨g9,0,none⟩) (j+1) cap9)
        have KD:=(KC.Yy 2 rfl (Wl (r:=⟨nx,Ar,nr,cr,vr⟩) (KC.ro 2 rfl) (KC.ro 0 rfl))).drop (List.sublist_cons_self _ _)
        simp only [zl] at KD
        generalize World.setCell _ _ _=w10 at KD ⊢
        clear KB KC FB H
        refine wp_region_any (by kernel_rfl) ?_
        refine Zp 10 90 ([.own 124 2 (.slice (some ⟨g9,0,none⟩) (j+1) cap9) (j+1) (ZJ (rs++[⟨nx,Ar,nr,cr,vr⟩])),.ro (YT (rs++[⟨nx,Ar,nr,cr,vr⟩])),.blk g7 67 #[.string nm,.slice A k c,.int .i64 nx,.slice (some ⟨g9,0,none⟩) (j+1) cap9],.blk g6 67 #[.string ⟨#[]⟩,.slice none 0 0,.int .i64 0,.slice none 0 0],.cst gs 49 #[.string nm,.slice A k c],.ro Wds,.ro (ColsIn A k cs),.tp T]) (spL [(82,fun u _=>Yt 2 u),(84,fun u _=>Yt 2 u)]) (by kernel_rfl) (by kernel_rfl) (by kernel_rfl) rfl ?_ (KD.drew) ?_
        ·exact Ze (fun _ _ _ _ h=>h) (Ze (fun _ _ _ _ h=>h) (Zo _))
        simp only [zd,Act.put,List.getElem_toArray,List.getElem_cons_zero,List.getElem_cons_succ,zl]
        refine' dv rfl rfl rfl (fun wv HC=>?_) ?_;rotate_left
        · go_simp<;>rfl
        simp only [Act.put,zl]
        refine' dv rfl rfl rfl (fun wv HC=>?_) ?_;rotate_left
        ·have FC:=HC.facts;simp only [ZU,Zt,Nat.reduceAdd,List.toList_toArray,and_true,true_and] at FC;go_simp<;>rfl
        simp only [Act.put,zl]
        refine' dv rfl rfl rfl (fun wv HC=>?_) ?_;rotate_left
        · go_simp<;>rfl
        simp only [Act.put,zl]
        refine Yz 2 7 rfl 82 rfl rfl rfl rfl (fun wv=>?_) ?_
        ·go_simp<;>rfl
        rintro a ha
        simp only [Act.put,zl]
        refine' dv rfl rfl rfl (fun wv HC=>?_) ?_;rotate_left
        · go_simp<;>rfl
        simp only [Act.put,zl]
        refine Yz 2 7 rfl 84 rfl rfl rfl rfl (fun wv=>?_) ?_
        ·go_simp<;>rfl
        rintro b hb
        simp only [Act.put,zl]
        obtain ⟨m,hm,hm1⟩:∃ m:Nat,(a:Int) * (b:Int)=(m:Int)∧m≤1:=⟨a * b,by simp,by
         obtain rfl|rfl:a=0∨a=1:=by omega
         ·simp
         ·omega⟩
        have s1:IntKind.i64.wrap ((a:Int) * (b:Int))=(m:Int):=by rw [hm,IntKind.wrap_i64];omega
        have s2:IntKind.i64.wrap (1+(m:Int))=1+(m:Int):=by rw [IntKind.wrap_i64];omega
        have s3:IntKind.i64.wrap (nx+(1+(m:Int)))=nx+(1+(m:Int)):=by rw [IntKind.wrap_i64];omega
        clear hm
        repeat (refine' dv rfl rfl rfl (fun wv HC=>?_) ?_;rotate_left;(focus (go_simp<;>rfl;done));simp only [Act.put,zl])
        refine Zj ?_
        rintro wx5 HX5
        rintro _hrm _HG
        clear _hrm _HG s1 s2 s3
        have F6:=HX5.facts
        simp only [zg] at F6
        have K9:=HX5.store 2 rfl 2 (.int .i64 (nx+(1+(m:Int))))
        simp only [zl] at K9
        have HRN:=hid (Zgr (x:=⟨nx,Ar,nr,cr,vr⟩) HR.out rfl (by omega) (show nx<nx+(1+(m:Int)) by omega) (Zd2 HFR.out) ⟨by show I64 nx;unfold I64;omega,hcr1,hcr2,HVR.out⟩ (by have h:=HFE.out rfl;rwa [HKQ.out] at h))
        go_wp2_with fail
        go_roundw
        case rel=>exact ⟨i,(j+1),cap9,nx+(1+(m:Int)),_,_,by first|rfl|go_num,by omega,by omega,by omega,HRN,K9⟩
        case measure=>simp [intOf]<;>omega
    ·obtain rfl:i=0:=by omega
     have hd:decide (((0:Nat):Int) > 0)=false:=by decide
     have F:=H.facts
     simp only [zg] at F
     obtain ⟨hcq1,hcq2,_⟩:=ZR (H.get 0 rfl)
     have KS:=H.Zu 0 rfl
     simp only [List.set_cons_zero] at KS
     have KN:=(((KS.store 3 rfl 0 (.string nm)).store 3 rfl 1 (.slice A k c)).store 3 rfl 2 (.int .i64 nx)).store 3 rfl 3 (.slice O k2 cap)
     clear KS
     go_wp2_with fail
     exact bodyPost_ret (v:=.agg #[.string nm,.slice A k c,.int .i64 nx,.slice O k2 cap]) (by simp [results,Tryz.results60,go_sem,F]) rfl ⟨_,nx,rs.map Rw.row,rfl,⟨A,k,c,O,k2,cap,rs,rfl,hnc,hc,hcq1,hcq2,KN.ZP 6 rfl,(KN.ZP 0 rfl).and (KN.ZP 1 rfl),HR.out.rok,rfl⟩,ZeH HSCH.out (by have h:=Rd.U9 (H.get 0 rfl);have h2:=h.1;rw [GJ] at h2;simp;omega) (by omega) (by omega) HR.out.ok HR.out.dup,by have h:=Rd.U9 (H.get 0 rfl);have h2:=h.1;rw [GJ] at h2;simp;omega,KN.tp_ 7 rfl,KN.grow⟩


def Wi (s:ByteArray):Prop:=s=⟨#[116]⟩∨s=⟨#[117]⟩∨s=⟨#[108,111,103]⟩
def ZfJ (w:World) (T:Nat) (e:Ending) (w' :World):Prop:=∃ s:ByteArray,e=.returned (.string s)∧Wi s∧Tp w' T∧w.grownBy w' (some T)
set_option maxHeartbeats 1000000 in
theorem Js (M:Nat→Prop) (T:Nat) (w:World) (hM:∀ b,M b→b<w.heap.size) (ht:Tp w T) (hMT:∀ b,M b→T≤b):Calls Tryz.prog 96 #[.pointer (some ⟨T,0,none⟩)] w fun e w' =>ZfJ w T e w' :=by
 have K0:=(Hold.Y5 M w T hM ht hMT).Za #[.string ⟨#[116]⟩,.string ⟨#[117]⟩,.string ⟨#[108,111,103]⟩] 9
 go_enter Tryz.func96,Tryz.ntmps96
 go_wp2_with fail
 refine (ZT T 3 _ (K0.tp_ 1 rfl) (by omega) (by omega)).mono ?_
 rintro e w1 ⟨r,rfl,r0,r1,t1,g1⟩
 have K1:=Hold.Zf K0 1 rfl g1 t1
 have F1:=K1.facts
 simp only [zg] at F1
 clear K0 g1 t1
 obtain ⟨r,rfl⟩:=Int.eq_ofNat_of_zero_le r0
 obtain rfl|rfl|rfl:r=0∨r=1∨r=2:=by omega
 ·go_wp2_with fail
  go_ret
  exact ⟨_,rfl,.inl rfl,K1.tp_ 1 rfl,K1.grow⟩
 ·go_wp2_with fail
  go_ret
  exact ⟨_,rfl,.inr (.inl rfl),K1.tp_ 1 rfl,K1.grow⟩
 ·go_wp2_with fail
  go_ret
  exact ⟨_,rfl,.inr (.inr rfl),K1.tp_ 1 rfl,K1.grow⟩
structure SchOk (nm:ByteArray) (cs:List Col):Prop where
 val:Yc nm cs=true
 col:∀ x∈cs,Ua x
 key:QL cs
 len:1≤cs.length∧cs.length≤4
 nm:nm.size≤maxLen
 cs:∀ x∈cs,x.name.size≤maxLen
def ZbM (cs:List Col):Bool:=(List.range cs.length).all fun i=>match cs[i]? with|some c=>!c.key||Zi Col.key cs==(i:Int)|none=>true
theorem Zem {cs:List Col} (h:ZbM cs=true):QL cs:=fun i c hc hk=>by
 have h1:=List.all_eq_true.1 h i (List.mem_range.2 (List.getElem?_eq_some_iff.1 hc).1)
 simp only [hc,hk,Bool.not_true,Bool.false_or,beq_iff_eq] at h1
 exact h1
def ZbL (c:Col):Bool:=c.ty==1||c.ty==2||c.ty==3
def Zae (nm:ByteArray) (cs:List Col):Bool:=Yc nm cs&&cs.all ZbL&&ZbM cs&&decide (1≤cs.length)&&decide (cs.length≤4)&&decide (nm.size≤100)&&cs.all fun x=>decide (x.name.size≤100)
theorem VI {nm:ByteArray} {cs:List Col} (h:Zae nm cs=true):SchOk nm cs:=by
 unfold Zae at h
 simp only [Bool.and_eq_true,decide_eq_true_eq] at h
 obtain ⟨⟨⟨⟨⟨⟨h1,h2⟩,h3⟩,h4⟩,h5⟩,h6⟩,h7⟩:=h
 refine ⟨h1,fun x hx=>?_,Zem h3,⟨h4,h5⟩,by unfold maxLen;omega,fun x hx=>?_⟩
 ·have:=List.all_eq_true.1 h2 x hx
  simpa [ZbL,Ua,or_assoc] using this
 ·have:=List.all_eq_true.1 h7 x hx
  simp only [decide_eq_true_eq] at this
  unfold maxLen;omega
def YJ (cs:List Col):List (List Vl)→Int
 | []=>0
 | v::r=>if ZC cs v=0 then YJ cs r else ZC cs v
def X9 (cs:List Col) (news ins:List (List Vl)):Int:=if YJ cs news=0 then YJ cs ins else YJ cs news
theorem zy {cs:List Col} {l:List (List Vl)} {k:Nat} {v:List Vl} (hx:l[k]? =some v) (h:ZC cs v=0):YJ cs (l.drop k)=YJ cs (l.drop (k+1)):=by rw [Yv hx,YJ,if_pos h]
theorem Zaw {cs:List Col} {l:List (List Vl)} {k:Nat} {v:List Vl} (hx:l[k]? =some v) (h:ZC cs v≠0):YJ cs (l.drop k)=ZC cs v:=by rw [Yv hx,YJ,if_neg h]
theorem Zbi {cs:List Col} {l:List (List Vl)} {k:Nat} (h:l.length≤k):YJ cs (l.drop k)=0:=by rw [List.drop_of_length_le h];rfl
def goR (dels:List Int):List Row→List Upd→List Row
 | [],_=>[]
 | r::rs,[]=>if dels.contains r.1 then goR dels rs [] else r::goR dels rs []
 | r::rs,u::us=>if dels.contains r.1 then goR dels rs (u::us) else if u.1=r.1 then (r.1,u.2.2)::goR dels rs us else r::goR dels rs (u::us)
def YQ (nx:Int) (ins:List (List Vl)):List Row:=ins.zipIdx.map fun p=>(nx+(p.2:Int),p.1)
def Ul (nx:Int) (rs:List Row) (ins:List (List Vl)) (dels:List Int) (us:List Upd):List Row:=goR dels rs us++YQ nx ins
def XZ:Tb:=⟨⟨#[]⟩,[],0,[]⟩
def YR (nm:ByteArray) (cs:List Col) (nx:Int) (rs:List Row) (ins:List (List Vl)) (dels:List Int) (us:List Upd):Int × Tb:=
 if Ya nm cs nx rs ins dels us=false then (17,XZ)
 else if X9 cs (us.map (·.2.2)) ins≠0 then (X9 cs (us.map (·.2.2)) ins,XZ)
 else if (rs.length:Int) - dels.length+ins.length > 100∨(ins.length:Int) > 2147483648 - nx then (10,XZ)
 else if YW cs (Ul nx rs ins dels us) then (9,XZ)
 else (0,⟨nm,cs,nx+ins.length,Ul nx rs ins dels us⟩)
theorem Zd5 {nx:Int} {ins:List (List Vl)} {k:Nat} {v:List Vl} (hv:ins[k]? =some v):YQ nx (ins.take (k+1))=YQ nx (ins.take k)++[(nx+(k:Int),v)]:=by
 have hk:k<ins.length:=(List.getElem?_eq_some_iff.1 hv).1
 unfold YQ
 rw [List.take_add_one,hv,Option.toList_some,List.zipIdx_append,List.map_append,List.length_take,Nat.min_eq_left (Nat.le_of_lt hk)]
 simp
theorem Jq {cs:List Col}:∀ {l:List (List Vl)},YJ cs l=0→∀ v∈l,ZC cs v=0
 | [],_,v,hv=>nomatch hv
 | x::l,h,v,hv=>by
  rw [YJ] at h
  split at h
  ·rcases List.mem_cons.1 hv with rfl|hv
   ·assumption
   ·exact Jq h v hv
  ·exact absurd h (by assumption)
theorem JE {cs:List Col} {a b:List (List Vl)} (h:X9 cs a b=0):(∀ v∈a,ZC cs v=0)∧∀ v∈b,ZC cs v=0:=by
 unfold X9 at h
 split at h
 ·exact ⟨Jq (by assumption),Jq h⟩
 ·exact absurd h (by assumption)
def Zge (w:World) (M:Nat→Prop) (r:Int × Tb) (e:Ending) (w' :World):Prop:=∃ v,e=.returned (.tuple #[v,.int .i64 r.1])∧Y2 w' M v r.2∧Below w.heap.size w w'
theorem VH {w:World} {M:Nat→Prop}:Y2 w M (.agg #[.string ⟨#[]⟩,.slice none 0 0,.int .i64 0,.slice none 0 0]) XZ:=⟨none,0,0,none,0,0,[],rfl,by omega,by omega,by omega,by omega,VJ,fun _ _ _=>⟨Rd.none_,fun r hr=>nomatch hr⟩,fun r hr=>(nomatch hr),rfl⟩
end Go.Proofs.YtnbbllkbefagmaaGreatDoor
namespace Go.Proofs.YtnbbllkbefagmaaGreatDoor
open Go.RowKit
set_option linter.unusedVariables false
set_option linter.unusedSimpArgs false
def V5 (us:List Upd) (id:Int) (v:List Vl):List Vl:=us.foldl (fun acc p=>if p.1=id then p.2.2 else acc) v
theorem UX (u:Upd) (us:List Upd) (id:Int) (v:List Vl):V5 (u::us) id v=V5 us id (if u.1=id then u.2.2 else v):=rfl
theorem QA:∀ {us:List Upd} {id:Int} {v:List Vl},(∀ u∈us,u.1≠id)→V5 us id v=v
 | [],_,_,_=>rfl
 | u::us,id,v,h=>by
  rw [UX,if_neg (h u (List.mem_cons_self ..))]
  exact QA fun x hx=>h x (List.mem_cons_of_mem _ hx)
def keepR (dels:List Int) (us:List Upd) (rs:List Row):List Row:=(rs.filter fun r=>!dels.contains r.1).map fun r=>(r.1,V5 us r.1 r.2)
theorem VS {cs:List Col} {nx:Int}:∀ {lst:Int} {rs:List Row},okR cs nx lst rs=true→(rs.map (·.1)).Pairwise (·<·)∧∀ r∈rs,lst<r.1∧r.1<nx
 | _,[],_=>⟨List.Pairwise.nil,fun _ h=>nomatch h⟩
 | lst,r::rs,h=>by
  rw [okR] at h
  simp only [Bool.and_eq_true,decide_eq_true_eq] at h
  obtain ⟨h1,h2⟩:=VS h.2
  refine ⟨?_,fun x hx=>?_⟩
  ·rw [List.map_cons,List.pairwise_cons]
   refine ⟨fun a ha=>?_,h1⟩
   obtain ⟨x,hx,rfl⟩:=List.mem_map.1 ha
   exact (h2 x hx).1
  ·rcases List.mem_cons.1 hx with rfl|hx
   ·exact ⟨h.1.1.1,h.1.1.2⟩
   ·exact ⟨Int.lt_trans h.1.1.1 (h2 x hx).1,(h2 x hx).2⟩
theorem J8 {rs:List Row} {gone:List Int}:∀ {ids:List Int} {last:Option Int},YB rs gone last ids=true→ids.Pairwise (·<·)∧∀ id∈ids,(Zr rs id).isSome=true∧gone.contains id=false∧∀ p,last=some p→p<id
 | [],_,_=>⟨List.Pairwise.nil,fun _ h=>nomatch h⟩
 | id::ids,last,h=>by
  rw [YB] at h
  simp only [Bool.and_eq_true,Bool.not_eq_true'] at h
  obtain ⟨⟨⟨h1,h2⟩,h3⟩,h4⟩:=h
  obtain ⟨i1,i2⟩:=J8 h4
  have hl:∀ p,last=some p→p<id:=fun p hp=>by
   rw [hp] at h2
   simp only [Option.any_some,decide_eq_false_iff_not] at h2
   omega
  refine ⟨List.pairwise_cons.2 ⟨fun a ha=>(i2 a ha).2.2 id rfl,i1⟩,fun x hx=>?_⟩
  rcases List.mem_cons.1 hx with rfl|hx
  ·exact ⟨h1,h3,hl⟩
  ·exact ⟨(i2 x hx).1,(i2 x hx).2.1,fun p hp=>Int.lt_trans (hl p hp) ((i2 x hx).2.2 id rfl)⟩
theorem ZbA {rs:List Row} {id:Int} (h:(Zr rs id).isSome=true):id∈rs.map (·.1):=by
 unfold Zr at h
 rw [Option.isSome_map] at h
 obtain ⟨r,hr⟩:=Option.isSome_iff_exists.1 h
 have h1:=List.find?_some hr
 have h2:=List.mem_of_find?_eq_some hr
 exact List.mem_map.2 ⟨r,h2,by simpa using h1⟩
theorem Vj {dels:List Int}:∀ (rs:List Row) (us:List Upd),(rs.map (·.1)).Pairwise (·<·)→(us.map (·.1)).Pairwise (·<·)→(∀ u∈us,u.1∈rs.map (·.1)∧dels.contains u.1=false)→goR dels rs us=keepR dels us rs
 | [],us,_,_,h=>by simp [goR,keepR]
 | r::rs,[],hr,_,_=>by
  have ih:=Vj (dels:=dels) rs [] (List.pairwise_cons.1 hr).2 List.Pairwise.nil (fun _ h=>nomatch h)
  rw [goR]
  cases hd:dels.contains r.1
  ·simp only [keepR,List.filter_cons,hd,Bool.not_false,if_true,List.map_cons,Bool.false_eq_true,if_false] at ih ⊢
   rw [ih];rfl
  ·simp only [keepR,List.filter_cons,hd,Bool.not_true,if_true,Bool.false_eq_true,if_false] at ih ⊢
   rw [ih]
 | r::rs,u::us,hr,hu,h=>by
  obtain ⟨r1,r2⟩:=List.pairwise_cons.1 hr
  obtain ⟨u1,u2⟩:=List.pairwise_cons.1 hu
  replace r1:∀ x∈rs,r.1<x.1:=fun x hx=>r1 _ (List.mem_map_of_mem (f:=fun x:Row=>x.1) hx)
  replace u1:∀ x∈us,u.1<x.1:=fun x hx=>u1 _ (List.mem_map_of_mem (f:=fun x:Upd=>x.1) hx)
  have hin:∀ x∈u::us,(x.1=r.1∨x.1∈rs.map (·.1))∧dels.contains x.1=false:=fun x hx=>⟨List.mem_cons.1 (h x hx).1,(h x hx).2⟩
  rw [goR]
  cases hd:dels.contains r.1
  ·simp only [Bool.false_eq_true,if_false]
   by_cases hur:u.1=r.1
   ·rw [if_pos hur]
    have ih:=Vj (dels:=dels) rs us r2 u2 fun x hx=>by
     obtain ⟨h1,h2⟩:=hin x (List.mem_cons_of_mem _ hx)
     refine ⟨?_,h2⟩
     rcases h1 with h1|h1
     ·have:=u1 x hx;omega
     ·exact h1
    rw [ih]
    simp only [keepR,List.filter_cons,hd,Bool.not_false,if_true,List.map_cons]
    rw [UX,if_pos hur,QA fun x hx=>by have:=u1 x hx;omega]
    congr 1
    refine List.map_congr_left fun x hx=>?_
    have:=r1 x (List.mem_filter.1 hx).1
    rw [UX,if_neg (by omega)]
   ·rw [if_neg hur]
    have hmem:∀ x∈u::us,r.1<x.1∧x.1∈rs.map (·.1):=fun x hx=>by
     have hu0:r.1<u.1:=by
      rcases (hin u (List.mem_cons_self ..)).1 with h1|h1
      ·exact absurd h1 hur
      ·obtain ⟨y,hy,hyu⟩:=List.mem_map.1 h1
       have:=r1 y hy
       have hyu:y.1=u.1:=hyu
       omega
     have hx1:r.1<x.1:=by
      rcases List.mem_cons.1 hx with rfl|hx
      ·exact hu0
      ·exact Int.lt_trans hu0 (u1 x hx)
     refine ⟨hx1,?_⟩
     rcases (hin x hx).1 with h1|h1
     ·omega
     ·exact h1
    have ih:=Vj (dels:=dels) rs (u::us) r2 hu fun x hx=>⟨(hmem x hx).2,(h x hx).2⟩
    rw [ih]
    simp only [keepR,List.filter_cons,hd,Bool.not_false,if_true,List.map_cons]
    rw [QA fun x hx=>by have:=(hmem x hx).1;omega]
  ·simp only [if_true]
   have ih:=Vj (dels:=dels) rs (u::us) r2 hu fun x hx=>by
    obtain ⟨h1,h2⟩:=hin x hx
    refine ⟨?_,h2⟩
    rcases h1 with h1|h1
    ·rw [h1,hd] at h2;cases h2
    ·exact h1
   rw [ih]
   simp only [keepR,List.filter_cons,hd,Bool.not_true,Bool.false_eq_true,if_false]
structure ApOk (nm:ByteArray) (cs:List Col) (nx:Int) (rs:List Row) (ins:List (List Vl)) (dels:List Int) (us:List Upd) (T:Tb):Prop where
 tab:Zn nm cs nx rs=true
 tb:T=⟨nm,cs,nx+ins.length,keepR dels us rs++YQ nx ins⟩
 asc:(rs.map (·.1)).Pairwise (·<·)
 low:∀ r∈rs,0<r.1∧r.1<nx
 dasc:dels.Pairwise (·<·)
 din:∀ id∈dels,id∈rs.map (·.1)
 uasc:(us.map (·.1)).Pairwise (·<·)
 uin:∀ u∈us,u.1∈rs.map (·.1)∧dels.contains u.1=false
 dup:YW cs (keepR dels us rs++YQ nx ins)=false
 fits:(∀ u∈us,ZC cs u.2.2=0)∧∀ v∈ins,ZC cs v=0
 lim:(rs.length:Int) - dels.length+ins.length≤100
 nlim:(ins.length:Int)≤2147483648 - nx
theorem XM {nm:ByteArray} {cs:List Col} {nx:Int} {rs:List Row} (h:Zn nm cs nx rs=true):Yc nm cs=true∧rs.length≤100∧1≤nx∧nx≤2147483648∧okR cs nx 0 rs=true∧YW cs rs=false:=by
 unfold Zn at h
 simp only [Bool.and_eq_true,decide_eq_true_eq,Bool.not_eq_true'] at h
 obtain ⟨⟨⟨⟨⟨h1,h2⟩,h3⟩,h4⟩,h5⟩,h6⟩:=h
 exact ⟨h1,h2,h3,h4,h5,h6⟩
theorem QE {nm:ByteArray} {cs:List Col} {nx:Int} {rs:List Row} {ins:List (List Vl)} {dels:List Int} {us:List Upd} (h:Ya nm cs nx rs ins dels us=true):
  Zn nm cs nx rs=true∧(dels.Pairwise (·<·)∧∀ id∈dels,id∈rs.map (·.1))∧(us.map (·.1)).Pairwise (·<·)∧∀ u∈us,u.1∈rs.map (·.1)∧dels.contains u.1=false:=by
 unfold Ya at h
 simp only [Bool.and_eq_true] at h
 obtain ⟨⟨⟨⟨h1,h2⟩,h3⟩,h4⟩,h5⟩:=h
 obtain ⟨a1,a2⟩:=J8 h2
 obtain ⟨b1,b2⟩:=J8 h4
 exact ⟨h1,⟨a1,fun id hd=>ZbA (a2 id hd).1⟩,b1,fun u hu=>⟨ZbA (b2 u.1 (List.mem_map_of_mem hu)).1,(b2 u.1 (List.mem_map_of_mem hu)).2.1⟩⟩
theorem ZcC {nm:ByteArray} {cs:List Col} {nx:Int} {rs:List Row} {ins:List (List Vl)} {dels:List Int} {us:List Upd} {T:Tb} (h:YR nm cs nx rs ins dels us=(0,T)):ApOk nm cs nx rs ins dels us T:=by
 unfold YR at h
 split at h
 ·injection h with h;omega
 ·rename_i hc
  split at h
  ·rename_i hf;injection h with h;exact absurd h hf
  ·rename_i hf
   split at h
   ·injection h with h;omega
   ·rename_i hl
    split at h
    ·injection h with h;omega
    ·rename_i hd
     injection h with _ h
     obtain ⟨h1,⟨h2,h3⟩,h4,h5⟩:=QE (by simpa using hc)
     obtain ⟨_,_,_,_,k5,_⟩:=XM h1
     obtain ⟨k6,k7⟩:=VS k5
     have hg:=Vj (dels:=dels) rs us k6 h4 h5
     have hfc:=JE (Decidable.not_not.1 hf)
     refine ⟨h1,?_,k6,k7,h2,h3,h4,h5,?_,⟨fun u hu=>hfc.1 _ (List.mem_map_of_mem hu),hfc.2⟩,by omega,by omega⟩
     ·rw [←h];unfold Ul;rw [hg]
     ·unfold Ul at hd;rw [hg] at hd;simpa using hd
section
variable {nm:ByteArray} {cs:List Col} {nx:Int} {rs:List Row} {ins:List (List Vl)} {dels:List Int} {us:List Upd} {T:Tb}
theorem ApOk.Zid (h:ApOk nm cs nx rs ins dels us T):((keepR dels us rs).map (·.1)).Pairwise (·<·):=by
 have e:(keepR dels us rs).map (·.1)=(rs.filter fun r=>!dels.contains r.1).map (·.1):=by simp [keepR]
 rw [e]
 exact List.Pairwise.sublist (List.Sublist.map _ List.filter_sublist) h.asc
theorem ApOk.len (h:ApOk nm cs nx rs ins dels us T):(T.rs.length:Int)=rs.length - dels.length+ins.length:=by
 rw [h.tb]
 show ((keepR dels us rs++YQ nx ins).length:Int)=_
 have h1:(YQ nx ins).length=ins.length:=by simp [YQ]
 have h2:(keepR dels us rs).length=(rs.filter fun r=>!dels.contains r.1).length:=by simp [keepR]
 have hnd:(rs.map (·.1)).Nodup:=h.asc.imp fun h=>by omega
 have hdn:dels.Nodup:=h.dasc.imp fun h=>by omega
 have hp:((rs.map (·.1)).filter fun id=>dels.contains id).Perm dels:=(List.perm_ext_iff_of_nodup (hnd.sublist List.filter_sublist) hdn).2 fun a=>by
  simp only [List.mem_filter,List.contains_iff_mem]
  exact ⟨fun k=>k.2,fun k=>⟨h.din a k,k⟩⟩
 have h3:(rs.filter fun r=>dels.contains r.1).length=dels.length:=by
  rw [←hp.length_eq,List.filter_map,List.length_map];rfl
 have h4:(rs.filter fun r=>dels.contains r.1).length+(rs.filter fun r=>!dels.contains r.1).length=rs.length:=by
  have:∀ l:List Row,(l.filter fun r=>dels.contains r.1).length+(l.filter fun r=>!dels.contains r.1).length=l.length:=by
   intro l
   induction l with
   | nil=>rfl
   | cons x l ih=>cases hx:dels.contains x.1<;>simp only [List.filter_cons,hx,if_true,if_false,Bool.not_true,Bool.not_false,List.length_cons,Bool.false_eq_true]<;>omega
  exact this rs
 rw [List.length_append,h1,h2]
 omega
end
end Go.Proofs.YtnbbllkbefagmaaGreatDoor

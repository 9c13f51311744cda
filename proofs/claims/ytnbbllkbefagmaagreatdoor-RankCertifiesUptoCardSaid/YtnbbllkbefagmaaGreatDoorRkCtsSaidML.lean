import Derived.Test.YtnbbllkbefagmaaGreatDoorRkCtsSaidMK
import Derived.Test.YtnbbllkbefagmaaGreatDoorRkCtsSaidMH
import Derived.Test.YtnbbllkbefagmaaGreatDoorRkCtsSaidMD
import Derived.Test.YtnbbllkbefagmaaGreatDoorRkCtsSaidMF
import Derived.Test.YtnbbllkbefagmaaGreatDoorRkCtsSaidMJ
namespace Go.Proofs.YtnbbllkbefagmaaGreatDoor
open Go.RowKit
set_option linter.unusedVariables false
set_option linter.unusedSimpArgs false
structure Te where
 nm:ByteArray
 A:Option Addr
 n:Nat
 c:Nat
 cs:List Col
 nx:Int
 B:Option Addr
 m:Nat
 d:Nat
 l:List Rw
def Te.cells (x:Te):List Value:=[.string x.nm,.slice x.A x.n x.c,.int .i64 x.nx,.slice x.B x.m x.d]
def Te.val (x:Te):Value:=.agg #[.string x.nm,.slice x.A x.n x.c,.int .i64 x.nx,.slice x.B x.m x.d]
def Te.tb (x:Te):Tb:=⟨x.nm,x.cs,x.nx,x.l.map Rw.row⟩
def XH (x:Te) (w:World):Prop:=ColsIn x.A x.n x.cs w∧RwsIn x.B x.m x.l w
structure Te.ok (x:Te):Prop where
 nc:x.n≤x.c
 c:x.c≤9223372036854775807
 md:x.m≤x.d
 d:x.d≤9223372036854775807
 l:∀ r∈x.l,r.ok
theorem Jd {w:World} {M:Nat→Prop} {v:Value} {t:Tb} (h:Ju w M v t):∃ x:Te,v=x.val∧x.tb=t∧x.ok∧Ro w M (XH x):=by
 obtain ⟨A,n,c,B,m,d,l,rfl,h1,h2,h3,h4,h5,h6,h7,h8⟩:=h
 exact ⟨⟨t.nm,A,n,c,t.cs,t.nx,B,m,d,l⟩,rfl,by simp only [Te.tb,h8],⟨h1,h2,h3,h4,h7⟩,h5.and h6⟩
def ZI (l:List Te):List Value:=l.flatMap Te.cells
theorem JF (l:List Te):(ZI l).length=l.length * 4:=Yu _ 4 (fun _=>rfl) l
def TesIn (A:Option Addr) (n:Nat) (l:List Te) (w:World):Prop:=SlR 4 A n (ZI l) w∧∀ x∈l,XH x w
theorem TesIn.len {w:World} {A:Option Addr} {n:Nat} {l:List Te} (h:TesIn A n l w):l.length=n:=by
 have:=(show Rd w w.heap.size 4 A n (ZI l) from h.1).1
 rw [JF] at this
 omega
theorem TesIn.at_ {w:World} {A:Option Addr} {n:Nat} {l:List Te} (h:TesIn A n l w) {k:Nat} {x:Te} (hx:l[k]? =some x):
  ∃ b o,A=some ⟨b,o,none⟩∧b<w.heap.size∧w.cell? ⟨b,o+k * 4,none⟩=some (.string x.nm)∧w.cell? ⟨b,o+k * 4+1,none⟩=some (.slice x.A x.n x.c)∧w.cell? ⟨b,o+k * 4+2,none⟩=some (.int .i64 x.nx)∧w.cell? ⟨b,o+k * 4+3,none⟩=some (.slice x.B x.m x.d)∧XH x w:=by
 have hk:k<n:=by rw [←h.len];exact (List.getElem?_eq_some_iff.1 hx).1
 obtain ⟨b,o,e,hb,hc⟩:=(show Rd w w.heap.size 4 A n (ZI l) from h.1).2 (by omega)
 exact ⟨b,o,e,hb,hc _ _ (flat_get Te.cells 4 (fun _=>rfl) l k 0 x (by omega) hx),hc _ _ (flat_get Te.cells 4 (fun _=>rfl) l k 1 x (by omega) hx),hc _ _ (flat_get Te.cells 4 (fun _=>rfl) l k 2 x (by omega) hx),hc _ _ (flat_get Te.cells 4 (fun _=>rfl) l k 3 x (by omega) hx),h.2 x (List.mem_of_getElem? hx)⟩
theorem ZaX (l:List Te):∀ u∈ZI l,u.oneCell' =true:=fun u hu=>by
 unfold ZI at hu
 rw [List.mem_flatMap] at hu
 obtain ⟨x,_,hx⟩:=hu
 simp only [Te.cells,List.mem_cons,List.not_mem_nil,or_false] at hx
 rcases hx with rfl|rfl|rfl|rfl<;>rfl
theorem QW {w:World} {M:Nat→Prop} {g:Nat} {t:TypeId} {cs:Array Value} {l:List Te} (h:Ro w M (fun w=>w.heap[g]? =some (.cells cs t (0,0)))) (hl:cs.toList=ZI l) (hr:∀ x∈l,Ro w M (XH x)):Ro w M (TesIn (some ⟨g,0,none⟩) l.length l):=by
 have h1:Ro w M (SlR 4 (some ⟨g,0,none⟩) l.length cs.toList):=ZJ h (by rw [hl,JF])
 rw [hl] at h1
 exact h1.and fun w2 a b x hx=>hr x hx w2 a b
set_option maxRecDepth 100000 in
theorem Zd3 (w:World):Calls Tryz.prog 52 #[.slice none 0 0] w fun e w' =>e=.returned (.slice none 0 0)∧Below w.heap.size w w' :=by
 have K0:=Hold.start Zb w zn
 go_enter Tryz.func52,Tryz.ntmps52
 go_wp2_with fail
 go_loopw [3,8] (fun ov iv wr=>ov=.slice none 0 0∧iv=.int .i64 0∧Hold Zb none w wr []) (fun _ _ _=>0)
 case atStart=>exact ⟨rfl,rfl,K0⟩
 case round=>
  clear K0
  obtain ⟨rfl,rfl,H⟩:=hrel
  have HB:=hid H.below
  go_wp2_with fail
  go_ret
  exact ⟨rfl,HB.out⟩
structure TrOk (s:Sm) (x:Te):Prop where
 n:x.n=s.cols.n
 c:x.n≤x.c
 c2:x.c≤9223372036854775807
 z:x.B=none∧x.m=0∧x.d=0∧x.l=[]
def ZeJ (w:World) (M:Nat→Prop) (s:Sm) (e:Ending) (w' :World):Prop:=∃ x:Te,e=.returned x.val∧TrOk s x∧Ro w' M (XH x)∧Below w.heap.size w w'
theorem ZeP (l:List Col) (n:ByteArray) (t:Int):Zd l++(#[.string n,.int .i64 t,.bool false,.bool false]:Array Value).toList=Zd (l++[⟨n,t,false,false⟩]):=by simp [Zd,Col.cells]
set_option maxRecDepth 100000 in
set_option maxHeartbeats 8000000 in
theorem Uz (M:Nat→Prop) (w:World) (hM:∀ b,M b→b<w.heap.size) (name:ByteArray) (s:Sm) (hs:Ro w M (ZK s)) (hn:1≤s.cols.n∧s.cols.n≤1000):Calls Tryz.prog 128 #[.string name,s.val,.slice none 0 0] w fun e w' =>ZeJ w M s e w' :=by
 obtain ⟨snm,⟨cA,cn,cc,cl⟩⟩:=s
 have hcn:1≤cn∧cn≤1000:=hn
 obtain ⟨b,o,eA,-,-⟩:=(show Rd w w.heap.size 4 cA cn (Zd cl) from hs.now.1).2 (by omega)
 subst eA
 have HLN:=hid (show cl.length=cn from (RdC.Zw (show SlR 4 (some ⟨b,o,none⟩) cn (Zd cl) w from hs.now.1)).len)
 have K0:=((((Hold.start M w hM).add (hs.less (by simp [Mut]))).add ((hs.imp (S' :=SlR 4 (some ⟨b,o,none⟩) cn (Zd cl)) fun w2 h2=>h2.1).less (by simp [ZG,Mut,Hp.foot]))).Za #[.string snm,.slice (some ⟨b,o,none⟩) cn cc] 49).alloc #[.string ⟨#[]⟩,.slice none 0 0,.int .i64 0,.slice none 0 0] 67
 obtain ⟨gs,hgs⟩:∃ g,g=w.heap.size:=⟨_,rfl⟩
 rw [World.size_alloc,←hgs] at K0
 obtain ⟨gr,hgr⟩:∃ g,g=gs+1:=⟨_,rfl⟩
 rw [←hgr] at K0
 simp only [Sm.val]
 clear hs
 go_enter Tryz.func128,Tryz.ntmps128
 go_wp2_with fail
 rw [←hgs]
 try rw [←hgr]
 have HG:=hid (And.intro hgs hgr)
 clear hgs hgr
 refine (Zd3 _).mono ?_
 rintro e w1 ⟨rfl,b1⟩
 have K1:=K0.call b1
 have K2:=(K1.alloc #[.string name,.slice none 0 0,.int .i64 1,.slice none 0 0] 67).nil 158 4
 obtain ⟨gt,hgt⟩:∃ g,g=w1.heap.size:=⟨_,rfl⟩
 rw [←hgt] at K2
 have K3:Hold M none w _ [.own 158 4 (.slice none 0 0) 0 [],.blk gt 67 #[.string name,.slice none 0 0,.int .i64 1,.slice none 0 0],.ro (SlR 4 (some ⟨b,o,none⟩) cn (Zd cl)),.cst gs 49 #[.string snm,.slice (some ⟨b,o,none⟩) cn cc],.blk gr 67 #[.string ⟨#[]⟩,.slice none 0 0,.int .i64 0,.slice none 0 0]]:=K2.pick [0,1,4,3,2] (by decide) rfl
 have F2:=K2.facts
 simp only [zg] at F2
 rw [hgt] at F2
 clear K0 K1 K2 b1
 go_wp2_with fail
 try rw [←hgt]
 have HGT:=hid hgt
 clear hgt F2
 go_loopw [18] (fun iv wr=>∃ (j cap:Nat) (O:Option Addr) (outs:List Col),j≤cn∧iv=.int .i64 j∧Hold M none w wr [.own 158 4 (.slice O j cap) j (Zd outs),.blk gt 67 #[.string name,.slice O j cap,.int .i64 1,.slice none 0 0],.ro (SlR 4 (some ⟨b,o,none⟩) cn (Zd cl)),.cst gs 49 #[.string snm,.slice (some ⟨b,o,none⟩) cn cc],.blk gr 67 #[.string ⟨#[]⟩,.slice none 0 0,.int .i64 0,.slice none 0 0]]) (fun iv _=>cn - (intOf iv).toNat)
 case atStart=>exact ⟨0,0,none,[],by omega,rfl,K3⟩
 case round=>
  clear K3
  obtain ⟨j,cap,O,outs,hj,rfl,H⟩:=hrel
  by_cases hlt:j<cn
  ·obtain ⟨⟨xnm,xty,xnn,xkey⟩,hc⟩:=YC HLN.out hlt
   obtain ⟨b2',o2',hcA,hb2,x0,x1,x2,x3⟩:=(RdC.Zw (H.ro 2 rfl).now).at_ hc
   obtain ⟨rfl,rfl⟩:b=b2' ∧o=o2' :=by injection hcA with hcA;injection hcA with e1 e2;exact ⟨e1,e2⟩
   clear hcA
   simp only at x0 x1 x2 x3
   clear hc
   have K2:=H.Za #[.string xnm,.int .i64 xty,.bool xnn,.bool xkey] 158
   have F2:=K2.facts
   simp only [zg] at F2
   clear H
   go_wp2_with (at_builtin;go_must (refine Zx K2 1 rfl Tryz.WH #[.string xnm,.int .i64 xty,.bool false,.bool false] rfl (.tmp 24) (.tmp 30) rfl rfl _ (by first|rfl|simp) rfl rfl (by intro u hu;simp at hu;rcases hu with rfl|rfl|rfl|rfl<;>rfl) (by omega) (by omega) ?_);intro gA capA wA hcA hmA KA;rw [ZeP outs xnm xty] at KA;simp only [zl] at KA;have FA:=KA.facts;simp only [zg] at FA)
   have KB:=KA.store 2 rfl 1 (.slice (some ⟨gA,0,none⟩) (j+1) capA)
   simp only [zl] at KB
   go_roundw
   case rel=>exact ⟨j+1,capA,_,outs++[⟨xnm,xty,false,false⟩],by omega,by go_num,KB.pick [1,2,3,4,5] (by decide) rfl⟩
   case measure=>simp [intOf];omega
  ·obtain rfl:cn=j:=by omega
   have F:=H.facts
   simp only [zg] at F
   have K6:=(((H.store 4 rfl 0 (.string name)).store 4 rfl 1 (.slice O cn cap)).store 4 rfl 2 (.int .i64 1)).store 4 rfl 3 (.slice none 0 0)
   simp only [zl] at K6
   have F6:=K6.facts
   simp only [zg] at F6
   have hcap:=Yx (H.get 0 rfl)
   have KZ:=K6.ZC 0 rfl
   simp only [List.set_cons_zero] at KZ
   have hR:Ro _ _ (XH ⟨name,O,cn,cap,outs,1,none,0,0,[]⟩):=(KZ.ro 0 rfl).imp fun w2 h2=>⟨h2,⟨ZR 2 w2,fun _ hx=>(nomatch hx)⟩⟩
   have HR:=hid (hR.less zm)
   have HB:=hid KZ.below
   clear KZ hR K6 H
   go_wp2_with fail
   refine bodyPost_ret (v:=.agg #[.string name,.slice O cn cap,.int .i64 1,.slice none 0 0]) ?_ rfl ?_
   ·clear HR HB
    simp [results,Tryz.results128,go_sem,F6]
   ·exact ⟨⟨name,O,cn,cap,outs,1,none,0,0,[]⟩,rfl,⟨rfl,hcap.1,hcap.2.1,rfl,rfl,rfl,rfl⟩,HR.out,HB.out⟩
def ZdN (w:World) (M:Nat→Prop) (s:Sm) (e:Ending) (w' :World):Prop:=∃ (A:Option Addr) (c:Nat) (l:List Te),e=.returned (.slice A l.length c)∧l.length≤2∧l.length≤c∧c≤9223372036854775807∧(∀ x∈l,TrOk s x)∧Ro w' M (TesIn A l.length l)∧Below w.heap.size w w'
def Wy (M:Nat→Prop) (s:Sm) (u:Value) (w:World):Prop:=∃ x:Te,u=x.val∧TrOk s x∧Ro w M (XH x)
theorem J5 {M:Nat→Prop} {s:Sm} (u:Value) (w w' :World) (hr:RM M w w') (h:Wy M s u w):Wy M s u w' :=by
 obtain ⟨y,h1,h2,h3⟩:=h
 exact ⟨y,h1,h2,hr.ro h3⟩
set_option maxRecDepth 100000 in
set_option maxHeartbeats 8000000 in
theorem zo (M:Nat→Prop) (w:World) (hM:∀ b,M b→b<w.heap.size) (t:Tg) (s:Sm) (hs:Ro w M (ZK s)) (hn:1≤s.cols.n∧s.cols.n≤1000):Calls Tryz.prog 76 #[t.val,s.val,.agg #[.string ⟨#[]⟩,.slice none 0 0,.slice none 0 0,.slice none 0 0]] w fun e w' =>ZdN w M s e w' :=by
 obtain ⟨tn,tt,tb,te,⟨oA,on,oc,ol⟩,tch,⟨pA,pn,pc,pl⟩,⟨qA,qn,qc,ql⟩,⟨rA,rn,rc,rl⟩,⟨kA,kn,kc,kl⟩,⟨aA,an,ac,al⟩⟩:=t
 obtain ⟨snm,⟨cA,cn,cc,cl⟩⟩:=s
 have K0:=((((Hold.start M w hM).add (hs.less (by simp [Mut]))).Za #[.string tn,.string tt,.bool tb,.int .i64 te,.slice oA on oc,.bool tch,.slice pA pn pc,.slice qA qn qc,.slice rA rn rc,.slice kA kn kc,.slice aA an ac] 40).Za #[.string snm,.slice cA cn cc] 49).Za #[.string ⟨#[]⟩,.slice none 0 0,.slice none 0 0,.slice none 0 0] 44
 rw [World.size_alloc,World.size_alloc] at K0
 obtain ⟨gt,hgt⟩:∃ g,g=w.heap.size:=⟨_,rfl⟩
 rw [←hgt] at K0
 obtain ⟨gs,hgs⟩:∃ g,g=gt+1:=⟨_,rfl⟩
 obtain ⟨gd,hgd⟩:∃ g,g=gs+1:=⟨_,rfl⟩
 rw [←hgs,←hgd] at K0
 have F0:=K0.facts
 simp only [zg] at F0
 rw [hgd,hgs,hgt] at F0
 simp only [Tg.val,Sm.val]
 clear hs
 go_enter Tryz.func76,Tryz.ntmps76
 cases tb
 ·cases tch
  ·go_wp2_with fail
   rw [←hgt,←hgs,←hgd]
   have HG:=hid (And.intro hgt (And.intro hgs hgd))
   clear hgt hgs hgd F0
   go_loopw [7,8,20] (fun ov nv iv wr=>ov=.slice none 0 0∧nv=.slice none 0 0∧iv=.int .i64 0∧Hold M none w wr [.cst gd 44 #[.string ⟨#[]⟩,.slice none 0 0,.slice none 0 0,.slice none 0 0],.cst gs 49 #[.string snm,.slice cA cn cc],.cst gt 40 #[.string tn,.string tt,.bool false,.int .i64 te,.slice oA on oc,.bool false,.slice pA pn pc,.slice qA qn qc,.slice rA rn rc,.slice kA kn kc,.slice aA an ac],.ro (ZK ⟨snm,⟨cA,cn,cc,cl⟩⟩)]) (fun _ _ _ _=>0)
   case atStart=>exact ⟨rfl,rfl,rfl,K0⟩
   case round=>
    clear K0
    obtain ⟨rfl,rfl,rfl,H⟩:=hrel
    have F:=H.facts
    simp only [zg] at F
    by_cases e1:te=1
    ·skip
     subst e1
     go_wp2_with fail
     refine (Uz (Mut M _) _ H.Zc ⟨#[73,78,83,69,82,84,69,68]⟩ ⟨snm,⟨cA,cn,cc,cl⟩⟩ (H.ro 3 rfl) hn).mono ?_
     rintro e w2 ⟨x,rfl,hx,rx,b2⟩
     have K5:=((H.call b2).add rx).Za #[.string x.nm,.slice x.A x.n x.c,.int .i64 x.nx,.slice x.B x.m x.d] 67
     rw [show x.val=.agg #[.string x.nm,.slice x.A x.n x.c,.int .i64 x.nx,.slice x.B x.m x.d] from rfl]
     have hR:Ro _ _ (TesIn (some ⟨w2.heap.size,0,none⟩) 1 [x]):=QW (l:=[x]) (K5.get 0 rfl) (by simp [ZI,Te.cells]) (fun z hz=>by
      simp only [List.mem_cons,List.not_mem_nil,or_false] at hz
      subst hz
      exact K5.ro 1 rfl)
     have HR:=hid (hR.less zm)
     have HB:=hid K5.below
     clear H F b2 rx K5 hR
     go_wp2_with fail
     go_ret
     exact ⟨_,1,[x],rfl,by simp,by simp,by simp,fun z hz=>by
      simp only [List.mem_cons,List.not_mem_nil,or_false] at hz
      subst hz
      exact hx,HR.out,HB.out⟩
    ·by_cases e3:te=3
     ·skip
      subst e3
      go_wp2_with fail
      refine (Uz (Mut M _) _ H.Zc ⟨#[68,69,76,69,84,69,68]⟩ ⟨snm,⟨cA,cn,cc,cl⟩⟩ (H.ro 3 rfl) hn).mono ?_
      rintro e w2 ⟨x,rfl,hx,rx,b2⟩
      have K5:=((H.call b2).add rx).Za #[.string x.nm,.slice x.A x.n x.c,.int .i64 x.nx,.slice x.B x.m x.d] 67
      rw [show x.val=.agg #[.string x.nm,.slice x.A x.n x.c,.int .i64 x.nx,.slice x.B x.m x.d] from rfl]
      have hR:Ro _ _ (TesIn (some ⟨w2.heap.size,0,none⟩) 1 [x]):=QW (l:=[x]) (K5.get 0 rfl) (by simp [ZI,Te.cells]) (fun z hz=>by
       simp only [List.mem_cons,List.not_mem_nil,or_false] at hz
       subst hz
       exact K5.ro 1 rfl)
      have HR:=hid (hR.less zm)
      have HB:=hid K5.below
      clear H F b2 rx K5 hR
      go_wp2_with fail
      go_ret
      exact ⟨_,1,[x],rfl,by simp,by simp,by simp,fun z hz=>by
       simp only [List.mem_cons,List.not_mem_nil,or_false] at hz
       subst hz
       exact hx,HR.out,HB.out⟩
     ·by_cases e2:te=2
      ·skip
       subst e2
       obtain ⟨KL,hKL⟩:∃ KL:List Hp,KL=[.cst gd 44 #[.string ⟨#[]⟩,.slice none 0 0,.slice none 0 0,.slice none 0 0],.cst gs 49 #[.string snm,.slice cA cn cc],.cst gt 40 #[.string tn,.string tt,.bool false,.int .i64 2,.slice oA on oc,.bool false,.slice pA pn pc,.slice qA qn qc,.slice rA rn rc,.slice kA kn kc,.slice aA an ac],.ro (ZK ⟨snm,⟨cA,cn,cc,cl⟩⟩)]:=⟨_,rfl⟩
       have hcast:∀ (L1:List Hp) (wz:World),Hold M none w wz L1→L1=KL→Hold M none w wz KL:=fun _ _ h e=>e ▸ h
       have K6:=hcast _ _ H hKL.symm
       have H1:∀ wv:World,Hold M none w wv KL→Blk wv gs 49 #[.string snm,.slice cA cn cc]:=fun wv h=>by rw [hKL] at h;exact h.ZB 1 rfl
       have H2:∀ wv:World,Hold M none w wv KL→Ro wv (Mut M KL) (ZK ⟨snm,⟨cA,cn,cc,cl⟩⟩):=fun wv h=>by rw [hKL] at h ⊢;exact h.ro 3 rfl
       have HH1:=hid H1
       have HH2:=hid H2
       have HKL:=hid hKL
       clear hKL hcast H1 H2 H
       go_wp2_with fail
       clear F
       refine wp_region_any (by kernel_rfl) ?_
       refine ZH 6 66 (KL) (spL [(61,Wy (Mut M KL) ⟨snm,⟨cA,cn,cc,cl⟩⟩),(64,Wy (Mut M KL) ⟨snm,⟨cA,cn,cc,cl⟩⟩)]) (by kernel_rfl) (by kernel_rfl) (by kernel_rfl) rfl ?_ (K6.drew) ?_
       ·exact Ze J5 (Ze J5 (ZF _))
       simp only [zd,Act.put,List.getElem_toArray,List.getElem_cons_zero,List.getElem_cons_succ,zl]
       refine' dv rfl rfl rfl (fun wv HC=>?_) ?_;rotate_left
       ·obtain q0:=(HH1.out _ HC).cell 0;obtain q1:=(HH1.out _ HC).cell 1;go_simp<;>rfl
       simp only [Act.put,zl]
       refine' dv rfl rfl rfl (fun wv HC=>?_) ?_;rotate_left
       · go_simp<;>rfl
       simp only [Act.put,zl]
       refine Zq 61 (Wy (Mut M KL) ⟨snm,⟨cA,cn,cc,cl⟩⟩) (f:=128) (args:=#[.string ⟨#[68,69,76,69,84,69,68]⟩,.agg #[.string snm,.slice cA cn cc],.slice none 0 0]) rfl rfl rfl rfl (fun wv=>?_) (fun wv HC hrm hD=>?_) ?_
       ·go_simp<;>rfl
       ·refine (Uz (Mut M KL) wv HC.Zc ⟨#[68,69,76,69,84,69,68]⟩ ⟨snm,⟨cA,cn,cc,cl⟩⟩ (HH2.out _ HC) hn).mono ?_
        rintro e w5 ⟨x,rfl,hx,rx,b5⟩
        exact ⟨_,rfl,⟨x,rfl,hx,rx⟩,HC.call b5,RM.below b5⟩
       rintro u wx HCx ⟨x,rfl,hx,rx⟩
       clear HCx hx rx
       simp only [Act.put,zl]
       refine' dv rfl rfl rfl (fun wv HC=>?_) ?_;rotate_left
       ·obtain q0:=(HH1.out _ HC).cell 0;obtain q1:=(HH1.out _ HC).cell 1;go_simp<;>rfl
       simp only [Act.put,zl]
       refine' dv rfl rfl rfl (fun wv HC=>?_) ?_;rotate_left
       · go_simp<;>rfl
       simp only [Act.put,zl]
       refine Zq 64 (Wy (Mut M KL) ⟨snm,⟨cA,cn,cc,cl⟩⟩) (f:=128) (args:=#[.string ⟨#[73,78,83,69,82,84,69,68]⟩,.agg #[.string snm,.slice cA cn cc],.slice none 0 0]) rfl rfl rfl rfl (fun wv=>?_) (fun wv HC hrm hD=>?_) ?_
       ·go_simp<;>rfl
       ·refine (Uz (Mut M KL) wv HC.Zc ⟨#[73,78,83,69,82,84,69,68]⟩ ⟨snm,⟨cA,cn,cc,cl⟩⟩ (HH2.out _ HC) hn).mono ?_
        rintro e w5 ⟨x,rfl,hx,rx,b5⟩
        exact ⟨_,rfl,⟨x,rfl,hx,rx⟩,HC.call b5,RM.below b5⟩
       rintro u wx HCx ⟨y,rfl,hx,rx⟩
       clear HCx hx rx
       simp only [Act.put,zl]
       refine ZE ?_
       rintro wx2 HX
       rintro _hrm HG
       have hu:Wy (Mut M KL) ⟨snm,⟨cA,cn,cc,cl⟩⟩ x.val wx2:=(Zp (d:=61) rfl).1 (HG 2 _ rfl (by omega))
       have hu2:Wy (Mut M KL) ⟨snm,⟨cA,cn,cc,cl⟩⟩ y.val wx2:=(Zp (d:=64) rfl).1 (HG 5 _ rfl (by omega))
       clear HG _hrm
       obtain ⟨x1,hy1,hok1,hro1⟩:=hu
       obtain ⟨x2,hy2,hok2,hro2⟩:=hu2
       rw [HKL.out] at HX hro1 hro2
       rw [hy1,hy2]
       clear hy1 hy2 x y HH1 HH2 HKL
       have K5:=(((HX.add hro1).add (hro2.less (by intro b hb;simpa [ZG,Hp.foot] using hb)))).Za #[.string x1.nm,.slice x1.A x1.n x1.c,.int .i64 x1.nx,.slice x1.B x1.m x1.d,.string x2.nm,.slice x2.A x2.n x2.c,.int .i64 x2.nx,.slice x2.B x2.m x2.d] 67
       rw [show x1.val=.agg #[.string x1.nm,.slice x1.A x1.n x1.c,.int .i64 x1.nx,.slice x1.B x1.m x1.d] from rfl,show x2.val=.agg #[.string x2.nm,.slice x2.A x2.n x2.c,.int .i64 x2.nx,.slice x2.B x2.m x2.d] from rfl]
       have hR:Ro _ _ (TesIn (some ⟨wx2.heap.size,0,none⟩) 2 [x1,x2]):=QW (l:=[x1,x2]) (K5.get 0 rfl) (by simp [ZI,Te.cells]) (fun z hz=>by
        simp only [List.mem_cons,List.not_mem_nil,or_false] at hz
        rcases hz with rfl|rfl
        ·exact K5.ro 2 rfl
        ·exact K5.ro 1 rfl)
       have HR:=hid (hR.less zm)
       have HB:=hid K5.below
       clear HX hro1 hro2 K5 hR
       go_wp2_with fail
       go_ret
       exact ⟨_,2,[x1,x2],rfl,by simp,by simp,by simp,fun z hz=>by
        simp only [List.mem_cons,List.not_mem_nil,or_false] at hz
        rcases hz with rfl|rfl
        ·exact hok1
        ·exact hok2,HR.out,HB.out⟩
      ·have c2:(te==2)=false:=by simpa using e2
       have c3:(te==3)=false:=by simpa using e3
       have c1:(te==1)=false:=by simpa using e1
       have HB:=hid H.below
       clear H
       go_wp2_with fail
       go_ret
       exact ⟨none,0,[],rfl,by simp,by simp,by simp,fun _ hx=>(nomatch hx),fun w2 _ _=>⟨ZR 4 w2,fun _ hx=>(nomatch hx)⟩,HB.out⟩
  ·have HB:=hid K0.below
   go_wp2_with fail
   go_ret
   exact ⟨none,0,[],rfl,by simp,by simp,by simp,fun _ hx=>(nomatch hx),fun w2 _ _=>⟨ZR 4 w2,fun _ hx=>(nomatch hx)⟩,HB.out⟩
 ·have HB:=hid K0.below
  go_wp2_with fail
  go_ret
  exact ⟨none,0,[],rfl,by simp,by simp,by simp,fun _ hx=>(nomatch hx),fun w2 _ _=>⟨ZR 4 w2,fun _ hx=>(nomatch hx)⟩,HB.out⟩
def SmB (s:Sm):Prop:=1≤s.cols.n∧s.cols.n≤1000∧s.cols.n≤100∧s.cols.n≤s.cols.c
theorem Ji {M:Nat→Prop} {L:List Hp} {g:Nat} {t:TypeId} {cs:Array Value}:∀ b,(M b∨b=g)→Mut M (.blk g t cs::L) b:=fun b hb=>by
 rcases hb with hb|rfl
 ·exact .inl hb
 ·exact .inr ⟨_,List.mem_cons_self ..,rfl⟩
def Zfw (w:World) (M:Nat→Prop) (e:Ending) (w' :World):Prop:=∃ (g:Nat) (l:List Sm),e=.returned (.slice (some ⟨g,0,none⟩) 3 3)∧l.length=3∧(∀ s∈l,SmB s)∧w'.ownsRow w.heap.size 49 2 (.slice (some ⟨g,0,none⟩) 3 3) 3 (WN l)∧(∀ s∈l,Ro w' (fun b=>M b∨b=g) (ZK s))∧Below w.heap.size w w'
set_option maxHeartbeats 4000000 in
theorem ZbF (M:Nat→Prop) (w:World) (hM:∀ b,M b→b<w.heap.size):Calls Tryz.prog 56 #[] w fun e w' =>Zfw w M e w' :=by
 have K0:=((((Hold.start M w hM).Za (Zd Ym).toArray 158).Za (Zd Yl).toArray 158).Za (Zd Yb).toArray 158).alloc
  #[.string XX,.slice (some ⟨w.heap.size,0,none⟩) 2 2,.string nmT,.slice (some ⟨w.heap.size+1,0,none⟩) 4 4,.string nmU,.slice (some ⟨w.heap.size+1+1,0,none⟩) 3 3] 49
 simp only [World.size_alloc] at K0
 go_enter Tryz.func56,Tryz.ntmps56
 go_wp2
 go_ret
 have h0:=K0.Zy 0 rfl
 refine ⟨w.heap.size+1+1+1,[⟨XX,⟨some ⟨w.heap.size,0,none⟩,2,2,Ym⟩⟩,⟨nmT,⟨some ⟨w.heap.size+1,0,none⟩,4,4,Yl⟩⟩,⟨nmU,⟨some ⟨w.heap.size+1+1,0,none⟩,3,3,Yb⟩⟩],rfl,rfl,fun s hs=>?_,⟨rfl,.inr ⟨w.heap.size+1+1+1,3,_,rfl,by omega,h0,Nat.le_refl _,by decide,rfl,rfl⟩⟩,fun s hs=>?_,K0.below⟩
 ·simp only [List.mem_cons,List.not_mem_nil,or_false] at hs
  rcases hs with rfl|rfl|rfl<;>exact ⟨by simp,by simp,by simp,by simp⟩
 ·simp only [List.mem_cons,List.not_mem_nil,or_false] at hs
  rcases hs with rfl|rfl|rfl
  ·exact (((ZJ (K0.get 3 rfl) (by rfl)).less Ji):Ro _ _ (SlR 4 _ 2 (Zd Ym))).imp fun w2 h2=>⟨h2,fun _ _=>trivial⟩
  ·exact (((ZJ (K0.get 2 rfl) (by rfl)).less Ji):Ro _ _ (SlR 4 _ 4 (Zd Yl))).imp fun w2 h2=>⟨h2,fun _ _=>trivial⟩
  ·exact (((ZJ (K0.get 1 rfl) (by rfl)).less Ji):Ro _ _ (SlR 4 _ 3 (Zd Yb))).imp fun w2 h2=>⟨h2,fun _ _=>trivial⟩
theorem Jr {s:ByteArray} (h:WU s):1≤(ZP s).2.length∧(ZP s).2.length≤4:=by
 rcases h with rfl|rfl|rfl<;>exact ⟨by decide+kernel,by decide+kernel⟩
theorem Tryz.Zhv:ElemT Tryz.prog 119 49 2 40 (.agg #[.string ⟨#[]⟩,.slice none 0 0]):=⟨Tryz.underlying119,by kernel_rfl,rfl,by omega⟩
theorem ZfQ (l:List Sm) (n:ByteArray) (A:Option Addr) (k c:Nat) (cs:List Col):WN l++(#[.string n,.slice A k c]:Array Value).toList=WN (l++[⟨n,⟨A,k,c,cs⟩⟩]):=by simp [WN,Sm.cells,SlP.v]
def ZbO (w:World) (M:Nat→Prop) (e:Ending) (w' :World):Prop:=∃ p:Pl,e=.returned p.val∧PlB p∧p.fr.n≤2∧1≤p.tb.n∧Ro w' M (Zg p)∧Below w.heap.size w w'
set_option maxRecDepth 100000 in
set_option maxHeartbeats 8000000 in
theorem ZgJ (M:Nat→Prop) (w:World) (hM:∀ b,M b→b<w.heap.size) (t:Tg) (hT:WU t.tab):Calls Tryz.prog 98 #[t.val] w fun e w' =>ZbO w M e w' :=by
 obtain ⟨tn,tt,tb,te,⟨oA,on,oc,ol⟩,tch,⟨pA,pn,pc,pl⟩,⟨qA,qn,qc,ql⟩,⟨rA,rn,rc,rl⟩,⟨kA,kn,kc,kl⟩,⟨aA,an,ac,al⟩⟩:=t
 have hT:WU tt:=hT
 have K0:=((Hold.start M w hM).Za #[.string tn,.string tt,.bool tb,.int .i64 te,.slice oA on oc,.bool tch,.slice pA pn pc,.slice qA qn qc,.slice rA rn rc,.slice kA kn kc,.slice aA an ac] 40).alloc #[.slice none 0 0,.slice none 0 0] 177
 rw [World.size_alloc] at K0
 obtain ⟨gx,hgx⟩:∃ g,g=w.heap.size:=⟨_,rfl⟩
 rw [←hgx] at K0
 obtain ⟨gr,hgr⟩:∃ g,g=gx+1:=⟨_,rfl⟩
 rw [←hgr] at K0
 have F0:=K0.facts
 simp only [zg] at F0
 rw [hgr,hgx] at F0
 simp only [Tg.val]
 go_enter Tryz.func98,Tryz.ntmps98
 go_wp2_with fail
 rw [←hgx]
 try rw [←hgr]
 have HG:=hid (And.intro hgx hgr)
 clear hgx hgr F0
 refine (Ur (Mut M _) _ K0.Zc tt).mono ?_
 rintro e w1 ⟨cA,cn,cc,rfl,hcc,hc4,r1,b1⟩
 have hcl:1≤cn∧cn≤4:=by
  have h:=(show Rd w1 w1.heap.size 4 cA cn (Zd (ZP tt).2) from r1.now).1
  have h2:=Jr hT
  have h3:(Zd (ZP tt).2).length=(ZP tt).2.length * 4:=Yu _ 4 (fun _=>rfl) _
  omega
 have K1:=(K0.call b1).add (r1.imp (S' :=ZK ⟨(ZP tt).1,⟨cA,cn,cc,(ZP tt).2⟩⟩) fun w2 h2=>⟨h2,fun _ _=>trivial⟩)
 obtain ⟨snm,hsnm⟩:∃ x,x=(ZP tt).1:=⟨_,rfl⟩
 obtain ⟨cl,hcs⟩:∃ x,x=(ZP tt).2:=⟨_,rfl⟩
 rw [←hsnm,←hcs] at K1
 rw [←hsnm]
 clear K0 hsnm hcs r1 b1
 have K2:=K1.alloc #[.string snm,.slice cA cn cc] 49
 have F1:=K1.facts
 simp only [zg] at F1
 have F2:=K2.facts
 simp only [zg] at F2
 clear K1
 go_wp2_with fail
 refine (ZaT (Mut M _) _ K2.Zc ⟨tn,tt,tb,te,⟨oA,on,oc,ol⟩,tch,⟨pA,pn,pc,pl⟩,⟨qA,qn,qc,ql⟩,⟨rA,rn,rc,rl⟩,⟨kA,kn,kc,kl⟩,⟨aA,an,ac,al⟩⟩ ⟨snm,⟨cA,cn,cc,cl⟩⟩ (K2.ro 1 rfl) (by show cn≤1000;omega)).mono ?_
 rintro e w3 ⟨⟨fA,fn,fc,fl⟩,rfl,hf1,hf2,hf3,rf,b3⟩
 have K3:=(K2.call b3).add rf
 simp only [SlP.v] at *
 clear K2 F1 F2 rf b3
 go_wp2_with fail
 refine (ZbF (Mut M _) _ K3.Zc).mono ?_
 rintro e w4 ⟨g,sl,rfl,hl3,hsl,ho,hro,b4⟩
 have K4:=(K3.JO b4 ho).add (S:=fun w=>∀ s∈sl,ZK s w) (by
  intro w2 ha hb s hs
  refine (hro s hs).less (fun b hm=>?_) w2 ha hb
  rcases ZG.1 hm with hf|hm
  ·right
   have hf:some g=some b:=hf
   injection hf with hf
   exact hf.symm
  ·exact .inl hm)
 have K5:=K4.alloc #[.slice fA fn fc,.slice (some ⟨g,0,none⟩) 3 3] 177
 have F4:=K4.facts
 simp only [zg] at F4
 have F5:=K5.facts
 simp only [zg] at F5
 have HRO:=hid hro
 clear K3 K4 ho hro b4
 go_wp2_with fail
 refine (zo (Mut M _) _ K5.Zc ⟨tn,tt,tb,te,⟨oA,on,oc,ol⟩,tch,⟨pA,pn,pc,pl⟩,⟨qA,qn,qc,ql⟩,⟨rA,rn,rc,rl⟩,⟨kA,kn,kc,kl⟩,⟨aA,an,ac,al⟩⟩ ⟨snm,⟨cA,cn,cc,cl⟩⟩ (K5.ro 5 rfl) (by show 1≤cn∧cn≤1000;omega)).mono ?_
 rintro e w5 ⟨tA,tc,tl,rfl,htl,htc,htm,htr,rt,b5⟩
 obtain ⟨gq,hgq⟩:∃ g,g=w4.heap.size:=⟨_,rfl⟩
 rw [←hgq] at K5 rt ⊢
 have HGQ:=hid hgq
 clear hgq F4 F5
 have K6:Hold M none w w5 [.own 49 2 (.slice (some ⟨g,0,none⟩) 3 3) 3 (WN sl),.blk gq 177 #[.slice fA fn fc,.slice (some ⟨g,0,none⟩) 3 3],.ro (fun w=>∀ s∈sl,ZK s w),.ro (TesIn tA tl.length tl),.ro (FrsIn ⟨fA,fn,fc,fl⟩),.blk gr 177 #[.slice none 0 0,.slice none 0 0]]:=((K5.call b5).add rt).pick [3,1,2,0,4,7] (by decide) rfl
 have HTR:=hid htr
 clear K5 rt b5 htr
 go_wp2_with fail
 go_loopw [20] (fun iv wr=>∃ (j cap:Nat) (O:Option Addr) (outs:List Sm),j≤tl.length∧iv=.int .i64 j∧(∀ s∈outs,SmB s)∧Hold M none w wr [.own 49 2 (.slice O (3+j) cap) (3+j) (WN outs),.blk gq 177 #[.slice fA fn fc,.slice O (3+j) cap],.ro (fun w=>∀ s∈outs,ZK s w),.ro (TesIn tA tl.length tl),.ro (FrsIn ⟨fA,fn,fc,fl⟩),.blk gr 177 #[.slice none 0 0,.slice none 0 0]]) (fun iv _=>tl.length - (intOf iv).toNat)
 case atStart=>exact ⟨0,3,some ⟨g,0,none⟩,sl,by omega,rfl,hsl,K6⟩
 case round=>
  clear K6
  obtain ⟨j,cap,O,outs,hj,rfl,hso,H⟩:=hrel
  by_cases hlt:j<tl.length
  ·obtain ⟨x,hx⟩:=Yg rfl hlt
   obtain ⟨b,o,rfl,hb2,x0,x1,x2,x3,hin⟩:=TesIn.at_ (H.ro 3 rfl).now hx
   have hok:=HTR.out x (List.mem_of_getElem? hx)
   have hxin:=(H.ro 3 rfl).imp (S' :=ZK ⟨x.nm,⟨x.A,x.n,x.c,x.cs⟩⟩) fun w2 h2=>⟨(h2.2 x (List.mem_of_getElem? hx)).1,fun _ _=>trivial⟩
   clear hx
   have K2:=(H.add hxin).Za #[.string x.nm,.slice x.A x.n x.c,.int .i64 x.nx,.slice x.B x.m x.d] 67
   have F2:=K2.facts
   simp only [zg] at F2
   clear H hin hxin
   go_wp2_with (at_builtin;go_must (refine Zx K2 2 rfl Tryz.Zhv #[.string x.nm,.slice x.A x.n x.c] rfl (.tmp 25) (.tmp 28) rfl rfl _ (by first|rfl|simp) rfl rfl (by intro u hu;simp at hu;rcases hu with rfl|rfl<;>rfl) (by omega) (by omega) ?_);intro gA capA wA hcA hmA KA;rw [ZfQ outs x.nm x.A x.n x.c x.cs] at KA;simp only [zl] at KA;have FA:=KA.facts;simp only [zg] at FA)
   have KB:=KA.store 3 rfl 1 (.slice (some ⟨gA,0,none⟩) (3+j+1) capA)
   simp only [zl] at KB
   have KC:=KB.add (S:=fun w=>∀ s∈outs++[(⟨x.nm,⟨x.A,x.n,x.c,x.cs⟩⟩:Sm)],ZK s w) (((KB.ro 4 rfl).and (KB.ro 1 rfl)).imp fun w2 h2 s hs=>by
    rcases List.mem_append.1 hs with hs|hs
    ·exact h2.1 s hs
    ·simp only [List.mem_cons,List.not_mem_nil,or_false] at hs
     subst hs
     exact h2.2)
   go_roundw
   case rel=>
    refine ⟨j+1,capA,_,outs++[⟨x.nm,⟨x.A,x.n,x.c,x.cs⟩⟩],by omega,by go_num,fun s hs=>?_,KC.pick [3,4,0,6,7,8] (by decide) rfl⟩
    rcases List.mem_append.1 hs with hs|hs
    ·exact hso s hs
    ·simp only [List.mem_cons,List.not_mem_nil,or_false] at hs
     subst hs
     have h1:x.n=cn:=hok.n
     have h2:=hok.c
     exact ⟨by show 1≤x.n;omega,by show x.n≤1000;omega,by show x.n≤100;omega,h2⟩
   case measure=>simp [intOf];omega
  ·obtain rfl:tl.length=j:=by omega
   have F:=H.facts
   simp only [zg] at F
   have K6:=(H.store 5 rfl 0 (.slice fA fn fc)).store 5 rfl 1 (.slice O (3+tl.length) cap)
   simp only [zl] at K6
   have F6:=K6.facts
   simp only [zg] at F6
   have hcap:=Yx (H.get 0 rfl)
   have hlen:=(H.get 0 rfl).1
   rw [Zgc] at hlen
   have KZ:=K6.ZC 0 rfl
   simp only [List.set_cons_zero] at KZ
   have hR:Ro _ _ (Zg ⟨⟨fA,fn,fc,fl⟩,⟨O,3+tl.length,cap,outs⟩⟩):=((KZ.ro 4 rfl).and ((KZ.ro 0 rfl).and (KZ.ro 2 rfl))).imp fun w2 h2=>⟨h2.1,⟨h2.2.1,h2.2.2⟩⟩
   have HR:=hid (hR.less zm)
   have HB:=hid KZ.below
   clear KZ hR K6 H
   go_wp2_with fail
   refine bodyPost_ret (v:=.agg #[.slice fA fn fc,.slice O (3+tl.length) cap]) ?_ rfl ?_
   ·clear HR HB
    simp [results,Tryz.results98,go_sem,F6]
   ·exact ⟨⟨⟨fA,fn,fc,fl⟩,⟨O,3+tl.length,cap,outs⟩⟩,rfl,⟨⟨hf1,by show fn≤100;omega⟩,⟨hcap.1,by show 3+tl.length≤100;omega⟩,fun f hf=>by have:=hf3 f hf;show f.cols.n≤100;have h5:f.cols.n=cn:=this;omega,fun s hs=>(hso s hs).2.2.1⟩,hf2,by show 1≤3+tl.length;omega,HR.out,HB.out⟩
def QuGd (d:Nat) (q:Qu):Prop:=(q.n≤q.c∧q.c≤9223372036854775807∧q.m≤q.d∧q.d≤9223372036854775807)∧(q.items.length≤8∧q.wh.length≤1)∧(∀ a∈q.items,ExGd d a)∧∀ a∈q.wh,ExGd d a
def Ze3 (w:World) (T:Nat) (M:Nat→Prop) (d:Nat) (e:Ending) (w' :World):Prop:=∃ q:Qu,e=.returned (.agg #[.bool q.star,.slice q.A q.n q.c,.string q.src,.slice q.B q.m q.d])∧QuGd d q∧Ro w' M (QuIn d q)∧Tp w' T∧w.grownBy w' (some T)
theorem Zcc {w:World} {b o n c:Nat} {l:List Fr} {f:Fr} {c' :Nat} (h:FrsIn ⟨some ⟨b,o,none⟩,n+1,c,l++[f]⟩ w):FrsIn ⟨some ⟨b,o+n * 4,none⟩,1,c',[f]⟩ w:=by
 have hl:l.length=n:=by
  have:=FrsIn.len h
  simp at this
  exact this
 refine ⟨⟨by simp [Fr.cells],fun _=>⟨b,o+n * 4,rfl,?_,fun j u hu=>?_⟩⟩,fun x hx=>h.2 x (List.mem_append_right _ hx)⟩
 ·obtain ⟨b2,o2,e,hb,-⟩:=(show Rd w w.heap.size 4 (some ⟨b,o,none⟩) (n+1) ((l++[f]).flatMap Fr.cells) from h.1).2 (by omega)
  injection e with e
  injection e with e1 e2
  subst e1
  exact hb
 ·obtain ⟨b2,o2,e,hb,hc⟩:=(show Rd w w.heap.size 4 (some ⟨b,o,none⟩) (n+1) ((l++[f]).flatMap Fr.cells) from h.1).2 (by omega)
  injection e with e
  injection e with e1 e2
  subst e1
  subst e2
  have hlen:(l.flatMap Fr.cells).length=n * 4:=by rw [Yu Fr.cells 4 (fun _=>rfl),hl]
  have:=hc (n * 4+j) u (by
   rw [List.flatMap_append,List.getElem?_append_right (by omega),hlen]
   simpa using hu)
  rw [←Nat.add_assoc] at this
  exact this
set_option maxRecDepth 100000 in
set_option maxHeartbeats 16000000 in
theorem Ze1 {n:Nat} (HE:GE n) (M:Nat→Prop) (T:Nat) (w:World) (hM:∀ b,M b→b<w.heap.size) (ht:Tp w T) (hMT:∀ b,M b→T≤b) (p:Pl) (s:Sm) (depth:Int) (hp:Ro w (Mut M [.tp T]) (Zg p)) (hsm:Ro w (Mut M [.tp T]) (ZK s)) (hsc:1≤s.cols.n∧s.cols.n≤4) (hW:Ro w (Mut M [.tp T]) Wds) (hT:1<T) (hB:PlN (n+1) p) (hd:depth≤n) (hd2:-100≤depth) (hs:0<p.tb.n):
  Calls Tryz.prog 204 #[.pointer (some ⟨T,0,none⟩),p.val,s.val,.int .i64 depth] w fun e w' =>Ze3 w T M (n+3) e w' :=by
 have HBM:=hid (fun (s:Sm) (hs:s∈p.tb.l) (A:Option Addr) (c:Nat) (hc:p.fr.n+1≤c)=>JY hB hs (A:=A) hc)
 obtain ⟨⟨fA,fn,fc,fl⟩,⟨sA,sn,sc,sl⟩⟩:=p
 obtain ⟨snm,⟨cA,cn,cc,cl⟩⟩:=s
 have hs:0<sn:=hs
 have hcn:1≤cn∧cn≤4:=hsc
 have HTC:=hid (show ∀ s∈sl,s.cols.n≤100 from hB.b.tc)
 have HSL:=hid (show sl.length=sn from SmsIn.len hp.now.2)
 obtain ⟨bS,oS,eS,-,-⟩:=(show Rd w w.heap.size 2 sA sn (sl.flatMap Sm.cells) from hp.now.2.1).2 hs
 obtain rfl:sA=some ⟨bS,oS,none⟩:=eS
 obtain ⟨bC,oC,eC,-,-⟩:=(show Rd w w.heap.size 4 cA cn (cl.flatMap Col.cells) from hsm.now.1).2 (by omega)
 obtain rfl:cA=some ⟨bC,oC,none⟩:=eC
 have HLN:=hid (show cl.length=cn from (RdC.Zw (show SlR 4 (some ⟨bC,oC,none⟩) cn (Zd cl) w from hsm.now.1)).len)
 have KZ:=((((((Hold.YY M w T hM ht hMT).add hW).add (hp.less (by simp [ZG,Mut,Hp.foot]))).add ((hsm.imp (S' :=SlR 4 (some ⟨bC,oC,none⟩) cn (Zd cl)) fun w2 h2=>h2.1).less (by simp [ZG,Mut,Hp.foot]))).Za #[.slice fA fn fc,.slice (some ⟨bS,oS,none⟩) sn sc] 177).Za #[.string snm,.slice (some ⟨bC,oC,none⟩) cn cc] 49).alloc #[.bool false,.slice none 0 0,.string ⟨#[]⟩,.slice none 0 0] 273
 rw [World.size_alloc,World.size_alloc] at KZ
 obtain ⟨gp,hgp⟩:∃ g,g=w.heap.size:=⟨_,rfl⟩
 rw [←hgp] at KZ
 obtain ⟨gc,hgc⟩:∃ g,g=gp+1:=⟨_,rfl⟩
 obtain ⟨gr,hgr⟩:∃ g,g=gc+1:=⟨_,rfl⟩
 rw [←hgc,←hgr] at KZ
 have KS:Hold M (some T) w _ [.blk gr 273 #[.bool false,.slice none 0 0,.string ⟨#[]⟩,.slice none 0 0],.cst gc 49 #[.string snm,.slice (some ⟨bC,oC,none⟩) cn cc],.cst gp 177 #[.slice fA fn fc,.slice (some ⟨bS,oS,none⟩) sn sc],.ro (Zg ⟨⟨fA,fn,fc,fl⟩,⟨some ⟨bS,oS,none⟩,sn,sc,sl⟩⟩),.ro Wds,.tp T,.ro (SlR 4 (some ⟨bC,oC,none⟩) cn (Zd cl))]:=KZ.pick [0,1,2,4,5,6,3] (by decide) rfl
 have hm90:n≤90∧fn≤100:=by have h1:fn+(n+1)≤90:=hB.n;omega
 have hsn:sn≤100:=hB.b.t.2
 simp only [Pl.val,Sm.val]
 clear hp hW hB hsm KZ
 go_enter Tryz.func204,Tryz.ntmps204
 obtain ⟨KL,hKL⟩:∃ KL:List Hp,KL=[.blk gr 273 #[.bool false,.slice none 0 0,.string ⟨#[]⟩,.slice none 0 0],.cst gc 49 #[.string snm,.slice (some ⟨bC,oC,none⟩) cn cc],.cst gp 177 #[.slice fA fn fc,.slice (some ⟨bS,oS,none⟩) sn sc],.ro (Zg ⟨⟨fA,fn,fc,fl⟩,⟨some ⟨bS,oS,none⟩,sn,sc,sl⟩⟩),.ro Wds,.tp T,.ro (SlR 4 (some ⟨bC,oC,none⟩) cn (Zd cl))]:=⟨_,rfl⟩
 have hcast:∀ (L1:List Hp) (wz:World),Hold M (some T) w wz L1→L1=KL→Hold M (some T) w wz KL:=fun _ _ h e=>e ▸ h
 have K6:=hcast _ _ KS hKL.symm
 have H1:∀ wv:World,Hold M (some T) w wv KL→Blk wv gp 177 #[.slice fA fn fc,.slice (some ⟨bS,oS,none⟩) sn sc]:=fun wv h=>by rw [hKL] at h;exact h.ZB 2 rfl
 have h4:KL[5]? =some (.tp T):=by rw [hKL];rfl
 have H5:∀ wv:World,Hold M (some T) w wv KL→∀ k x,sl[k]? =some x→wv.cell? ⟨bS,oS+k * 2,none⟩=some (.string x.nm)∧wv.cell? ⟨bS,oS+k * 2+1,none⟩=some (.slice x.cols.A x.cols.n x.cols.c):=fun wv h k x hx=>by
  rw [hKL] at h
  obtain ⟨b,o,e,-,hc,-⟩:=SmsIn.at_ (h.ro 3 rfl).now.2 hx
  have e:some (⟨bS,oS,none⟩:Addr)=some ⟨b,o,none⟩:=e
  obtain ⟨rfl,rfl⟩:bS=b∧oS=o:=by injection e with e;injection e with e1 e2;exact ⟨e1,e2⟩
  exact ⟨hc 0 _ (by omega) rfl,hc 1 _ (by omega) rfl⟩
 have HH1:=hid H1
 have HH4:=hid h4
 have HH5:=hid H5
 have HKL:=hid hKL
 clear hKL hcast H1 H5 h4 KS
 go_wp2_with fail
 rw [←hgp]
 try rw [←hgc]
 try rw [←hgr]
 have HG:=hid (And.intro hgp (And.intro hgc hgr))
 clear hgp hgc hgr
 refine wp_region_any (by kernel_rfl) ?_
 refine ZH 10 83 (KL) (spL [(23,fun u _=>Z6 sn u),(9,Yf (Mut M KL) (gr+1) 49 #[.string ⟨#[]⟩,.slice none 0 0])]) (by kernel_rfl) (by kernel_rfl) (by kernel_rfl) rfl ?_ (K6.drew) ?_
 ·exact Ze (fun _ _ _ _ h=>h) (Ze Wv (ZF _))
 simp only [zd,Act.put,List.getElem_toArray,List.getElem_cons_zero,List.getElem_cons_succ,zl]
 refine' dv rfl rfl rfl (fun wv HC=>?_) ?_;rotate_left
 · go_simp<;>rfl
 simp only [Act.put,zl]
 refine' dv rfl rfl rfl (fun wv HC=>?_) ?_;rotate_left
 ·obtain q1:=(HH1.out _ HC).cell 1;go_simp<;>rfl
 iterate 2
  simp only [Act.put,zl]
  refine' dv rfl rfl rfl (fun wv HC=>?_) ?_;rotate_left
  · go_simp<;>rfl
 simp only [Act.put,zl]
 refine' dv rfl rfl rfl (fun wv HC=>?_) ?_;rotate_left
 ·obtain q1:=(HH1.out _ HC).cell 1;go_simp<;>rfl
 simp only [Act.put,zl]
 refine' dv rfl rfl rfl (fun wv HC=>?_) ?_;rotate_left
 · go_simp<;>rfl
 simp only [Act.put,zl]
 refine Yk sn 5 HH4.out 23 rfl rfl rfl rfl (fun wv=>?_) (fun r hr=>?_)
 ·go_simp<;>rfl
 have r6:(r:Int)<sn:=by omega
 have r0:(0:Int)≤(r:Int):=by omega
 obtain ⟨x,hx⟩:=Yg HSL.out hr
 have HX0:=hid hx
 clear hx
 simp only [Act.put,zl]
 refine' dv rfl rfl rfl (fun wv HC=>?_) ?_;rotate_left
 · go_simp<;>rfl
 simp only [Act.put,zl]
 refine' dv rfl rfl rfl (fun wv HC=>?_) ?_;rotate_left
 ·obtain ⟨q2,q3⟩:=HH5.out _ HC r x HX0.out;go_simp<;>rfl
 simp only [Act.put,zl]
 refine Ye #[.string ⟨#[]⟩,.slice none 0 0] 49 9 (Yf (Mut M KL) (gr+1) 49 #[.string ⟨#[]⟩,.slice none 0 0]) (fun g=>.pointer (some ⟨g,0,none⟩)) rfl rfl rfl rfl (fun wv=>?_) (fun wv HC hrm hD hro=>?_) ?_
 ·go_simp<;>rfl
 ·exact ⟨_,rfl,by have:=hrm.1;simp only [World.size_alloc,World.size_drew] at this;have:=HG.out;omega,hro _ HC.Zc⟩
 rintro gs wg HCg hsl
 clear HCg hsl
 simp only [Act.put,zl]
 refine ZE ?_
 rintro wx2 HX
 rintro _hrm HGW
 have hu:Yf (Mut M KL) (gr+1) 49 #[.string ⟨#[]⟩,.slice none 0 0] (.pointer (some ⟨gs,0,none⟩)) wx2:=(Zp (d:=9) rfl).1 (HGW 9 _ rfl (by omega))
 clear HGW
 obtain ⟨gs',e',hg1,hg2⟩:=hu
 obtain rfl:gs=gs' :=by injection e' with e';injection e' with e';injection e'
 clear e'
 have HB:=Hold.WJ K6.drew HX _hrm (by simp only [World.size_alloc,World.size_drew];have:=HG.out;omega) hg2.now
 rw [HKL.out] at HB
 clear HX _hrm hg2 K6 HH1 HH4 HH5 HKL
 have hxm:x∈sl:=List.mem_of_getElem? HX0.out
 have hx100:=HTC.out x hxm
 obtain ⟨xnm,⟨cA,ccn,ccc,ccl⟩⟩:=x
 simp only
 have K7:=(HB.store 0 rfl 0 (.string xnm)).store 0 rfl 1 (.slice cA ccn ccc)
 simp only [zl] at K7
 have F0:=HB.facts
 simp only [zg] at F0
 have F7:=K7.facts
 simp only [zg] at F7
 clear HB
 go_wp2_with fail
 refine (UV (Mut M _) _ K7.Zc ⟨⟨fA,fn,fc,fl⟩,⟨some ⟨bS,oS,none⟩,sn,sc,sl⟩⟩ ⟨xnm,⟨cA,ccn,ccc,ccl⟩⟩ (K7.ro 4 rfl) ((K7.ro 4 rfl).imp fun w2 h2=>h2.2.2 _ hxm) (by have:=hm90;show fn≤1000;omega)).mono ?_
 rintro e w5 ⟨A9,c9,rfl,hc9,ro9,hbl9⟩
 have HIN:=hid (HBM.out ⟨xnm,⟨cA,ccn,ccc,ccl⟩⟩ hxm A9 c9 hc9)
 simp only [Pl.val,Pl.more] at *
 obtain ⟨b9',o9',e9,-,-⟩:=(show Rd w5 w5.heap.size 4 A9 (fn+1) _ from ro9.now.1.1).2 (by omega)
 obtain ⟨b9,hb9⟩:∃ x,x=b9' :=⟨_,rfl⟩
 obtain ⟨o9,ho9⟩:∃ x,x=o9' :=⟨_,rfl⟩
 rw [←hb9,←ho9] at e9
 subst e9
 clear hb9 ho9
 have hlast:=ro9.imp (S' :=Zg ⟨⟨some ⟨b9,o9+fn * 4,none⟩,1,c9 - fn,[(⟨xnm,false,⟨cA,ccn,ccc,ccl⟩,SlP.nil⟩:Fr)]⟩,SlP.nil⟩) fun w2 h2=>⟨Zcc h2.1,SlP.Zi _ _ _ w2⟩
 have HLB:=hid (show PlB ⟨⟨some ⟨b9,o9+fn * 4,none⟩,1,c9 - fn,[(⟨xnm,false,⟨cA,ccn,ccc,ccl⟩,SlP.nil⟩:Fr)]⟩,SlP.nil⟩ from ⟨⟨by show 1≤c9 - fn;omega,by show 1≤100;omega⟩,⟨Nat.le_refl _,by simp [SlP.nil]⟩,fun f hf=>by
  simp only [List.mem_cons,List.not_mem_nil,or_false] at hf
  subst hf
  exact hx100,fun _ hx=>(nomatch hx)⟩)
 obtain ⟨fl2,hfl2⟩:∃ l,l=fl++[(⟨xnm,false,⟨cA,ccn,ccc,ccl⟩,SlP.nil⟩:Fr)]:=⟨_,rfl⟩
 rw [←hfl2] at ro9 HIN
 obtain ⟨fla,hfla⟩:∃ l,l=[(⟨xnm,false,⟨cA,ccn,ccc,ccl⟩,SlP.nil⟩:Fr)]:=⟨_,rfl⟩
 rw [←hfla] at hlast HLB
 clear hfl2 hfla HBM HX0 HSL HTC F0 F7 hxm hx100
 have K8:=(((K7.call hbl9).add ro9).add (hlast.less (by intro b hb;simpa [ZG,Hp.foot] using hb))).alloc #[.slice (some ⟨b9,o9,none⟩) (fn+1) c9,.slice (some ⟨bS,oS,none⟩) sn sc] 177
 have F8a:=(K7.call hbl9).facts
 simp only [zg] at F8a
 have F8:=K8.facts
 simp only [zg] at F8
 have KR:=(K8.alloc #[.bool false,.slice none 0 0,.string xnm,.slice none 0 0] 273).nil 126 10
 rw [World.size_alloc] at KR
 have FR:=KR.facts
 simp only [zg] at FR
 clear K7 hbl9 ro9 K8 hlast
 go_wp2_with fail
 obtain ⟨gi,hgi⟩:∃ g,g=w5.heap.size:=⟨_,rfl⟩
 rw [←hgi] at KR ⊢
 obtain ⟨gq,hgq⟩:∃ g,g=gi+1:=⟨_,rfl⟩
 rw [←hgq] at KR ⊢
 have HGI:=hid (And.intro hgi hgq)
 clear hgi hgq F8 F8a FR
 have K3:Hold M (some T) w _ [.own 126 10 (.slice none 0 0) 0 (Zl ([]:List Ex)),.ro (fun w=>∀ x∈([]:List Ex),ExIn (n+3) x w),.blk gq 273 #[.bool false,.slice none 0 0,.string xnm,.slice none 0 0],.blk gi 177 #[.slice (some ⟨b9,o9,none⟩) (fn+1) c9,.slice (some ⟨bS,oS,none⟩) sn sc],.ro (Zg ⟨⟨some ⟨b9,o9,none⟩,fn+1,c9,fl2⟩,⟨some ⟨bS,oS,none⟩,sn,sc,sl⟩⟩),.ro (Zg ⟨⟨some ⟨b9,o9+fn * 4,none⟩,1,c9 - fn,fla⟩,SlP.nil⟩),.ro (SlR 4 (some ⟨bC,oC,none⟩) cn (Zd cl)),.cst gc 49 #[.string snm,.slice (some ⟨bC,oC,none⟩) cn cc],.blk gr 273 #[.bool false,.slice none 0 0,.string ⟨#[]⟩,.slice none 0 0],.ro Wds,.tp T]:=(KR.add (S:=fun w=>∀ x∈([]:List Ex),ExIn (n+3) x w) (fun w2 _ _ x hx=>(nomatch hx))).pick [1,0,2,3,5,4,13,8,7,11,12] (by decide) rfl
 clear KR
 go_loopw [35] (fun iv wr=>∃ (j cap:Nat) (O:Option Addr) (outs:List Ex),j≤cn∧iv=.int .i64 j∧(∀ x∈outs,ExGd (n+3) x)∧Hold M (some T) w wr [.own 126 10 (.slice O j cap) j (Zl outs),.ro (fun w=>∀ x∈outs,ExIn (n+3) x w),.blk gq 273 #[.bool false,.slice O j cap,.string xnm,.slice none 0 0],.blk gi 177 #[.slice (some ⟨b9,o9,none⟩) (fn+1) c9,.slice (some ⟨bS,oS,none⟩) sn sc],.ro (Zg ⟨⟨some ⟨b9,o9,none⟩,fn+1,c9,fl2⟩,⟨some ⟨bS,oS,none⟩,sn,sc,sl⟩⟩),.ro (Zg ⟨⟨some ⟨b9,o9+fn * 4,none⟩,1,c9 - fn,fla⟩,SlP.nil⟩),.ro (SlR 4 (some ⟨bC,oC,none⟩) cn (Zd cl)),.cst gc 49 #[.string snm,.slice (some ⟨bC,oC,none⟩) cn cc],.blk gr 273 #[.bool false,.slice none 0 0,.string ⟨#[]⟩,.slice none 0 0],.ro Wds,.tp T]) (fun iv _=>cn - (intOf iv).toNat)
 case atStart=>exact ⟨0,0,none,[],by omega,rfl,fun x hx=>(nomatch hx),K3⟩
 case round=>
  clear K3
  obtain ⟨j,cap,O,outs,hj,rfl,hgd,H⟩:=hrel
  by_cases hlt:j<cn
  ·obtain ⟨⟨ynm,yty,ynn,ykey⟩,hc⟩:=YC HLN.out hlt
   obtain ⟨b2',o2',hcA,hb2,x0,x1,x2,x3⟩:=(RdC.Zw (H.ro 6 rfl).now).at_ hc
   obtain ⟨rfl,rfl⟩:bC=b2' ∧oC=o2' :=by injection hcA with hcA;injection hcA with e1 e2;exact ⟨e1,e2⟩
   clear hcA
   simp only at x0 x1 x2 x3
   clear hc
   have K2:=H.Za #[.string ynm,.int .i64 yty,.bool ynn,.bool ykey] 158
   have F2:=K2.facts
   simp only [zg] at F2
   clear H
   go_wp2_with fail
   refine (HE (Mut M _) T _ K2.Zc (K2.tp_ 11 rfl) (K2.get 11 rfl).2 ⟨⟨some ⟨b9,o9,none⟩,fn+1,c9,fl2⟩,⟨some ⟨bS,oS,none⟩,sn,sc,sl⟩⟩ yty depth ((K2.ro 5 rfl).less (Zj (i:=11) rfl)) ((K2.ro 10 rfl).less (Zj (i:=11) rfl)) hT HIN.out hd hd2).mono ?_
   rintro e w3 ⟨e1,rfl,he1,re1,t3,g3⟩
   have K3:=((Hold.Zf K2 11 rfl g3 t3).add re1).alloc #[.int .i64 e1.kind,.int .i64 e1.op,.bool e1.nt,.int .i64 e1.v.k,.int .i64 e1.v.i,.string e1.v.s,.string e1.tab,.string e1.nm,.slice e1.A e1.n e1.c,.slice e1.B e1.m e1.d] 126
   rw [show e1.val=.agg #[.int .i64 e1.kind,.int .i64 e1.op,.bool e1.nt,.int .i64 e1.v.k,.int .i64 e1.v.i,.string e1.v.s,.string e1.tab,.string e1.nm,.slice e1.A e1.n e1.c,.slice e1.B e1.m e1.d] from rfl]
   have HE1:=hid he1
   clear K2 F2 re1 t3 g3 x0 x1 x2 x3 he1
   have F3:=K3.facts
   simp only [zg] at F3
   go_upto_if 46 with (fail)
   obtain ⟨ge,hge⟩:∃ g,g=w3.heap.size:=⟨_,rfl⟩
   rw [←hge] at K3 F3 ⊢
   have HGE:=hid hge
   clear hge
   go_cut [] (fun wx=>∃ y:Ex,ExGd (n+3) y∧Hold M (some T) w wx [.blk ge 126 #[.int .i64 y.kind,.int .i64 y.op,.bool y.nt,.int .i64 y.v.k,.int .i64 y.v.i,.string y.v.s,.string y.tab,.string y.nm,.slice y.A y.n y.c,.slice y.B y.m y.d],.ro (ExIn (n+3) y),.own 126 10 (.slice O j cap) j (Zl outs),.ro (fun w=>∀ x∈outs,ExIn (n+3) x w),.blk gq 273 #[.bool false,.slice O j cap,.string xnm,.slice none 0 0],.blk gi 177 #[.slice (some ⟨b9,o9,none⟩) (fn+1) c9,.slice (some ⟨bS,oS,none⟩) sn sc],.ro (Zg ⟨⟨some ⟨b9,o9,none⟩,fn+1,c9,fl2⟩,⟨some ⟨bS,oS,none⟩,sn,sc,sl⟩⟩),.ro (Zg ⟨⟨some ⟨b9,o9+fn * 4,none⟩,1,c9 - fn,fla⟩,SlP.nil⟩),.ro (SlR 4 (some ⟨bC,oC,none⟩) cn (Zd cl)),.cst gc 49 #[.string snm,.slice (some ⟨bC,oC,none⟩) cn cc],.blk gr 273 #[.bool false,.slice none 0 0,.string ⟨#[]⟩,.slice none 0 0],.ro Wds,.tp T])
   case first=>
    cases ykey
    ·go_wp2_with fail
     go_meet
     exact ⟨e1,HE1.out.le (by omega),(K3.add ((K3.ro 1 rfl).imp (S' :=ExIn (n+3) e1) fun w2 h2=>h2.le (by omega))).pick [1,0,4,5,6,7,8,9,10,11,12,13,14] (by decide) rfl⟩
    ·have hs1:IntKind.i64.wrap (((fn+1:Nat):Int) - 1)=fn:=by rw [show ((fn+1:Nat):Int) - 1=fn by omega];exact IntWalk.i64_in _ (by omega)
     have hs2:IntKind.i64.wrap ((fn:Int)+1 - 1)=fn:=by rw [show (fn:Int)+1 - 1=fn by omega];exact IntWalk.i64_in _ (by omega)
     go_wp2_with fail
     refine (Qn (Mut M _) T _ K3.Zc (K3.tp_ 13 rfl) (K3.get 13 rfl).2 ⟨⟨some ⟨b9,o9+fn * 4,none⟩,1,c9 - fn,fla⟩,SlP.nil⟩ 1 ((K3.ro 8 rfl).less (Zj (i:=13) rfl)) HLB.out).mono ?_
     rintro e w4 ⟨x,ok,rfl,hx,t4,g4⟩
     have HXK:=hid (show ok=true→ExGd 1 x from fun hok=>by
      rcases hx with ⟨h1,rfl⟩|⟨ct,cn',rfl⟩
      ·rw [hok] at h1;exact absurd h1 (by decide)
      ·exact Xa _ _)
     have K5:=((Hold.Zf K3 13 rfl g4 t4).add (S:=ExIn 1 x) (fun w2 _ _=>by
      rcases hx with ⟨_,rfl⟩|⟨ct,cn',rfl⟩
      ·exact Qv w2
      ·exact Xc _ _ w2)).Za #[.int .i64 x.kind,.int .i64 x.op,.bool x.nt,.int .i64 x.v.k,.int .i64 x.v.i,.string x.v.s,.string x.tab,.string x.nm,.slice x.A x.n x.c,.slice x.B x.m x.d] 126
     rw [show x.val=.agg #[.int .i64 x.kind,.int .i64 x.op,.bool x.nt,.int .i64 x.v.k,.int .i64 x.v.i,.string x.v.s,.string x.tab,.string x.nm,.slice x.A x.n x.c,.slice x.B x.m x.d] from rfl]
     clear K3 F3 t4 g4 hx
     have F5:=K5.facts
     simp only [zg] at F5
     cases ok
     ·go_wp2_with fail
      go_meet
      exact ⟨e1,HE1.out.le (by omega),(K5.add ((K5.ro 3 rfl).imp (S' :=ExIn (n+3) e1) fun w2 h2=>h2.le (by omega))).pick [3,0,6,7,8,9,10,11,12,13,14,15,16] (by decide) rfl⟩
     ·obtain ⟨KM,hKM,K6⟩:=K5.name
      have H1:∀ wv:World,Hold M (some T) w wv KM→Blk wv w4.heap.size 126 #[.int .i64 x.kind,.int .i64 x.op,.bool x.nt,.int .i64 x.v.k,.int .i64 x.v.i,.string x.v.s,.string x.tab,.string x.nm,.slice x.A x.n x.c,.slice x.B x.m x.d]:=fun wv h=>by rw [hKM] at h;exact h.ZB 0 rfl
      have h4:KM[15]? =some (.tp T):=by rw [hKM];rfl
      have HH1:=hid H1
      have HH4:=hid h4
      have HKM:=hid hKM
      clear hKM H1 h4 K5
      go_wp2_with fail
      clear F5
      refine wp_region_any (by kernel_rfl) ?_
      refine ZH 5 83 (KM) (spL [(63,fun u _=>Z6 20 u),(65,Zh (Mut M KM) 2)]) (by kernel_rfl) (by kernel_rfl) (by kernel_rfl) rfl ?_ (K6.drew) ?_
      ·exact Ze (fun _ _ _ _ h=>h) (Ze Z7 (ZF _))
      simp only [zd,Act.put,List.getElem_toArray,List.getElem_cons_zero,List.getElem_cons_succ,zl]
      refine' dv rfl rfl rfl (fun wv HC=>?_) ?_;rotate_left
      ·obtain q0:=(HH1.out _ HC).cell 0;obtain q1:=(HH1.out _ HC).cell 1;obtain q2:=(HH1.out _ HC).cell 2;obtain q3:=(HH1.out _ HC).cell 3;obtain q4:=(HH1.out _ HC).cell 4;obtain q5:=(HH1.out _ HC).cell 5;obtain q6:=(HH1.out _ HC).cell 6;obtain q7:=(HH1.out _ HC).cell 7;obtain q8:=(HH1.out _ HC).cell 8;obtain q9:=(HH1.out _ HC).cell 9;go_simp<;>rfl
      simp only [Act.put,zl]
      refine' dv rfl rfl rfl (fun wv HC=>?_) ?_;rotate_left
      · go_simp<;>rfl
      simp only [Act.put,zl]
      refine Yk 20 15 HH4.out 63 rfl rfl rfl rfl (fun wv=>?_) (fun r hr=>?_)
      ·go_simp<;>rfl
      have hwr:IntKind.i64.wrap (10+(r:Int))=10+r:=IntWalk.i64_in _ (by omega)
      simp only [Act.put,zl]
      refine' dv rfl rfl rfl (fun wv HC=>?_) ?_;rotate_left
      · go_simp<;>rfl
      simp only [Act.put,zl]
      refine Zq 65 (Zh (Mut M KM) 2) (f:=134) (args:=#[.int .i64 (10+r)]) rfl rfl rfl rfl (fun wv=>?_) (fun wv HC hrm hD=>?_) ?_
      ·go_simp<;>rfl
      ·refine (XG (Mut M KM) wv HC.Zc (10+r) (by omega)).mono ?_
       rintro e w5 ⟨y,rfl,hy,ry,b5⟩
       exact ⟨_,rfl,⟨y,rfl,Xw hy (by omega) (by omega),ry⟩,HC.call b5,RM.below b5⟩
      rintro u wx HCx ⟨z,rfl,hz,rz⟩
      clear HCx hz rz
      simp only [Act.put,zl]
      refine ZE ?_
      rintro wx2 HX
      rintro _hrm HGW
      have hu:Zh (Mut M KM) 2 z.val wx2:=(Zp (d:=65) rfl).1 (HGW 4 _ rfl (by omega))
      clear HGW _hrm
      obtain ⟨z1,hz1,hok1,hro1⟩:=hu
      rw [HKM.out] at HX hro1
      rw [hz1]
      clear hz1 z HH1 HH4 HKM
      rw [show z1.val=.agg #[.int .i64 z1.kind,.int .i64 z1.op,.bool z1.nt,.int .i64 z1.v.k,.int .i64 z1.v.i,.string z1.v.s,.string z1.tab,.string z1.nm,.slice z1.A z1.n z1.c,.slice z1.B z1.m z1.d] from rfl]
      go_wp2_with fail
      refine (Xj (Mut M _) _ HX.Zc 9 x z1 2 ((HX.ro 1 rfl).imp fun w2 h2=>h2.le (by omega)) hro1).mono ?_
      rintro e w8 ⟨g8,rfl,ry,b8⟩
      have hyok:=hid (YE (d:=2) (kind:=5) (op:=9) (nt:=false) (g:=g8) (k:=2) (l:=[x,z1]) (Zo 5 (by decide)) (Zo 9 (by decide)) (by omega) (fun a ha=>by
       simp only [List.mem_cons,List.not_mem_nil,or_false] at ha
       rcases ha with rfl|rfl
       ·exact (HXK.out (by first|trivial|rfl)).le (by omega)
       ·exact hok1))
      have KB:=((HX.call b8).add ry)
      generalize opE 5 9 false g8 2 [x,z1]=y at *
      have FB:=KB.facts
      simp only [zg] at FB
      have KC:=((((((((((KB.store 3 rfl 0 (.int .i64 y.kind)).store 3 rfl 1 (.int .i64 y.op)).store 3 rfl 2 (.bool y.nt)).store 3 rfl 3 (.int .i64 y.v.k)).store 3 rfl 4 (.int .i64 y.v.i)).store 3 rfl 5 (.string y.v.s)).store 3 rfl 6 (.string y.tab)).store 3 rfl 7 (.string y.nm)).store 3 rfl 8 (.slice y.A y.n y.c)).store 3 rfl 9 (.slice y.B y.m y.d))
      simp only [zl] at KC
      rw [show y.val=.agg #[.int .i64 y.kind,.int .i64 y.op,.bool y.nt,.int .i64 y.v.k,.int .i64 y.v.i,.string y.v.s,.string y.tab,.string y.nm,.slice y.A y.n y.c,.slice y.B y.m y.d] from rfl]
      clear HX b8 ry hro1 hok1
      go_wp2_with fail
      go_meet
      exact ⟨y,hyok.out.le (by omega),(KC.add ((KC.ro 0 rfl).imp (S' :=ExIn (n+3) y) fun w2 h2=>h2.le (by omega))).pick [4,0,7,8,9,10,11,12,13,14,15,16,17] (by decide) rfl⟩
   case rest=>
    obtain ⟨y,hy,K4⟩:=hcut
    clear K3 F3 HE1
    have F4:=K4.facts
    simp only [zg] at F4
    go_wp2_with (at_builtin;go_must (refine Zx K4 2 rfl Tryz.Ve #[.int .i64 y.kind,.int .i64 y.op,.bool y.nt,.int .i64 y.v.k,.int .i64 y.v.i,.string y.v.s,.string y.tab,.string y.nm,.slice y.A y.n y.c,.slice y.B y.m y.d] rfl (.tmp 68) (.tmp 70) rfl rfl _ (by first|rfl|simp) rfl rfl (by intro u hu;simp at hu;rcases hu with rfl|rfl|rfl|rfl|rfl|rfl|rfl|rfl|rfl|rfl<;>rfl) (by omega) (by omega) ?_);intro gA capA wA hcA hmA KA;rw [show Zl outs++(#[.int .i64 y.kind,.int .i64 y.op,.bool y.nt,.int .i64 y.v.k,.int .i64 y.v.i,.string y.v.s,.string y.tab,.string y.nm,.slice y.A y.n y.c,.slice y.B y.m y.d]:Array Value).toList=Zl (outs++[y]) by simp [Zl,Ex.cells]] at KA;simp only [zl] at KA;have FA:=KA.facts;simp only [zg] at FA)
    have KB:=KA.store 4 rfl 1 (.slice (some ⟨gA,0,none⟩) (j+1) capA)
    simp only [zl] at KB
    have KC:=KB.add (S:=fun w=>∀ x∈outs++[y],ExIn (n+3) x w) (((KB.ro 3 rfl).and (KB.ro 1 rfl)).imp fun w2 h2 x hx=>by
     rcases List.mem_append.1 hx with hx|hx
     ·exact h2.1 x hx
     ·simp only [List.mem_cons,List.not_mem_nil,or_false] at hx
      subst hx
      exact h2.2)
    go_roundw
    case rel=>
     refine ⟨j+1,capA,_,outs++[y],by omega,by go_num,fun x hx=>?_,KC.pick [3,0,5,6,7,8,9,10,11,12,13] (by decide) rfl⟩
     rcases List.mem_append.1 hx with hx|hx
     ·exact hgd x hx
     ·simp only [List.mem_cons,List.not_mem_nil,or_false] at hx
      subst hx
      exact hy
    case measure=>simp [intOf];omega
  ·obtain rfl:cn=j:=by omega
   have F:=H.facts
   simp only [zg] at F
   go_wp2_with fail
   refine (ZZ T 2 _ (H.tp_ 10 rfl) (by omega) (by omega)).mono ?_
   rintro e w7 ⟨b,rfl,t7,g7⟩
   have K4:=Hold.Zf H 10 rfl g7 t7
   clear H F g7 t7
   have F4:=K4.facts
   simp only [zg] at F4
   go_upto_if 75 with (fail)
   go_cut [] (fun wx=>∃ wh:SlP Ex,XR (n+2) wh∧Hold M (some T) w wx [.own 126 10 (.slice O cn cap) cn (Zl outs),.ro (fun w=>∀ x∈outs,ExIn (n+3) x w),.blk gq 273 #[.bool false,.slice O cn cap,.string xnm,.slice wh.A wh.n wh.c],.ro (Z0 (n+2) wh),.blk gr 273 #[.bool false,.slice none 0 0,.string ⟨#[]⟩,.slice none 0 0],.tp T])
   case first=>
    cases b
    ·go_wp2_with fail
     go_meet
     exact ⟨SlP.nil,Vs,(K4.add (S:=Z0 (n+2) SlP.nil) (fun w2 _ _=>SlP.Zi _ _ _ w2)).pick [1,2,3,0,9,11] (by decide) rfl⟩
    ·go_wp2_with fail
     refine (HE (Mut M _) T _ K4.Zc (K4.tp_ 10 rfl) (K4.get 10 rfl).2 ⟨⟨some ⟨b9,o9,none⟩,fn+1,c9,fl2⟩,⟨some ⟨bS,oS,none⟩,sn,sc,sl⟩⟩ 2 depth ((K4.ro 4 rfl).less (Zj (i:=10) rfl)) ((K4.ro 9 rfl).less (Zj (i:=10) rfl)) hT HIN.out hd hd2).mono ?_
     rintro e w6 ⟨x,rfl,hx,rx,tY,gY⟩
     have K7:=((Hold.Zf K4 10 rfl gY tY).add rx).Za #[.int .i64 x.kind,.int .i64 x.op,.bool x.nt,.int .i64 x.v.k,.int .i64 x.v.i,.string x.v.s,.string x.tab,.string x.nm,.slice x.A x.n x.c,.slice x.B x.m x.d] 126
     rw [show x.val=.agg #[.int .i64 x.kind,.int .i64 x.op,.bool x.nt,.int .i64 x.v.k,.int .i64 x.v.i,.string x.v.s,.string x.tab,.string x.nm,.slice x.A x.n x.c,.slice x.B x.m x.d] from rfl]
     clear F4 K4 rx tY gY
     have F7:=K7.facts
     simp only [zg] at F7
     have K8:=K7.store 4 rfl 3 (.slice (some ⟨w6.heap.size,0,none⟩) 1 1)
     simp only [zl] at K8
     clear K7
     go_wp2_with fail
     go_meet
     exact ⟨⟨some ⟨w6.heap.size,0,none⟩,1,1,[x]⟩,Vn hx,(K8.add (XD (K8.get 0 rfl) rfl (K8.ro 1 rfl))).pick [3,4,5,0,11,13] (by decide) rfl⟩
   case rest=>
    obtain ⟨⟨hA,hN,hC,hl⟩,hwh,K5⟩:=hcut
    clear K4 F4
    simp only at K5
    have HWH:=hid hwh
    clear hwh
    have F5:=K5.facts
    simp only [zg] at F5
    have K7:=((((K5.store 4 rfl 0 (.bool false)).store 4 rfl 1 (.slice O cn cap)).store 4 rfl 2 (.string xnm)).store 4 rfl 3 (.slice hA hN hC))
    simp only [zl] at K7
    have F7:=K7.facts
    simp only [zg] at F7
    have hcap:=Yx (K5.get 0 rfl)
    have hlen:=(K5.get 0 rfl).1
    rw [X8] at hlen
    have KZ:=K7.ZC 0 rfl
    simp only [List.set_cons_zero] at KZ
    have hR:Ro _ _ (QuIn (n+3) ⟨false,O,cn,cap,outs,xnm,hA,hN,hC,hl⟩):=((KZ.ro 0 rfl).and ((KZ.ro 1 rfl).and (KZ.ro 3 rfl))).imp fun w2 h2=>⟨⟨h2.1,h2.2.1⟩,h2.2.2.1,fun a ha=>(h2.2.2.2 a ha).le (by omega)⟩
    have HR:=hid (hR.less zm)
    have HT:=hid (And.intro (KZ.tp_ 5 rfl) KZ.grow)
    have HGD:=hid hgd
    clear K5 K7 KZ hR hgd
    go_wp2_with fail
    refine bodyPost_ret (v:=.agg #[.bool false,.slice O cn cap,.string xnm,.slice hA hN hC]) ?_ rfl ?_
    ·clear HT HR HGD HWH
     simp [results,Tryz.results204,go_sem,F7]
    ·exact ⟨⟨false,O,cn,cap,outs,xnm,hA,hN,hC,hl⟩,rfl,⟨⟨hcap.1,hcap.2.1,HWH.out.1.1,HWH.out.1.2⟩,⟨by show outs.length≤8;omega,HWH.out.2.1⟩,HGD.out,fun a ha=>(HWH.out.2.2 a ha).le (by omega)⟩,HR.out,HT.out.1,HT.out.2⟩
end Go.Proofs.YtnbbllkbefagmaaGreatDoor

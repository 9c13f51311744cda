import Derived.Test.YtnbbllkbefagmaaGreatDoorEvCntSaidMF
import Derived.Test.YtnbbllkbefagmaaGreatDoorEvCntSaidMD
import Derived.Deep.CutRange
import Derived.Test.YtnbbllkbefagmaaGreatDoorEvCntSaidME
import Derived.Test.YtnbbllkbefagmaaGreatDoorEvCntSaidMC
namespace Go.Proofs.YtnbbllkbefagmaaGreatDoor
open Go.RowKit
set_option linter.unusedVariables false
set_option linter.unusedSimpArgs false
def Zam (w:World) (T:Nat) (M:Nat→Prop) (m:Nat) (e:Ending) (w' :World):Prop:=
 ∃ (v:Value) (ins:List (List Vl)) (dels:List Int) (us:List Upd),e=.returned v∧V4 M ins dels us v w' ∧ins.length≤3∧dels.length≤m∧us.length≤m∧Tp w' T∧w.grownBy w' (some T)
def YI (l:List Pr) (w:World):Prop:=∀ p∈l,VlsIn p.oA p.on p.old w∧VlsIn p.nA p.nn p.new w
def QX (l:List Sl) (w:World):Prop:=∀ r∈l,VlsIn r.A r.n r.vs w
theorem Zbz {M:Nat→Prop} {w:World} {rs:List Sl} {r:Sl} (h:Ro w M (QX rs)) (k:Ro w M (VlsIn r.A r.n r.vs)):Ro w M (QX (rs++[r])):=fun w2 h1 h2 x hx=>by
 rcases List.mem_append.1 hx with hx|hx
 ·exact h w2 h1 h2 x hx
 ·simp at hx;subst hx;exact k w2 h1 h2
theorem Zat {l:List Sl} {x:Sl} (h:∀ s∈l,s.ok) (k:x.ok):∀ s∈l++[x],s.ok:=fun s hs=>by
 rcases List.mem_append.1 hs with hs|hs
 ·exact h s hs
 ·simp at hs;subst hs;exact k
theorem Ju {M:Nat→Prop} {w:World} {a b:List Pr} (h:Ro w M (YI a)) (k:Ro w M (YI b)):Ro w M (YI (a++b)):=fun w2 h1 h2 x hx=>by
 rcases List.mem_append.1 hx with hx|hx
 ·exact h w2 h1 h2 x hx
 ·exact k w2 h1 h2 x hx
theorem Zfu {a b:List Pr} (h:∀ p∈a,p.ok) (k:∀ p∈b,p.ok):∀ p∈a++b,p.ok:=fun p hp=>by
 rcases List.mem_append.1 hp with hp|hp
 ·exact h p hp
 ·exact k p hp
theorem Ga (l:List Pr):∀ u∈ZZ l,u.oneCell' =true:=fun u hu=>by
 unfold ZZ at hu
 rw [List.mem_flatMap] at hu
 obtain ⟨x,_,hx⟩:=hu
 simp only [Pr.cells,List.mem_cons,List.not_mem_nil,or_false] at hx
 rcases hx with rfl|rfl|rfl<;>rfl
theorem Za3 {k i:Int} {s:ByteArray} (h:Yq k i s=true):I64 k:=by
 unfold Yq at h
 unfold I64
 split at h
 ·omega
 ·split at h
  ·omega
  ·split at h
   ·omega
   ·split at h
    ·omega
    ·cases h
theorem Hold.Zia {M:Nat→Prop} {row:Option Nat} {w0 w:World} {L:List Hp} {e:TypeId} {v:Value} {n:Nat} {vs vs' :List Vl} (he:vs' =vs) (h:Hold M row w0 w (.own e 3 v n (Z5 vs)::L)):Hold M row w0 w (.own e 3 v n (Z5 vs')::L):=by subst he;exact h
theorem Tryz.Q5:ElemT Tryz.prog 42 115 3 56 (.agg #[.int .i64 0,.slice none 0 0,.slice none 0 0]):=⟨Tryz.underlying42,by kernel_rfl,rfl,by omega⟩
theorem Tryz.Zcd:ElemT Tryz.prog 71 51 1 24 (.slice none 0 0):=⟨Tryz.underlying71,by kernel_rfl,rfl,by omega⟩
theorem Hold.GV {M:Nat→Prop} {row:Option Nat} {w0 w:World} {x:Hp} {L:List Hp} (h:Hold M row w0 w (x::L)):∃ R,L=R∧Hold M row w0 w (x::R):=⟨L,rfl,h⟩
abbrev Jg (M:Nat→Prop) (T:Nat) (w:World) (n:Nat) (RL:List Hp) (v:Value) (wx:World):Prop:=∃ (ga cr:Nat) (vs:List Vl),v=.slice (some ⟨ga,0,none⟩) n cr∧(n≤cr∧cr≤9223372036854775807)∧Hid (vs.length=n∧∀ v∈vs,v.ok)∧Hold M (some T) w wx (.own 122 3 (.slice (some ⟨ga,0,none⟩) n cr) n (Z5 vs)::RL)
set_option maxHeartbeats 8000000 in
set_option maxRecDepth 100000 in
theorem ZgB (M:Nat→Prop) (T:Nat) (w:World) (hM:∀ b,M b→b<w.heap.size) (ht:Tp w T) (hMT:∀ b,M b→T≤b) (nm:ByteArray) (A:Option Addr) (n c:Nat) (cs:List Col) (nx:Int) (B:Option Addr) (m d:Nat) (l:List Rw) (hD:Ro w (Mut M [.tp T]) (ColsIn A n cs)) (hE:Ro w (Mut M [.tp T]) (RwsIn B m l)) (hW:Ro w (Mut M [.tp T]) Wds) (hT:1<T)
  (hn1:1≤n) (hn:n≤1000) (hm:m≤1000) (hok:∀ x∈cs,Ua x) (hfit:∀ r∈l,r.vs.length=n) (hrok:∀ r∈l,r.ok):Calls Tryz.prog 24 #[.pointer (some ⟨T,0,none⟩),.agg #[.string nm,.slice A n c,.int .i64 nx,.slice B m d]] w fun e w' =>Zam w T M m e w' :=by
 have HL:=hid (WR hD.now)
 have HLM:=hid hE.now.len
 have HOKC:=hid hok
 have HFIT:=hid hfit
 have HROK:=hid hrok
 clear hok hfit hrok
 have K0:=(((((((((Hold.Y5 M w T hM ht hMT).add hE).add (hD.less (Xa rfl))).add ((hW.less (Xa rfl)).less (Xa rfl))).Za #[.string nm,.slice A n c,.int .i64 nx,.slice B m d] 67).alloc #[.slice none 0 0,.slice none 0 0,.slice none 0 0] 73).alloc #[.slice none 0 0,.slice none 0 0,.slice none 0 0] 73).add (show Ro _ _ (YI []) from fun _ _ _ r hr=>nomatch hr)).nil 115 3).nil 3 1
 simp only [World.size_alloc] at K0
 clear hD hE hW
 go_enter Tryz.func24,Tryz.ntmps24
 go_wp2_with fail
 obtain ⟨gx,hgx⟩:∃ gx,gx=w.heap.size:=⟨_,rfl⟩
 obtain ⟨g4,hg4⟩:∃ g4,g4=gx+1:=⟨_,rfl⟩
 obtain ⟨g5,hg5⟩:∃ g5,g5=g4+1:=⟨_,rfl⟩
 rw [←hgx,←hg4,←hg5] at K0 ⊢
 generalize ((w.alloc _).alloc _).alloc _=w1 at K0 ⊢
 have HGX:=hid hgx
 clear hgx hg4 hg5
 go_loopw [14] (fun iv wr=>∃ (j dn dc un uc:Nat) (D U:Option Addr) (dels:List Int) (ps:List Pr),j≤m∧iv=.int .i64 j∧dn≤j∧un≤j∧Hid (∀ p∈ps,p.ok)∧Hold M (some T) w wr [.own 3 1 (.slice D dn dc) dn (Xl dels),.own 115 3 (.slice U un uc) un (ZZ ps),.ro (YI ps),.blk g5 73 #[.slice none 0 0,.slice D dn dc,.slice U un uc],.blk g4 73 #[.slice none 0 0,.slice none 0 0,.slice none 0 0],.cst gx 67 #[.string nm,.slice A n c,.int .i64 nx,.slice B m d],.ro Wds,.ro (ColsIn A n cs),.ro (RwsIn B m l),.tp T]) (fun iv _=>m - (intOf iv).toNat)
 case atStart=>exact ⟨0,0,0,0,0,none,none,[],[],by omega,rfl,by omega,by omega,hid (fun p hp=>nomatch hp),K0⟩
 case round=>
  clear K0
  obtain ⟨j,dn,dc,un,uc,D,U,dels,ps,hj,rfl,hdn,hun,HPS,H⟩:=hrel
  by_cases hlt:j<m
  ·have hd:decide ((j:Int)<(m:Int))=true:=by simp;omega
   have j0:(0:Int)≤(j:Int):=by omega
   have j1:(j:Int)<(m:Int):=by omega
   obtain ⟨x,hx⟩:=Zq HLM.out hlt
   obtain ⟨b,o,rfl,hb,c0,c1,hxv⟩:=(H.ro 8 rfl).now.at_ hx
   have HXO:=hid (HROK.out x (List.mem_of_getElem? hx))
   have HXL:=hid (HFIT.out x (List.mem_of_getElem? hx))
   have hxr:Ro wr _ (VlsIn x.A x.n x.vs):=(H.ro 8 rfl).imp fun w2 h2=>h2.2 x (List.mem_of_getElem? hx)
   obtain ⟨xid,xA,xn,xc,xvs⟩:=x
   dsimp only at *
   obtain rfl:n=xn:=by have h1:=hxv.len;have h2:=HXL.out;omega
   obtain ⟨v0,hv0⟩:=Zq HXL.out (show 0<n by omega)
   obtain ⟨bx,ox,rfl,rx⟩:=hxr.U8 hv0
   have HV0:=hid (HXO.out.vs v0 (List.mem_of_getElem? hv0))
   simp only [Nat.zero_mul,Nat.add_zero] at rx
   clear hx hxv hv0
   have K1:=((H.add hxr).add (rx.less (Xa rfl))).Za #[.int .i64 xid,.slice (some ⟨bx,ox,none⟩) n xc] 124
   clear H hxr rx
   obtain ⟨gr,hgr⟩:∃ gr,gr=wr.heap.size:=⟨_,rfl⟩
   rw [←hgr] at K1
   go_wp2_with fail
   rw [←hgr]
   clear hgr c0 c1
   refine (ZT T 4 _ (K1.tp_ 12 rfl) (by omega) (by omega)).mono ?_
   rintro e w2 ⟨z,rfl,z0,z1,t2,g2⟩
   have K2:=Hold.Zf K1 12 rfl g2 t2
   clear K1 g2 t2
   have F2:=K2.facts
   simp only [zg] at F2
   obtain rfl|rfl|hz:z=0∨z=1∨2≤z:=by omega
   ·have HCE:=hid (show Xl dels++(#[Value.int .i64 xid]).toList=Xl (dels++[xid]) by simp [Xl])
    go_wp2_with (at_builtin;go_must (refine ZH K2 3 rfl Tryz.Zh7 #[.int .i64 xid] rfl (.tmp 23) (.tmp 26) rfl rfl _ rfl rfl rfl (by intro u hu;simp at hu;rcases hu with rfl;rfl) (by omega) (by omega) ?_);intro g9 cap9 w9 hc9 hm9 KB;rw [HCE.out] at KB;simp only [zl] at KB;(have FB:=KB.facts);simp only [zg] at FB)
    have KC:=(KB.store 6 rfl 1 (.slice (some ⟨g9,0,none⟩) (dn+1) cap9)).drop (List.Sublist.cons _ (List.Sublist.cons _ (List.Sublist.cons _ (List.Sublist.refl _))))
    go_roundw
    case rel=>exact ⟨j+1,dn+1,cap9,un,uc,_,U,dels++[xid],ps,by omega,by first|rfl|go_num,by omega,by omega,HPS,KC⟩
    case measure=>simp [intOf];omega
   ·skip
    go_wp2_with fail
    refine (Gl (Mut M _) T _ K2.Zb (K2.tp_ 12 rfl) (K2.get 12 rfl).2 nm A n c cs ((K2.ro 10 rfl).less (YS (i:=12) rfl)) ((K2.ro 9 rfl).less (YS (i:=12) rfl)) hT hn HOKC.out).mono ?_
    rintro e w4 ⟨Ar,nr,cr,vs,rfl,hnr,hvr,hfr,ho,t4,g4'⟩
    have K3:=Hold.Q4 K2 (Hold.Zf K2 12 rfl g4' t4) (RM.grown g4' (.inr ⟨_,List.mem_of_getElem? (i:=12) rfl,rfl⟩)) ho
    obtain rfl:n=nr:=by have h1:=VW hfr;have h2:=HL.out;omega
    have hcr:=ZR (K3.get 0 rfl)
    replace hcr:=And.intro hcr.1 hcr.2.1
    have HVS:=hid (show vs.length=n∧∀ v∈vs,v.ok from ⟨hnr.symm,hvr⟩)
    obtain ⟨ga,rfl⟩:∃ ga,Ar=some ⟨ga,0,none⟩:=by
     rcases U5 (K3.get 0 rfl) with ⟨_,h,_⟩|⟨g,h,_⟩
     ·omega
     ·exact ⟨g,h⟩
    clear K2 ho t4 g4' hnr hvr hfr F2
    have F3:=K3.facts
    simp only [zg] at F3
    go_wp2_with fail
    refine (Z8 T 2 _ (K3.tp_ 13 rfl) (by omega) (by omega)).mono ?_
    rintro e wb ⟨bb,rfl,tb,gb⟩
    have K4:=Hold.Zf K3 13 rfl gb tb
    clear K3 gb tb
    obtain ⟨RL,hRL,K4⟩:=K4.GV
    go_upto_if 36 with fail
    go_cut [8] from 36 to 42 (fun v wx=>Jg M T w n RL v wx)
    case first=>
     subst hRL
     cases bb
     ·go_wp2_with fail
      go_meet
      exact ⟨ga,cr,vs,rfl,hcr,HVS,K4⟩
     ·skip
      have F4:=K4.facts
      simp only [zg] at F4
      obtain ⟨uq,huq⟩:∃ uq,vs[0]? =some uq:=⟨_,List.getElem?_eq_getElem (by have:=HVS.out.1;omega)⟩
      obtain ⟨⟨y0,y1,y2⟩,⟨y3,y4,y5⟩,y6⟩:=JU (K4.get 0 rfl) huq
      have ⟨x0,x1,x2,x3⟩:=(K4.ro 2 rfl).now
      clear huq
      have KE8:=K4.G6 0 rfl 0 (by have:=HVS.out.1;omega) v0
      simp only [Nat.zero_mul,Nat.zero_add,List.set_cons_zero] at KE8 y0 y1 y2 y3 y4 y5
      have HVS:=hid (show (vs.set 0 v0).length=n∧∀ v∈vs.set 0 v0,v.ok from ⟨by rw [List.length_set];exact HVS.out.1,Jl HVS.out.2 HV0.out⟩)
      generalize vs.set 0 v0=vs at HVS KE8
      clear K4
      have FE8:=KE8.facts
      simp only [zg] at FE8
      go_wp2_with fail
      go_meet
      exact ⟨ga,cr,vs,rfl,hcr,HVS,KE8⟩
    case rest=>
     clear K4 HVS hcr
     obtain ⟨ga,cr,vs,rfl,hcr,HVS,KX⟩:=hcut
     subst hRL
     have K5:=KX
     clear KX
     have F5:=K5.facts
     simp only [zg] at F5
     go_wp2_with fail
     refine (Z8 T 8 _ (K5.tp_ 13 rfl) (by omega) (by omega)).mono ?_
     rintro e wb ⟨bb,rfl,tb,gb⟩
     have KF8:=Hold.Zf K5 13 rfl gb tb
     clear K5 gb tb
     obtain ⟨RL,hRL,KF8⟩:=KF8.GV
     go_upto_if 44 with fail
     go_cut [8] from 44 to 47 (fun v wx=>Jg M T w n RL v wx)
     case first=>
      subst hRL
      cases bb
      ·go_wp2_with fail
       go_meet
       exact ⟨ga,cr,vs,rfl,hcr,HVS,KF8⟩
      ·skip
       have FF8:=KF8.facts
       simp only [zg] at FF8
       have KN:=KF8.nil 122 3
       have k5:=hid ((KF8.ro 3 rfl).now)
       go_wp2_with (at_builtin;go_must (refine ZW KN 0 rfl Tryz.Xp k5.out rfl (.const (.slice none 0 0)) (.tmp 46) rfl rfl rfl (QB _) (by omega) (by omega) ?_);intro C9 cap9 w9 hc9 hm9 KB;(try simp only [Nat.zero_add] at hc9 ⊢);simp only [Nat.zero_add,List.nil_append,List.set_cons_zero,List.set_cons_succ] at KB;(have FB:=KB.facts);simp only [zg] at FB)
       have KV:=KB.drop (List.Sublist.cons_cons _ (List.sublist_cons_self _ _))
       obtain ⟨ga,rfl⟩:∃ ga,C9=some ⟨ga,0,none⟩:=by
        rcases U5 (KV.get 0 rfl) with ⟨_,h,_⟩|⟨g,h,_⟩
        ·omega
        ·exact ⟨g,h⟩
       obtain ⟨vs,hvs⟩:∃ vs,vs=xvs:=⟨_,rfl⟩
       have HVS:=hid (show vs.length=n∧∀ v∈vs,v.ok by rw [hvs];exact ⟨HXL.out,HXO.out.vs⟩)
       replace KV:=Hold.Zia hvs KV
       clear hvs KB FB KN KF8 FF8 k5
       obtain ⟨cr,rfl⟩:∃ cr,cr=cap9:=⟨_,rfl⟩
       have hcr:=And.intro hc9 hm9
       have FV:=KV.facts
       simp only [zg] at FV
       go_wp2_with fail
       go_meet
       exact ⟨ga,cr,vs,rfl,hcr,HVS,KV⟩
     case rest=>
      clear KF8 HVS hcr
      obtain ⟨ga,cr,vs,rfl,hcr,HVS,KX⟩:=hcut
      subst hRL
      have K6:=KX
      clear KX
      have F6:=K6.facts
      simp only [zg] at F6
      go_wp2_with fail
      refine (Z8 T 12 _ (K6.tp_ 13 rfl) (by omega) (by omega)).mono ?_
      rintro e wb ⟨bb,rfl,tb,gb⟩
      have KP:=Hold.Zf K6 13 rfl gb tb
      clear K6 gb tb
      obtain ⟨RL,hRL,KP⟩:=KP.GV
      go_upto_if 49 with fail
      go_cut [8] from 49 to 57 (fun v wx=>Jg M T w n RL v wx)
      case first=>
       subst hRL
       cases bb
       ·go_wp2_with fail
        go_meet
        exact ⟨ga,cr,vs,rfl,hcr,HVS,KP⟩
       ·skip
        have FP:=KP.facts
        simp only [zg] at FP
        go_wp2_with fail
        refine (ZT T (n:Int) _ (KP.tp_ 13 rfl) (by omega) (by omega)).mono ?_
        rintro e wc ⟨q,rfl,q0,q1,tc,gc⟩
        obtain ⟨q,rfl⟩:=Int.eq_ofNat_of_zero_le q0
        have KQ:=Hold.Zf KP 13 rfl gc tc
        clear KP gc tc FP
        have FQ:=KQ.facts
        simp only [zg] at FQ
        go_wp2_with fail
        refine (zP T _ (KQ.tp_ 13 rfl) (KQ.ro 10 rfl).now hT).mono ?_
        rintro e wd ⟨kv,iv,sv,rfl,hv,hsv,hiv,td,_,gd⟩
        have KR:=Hold.Zf KQ 13 rfl gd td
        clear KQ gd td FQ
        have HQL:=hid (show q<vs.length by have:=HVS.out.1;omega)
        obtain ⟨uq,huq⟩:∃ uq,vs[q]? =some uq:=⟨_,List.getElem?_eq_getElem HQL.out⟩
        obtain ⟨⟨z0,z1,z2⟩,⟨z3,z4,z5⟩,z6⟩:=JU (KR.get 0 rfl) huq
        clear huq
        have KC:=KR.G6 0 rfl q HQL.out ⟨kv,iv,sv⟩
        simp only [List.set_cons_zero] at KC
        have HVS:=hid (show (vs.set q ⟨kv,iv,sv⟩).length=n∧∀ v∈vs.set q ⟨kv,iv,sv⟩,v.ok from ⟨by rw [List.length_set];exact HVS.out.1,Jl HVS.out.2 ⟨Za3 hv,hiv,by show sv.size≤maxLen;unfold maxLen;omega⟩⟩)
        clear hv KR
        generalize vs.set q ⟨kv,iv,sv⟩=vs at HVS KC
        have FC:=KC.facts
        simp only [zg] at FC
        go_wp2_with fail
        go_meet
        exact ⟨ga,cr,vs,rfl,hcr,HVS,KC⟩
      case rest=>
       clear KP HVS hcr
       obtain ⟨ga,cr,vs,rfl,hcr,HVS,KX⟩:=hcut
       subst hRL
       have KC:=KX
       clear KX
       have KS:=KC.Zu 0 rfl
       simp only [List.set_cons_zero] at KS
       obtain ⟨KL,hKL,KN⟩:=KS.name
       have HF:Hid (∀ wv,Hold M (some T) w wv KL→(wv.cell? ⟨g5,0,none⟩=some (.slice none 0 0)∧wv.cell? ⟨g5,1,none⟩=some (.slice D dn dc)∧wv.cell? ⟨g5,2,none⟩=some (.slice U un uc)∧g5<wv.heap.size)∧wv.cell? ⟨gr,0,none⟩=some (.int .i64 xid)∧wv.cell? ⟨gr,1,none⟩=some (.slice (some ⟨bx,ox,none⟩) n xc)∧gr<wv.heap.size):=hid fun wv HC=>by
        rw [hKL] at HC
        have y1:=HC.ZF 7 rfl
        have y2:=HC.ZB 1 rfl
        exact ⟨⟨cell_of_row _ _ 0 _ _ _ y1,cell_of_row _ _ 1 _ _ _ y1,cell_of_row _ _ 2 _ _ _ y1,Blk.lt y1⟩,cell_of_row _ _ 0 _ _ _ y2,cell_of_row _ _ 1 _ _ _ y2,Blk.lt y2⟩
       have HRX:Hid (∀ wv,Hold M (some T) w wv KL→Ro wv (Mut M KL) (VlsIn (some ⟨bx,ox,none⟩) n xvs)∧Ro wv (Mut M KL) (VlsIn (some ⟨ga,0,none⟩) n vs)):=hid fun wv HC=>by
        rw [hKL] at HC ⊢
        exact ⟨HC.ro 3 rfl,HC.ro 0 rfl⟩
       have HKL:=hid hKL
       clear hKL KS KC
       go_wp2_with fail
       refine wp_region_any (by kernel_rfl) ?_
       refine Zp 10 98 (KL) (spL [(64,Z0 (Mut M KL) xvs),(66,Y7 (Mut M KL) (xid,xvs,vs)),(67,Xb (Mut M KL) [(xid,xvs,vs)])]) (by kernel_rfl) (by kernel_rfl) (by kernel_rfl) rfl ?_ (KN.drew) ?_
       ·exact Ze X6 (Ze V9 (Ze QJ (Zo _)))
       simp only [zd,Act.put,List.getElem_toArray,List.getElem_cons_zero,List.getElem_cons_succ,zl]
       iterate 3
        refine' dv rfl rfl rfl (fun wv HC=>?_) ?_;rotate_left
        · go_simp<;>rfl
        simp only [Act.put,zl]
        refine' dv rfl rfl rfl (fun wv HC=>?_) ?_;rotate_left
        ·obtain ⟨⟨f0,f1,f2,f3⟩,f4,f5,f6⟩:=HF.out _ HC;go_simp<;>rfl
        simp only [Act.put,zl]
       refine ZgK Tryz.Xp 64 (Z0 (Mut M KL) xvs) rfl rfl rfl rfl (.const (.slice none 0 0)) (.tmp 63) rfl rfl (A:=some ⟨bx,ox,none⟩) (m:=n) (c:=xc) (ys:=Z5 xvs) rfl (QB _) (by omega) (by omega) (fun wv HC hD=>((HRX.out _ HC).1).now) (fun C9 c9 wv HC q1 q2 hro=>⟨C9,n,c9,rfl,HXL.out.symm,q1,q2,hro⟩) ?_
       rintro u wx HCx ⟨A64,n64,c64,rfl,-,-,-,-⟩
       clear HCx
       simp only [Act.put,zl]
       refine' dv rfl rfl rfl (fun wv HC=>?_) ?_;rotate_left
       · go_simp<;>rfl
       simp only [Act.put,zl]
       refine WA 66 (Y7 (Mut M KL) (xid,xvs,vs)) rfl rfl rfl rfl (.agg #[.int .i64 xid,.slice A64 n64 c64,.slice (some ⟨ga,0,none⟩) n cr]) (fun wv HC=>?_) (fun wv HC hD=>?_) ?_
       ·go_simp<;>rfl
       ·have ha:Z0 (Mut M KL) xvs (.slice A64 n64 c64) wv:=ZM hD 6 rfl (by kernel_rfl) rfl rfl
        exact JW HXO.out.id HXO.out.vs HVS.out.2 ha ⟨_,n,cr,rfl,HVS.out.1.symm,hcr.1,hcr.2,(HRX.out _ HC).2⟩
       simp only [Act.put,zl]
       refine Ye #[.int .i64 xid,.slice A64 n64 c64,.slice (some ⟨ga,0,none⟩) n cr] 115 67 (Xb (Mut M KL) [(xid,xvs,vs)]) (fun g=>.slice (some ⟨g,0,none⟩) 1 1) rfl rfl rfl rfl (fun wv=>?_) (fun wv HC _hrm hD hro=>?_) ?_
       ·go_simp<;>rfl
       ·have hrr:=RM.alloc (Mut M KL) wv (.cells #[.int .i64 xid,.slice A64 n64 c64,.slice (some ⟨ga,0,none⟩) n cr] 115)
        have h0:Y7 (Mut M KL) (xid,xvs,vs) (.agg #[.int .i64 xid,.slice A64 n64 c64,.slice (some ⟨ga,0,none⟩) n cr]) wv:=ZM hD 8 rfl (by kernel_rfl) rfl rfl
        replace h0:=V9 _ _ _ hrr h0
        exact JD (hro _ HC.Zb) (fun i j k e1=>Value.agg.inj e1) h0
       rintro g67 wg HCg hsl
       simp only [Act.put,zl]
       clear hsl HCg
       refine Zj ?_
       rintro wx5 HX5
       rintro _hrm HGW
       have hb2:Xb (Mut M KL) [(xid,xvs,vs)] (.slice (some ⟨g67,0,none⟩) 1 1) wx5:=(Zl (d:=67) rfl).1 (HGW 9 _ rfl (by omega))
       clear HGW _hrm
       obtain ⟨Aq,nq,cq,pq,heq,-,-,hpm,hpok,hpr⟩:=hb2
       obtain ⟨rfl,rfl,rfl⟩:some ⟨g67,0,none⟩=Aq∧1=nq∧1=cq:=by injection heq with h1 h2 h3;exact ⟨h1,h2,h3⟩
       clear heq
       rw [HKL.out] at HX5 hpr
       have HPO:=hid (Zfu HPS.out hpok)
       have HPE:=hid (show ZZ ps++ZZ pq=ZZ (ps++pq) by simp [ZZ])
       have KA:=HX5.add (hpr.imp fun w h=>(h.2:YI pq w))
       have k5:=hid ((hpr.imp fun w h=>h.1).now)
       clear HX5 hpr hpm hpok HF HRX KN
       have FA:=KA.facts
       simp only [zg] at FA
       go_wp2_with (at_builtin;go_must (refine ZW KA 6 rfl Tryz.Q5 k5.out rfl (.tmp 59) (.tmp 67) rfl rfl rfl (Ga pq) (by omega) (by omega) ?_);intro C' cap' w6 hc6 hm6 KB;rw [HPE.out] at KB;simp only [zl] at KB;(have FB:=KB.facts);simp only [zg] at FB)
       have KD:=KB.store 8 rfl 2 (.slice C' (un+1) cap')
       have KE:=(KD.Yy 7 rfl (Ju (KD.ro 7 rfl) (KD.ro 0 rfl))).drop (List.Sublist.cons _ (List.Sublist.cons _ (List.Sublist.cons _ (List.Sublist.cons _ (List.Sublist.cons _ (List.Sublist.refl _))))))
       go_wp2_with fail
       go_roundw
       case rel=>exact ⟨j+1,dn,dc,un+1,cap',D,C',dels,ps++pq,by omega,by first|rfl|go_num,by omega,by omega,HPO,KE⟩
       case measure=>simp [intOf];omega
   ·have z2:(z==0)=false:=by rw [beq_eq_false_iff_ne];omega
    have z3:(z==1)=false:=by rw [beq_eq_false_iff_ne];omega
    go_wp2_with fail
    have KC:=K2.drop (List.Sublist.cons _ (List.Sublist.cons _ (List.Sublist.cons _ (List.Sublist.refl _))))
    go_roundw
    case rel=>exact ⟨j+1,dn,dc,un,uc,_,U,dels,ps,by omega,by first|rfl|go_num,by omega,by omega,HPS,KC⟩
    case measure=>simp [intOf];omega
  ·obtain rfl:m=j:=by omega
   have hd:decide ((m:Int)<(m:Int))=false:=by simp
   clear hlt
   obtain ⟨hdc1,hdc2,_⟩:=ZR (H.get 0 rfl)
   obtain ⟨huc1,huc2,_⟩:=ZR (H.get 1 rfl)
   have KS:=H.Zu 0 rfl
   simp only [List.set_cons_zero] at KS
   have KS2:=KS.Zu 1 rfl
   simp only [zl] at KS2
   clear H KS
   go_wp2_with fail
   refine (ZT T 4 _ (KS2.tp_ 9 rfl) (by omega) (by omega)).mono ?_
   rintro e w3 ⟨i0,rfl,i00,i01,t3,g3⟩
   obtain ⟨i0,rfl⟩:=Int.eq_ofNat_of_zero_le i00
   have K2:=((Hold.Zf KS2 9 rfl g3 t3).add (show Ro _ _ (QX []) from fun _ _ _ r hr=>nomatch hr)).nil 51 1
   have hi0:i0≤3:=by omega
   clear KS2 g3 t3 i00 i01
   go_wp2_with fail
   clear hd
   go_loopw [9] (fun iv wr=>∃ (i k ic:Nat) (I:Option Addr) (si:List Sl),iv=.int .i64 i∧i+k≤3∧Hid (∀ s∈si,s.ok)∧Hold M (some T) w wr [.own 51 1 (.slice I k ic) k (Xq si),.ro (QX si),.ro (SlR 1 D dn (Xl dels)),.ro (SlR 3 U un (ZZ ps)),.ro (YI ps),.blk g5 73 #[.slice I k ic,.slice D dn dc,.slice U un uc],.blk g4 73 #[.slice none 0 0,.slice none 0 0,.slice none 0 0],.cst gx 67 #[.string nm,.slice A n c,.int .i64 nx,.slice B m d],.ro Wds,.ro (ColsIn A n cs),.ro (RwsIn B m l),.tp T]) (fun iv _=>(intOf iv).toNat)
   case atStart=>exact ⟨i0,0,0,none,[],rfl,by omega,hid (fun s hs=>nomatch hs),K2⟩
   case round=>
    clear K2 hi0
    obtain ⟨i,k,ic,I,si,rfl,hik,HSI,H⟩:=hrel
    by_cases hlt:0<i
    ·obtain ⟨i,rfl⟩:∃ i',i=i' +1:=⟨i - 1,by omega⟩
     have hd:decide (((i+1:Nat):Int) > 0)=true:=by rw [decide_eq_true_iff];omega
     clear hlt
     have FH:=H.facts
     simp only [zg] at FH
     go_wp2_with fail
     refine (Gl (Mut M _) T _ H.Zb (H.tp_ 11 rfl) (H.get 11 rfl).2 nm A n c cs ((H.ro 9 rfl).less (YS (i:=11) rfl)) ((H.ro 8 rfl).less (YS (i:=11) rfl)) hT hn HOKC.out).mono ?_
     rintro e w4 ⟨Ar,nr,cr,vs,rfl,hnr,hvr,hfr,ho,t4,g4'⟩
     have KV:=Hold.Q4 H (Hold.Zf H 11 rfl g4' t4) (RM.grown g4' (.inr ⟨_,List.mem_of_getElem? (i:=11) rfl,rfl⟩)) ho
     obtain rfl:n=nr:=by have h1:=VW hfr;have h2:=HL.out;omega
     have hcr:=ZR (KV.get 0 rfl)
     replace hcr:=And.intro hcr.1 hcr.2.1
     have HVS:=hid (show vs.length=n∧∀ v∈vs,v.ok from ⟨hnr.symm,hvr⟩)
     obtain ⟨ga,rfl⟩:∃ ga,Ar=some ⟨ga,0,none⟩:=by
      rcases U5 (KV.get 0 rfl) with ⟨_,h,_⟩|⟨g,h,_⟩
      ·omega
      ·exact ⟨g,h⟩
     clear H ho t4 g4' hnr hvr hfr FH
     have FV:=KV.facts
     simp only [zg] at FV
     go_wp2_with fail
     refine (Z8 T 12 _ (KV.tp_ 12 rfl) (by omega) (by omega)).mono ?_
     rintro e wb ⟨bb,rfl,tb,gb⟩
     have KP:=Hold.Zf KV 12 rfl gb tb
     clear KV gb tb
     have FP:=KP.facts
     simp only [zg] at FP
     cases bb
     ·skip
      have KC:=KP
      clear KP
      have KS:=KC.Zu 0 rfl
      simp only [List.set_cons_zero] at KS
      have HCE:=hid (show Xq si++(#[Value.slice (some ⟨ga,0,none⟩) n cr]).toList=Xq (si++[⟨some ⟨ga,0,none⟩,n,cr,vs⟩]) by simp [Xq,Sl.cells])
      have HSO:=hid (Zat HSI.out (x:=⟨some ⟨ga,0,none⟩,n,cr,vs⟩) ⟨hcr.1,hcr.2,HVS.out.2⟩)
      clear KC
      have FS:=KS.facts
      simp only [zg] at FS
      go_wp2_with (at_builtin;go_must (refine ZH KS 1 rfl Tryz.Zcd #[.slice (some ⟨ga,0,none⟩) n cr] rfl (.tmp 92) (.tmp 94) rfl rfl _ (by first|rfl|simp [World.setCell]) rfl rfl (by intro u hu;simp at hu;rcases hu with rfl;rfl) (by omega) (by omega) ?_);intro g9 cap9 w9 hc9 hm9 KB;rw [HCE.out] at KB;simp only [zl] at KB;(have FB:=KB.facts);simp only [zg] at FB)
      have KD:=KB.store 6 rfl 0 (.slice (some ⟨g9,0,none⟩) (k+1) cap9)
      have KE:=(KD.Yy 2 rfl (Zbz (r:=⟨some ⟨ga,0,none⟩,n,cr,vs⟩) (KD.ro 2 rfl) (KD.ro 0 rfl))).drop (List.sublist_cons_self _ _)
      go_roundw
      case rel=>exact ⟨i,k+1,cap9,_,_,by first|rfl|go_num,by omega,HSO,KE⟩
      case measure=>simp [intOf]<;>omega
     ·skip
      go_wp2_with fail
      refine (ZT T (n:Int) _ (KP.tp_ 12 rfl) (by omega) (by omega)).mono ?_
      rintro e wc ⟨q,rfl,q0,q1,tc,gc⟩
      obtain ⟨q,rfl⟩:=Int.eq_ofNat_of_zero_le q0
      have KQ:=Hold.Zf KP 12 rfl gc tc
      clear KP gc tc FP
      have FQ:=KQ.facts
      simp only [zg] at FQ
      go_wp2_with fail
      refine (zP T _ (KQ.tp_ 12 rfl) (KQ.ro 9 rfl).now hT).mono ?_
      rintro e wd ⟨kv,iv,sv,rfl,hv,hsv,hiv,td,_,gd⟩
      have KR:=Hold.Zf KQ 12 rfl gd td
      clear KQ gd td FQ
      have HQL:=hid (show q<vs.length by have:=HVS.out.1;omega)
      obtain ⟨uq,huq⟩:∃ uq,vs[q]? =some uq:=⟨_,List.getElem?_eq_getElem HQL.out⟩
      obtain ⟨⟨z0,z1,z2⟩,⟨z3,z4,z5⟩,z6⟩:=JU (KR.get 0 rfl) huq
      clear huq
      have KC:=KR.G6 0 rfl q HQL.out ⟨kv,iv,sv⟩
      simp only [List.set_cons_zero] at KC
      have HVS:=hid (show (vs.set q ⟨kv,iv,sv⟩).length=n∧∀ v∈vs.set q ⟨kv,iv,sv⟩,v.ok from ⟨by rw [List.length_set];exact HVS.out.1,Jl HVS.out.2 ⟨Za3 hv,hiv,by show sv.size≤maxLen;unfold maxLen;omega⟩⟩)
      clear hv KR
      generalize vs.set q ⟨kv,iv,sv⟩=vs at HVS KC
      have FC:=KC.facts
      simp only [zg] at FC
      have KS:=KC.Zu 0 rfl
      simp only [List.set_cons_zero] at KS
      have HCE:=hid (show Xq si++(#[Value.slice (some ⟨ga,0,none⟩) n cr]).toList=Xq (si++[⟨some ⟨ga,0,none⟩,n,cr,vs⟩]) by simp [Xq,Sl.cells])
      have HSO:=hid (Zat HSI.out (x:=⟨some ⟨ga,0,none⟩,n,cr,vs⟩) ⟨hcr.1,hcr.2,HVS.out.2⟩)
      clear KC
      have FS:=KS.facts
      simp only [zg] at FS
      go_wp2_with (at_builtin;go_must (refine ZH KS 1 rfl Tryz.Zcd #[.slice (some ⟨ga,0,none⟩) n cr] rfl (.tmp 92) (.tmp 94) rfl rfl _ (by first|rfl|simp [World.setCell]) rfl rfl (by intro u hu;simp at hu;rcases hu with rfl;rfl) (by omega) (by omega) ?_);intro g9 cap9 w9 hc9 hm9 KB;rw [HCE.out] at KB;simp only [zl] at KB;(have FB:=KB.facts);simp only [zg] at FB)
      have KD:=KB.store 6 rfl 0 (.slice (some ⟨g9,0,none⟩) (k+1) cap9)
      have KE:=(KD.Yy 2 rfl (Zbz (r:=⟨some ⟨ga,0,none⟩,n,cr,vs⟩) (KD.ro 2 rfl) (KD.ro 0 rfl))).drop (List.sublist_cons_self _ _)
      go_roundw
      case rel=>exact ⟨i,k+1,cap9,_,_,by first|rfl|go_num,by omega,HSO,KE⟩
      case measure=>simp [intOf]<;>omega
    ·obtain rfl:i=0:=by omega
     have hd:decide (((0:Nat):Int) > 0)=false:=by decide
     have F:=H.facts
     simp only [zg] at F
     obtain ⟨hic1,hic2,_⟩:=ZR (H.get 0 rfl)
     have KS:=H.Zu 0 rfl
     simp only [List.set_cons_zero] at KS
     have KN:=((KS.store 6 rfl 0 (.slice I k ic)).store 6 rfl 1 (.slice D dn dc)).store 6 rfl 2 (.slice U un uc)
     have r0:=KN.ZP 0 rfl
     have r1:=KN.ZP 1 rfl
     have r2:=KN.ZP 2 rfl
     have r3:=KN.ZP 3 rfl
     have r4:=KN.ZP 4 rfl
     clear KS
     have HI:=hid (show si.length=k by have h:=(show Rd _ _ _ _ _ _ from r0.now).1;rw [Zbv] at h;omega)
     have HDL:=hid (show dels.length=dn by have h:=(show Rd _ _ _ _ _ _ from r2.now).1;rw [zN] at h;omega)
     have HUL:=hid (show ps.length=un by have h:=(show Rd _ _ _ _ _ _ from r3.now).1;rw [Zbw] at h;omega)
     go_wp2_with fail
     exact bodyPost_ret (v:=.agg #[.slice I k ic,.slice D dn dc,.slice U un uc]) (by simp [results,Tryz.results24,go_sem,F]) rfl ⟨_,si.map Sl.vs,dels,ps.map Pr.upd,rfl,Zgj ⟨I,k,ic,si,rfl,hic1,hic2,rfl,HSI.out,r0.and r1⟩ ⟨D,dn,dc,rfl,hdc1,hdc2,r2⟩ ⟨U,un,uc,ps,rfl,huc1,huc2,rfl,HPS.out,r3.and r4⟩,by rw [List.length_map,HI.out];omega,by rw [HDL.out];omega,by rw [List.length_map,HUL.out];omega,KN.tp_ 11 rfl,KN.grow⟩
theorem ZeO {w:World} {M M' :Nat→Prop} {v:Value} {t:Tb} (h:Y2 w M v t) (hM:∀ b,M' b→M b):Y2 w M' v t:=by
 obtain ⟨A,n,c,B,m,d,l,h1,h2,h3,h4,h5,h6,h7,h8,h9⟩:=h
 exact ⟨A,n,c,B,m,d,l,h1,h2,h3,h4,h5,h6.less hM,h7.less hM,h8,h9⟩
structure VTab (t:Tb):Prop where
 sch:SchOk t.nm t.cs
 val:Zn t.nm t.cs t.nx t.rs=true
theorem VTab.fit {t:Tb} (h:VTab t) {l:List Rw} (hl:l.map Rw.row=t.rs):∀ r∈l,r.vs.length=t.cs.length:=fun r hr=>by
 obtain ⟨_,_,_,_,hok,_⟩:=XM h.val
 exact Vy (Vp hok r.row (by rw [←hl];exact List.mem_map_of_mem hr))
theorem VTab.rows {t:Tb} (h:VTab t):t.rs.length≤100:=(XM h.val).2.1
theorem VTab.len {t:Tb} (h:VTab t):∀ r∈t.rs,r.2.length≤4:=fun r hr=>by
 obtain ⟨_,_,_,_,hok,_⟩:=XM h.val
 have h1:=Vy (Vp hok r hr)
 have h2:=h.sch.len
 omega
theorem Zgz (M:Nat→Prop) (T:Nat) (w:World) (hM:∀ b,M b→b<w.heap.size) (ht:Tp w T) (hMT:∀ b,M b→T≤b) (v:Value) (t:Tb) (hT:Y2 w (Mut M [.tp T]) v t) (hv:VTab t) (hW:Ro w (Mut M [.tp T]) Wds) (hw:1<T):
  Calls Tryz.prog 24 #[.pointer (some ⟨T,0,none⟩),v] w fun e w' =>Zam w T M t.rs.length e w' :=by
 obtain ⟨A,n,c,B,m,d,l,rfl,h1,h2,h3,h4,h5,h6,h7,h8⟩:=hT
 have hn:t.cs.length=n:=WR h5.now
 have hm:l.length=m:=h6.now.len
 have hml:t.rs.length=m:=by rw [←h8,List.length_map,hm]
 have hl:=hv.sch.len
 have hr:=hv.rows
 rw [hml]
 exact ZgB M T w hM ht hMT t.nm A n c t.cs t.nx B m d l h5 h6 hW hw (by omega) (by omega) (by omega) hv.sch.col (fun r hr=>by rw [←hn];exact hv.fit h8 r hr) h7
theorem JH (M:Nat→Prop) (T:Nat) (w:World) (hM:∀ b,M b→b<w.heap.size) (ht:Tp w T) (hMT:∀ b,M b→T≤b) (nm:ByteArray) (A:Option Addr) (n c:Nat) (cs:List Col) (N:Nat) (hD:Ro w (Mut M [.tp T]) (ColsIn A n cs)) (hc1:n≤c) (hc2:c≤9223372036854775807) (hs:SchOk nm cs) (hW:Ro w (Mut M [.tp T]) Wds) (hw:1<T) (hN:N≤50):
  Calls Tryz.prog 60 #[.pointer (some ⟨T,0,none⟩),.agg #[.string nm,.slice A n c],.int .i64 N] w fun e w' =>∃ (v:Value) (t:Tb),e=.returned v∧Y2 w' M v t∧VTab t∧t.nm=nm∧t.cs=cs∧t.rs.length≤N∧Tp w' T∧w.grownBy w' (some T):=by
 have hn:cs.length=n:=WR hD.now
 have hl:=hs.len
 refine (Zco M T w hM ht hMT nm A n c cs N hD hW hw (by omega) hc1 hc2 hs.col hs.val hs.key hN).mono ?_
 rintro e w' ⟨v,nx,rs,rfl,hT,hv,hr,t1,g1⟩
 exact ⟨v,_,rfl,hT,⟨hs,hv⟩,rfl,rfl,hr,t1,g1⟩
structure Te where
 nm:ByteArray
 A:Option Addr
 n:Nat
 c:Nat
 cs:List Col
 nx:Int
 B:Option Addr
 m:Nat
 d:Nat
 l:List Rw
def Te.cells (x:Te):List Value:=[.string x.nm,.slice x.A x.n x.c,.int .i64 x.nx,.slice x.B x.m x.d]
def Te.val (x:Te):Value:=.agg #[.string x.nm,.slice x.A x.n x.c,.int .i64 x.nx,.slice x.B x.m x.d]
def Te.tb (x:Te):Tb:=⟨x.nm,x.cs,x.nx,x.l.map Rw.row⟩
def YV (x:Te) (w:World):Prop:=ColsIn x.A x.n x.cs w∧RwsIn x.B x.m x.l w
structure Te.ok (x:Te):Prop where
 nc:x.n≤x.c
 c:x.c≤9223372036854775807
 md:x.m≤x.d
 d:x.d≤9223372036854775807
 l:∀ r∈x.l,r.ok
theorem UR {w:World} {M:Nat→Prop} {v:Value} {t:Tb} (h:Y2 w M v t):∃ x:Te,v=x.val∧x.tb=t∧x.ok∧Ro w M (YV x):=by
 obtain ⟨A,n,c,B,m,d,l,rfl,h1,h2,h3,h4,h5,h6,h7,h8⟩:=h
 exact ⟨⟨t.nm,A,n,c,t.cs,t.nx,B,m,d,l⟩,rfl,by simp only [Te.tb,h8],⟨h1,h2,h3,h4,h7⟩,h5.and h6⟩
theorem Ja {w:World} {M:Nat→Prop} {x:Te} (h:x.ok) (r:Ro w M (YV x)):Y2 w M x.val x.tb:=
 ⟨x.A,x.n,x.c,x.B,x.m,x.d,x.l,rfl,h.nc,h.c,h.md,h.d,r.imp fun w h=>h.1,r.imp fun w h=>h.2,h.l,rfl⟩
structure TbM (t:Tb):Prop where
 nm:t.nm.size≤maxLen
 cs:∀ x∈t.cs,x.name.size≤maxLen
 rs:t.rs.length≤4398046511104
 row:∀ r∈t.rs,r.2.length≤4398046511104
def ZK (l:List Te):List Value:=l.flatMap Te.cells
theorem ZaB (l:List Te):(ZK l).length=l.length * 4:=Yu _ 4 (fun _=>rfl) l
def TesIn (A:Option Addr) (n:Nat) (l:List Te) (w:World):Prop:=SlR 4 A n (ZK l) w∧∀ x∈l,YV x w
theorem TesIn.len {w:World} {A:Option Addr} {n:Nat} {l:List Te} (h:TesIn A n l w):l.length=n:=by
 have:=(show Rd w w.heap.size 4 A n (ZK l) from h.1).1
 rw [ZaB] at this
 omega
theorem TesIn.at_ {w:World} {A:Option Addr} {n:Nat} {l:List Te} (h:TesIn A n l w) {k:Nat} {x:Te} (hx:l[k]? =some x):
  ∃ b o,A=some ⟨b,o,none⟩∧b<w.heap.size∧w.cell? ⟨b,o+k * 4,none⟩=some (.string x.nm)∧w.cell? ⟨b,o+k * 4+1,none⟩=some (.slice x.A x.n x.c)∧w.cell? ⟨b,o+k * 4+2,none⟩=some (.int .i64 x.nx)∧w.cell? ⟨b,o+k * 4+3,none⟩=some (.slice x.B x.m x.d)∧YV x w:=by
 have hk:k<n:=by rw [←h.len];exact (List.getElem?_eq_some_iff.1 hx).1
 obtain ⟨b,o,e,hb,hc⟩:=(show Rd w w.heap.size 4 A n (ZK l) from h.1).2 (by omega)
 exact ⟨b,o,e,hb,hc _ _ (flat_get Te.cells 4 (fun _=>rfl) l k 0 x (by omega) hx),hc _ _ (flat_get Te.cells 4 (fun _=>rfl) l k 1 x (by omega) hx),hc _ _ (flat_get Te.cells 4 (fun _=>rfl) l k 2 x (by omega) hx),hc _ _ (flat_get Te.cells 4 (fun _=>rfl) l k 3 x (by omega) hx),h.2 x (List.mem_of_getElem? hx)⟩
theorem Jo (l:List Te):∀ u∈ZK l,u.oneCell' =true:=fun u hu=>by
 unfold ZK at hu
 rw [List.mem_flatMap] at hu
 obtain ⟨x,_,hx⟩:=hu
 simp only [Te.cells,List.mem_cons,List.not_mem_nil,or_false] at hx
 rcases hx with rfl|rfl|rfl|rfl<;>rfl
theorem Gt {w:World} {M:Nat→Prop} {g:Nat} {t:TypeId} {cs:Array Value} {l:List Te} (h:Ro w M (fun w=>w.heap[g]? =some (.cells cs t (0,0)))) (hl:cs.toList=ZK l) (hr:∀ x∈l,Ro w M (YV x)):Ro w M (TesIn (some ⟨g,0,none⟩) l.length l):=by
 have h1:Ro w M (SlR 4 (some ⟨g,0,none⟩) l.length cs.toList):=ZL h (by rw [hl,ZaB])
 rw [hl] at h1
 exact h1.and fun w2 a b x hx=>hr x hx w2 a b
set_option maxRecDepth 100000 in
theorem ZhV (w:World):Calls Tryz.prog 52 #[.slice none 0 0] w fun e w' =>e=.returned (.slice none 0 0)∧Below w.heap.size w w' :=by
 have K0:=Hold.start Zc w zn
 go_enter Tryz.func52,Tryz.ntmps52
 go_wp2_with fail
 go_loopw [3,8] (fun ov iv wr=>ov=.slice none 0 0∧iv=.int .i64 0∧Hold Zc none w wr []) (fun _ _ _=>0)
 case atStart=>exact ⟨rfl,rfl,K0⟩
 case round=>
  clear K0
  obtain ⟨rfl,rfl,H⟩:=hrel
  have HB:=hid H.below
  go_wp2_with fail
  go_ret
  exact ⟨rfl,HB.out⟩
structure TrOk (s:Sm) (x:Te):Prop where
 n:x.n=s.cols.n
 c:x.n≤x.c
 c2:x.c≤9223372036854775807
 z:x.B=none∧x.m=0∧x.d=0∧x.l=[]
def ZgH (w:World) (M:Nat→Prop) (s:Sm) (e:Ending) (w' :World):Prop:=∃ x:Te,e=.returned x.val∧TrOk s x∧Ro w' M (YV x)∧Below w.heap.size w w'
theorem Zhv (l:List Col) (n:ByteArray) (t:Int):Zd l++(#[.string n,.int .i64 t,.bool false,.bool false]:Array Value).toList=Zd (l++[⟨n,t,false,false⟩]):=by simp [Zd,Col.cells]
set_option maxRecDepth 100000 in
set_option maxHeartbeats 8000000 in
theorem Qc (M:Nat→Prop) (w:World) (hM:∀ b,M b→b<w.heap.size) (name:ByteArray) (s:Sm) (hs:Ro w M (ZQ s)) (hn:1≤s.cols.n∧s.cols.n≤1000):Calls Tryz.prog 128 #[.string name,s.val,.slice none 0 0] w fun e w' =>ZgH w M s e w' :=by
 obtain ⟨snm,⟨cA,cn,cc,cl⟩⟩:=s
 have hcn:1≤cn∧cn≤1000:=hn
 obtain ⟨b,o,eA,-,-⟩:=(show Rd w w.heap.size 4 cA cn (Zd cl) from hs.now.1).2 (by omega)
 subst eA
 have HLN:=hid (show cl.length=cn from (RdC.Zy (show SlR 4 (some ⟨b,o,none⟩) cn (Zd cl) w from hs.now.1)).len)
 have K0:=((((Hold.start M w hM).add (hs.less (by simp [Mut]))).add ((hs.imp (S' :=SlR 4 (some ⟨b,o,none⟩) cn (Zd cl)) fun w2 h2=>h2.1).less (by simp [ZI,Mut,Hp.foot]))).Za #[.string snm,.slice (some ⟨b,o,none⟩) cn cc] 49).alloc #[.string ⟨#[]⟩,.slice none 0 0,.int .i64 0,.slice none 0 0] 67
 obtain ⟨gs,hgs⟩:∃ g,g=w.heap.size:=⟨_,rfl⟩
 rw [World.size_alloc,←hgs] at K0
 obtain ⟨gr,hgr⟩:∃ g,g=gs+1:=⟨_,rfl⟩
 rw [←hgr] at K0
 simp only [Sm.val]
 clear hs
 go_enter Tryz.func128,Tryz.ntmps128
 go_wp2_with fail
 rw [←hgs]
 try rw [←hgr]
 have HG:=hid (And.intro hgs hgr)
 clear hgs hgr
 refine (ZhV _).mono ?_
 rintro e w1 ⟨rfl,b1⟩
 have K1:=K0.call b1
 have K2:=(K1.alloc #[.string name,.slice none 0 0,.int .i64 1,.slice none 0 0] 67).nil 158 4
 obtain ⟨gt,hgt⟩:∃ g,g=w1.heap.size:=⟨_,rfl⟩
 rw [←hgt] at K2
 have K3:Hold M none w _ [.own 158 4 (.slice none 0 0) 0 [],.blk gt 67 #[.string name,.slice none 0 0,.int .i64 1,.slice none 0 0],.ro (SlR 4 (some ⟨b,o,none⟩) cn (Zd cl)),.cst gs 49 #[.string snm,.slice (some ⟨b,o,none⟩) cn cc],.blk gr 67 #[.string ⟨#[]⟩,.slice none 0 0,.int .i64 0,.slice none 0 0]]:=K2.pick [0,1,4,3,2] (by decide) rfl
 have F2:=K2.facts
 simp only [zg] at F2
 rw [hgt] at F2
 clear K0 K1 K2 b1
 go_wp2_with fail
 try rw [←hgt]
 have HGT:=hid hgt
 clear hgt F2
 go_loopw [18] (fun iv wr=>∃ (j cap:Nat) (O:Option Addr) (outs:List Col),j≤cn∧iv=.int .i64 j∧Hold M none w wr [.own 158 4 (.slice O j cap) j (Zd outs),.blk gt 67 #[.string name,.slice O j cap,.int .i64 1,.slice none 0 0],.ro (SlR 4 (some ⟨b,o,none⟩) cn (Zd cl)),.cst gs 49 #[.string snm,.slice (some ⟨b,o,none⟩) cn cc],.blk gr 67 #[.string ⟨#[]⟩,.slice none 0 0,.int .i64 0,.slice none 0 0]]) (fun iv _=>cn - (intOf iv).toNat)
 case atStart=>exact ⟨0,0,none,[],by omega,rfl,K3⟩
 case round=>
  clear K3
  obtain ⟨j,cap,O,outs,hj,rfl,H⟩:=hrel
  by_cases hlt:j<cn
  ·obtain ⟨⟨xnm,xty,xnn,xkey⟩,hc⟩:=YA HLN.out hlt
   obtain ⟨b2',o2',hcA,hb2,x0,x1,x2,x3⟩:=(RdC.Zy (H.ro 2 rfl).now).at_ hc
   obtain ⟨rfl,rfl⟩:b=b2' ∧o=o2' :=by injection hcA with hcA;injection hcA with e1 e2;exact ⟨e1,e2⟩
   clear hcA
   simp only at x0 x1 x2 x3
   clear hc
   have K2:=H.Za #[.string xnm,.int .i64 xty,.bool xnn,.bool xkey] 158
   have F2:=K2.facts
   simp only [zg] at F2
   clear H
   go_wp2_with (at_builtin;go_must (refine ZH K2 1 rfl Tryz.WG #[.string xnm,.int .i64 xty,.bool false,.bool false] rfl (.tmp 24) (.tmp 30) rfl rfl _ (by first|rfl|simp) rfl rfl (by intro u hu;simp at hu;rcases hu with rfl|rfl|rfl|rfl<;>rfl) (by omega) (by omega) ?_);intro gA capA wA hcA hmA KA;rw [Zhv outs xnm xty] at KA;simp only [zl] at KA;have FA:=KA.facts;simp only [zg] at FA)
   have KB:=KA.store 2 rfl 1 (.slice (some ⟨gA,0,none⟩) (j+1) capA)
   simp only [zl] at KB
   go_roundw
   case rel=>exact ⟨j+1,capA,_,outs++[⟨xnm,xty,false,false⟩],by omega,by go_num,KB.pick [1,2,3,4,5] (by decide) rfl⟩
   case measure=>simp [intOf];omega
  ·obtain rfl:cn=j:=by omega
   have F:=H.facts
   simp only [zg] at F
   have K6:=(((H.store 4 rfl 0 (.string name)).store 4 rfl 1 (.slice O cn cap)).store 4 rfl 2 (.int .i64 1)).store 4 rfl 3 (.slice none 0 0)
   simp only [zl] at K6
   have F6:=K6.facts
   simp only [zg] at F6
   have hcap:=ZR (H.get 0 rfl)
   have KZ:=K6.Zu 0 rfl
   simp only [List.set_cons_zero] at KZ
   have hR:Ro _ _ (YV ⟨name,O,cn,cap,outs,1,none,0,0,[]⟩):=(KZ.ro 0 rfl).imp fun w2 h2=>⟨h2,⟨ZE 2 w2,fun _ hx=>(nomatch hx)⟩⟩
   have HR:=hid (hR.less zm)
   have HB:=hid KZ.below
   clear KZ hR K6 H
   go_wp2_with fail
   refine bodyPost_ret (v:=.agg #[.string name,.slice O cn cap,.int .i64 1,.slice none 0 0]) ?_ rfl ?_
   ·clear HR HB
    simp [results,Tryz.results128,go_sem,F6]
   ·exact ⟨⟨name,O,cn,cap,outs,1,none,0,0,[]⟩,rfl,⟨rfl,hcap.1,hcap.2.1,rfl,rfl,rfl,rfl⟩,HR.out,HB.out⟩
def ZhA (w:World) (M:Nat→Prop) (s:Sm) (e:Ending) (w' :World):Prop:=∃ (A:Option Addr) (c:Nat) (l:List Te),e=.returned (.slice A l.length c)∧l.length≤2∧l.length≤c∧c≤9223372036854775807∧(∀ x∈l,TrOk s x)∧Ro w' M (TesIn A l.length l)∧Below w.heap.size w w'
def WM (M:Nat→Prop) (s:Sm) (u:Value) (w:World):Prop:=∃ x:Te,u=x.val∧TrOk s x∧Ro w M (YV x)
theorem Zbu {M:Nat→Prop} {s:Sm} (u:Value) (w w' :World) (hr:RM M w w') (h:WM M s u w):WM M s u w' :=by
 obtain ⟨y,h1,h2,h3⟩:=h
 exact ⟨y,h1,h2,hr.ro h3⟩
set_option maxRecDepth 100000 in
set_option maxHeartbeats 8000000 in
theorem zk (M:Nat→Prop) (w:World) (hM:∀ b,M b→b<w.heap.size) (t:Tg) (s:Sm) (hs:Ro w M (ZQ s)) (hn:1≤s.cols.n∧s.cols.n≤1000):Calls Tryz.prog 76 #[t.val,s.val,.agg #[.string ⟨#[]⟩,.slice none 0 0,.slice none 0 0,.slice none 0 0]] w fun e w' =>ZhA w M s e w' :=by
 obtain ⟨tn,tt,tb,te,⟨oA,on,oc,ol⟩,tch,⟨pA,pn,pc,pl⟩,⟨qA,qn,qc,ql⟩,⟨rA,rn,rc,rl⟩,⟨kA,kn,kc,kl⟩,⟨aA,an,ac,al⟩⟩:=t
 obtain ⟨snm,⟨cA,cn,cc,cl⟩⟩:=s
 have K0:=((((Hold.start M w hM).add (hs.less (by simp [Mut]))).Za #[.string tn,.string tt,.bool tb,.int .i64 te,.slice oA on oc,.bool tch,.slice pA pn pc,.slice qA qn qc,.slice rA rn rc,.slice kA kn kc,.slice aA an ac] 40).Za #[.string snm,.slice cA cn cc] 49).Za #[.string ⟨#[]⟩,.slice none 0 0,.slice none 0 0,.slice none 0 0] 44
 rw [World.size_alloc,World.size_alloc] at K0
 obtain ⟨gt,hgt⟩:∃ g,g=w.heap.size:=⟨_,rfl⟩
 rw [←hgt] at K0
 obtain ⟨gs,hgs⟩:∃ g,g=gt+1:=⟨_,rfl⟩
 obtain ⟨gd,hgd⟩:∃ g,g=gs+1:=⟨_,rfl⟩
 rw [←hgs,←hgd] at K0
 have F0:=K0.facts
 simp only [zg] at F0
 rw [hgd,hgs,hgt] at F0
 simp only [Tg.val,Sm.val]
 clear hs
 go_enter Tryz.func76,Tryz.ntmps76
 cases tb
 ·cases tch
  ·go_wp2_with fail
   rw [←hgt,←hgs,←hgd]
   have HG:=hid (And.intro hgt (And.intro hgs hgd))
   clear hgt hgs hgd F0
   go_loopw [7,8,20] (fun ov nv iv wr=>ov=.slice none 0 0∧nv=.slice none 0 0∧iv=.int .i64 0∧Hold M none w wr [.cst gd 44 #[.string ⟨#[]⟩,.slice none 0 0,.slice none 0 0,.slice none 0 0],.cst gs 49 #[.string snm,.slice cA cn cc],.cst gt 40 #[.string tn,.string tt,.bool false,.int .i64 te,.slice oA on oc,.bool false,.slice pA pn pc,.slice qA qn qc,.slice rA rn rc,.slice kA kn kc,.slice aA an ac],.ro (ZQ ⟨snm,⟨cA,cn,cc,cl⟩⟩)]) (fun _ _ _ _=>0)
   case atStart=>exact ⟨rfl,rfl,rfl,K0⟩
   case round=>
    clear K0
    obtain ⟨rfl,rfl,rfl,H⟩:=hrel
    have F:=H.facts
    simp only [zg] at F
    by_cases e1:te=1
    ·skip
     subst e1
     go_wp2_with fail
     refine (Qc (Mut M _) _ H.Zb ⟨#[73,78,83,69,82,84,69,68]⟩ ⟨snm,⟨cA,cn,cc,cl⟩⟩ (H.ro 3 rfl) hn).mono ?_
     rintro e w2 ⟨x,rfl,hx,rx,b2⟩
     have K5:=((H.call b2).add rx).Za #[.string x.nm,.slice x.A x.n x.c,.int .i64 x.nx,.slice x.B x.m x.d] 67
     rw [show x.val=.agg #[.string x.nm,.slice x.A x.n x.c,.int .i64 x.nx,.slice x.B x.m x.d] from rfl]
     have hR:Ro _ _ (TesIn (some ⟨w2.heap.size,0,none⟩) 1 [x]):=Gt (l:=[x]) (K5.get 0 rfl) (by simp [ZK,Te.cells]) (fun z hz=>by
      simp only [List.mem_cons,List.not_mem_nil,or_false] at hz
      subst hz
      exact K5.ro 1 rfl)
     have HR:=hid (hR.less zm)
     have HB:=hid K5.below
     clear H F b2 rx K5 hR
     go_wp2_with fail
     go_ret
     exact ⟨_,1,[x],rfl,by simp,by simp,by simp,fun z hz=>by
      simp only [List.mem_cons,List.not_mem_nil,or_false] at hz
      subst hz
      exact hx,HR.out,HB.out⟩
    ·by_cases e3:te=3
     ·skip
      subst e3
      go_wp2_with fail
      refine (Qc (Mut M _) _ H.Zb ⟨#[68,69,76,69,84,69,68]⟩ ⟨snm,⟨cA,cn,cc,cl⟩⟩ (H.ro 3 rfl) hn).mono ?_
      rintro e w2 ⟨x,rfl,hx,rx,b2⟩
      have K5:=((H.call b2).add rx).Za #[.string x.nm,.slice x.A x.n x.c,.int .i64 x.nx,.slice x.B x.m x.d] 67
      rw [show x.val=.agg #[.string x.nm,.slice x.A x.n x.c,.int .i64 x.nx,.slice x.B x.m x.d] from rfl]
      have hR:Ro _ _ (TesIn (some ⟨w2.heap.size,0,none⟩) 1 [x]):=Gt (l:=[x]) (K5.get 0 rfl) (by simp [ZK,Te.cells]) (fun z hz=>by
       simp only [List.mem_cons,List.not_mem_nil,or_false] at hz
       subst hz
       exact K5.ro 1 rfl)
      have HR:=hid (hR.less zm)
      have HB:=hid K5.below
      clear H F b2 rx K5 hR
      go_wp2_with fail
      go_ret
      exact ⟨_,1,[x],rfl,by simp,by simp,by simp,fun z hz=>by
       simp only [List.mem_cons,List.not_mem_nil,or_false] at hz
       subst hz
       exact hx,HR.out,HB.out⟩
     ·by_cases e2:te=2
      ·skip
       subst e2
       obtain ⟨KL,hKL⟩:∃ KL:List Hp,KL=[.cst gd 44 #[.string ⟨#[]⟩,.slice none 0 0,.slice none 0 0,.slice none 0 0],.cst gs 49 #[.string snm,.slice cA cn cc],.cst gt 40 #[.string tn,.string tt,.bool false,.int .i64 2,.slice oA on oc,.bool false,.slice pA pn pc,.slice qA qn qc,.slice rA rn rc,.slice kA kn kc,.slice aA an ac],.ro (ZQ ⟨snm,⟨cA,cn,cc,cl⟩⟩)]:=⟨_,rfl⟩
       have hcast:∀ (L1:List Hp) (wz:World),Hold M none w wz L1→L1=KL→Hold M none w wz KL:=fun _ _ h e=>e ▸ h
       have K6:=hcast _ _ H hKL.symm
       have H1:∀ wv:World,Hold M none w wv KL→Blk wv gs 49 #[.string snm,.slice cA cn cc]:=fun wv h=>by rw [hKL] at h;exact h.ZB 1 rfl
       have H2:∀ wv:World,Hold M none w wv KL→Ro wv (Mut M KL) (ZQ ⟨snm,⟨cA,cn,cc,cl⟩⟩):=fun wv h=>by rw [hKL] at h ⊢;exact h.ro 3 rfl
       have HH1:=hid H1
       have HH2:=hid H2
       have HKL:=hid hKL
       clear hKL hcast H1 H2 H
       go_wp2_with fail
       clear F
       refine wp_region_any (by kernel_rfl) ?_
       refine Zp 6 66 (KL) (spL [(61,WM (Mut M KL) ⟨snm,⟨cA,cn,cc,cl⟩⟩),(64,WM (Mut M KL) ⟨snm,⟨cA,cn,cc,cl⟩⟩)]) (by kernel_rfl) (by kernel_rfl) (by kernel_rfl) rfl ?_ (K6.drew) ?_
       ·exact Ze Zbu (Ze Zbu (Zo _))
       simp only [zd,Act.put,List.getElem_toArray,List.getElem_cons_zero,List.getElem_cons_succ,zl]
       refine' dv rfl rfl rfl (fun wv HC=>?_) ?_;rotate_left
       ·obtain q0:=(HH1.out _ HC).cell 0;obtain q1:=(HH1.out _ HC).cell 1;go_simp<;>rfl
       simp only [Act.put,zl]
       refine' dv rfl rfl rfl (fun wv HC=>?_) ?_;rotate_left
       · go_simp<;>rfl
       simp only [Act.put,zl]
       refine Zm 61 (WM (Mut M KL) ⟨snm,⟨cA,cn,cc,cl⟩⟩) (f:=128) (args:=#[.string ⟨#[68,69,76,69,84,69,68]⟩,.agg #[.string snm,.slice cA cn cc],.slice none 0 0]) rfl rfl rfl rfl (fun wv=>?_) (fun wv HC hrm hD=>?_) ?_
       ·go_simp<;>rfl
       ·refine (Qc (Mut M KL) wv HC.Zb ⟨#[68,69,76,69,84,69,68]⟩ ⟨snm,⟨cA,cn,cc,cl⟩⟩ (HH2.out _ HC) hn).mono ?_
        rintro e w5 ⟨x,rfl,hx,rx,b5⟩
        exact ⟨_,rfl,⟨x,rfl,hx,rx⟩,HC.call b5,RM.below b5⟩
       rintro u wx HCx ⟨x,rfl,hx,rx⟩
       clear HCx hx rx
       simp only [Act.put,zl]
       refine' dv rfl rfl rfl (fun wv HC=>?_) ?_;rotate_left
       ·obtain q0:=(HH1.out _ HC).cell 0;obtain q1:=(HH1.out _ HC).cell 1;go_simp<;>rfl
       simp only [Act.put,zl]
       refine' dv rfl rfl rfl (fun wv HC=>?_) ?_;rotate_left
       · go_simp<;>rfl
       simp only [Act.put,zl]
       refine Zm 64 (WM (Mut M KL) ⟨snm,⟨cA,cn,cc,cl⟩⟩) (f:=128) (args:=#[.string ⟨#[73,78,83,69,82,84,69,68]⟩,.agg #[.string snm,.slice cA cn cc],.slice none 0 0]) rfl rfl rfl rfl (fun wv=>?_) (fun wv HC hrm hD=>?_) ?_
       ·go_simp<;>rfl
       ·refine (Qc (Mut M KL) wv HC.Zb ⟨#[73,78,83,69,82,84,69,68]⟩ ⟨snm,⟨cA,cn,cc,cl⟩⟩ (HH2.out _ HC) hn).mono ?_
        rintro e w5 ⟨x,rfl,hx,rx,b5⟩
        exact ⟨_,rfl,⟨x,rfl,hx,rx⟩,HC.call b5,RM.below b5⟩
       rintro u wx HCx ⟨y,rfl,hx,rx⟩
       clear HCx hx rx
       simp only [Act.put,zl]
       refine Zj ?_
       rintro wx2 HX
       rintro _hrm HG
       have hu:WM (Mut M KL) ⟨snm,⟨cA,cn,cc,cl⟩⟩ x.val wx2:=(Zl (d:=61) rfl).1 (HG 2 _ rfl (by omega))
       have hu2:WM (Mut M KL) ⟨snm,⟨cA,cn,cc,cl⟩⟩ y.val wx2:=(Zl (d:=64) rfl).1 (HG 5 _ rfl (by omega))
       clear HG _hrm
       obtain ⟨x1,hy1,hok1,hro1⟩:=hu
       obtain ⟨x2,hy2,hok2,hro2⟩:=hu2
       rw [HKL.out] at HX hro1 hro2
       rw [hy1,hy2]
       clear hy1 hy2 x y HH1 HH2 HKL
       have K5:=(((HX.add hro1).add (hro2.less (by intro b hb;simpa [ZI,Hp.foot] using hb)))).Za #[.string x1.nm,.slice x1.A x1.n x1.c,.int .i64 x1.nx,.slice x1.B x1.m x1.d,.string x2.nm,.slice x2.A x2.n x2.c,.int .i64 x2.nx,.slice x2.B x2.m x2.d] 67
       rw [show x1.val=.agg #[.string x1.nm,.slice x1.A x1.n x1.c,.int .i64 x1.nx,.slice x1.B x1.m x1.d] from rfl,show x2.val=.agg #[.string x2.nm,.slice x2.A x2.n x2.c,.int .i64 x2.nx,.slice x2.B x2.m x2.d] from rfl]
       have hR:Ro _ _ (TesIn (some ⟨wx2.heap.size,0,none⟩) 2 [x1,x2]):=Gt (l:=[x1,x2]) (K5.get 0 rfl) (by simp [ZK,Te.cells]) (fun z hz=>by
        simp only [List.mem_cons,List.not_mem_nil,or_false] at hz
        rcases hz with rfl|rfl
        ·exact K5.ro 2 rfl
        ·exact K5.ro 1 rfl)
       have HR:=hid (hR.less zm)
       have HB:=hid K5.below
       clear HX hro1 hro2 K5 hR
       go_wp2_with fail
       go_ret
       exact ⟨_,2,[x1,x2],rfl,by simp,by simp,by simp,fun z hz=>by
        simp only [List.mem_cons,List.not_mem_nil,or_false] at hz
        rcases hz with rfl|rfl
        ·exact hok1
        ·exact hok2,HR.out,HB.out⟩
      ·have c2:(te==2)=false:=by simpa using e2
       have c3:(te==3)=false:=by simpa using e3
       have c1:(te==1)=false:=by simpa using e1
       have HB:=hid H.below
       clear H
       go_wp2_with fail
       go_ret
       exact ⟨none,0,[],rfl,by simp,by simp,by simp,fun _ hx=>(nomatch hx),fun w2 _ _=>⟨ZE 4 w2,fun _ hx=>(nomatch hx)⟩,HB.out⟩
  ·have HB:=hid K0.below
   go_wp2_with fail
   go_ret
   exact ⟨none,0,[],rfl,by simp,by simp,by simp,fun _ hx=>(nomatch hx),fun w2 _ _=>⟨ZE 4 w2,fun _ hx=>(nomatch hx)⟩,HB.out⟩
 ·have HB:=hid K0.below
  go_wp2_with fail
  go_ret
  exact ⟨none,0,[],rfl,by simp,by simp,by simp,fun _ hx=>(nomatch hx),fun w2 _ _=>⟨ZE 4 w2,fun _ hx=>(nomatch hx)⟩,HB.out⟩
def SmB (s:Sm):Prop:=1≤s.cols.n∧s.cols.n≤1000∧s.cols.n≤100∧s.cols.n≤s.cols.c
theorem Gi {M:Nat→Prop} {L:List Hp} {g:Nat} {t:TypeId} {cs:Array Value}:∀ b,(M b∨b=g)→Mut M (.blk g t cs::L) b:=fun b hb=>by
 rcases hb with hb|rfl
 ·exact .inl hb
 ·exact .inr ⟨_,List.mem_cons_self ..,rfl⟩
def ZcG (w:World) (M:Nat→Prop) (e:Ending) (w' :World):Prop:=∃ (g:Nat) (l:List Sm),e=.returned (.slice (some ⟨g,0,none⟩) 3 3)∧l.length=3∧(∀ s∈l,SmB s)∧w'.ownsRow w.heap.size 49 2 (.slice (some ⟨g,0,none⟩) 3 3) 3 (Vo l)∧(∀ s∈l,Ro w' (fun b=>M b∨b=g) (ZQ s))∧Below w.heap.size w w'
set_option maxHeartbeats 4000000 in
theorem Zcw (M:Nat→Prop) (w:World) (hM:∀ b,M b→b<w.heap.size):Calls Tryz.prog 56 #[] w fun e w' =>ZcG w M e w' :=by
 have K0:=((((Hold.start M w hM).Za (Zd Yr).toArray 158).Za (Zd YP).toArray 158).Za (Zd YN).toArray 158).alloc
  #[.string YE,.slice (some ⟨w.heap.size,0,none⟩) 2 2,.string nmT,.slice (some ⟨w.heap.size+1,0,none⟩) 4 4,.string nmU,.slice (some ⟨w.heap.size+1+1,0,none⟩) 3 3] 49
 simp only [World.size_alloc] at K0
 go_enter Tryz.func56,Tryz.ntmps56
 go_wp2
 go_ret
 have h0:=K0.ZF 0 rfl
 refine ⟨w.heap.size+1+1+1,[⟨YE,⟨some ⟨w.heap.size,0,none⟩,2,2,Yr⟩⟩,⟨nmT,⟨some ⟨w.heap.size+1,0,none⟩,4,4,YP⟩⟩,⟨nmU,⟨some ⟨w.heap.size+1+1,0,none⟩,3,3,YN⟩⟩],rfl,rfl,fun s hs=>?_,⟨rfl,.inr ⟨w.heap.size+1+1+1,3,_,rfl,by omega,h0,Nat.le_refl _,by decide,rfl,rfl⟩⟩,fun s hs=>?_,K0.below⟩
 ·simp only [List.mem_cons,List.not_mem_nil,or_false] at hs
  rcases hs with rfl|rfl|rfl<;>exact ⟨by simp,by simp,by simp,by simp⟩
 ·simp only [List.mem_cons,List.not_mem_nil,or_false] at hs
  rcases hs with rfl|rfl|rfl
  ·exact (((ZL (K0.get 3 rfl) (by rfl)).less Gi):Ro _ _ (SlR 4 _ 2 (Zd Yr))).imp fun w2 h2=>⟨h2,fun _ _=>trivial⟩
  ·exact (((ZL (K0.get 2 rfl) (by rfl)).less Gi):Ro _ _ (SlR 4 _ 4 (Zd YP))).imp fun w2 h2=>⟨h2,fun _ _=>trivial⟩
  ·exact (((ZL (K0.get 1 rfl) (by rfl)).less Gi):Ro _ _ (SlR 4 _ 3 (Zd YN))).imp fun w2 h2=>⟨h2,fun _ _=>trivial⟩
theorem JJ {s:ByteArray} (h:Wi s):1≤(ZA s).2.length∧(ZA s).2.length≤4:=by
 rcases h with rfl|rfl|rfl<;>exact ⟨by decide+kernel,by decide+kernel⟩
theorem Tryz.Ziv:ElemT Tryz.prog 119 49 2 40 (.agg #[.string ⟨#[]⟩,.slice none 0 0]):=⟨Tryz.underlying119,by kernel_rfl,rfl,by omega⟩
theorem Zf7 (l:List Sm) (n:ByteArray) (A:Option Addr) (k c:Nat) (cs:List Col):Vo l++(#[.string n,.slice A k c]:Array Value).toList=Vo (l++[⟨n,⟨A,k,c,cs⟩⟩]):=by simp [Vo,Sm.cells,SlP.v]
def ZeW (w:World) (M:Nat→Prop) (e:Ending) (w' :World):Prop:=∃ p:Pl,e=.returned p.val∧PlB p∧p.fr.n≤2∧1≤p.tb.n∧Ro w' M (Zg p)∧Below w.heap.size w w'
set_option maxRecDepth 100000 in
set_option maxHeartbeats 8000000 in
theorem Zcl (M:Nat→Prop) (w:World) (hM:∀ b,M b→b<w.heap.size) (t:Tg) (hT:Wi t.tab):Calls Tryz.prog 98 #[t.val] w fun e w' =>ZeW w M e w' :=by
 obtain ⟨tn,tt,tb,te,⟨oA,on,oc,ol⟩,tch,⟨pA,pn,pc,pl⟩,⟨qA,qn,qc,ql⟩,⟨rA,rn,rc,rl⟩,⟨kA,kn,kc,kl⟩,⟨aA,an,ac,al⟩⟩:=t
 have hT:Wi tt:=hT
 have K0:=((Hold.start M w hM).Za #[.string tn,.string tt,.bool tb,.int .i64 te,.slice oA on oc,.bool tch,.slice pA pn pc,.slice qA qn qc,.slice rA rn rc,.slice kA kn kc,.slice aA an ac] 40).alloc #[.slice none 0 0,.slice none 0 0] 177
 rw [World.size_alloc] at K0
 obtain ⟨gx,hgx⟩:∃ g,g=w.heap.size:=⟨_,rfl⟩
 rw [←hgx] at K0
 obtain ⟨gr,hgr⟩:∃ g,g=gx+1:=⟨_,rfl⟩
 rw [←hgr] at K0
 have F0:=K0.facts
 simp only [zg] at F0
 rw [hgr,hgx] at F0
 simp only [Tg.val]
 go_enter Tryz.func98,Tryz.ntmps98
 go_wp2_with fail
 rw [←hgx]
 try rw [←hgr]
 have HG:=hid (And.intro hgx hgr)
 clear hgx hgr F0
 refine (VT (Mut M _) _ K0.Zb tt).mono ?_
 rintro e w1 ⟨cA,cn,cc,rfl,hcc,hc4,r1,b1⟩
 have hcl:1≤cn∧cn≤4:=by
  have h:=(show Rd w1 w1.heap.size 4 cA cn (Zd (ZA tt).2) from r1.now).1
  have h2:=JJ hT
  have h3:(Zd (ZA tt).2).length=(ZA tt).2.length * 4:=Yu _ 4 (fun _=>rfl) _
  omega
 have K1:=(K0.call b1).add (r1.imp (S' :=ZQ ⟨(ZA tt).1,⟨cA,cn,cc,(ZA tt).2⟩⟩) fun w2 h2=>⟨h2,fun _ _=>trivial⟩)
 obtain ⟨snm,hsnm⟩:∃ x,x=(ZA tt).1:=⟨_,rfl⟩
 obtain ⟨cl,hcs⟩:∃ x,x=(ZA tt).2:=⟨_,rfl⟩
 rw [←hsnm,←hcs] at K1
 rw [←hsnm]
 clear K0 hsnm hcs r1 b1
 have K2:=K1.alloc #[.string snm,.slice cA cn cc] 49
 have F1:=K1.facts
 simp only [zg] at F1
 have F2:=K2.facts
 simp only [zg] at F2
 clear K1
 go_wp2_with fail
 refine (ZaE (Mut M _) _ K2.Zb ⟨tn,tt,tb,te,⟨oA,on,oc,ol⟩,tch,⟨pA,pn,pc,pl⟩,⟨qA,qn,qc,ql⟩,⟨rA,rn,rc,rl⟩,⟨kA,kn,kc,kl⟩,⟨aA,an,ac,al⟩⟩ ⟨snm,⟨cA,cn,cc,cl⟩⟩ (K2.ro 1 rfl) (by show cn≤1000;omega)).mono ?_
 rintro e w3 ⟨⟨fA,fn,fc,fl⟩,rfl,hf1,hf2,hf3,rf,b3⟩
 have K3:=(K2.call b3).add rf
 simp only [SlP.v] at *
 clear K2 F1 F2 rf b3
 go_wp2_with fail
 refine (Zcw (Mut M _) _ K3.Zb).mono ?_
 rintro e w4 ⟨g,sl,rfl,hl3,hsl,ho,hro,b4⟩
 have K4:=(K3.Ziw b4 ho).add (S:=fun w=>∀ s∈sl,ZQ s w) (by
  intro w2 ha hb s hs
  refine (hro s hs).less (fun b hm=>?_) w2 ha hb
  rcases ZI.1 hm with hf|hm
  ·right
   have hf:some g=some b:=hf
   injection hf with hf
   exact hf.symm
  ·exact .inl hm)
 have K5:=K4.alloc #[.slice fA fn fc,.slice (some ⟨g,0,none⟩) 3 3] 177
 have F4:=K4.facts
 simp only [zg] at F4
 have F5:=K5.facts
 simp only [zg] at F5
 have HRO:=hid hro
 clear K3 K4 ho hro b4
 go_wp2_with fail
 refine (zk (Mut M _) _ K5.Zb ⟨tn,tt,tb,te,⟨oA,on,oc,ol⟩,tch,⟨pA,pn,pc,pl⟩,⟨qA,qn,qc,ql⟩,⟨rA,rn,rc,rl⟩,⟨kA,kn,kc,kl⟩,⟨aA,an,ac,al⟩⟩ ⟨snm,⟨cA,cn,cc,cl⟩⟩ (K5.ro 5 rfl) (by show 1≤cn∧cn≤1000;omega)).mono ?_
 rintro e w5 ⟨tA,tc,tl,rfl,htl,htc,htm,htr,rt,b5⟩
 obtain ⟨gq,hgq⟩:∃ g,g=w4.heap.size:=⟨_,rfl⟩
 rw [←hgq] at K5 rt ⊢
 have HGQ:=hid hgq
 clear hgq F4 F5
 have K6:Hold M none w w5 [.own 49 2 (.slice (some ⟨g,0,none⟩) 3 3) 3 (Vo sl),.blk gq 177 #[.slice fA fn fc,.slice (some ⟨g,0,none⟩) 3 3],.ro (fun w=>∀ s∈sl,ZQ s w),.ro (TesIn tA tl.length tl),.ro (FrsIn ⟨fA,fn,fc,fl⟩),.blk gr 177 #[.slice none 0 0,.slice none 0 0]]:=((K5.call b5).add rt).pick [3,1,2,0,4,7] (by decide) rfl
 have HTR:=hid htr
 clear K5 rt b5 htr
 go_wp2_with fail
 go_loopw [20] (fun iv wr=>∃ (j cap:Nat) (O:Option Addr) (outs:List Sm),j≤tl.length∧iv=.int .i64 j∧(∀ s∈outs,SmB s)∧Hold M none w wr [.own 49 2 (.slice O (3+j) cap) (3+j) (Vo outs),.blk gq 177 #[.slice fA fn fc,.slice O (3+j) cap],.ro (fun w=>∀ s∈outs,ZQ s w),.ro (TesIn tA tl.length tl),.ro (FrsIn ⟨fA,fn,fc,fl⟩),.blk gr 177 #[.slice none 0 0,.slice none 0 0]]) (fun iv _=>tl.length - (intOf iv).toNat)
 case atStart=>exact ⟨0,3,some ⟨g,0,none⟩,sl,by omega,rfl,hsl,K6⟩
 case round=>
  clear K6
  obtain ⟨j,cap,O,outs,hj,rfl,hso,H⟩:=hrel
  by_cases hlt:j<tl.length
  ·obtain ⟨x,hx⟩:=Yo rfl hlt
   obtain ⟨b,o,rfl,hb2,x0,x1,x2,x3,hin⟩:=TesIn.at_ (H.ro 3 rfl).now hx
   have hok:=HTR.out x (List.mem_of_getElem? hx)
   have hxin:=(H.ro 3 rfl).imp (S' :=ZQ ⟨x.nm,⟨x.A,x.n,x.c,x.cs⟩⟩) fun w2 h2=>⟨(h2.2 x (List.mem_of_getElem? hx)).1,fun _ _=>trivial⟩
   clear hx
   have K2:=(H.add hxin).Za #[.string x.nm,.slice x.A x.n x.c,.int .i64 x.nx,.slice x.B x.m x.d] 67
   have F2:=K2.facts
   simp only [zg] at F2
   clear H hin hxin
   go_wp2_with (at_builtin;go_must (refine ZH K2 2 rfl Tryz.Ziv #[.string x.nm,.slice x.A x.n x.c] rfl (.tmp 25) (.tmp 28) rfl rfl _ (by first|rfl|simp) rfl rfl (by intro u hu;simp at hu;rcases hu with rfl|rfl<;>rfl) (by omega) (by omega) ?_);intro gA capA wA hcA hmA KA;rw [Zf7 outs x.nm x.A x.n x.c x.cs] at KA;simp only [zl] at KA;have FA:=KA.facts;simp only [zg] at FA)
   have KB:=KA.store 3 rfl 1 (.slice (some ⟨gA,0,none⟩) (3+j+1) capA)
   simp only [zl] at KB
   have KC:=KB.add (S:=fun w=>∀ s∈outs++[(⟨x.nm,⟨x.A,x.n,x.c,x.cs⟩⟩:Sm)],ZQ s w) (((KB.ro 4 rfl).and (KB.ro 1 rfl)).imp fun w2 h2 s hs=>by
    rcases List.mem_append.1 hs with hs|hs
    ·exact h2.1 s hs
    ·simp only [List.mem_cons,List.not_mem_nil,or_false] at hs
     subst hs
     exact h2.2)
   go_roundw
   case rel=>
    refine ⟨j+1,capA,_,outs++[⟨x.nm,⟨x.A,x.n,x.c,x.cs⟩⟩],by omega,by go_num,fun s hs=>?_,KC.pick [3,4,0,6,7,8] (by decide) rfl⟩
    rcases List.mem_append.1 hs with hs|hs
    ·exact hso s hs
    ·simp only [List.mem_cons,List.not_mem_nil,or_false] at hs
     subst hs
     have h1:x.n=cn:=hok.n
     have h2:=hok.c
     exact ⟨by show 1≤x.n;omega,by show x.n≤1000;omega,by show x.n≤100;omega,h2⟩
   case measure=>simp [intOf];omega
  ·obtain rfl:tl.length=j:=by omega
   have F:=H.facts
   simp only [zg] at F
   have K6:=(H.store 5 rfl 0 (.slice fA fn fc)).store 5 rfl 1 (.slice O (3+tl.length) cap)
   simp only [zl] at K6
   have F6:=K6.facts
   simp only [zg] at F6
   have hcap:=ZR (H.get 0 rfl)
   have hlen:=(H.get 0 rfl).1
   rw [Zeb] at hlen
   have KZ:=K6.Zu 0 rfl
   simp only [List.set_cons_zero] at KZ
   have hR:Ro _ _ (Zg ⟨⟨fA,fn,fc,fl⟩,⟨O,3+tl.length,cap,outs⟩⟩):=((KZ.ro 4 rfl).and ((KZ.ro 0 rfl).and (KZ.ro 2 rfl))).imp fun w2 h2=>⟨h2.1,⟨h2.2.1,h2.2.2⟩⟩
   have HR:=hid (hR.less zm)
   have HB:=hid KZ.below
   clear KZ hR K6 H
   go_wp2_with fail
   refine bodyPost_ret (v:=.agg #[.slice fA fn fc,.slice O (3+tl.length) cap]) ?_ rfl ?_
   ·clear HR HB
    simp [results,Tryz.results98,go_sem,F6]
   ·exact ⟨⟨⟨fA,fn,fc,fl⟩,⟨O,3+tl.length,cap,outs⟩⟩,rfl,⟨⟨hf1,by show fn≤100;omega⟩,⟨hcap.1,by show 3+tl.length≤100;omega⟩,fun f hf=>by have:=hf3 f hf;show f.cols.n≤100;have h5:f.cols.n=cn:=this;omega,fun s hs=>(hso s hs).2.2.1⟩,hf2,by show 1≤3+tl.length;omega,HR.out,HB.out⟩
def QuGd (d:Nat) (q:Qu):Prop:=(q.n≤q.c∧q.c≤9223372036854775807∧q.m≤q.d∧q.d≤9223372036854775807)∧(q.items.length≤8∧q.wh.length≤1)∧(∀ a∈q.items,ExGd d a)∧∀ a∈q.wh,ExGd d a
def ZfW (w:World) (T:Nat) (M:Nat→Prop) (d:Nat) (e:Ending) (w' :World):Prop:=∃ q:Qu,e=.returned (.agg #[.bool q.star,.slice q.A q.n q.c,.string q.src,.slice q.B q.m q.d])∧QuGd d q∧Ro w' M (QuIn d q)∧Tp w' T∧w.grownBy w' (some T)
theorem Zex {w:World} {b o n c:Nat} {l:List Fr} {f:Fr} {c' :Nat} (h:FrsIn ⟨some ⟨b,o,none⟩,n+1,c,l++[f]⟩ w):FrsIn ⟨some ⟨b,o+n * 4,none⟩,1,c',[f]⟩ w:=by
 have hl:l.length=n:=by
  have:=FrsIn.len h
  simp at this
  exact this
 refine ⟨⟨by simp [Fr.cells],fun _=>⟨b,o+n * 4,rfl,?_,fun j u hu=>?_⟩⟩,fun x hx=>h.2 x (List.mem_append_right _ hx)⟩
 ·obtain ⟨b2,o2,e,hb,-⟩:=(show Rd w w.heap.size 4 (some ⟨b,o,none⟩) (n+1) ((l++[f]).flatMap Fr.cells) from h.1).2 (by omega)
  injection e with e
  injection e with e1 e2
  subst e1
  exact hb
 ·obtain ⟨b2,o2,e,hb,hc⟩:=(show Rd w w.heap.size 4 (some ⟨b,o,none⟩) (n+1) ((l++[f]).flatMap Fr.cells) from h.1).2 (by omega)
  injection e with e
  injection e with e1 e2
  subst e1
  subst e2
  have hlen:(l.flatMap Fr.cells).length=n * 4:=by rw [Yu Fr.cells 4 (fun _=>rfl),hl]
  have:=hc (n * 4+j) u (by
   rw [List.flatMap_append,List.getElem?_append_right (by omega),hlen]
   simpa using hu)
  rw [←Nat.add_assoc] at this
  exact this
set_option maxRecDepth 100000 in
set_option maxHeartbeats 16000000 in
theorem ZhU {n:Nat} (HE:GE n) (M:Nat→Prop) (T:Nat) (w:World) (hM:∀ b,M b→b<w.heap.size) (ht:Tp w T) (hMT:∀ b,M b→T≤b) (p:Pl) (s:Sm) (depth:Int) (hp:Ro w (Mut M [.tp T]) (Zg p)) (hsm:Ro w (Mut M [.tp T]) (ZQ s)) (hsc:1≤s.cols.n∧s.cols.n≤4) (hW:Ro w (Mut M [.tp T]) Wds) (hT:1<T) (hB:PlN (n+1) p) (hd:depth≤n) (hd2:-100≤depth) (hs:0<p.tb.n):
  Calls Tryz.prog 204 #[.pointer (some ⟨T,0,none⟩),p.val,s.val,.int .i64 depth] w fun e w' =>ZfW w T M (n+3) e w' :=by
 have HBM:=hid (fun (s:Sm) (hs:s∈p.tb.l) (A:Option Addr) (c:Nat) (hc:p.fr.n+1≤c)=>Zbb hB hs (A:=A) hc)
 obtain ⟨⟨fA,fn,fc,fl⟩,⟨sA,sn,sc,sl⟩⟩:=p
 obtain ⟨snm,⟨cA,cn,cc,cl⟩⟩:=s
 have hs:0<sn:=hs
 have hcn:1≤cn∧cn≤4:=hsc
 have HTC:=hid (show ∀ s∈sl,s.cols.n≤100 from hB.b.tc)
 have HSL:=hid (show sl.length=sn from SmsIn.len hp.now.2)
 obtain ⟨bS,oS,eS,-,-⟩:=(show Rd w w.heap.size 2 sA sn (sl.flatMap Sm.cells) from hp.now.2.1).2 hs
 obtain rfl:sA=some ⟨bS,oS,none⟩:=eS
 obtain ⟨bC,oC,eC,-,-⟩:=(show Rd w w.heap.size 4 cA cn (cl.flatMap Col.cells) from hsm.now.1).2 (by omega)
 obtain rfl:cA=some ⟨bC,oC,none⟩:=eC
 have HLN:=hid (show cl.length=cn from (RdC.Zy (show SlR 4 (some ⟨bC,oC,none⟩) cn (Zd cl) w from hsm.now.1)).len)
 have KZ:=((((((Hold.Y5 M w T hM ht hMT).add hW).add (hp.less (by simp [ZI,Mut,Hp.foot]))).add ((hsm.imp (S' :=SlR 4 (some ⟨bC,oC,none⟩) cn (Zd cl)) fun w2 h2=>h2.1).less (by simp [ZI,Mut,Hp.foot]))).Za #[.slice fA fn fc,.slice (some ⟨bS,oS,none⟩) sn sc] 177).Za #[.string snm,.slice (some ⟨bC,oC,none⟩) cn cc] 49).alloc #[.bool false,.slice none 0 0,.string ⟨#[]⟩,.slice none 0 0] 273
 rw [World.size_alloc,World.size_alloc] at KZ
 obtain ⟨gp,hgp⟩:∃ g,g=w.heap.size:=⟨_,rfl⟩
 rw [←hgp] at KZ
 obtain ⟨gc,hgc⟩:∃ g,g=gp+1:=⟨_,rfl⟩
 obtain ⟨gr,hgr⟩:∃ g,g=gc+1:=⟨_,rfl⟩
 rw [←hgc,←hgr] at KZ
 have KS:Hold M (some T) w _ [.blk gr 273 #[.bool false,.slice none 0 0,.string ⟨#[]⟩,.slice none 0 0],.cst gc 49 #[.string snm,.slice (some ⟨bC,oC,none⟩) cn cc],.cst gp 177 #[.slice fA fn fc,.slice (some ⟨bS,oS,none⟩) sn sc],.ro (Zg ⟨⟨fA,fn,fc,fl⟩,⟨some ⟨bS,oS,none⟩,sn,sc,sl⟩⟩),.ro Wds,.tp T,.ro (SlR 4 (some ⟨bC,oC,none⟩) cn (Zd cl))]:=KZ.pick [0,1,2,4,5,6,3] (by decide) rfl
 have hm90:n≤90∧fn≤100:=by have h1:fn+(n+1)≤90:=hB.n;omega
 have hsn:sn≤100:=hB.b.t.2
 simp only [Pl.val,Sm.val]
 clear hp hW hB hsm KZ
 go_enter Tryz.func204,Tryz.ntmps204
 obtain ⟨KL,hKL⟩:∃ KL:List Hp,KL=[.blk gr 273 #[.bool false,.slice none 0 0,.string ⟨#[]⟩,.slice none 0 0],.cst gc 49 #[.string snm,.slice (some ⟨bC,oC,none⟩) cn cc],.cst gp 177 #[.slice fA fn fc,.slice (some ⟨bS,oS,none⟩) sn sc],.ro (Zg ⟨⟨fA,fn,fc,fl⟩,⟨some ⟨bS,oS,none⟩,sn,sc,sl⟩⟩),.ro Wds,.tp T,.ro (SlR 4 (some ⟨bC,oC,none⟩) cn (Zd cl))]:=⟨_,rfl⟩
 have hcast:∀ (L1:List Hp) (wz:World),Hold M (some T) w wz L1→L1=KL→Hold M (some T) w wz KL:=fun _ _ h e=>e ▸ h
 have K6:=hcast _ _ KS hKL.symm
 have H1:∀ wv:World,Hold M (some T) w wv KL→Blk wv gp 177 #[.slice fA fn fc,.slice (some ⟨bS,oS,none⟩) sn sc]:=fun wv h=>by rw [hKL] at h;exact h.ZB 2 rfl
 have h4:KL[5]? =some (.tp T):=by rw [hKL];rfl
 have H5:∀ wv:World,Hold M (some T) w wv KL→∀ k x,sl[k]? =some x→wv.cell? ⟨bS,oS+k * 2,none⟩=some (.string x.nm)∧wv.cell? ⟨bS,oS+k * 2+1,none⟩=some (.slice x.cols.A x.cols.n x.cols.c):=fun wv h k x hx=>by
  rw [hKL] at h
  obtain ⟨b,o,e,-,hc,-⟩:=SmsIn.at_ (h.ro 3 rfl).now.2 hx
  have e:some (⟨bS,oS,none⟩:Addr)=some ⟨b,o,none⟩:=e
  obtain ⟨rfl,rfl⟩:bS=b∧oS=o:=by injection e with e;injection e with e1 e2;exact ⟨e1,e2⟩
  exact ⟨hc 0 _ (by omega) rfl,hc 1 _ (by omega) rfl⟩
 have HH1:=hid H1
 have HH4:=hid h4
 have HH5:=hid H5
 have HKL:=hid hKL
 clear hKL hcast H1 H5 h4 KS
 go_wp2_with fail
 rw [←hgp]
 try rw [←hgc]
 try rw [←hgr]
 have HG:=hid (And.intro hgp (And.intro hgc hgr))
 clear hgp hgc hgr
 refine wp_region_any (by kernel_rfl) ?_
 refine Zp 10 83 (KL) (spL [(23,fun u _=>Yt sn u),(9,Z6 (Mut M KL) (gr+1) 49 #[.string ⟨#[]⟩,.slice none 0 0])]) (by kernel_rfl) (by kernel_rfl) (by kernel_rfl) rfl ?_ (K6.drew) ?_
 ·exact Ze (fun _ _ _ _ h=>h) (Ze XY (Zo _))
 simp only [zd,Act.put,List.getElem_toArray,List.getElem_cons_zero,List.getElem_cons_succ,zl]
 refine' dv rfl rfl rfl (fun wv HC=>?_) ?_;rotate_left
 · go_simp<;>rfl
 simp only [Act.put,zl]
 refine' dv rfl rfl rfl (fun wv HC=>?_) ?_;rotate_left
 ·obtain q1:=(HH1.out _ HC).cell 1;go_simp<;>rfl
 iterate 2
  simp only [Act.put,zl]
  refine' dv rfl rfl rfl (fun wv HC=>?_) ?_;rotate_left
  · go_simp<;>rfl
 simp only [Act.put,zl]
 refine' dv rfl rfl rfl (fun wv HC=>?_) ?_;rotate_left
 ·obtain q1:=(HH1.out _ HC).cell 1;go_simp<;>rfl
 simp only [Act.put,zl]
 refine' dv rfl rfl rfl (fun wv HC=>?_) ?_;rotate_left
 · go_simp<;>rfl
 simp only [Act.put,zl]
 refine Yz sn 5 HH4.out 23 rfl rfl rfl rfl (fun wv=>?_) (fun r hr=>?_)
 ·go_simp<;>rfl
 have r6:(r:Int)<sn:=by omega
 have r0:(0:Int)≤(r:Int):=by omega
 obtain ⟨x,hx⟩:=Yo HSL.out hr
 have HX0:=hid hx
 clear hx
 simp only [Act.put,zl]
 refine' dv rfl rfl rfl (fun wv HC=>?_) ?_;rotate_left
 · go_simp<;>rfl
 simp only [Act.put,zl]
 refine' dv rfl rfl rfl (fun wv HC=>?_) ?_;rotate_left
 ·obtain ⟨q2,q3⟩:=HH5.out _ HC r x HX0.out;go_simp<;>rfl
 simp only [Act.put,zl]
 refine Ye #[.string ⟨#[]⟩,.slice none 0 0] 49 9 (Z6 (Mut M KL) (gr+1) 49 #[.string ⟨#[]⟩,.slice none 0 0]) (fun g=>.pointer (some ⟨g,0,none⟩)) rfl rfl rfl rfl (fun wv=>?_) (fun wv HC hrm hD hro=>?_) ?_
 ·go_simp<;>rfl
 ·exact ⟨_,rfl,by have:=hrm.1;simp only [World.size_alloc,World.size_drew] at this;have:=HG.out;omega,hro _ HC.Zb⟩
 rintro gs wg HCg hsl
 clear HCg hsl
 simp only [Act.put,zl]
 refine Zj ?_
 rintro wx2 HX
 rintro _hrm HGW
 have hu:Z6 (Mut M KL) (gr+1) 49 #[.string ⟨#[]⟩,.slice none 0 0] (.pointer (some ⟨gs,0,none⟩)) wx2:=(Zl (d:=9) rfl).1 (HGW 9 _ rfl (by omega))
 clear HGW
 obtain ⟨gs',e',hg1,hg2⟩:=hu
 obtain rfl:gs=gs' :=by injection e' with e';injection e' with e';injection e'
 clear e'
 have HB:=Hold.We K6.drew HX _hrm (by simp only [World.size_alloc,World.size_drew];have:=HG.out;omega) hg2.now
 rw [HKL.out] at HB
 clear HX _hrm hg2 K6 HH1 HH4 HH5 HKL
 have hxm:x∈sl:=List.mem_of_getElem? HX0.out
 have hx100:=HTC.out x hxm
 obtain ⟨xnm,⟨cA,ccn,ccc,ccl⟩⟩:=x
 simp only
 have K7:=(HB.store 0 rfl 0 (.string xnm)).store 0 rfl 1 (.slice cA ccn ccc)
 simp only [zl] at K7
 have F0:=HB.facts
 simp only [zg] at F0
 have F7:=K7.facts
 simp only [zg] at F7
 clear HB
 go_wp2_with fail
 refine (Qe (Mut M _) _ K7.Zb ⟨⟨fA,fn,fc,fl⟩,⟨some ⟨bS,oS,none⟩,sn,sc,sl⟩⟩ ⟨xnm,⟨cA,ccn,ccc,ccl⟩⟩ (K7.ro 4 rfl) ((K7.ro 4 rfl).imp fun w2 h2=>h2.2.2 _ hxm) (by have:=hm90;show fn≤1000;omega)).mono ?_
 rintro e w5 ⟨A9,c9,rfl,hc9,ro9,hbl9⟩
 have HIN:=hid (HBM.out ⟨xnm,⟨cA,ccn,ccc,ccl⟩⟩ hxm A9 c9 hc9)
 simp only [Pl.val,Pl.more] at *
 obtain ⟨b9',o9',e9,-,-⟩:=(show Rd w5 w5.heap.size 4 A9 (fn+1) _ from ro9.now.1.1).2 (by omega)
 obtain ⟨b9,hb9⟩:∃ x,x=b9' :=⟨_,rfl⟩
 obtain ⟨o9,ho9⟩:∃ x,x=o9' :=⟨_,rfl⟩
 rw [←hb9,←ho9] at e9
 subst e9
 clear hb9 ho9
 have hlast:=ro9.imp (S' :=Zg ⟨⟨some ⟨b9,o9+fn * 4,none⟩,1,c9 - fn,[(⟨xnm,false,⟨cA,ccn,ccc,ccl⟩,SlP.nil⟩:Fr)]⟩,SlP.nil⟩) fun w2 h2=>⟨Zex h2.1,SlP.Zx _ _ _ w2⟩
 have HLB:=hid (show PlB ⟨⟨some ⟨b9,o9+fn * 4,none⟩,1,c9 - fn,[(⟨xnm,false,⟨cA,ccn,ccc,ccl⟩,SlP.nil⟩:Fr)]⟩,SlP.nil⟩ from ⟨⟨by show 1≤c9 - fn;omega,by show 1≤100;omega⟩,⟨Nat.le_refl _,by simp [SlP.nil]⟩,fun f hf=>by
  simp only [List.mem_cons,List.not_mem_nil,or_false] at hf
  subst hf
  exact hx100,fun _ hx=>(nomatch hx)⟩)
 obtain ⟨fl2,hfl2⟩:∃ l,l=fl++[(⟨xnm,false,⟨cA,ccn,ccc,ccl⟩,SlP.nil⟩:Fr)]:=⟨_,rfl⟩
 rw [←hfl2] at ro9 HIN
 obtain ⟨fla,hfla⟩:∃ l,l=[(⟨xnm,false,⟨cA,ccn,ccc,ccl⟩,SlP.nil⟩:Fr)]:=⟨_,rfl⟩
 rw [←hfla] at hlast HLB
 clear hfl2 hfla HBM HX0 HSL HTC F0 F7 hxm hx100
 have K8:=(((K7.call hbl9).add ro9).add (hlast.less (by intro b hb;simpa [ZI,Hp.foot] using hb))).alloc #[.slice (some ⟨b9,o9,none⟩) (fn+1) c9,.slice (some ⟨bS,oS,none⟩) sn sc] 177
 have F8a:=(K7.call hbl9).facts
 simp only [zg] at F8a
 have F8:=K8.facts
 simp only [zg] at F8
 have KR:=(K8.alloc #[.bool false,.slice none 0 0,.string xnm,.slice none 0 0] 273).nil 126 10
 rw [World.size_alloc] at KR
 have FR:=KR.facts
 simp only [zg] at FR
 clear K7 hbl9 ro9 K8 hlast
 go_wp2_with fail
 obtain ⟨gi,hgi⟩:∃ g,g=w5.heap.size:=⟨_,rfl⟩
 rw [←hgi] at KR ⊢
 obtain ⟨gq,hgq⟩:∃ g,g=gi+1:=⟨_,rfl⟩
 rw [←hgq] at KR ⊢
 have HGI:=hid (And.intro hgi hgq)
 clear hgi hgq F8 F8a FR
 have K3:Hold M (some T) w _ [.own 126 10 (.slice none 0 0) 0 (Zv ([]:List Ex)),.ro (fun w=>∀ x∈([]:List Ex),ExIn (n+3) x w),.blk gq 273 #[.bool false,.slice none 0 0,.string xnm,.slice none 0 0],.blk gi 177 #[.slice (some ⟨b9,o9,none⟩) (fn+1) c9,.slice (some ⟨bS,oS,none⟩) sn sc],.ro (Zg ⟨⟨some ⟨b9,o9,none⟩,fn+1,c9,fl2⟩,⟨some ⟨bS,oS,none⟩,sn,sc,sl⟩⟩),.ro (Zg ⟨⟨some ⟨b9,o9+fn * 4,none⟩,1,c9 - fn,fla⟩,SlP.nil⟩),.ro (SlR 4 (some ⟨bC,oC,none⟩) cn (Zd cl)),.cst gc 49 #[.string snm,.slice (some ⟨bC,oC,none⟩) cn cc],.blk gr 273 #[.bool false,.slice none 0 0,.string ⟨#[]⟩,.slice none 0 0],.ro Wds,.tp T]:=(KR.add (S:=fun w=>∀ x∈([]:List Ex),ExIn (n+3) x w) (fun w2 _ _ x hx=>(nomatch hx))).pick [1,0,2,3,5,4,13,8,7,11,12] (by decide) rfl
 clear KR
 go_loopw [35] (fun iv wr=>∃ (j cap:Nat) (O:Option Addr) (outs:List Ex),j≤cn∧iv=.int .i64 j∧(∀ x∈outs,ExGd (n+3) x)∧Hold M (some T) w wr [.own 126 10 (.slice O j cap) j (Zv outs),.ro (fun w=>∀ x∈outs,ExIn (n+3) x w),.blk gq 273 #[.bool false,.slice O j cap,.string xnm,.slice none 0 0],.blk gi 177 #[.slice (some ⟨b9,o9,none⟩) (fn+1) c9,.slice (some ⟨bS,oS,none⟩) sn sc],.ro (Zg ⟨⟨some ⟨b9,o9,none⟩,fn+1,c9,fl2⟩,⟨some ⟨bS,oS,none⟩,sn,sc,sl⟩⟩),.ro (Zg ⟨⟨some ⟨b9,o9+fn * 4,none⟩,1,c9 - fn,fla⟩,SlP.nil⟩),.ro (SlR 4 (some ⟨bC,oC,none⟩) cn (Zd cl)),.cst gc 49 #[.string snm,.slice (some ⟨bC,oC,none⟩) cn cc],.blk gr 273 #[.bool false,.slice none 0 0,.string ⟨#[]⟩,.slice none 0 0],.ro Wds,.tp T]) (fun iv _=>cn - (intOf iv).toNat)
 case atStart=>exact ⟨0,0,none,[],by omega,rfl,fun x hx=>(nomatch hx),K3⟩
 case round=>
  clear K3
  obtain ⟨j,cap,O,outs,hj,rfl,hgd,H⟩:=hrel
  by_cases hlt:j<cn
  ·obtain ⟨⟨ynm,yty,ynn,ykey⟩,hc⟩:=YA HLN.out hlt
   obtain ⟨b2',o2',hcA,hb2,x0,x1,x2,x3⟩:=(RdC.Zy (H.ro 6 rfl).now).at_ hc
   obtain ⟨rfl,rfl⟩:bC=b2' ∧oC=o2' :=by injection hcA with hcA;injection hcA with e1 e2;exact ⟨e1,e2⟩
   clear hcA
   simp only at x0 x1 x2 x3
   clear hc
   have K2:=H.Za #[.string ynm,.int .i64 yty,.bool ynn,.bool ykey] 158
   have F2:=K2.facts
   simp only [zg] at F2
   clear H
   go_wp2_with fail
   refine (HE (Mut M _) T _ K2.Zb (K2.tp_ 11 rfl) (K2.get 11 rfl).2 ⟨⟨some ⟨b9,o9,none⟩,fn+1,c9,fl2⟩,⟨some ⟨bS,oS,none⟩,sn,sc,sl⟩⟩ yty depth ((K2.ro 5 rfl).less (Zk (i:=11) rfl)) ((K2.ro 10 rfl).less (Zk (i:=11) rfl)) hT HIN.out hd hd2).mono ?_
   rintro e w3 ⟨e1,rfl,he1,re1,t3,g3⟩
   have K3:=((Hold.Zf K2 11 rfl g3 t3).add re1).alloc #[.int .i64 e1.kind,.int .i64 e1.op,.bool e1.nt,.int .i64 e1.v.k,.int .i64 e1.v.i,.string e1.v.s,.string e1.tab,.string e1.nm,.slice e1.A e1.n e1.c,.slice e1.B e1.m e1.d] 126
   rw [show e1.val=.agg #[.int .i64 e1.kind,.int .i64 e1.op,.bool e1.nt,.int .i64 e1.v.k,.int .i64 e1.v.i,.string e1.v.s,.string e1.tab,.string e1.nm,.slice e1.A e1.n e1.c,.slice e1.B e1.m e1.d] from rfl]
   have HE1:=hid he1
   clear K2 F2 re1 t3 g3 x0 x1 x2 x3 he1
   have F3:=K3.facts
   simp only [zg] at F3
   go_upto_if 46 with (fail)
   obtain ⟨ge,hge⟩:∃ g,g=w3.heap.size:=⟨_,rfl⟩
   rw [←hge] at K3 F3 ⊢
   have HGE:=hid hge
   clear hge
   go_cut [] (fun wx=>∃ y:Ex,ExGd (n+3) y∧Hold M (some T) w wx [.blk ge 126 #[.int .i64 y.kind,.int .i64 y.op,.bool y.nt,.int .i64 y.v.k,.int .i64 y.v.i,.string y.v.s,.string y.tab,.string y.nm,.slice y.A y.n y.c,.slice y.B y.m y.d],.ro (ExIn (n+3) y),.own 126 10 (.slice O j cap) j (Zv outs),.ro (fun w=>∀ x∈outs,ExIn (n+3) x w),.blk gq 273 #[.bool false,.slice O j cap,.string xnm,.slice none 0 0],.blk gi 177 #[.slice (some ⟨b9,o9,none⟩) (fn+1) c9,.slice (some ⟨bS,oS,none⟩) sn sc],.ro (Zg ⟨⟨some ⟨b9,o9,none⟩,fn+1,c9,fl2⟩,⟨some ⟨bS,oS,none⟩,sn,sc,sl⟩⟩),.ro (Zg ⟨⟨some ⟨b9,o9+fn * 4,none⟩,1,c9 - fn,fla⟩,SlP.nil⟩),.ro (SlR 4 (some ⟨bC,oC,none⟩) cn (Zd cl)),.cst gc 49 #[.string snm,.slice (some ⟨bC,oC,none⟩) cn cc],.blk gr 273 #[.bool false,.slice none 0 0,.string ⟨#[]⟩,.slice none 0 0],.ro Wds,.tp T])
   case first=>
    cases ykey
    ·go_wp2_with fail
     go_meet
     exact ⟨e1,HE1.out.le (by omega),(K3.add ((K3.ro 1 rfl).imp (S' :=ExIn (n+3) e1) fun w2 h2=>h2.le (by omega))).pick [1,0,4,5,6,7,8,9,10,11,12,13,14] (by decide) rfl⟩
    ·have hs1:IntKind.i64.wrap (((fn+1:Nat):Int) - 1)=fn:=by rw [show ((fn+1:Nat):Int) - 1=fn by omega];exact IntWalk.i64_in _ (by omega)
     have hs2:IntKind.i64.wrap ((fn:Int)+1 - 1)=fn:=by rw [show (fn:Int)+1 - 1=fn by omega];exact IntWalk.i64_in _ (by omega)
     go_wp2_with fail
     refine (JL (Mut M _) T _ K3.Zb (K3.tp_ 13 rfl) (K3.get 13 rfl).2 ⟨⟨some ⟨b9,o9+fn * 4,none⟩,1,c9 - fn,fla⟩,SlP.nil⟩ 1 ((K3.ro 8 rfl).less (Zk (i:=13) rfl)) HLB.out).mono ?_
     rintro e w4 ⟨x,ok,rfl,hx,t4,g4⟩
     have HXK:=hid (show ok=true→ExGd 1 x from fun hok=>by
      rcases hx with ⟨h1,rfl⟩|⟨ct,cn',rfl⟩
      ·rw [hok] at h1;exact absurd h1 (by decide)
      ·exact Xu _ _)
     have K5:=((Hold.Zf K3 13 rfl g4 t4).add (S:=ExIn 1 x) (fun w2 _ _=>by
      rcases hx with ⟨_,rfl⟩|⟨ct,cn',rfl⟩
      ·exact J3 w2
      ·exact XA _ _ w2)).Za #[.int .i64 x.kind,.int .i64 x.op,.bool x.nt,.int .i64 x.v.k,.int .i64 x.v.i,.string x.v.s,.string x.tab,.string x.nm,.slice x.A x.n x.c,.slice x.B x.m x.d] 126
     rw [show x.val=.agg #[.int .i64 x.kind,.int .i64 x.op,.bool x.nt,.int .i64 x.v.k,.int .i64 x.v.i,.string x.v.s,.string x.tab,.string x.nm,.slice x.A x.n x.c,.slice x.B x.m x.d] from rfl]
     clear K3 F3 t4 g4 hx
     have F5:=K5.facts
     simp only [zg] at F5
     cases ok
     ·go_wp2_with fail
      go_meet
      exact ⟨e1,HE1.out.le (by omega),(K5.add ((K5.ro 3 rfl).imp (S' :=ExIn (n+3) e1) fun w2 h2=>h2.le (by omega))).pick [3,0,6,7,8,9,10,11,12,13,14,15,16] (by decide) rfl⟩
     ·obtain ⟨KM,hKM,K6⟩:=K5.name
      have H1:∀ wv:World,Hold M (some T) w wv KM→Blk wv w4.heap.size 126 #[.int .i64 x.kind,.int .i64 x.op,.bool x.nt,.int .i64 x.v.k,.int .i64 x.v.i,.string x.v.s,.string x.tab,.string x.nm,.slice x.A x.n x.c,.slice x.B x.m x.d]:=fun wv h=>by rw [hKM] at h;exact h.ZB 0 rfl
      have h4:KM[15]? =some (.tp T):=by rw [hKM];rfl
      have HH1:=hid H1
      have HH4:=hid h4
      have HKM:=hid hKM
      clear hKM H1 h4 K5
      go_wp2_with fail
      clear F5
      refine wp_region_any (by kernel_rfl) ?_
      refine Zp 5 83 (KM) (spL [(63,fun u _=>Yt 20 u),(65,Zh (Mut M KM) 2)]) (by kernel_rfl) (by kernel_rfl) (by kernel_rfl) rfl ?_ (K6.drew) ?_
      ·exact Ze (fun _ _ _ _ h=>h) (Ze Yj (Zo _))
      simp only [zd,Act.put,List.getElem_toArray,List.getElem_cons_zero,List.getElem_cons_succ,zl]
      refine' dv rfl rfl rfl (fun wv HC=>?_) ?_;rotate_left
      ·obtain q0:=(HH1.out _ HC).cell 0;obtain q1:=(HH1.out _ HC).cell 1;obtain q2:=(HH1.out _ HC).cell 2;obtain q3:=(HH1.out _ HC).cell 3;obtain q4:=(HH1.out _ HC).cell 4;obtain q5:=(HH1.out _ HC).cell 5;obtain q6:=(HH1.out _ HC).cell 6;obtain q7:=(HH1.out _ HC).cell 7;obtain q8:=(HH1.out _ HC).cell 8;obtain q9:=(HH1.out _ HC).cell 9;go_simp<;>rfl
      simp only [Act.put,zl]
      refine' dv rfl rfl rfl (fun wv HC=>?_) ?_;rotate_left
      · go_simp<;>rfl
      simp only [Act.put,zl]
      refine Yz 20 15 HH4.out 63 rfl rfl rfl rfl (fun wv=>?_) (fun r hr=>?_)
      ·go_simp<;>rfl
      have hwr:IntKind.i64.wrap (10+(r:Int))=10+r:=IntWalk.i64_in _ (by omega)
      simp only [Act.put,zl]
      refine' dv rfl rfl rfl (fun wv HC=>?_) ?_;rotate_left
      · go_simp<;>rfl
      simp only [Act.put,zl]
      refine Zm 65 (Zh (Mut M KM) 2) (f:=134) (args:=#[.int .i64 (10+r)]) rfl rfl rfl rfl (fun wv=>?_) (fun wv HC hrm hD=>?_) ?_
      ·go_simp<;>rfl
      ·refine (Wj (Mut M KM) wv HC.Zb (10+r) (by omega)).mono ?_
       rintro e w5 ⟨y,rfl,hy,ry,b5⟩
       exact ⟨_,rfl,⟨y,rfl,Xz hy (by omega) (by omega),ry⟩,HC.call b5,RM.below b5⟩
      rintro u wx HCx ⟨z,rfl,hz,rz⟩
      clear HCx hz rz
      simp only [Act.put,zl]
      refine Zj ?_
      rintro wx2 HX
      rintro _hrm HGW
      have hu:Zh (Mut M KM) 2 z.val wx2:=(Zl (d:=65) rfl).1 (HGW 4 _ rfl (by omega))
      clear HGW _hrm
      obtain ⟨z1,hz1,hok1,hro1⟩:=hu
      rw [HKM.out] at HX hro1
      rw [hz1]
      clear hz1 z HH1 HH4 HKM
      rw [show z1.val=.agg #[.int .i64 z1.kind,.int .i64 z1.op,.bool z1.nt,.int .i64 z1.v.k,.int .i64 z1.v.i,.string z1.v.s,.string z1.tab,.string z1.nm,.slice z1.A z1.n z1.c,.slice z1.B z1.m z1.d] from rfl]
      go_wp2_with fail
      refine (XJ (Mut M _) _ HX.Zb 9 x z1 2 ((HX.ro 1 rfl).imp fun w2 h2=>h2.le (by omega)) hro1).mono ?_
      rintro e w8 ⟨g8,rfl,ry,b8⟩
      have hyok:=hid (YU (d:=2) (kind:=5) (op:=9) (nt:=false) (g:=g8) (k:=2) (l:=[x,z1]) (Zw 5 (by decide)) (Zw 9 (by decide)) (by omega) (fun a ha=>by
       simp only [List.mem_cons,List.not_mem_nil,or_false] at ha
       rcases ha with rfl|rfl
       ·exact (HXK.out (by first|trivial|rfl)).le (by omega)
       ·exact hok1))
      have KB:=((HX.call b8).add ry)
      generalize opE 5 9 false g8 2 [x,z1]=y at *
      have FB:=KB.facts
      simp only [zg] at FB
      have KC:=((((((((((KB.store 3 rfl 0 (.int .i64 y.kind)).store 3 rfl 1 (.int .i64 y.op)).store 3 rfl 2 (.bool y.nt)).store 3 rfl 3 (.int .i64 y.v.k)).store 3 rfl 4 (.int .i64 y.v.i)).store 3 rfl 5 (.string y.v.s)).store 3 rfl 6 (.string y.tab)).store 3 rfl 7 (.string y.nm)).store 3 rfl 8 (.slice y.A y.n y.c)).store 3 rfl 9 (.slice y.B y.m y.d))
      simp only [zl] at KC
      rw [show y.val=.agg #[.int .i64 y.kind,.int .i64 y.op,.bool y.nt,.int .i64 y.v.k,.int .i64 y.v.i,.string y.v.s,.string y.tab,.string y.nm,.slice y.A y.n y.c,.slice y.B y.m y.d] from rfl]
      clear HX b8 ry hro1 hok1
      go_wp2_with fail
      go_meet
      exact ⟨y,hyok.out.le (by omega),(KC.add ((KC.ro 0 rfl).imp (S' :=ExIn (n+3) y) fun w2 h2=>h2.le (by omega))).pick [4,0,7,8,9,10,11,12,13,14,15,16,17] (by decide) rfl⟩
   case rest=>
    obtain ⟨y,hy,K4⟩:=hcut
    clear K3 F3 HE1
    have F4:=K4.facts
    simp only [zg] at F4
    go_wp2_with (at_builtin;go_must (refine ZH K4 2 rfl Tryz.VD #[.int .i64 y.kind,.int .i64 y.op,.bool y.nt,.int .i64 y.v.k,.int .i64 y.v.i,.string y.v.s,.string y.tab,.string y.nm,.slice y.A y.n y.c,.slice y.B y.m y.d] rfl (.tmp 68) (.tmp 70) rfl rfl _ (by first|rfl|simp) rfl rfl (by intro u hu;simp at hu;rcases hu with rfl|rfl|rfl|rfl|rfl|rfl|rfl|rfl|rfl|rfl<;>rfl) (by omega) (by omega) ?_);intro gA capA wA hcA hmA KA;rw [show Zv outs++(#[.int .i64 y.kind,.int .i64 y.op,.bool y.nt,.int .i64 y.v.k,.int .i64 y.v.i,.string y.v.s,.string y.tab,.string y.nm,.slice y.A y.n y.c,.slice y.B y.m y.d]:Array Value).toList=Zv (outs++[y]) by simp [Zv,Ex.cells]] at KA;simp only [zl] at KA;have FA:=KA.facts;simp only [zg] at FA)
    have KB:=KA.store 4 rfl 1 (.slice (some ⟨gA,0,none⟩) (j+1) capA)
    simp only [zl] at KB
    have KC:=KB.add (S:=fun w=>∀ x∈outs++[y],ExIn (n+3) x w) (((KB.ro 3 rfl).and (KB.ro 1 rfl)).imp fun w2 h2 x hx=>by
     rcases List.mem_append.1 hx with hx|hx
     ·exact h2.1 x hx
     ·simp only [List.mem_cons,List.not_mem_nil,or_false] at hx
      subst hx
      exact h2.2)
    go_roundw
    case rel=>
     refine ⟨j+1,capA,_,outs++[y],by omega,by go_num,fun x hx=>?_,KC.pick [3,0,5,6,7,8,9,10,11,12,13] (by decide) rfl⟩
     rcases List.mem_append.1 hx with hx|hx
     ·exact hgd x hx
     ·simp only [List.mem_cons,List.not_mem_nil,or_false] at hx
      subst hx
      exact hy
    case measure=>simp [intOf];omega
  ·obtain rfl:cn=j:=by omega
   have F:=H.facts
   simp only [zg] at F
   go_wp2_with fail
   refine (Z8 T 2 _ (H.tp_ 10 rfl) (by omega) (by omega)).mono ?_
   rintro e w7 ⟨b,rfl,t7,g7⟩
   have K4:=Hold.Zf H 10 rfl g7 t7
   clear H F g7 t7
   have F4:=K4.facts
   simp only [zg] at F4
   go_upto_if 75 with (fail)
   go_cut [] (fun wx=>∃ wh:SlP Ex,Wd (n+2) wh∧Hold M (some T) w wx [.own 126 10 (.slice O cn cap) cn (Zv outs),.ro (fun w=>∀ x∈outs,ExIn (n+3) x w),.blk gq 273 #[.bool false,.slice O cn cap,.string xnm,.slice wh.A wh.n wh.c],.ro (Yd (n+2) wh),.blk gr 273 #[.bool false,.slice none 0 0,.string ⟨#[]⟩,.slice none 0 0],.tp T])
   case first=>
    cases b
    ·go_wp2_with fail
     go_meet
     exact ⟨SlP.nil,VO,(K4.add (S:=Yd (n+2) SlP.nil) (fun w2 _ _=>SlP.Zx _ _ _ w2)).pick [1,2,3,0,9,11] (by decide) rfl⟩
    ·go_wp2_with fail
     refine (HE (Mut M _) T _ K4.Zb (K4.tp_ 10 rfl) (K4.get 10 rfl).2 ⟨⟨some ⟨b9,o9,none⟩,fn+1,c9,fl2⟩,⟨some ⟨bS,oS,none⟩,sn,sc,sl⟩⟩ 2 depth ((K4.ro 4 rfl).less (Zk (i:=10) rfl)) ((K4.ro 9 rfl).less (Zk (i:=10) rfl)) hT HIN.out hd hd2).mono ?_
     rintro e w6 ⟨x,rfl,hx,rx,tY,gY⟩
     have K7:=((Hold.Zf K4 10 rfl gY tY).add rx).Za #[.int .i64 x.kind,.int .i64 x.op,.bool x.nt,.int .i64 x.v.k,.int .i64 x.v.i,.string x.v.s,.string x.tab,.string x.nm,.slice x.A x.n x.c,.slice x.B x.m x.d] 126
     rw [show x.val=.agg #[.int .i64 x.kind,.int .i64 x.op,.bool x.nt,.int .i64 x.v.k,.int .i64 x.v.i,.string x.v.s,.string x.tab,.string x.nm,.slice x.A x.n x.c,.slice x.B x.m x.d] from rfl]
     clear F4 K4 rx tY gY
     have F7:=K7.facts
     simp only [zg] at F7
     have K8:=K7.store 4 rfl 3 (.slice (some ⟨w6.heap.size,0,none⟩) 1 1)
     simp only [zl] at K8
     clear K7
     go_wp2_with fail
     go_meet
     exact ⟨⟨some ⟨w6.heap.size,0,none⟩,1,1,[x]⟩,VV hx,(K8.add (XF (K8.get 0 rfl) rfl (K8.ro 1 rfl))).pick [3,4,5,0,11,13] (by decide) rfl⟩
   case rest=>
    obtain ⟨⟨hA,hN,hC,hl⟩,hwh,K5⟩:=hcut
    clear K4 F4
    simp only at K5
    have HWH:=hid hwh
    clear hwh
    have F5:=K5.facts
    simp only [zg] at F5
    have K7:=((((K5.store 4 rfl 0 (.bool false)).store 4 rfl 1 (.slice O cn cap)).store 4 rfl 2 (.string xnm)).store 4 rfl 3 (.slice hA hN hC))
    simp only [zl] at K7
    have F7:=K7.facts
    simp only [zg] at F7
    have hcap:=ZR (K5.get 0 rfl)
    have hlen:=(K5.get 0 rfl).1
    rw [Wu] at hlen
    have KZ:=K7.Zu 0 rfl
    simp only [List.set_cons_zero] at KZ
    have hR:Ro _ _ (QuIn (n+3) ⟨false,O,cn,cap,outs,xnm,hA,hN,hC,hl⟩):=((KZ.ro 0 rfl).and ((KZ.ro 1 rfl).and (KZ.ro 3 rfl))).imp fun w2 h2=>⟨⟨h2.1,h2.2.1⟩,h2.2.2.1,fun a ha=>(h2.2.2.2 a ha).le (by omega)⟩
    have HR:=hid (hR.less zm)
    have HT:=hid (And.intro (KZ.tp_ 5 rfl) KZ.grow)
    have HGD:=hid hgd
    clear K5 K7 KZ hR hgd
    go_wp2_with fail
    refine bodyPost_ret (v:=.agg #[.bool false,.slice O cn cap,.string xnm,.slice hA hN hC]) ?_ rfl ?_
    ·clear HT HR HGD HWH
     simp [results,Tryz.results204,go_sem,F7]
    ·exact ⟨⟨false,O,cn,cap,outs,xnm,hA,hN,hC,hl⟩,rfl,⟨⟨hcap.1,hcap.2.1,HWH.out.1.1,HWH.out.1.2⟩,⟨by show outs.length≤8;omega,HWH.out.2.1⟩,HGD.out,fun a ha=>(HWH.out.2.2 a ha).le (by omega)⟩,HR.out,HT.out.1,HT.out.2⟩
theorem Qo {w:World} {M:Nat→Prop} {size n:Nat} {A:Option Addr} {xs:List Value} {g:Nat} {t:TypeId} {cs:Array Value} (h:Ro w M (SlR size A n xs)) (hg:w.heap[g]? =some (.cells cs t (0,0))) (hno:n=0∨∀ o:Nat,¬∀ (j:Nat) (u:Value),xs[j]? =some u→cs[o+j]? =some u):Ro w (fun b=>M b∨b=g) (SlR size A n xs):=by
 have h0:Rd w w.heap.size size A n xs:=h.now
 rcases hno with hn|hno
 ·exact fun w2 _ _=>⟨h0.1,fun k=>absurd k (by omega)⟩
 ·rcases Nat.eq_zero_or_pos n with hn|hn
  ·exact fun w2 _ _=>⟨h0.1,fun k=>absurd k (by omega)⟩
  ·obtain ⟨b,o,hA,hb,hc⟩:=h0.2 hn
   have hbg:b≠g:=by
    rintro rfl
    refine hno o fun j u hu=>?_
    have:=hc j u hu
    rw [cell_of_row w b _ _ t (0,0) hg] at this
    exact this
   intro w2 h1 h2
   have hgl:g<w.heap.size:=(List.getElem?_eq_some_iff.1 (by simpa using hg:w.heap.toList[g]? =_)).1
   have hne:∀ x,x≠g→(w2.heap.setIfInBounds g (.cells cs t (0,0)))[x]? =w2.heap[x]? :=fun x hx=>by
    rw [Array.getElem?_setIfInBounds,if_neg (fun e=>hx e.symm)]
   have h3:Rd { w2 with heap:=w2.heap.setIfInBounds g (.cells cs t (0,0)) } _ size A n xs:=h { w2 with heap:=w2.heap.setIfInBounds g (.cells cs t (0,0)) } (by simpa using h1) (fun x hx hm=>by
    show (w2.heap.setIfInBounds g _)[x]? =_
    by_cases hxg:x=g
    ·subst hxg
     rw [Array.getElem?_setIfInBounds_self_of_lt (by omega),hg]
    ·exact (hne x hxg).trans (h2 x hx (fun k=>k.elim hm hxg)))
   obtain ⟨b',o',e,_,hc'⟩:=h3.2 hn
   obtain ⟨rfl,rfl⟩:b=b' ∧o=o' :=by rw [hA] at e;injection e with e;injection e with a1 a2;exact ⟨a1,a2⟩
   refine ⟨h3.1,fun _=>⟨b,o,hA,by omega,fun j u hu=>?_⟩⟩
   rw [←hc' j u hu]
   exact (World.cell?_of_block (w:=w2) (w' :={ w2 with heap:=w2.heap.setIfInBounds g (.cells cs t (0,0)) }) (a:=⟨b,o+j,none⟩) (hne b hbg)).symm
def XW:Array Value:=#[.string ⟨#[]⟩,.int .i64 0,.int .i64 0,.bool false,.int .i64 0,.int .i64 0,.string ⟨#[]⟩,.string ⟨#[]⟩,.string ⟨#[]⟩,.slice none 0 0,.slice none 0 0]
theorem Jd {l:List Ex} {n:Nat} (hl:l.length=n) (hk:∀ a∈l,1≤a.kind):n=0∨∀ o:Nat,¬∀ (j:Nat) (u:Value),(Zv l)[j]? =some u→XW[o+j]? =some u:=by
 cases l with
 | nil=>left;simpa using hl.symm
 | cons a l=>
  refine .inr fun o h=>?_
  have h0:=h 0 (.int .i64 a.kind) rfl
  have hk:=hk a (List.mem_cons_self ..)
  rcases o with _|_|_|_|_|_|_|_|_|_|_|o<;>simp [XW] at h0<;>omega
theorem Zee {l:List Qu} {n:Nat} (hl:l.length=n):n=0∨∀ o:Nat,¬∀ (j:Nat) (u:Value),(XK l)[j]? =some u→XW[o+j]? =some u:=by
 cases l with
 | nil=>left;simpa using hl.symm
 | cons a l=>
  refine .inr fun o h=>?_
  have h0:=h 0 (.bool a.star) rfl
  have h1:=h 1 (.slice a.A a.n a.c) rfl
  rcases o with _|_|_|_|_|_|_|_|_|_|_|o<;>simp [XW] at h0 h1
theorem ExGd.kind {d:Nat} {e:Ex} (h:ExGd d e):1≤e.kind:=by
 cases d with
 | zero=>exact h.elim
 | succ d=>exact h.2.1.1
theorem QS {w:World} {g:Nat} {t:TypeId} (hg:w.heap[g]? =some (.cells XW t (0,0))) {M:Nat→Prop}:∀ {d:Nat} {e:Ex},ExGd d e→Ro w M (ExIn d e)→Ro w (fun b=>M b∨b=g) (ExIn d e)
 | 0,_,h,_=>h.elim
 | d+1,e,⟨h1,h4,h2,h3⟩,hr=>by
  have a1:Ro w M (SlR 10 e.A e.n (Zv e.args)):=hr.imp fun w2 h=>h.1
  have a3:Ro w M (SlR 4 e.B e.m (XK e.sub)):=hr.imp fun w2 h=>h.2.2.1
  have l1:e.args.length=e.n:=by
   have:=(show Rd _ _ 10 e.A e.n (Zv e.args) from a1.now).1
   rw [Wu] at this
   omega
  have l3:e.sub.length=e.m:=by
   have:=(show Rd _ _ 4 e.B e.m (XK e.sub) from a3.now).1
   rw [QH] at this
   omega
  have b1:=Qo a1 hg (Jd l1 fun a ha=>(h2 a ha).kind)
  have b3:=Qo a3 hg (Zee l3)
  have b2:∀ a∈e.args,Ro w (fun b=>M b∨b=g) (ExIn d a):=fun a ha=>QS hg (h2 a ha) (hr.imp fun w2 h=>h.2.1 a ha)
  have b4:∀ q∈e.sub,Ro w (fun b=>M b∨b=g) (QuIn d q):=fun q hq=>by
   have c1:Ro w M (SlR 10 q.A q.n (Zv q.items)):=hr.imp fun w2 h=>(h.2.2.2 q hq).1.1
   have c2:Ro w M (SlR 10 q.B q.m (Zv q.wh)):=hr.imp fun w2 h=>(h.2.2.2 q hq).2.1
   have m1:q.items.length=q.n:=by
    have:=(show Rd _ _ 10 q.A q.n (Zv q.items) from c1.now).1
    rw [Wu] at this
    omega
   have m2:q.wh.length=q.m:=by
    have:=(show Rd _ _ 10 q.B q.m (Zv q.wh) from c2.now).1
    rw [Wu] at this
    omega
   have e1:=Qo c1 hg (Jd m1 fun a ha=>((h3 q hq).2.2.1 a ha).kind)
   have e2:=Qo c2 hg (Jd m2 fun a ha=>((h3 q hq).2.2.2 a ha).kind)
   have e3:∀ a∈q.items,Ro w (fun b=>M b∨b=g) (ExIn d a):=fun a ha=>QS hg ((h3 q hq).2.2.1 a ha) (hr.imp fun w2 h=>(h.2.2.2 q hq).1.2 a ha)
   have e4:∀ a∈q.wh,Ro w (fun b=>M b∨b=g) (ExIn d a):=fun a ha=>QS hg ((h3 q hq).2.2.2 a ha) (hr.imp fun w2 h=>(h.2.2.2 q hq).2.2 a ha)
   exact fun w2 g1 g2=>⟨⟨e1 w2 g1 g2,fun a ha=>e3 a ha w2 g1 g2⟩,e2 w2 g1 g2,fun a ha=>e4 a ha w2 g1 g2⟩
  exact fun w2 g1 g2=>⟨b1 w2 g1 g2,fun a ha=>b2 a ha w2 g1 g2,b3 w2 g1 g2,fun q hq=>b4 q hq w2 g1 g2⟩
end Go.Proofs.YtnbbllkbefagmaaGreatDoor

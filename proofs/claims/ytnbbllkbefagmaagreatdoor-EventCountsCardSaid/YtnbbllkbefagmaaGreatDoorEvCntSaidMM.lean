import Derived.Test.YtnbbllkbefagmaaGreatDoorEvCntSaidMG
import Derived.Test.YtnbbllkbefagmaaGreatDoorEvCntSaidML
import Derived.Test.YtnbbllkbefagmaaGreatDoorEvCntSaidMI
import Derived.Test.YtnbbllkbefagmaaGreatDoorEvCntSaidMC
import Derived.Test.YtnbbllkbefagmaaGreatDoorEvCntSaidMD
import Derived.Test.YtnbbllkbefagmaaGreatDoorEvCntSaidMF
import Derived.Test.YtnbbllkbefagmaaGreatDoorEvCntSaidMK
import Derived.Test.YtnbbllkbefagmaaGreatDoorEvCntSaidME
import Derived.WalkSpells
import Derived.Deep.QuietTactic
import Derived.BigQuiet
import Derived.WalkLawsBesides
import Derived.StillTailTactics
import Derived.Deep.LoopGhost
import Derived.IntWalk
import Derived.WideShapes
import Derived.Test.YtnbbllkbefagmaaGreatDoorEvCntSaidMJ
namespace Go.Proofs.YtnbbllkbefagmaaGreatDoor
open Go.RowKit
set_option linter.unusedVariables false
set_option linter.unusedSimpArgs false
def zT (t t' :Tb):Prop:=t'.nm=t.nm∧t'.cs=t.cs∧t.nx≤t'.nx∧∀ r∈t'.rs,(Zr t.rs r.1).isSome=true∨t.nx≤r.1
theorem Zc4 {rs:List Row} {id:Int} (h:id∈rs.map (·.1)):(Zr rs id).isSome=true:=by
 unfold Zr
 rw [Option.isSome_map,List.find?_isSome]
 obtain ⟨x,hx,rfl⟩:=List.mem_map.1 h
 exact ⟨x,hx,by simp⟩
theorem ApOk.later {nm:ByteArray} {cs:List Col} {nx:Int} {rs:List Row} {ins:List (List Vl)} {dels:List Int} {us:List Upd} {T:Tb} (h:ApOk nm cs nx rs ins dels us T):zT ⟨nm,cs,nx,rs⟩ T:=by
 rw [h.tb]
 refine ⟨rfl,rfl,by show nx≤nx+(ins.length:Int);omega,fun r hr=>?_⟩
 rcases List.mem_append.1 hr with hr|hr
 ·obtain ⟨y,hy,rfl⟩:=List.mem_map.1 hr
  have h1:Zr rs y.1|>.isSome:=Zc4 (List.mem_map_of_mem (f:=fun x:Row=>x.1) (List.mem_filter.1 hy).1)
  exact .inl h1
 ·right
  unfold YQ at hr
  obtain ⟨p,hp,rfl⟩:=List.mem_map.1 hr
  show nx≤nx+_
  omega
theorem ApOk.Zik {t:Tb} {ins:List (List Vl)} {dels:List Int} {us:List Upd} {T:Tb} (hv:VTab t) (h:ApOk t.nm t.cs t.nx t.rs ins dels us T):VTab T:=by
 have h2:=h.Zii
 have h3:T.nm=t.nm∧T.cs=t.cs:=by rw [h.tb];exact ⟨rfl,rfl⟩
 exact ⟨by rw [h3.1,h3.2];exact hv.sch,h2⟩
theorem Ro.Ziq {w:World} {Q:Nat→Prop} {size n:Nat} {A:Option Addr} {xs:List Value} (h:Ro w Q (SlR size A n xs)) {ga:Nat} {t:TypeId} (hg:w.heap[ga]? =some (.cells Xd t (0,0))) (hx:n=0∨∃ x y:Int,xs[0]? =some (.int .i64 x)∧xs[1]? =some (.int .i64 y)):Ro w (fun b=>b=ga∨Q b) (SlR size A n xs):=by
 rcases hx with rfl|⟨x0,y0,hx0,hy0⟩
 ·exact fun w2 _ _=>⟨(show Rd w w.heap.size size A 0 xs from h.now).1,fun h0=>absurd h0 (by omega)⟩
 ·intro w2 h1 h2
  have hgl:ga<w.heap.size:=Blk.lt (t:=t) (cs:=Xd) hg
  have hgs:(w2.heap.setIfInBounds ga (.cells Xd t (0,0)))[ga]? =some (.cells Xd t (0,0)):=by
   rw [Array.getElem?_setIfInBounds,if_pos rfl,if_pos (by omega)]
  have hne:∀ b,b≠ga→(w2.heap.setIfInBounds ga (.cells Xd t (0,0)))[b]? =w2.heap[b]? :=fun b hb=>by
   rw [Array.getElem?_setIfInBounds,if_neg (fun e=>hb e.symm)]
  have h3:Rd { w2 with heap:=w2.heap.setIfInBounds ga (.cells Xd t (0,0)) } _ size A n xs:=h { w2 with heap:=w2.heap.setIfInBounds ga (.cells Xd t (0,0)) } (by simpa using h1) (fun b hb hn=>by
   by_cases e:b=ga
   ·subst e;exact hgs.trans hg.symm
   ·exact (hne b e).trans (h2 b hb (fun hm=>hm.elim e hn)))
  refine ⟨h3.1,fun hn=>?_⟩
  obtain ⟨b,o,e,hb,hc⟩:=h3.2 hn
  have hbg:b≠ga:=by
   rintro rfl
   have h4:=hc 0 _ hx0
   have h5:=hc 1 _ hy0
   rw [cell_of_row _ _ _ _ _ _ hgs] at h4 h5
   rcases o with _|_|_|_|o<;>simp [Xd] at h4 h5
  refine ⟨b,o,e,by simpa using hb,fun j u hu=>?_⟩
  rw [←hc j u hu]
  exact (World.cell?_of_block (w:=w2) (w' :={ w2 with heap:=w2.heap.setIfInBounds ga (.cells Xd t (0,0)) }) (a:=⟨b,o+j,none⟩) (hne b hbg)).symm
theorem Zcx {w:World} {Q:Nat→Prop} {A:Option Addr} {n:Nat} {vs:List Vl} (h:Ro w Q (VlsIn A n vs)) {ga:Nat} {t:TypeId} (hg:w.heap[ga]? =some (.cells Xd t (0,0))):Ro w (fun b=>b=ga∨Q b) (VlsIn A n vs):=by
 have hl:=VlsIn.len h.now
 exact (show Ro w Q (SlR 3 A n (Z5 vs)) from h).Ziq hg (by
  cases vs with
  | nil=>left;simpa using hl.symm
  | cons v vs=>exact .inr ⟨v.k,v.i,rfl,rfl⟩)
theorem Zf9 {w:World} {Q:Nat→Prop} {B:Option Addr} {m:Nat} {l:List Rw} (h:Ro w Q (RwsIn B m l)) {ga:Nat} {t:TypeId} (hg:w.heap[ga]? =some (.cells Xd t (0,0))) (hx:∀ r∈l,r.id≠0):Ro w (fun b=>b=ga∨Q b) (RwsIn B m l):=by
 have hl:=h.now.len
 have h1:Ro w Q (SlR 2 B m (ZJ l)):=h.imp fun w2 h2=>h2.1
 have k1:=h1.Q3 hg (by
  cases l with
  | nil=>left;simpa using hl.symm
  | cons r l=>exact .inr ⟨.int .i64 r.id,rfl,ZcS (hx r (by simp))⟩)
 refine k1.and fun w2 g1 g2 r hr=>?_
 have h2:Ro w Q (VlsIn r.A r.n r.vs):=h.imp fun w2 h2=>h2.2 r hr
 exact Zcx h2 hg w2 g1 g2
theorem Zhq (M:Nat→Prop) (w:World) (hM:∀ b,M b→b<w.heap.size) (v c:Value) (t:Tb) (ins:List (List Vl)) (dels:List Int) (us:List Upd) (hT:Y2 w M v t) (hC:V4 M ins dels us c w) (hs:t.nm.size≤maxLen) (hcs:∀ x∈t.cs,x.name.size≤maxLen)
  (hr:t.rs.length≤1000000) (hrl:∀ r∈t.rs,r.2.length≤1000000) (hi:ins.length≤1000000) (hd:dels.length≤1000000) (hu:us.length≤1000000):
  Calls Tryz.prog 23 #[v,c] w fun e w' =>∃ u,e=.returned u∧QP M (YR t.nm t.cs t.nx t.rs ins dels us) u w' ∧Below w.heap.size w w' :=by
 obtain ⟨A,n,cc,B,m,d,l,rfl,h1,h2,h3,h4,h5,h6,h7,h8⟩:=hT
 obtain ⟨x,y,z,rfl,⟨I,ni,ci,pi,rfl,i1,i2,rfl,i4,i5⟩,⟨D,nd,cd,rfl,d1,d2,d3⟩,⟨U,nu,cu,pu,rfl,u1,u2,rfl,u4,u5⟩⟩:=hC
 have hml:=h6.now.len
 have hil:=i5.now.len
 have hul:=u5.now.len
 have hdl:dels.length=nd:=(show Rd w w.heap.size 1 D nd (Xl dels) from d3.now).1|> fun h=>by simpa [Xl] using h
 have hrn:∀ r∈l,r.n≤4398046511104:=fun r hr' =>by
  have h9:=hrl r.row (by rw [←h8];exact List.mem_map_of_mem hr')
  have h10:r.vs.length=r.n:=VlsIn.len (h6.now.2 r hr')
  have h11:r.row.2=r.vs:=rfl
  rw [h11] at h9
  omega
 rw [←h8] at hr
 simp only [List.length_map] at hr hi hu
 have:=Zf0 M w hM t.nm A n cc t.cs t.nx B m d l I ni ci pi D nd cd dels U nu cu pu h5 h6 i5 d3 u5 (by omega) (by omega) h7 hrn (fun p hp=>Nat.le_trans (u4 p hp).oc (u4 p hp).oc2) hs hcs (by omega) (by omega) (by omega) i4 u4
 rw [h8] at this
 refine this.mono ?_
 rintro e w' ⟨v,rfl,hv,b⟩
 exact ⟨_,rfl,⟨v,rfl,hv⟩,b⟩
end Go.Proofs.YtnbbllkbefagmaaGreatDoor
namespace Go.Proofs.YtnbbllkbefagmaaGreatDoor
open Go.RowKit
set_option linter.unusedVariables false
set_option linter.unusedSimpArgs false
set_option linter.unusedSectionVars false


structure Ue where
 nm:ByteArray
 nx:Int
 I:Option Addr
 ni:Nat
 ci:Nat
 D:Option Addr
 nd:Nat
 cd:Nat
 U:Option Addr
 nu:Nat
 cu:Nat
 li:List Int
 ld:List Rw
 lu:List Rw
theorem VL (l:List Te) (x:Te):ZK (l++[x])=ZK l++x.cells:=by simp [ZK]
def WV (l:List Te) (w:World):Prop:=∀ x∈l,YV x w
theorem Jw {M:Nat→Prop} {w:World} {rs:List Te} {r:Te} (h:Ro w M (WV rs)) (k:Ro w M (YV r)):Ro w M (WV (rs++[r])):=fun w2 h1 h2 x hx=>by
 rcases List.mem_append.1 hx with hx|hx
 ·exact h w2 h1 h2 x hx
 ·simp at hx;subst hx;exact k w2 h1 h2
theorem Zf3 (w:World) (M:Nat→Prop):Ro w M (WV []):=fun _ _ _ r hr=>nomatch hr
def Zdz (w:World) (M:Nat→Prop) (K:Nat) (rs:List Row) (e:Ending) (w' :World):Prop:=∃ (A:Option Addr) (n c:Nat) (l:List Rw),e=.returned (.slice A n c)∧n≤c∧c≤9223372036854775807∧l.map Rw.row=rs∧(∀ r∈l,r.ok∧r.n≤K)∧Ro w' M (RwsIn A n l)∧Below w.heap.size w w'
theorem ZfM {l outs:List Rw} {j K:Nat} {x:Rw} {A:Option Addr} {n c:Nat} (h:outs.map Rw.row=(l.take j).map Rw.row∧∀ r∈outs,r.ok∧r.n≤K) (hx:l[j]? =some x) (hk:x.ok∧x.n≤K) (h1:n≤c) (h2:c≤9223372036854775807) (h3:n≤K):
  (outs++[(⟨x.id,A,n,c,x.vs⟩:Rw)]).map Rw.row=(l.take (j+1)).map Rw.row∧∀ r∈outs++[(⟨x.id,A,n,c,x.vs⟩:Rw)],r.ok∧r.n≤K:=by
 constructor
 ·rw [List.map_append,h.1,List.take_add_one,hx,List.map_append];rfl
 ·intro r hr
  rcases List.mem_append.1 hr with hr|hr
  ·exact h.2 r hr
  ·simp at hr;subst hr;exact ⟨⟨hk.1.id,h1,h2,hk.1.vs⟩,h3⟩

theorem Tryz.WF:ElemT Tryz.prog 29 67 4 72 (.agg #[.string ⟨#[]⟩,.slice none 0 0,.int .i64 0,.slice none 0 0]):=⟨Tryz.underlying29,by kernel_rfl,rfl,by omega⟩
def Zgh (w:World) (M:Nat→Prop) (n:Nat) (l:List Te) (e:Ending) (w' :World):Prop:=∃ (C:Option Addr) (c:Nat),e=.returned (.slice C n c)∧Ro w' M (TesIn C n l)∧Below w.heap.size w w'
set_option maxHeartbeats 8000000 in
set_option maxRecDepth 100000 in
theorem Zgt (M:Nat→Prop) (w:World) (hM:∀ b,M b→b<w.heap.size) (A:Option Addr) (n c:Nat) (l:List Te) (B:Option Addr) (m d:Nat) (k:List Te) (hD:Ro w M (TesIn A n l)) (hE:Ro w M (TesIn B m k)) (hn:n≤1000) (hm:m≤1000):Calls Tryz.prog 79 #[.slice A n c,.slice B m d] w fun e w' =>Zgh w M (n+m) (l++k) e w' :=by
 have K0:=(((Hold.start M w hM).add (hE.less (by simp [Mut]))).add (hD.less (by simp [Mut,Hp.foot]))).nil 67 4
 have HA:=hid (show SlR 4 A n (ZK l) _ from (K0.ro 1 rfl).now.1)
 clear hD hE
 go_enter Tryz.func79,Tryz.ntmps79
 go_wp2_with (at_builtin;first|(refine ZW K0 0 rfl Tryz.WF HA.out rfl (.const (.slice none 0 0)) (.tmp 5) rfl rfl rfl (Jo l) (by omega) (by omega) ?_;intro C1 cap1 wA hcA hmA KB;simp only [Nat.zero_add] at hcA ⊢;simp only [Nat.zero_add,List.nil_append,List.set_cons_zero,List.set_cons_succ] at KB;(have HB:=hid (show SlR 4 B m (ZK k) _ from (KB.ro 2 rfl).now.1)))|(refine ZW KB 0 rfl Tryz.WF HB.out rfl (.tmp 6) (.tmp 7) rfl rfl rfl (Jo k) (by omega) (by omega) ?_;intro C2 cap2 wB hcB hmB KE;simp only [zl] at KE))
 have KZ:=KE.Zu 0 rfl
 simp only [zl] at KZ
 have hR:Ro _ _ (TesIn C2 (n+m) (l++k)):=((KZ.ro 0 rfl).and ((KZ.ro 1 rfl).and (KZ.ro 2 rfl))).imp fun w2 h2=>⟨by
   have h3:=h2.1
   rw [show ZK l++ZK k=ZK (l++k) by simp [ZK]] at h3
   exact h3,fun x hx=>by
   rcases List.mem_append.1 hx with hx|hx
   ·exact h2.2.1.2 x hx
   ·exact h2.2.2.2 x hx⟩
 have HR:=hid (hR.less zm)
 have HZ:=hid KZ.below
 clear KZ KE hR KB K0
 go_ret
 exact ⟨_,_,rfl,HR.out,HZ.out⟩
def zb (cn:Nat) (u:Value) (w:World):Prop:=∃ k:Int,u=.int .i64 k∧(0≤k→k<cn)
set_option maxHeartbeats 16000000 in
set_option maxRecDepth 100000 in
theorem Zg1 (d:Nat) (a:Ac) (s:Sm) (fA:Option Addr) (fn fc:Nat) (fl:List Fr) (tA:Option Addr) (tn tc:Nat) (tl:List Te) (w:World) (hx:Ro w Zc (AcIn d a)) (hg:AcGd d a) (h5:a.kind=5→a.sets.n=1) (hs:Ro w Zc (ZQ s)) (hf:Ro w Zc (FrsIn ⟨fA,fn,fc,fl⟩)) (ht:Ro w Zc (TesIn tA tn tl)) (hsn:s.cols.n≤1000) (hfb:FB (d+1) fn fl) (htb:TBd tn tl):Calls Tryz.prog 104 #[.agg #[.int .i64 a.kind,.string a.tab,.slice a.rows.A a.rows.n a.rows.c,.slice a.qs.A a.qs.n a.qs.c,.slice a.sets.A a.sets.n a.sets.c,.slice a.wh.A a.wh.n a.wh.c,.string a.text],.agg #[.string s.nm,.slice s.cols.A s.cols.n s.cols.c],.slice fA fn fc,.slice tA tn tc] w fun e w' =>UI w e w' :=by
 obtain ⟨kind,tab,⟨rA,rn,rc,rl⟩,⟨qA,qn,qc,ql⟩,⟨sA,sn,sc,sl⟩,⟨hA,hn,hc,hl⟩,text⟩:=a
 obtain ⟨snm,⟨cA,cn,cc,cl⟩⟩:=s
 have hcn:cn≤1000:=hsn
 have HSL:=hid (show sl.length=sn from SlP.In.len (s:=⟨sA,sn,sc,sl⟩) (k:=11) (cel:=Se.cells) (P:=YC d) hx.now.2.2.1 (by omega) (fun _=>rfl))
 have HG:=hid hg
 have H5:=hid h5
 have HFB:=hid hfb
 have HTB:=hid htb
 have HCL:=hid (show cl.length=cn from (RdC.Zy (show SlR 4 cA cn (Zd cl) _ from hs.now.1)).len)
 have K0:=((((((Hold.start Zc w zn).add (ht.less (by simp [Mut]))).add (hf.less (by simp [Mut,Hp.foot]))).add ((hs.imp (S' :=SlR 4 cA cn (Zd cl)) fun w2 h2=>h2.1).less (by simp [Mut,Hp.foot]))).add (hx.less (by simp [Mut,Hp.foot]))).Za #[.int .i64 kind,.string tab,.slice rA rn rc,.slice qA qn qc,.slice sA sn sc,.slice hA hn hc,.string text] 97).Za #[.string snm,.slice cA cn cc] 49
 rw [World.size_alloc] at K0
 obtain ⟨gx,hgx⟩:∃ g,g=w.heap.size:=⟨_,rfl⟩
 rw [←hgx] at K0
 obtain ⟨gs,hgs⟩:∃ g,g=gx+1:=⟨_,rfl⟩
 rw [←hgs] at K0
 clear hx hg hs hf ht hfb htb h5
 go_enter Tryz.func104,Tryz.ntmps104
 go_upto_region 1 with fail
 rw [←hgx]
 try rw [←hgs]
 have HGX:=hid (And.intro hgx hgs)
 clear hgx hgs
 generalize World.alloc _ _=w1 at K0 ⊢
 have F0:=K0.facts
 simp only [zg] at F0
 obtain ⟨d4,hd4⟩:∃ z:Bool,(kind==4)=z:=⟨_,rfl⟩
 cases d4
 ·obtain ⟨d5,hd5⟩:∃ z:Bool,(kind==5)=z:=⟨_,rfl⟩
  cases d5
  ·go_wp2_with fail
   clear F0 hd4 hd5
   refine (ZgN d ⟨kind,tab,⟨rA,rn,rc,rl⟩,⟨qA,qn,qc,ql⟩,⟨sA,sn,sc,sl⟩,⟨hA,hn,hc,hl⟩,text⟩ fA fn fc fl tA tn tc tl _ ((K0.ro 2 rfl).less zn) HG.out ((K0.ro 4 rfl).less zn) ((K0.ro 5 rfl).less zn) HFB.out HTB.out).mono ?_
   rintro e w5 ⟨cd,rfl,b5⟩
   have K3:=K0.call b5
   clear K0 b5
   go_wp2_with fail
   go_ret
   exact ⟨_,rfl,K3.below⟩
  ·have hk5:kind=5:=by simpa using hd5
   obtain rfl:sn=1:=H5.out hk5
   have HK5:=hid hk5
   clear hk5
   obtain ⟨⟨zc,y⟩,hz⟩:=Yo HSL.out (show 0<1 by omega)
   obtain ⟨qb,qo,rfl,-,-,-⟩:=SlP.In.at_ (s:=⟨sA,1,sc,sl⟩) (k:=11) (cel:=Se.cells) (P:=YC d) (K0.ro 2 rfl).now.2.2.1 (by omega) (fun _=>rfl) hz
   have HAT:=hid (show ∀ wv:World,AcIn d ⟨kind,tab,⟨rA,rn,rc,rl⟩,⟨qA,qn,qc,ql⟩,⟨some ⟨qb,qo,none⟩,1,sc,sl⟩,⟨hA,hn,hc,hl⟩,text⟩ wv→∀ j u,j<11→(Se.cells ⟨zc,y⟩)[j]? =some u→wv.cell? ⟨qb,qo+j,none⟩=some u from fun wv h j u hj hu=>by
    obtain ⟨b',o',e',-,hc',-⟩:=SlP.In.at_ (s:=⟨some ⟨qb,qo,none⟩,1,sc,sl⟩) (k:=11) (cel:=Se.cells) (P:=YC d) h.2.2.1 (by omega) (fun _=>rfl) hz
    obtain ⟨rfl,rfl⟩:=Vr (show some (⟨qb,qo,none⟩:Addr)=some ⟨b',o',none⟩ from e')
    simpa using hc' j u hj hu)
   have hm:=List.mem_of_getElem? hz
   clear hz
   obtain ⟨KM,hKM,K6⟩:=K0.name
   have H1:∀ wv:World,Hold Zc none w wv KM→Blk wv gs 49 #[.string snm,.slice cA cn cc]:=fun wv h=>by rw [hKM] at h;exact h.ZB 0 rfl
   have H2:∀ wv:World,Hold Zc none w wv KM→Blk wv gx 97 #[.int .i64 kind,.string tab,.slice rA rn rc,.slice qA qn qc,.slice (some ⟨qb,qo,none⟩) 1 sc,.slice hA hn hc,.string text]:=fun wv h=>by rw [hKM] at h;exact h.ZB 1 rfl
   have H3:∀ wv:World,Hold Zc none w wv KM→wv.cell? ⟨qb,qo,none⟩=some (.string zc):=fun wv h=>by rw [hKM] at h;exact HAT.out wv (h.ro 2 rfl).now 0 _ (by omega) rfl
   have H4:∀ wv:World,Hold Zc none w wv KM→Ro wv (Mut Zc KM) (SlR 4 cA cn (Zd cl)):=fun wv h=>by rw [hKM] at h ⊢;exact h.ro 3 rfl
   have HH1:=hid H1
   have HH2:=hid H2
   have HH3:=hid H3
   have HH4:=hid H4
   have HKM:=hid hKM
   clear hKM H1 H2 H3 H4 K0
   go_wp2_with fail
   clear F0
   refine wp_region_any (by kernel_rfl) ?_
   refine Zp 7 54 (KM) (spL [(24,zb cn)]) (by kernel_rfl) (by kernel_rfl) (by kernel_rfl) rfl ?_ (K6.drew) ?_
   ·exact Ze (fun _ _ _ _ h=>h) (Zo _)
   simp only [zd,Act.put,List.getElem_toArray,List.getElem_cons_zero,List.getElem_cons_succ,zl]
   refine' dv rfl rfl rfl (fun wv HC=>?_) ?_;rotate_left
   ·obtain q0:=(HH1.out _ HC).cell 0;obtain q1:=(HH1.out _ HC).cell 1;go_simp<;>rfl
   simp only [Act.put,zl]
   refine' dv rfl rfl rfl (fun wv HC=>?_) ?_;rotate_left
   · go_simp<;>rfl
   simp only [Act.put,zl]
   refine' dv rfl rfl rfl (fun wv HC=>?_) ?_;rotate_left
   ·obtain q4:=(HH2.out _ HC).cell 4;go_simp<;>rfl
   iterate 2
    simp only [Act.put,zl]
    refine' dv rfl rfl rfl (fun wv HC=>?_) ?_;rotate_left
    · go_simp<;>rfl
   simp only [Act.put,zl]
   refine' dv rfl rfl rfl (fun wv HC=>?_) ?_;rotate_left
   ·have q0:=HH3.out _ HC;go_simp<;>rfl
   simp only [Act.put,zl]
   refine Zm 24 (zb cn) (f:=53) (args:=#[.agg #[.string snm,.slice cA cn cc],.string zc]) rfl rfl rfl rfl (fun wv=>?_) (fun wv HC hrm hD=>?_) ?_
   ·go_simp<;>rfl
   ·refine (XD (Mut Zc KM) wv HC.Zb snm cA cn cc cl zc (HH4.out _ HC) (by omega)).mono ?_
    rintro e w5 ⟨rfl,b5⟩
    exact ⟨_,rfl,⟨_,rfl,fun h=>by have:=GI (named zc) cl h;rw [HCL.out] at this;exact this⟩,HC.call b5,RM.below b5⟩
   rintro u wx HCx ⟨kf,rfl,hkf⟩
   clear HCx
   simp only [Act.put,zl]
   refine Zj ?_
   rintro wx3 HX
   rintro _hrm HGW
   clear HGW _hrm
   rw [HKM.out] at HX
   clear HH1 HH2 HH3 HH4 HKM K6
   have HKF:=hid hkf
   clear hkf
   have F4:=HX.facts
   simp only [zg] at F4
   by_cases hneg:kf<0
   ·go_wp2_with fail
    go_ret
    exact ⟨_,rfl,HX.below⟩
   ·obtain ⟨kk,rfl⟩:∃ k:Nat,kf=(k:Int):=⟨kf.toNat,by omega⟩
    have hkk:kk<cn:=by have:=HKF.out (by omega);omega
    have hneg' :¬((kk:Int)<0):=by omega
    have hki:(kk:Int)<(cn:Int):=by omega
    have x1:=HAT.out _ (HX.ro 2 rfl).now 1 _ (by omega) rfl
    have x2:=HAT.out _ (HX.ro 2 rfl).now 2 _ (by omega) rfl
    have x3:=HAT.out _ (HX.ro 2 rfl).now 3 _ (by omega) rfl
    have x4:=HAT.out _ (HX.ro 2 rfl).now 4 _ (by omega) rfl
    have x5:=HAT.out _ (HX.ro 2 rfl).now 5 _ (by omega) rfl
    have x6:=HAT.out _ (HX.ro 2 rfl).now 6 _ (by omega) rfl
    have x7:=HAT.out _ (HX.ro 2 rfl).now 7 _ (by omega) rfl
    have x8:=HAT.out _ (HX.ro 2 rfl).now 8 _ (by omega) rfl
    have x9:=HAT.out _ (HX.ro 2 rfl).now 9 _ (by omega) rfl
    have x10:=HAT.out _ (HX.ro 2 rfl).now 10 _ (by omega) rfl
    clear hneg
    go_wp2_with fail
    clear F4 x1 x2 x3 x4 x5 x6 x7 x8 x9 x10
    refine (Vt d y fA fn fc fl tA tn tc tl _ (((HX.ro 2 rfl).imp fun w2 h2=>h2.2.2.1.2 _ hm).less zn) (HG.out.s.2.2 _ hm) ((HX.ro 4 rfl).less zn) ((HX.ro 5 rfl).less zn) ⟨by have:=HFB.out.1;omega,HFB.out.2⟩ HTB.out).mono ?_
    rintro e w8 ⟨t,cd,rfl,b8⟩
    have K5:=HX.call b8
    clear HX b8
    have F5:=K5.facts
    simp only [zg] at F5
    obtain ⟨⟨xnm,xty,xnn,xkey⟩,hcx⟩:=YA HCL.out hkk
    obtain ⟨b2,o2,rfl,hb2,-,y1,-,-⟩:=(RdC.Zy (K5.ro 3 rfl).now).at_ hcx
    simp only at y1
    clear hcx
    obtain ⟨z,hz⟩:∃ z:Bool,(cd !=0)=z:=⟨_,rfl⟩
    cases z
    ·go_wp2_with fail
     refine (Ql _ _ _).mono ?_
     rintro e w9 ⟨r,rfl,b9⟩
     have K6:=K5.call b9
     clear K5 F5 b9 y1
     cases r
     ·go_wp2_with fail
      go_ret
      exact ⟨_,rfl,K6.below⟩
     ·go_wp2_with fail
      go_ret
      exact ⟨_,rfl,K6.below⟩
    ·go_wp2_with fail
     go_ret
     exact ⟨_,rfl,K5.below⟩
 ·go_wp2_with fail
  go_ret
  exact ⟨_,rfl,K0.below⟩
set_option maxHeartbeats 16000000 in
set_option maxRecDepth 100000 in
theorem Ze3 (d:Nat) (hd:d≤100) (t:Tg) (A:Option Addr) (n c:Nat) (l:List Te) (w:World) (hx:Ro w Zc (Yg d t)) (hg:TgGd d t) (ht:Ro w Zc (TesIn A n l)) (hn:n≤900) (hc:∀ x∈l,1≤x.n∧x.n≤1000):Calls Tryz.prog 44 #[t.val,.slice A n c] w fun e w' =>UI w e w' :=by
 obtain ⟨tn,tt,tb,te,⟨oA,on,oc,ol⟩,tch,⟨pA,pn,pc,pl⟩,⟨qA,qn,qc,ql⟩,⟨rA,rn,rc,rl⟩,⟨kA,kn,kc,kl⟩,⟨aA,an,ac,al⟩⟩:=t
 have HOL:=hid (show ol.length=on from SlP.In.len (s:=⟨oA,on,oc,ol⟩) (k:=1) (cel:=ZG) (P:=fun _ _=>True) hx.now.1 (by omega) (fun _=>rfl))
 have hon:on≤8:=by have h2:ol.length≤8:=hg.o.2.1;have:=HOL.out;omega
 have HRL:=hid (show rl.length=rn from SlP.In.len (s:=⟨rA,rn,rc,rl⟩) (k:=4) (cel:=Rk.cells) (P:=fun _ _=>True) hx.now.2.2.2.1 (by omega) (fun _=>rfl))
 have hrn:rn≤1:=by have h2:rl.length≤1:=hg.r.2.1;have:=HRL.out;omega
 have HAL:=hid (show al.length=an from SlP.In.len (s:=⟨aA,an,ac,al⟩) (k:=7) (cel:=Ac.cells) (P:=AcIn d) hx.now.2.2.2.2.2 (by omega) (fun _=>rfl))
 have han:an≤4:=by have h2:al.length≤4:=hg.a.2.1;have:=HAL.out;omega
 have HG:=hid hg
 have HC:=hid hc
 have HD:=hid hd
 have HTB:=hid (show n≤1000∧∀ x∈l,x.n≤1000 from ⟨by omega,fun x hx=>(hc x hx).2⟩)
 have K0:=(((Hold.start Zc w zn).add (ht.less (by simp [Mut]))).add (hx.less (by simp [Mut,Hp.foot]))).Za #[.string tn,.string tt,.bool tb,.int .i64 te,.slice oA on oc,.bool tch,.slice pA pn pc,.slice qA qn qc,.slice rA rn rc,.slice kA kn kc,.slice aA an ac] 40
 obtain ⟨gx,hgx⟩:∃ g,g=w.heap.size:=⟨_,rfl⟩
 rw [←hgx] at K0
 clear hx hg ht hc
 simp only [Tg.val]
 go_enter Tryz.func44,Tryz.ntmps44
 go_upto_region 1 with fail
 rw [←hgx]
 have HGX:=hid hgx
 clear hgx
 generalize World.alloc _ _=w1 at K0 ⊢
 have F0:=K0.facts
 simp only [zg] at F0
 go_wp2_with fail
 clear F0
 refine (ZdV d ⟨tn,tt,tb,te,⟨oA,on,oc,ol⟩,tch,⟨pA,pn,pc,pl⟩,⟨qA,qn,qc,ql⟩,⟨rA,rn,rc,rl⟩,⟨kA,kn,kc,kl⟩,⟨aA,an,ac,al⟩⟩ _ ((K0.ro 1 rfl).less zn) HG.out).mono ?_
 rintro e w2 ⟨vb,rfl,b2,hv5⟩
 have HV5:=hid hv5
 have K1:=K0.call b2
 clear K0 b2 hv5
 have F1:=K1.facts
 simp only [zg] at F1
 cases vb
 ·go_wp2_with fail
  go_ret
  exact ⟨_,rfl,K1.below⟩
 ·go_wp2_with fail
  clear F1
  refine (UL (Mut Zc _) _ K1.Zb A n c l tt (K1.ro 2 rfl) HTB.out.1 HTB.out.2).mono ?_
  rintro e w3 ⟨⟨snm,⟨cA,cn,cc,cl⟩⟩,ok,rfl,hcn,hok,rs,b3⟩
  have hcn:cn≤1000:=hcn
  have HOK:=hid (show ok=true→1≤cn from fun h=>by
   obtain ⟨x,hx,hxe⟩:=hok h
   have h1:=(HC.out x hx).1
   have h2:x.n=cn:=hxe
   omega)
  have KS:=hid (((K1.call b3).add rs).Za #[.string snm,.slice cA cn cc] 49)
  obtain ⟨gs,hgs⟩:∃ g,g=w3.heap.size:=⟨_,rfl⟩
  have K2:=KS.out
  rw [←hgs] at K2
  clear K1 b3 rs hok KS
  have F2:=K2.facts
  simp only [zg] at F2
  rw [hgs] at F2
  cases ok
  ·have HB:=hid K2.below
   go_wp2_with fail
   go_ret
   exact ⟨_,rfl,HB.out⟩
  ·have h1cn:1≤cn:=HOK.out rfl
   go_upto_region 4 with fail
   rw [←hgs]
   have HGS:=hid hgs
   clear hgs F2
   generalize World.alloc _ _=w4 at K2 ⊢
   have F2:=K2.facts
   simp only [zg] at F2
   go_wp2_with fail
   clear F2
   go_loopw [35] (fun iv wr=>∃ j:Nat,j≤on∧iv=.int .i64 j∧Hold Zc none w wr [.cst gs 49 #[.string snm,.slice cA cn cc],.ro (ZQ ⟨snm,⟨cA,cn,cc,cl⟩⟩),.cst gx 40 #[.string tn,.string tt,.bool tb,.int .i64 te,.slice oA on oc,.bool tch,.slice pA pn pc,.slice qA qn qc,.slice rA rn rc,.slice kA kn kc,.slice aA an ac],.ro (Yg d ⟨tn,tt,tb,te,⟨oA,on,oc,ol⟩,tch,⟨pA,pn,pc,pl⟩,⟨qA,qn,qc,ql⟩,⟨rA,rn,rc,rl⟩,⟨kA,kn,kc,kl⟩,⟨aA,an,ac,al⟩⟩),.ro (TesIn A n l)]) (fun iv _=>on - (intOf iv).toNat)
   case atStart=>exact ⟨0,by omega,rfl,K2⟩
   case round=>
    clear K2
    obtain ⟨j,hj,rfl,H⟩:=hrel
    by_cases hlt:j<on
    ·obtain ⟨nmx,hr⟩:=Yo HOL.out hlt
     obtain ⟨b,o,rfl,-,hc9,-⟩:=SlP.In.at_ (s:=⟨oA,on,oc,ol⟩) (k:=1) (cel:=ZG) (P:=fun _ _=>True) (H.ro 3 rfl).now.1 (by omega) (fun _=>rfl) hr
     have q0:=hc9 0 _ (by omega) rfl
     simp only [Nat.add_zero,Nat.mul_one] at q0
     clear hc9 hr
     have F3:=H.facts
     simp only [zg] at F3
     go_wp2_with fail
     clear F3
     refine (XD (Mut Zc _) _ H.Zb snm cA cn cc cl nmx ((H.ro 1 rfl).imp fun w2 h2=>h2.1) (by omega)).mono ?_
     rintro e w7 ⟨rfl,b7⟩
     have K4:=H.call b7
     clear H b7 q0
     obtain ⟨kf,hkf⟩:∃ z:Int,Zi (named nmx) cl=z:=⟨_,rfl⟩
     rw [hkf]
     clear hkf
     by_cases hneg:kf<0
     ·go_wp2_with fail
      go_ret
      exact ⟨_,rfl,K4.below⟩
     ·go_wp2_with fail
      go_roundw
      case rel=>exact ⟨j+1,by omega,by go_num,K4⟩
      case measure=>simp [intOf];omega
    ·obtain rfl:on=j:=by omega
     have F3:=H.facts
     simp only [zg] at F3
     go_wp2_with fail
     clear F3
     go_loopw [47] (fun iv wr=>∃ j:Nat,j≤rn∧iv=.int .i64 j∧Hold Zc none w wr [.cst gs 49 #[.string snm,.slice cA cn cc],.ro (ZQ ⟨snm,⟨cA,cn,cc,cl⟩⟩),.cst gx 40 #[.string tn,.string tt,.bool tb,.int .i64 te,.slice oA on oc,.bool tch,.slice pA pn pc,.slice qA qn qc,.slice rA rn rc,.slice kA kn kc,.slice aA an ac],.ro (Yg d ⟨tn,tt,tb,te,⟨oA,on,oc,ol⟩,tch,⟨pA,pn,pc,pl⟩,⟨qA,qn,qc,ql⟩,⟨rA,rn,rc,rl⟩,⟨kA,kn,kc,kl⟩,⟨aA,an,ac,al⟩⟩),.ro (TesIn A n l)]) (fun iv _=>rn - (intOf iv).toNat)
     case atStart=>exact ⟨0,by omega,rfl,H⟩
     case round=>
      clear H
      obtain ⟨j,hj,rfl,H⟩:=hrel
      by_cases hlt:j<rn
      ·obtain ⟨⟨xt,xc,xlo,xhi⟩,hr⟩:=Yo HRL.out hlt
       obtain ⟨b,o,rfl,-,hc9,-⟩:=SlP.In.at_ (s:=⟨rA,rn,rc,rl⟩) (k:=4) (cel:=Rk.cells) (P:=fun _ _=>True) (H.ro 3 rfl).now.2.2.2.1 (by omega) (fun _=>rfl) hr
       have q0:=hc9 0 _ (by omega) rfl
       have q1:=hc9 1 _ (by omega) rfl
       have q2:=hc9 2 _ (by omega) rfl
       have q3:=hc9 3 _ (by omega) rfl
       simp only [Nat.add_zero] at q0 q1 q2 q3
       clear hc9 hr
       have K3:=H.Za #[.string xt,.string xc,.int .i64 xlo,.int .i64 xhi] 85
       have F3:=K3.facts
       simp only [zg] at F3
       clear H
       go_wp2_with fail
       clear F3 q0 q1 q2 q3
       refine (UL (Mut Zc _) _ K3.Zb A n c l xt (K3.ro 5 rfl) HTB.out.1 HTB.out.2).mono ?_
       rintro e w5 ⟨⟨unm,⟨uA,un,uc,ul⟩⟩,ok,rfl,hun,-,ru,b5⟩
       have hun:un≤1000:=hun
       have HUL:=hid (show ul.length=un from (RdC.Zy (show SlR 4 uA un (Zd ul) _ from ru.now.1)).len)
       have K4:=(((K3.call b5).add (ru.imp (S' :=SlR 4 uA un (Zd ul)) fun w2 h2=>h2.1)).Za #[.string unm,.slice uA un uc] 49)
       clear K3 b5 ru
       have F4:=K4.facts
       simp only [zg] at F4
       go_wp2_with fail
       clear F4
       refine (XD (Mut Zc _) _ K4.Zb unm uA un uc ul xc (K4.ro 1 rfl) (by omega)).mono ?_
       rintro e w7 ⟨rfl,b7⟩
       have K5:=K4.call b7
       clear K4 b7
       have F5:=K5.facts
       simp only [zg] at F5
       have hfl:=GI (named xc) ul
       rw [HUL.out] at hfl
       obtain ⟨kf,hkf⟩:∃ z:Int,Zi (named xc) ul=z:=⟨_,rfl⟩
       rw [hkf] at hfl ⊢
       clear hkf
       cases ok
       ·clear hfl
        go_wp2_with fail
        go_ret
        exact ⟨_,rfl,K5.below⟩
       ·by_cases hneg:kf<0
        ·clear hfl
         go_wp2_with fail
         go_ret
         exact ⟨_,rfl,K5.below⟩
        ·obtain ⟨kk,rfl⟩:∃ k:Nat,kf=(k:Int):=⟨kf.toNat,by omega⟩
         have hkk:kk<un:=by have:=hfl (by omega);omega
         have hneg' :¬((kk:Int)<0):=by omega
         have hki:(kk:Int)<(un:Int):=by omega
         obtain ⟨⟨xnm,xty,xnn,xkey⟩,hcx⟩:=YA HUL.out hkk
         obtain ⟨b2,o2,rfl,hb2,-,y1,-,-⟩:=(RdC.Zy (K5.ro 1 rfl).now).at_ hcx
         simp only at y1
         clear hcx hfl hneg
         obtain ⟨z,hz⟩:∃ z:Bool,(xty !=1)=z:=⟨_,rfl⟩
         cases z
         ·go_wp2_with fail
          go_roundw
          case rel=>exact ⟨j+1,by omega,by go_num,K5.pick [3,4,5,6,7] (by decide) rfl⟩
          case measure=>simp [intOf];omega
         ·go_wp2_with fail
          go_ret
          exact ⟨_,rfl,K5.below⟩
      ·obtain rfl:rn=j:=by omega
       have F3:=H.facts
       simp only [zg] at F3
       go_wp2_with fail
       clear F3
       refine (ZaE (Mut Zc _) _ H.Zb ⟨tn,tt,tb,te,⟨oA,on,oc,ol⟩,tch,⟨pA,pn,pc,pl⟩,⟨qA,qn,qc,ql⟩,⟨rA,rn,rc,rl⟩,⟨kA,kn,kc,kl⟩,⟨aA,an,ac,al⟩⟩ ⟨snm,⟨cA,cn,cc,cl⟩⟩ (H.ro 1 rfl) hcn).mono ?_
       rintro e w5 ⟨⟨fA,fn,fc,fl⟩,rfl,hfc,hf2,hfl,rf,b5⟩
       have hf2:fn≤2:=hf2
       have HFL:=hid (show ∀ f∈fl,f.cols.n=cn from hfl)
       have K4:=(H.call b5).add rf
       clear H b5 rf hfc hfl
       have F4:=K4.facts
       simp only [zg] at F4
       try simp only [SlP.v]
       go_wp2_with fail
       clear F4
       refine (zk (Mut Zc _) _ K4.Zb ⟨tn,tt,tb,te,⟨oA,on,oc,ol⟩,tch,⟨pA,pn,pc,pl⟩,⟨qA,qn,qc,ql⟩,⟨rA,rn,rc,rl⟩,⟨kA,kn,kc,kl⟩,⟨aA,an,ac,al⟩⟩ ⟨snm,⟨cA,cn,cc,cl⟩⟩ (K4.ro 2 rfl) ⟨h1cn,hcn⟩).mono ?_
       rintro e w6 ⟨xA,xc,xl,rfl,hx2,hxc,hxc2,hxo,rx,b6⟩
       obtain ⟨xn,hxn⟩:∃ k,k=xl.length:=⟨_,rfl⟩
       rw [←hxn] at rx hx2 hxc ⊢
       have HXN:=hid hxn
       have HXO:=hid hxo
       have K5:=(K4.call b6).add rx
       clear K4 b6 rx hxn hxo
       have F5:=K5.facts
       simp only [zg] at F5
       go_wp2_with fail
       clear F5
       refine (Zgt (Mut Zc _) _ K5.Zb A n c l xA xn xc xl (K5.ro 6 rfl) (K5.ro 0 rfl) (by omega) (by omega)).mono ?_
       rintro e w7 ⟨TA,tcap,rfl,rt,b7⟩
       obtain ⟨m,hm⟩:∃ k,k=n+xn:=⟨_,rfl⟩
       have hmi:((n:Int)+(xn:Int))=(m:Int):=by omega
       rw [←hm] at rt ⊢
       have HM:=hid hm
       have K6:Hold Zc none w _ [.ro (TesIn TA m (l++xl)),.ro (FrsIn ⟨fA,fn,fc,fl⟩),.cst gs 49 #[.string snm,.slice cA cn cc],.ro (ZQ ⟨snm,⟨cA,cn,cc,cl⟩⟩),.cst gx 40 #[.string tn,.string tt,.bool tb,.int .i64 te,.slice oA on oc,.bool tch,.slice pA pn pc,.slice qA qn qc,.slice rA rn rc,.slice kA kn kc,.slice aA an ac],.ro (Yg d ⟨tn,tt,tb,te,⟨oA,on,oc,ol⟩,tch,⟨pA,pn,pc,pl⟩,⟨qA,qn,qc,ql⟩,⟨rA,rn,rc,rl⟩,⟨kA,kn,kc,kl⟩,⟨aA,an,ac,al⟩⟩)]:=((K5.call b7).add rt).pick [0,2,3,4,5,6] (by decide) rfl
       clear K5 b7 rt hm hmi
       have HTA:=hid (show TBd m (l++xl) from ⟨by have:=HM.out;omega,fun x hx=>by
        rcases List.mem_append.1 hx with hx|hx
        ·exact (HC.out x hx).2
        ·have h1:x.n=cn:=(HXO.out x hx).n
         omega⟩)
       have HFB:=hid (show FB (d+1) fn fl from ⟨by have:=HD.out;omega,fun f hf=>by rw [HFL.out f hf];exact hcn⟩)
       have F6:=K6.facts
       simp only [zg] at F6
       go_wp2_with fail
       clear F6
       refine (JY d kA kn kc kl fA fn fc fl TA m tcap (l++xl) _ (((K6.ro 5 rfl).imp fun w2 h2=>(show ExsIn d kA kn kl w2 from h2.2.2.2.2.1)).less zn) HG.out.h.2.2 ((K6.ro 1 rfl).less zn) ((K6.ro 0 rfl).less zn) ⟨by have:=HFB.out.1;omega,HFB.out.2⟩ HTA.out).mono ?_
       rintro e w8 ⟨cd,rfl,b8⟩
       have K7:=K6.call b8
       clear K6 b8
       have F7:=K7.facts
       simp only [zg] at F7
       obtain ⟨z,hz⟩:∃ z:Bool,(cd !=0)=z:=⟨_,rfl⟩
       cases z
       ·go_wp2_with fail
        clear F7
        go_loopw [96] (fun iv wr=>∃ j:Nat,j≤an∧iv=.int .i64 j∧Hold Zc none w wr [.ro (TesIn TA m (l++xl)),.ro (FrsIn ⟨fA,fn,fc,fl⟩),.cst gs 49 #[.string snm,.slice cA cn cc],.ro (ZQ ⟨snm,⟨cA,cn,cc,cl⟩⟩),.cst gx 40 #[.string tn,.string tt,.bool tb,.int .i64 te,.slice oA on oc,.bool tch,.slice pA pn pc,.slice qA qn qc,.slice rA rn rc,.slice kA kn kc,.slice aA an ac],.ro (Yg d ⟨tn,tt,tb,te,⟨oA,on,oc,ol⟩,tch,⟨pA,pn,pc,pl⟩,⟨qA,qn,qc,ql⟩,⟨rA,rn,rc,rl⟩,⟨kA,kn,kc,kl⟩,⟨aA,an,ac,al⟩⟩)]) (fun iv _=>an - (intOf iv).toNat)
        case atStart=>exact ⟨0,by omega,rfl,K7⟩
        case round=>
         clear K7
         obtain ⟨j,hj,rfl,H⟩:=hrel
         by_cases hlt:j<an
         ·obtain ⟨x,hr⟩:=Yo HAL.out hlt
          obtain ⟨b,o,rfl,-,hc9,-⟩:=SlP.In.at_ (s:=⟨aA,an,ac,al⟩) (k:=7) (cel:=Ac.cells) (P:=AcIn d) (H.ro 5 rfl).now.2.2.2.2.2 (by omega) (fun _=>rfl) hr
          have q0:=hc9 0 _ (by omega) rfl
          have q1:=hc9 1 _ (by omega) rfl
          have q2:=hc9 2 _ (by omega) rfl
          have q3:=hc9 3 _ (by omega) rfl
          have q4:=hc9 4 _ (by omega) rfl
          have q5:=hc9 5 _ (by omega) rfl
          have q6:=hc9 6 _ (by omega) rfl
          simp only [Nat.add_zero,SlP.v] at q0 q1 q2 q3 q4 q5 q6
          have hmx:=List.mem_of_getElem? hr
          clear hc9 hr
          have K3:=(H.Za #[.int .i64 x.kind,.string x.tab,.slice x.rows.A x.rows.n x.rows.c,.slice x.qs.A x.qs.n x.qs.c,.slice x.sets.A x.sets.n x.sets.c,.slice x.wh.A x.wh.n x.wh.c,.string x.text] 97)
          have F3:=K3.facts
          simp only [zg] at F3
          clear H
          go_wp2_with fail
          clear F3 q0 q1 q2 q3 q4 q5 q6
          refine (Zg1 d x ⟨snm,⟨cA,cn,cc,cl⟩⟩ fA fn fc fl TA m tcap (l++xl) _ (((K3.ro 6 rfl).imp fun w2 h2=>h2.2.2.2.2.2.2 x hmx).less zn) (HG.out.a.2.2 x hmx) (HV5.out (by first|rfl|trivial) x hmx) ((K3.ro 4 rfl).less zn) ((K3.ro 2 rfl).less zn) ((K3.ro 1 rfl).less zn) hcn HFB.out HTA.out).mono ?_
          rintro e w9 ⟨cd2,rfl,b9⟩
          have K4:=K3.call b9
          clear K3 b9
          obtain ⟨z,hz⟩:∃ z:Bool,(cd2 !=0)=z:=⟨_,rfl⟩
          cases z
          ·go_wp2_with fail
           go_roundw
           case rel=>exact ⟨j+1,by omega,by go_num,K4.drop (List.sublist_cons_self _ _)⟩
           case measure=>simp [intOf];omega
          ·go_wp2_with fail
           go_ret
           exact ⟨_,rfl,K4.below⟩
         ·obtain rfl:an=j:=by omega
          go_wp2_with fail
          go_ret
          exact ⟨_,rfl,H.below⟩
       ·go_wp2_with fail
        go_ret
        exact ⟨_,rfl,K7.below⟩
def nm3 (k:Nat):ByteArray:=if k=0 then YE else if k=1 then nmT else nmU
def cs3 (k:Nat):List Col:=if k=0 then Yr else if k=1 then YP else YN
structure Sto3 (N k:Nat) (outs:List Te):Prop where
 len:outs.length=k
 ok:∀ x∈outs,x.ok∧VTab x.tb∧x.tb.rs.length≤N
 at_:∀ (j:Nat) (x:Te),outs[j]? =some x→x.tb.nm=nm3 j∧x.tb.cs=cs3 j
theorem Sto3.zero (N:Nat):Sto3 N 0 []:=⟨rfl,fun x hx=>(nomatch hx),fun j x h=>by simp at h⟩
theorem Sto3.next {N k:Nat} {outs:List Te} {y:Te} (h:Sto3 N k outs) (h1:y.ok) (h2:VTab y.tb) (h3:y.tb.rs.length≤N) (h4:y.tb.nm=nm3 k) (h5:y.tb.cs=cs3 k):Sto3 N (k+1) (outs++[y]):=by
 refine ⟨by simp [h.len],fun x hx=>?_,fun j x hx=>?_⟩
 ·rcases List.mem_append.1 hx with hx|hx
  ·exact h.ok x hx
  ·simp at hx;subst hx;exact ⟨h1,h2,h3⟩
 ·rw [List.getElem?_append] at hx
  split at hx
  ·exact h.at_ j x hx
  ·rename_i hj
   have hk:=h.len
   obtain rfl:j=k:=by
    have:=(List.getElem?_eq_some_iff.1 hx).1
    simp at this;omega
   rw [hk] at hx
   simp at hx
   subst hx
   exact ⟨h4,h5⟩
def Zg6 (w:World) (T:Nat) (M:Nat→Prop) (N:Nat) (e:Ending) (w' :World):Prop:=
 ∃ (A:Option Addr) (c:Nat) (l:List Te),e=.returned (.slice A 3 c)∧3≤c∧c≤9223372036854775807∧Sto3 N 3 l∧Ro w' M (TesIn A 3 l)∧Tp w' T∧w.grownBy w' (some T)
set_option maxHeartbeats 8000000 in
set_option maxRecDepth 100000 in
theorem ZeY (M:Nat→Prop) (T:Nat) (w:World) (hM:∀ b,M b→b<w.heap.size) (ht:Tp w T) (hMT:∀ b,M b→T≤b) (N:Nat) (hN:N≤50) (hW:Ro w (Mut M [.tp T]) Wds) (hw:1<T):
  Calls Tryz.prog 22 #[.pointer (some ⟨T,0,none⟩),.int .i64 N] w fun e w' =>Zg6 w T M N e w' :=by
 have K0:=(Hold.Y5 M w T hM ht hMT).add hW
 clear hW
 go_enter Tryz.func22,Tryz.ntmps22
 go_wp2_with fail
 refine (Jm _ _ K0.Zb).mono ?_
 rintro e w1 ⟨g,g0,g1,g2,nl,nt,nu,hnl,hnt,hnu,rfl,b1,r0,r1,r2,r3⟩
 have HNL:=hid (And.intro hnl (And.intro hnt hnu))
 have K1:=((((((K0.call b1).add r3).add (r2.less (by simp [Mut,Hp.foot]))).add (r1.less (by simp [Mut,Hp.foot]))).add (r0.less (by simp [Mut,Hp.foot]))).add (Zf3 _ _)).nil 67 4
 clear K0 b1 r0 r1 r2 r3 hnl hnt hnu
 go_wp2_with fail
 go_loopw [5,10] (fun ov iv wr=>∃ (k cap:Nat) (O:Option Addr) (outs:List Te),k≤3∧iv=.int .i64 k∧ov=.slice O k cap∧Hid (Sto3 N k outs)∧Hold M (some T) w wr [.own 67 4 (.slice O k cap) k (ZK outs),.ro (WV outs),.ro (fun w=>w.heap[g]? =some (.cells #[.string nl,.slice (some ⟨g0,0,none⟩) 2 2,.string nt,.slice (some ⟨g1,0,none⟩) 4 4,.string nu,.slice (some ⟨g2,0,none⟩) 3 3] 49 (0,0))),.ro (ColsIn (some ⟨g0,0,none⟩) 2 Yr),.ro (ColsIn (some ⟨g1,0,none⟩) 4 YP),.ro (ColsIn (some ⟨g2,0,none⟩) 3 YN),.ro Wds,.tp T]) (fun _ iv _=>3 - (intOf iv).toNat)
 case atStart=>exact ⟨0,0,none,[],by omega,rfl,rfl,hid (Sto3.zero N),K1⟩
 case round=>
  clear K1
  obtain ⟨k,cap,O,outs,hk,rfl,rfl,HS,H⟩:=hrel
  by_cases hlt:k<3
  ·have hd:decide ((k:Int)<3)=true:=by simp;omega
   have hblk:=(H.ro 2 rfl).now
   have hgl:=Blk.lt hblk
   obtain rfl|rfl|rfl:k=0∨k=1∨k=2:=by omega
   ·have c0:=cell_of_row _ _ 0 _ _ _ hblk
    have c1:=cell_of_row _ _ 1 _ _ _ hblk
    clear hblk
    have K1:=H.Za #[.string nl,.slice (some ⟨g0,0,none⟩) 2 2] 49
    have F1:=K1.facts
    simp only [zg] at F1
    clear H
    go_wp2_with fail
    refine (JH (Mut M _) T _ K1.Zb (K1.tp_ 8 rfl) (K1.get 8 rfl).2 nl (some ⟨g0,0,none⟩) 2 2 Yr N ((K1.ro 4 rfl).less (YS (i:=8) rfl)) (by omega) (by omega) (by rw [HNL.out.1];exact VI (by decide+kernel)) ((K1.ro 7 rfl).less (YS (i:=8) rfl)) hw hN).mono ?_
    rintro e w5 ⟨v,t,rfl,hT,hv,hn1,hc1,hr1,t5,g5⟩
    obtain ⟨y,rfl,hy,hyo,ry⟩:=UR hT
    have hyv:y.val=.agg #[.string y.nm,.slice y.A y.n y.c,.int .i64 y.nx,.slice y.B y.m y.d]:=rfl
    rw [hyv]
    clear hyv
    have K2:=(Hold.Zf K1 8 rfl g5 t5).add ry
    have HY:=hid (show y.ok∧VTab y.tb∧y.tb.rs.length≤N∧y.tb.nm=nl∧y.tb.cs=Yr from ⟨hyo,by rw [hy];exact hv,by rw [hy];exact hr1,by rw [hy];exact hn1,by rw [hy];exact hc1⟩)
    clear K1 F1 hT hv hn1 hc1 hr1 t5 g5 hy hyo ry
    go_wp2_with (at_builtin;go_must (refine ZH K2 2 rfl Tryz.WF #[.string y.nm,.slice y.A y.n y.c,.int .i64 y.nx,.slice y.B y.m y.d] rfl (.tmp 14) (.tmp 19) rfl rfl _ (by first|rfl|simp) rfl rfl (by intro u hu;simp at hu;rcases hu with rfl|rfl|rfl|rfl<;>rfl) (by omega) (by omega) ?_);intro g9 cap9 w9 hc9 hm9 KB;simp only [zl] at KB)
    have e9:ZK outs++(#[.string y.nm,.slice y.A y.n y.c,.int .i64 y.nx,.slice y.B y.m y.d]).toList=ZK (outs++[y]):=(VL outs y).symm
    rw [e9] at KB
    have KC:=(KB.Yy 3 rfl (Jw (r:=y) (KB.ro 3 rfl) (KB.ro 0 rfl))).drop (List.Sublist.cons _ (List.sublist_cons_self _ _))
    have HS2:=hid (HS.out.next HY.out.1 HY.out.2.1 HY.out.2.2.1 (show y.tb.nm=nm3 0 from HY.out.2.2.2.1.trans HNL.out.1) (show y.tb.cs=cs3 0 from HY.out.2.2.2.2))
    go_roundw
    case rel=>exact ⟨1,cap9,_,_,by omega,by go_num,by first|rfl|trivial,HS2,KC⟩
    case measure=>simp [intOf]
   ·have c0:=cell_of_row _ _ 2 _ _ _ hblk
    have c1:=cell_of_row _ _ 3 _ _ _ hblk
    clear hblk
    have K1:=H.Za #[.string nt,.slice (some ⟨g1,0,none⟩) 4 4] 49
    have F1:=K1.facts
    simp only [zg] at F1
    clear H
    go_wp2_with fail
    refine (JH (Mut M _) T _ K1.Zb (K1.tp_ 8 rfl) (K1.get 8 rfl).2 nt (some ⟨g1,0,none⟩) 4 4 YP N ((K1.ro 5 rfl).less (YS (i:=8) rfl)) (by omega) (by omega) (by rw [HNL.out.2.1];exact VI (by decide+kernel)) ((K1.ro 7 rfl).less (YS (i:=8) rfl)) hw hN).mono ?_
    rintro e w5 ⟨v,t,rfl,hT,hv,hn1,hc1,hr1,t5,g5⟩
    obtain ⟨y,rfl,hy,hyo,ry⟩:=UR hT
    have hyv:y.val=.agg #[.string y.nm,.slice y.A y.n y.c,.int .i64 y.nx,.slice y.B y.m y.d]:=rfl
    rw [hyv]
    clear hyv
    have K2:=(Hold.Zf K1 8 rfl g5 t5).add ry
    have HY:=hid (show y.ok∧VTab y.tb∧y.tb.rs.length≤N∧y.tb.nm=nt∧y.tb.cs=YP from ⟨hyo,by rw [hy];exact hv,by rw [hy];exact hr1,by rw [hy];exact hn1,by rw [hy];exact hc1⟩)
    clear K1 F1 hT hv hn1 hc1 hr1 t5 g5 hy hyo ry
    go_wp2_with (at_builtin;go_must (refine ZH K2 2 rfl Tryz.WF #[.string y.nm,.slice y.A y.n y.c,.int .i64 y.nx,.slice y.B y.m y.d] rfl (.tmp 14) (.tmp 19) rfl rfl _ (by first|rfl|simp) rfl rfl (by intro u hu;simp at hu;rcases hu with rfl|rfl|rfl|rfl<;>rfl) (by omega) (by omega) ?_);intro g9 cap9 w9 hc9 hm9 KB;simp only [zl] at KB)
    have e9:ZK outs++(#[.string y.nm,.slice y.A y.n y.c,.int .i64 y.nx,.slice y.B y.m y.d]).toList=ZK (outs++[y]):=(VL outs y).symm
    rw [e9] at KB
    have KC:=(KB.Yy 3 rfl (Jw (r:=y) (KB.ro 3 rfl) (KB.ro 0 rfl))).drop (List.Sublist.cons _ (List.sublist_cons_self _ _))
    have HS2:=hid (HS.out.next HY.out.1 HY.out.2.1 HY.out.2.2.1 (show y.tb.nm=nm3 1 from HY.out.2.2.2.1.trans HNL.out.2.1) (show y.tb.cs=cs3 1 from HY.out.2.2.2.2))
    go_roundw
    case rel=>exact ⟨2,cap9,_,_,by omega,by go_num,by first|rfl|trivial,HS2,KC⟩
    case measure=>simp [intOf]
   ·have c0:=cell_of_row _ _ 4 _ _ _ hblk
    have c1:=cell_of_row _ _ 5 _ _ _ hblk
    clear hblk
    have K1:=H.Za #[.string nu,.slice (some ⟨g2,0,none⟩) 3 3] 49
    have F1:=K1.facts
    simp only [zg] at F1
    clear H
    go_wp2_with fail
    refine (JH (Mut M _) T _ K1.Zb (K1.tp_ 8 rfl) (K1.get 8 rfl).2 nu (some ⟨g2,0,none⟩) 3 3 YN N ((K1.ro 6 rfl).less (YS (i:=8) rfl)) (by omega) (by omega) (by rw [HNL.out.2.2];exact VI (by decide+kernel)) ((K1.ro 7 rfl).less (YS (i:=8) rfl)) hw hN).mono ?_
    rintro e w5 ⟨v,t,rfl,hT,hv,hn1,hc1,hr1,t5,g5⟩
    obtain ⟨y,rfl,hy,hyo,ry⟩:=UR hT
    have hyv:y.val=.agg #[.string y.nm,.slice y.A y.n y.c,.int .i64 y.nx,.slice y.B y.m y.d]:=rfl
    rw [hyv]
    clear hyv
    have K2:=(Hold.Zf K1 8 rfl g5 t5).add ry
    have HY:=hid (show y.ok∧VTab y.tb∧y.tb.rs.length≤N∧y.tb.nm=nu∧y.tb.cs=YN from ⟨hyo,by rw [hy];exact hv,by rw [hy];exact hr1,by rw [hy];exact hn1,by rw [hy];exact hc1⟩)
    clear K1 F1 hT hv hn1 hc1 hr1 t5 g5 hy hyo ry
    go_wp2_with (at_builtin;go_must (refine ZH K2 2 rfl Tryz.WF #[.string y.nm,.slice y.A y.n y.c,.int .i64 y.nx,.slice y.B y.m y.d] rfl (.tmp 14) (.tmp 19) rfl rfl _ (by first|rfl|simp) rfl rfl (by intro u hu;simp at hu;rcases hu with rfl|rfl|rfl|rfl<;>rfl) (by omega) (by omega) ?_);intro g9 cap9 w9 hc9 hm9 KB;simp only [zl] at KB)
    have e9:ZK outs++(#[.string y.nm,.slice y.A y.n y.c,.int .i64 y.nx,.slice y.B y.m y.d]).toList=ZK (outs++[y]):=(VL outs y).symm
    rw [e9] at KB
    have KC:=(KB.Yy 3 rfl (Jw (r:=y) (KB.ro 3 rfl) (KB.ro 0 rfl))).drop (List.Sublist.cons _ (List.sublist_cons_self _ _))
    have HS2:=hid (HS.out.next HY.out.1 HY.out.2.1 HY.out.2.2.1 (show y.tb.nm=nm3 2 from HY.out.2.2.2.1.trans HNL.out.2.2) (show y.tb.cs=cs3 2 from HY.out.2.2.2.2))
    go_roundw
    case rel=>exact ⟨3,cap9,_,_,by omega,by go_num,by first|rfl|trivial,HS2,KC⟩
    case measure=>simp [intOf]
  ·obtain rfl:k=3:=by omega
   have hd:decide (((3:Nat):Int)<3)=false:=by decide
   have hcap:=ZR (H.get 0 rfl)
   have KS:=H.Zu 0 rfl
   simp only [List.set_cons_zero] at KS
   have r1:=(KS.ZP 0 rfl).and (KS.ZP 1 rfl)
   have ht9:=KS.tp_ 7 rfl
   have HG:=hid KS.grow
   clear H
   go_wp2_with fail
   go_ret
   exact ⟨O,cap,outs,rfl,hcap.1,hcap.2.1,HS.out,r1,ht9,HG.out⟩
theorem Gj:SchOk YE Yr:=VI (by decide+kernel)
theorem JI:SchOk nmT YP:=VI (by decide+kernel)
theorem Gv:SchOk nmU YN:=VI (by decide+kernel)
def UK (l:List Te) (w:World):Prop:=∀ x∈l,YV x w
def Zgy (w:World) (M:Nat→Prop) (e:Ending) (w' :World):Prop:=∃ (A:Option Addr) (c:Nat) (l:List Te),e=.returned (.slice A 3 c)∧(∀ x∈l,1≤x.n∧x.n≤4)∧Ro w' M (TesIn A 3 l)∧Below w.heap.size w w'
set_option maxHeartbeats 8000000 in
set_option maxRecDepth 100000 in
theorem Zf6 (M:Nat→Prop) (w:World) (hM:∀ b,M b→b<w.heap.size):Calls Tryz.prog 45 #[.slice none 0 0] w fun e w' =>Zgy w M e w' :=by
 have K0:=Hold.start M w hM
 go_enter Tryz.func45,Tryz.ntmps45
 go_wp2_with fail
 refine (Jm _ _ K0.Zb).mono ?_
 rintro e w1 ⟨g,g0,g1,g2,nl,nt,nu,hnl,hnt,hnu,rfl,b1,r0,r1,r2,r3⟩
 have HNL:=hid (And.intro hnl (And.intro hnt hnu))
 have K1:=((((((K0.call b1).add r3).add (r2.less (by simp [Mut,Hp.foot]))).add (r1.less (by simp [Mut,Hp.foot]))).add (r0.less (by simp [Mut,Hp.foot]))).add (S:=UK []) (fun w2 _ _ x hx=>(nomatch hx))).nil 67 4
 clear K0 b1 r0 r1 r2 r3 hnl hnt hnu
 go_wp2_with fail
 go_loopw [3,14] (fun ov iv wr=>∃ (k cap:Nat) (O:Option Addr) (outs:List Te),k≤3∧outs.length=k∧iv=.int .i64 k∧ov=.slice O k cap∧Hid (∀ x∈outs,1≤x.n∧x.n≤4)∧Hold M none w wr [.own 67 4 (.slice O k cap) k (ZK outs),.ro (UK outs),.ro (fun w=>w.heap[g]? =some (.cells #[.string nl,.slice (some ⟨g0,0,none⟩) 2 2,.string nt,.slice (some ⟨g1,0,none⟩) 4 4,.string nu,.slice (some ⟨g2,0,none⟩) 3 3] 49 (0,0))),.ro (ColsIn (some ⟨g0,0,none⟩) 2 Yr),.ro (ColsIn (some ⟨g1,0,none⟩) 4 YP),.ro (ColsIn (some ⟨g2,0,none⟩) 3 YN)]) (fun _ iv _=>3 - (intOf iv).toNat)
 case atStart=>exact ⟨0,0,none,[],by omega,rfl,rfl,rfl,hid (fun x hx=>(nomatch hx)),K1⟩
 case round=>
  clear K1
  obtain ⟨k,cap,O,outs,hk,hol,rfl,rfl,HS,H⟩:=hrel
  by_cases hlt:k<3
  ·have hd:decide ((k:Int)<3)=true:=by simp;omega
   have hblk:=(H.ro 2 rfl).now
   have hgl:=Blk.lt hblk
   obtain rfl|rfl|rfl:k=0∨k=1∨k=2:=by omega
   ·have c0:=cell_of_row _ _ 0 _ _ _ hblk
    have c1:=cell_of_row _ _ 1 _ _ _ hblk
    clear hblk
    have K1:=H.Za #[.string nl,.slice (some ⟨g0,0,none⟩) 2 2] 49
    have F1:=K1.facts
    simp only [zg] at F1
    clear H
    go_wp2_with fail
    clear F1
    refine (Gu (Mut M _) _ K1.Zb nl (some ⟨g0,0,none⟩) 2 2 Yr (K1.ro 4 rfl) (by omega) (by rw [HNL.out.1];exact (Gj).nm) (Gj).cs).mono ?_
    intro e w5 hr
    have hs:Yc nl Yr=true:=by rw [HNL.out.1];exact (Gj).val
    unfold VK at hr
    rw [if_pos hs] at hr
    obtain ⟨yA,yn,yc,rfl,hyn,hyc,hyc2,ry,b5⟩:=hr
    replace hyn:yn=2:=hyn
    have HYN:=hid hyn
    have K2:=(((K1.call b5).add ry).Za #[.string nl,.slice yA yn yc,.int .i64 1,.slice none 0 0] 67)
    clear K1 hs hyn ry b5
    have F2:=K2.facts
    simp only [zg] at F2
    go_wp2_with (at_builtin;go_must (refine ZH K2 3 rfl Tryz.WF #[.string nl,.slice yA yn yc,.int .i64 1,.slice none 0 0] rfl (.tmp 23) (.tmp 25) rfl rfl (w5.heap.size+1) (by first|rfl|simp) rfl rfl (by intro u hu;simp at hu;rcases hu with rfl|rfl|rfl|rfl<;>rfl) (by omega) (by omega) ?_);intro g9 cap9 w9 hc9 hm9 KB;simp only [zl] at KB)
    have e9:ZK outs++(#[.string nl,.slice yA yn yc,.int .i64 1,.slice none 0 0]:Array Value).toList=ZK (outs++[⟨nl,yA,yn,yc,Yr,1,none,0,0,[]⟩]):=(VL outs ⟨nl,yA,yn,yc,Yr,1,none,0,0,[]⟩).symm
    rw [e9] at KB
    have hR:Ro _ _ (UK (outs++[⟨nl,yA,yn,yc,Yr,1,none,0,0,[]⟩])):=((KB.ro 4 rfl).and (KB.ro 1 rfl)).imp fun w2 h2 x hx=>by
     rcases List.mem_append.1 hx with hx|hx
     ·exact h2.1 x hx
     ·simp only [List.mem_cons,List.not_mem_nil,or_false] at hx
      subst hx
      exact ⟨h2.2,ZE 5 w2,fun _ hx=>(nomatch hx)⟩
    have KC:=(KB.Yy 4 rfl hR).drop (List.Sublist.cons _ (List.Sublist.cons _ (List.sublist_cons_self _ _)))
    have HS2:=hid (show ∀ x∈outs++[(⟨nl,yA,yn,yc,Yr,1,none,0,0,[]⟩:Te)],1≤x.n∧x.n≤4 from fun x hx=>by
     rcases List.mem_append.1 hx with hx|hx
     ·exact HS.out x hx
     ·simp only [List.mem_cons,List.not_mem_nil,or_false] at hx
      subst hx
      have:=HYN.out
      simp only
      omega)
    go_roundw
    case rel=>exact ⟨1,cap9,_,_,by omega,by simp [hol],by go_num,by first|rfl|trivial,HS2,KC⟩
    case measure=>simp [intOf]
   ·have c0:=cell_of_row _ _ 2 _ _ _ hblk
    have c1:=cell_of_row _ _ 3 _ _ _ hblk
    clear hblk
    have K1:=H.Za #[.string nt,.slice (some ⟨g1,0,none⟩) 4 4] 49
    have F1:=K1.facts
    simp only [zg] at F1
    clear H
    go_wp2_with fail
    clear F1
    refine (Gu (Mut M _) _ K1.Zb nt (some ⟨g1,0,none⟩) 4 4 YP (K1.ro 5 rfl) (by omega) (by rw [HNL.out.2.1];exact (JI).nm) (JI).cs).mono ?_
    intro e w5 hr
    have hs:Yc nt YP=true:=by rw [HNL.out.2.1];exact (JI).val
    unfold VK at hr
    rw [if_pos hs] at hr
    obtain ⟨yA,yn,yc,rfl,hyn,hyc,hyc2,ry,b5⟩:=hr
    replace hyn:yn=4:=hyn
    have HYN:=hid hyn
    have K2:=(((K1.call b5).add ry).Za #[.string nt,.slice yA yn yc,.int .i64 1,.slice none 0 0] 67)
    clear K1 hs hyn ry b5
    have F2:=K2.facts
    simp only [zg] at F2
    go_wp2_with (at_builtin;go_must (refine ZH K2 3 rfl Tryz.WF #[.string nt,.slice yA yn yc,.int .i64 1,.slice none 0 0] rfl (.tmp 23) (.tmp 25) rfl rfl (w5.heap.size+1) (by first|rfl|simp) rfl rfl (by intro u hu;simp at hu;rcases hu with rfl|rfl|rfl|rfl<;>rfl) (by omega) (by omega) ?_);intro g9 cap9 w9 hc9 hm9 KB;simp only [zl] at KB)
    have e9:ZK outs++(#[.string nt,.slice yA yn yc,.int .i64 1,.slice none 0 0]:Array Value).toList=ZK (outs++[⟨nt,yA,yn,yc,YP,1,none,0,0,[]⟩]):=(VL outs ⟨nt,yA,yn,yc,YP,1,none,0,0,[]⟩).symm
    rw [e9] at KB
    have hR:Ro _ _ (UK (outs++[⟨nt,yA,yn,yc,YP,1,none,0,0,[]⟩])):=((KB.ro 4 rfl).and (KB.ro 1 rfl)).imp fun w2 h2 x hx=>by
     rcases List.mem_append.1 hx with hx|hx
     ·exact h2.1 x hx
     ·simp only [List.mem_cons,List.not_mem_nil,or_false] at hx
      subst hx
      exact ⟨h2.2,ZE 5 w2,fun _ hx=>(nomatch hx)⟩
    have KC:=(KB.Yy 4 rfl hR).drop (List.Sublist.cons _ (List.Sublist.cons _ (List.sublist_cons_self _ _)))
    have HS2:=hid (show ∀ x∈outs++[(⟨nt,yA,yn,yc,YP,1,none,0,0,[]⟩:Te)],1≤x.n∧x.n≤4 from fun x hx=>by
     rcases List.mem_append.1 hx with hx|hx
     ·exact HS.out x hx
     ·simp only [List.mem_cons,List.not_mem_nil,or_false] at hx
      subst hx
      have:=HYN.out
      simp only
      omega)
    go_roundw
    case rel=>exact ⟨2,cap9,_,_,by omega,by simp [hol],by go_num,by first|rfl|trivial,HS2,KC⟩
    case measure=>simp [intOf]
   ·have c0:=cell_of_row _ _ 4 _ _ _ hblk
    have c1:=cell_of_row _ _ 5 _ _ _ hblk
    clear hblk
    have K1:=H.Za #[.string nu,.slice (some ⟨g2,0,none⟩) 3 3] 49
    have F1:=K1.facts
    simp only [zg] at F1
    clear H
    go_wp2_with fail
    clear F1
    refine (Gu (Mut M _) _ K1.Zb nu (some ⟨g2,0,none⟩) 3 3 YN (K1.ro 6 rfl) (by omega) (by rw [HNL.out.2.2];exact (Gv).nm) (Gv).cs).mono ?_
    intro e w5 hr
    have hs:Yc nu YN=true:=by rw [HNL.out.2.2];exact (Gv).val
    unfold VK at hr
    rw [if_pos hs] at hr
    obtain ⟨yA,yn,yc,rfl,hyn,hyc,hyc2,ry,b5⟩:=hr
    replace hyn:yn=3:=hyn
    have HYN:=hid hyn
    have K2:=(((K1.call b5).add ry).Za #[.string nu,.slice yA yn yc,.int .i64 1,.slice none 0 0] 67)
    clear K1 hs hyn ry b5
    have F2:=K2.facts
    simp only [zg] at F2
    go_wp2_with (at_builtin;go_must (refine ZH K2 3 rfl Tryz.WF #[.string nu,.slice yA yn yc,.int .i64 1,.slice none 0 0] rfl (.tmp 23) (.tmp 25) rfl rfl (w5.heap.size+1) (by first|rfl|simp) rfl rfl (by intro u hu;simp at hu;rcases hu with rfl|rfl|rfl|rfl<;>rfl) (by omega) (by omega) ?_);intro g9 cap9 w9 hc9 hm9 KB;simp only [zl] at KB)
    have e9:ZK outs++(#[.string nu,.slice yA yn yc,.int .i64 1,.slice none 0 0]:Array Value).toList=ZK (outs++[⟨nu,yA,yn,yc,YN,1,none,0,0,[]⟩]):=(VL outs ⟨nu,yA,yn,yc,YN,1,none,0,0,[]⟩).symm
    rw [e9] at KB
    have hR:Ro _ _ (UK (outs++[⟨nu,yA,yn,yc,YN,1,none,0,0,[]⟩])):=((KB.ro 4 rfl).and (KB.ro 1 rfl)).imp fun w2 h2 x hx=>by
     rcases List.mem_append.1 hx with hx|hx
     ·exact h2.1 x hx
     ·simp only [List.mem_cons,List.not_mem_nil,or_false] at hx
      subst hx
      exact ⟨h2.2,ZE 5 w2,fun _ hx=>(nomatch hx)⟩
    have KC:=(KB.Yy 4 rfl hR).drop (List.Sublist.cons _ (List.Sublist.cons _ (List.sublist_cons_self _ _)))
    have HS2:=hid (show ∀ x∈outs++[(⟨nu,yA,yn,yc,YN,1,none,0,0,[]⟩:Te)],1≤x.n∧x.n≤4 from fun x hx=>by
     rcases List.mem_append.1 hx with hx|hx
     ·exact HS.out x hx
     ·simp only [List.mem_cons,List.not_mem_nil,or_false] at hx
      subst hx
      have:=HYN.out
      simp only
      omega)
    go_roundw
    case rel=>exact ⟨3,cap9,_,_,by omega,by simp [hol],by go_num,by first|rfl|trivial,HS2,KC⟩
    case measure=>simp [intOf]
  ·obtain rfl:k=3:=by omega
   have KZ:=H.Zu 0 rfl
   simp only [zl] at KZ
   have hR:Ro _ _ (TesIn O 3 outs):=((KZ.ro 0 rfl).and (KZ.ro 1 rfl)).imp fun w2 h2=>⟨h2.1,h2.2⟩
   have HR:=hid (hR.less zm)
   have HB:=hid KZ.below
   clear KZ H hR hol
   go_wp2_with fail
   go_ret
   exact ⟨O,cap,outs,rfl,HS.out,HR.out,HB.out⟩
structure Lk where
 a:ByteArray
 b:ByteArray
def Lk.cells (x:Lk):List Value:=[.string x.a,.string x.b]
def Wz (l:List Lk):List Value:=l.flatMap Lk.cells
theorem ZgX (l:List Lk):(Wz l).length=l.length * 2:=Yu _ 2 (fun _=>rfl) l
def lkB (a b:ByteArray) (x:Lk):Bool:=x.a.toList==a.toList&&x.b.toList==b.toList
def VG (l:List Lk) (a b:ByteArray):Bool:=l.any (lkB a b)
def LksIn (A:Option Addr) (n:Nat) (l:List Lk):World→Prop:=SlR 2 A n (Wz l)
theorem LksIn.len {w:World} {A:Option Addr} {n:Nat} {l:List Lk} (h:LksIn A n l w):l.length=n:=by
 have:=(show Rd w w.heap.size 2 A n (Wz l) from h).1
 rw [ZgX] at this
 omega
theorem LksIn.at_ {w:World} {A:Option Addr} {n:Nat} {l:List Lk} (h:LksIn A n l w) {k:Nat} {x:Lk} (hx:l[k]? =some x):
  ∃ b o,A=some ⟨b,o,none⟩∧b<w.heap.size∧w.cell? ⟨b,o+k * 2,none⟩=some (.string x.a)∧w.cell? ⟨b,o+k * 2+1,none⟩=some (.string x.b):=by
 have hk:k<n:=by rw [←h.len];exact (List.getElem?_eq_some_iff.1 hx).1
 obtain ⟨b,o,e,hb,hc⟩:=(show Rd w w.heap.size 2 A n (Wz l) from h).2 (by omega)
 exact ⟨b,o,e,hb,hc _ _ (flat_get Lk.cells 2 (fun _=>rfl) l k 0 x (by omega) hx),hc _ _ (flat_get Lk.cells 2 (fun _=>rfl) l k 1 x (by omega) hx)⟩
theorem Zb4 {α:Type} {p:α→Bool} {l:List α} {k:Nat} {x:α} (h:l.any p=(l.drop k).any p) (hx:l[k]? =some x) (hp:p x=false):l.any p=(l.drop (k+1)).any p:=by
 obtain ⟨hk,rfl⟩:=List.getElem?_eq_some_iff.1 hx
 rw [h,List.drop_eq_getElem_cons hk,List.any_cons,hp,Bool.false_or]
theorem Zda {α:Type} {p:α→Bool} {l:List α} {k:Nat} {x:α} (hx:l[k]? =some x) (hp:p x=true):l.any p=true:=by
 rw [List.any_eq_true];exact ⟨x,List.mem_of_getElem? hx,hp⟩
theorem Zdg {α:Type} {p:α→Bool} {l:List α} {k:Nat} (h:l.any p=(l.drop k).any p) (hk:l.length≤k):l.any p=false:=by
 rw [h,List.drop_of_length_le hk];rfl
set_option maxHeartbeats 2000000 in
theorem Qj (M:Nat→Prop) (w:World) (hM:∀ b,M b→b<w.heap.size) (A:Option Addr) (n c:Nat) (l:List Lk) (a b:ByteArray) (hD:Ro w M (LksIn A n l)) (hn:n≤9223372036854775807):
  Calls Tryz.prog 170 #[.slice A n c,.string a,.string b] w fun e w' =>e=.returned (.bool (VG l a b))∧Below w.heap.size w w' :=by
 have HL:=hid hD.now.len
 have K0:=(Hold.start M w hM).add (hD.less (by simp [Mut]))
 go_enter Tryz.func170,Tryz.ntmps170
 go_wp2_with fail
 go_loopw [11] (fun i wr=>∃ k:Nat,k≤n∧i=.int .i64 k∧l.any (lkB a b)=(l.drop k).any (lkB a b)∧Hold M none w wr [.ro (LksIn A n l)]) (fun i _=>n - (intOf i).toNat)
 case atStart=>exact ⟨0,by omega,rfl,rfl,K0⟩
 case round=>
  obtain ⟨k,hk,rfl,hf,H⟩:=hrel
  have HF:=hid hf;clear hf
  by_cases hlt:k<n
  ·obtain ⟨x,hx⟩:=Zq HL.out hlt
   obtain ⟨g,o,rfl,hb,c0,c1⟩:=(H.ro 0 rfl).now.at_ hx
   have HX:=hid hx;clear hx
   have K1:=H.Za #[.string x.a,.string x.b] 190
   cases h1:(x.a.toList==a.toList)
   ·have HB:=hid (show lkB a b x=false by simp only [lkB,h1,Bool.false_and])
    go_wp2_with fail
    go_roundw
    case rel=>exact ⟨k+1,by omega,by go_num,Zb4 HF.out HX.out HB.out,K1.drop (List.sublist_cons_self _ _)⟩
    case measure=>simp [intOf];omega
   ·cases h2:(x.b.toList==b.toList)
    ·have HB:=hid (show lkB a b x=false by simp only [lkB,h2,Bool.and_false])
     go_wp2_with fail
     go_roundw
     case rel=>exact ⟨k+1,by omega,by go_num,Zb4 HF.out HX.out HB.out,K1.drop (List.sublist_cons_self _ _)⟩
     case measure=>simp [intOf];omega
    ·have HB:=hid (show lkB a b x=true by simp only [lkB,h1,h2,Bool.and_true])
     go_wp2_with fail
     go_ret
     exact ⟨by rw [show VG l a b=true from Zda HX.out HB.out]<;>rfl,K1.below⟩
  ·go_wp2_with fail
   go_ret
   exact ⟨by rw [show VG l a b=false from Zdg HF.out (by rw [HL.out];omega)]<;>rfl,H.below⟩
def Yk (x y:Lk):Bool:=Op.bytesLess x.a.toList y.a.toList||(x.a.toList==y.a.toList&&Op.bytesLess x.b.toList y.b.toList)
def Xr (x y:Lk):Bool:=x.a.toList==y.a.toList&&x.b.toList==y.b.toList
theorem Tryz.Ub:ElemT Tryz.prog 26 190 2 32 (.agg #[.string ⟨#[]⟩,.string ⟨#[]⟩]):=⟨Tryz.underlying26,by kernel_rfl,rfl,by omega⟩
theorem Uh (a b:ByteArray):∀ u∈(#[Value.string a,Value.string b]).toList,u.oneCell' =true:=by intro u hu;simp at hu;rcases hu with rfl|rfl<;>rfl
theorem V6 (l:List Lk) (x:Lk):Wz l++(#[Value.string x.a,Value.string x.b]).toList=Wz (l++[x]):=by simp [Wz,Lk.cells]
set_option maxHeartbeats 1000000 in
theorem GH (x y:Lk) (w:World):
  Calls Tryz.prog 169 #[.agg #[.string x.a,.string x.b],.agg #[.string y.a,.string y.b]] w fun e w' =>e=.returned (.bool (Yk x y))∧Below w.heap.size w w' :=by
 obtain ⟨xa,xb⟩:=x
 obtain ⟨ya,yb⟩:=y
 cases h1:Op.bytesLess xa.toList ya.toList<;>cases h2:(xa.toList==ya.toList)<;>cases h3:Op.bytesLess xb.toList yb.toList
 all_goals
  go_enter Tryz.func169,Tryz.ntmps169
  go_wp2_with fail
  go_ret
  exact ⟨by simp only [Yk,h1,h2,h3]<;>rfl,ZaN _ _ _⟩
def Xo (x:Lk) (s:List Lk × Bool) (y:Lk):List Lk × Bool:=((if s.2||Yk y x then s.1 else s.1++[x])++(if Xr y x then [] else [y]),s.2||!Yk y x)
def Xm (x:Lk) (l:List Lk) (k:Nat):List Lk × Bool:=(l.take k).foldl (Xo x) ([],false)
def Y9 (x:Lk) (l:List Lk):List Lk:=if (Xm x l l.length).2 then (Xm x l l.length).1 else (Xm x l l.length).1++[x]
theorem zF (x:Lk) {l:List Lk} {k:Nat} {y:Lk} (hy:l[k]? =some y):Xm x l (k+1)=Xo x (Xm x l k) y:=by
 obtain ⟨hk,rfl⟩:=List.getElem?_eq_some_iff.1 hy
 unfold Xm
 rw [List.take_succ_eq_append_getElem hk,List.foldl_append]
 rfl
theorem Gf (x:Lk) (l:List Lk):∀ k,(Xm x l k).1.length≤2 * k
 | 0=>by simp [Xm]
 | k+1=>by
  by_cases h:k<l.length
  ·rw [zF x (List.getElem?_eq_getElem h)]
   have:=Gf x l k
   unfold Xo
   split<;>split<;>simp<;>omega
  ·have:Xm x l (k+1)=Xm x l k:=by unfold Xm;rw [List.take_of_length_le (by omega),List.take_of_length_le (by omega)]
   rw [this];have:=Gf x l k;omega
def ZbO (w:World) (M:Nat→Prop) (l:List Lk) (e:Ending) (w' :World):Prop:=
 ∃ (A:Option Addr) (n c:Nat),e=.returned (.slice A n c)∧n=l.length∧n≤c∧c≤9223372036854775807∧Ro w' M (LksIn A n l)∧Below w.heap.size w w'
set_option maxHeartbeats 4000000 in
theorem GD (M:Nat→Prop) (w:World) (hM:∀ b,M b→b<w.heap.size) (A:Option Addr) (n c:Nat) (l:List Lk) (x:Lk) (hD:Ro w M (LksIn A n l)) (hn:n≤1000000):
  Calls Tryz.prog 107 #[.slice A n c,.agg #[.string x.a,.string x.b]] w fun e w' =>ZbO w M (Y9 x l) e w' :=by
 have HL:=hid hD.now.len
 have K0:=((((Hold.start M w hM).add (hD.less (by simp [Mut]))).nil 190 2)).Za #[.string x.a,.string x.b] 190
 go_enter Tryz.func107,Tryz.ntmps107
 go_wp2_with fail
 go_loopw [5,6,11] (fun out d i wr=>∃ (k cap q:Nat) (C:Option Addr) (o:List Lk) (dn:Bool),k≤n∧i=.int .i64 k∧out=.slice C q cap∧d=.bool dn∧Hid (q=o.length)∧Hid (Xm x l k=(o,dn))∧
  Hold M none w wr [.cst w.heap.size 190 #[.string x.a,.string x.b],.own 190 2 (.slice C q cap) q (Wz o),.ro (LksIn A n l)]) (fun _ _ i _=>n - (intOf i).toNat)
 case atStart=>exact ⟨0,0,0,none,[],false,by omega,rfl,rfl,rfl,hid rfl,hid rfl,K0⟩
 case round=>
  obtain ⟨k,cap,q,C,o,dn,hk,rfl,rfl,rfl,HQ,HS,H⟩:=hrel
  have hqk:q≤2 * k:=by have:=Gf x l k;rw [HS.out] at this;have:=HQ.out;simp at *;omega
  by_cases hlt:k<n
  ·have hd:decide ((k:Int)<(n:Int))=true:=by simp;omega
   obtain ⟨y,hy⟩:=Zq HL.out hlt
   obtain ⟨g,oo,rfl,hb,c0,c1⟩:=(H.ro 2 rfl).now.at_ hy
   have HN:=hid (zF x hy);clear hy
   have F:=H.facts
   simp only [World.size_alloc,World.size_drew,ZU,Zt,Nat.reduceAdd,List.toList_toArray,and_true,true_and] at F
   have K1:=H.Za #[.string y.a,.string y.b] 190
   have F1:=K1.facts
   simp only [World.size_alloc,World.size_drew,ZU,Zt,Nat.reduceAdd,List.toList_toArray,and_true,true_and] at F1
   cases h1:(y.a.toList==x.a.toList)<;>cases h2:(y.b.toList==x.b.toList)
   all_goals
    have heq:Xr y x=(y.a.toList==x.a.toList&&y.b.toList==x.b.toList):=rfl
    rw [h1,h2] at heq
    simp only [Bool.and_true,Bool.and_false,Bool.and_self] at heq
    have HE:=hid heq
    clear heq
    cases dn
    ·cases hbf:Yk y x
     all_goals
      have HBF:=hid hbf
      go_wp2_with fail
      refine (GH y x _).mono ?_
      rintro e wb ⟨rfl,bb⟩
      rw [HBF.out]
      have KB:=K1.call bb
      clear bb F F1
      have FB:=KB.facts
      simp only [zg] at FB
      clear hbf
      first
       | (go_wp2_with (first
         | (at_builtin;refine ZH KB 2 rfl Tryz.Ub #[.string x.a,.string x.b] rfl (.tmp 23) (.tmp 25) rfl rfl wb.heap.size rfl rfl rfl (Uh _ _) (by omega) (by omega) ?_;intro g2 cap2 w2 hc2 hm2 K2;(have F2:=K2.facts);simp only [World.size_alloc,World.size_drew,ZU,Zt,Nat.reduceAdd,List.toList_toArray,List.set_cons_zero,List.set_cons_succ,and_true,true_and] at F2)
         | (at_builtin;refine ZH KB 2 rfl Tryz.Ub #[.string y.a,.string y.b] rfl (.tmp 30) (.tmp 32) rfl rfl wb.heap.size rfl rfl rfl (Uh _ _) (by omega) (by omega) ?_;intro g3 cap3 w3 hc3 hm3 K3)
         | (at_builtin;refine ZH K2 2 rfl Tryz.Ub #[.string y.a,.string y.b] rfl (.tmp 30) (.tmp 32) rfl rfl w2.heap.size rfl rfl rfl (Uh _ _) (by omega) (by omega) ?_;intro g3 cap3 w3 hc3 hm3 K3)))
      go_roundw
      case measure=>simp [intOf];omega
      case rel=>
       first
        | (refine ⟨k+1,_,_,_,o++[x]++[y],true,by omega,by go_num,rfl,rfl,hid (by simp [HQ.out]),hid (by rw [HN.out,HS.out];simp [Xo,HBF.out,HE.out]),?_⟩;rw [←V6,←V6];exact K3.drop (List.sublist_cons_self _ _))
        | (refine ⟨k+1,_,_,_,o++[x],true,by omega,by go_num,rfl,rfl,hid (by simp [HQ.out]),hid (by rw [HN.out,HS.out];simp [Xo,HBF.out,HE.out]),?_⟩;rw [←V6];exact K2.drop (List.sublist_cons_self _ _))
        | (refine ⟨k+1,_,_,_,o++[y],false,by omega,by go_num,rfl,rfl,hid (by simp [HQ.out]),hid (by rw [HN.out,HS.out];simp [Xo,HBF.out,HE.out]),?_⟩;rw [←V6];exact K3.drop (List.sublist_cons_self _ _))
        | (refine ⟨k+1,_,_,_,o,false,by omega,by go_num,rfl,rfl,hid (by simp [HQ.out]),hid (by rw [HN.out,HS.out];simp [Xo,HBF.out,HE.out]),?_⟩;exact KB.drop (List.sublist_cons_self _ _))
    ·go_wp2_with (at_builtin;refine ZH K1 2 rfl Tryz.Ub #[.string y.a,.string y.b] rfl (.tmp 30) (.tmp 32) rfl rfl (wr.heap.size+1) (by simp) rfl rfl (Uh _ _) (by omega) (by omega) ?_;intro g3 cap3 w3 hc3 hm3 K3)
     go_roundw
     case measure=>simp [intOf];omega
     case rel=>
      first
       | (refine ⟨k+1,_,_,_,o++[y],true,by omega,by go_num,rfl,rfl,hid (by simp [HQ.out]),hid (by rw [HN.out,HS.out];simp [Xo,HE.out]),?_⟩;rw [←V6];exact K3.drop (List.sublist_cons_self _ _))
       | (refine ⟨k+1,_,_,_,o,true,by omega,by go_num,rfl,rfl,hid (by simp [HQ.out]),hid (by rw [HN.out,HS.out];simp [Xo,HE.out]),?_⟩;exact K1.drop (List.sublist_cons_self _ _))
  ·obtain rfl:k=n:=by omega
   have HI:Hid (Y9 x l=if dn then o else o++[x]):=by unfold Hid Y9;rw [HL.out,HS.out]
   have F:=H.facts
   simp only [World.size_alloc,World.size_drew,ZU,Zt,Nat.reduceAdd,List.toList_toArray,and_true,true_and] at F
   have hcap:=ZR (H.get 1 rfl)
   cases dn
   ·go_wp2_with (at_builtin;refine ZH H 1 rfl Tryz.Ub #[.string x.a,.string x.b] rfl (.tmp 37) (.tmp 39) rfl rfl wr.heap.size rfl rfl rfl (Uh _ _) (by omega) (by omega) ?_;intro g3 cap3 w3 hc3 hm3 K3)
    have KS:=K3.Zu 1 rfl
    go_ret
    have e:Y9 x l=o++[x]:=HI.out
    exact ⟨_,_,_,rfl,by rw [e,HQ.out];simp,hc3,hm3,by rw [e];unfold LksIn;rw [←V6];exact KS.ZP 1 rfl,KS.below⟩
   ·have KS:=H.Zu 1 rfl
    go_wp2_with fail
    go_ret
    have e:Y9 x l=o:=HI.out
    exact ⟨_,_,_,rfl,by rw [e];exact HQ.out,hcap.1,hcap.2.1,by rw [e];exact KS.ZP 1 rfl,KS.below⟩
def XC (l:List Lk) (i:Nat):Lk:=l.getD i ⟨⟨#[]⟩,⟨#[]⟩⟩
theorem GG {l:List Lk} {i:Nat} {x:Lk} (h:l[i]? =some x):XC l i=x:=by simp [XC,List.getD,h]
def trB (l:List Lk) (x y:Lk):Bool:=!(x.b.toList==y.a.toList)||VG l x.a y.b
def XQ (l:List Lk) (i:Nat):Bool:=!((XC l i).a.toList==(XC l i).b.toList)&&(i==0||Yk (XC l (i - 1)) (XC l i))&&l.all (trB l (XC l i))
def YY (l:List Lk):Bool:=(List.range l.length).all (XQ l)
theorem ZaF {p:Nat→Bool} {k:Nat} (h:(List.range k).all p=true) (hp:p k=true):(List.range (k+1)).all p=true:=by
 rw [List.range_succ,List.all_append,h];simpa using hp
theorem QW {p:Nat→Bool} {k n:Nat} (hk:k<n) (hp:p k=false):(List.range n).all p=false:=by
 rw [List.all_eq_false];exact ⟨k,by simpa using hk,by simp [hp]⟩
theorem Qb {α:Type} {p:α→Bool} {l:List α} {k:Nat} {x:α} (h:(l.take k).all p=true) (hx:l[k]? =some x) (hp:p x=true):(l.take (k+1)).all p=true:=by
 obtain ⟨hk,rfl⟩:=List.getElem?_eq_some_iff.1 hx
 rw [List.take_succ_eq_append_getElem hk,List.all_append,h];simpa using hp
theorem Zbn {α:Type} {p:α→Bool} {l:List α} {k:Nat} {x:α} (hx:l[k]? =some x) (hp:p x=false):l.all p=false:=by
 rw [List.all_eq_false];exact ⟨x,List.mem_of_getElem? hx,by simp [hp]⟩
set_option maxHeartbeats 4000000 in
set_option maxRecDepth 100000 in
theorem QV (M:Nat→Prop) (w:World) (hM:∀ b,M b→b<w.heap.size) (A:Option Addr) (n c:Nat) (l:List Lk) (hD:Ro w M (LksIn A n l)) (hn:n≤1000000):
  Calls Tryz.prog 106 #[.slice A n c] w fun e w' =>e=.returned (.bool (YY l))∧Below w.heap.size w w' :=by
 have HL:=hid hD.now.len
 have K0:=(Hold.start M w hM).add (hD.less (by simp [Mut]))
 go_enter Tryz.func106,Tryz.ntmps106
 go_wp2_with fail
 go_loopw [9] (fun i wr=>∃ (k:Nat),k≤n∧i=.int .i64 k∧Hid ((List.range k).all (XQ l)=true)∧Hold M none w wr [.ro (LksIn A n l)]) (fun i _=>n - (intOf i).toNat)
 case atStart=>exact ⟨0,by omega,rfl,hid rfl,K0⟩
 case round=>
  obtain ⟨k,hk,rfl,HV,H⟩:=hrel
  obtain ⟨wo,rfl⟩:∃ wo:World,wo=wr:=⟨_,rfl⟩
  by_cases hlt:k<n
  ·have hd:decide ((k:Int)<(n:Int))=true:=by simp;omega
   obtain ⟨x,hx⟩:=Zq HL.out hlt
   obtain ⟨g,o,rfl,hb,c0,c1⟩:=(H.ro 0 rfl).now.at_ hx
   have HX:=hid (GG hx);clear hx
   have K1:=H.Za #[.string x.a,.string x.b] 190
   have F1:=K1.facts
   simp only [World.size_alloc,World.size_drew,ZU,Zt,Nat.reduceAdd,List.toList_toArray,and_true,true_and] at F1
   have HB0:=hid (And.intro c0 c1)
   cases hs:(x.a.toList==x.b.toList)
   ·by_cases hk0:k=0
    ·have hkd:decide (0<k)=false:=by simp;omega
     have HK0:=hid hk0
     have HSF:=hid hs
     clear hk0
     go_wp2_with fail
     go_quiet (fail)
     go_wp2_with fail
     go_loopw [35] (fun j wq=>∃ p:Nat,p≤n∧j=.int .i64 p∧Hid ((l.take p).all (trB l x)=true)∧Hold M none w wq [.cst wo.heap.size 190 #[.string x.a,.string x.b],.ro (LksIn (some ⟨g,o,none⟩) n l)]) (fun j _=>n - (intOf j).toNat)
     case atStart=>exact ⟨0,by omega,rfl,hid rfl,K1.drewN _⟩
     case round=>
      obtain ⟨p,hp,rfl,HP,H2⟩:=hrel
      by_cases hlt2:p<n
      ·have hd2:decide ((p:Int)<(n:Int))=true:=by simp;omega
       obtain ⟨y,hy⟩:=Zq HL.out hlt2
       obtain ⟨g',o',ho',hb',e0,e1⟩:=(H2.ro 1 rfl).now.at_ hy
       obtain ⟨rfl,rfl⟩:g=g' ∧o=o' :=by injection ho' with ho';injection ho' with a1 a2;exact ⟨a1,a2⟩
       clear ho'
       have HY:=hid hy;clear hy
       have K2:=H2.Za #[.string y.a,.string y.b] 190
       have F2:=H2.facts
       simp only [World.size_alloc,World.size_drew,ZU,Zt,Nat.reduceAdd,List.toList_toArray,and_true,true_and] at F2
       cases h4:(x.b.toList==y.a.toList)
       ·have HT:=hid (show trB l x y=true by simp only [trB,h4];rfl)
        go_wp2_with fail
        go_roundw
        case rel=>exact ⟨p+1,by omega,by go_num,hid (Qb HP.out HY.out HT.out),K2.drop (List.sublist_cons_self _ _)⟩
        case measure=>simp [intOf];omega
       ·cases hpr:VG l x.a y.b
        ·have HT:=hid (show trB l x y=false by simp only [trB,h4,hpr];rfl)
         go_wp2_with (go_at_call 170;refine (Qj (Mut M _) _ K2.Zb _ n c l x.a y.b (K2.ro 2 rfl) (by omega)).mono ?_;rintro e w5 ⟨rfl,b5⟩;have K5:=K2.call b5;rw [hpr])
         go_ret
         exact ⟨by rw [show YY l=false from QW (k:=k) (by rw [HL.out];exact hlt) (by unfold XQ;rw [HX.out,Zbn HY.out HT.out];simp)]<;>rfl,K5.below⟩
        ·have HT:=hid (show trB l x y=true by simp only [trB,h4,hpr];rfl)
         go_wp2_with (go_at_call 170;refine (Qj (Mut M _) _ K2.Zb _ n c l x.a y.b (K2.ro 2 rfl) (by omega)).mono ?_;rintro e w5 ⟨rfl,b5⟩;have K5:=K2.call b5;rw [hpr])
         go_roundw
         case rel=>exact ⟨p+1,by omega,by go_num,hid (Qb HP.out HY.out HT.out),K5.drop (List.sublist_cons_self _ _)⟩
         case measure=>simp [intOf];omega
      ·obtain rfl:n=p:=by omega
       have HPA:=HP.out
       rw [List.take_of_length_le (by rw [HL.out];omega)] at HPA
       have HPB:=hid HPA;clear HPA
       go_wp2_with fail
       go_roundw
       case rel=>exact ⟨k+1,by omega,by go_num,hid (ZaF HV.out (by unfold XQ;rw [HX.out,HPB.out,HSF.out];simp [HK0.out])),H2.drop (List.sublist_cons_self _ _)⟩
       case measure=>simp [intOf];omega
    ·obtain ⟨k,rfl⟩:∃ m,k=m+1:=⟨k - 1,by omega⟩
     have HSF:=hid hs
     have hw:IntKind.i64.wrap (k:Int)=(k:Int):=IntWalk.i64_in _ (by omega)
     have i0:(0:Int)≤(k:Int):=by omega
     have i1:(k:Int)<(n:Int):=by omega
     have hkd:decide ((0:Int)<(k:Int)+1)=true:=by simp
     clear hk0
     obtain ⟨z,hz⟩:=Zq HL.out (show k<n by omega)
     obtain ⟨g',o',ho',hb',e0,e1⟩:=(K1.ro 1 rfl).now.at_ hz
     obtain ⟨rfl,rfl⟩:g=g' ∧o=o' :=by injection ho' with ho';injection ho' with a1 a2;exact ⟨a1,a2⟩
     clear ho'
     have HZ:=hid (GG hz);clear hz
     cases hbf:Yk z x
     ·have HBF:=hid hbf
      go_wp2_with fail
      generalize wo.alloc (.cells #[.string x.a,.string x.b] 190)=w1 at *
      go_still_tail 15,(by kernel_rfl)
      change wpList _ _ _ _ _ (World.drew _)
      go_wp2_with (go_at_call 169;refine (GH z x _).mono ?_;rintro e w5 ⟨rfl,b5⟩;have K5:=K1.drew.call b5;rw [HBF.out])
      go_wp2_with fail
      go_ret
      exact ⟨by rw [show YY l=false from QW (k:=(k+1)) (by rw [HL.out];exact hlt) (by unfold XQ;rw [HX.out];simp only [HBF.out,GG,Nat.add_sub_cancel,HZ.out];simp)]<;>rfl,by first|exact (K5).below|exact (K5).drew.below|exact ((K5).drewN _).below⟩
     ·have HBF:=hid hbf
      go_wp2_with fail
      generalize wo.alloc (.cells #[.string x.a,.string x.b] 190)=w1 at *
      go_still_tail 15,(by kernel_rfl)
      change wpList _ _ _ _ _ (World.drew _)
      go_wp2_with (go_at_call 169;refine (GH z x _).mono ?_;rintro e w5 ⟨rfl,b5⟩;have K5:=K1.drew.call b5;rw [HBF.out])
      go_loopw [35] (fun j wq=>∃ p:Nat,p≤n∧j=.int .i64 p∧Hid ((l.take p).all (trB l x)=true)∧Hold M none w wq [.cst wo.heap.size 190 #[.string x.a,.string x.b],.ro (LksIn (some ⟨g,o,none⟩) n l)]) (fun j _=>n - (intOf j).toNat)
      case atStart=>exact ⟨0,by omega,rfl,hid rfl,K5⟩
      case round=>
       obtain ⟨p,hp,rfl,HP,H2⟩:=hrel
       by_cases hlt2:p<n
       ·have hd2:decide ((p:Int)<(n:Int))=true:=by simp;omega
        obtain ⟨y,hy⟩:=Zq HL.out hlt2
        obtain ⟨g',o',ho',hb',e0,e1⟩:=(H2.ro 1 rfl).now.at_ hy
        obtain ⟨rfl,rfl⟩:g=g' ∧o=o' :=by injection ho' with ho';injection ho' with a1 a2;exact ⟨a1,a2⟩
        clear ho'
        have HY:=hid hy;clear hy
        have K2:=H2.Za #[.string y.a,.string y.b] 190
        have F2:=H2.facts
        simp only [World.size_alloc,World.size_drew,ZU,Zt,Nat.reduceAdd,List.toList_toArray,and_true,true_and] at F2
        cases h4:(x.b.toList==y.a.toList)
        ·have HT:=hid (show trB l x y=true by simp only [trB,h4];rfl)
         go_wp2_with fail
         go_roundw
         case rel=>exact ⟨p+1,by omega,by go_num,hid (Qb HP.out HY.out HT.out),K2.drop (List.sublist_cons_self _ _)⟩
         case measure=>simp [intOf];omega
        ·cases hpr:VG l x.a y.b
         ·have HT:=hid (show trB l x y=false by simp only [trB,h4,hpr];rfl)
          go_wp2_with (go_at_call 170;refine (Qj (Mut M _) _ K2.Zb _ n c l x.a y.b (K2.ro 2 rfl) (by omega)).mono ?_;rintro e w5 ⟨rfl,b5⟩;have K5:=K2.call b5;rw [hpr])
          go_ret
          exact ⟨by rw [show YY l=false from QW (k:=(k+1)) (by rw [HL.out];exact hlt) (by unfold XQ;rw [HX.out,Zbn HY.out HT.out];simp)]<;>rfl,K5.below⟩
         ·have HT:=hid (show trB l x y=true by simp only [trB,h4,hpr];rfl)
          go_wp2_with (go_at_call 170;refine (Qj (Mut M _) _ K2.Zb _ n c l x.a y.b (K2.ro 2 rfl) (by omega)).mono ?_;rintro e w5 ⟨rfl,b5⟩;have K5:=K2.call b5;rw [hpr])
          go_roundw
          case rel=>exact ⟨p+1,by omega,by go_num,hid (Qb HP.out HY.out HT.out),K5.drop (List.sublist_cons_self _ _)⟩
          case measure=>simp [intOf];omega
       ·obtain rfl:n=p:=by omega
        have HPA:=HP.out
        rw [List.take_of_length_le (by rw [HL.out];omega)] at HPA
        have HPB:=hid HPA;clear HPA
        go_wp2_with fail
        go_roundw
        case rel=>exact ⟨(k+1)+1,by omega,by go_num,hid (ZaF HV.out (by unfold XQ;rw [HX.out,HPB.out,HSF.out];simp [HZ.out,HBF.out])),H2.drop (List.sublist_cons_self _ _)⟩
        case measure=>simp [intOf];omega
   ·have HS:=hid hs
    go_wp2_with fail
    go_quiet (fail)
    go_wp2_with fail
    go_ret
    exact ⟨by rw [show YY l=false from QW (k:=k) (by rw [HL.out];exact hlt) (by unfold XQ;rw [HX.out];simp only [HS.out];simp)]<;>rfl,by first|exact (K1).below|exact (K1).drew.below|exact ((K1).drewN _).below⟩
  ·obtain rfl:k=n:=by omega
   go_wp2_with fail
   go_ret
   exact ⟨by rw [show YY l=true from by unfold YY;rw [HL.out];exact HV.out]<;>rfl,H.below⟩
theorem ZbG:∀ x:List UInt8,Op.bytesLess x x=false
 | []=>rfl
 | a::x=>by simp [Op.bytesLess,ZbG x]
theorem Jc:∀ x y z:List UInt8,Op.bytesLess x y=true→Op.bytesLess y z=true→Op.bytesLess x z=true
 | _,[],_=>by simp [Op.bytesLess]
 | [],b::y,[]=>by simp [Op.bytesLess]
 | [],b::y,c::z=>by simp [Op.bytesLess]
 | a::x,b::y,[]=>by simp [Op.bytesLess]
 | a::x,b::y,c::z=>by
  have ih:=Jc x y z
  simp only [Op.bytesLess,Bool.or_eq_true,Bool.and_eq_true,decide_eq_true_eq,beq_iff_eq]
  rintro (h1|⟨rfl,h1⟩) (h2|⟨rfl,h2⟩)
  ·exact .inl (UInt8.lt_trans h1 h2)
  ·exact .inl h1
  ·exact .inl h2
  ·exact .inr ⟨rfl,ih h1 h2⟩
theorem Jv:∀ x y:List UInt8,x=y∨Op.bytesLess x y=true∨Op.bytesLess y x=true
 | [],[]=>.inl rfl
 | [],b::y=>.inr (.inl rfl)
 | a::x,[]=>.inr (.inr rfl)
 | a::x,b::y=>by
  simp only [Op.bytesLess,Bool.or_eq_true,Bool.and_eq_true,decide_eq_true_eq,beq_iff_eq,List.cons.injEq]
  rcases UInt8.lt_or_lt_of_ne (a:=a) (b:=b)|> fun h=>Classical.em (a=b) with rfl|hne
  ·rcases Jv x y with rfl|h|h
   ·exact .inl ⟨rfl,rfl⟩
   ·exact .inr (.inl (.inr ⟨rfl,h⟩))
   ·exact .inr (.inr (.inr ⟨rfl,h⟩))
  ·rcases UInt8.lt_or_lt_of_ne hne with h|h
   ·exact .inr (.inl (.inl h))
   ·exact .inr (.inr (.inl h))
theorem Jr {a b:ByteArray} (h:a.toList=b.toList):a=b:=Go.WideShapes.bytes_inj (by rw [←ByteArray.toList_eq,←ByteArray.toList_eq];exact h)
theorem GN {a b:ByteArray}:(a.toList==b.toList)=true↔a=b:=by
 rw [beq_iff_eq];exact ⟨Jr,fun h=>by rw [h]⟩
theorem Zbk {x y:Lk} (h1:x.a=y.a) (h2:x.b=y.b):x=y:=by
 obtain ⟨a,b⟩:=x;obtain ⟨c,d⟩:=y;simp only at h1 h2;rw [h1,h2]
theorem UN {x y:Lk}:Xr x y=true↔x=y:=by
 unfold Xr
 rw [Bool.and_eq_true,GN,GN]
 exact ⟨fun h=>Zbk h.1 h.2,fun h=>by rw [h];exact ⟨rfl,rfl⟩⟩
theorem ZdT (x:Lk):Yk x x=false:=by simp [Yk,ZbG]
theorem zh {x y z:Lk} (h1:Yk x y=true) (h2:Yk y z=true):Yk x z=true:=by
 simp only [Yk,Bool.or_eq_true,Bool.and_eq_true,beq_iff_eq] at *
 rcases h1 with h1|⟨e1,h1⟩<;>rcases h2 with h2|⟨e2,h2⟩
 ·exact .inl (Jc _ _ _ h1 h2)
 ·exact .inl (e2 ▸ h1)
 ·exact .inl (e1 ▸ h2)
 ·exact .inr ⟨e1.trans e2,Jc _ _ _ h1 h2⟩
theorem ZdU (x y:Lk):x=y∨Yk x y=true∨Yk y x=true:=by
 simp only [Yk,Bool.or_eq_true,Bool.and_eq_true,beq_iff_eq]
 rcases Jv x.a.toList y.a.toList with h|h|h
 ·rcases Jv x.b.toList y.b.toList with h2|h2|h2
  ·exact .inl (Zbk (Jr h) (Jr h2))
  ·exact .inr (.inl (.inr ⟨h,h2⟩))
  ·exact .inr (.inr (.inr ⟨h.symm,h2⟩))
 ·exact .inr (.inl (.inl h))
 ·exact .inr (.inr (.inl h))
theorem ZbZ {x y:Lk} (h:Yk x y=true):x≠y:=by rintro rfl;rw [ZdT] at h;cases h
def LkSorted (l:List Lk):Prop:=l.Pairwise fun x y=>Yk x y=true
theorem LkSorted.nodup {l:List Lk} (h:LkSorted l):l.Nodup:=List.Pairwise.imp (fun h=>ZbZ h) h
def Y1 (x:Lk):Bool→List Lk→List Lk
 | d,[]=>if d then [] else [x]
 | d,y::l=>(if d||Yk y x then [] else [x])++(if Xr y x then [] else [y])++Y1 x (d||!Yk y x) l
theorem zG (x:Lk):∀ (l:List Lk) (o:List Lk) (d:Bool),(let s:=l.foldl (Xo x) (o,d);if s.2 then s.1 else s.1++[x])=o++Y1 x d l
 | [],o,d=>by cases d<;>simp [Y1]
 | y::l,o,d=>by
  have ih:=zG x l (Xo x (o,d) y).1 (Xo x (o,d) y).2
  refine Eq.trans ih ?_
  simp only [Xo,Y1]
  cases d<;>cases Yk y x<;>cases Xr y x<;>simp
theorem zM (x:Lk) (l:List Lk):Y9 x l=Y1 x false l:=by
 have h:=zG x l [] false
 simp only [List.nil_append] at h
 rw [←h]
 unfold Y9 Xm
 rw [List.take_of_length_le (Nat.le_refl _)]
theorem JV (x:Lk):∀ l:List Lk,(∀ y∈l,y≠x)→Y1 x true l=l
 | [],_=>rfl
 | y::l,h=>by
  have hy:Xr y x=false:=by
   cases e:Xr y x
   ·rfl
   ·exact absurd (UN.1 e) (h y (List.mem_cons_self ..))
  simp [Y1,hy,JV x l (fun z hz=>h z (List.mem_cons_of_mem _ hz))]
theorem Zar {x y:Lk} {l:List Lk} (h:LkSorted (y::l)):Y1 x false (y::l)=if Yk y x then y::Y1 x false l else if Xr y x then y::l else x::y::l:=by
 obtain ⟨h1,h2⟩:=List.pairwise_cons.1 h
 cases hb:Yk y x
 ·have hn:∀ z∈l,z≠x:=fun z hz e=>by
   subst e;rw [h1 z hz] at hb;cases hb
  cases he:Xr y x
  ·simp [Y1,hb,he,JV x l hn]
  ·obtain rfl:=UN.1 he
   simp [Y1,hb,he,JV y l hn]
 ·have he:Xr y x=false:=by
   cases e:Xr y x
   ·rfl
   ·exact absurd (UN.1 e) (ZbZ hb)
  simp [Y1,hb,he]
theorem J7 {x z:Lk}:∀ {l:List Lk},LkSorted l→(z∈Y1 x false l↔z=x∨z∈l)
 | [],_=>by simp [Y1]
 | y::l,h=>by
  have ih:=J7 (x:=x) (z:=z) (List.pairwise_cons.1 h).2
  rw [Zar h]
  split
  ·simp only [List.mem_cons,ih]
   constructor
   ·rintro (h|h|h)
    ·exact .inr (.inl h)
    ·exact .inl h
    ·exact .inr (.inr h)
   ·rintro (h|h|h)
    ·exact .inr (.inl h)
    ·exact .inl h
    ·exact .inr (.inr h)
  ·split
   ·rename_i _ he
    obtain rfl:=UN.1 he
    simp only [List.mem_cons]
    exact ⟨.inr,fun h=>h.elim .inl id⟩
   ·simp only [List.mem_cons]
theorem zO {x:Lk}:∀ {l:List Lk},LkSorted l→LkSorted (Y1 x false l)
 | [],_=>by simp [Y1,LkSorted]
 | y::l,h=>by
  have ih:=zO (x:=x) (List.pairwise_cons.1 h).2
  rw [Zar h]
  obtain ⟨h1,h2⟩:=List.pairwise_cons.1 h
  split
  ·rename_i hb
   refine List.pairwise_cons.2 ⟨fun z hz=>?_,ih⟩
   rcases (J7 h2).1 hz with rfl|hz
   ·exact hb
   ·exact h1 z hz
  ·split
   ·exact h
   ·rename_i hb he
    have hxy:Yk x y=true:=by
     rcases ZdU x y with rfl|h|h
     ·exact absurd (UN.2 rfl) he
     ·exact h
     ·exact absurd h hb
    refine List.pairwise_cons.2 ⟨fun z hz=>?_,h⟩
    rcases List.mem_cons.1 hz with rfl|hz
    ·exact hxy
    ·exact zh hxy (h1 z hz)
theorem UQ {x z:Lk} {l:List Lk} (h:LkSorted l):z∈Y9 x l↔z=x∨z∈l:=by rw [zM];exact J7 h
theorem zH {x:Lk} {l:List Lk} (h:LkSorted l):LkSorted (Y9 x l):=by rw [zM];exact zO h
theorem Qf {α:Type}:∀ {l u:List α},l.Nodup→(∀ x∈l,x∈u)→l.length≤u.length
 | [],u,_,_=>Nat.zero_le _
 | x::l,u,h,hs=>by
  obtain ⟨h1,h2⟩:=List.nodup_cons.1 h
  obtain ⟨p,q,rfl⟩:=List.append_of_mem (hs x (List.mem_cons_self ..))
  have:=Qf (u:=p++q) h2 fun z hz=>by
   have hz' :=hs z (List.mem_cons_of_mem _ hz)
   simp only [List.mem_append,List.mem_cons] at hz' ⊢
   rcases hz' with h|rfl|h
   ·exact .inl h
   ·exact absurd hz h1
   ·exact .inr h
  simp only [List.length_append,List.length_cons] at this ⊢
  omega
def Zh6 (ns:List ByteArray):List Lk:=ns.flatMap fun a=>ns.map fun b=>⟨a,b⟩
theorem Zdf (ns:List ByteArray):(Zh6 ns).length=ns.length * ns.length:=Yu _ _ (fun _=>by simp) ns
def NamesIn (ns:List ByteArray) (l:List Lk):Prop:=∀ z∈l,z.a∈ns∧z.b∈ns
theorem NamesIn.len {ns:List ByteArray} {l:List Lk} (h:NamesIn ns l) (hs:LkSorted l):l.length≤ns.length * ns.length:=by
 rw [←Zdf]
 refine Qf hs.nodup fun x hx=>?_
 obtain ⟨h1,h2⟩:=h x hx
 exact List.mem_flatMap.2 ⟨x.a,h1,List.mem_map.2 ⟨x.b,h2,rfl⟩⟩
inductive Tr (l:List Lk):ByteArray→ByteArray→Prop
 | one {a b:ByteArray}:(⟨a,b⟩:Lk)∈l→Tr l a b
 | step {a b c:ByteArray}:Tr l a b→Tr l b c→Tr l a c
theorem Tr.mono {l l' :List Lk} (h:∀ z∈l,Tr l' z.a z.b) {a b:ByteArray} (ht:Tr l a b):Tr l' a b:=by
 induction ht with
 | one hm=>exact h _ hm
 | step _ _ h1 h2=>exact .step h1 h2
theorem Tr.names {ns:List ByteArray} {l:List Lk} (h:NamesIn ns l) {a b:ByteArray} (ht:Tr l a b):a∈ns∧b∈ns:=by
 induction ht with
 | one hm=>exact h _ hm
 | step _ _ h1 h2=>exact ⟨h1.1,h2.2⟩
def U1 (l r:List Lk):Prop:=LkSorted r∧∀ a b,(⟨a,b⟩:Lk)∈r↔Tr l a b
def Mid (l o:List Lk):Prop:=LkSorted o∧(∀ z∈l,z∈o)∧∀ z∈o,Tr l z.a z.b
theorem Mid.self {l:List Lk} (h:LkSorted l):Mid l l:=⟨h,fun _ h=>h,fun z h=>.one h⟩
theorem Mid.ins {l o:List Lk} (h:Mid l o) {x y:Lk} (hx:x∈l) (hy:y∈l) (he:x.b=y.a):Mid l (Y9 ⟨x.a,y.b⟩ o):=by
 refine ⟨zH h.1,fun z hz=>(UQ h.1).2 (.inr (h.2.1 z hz)),fun z hz=>?_⟩
 rcases (UQ h.1).1 hz with rfl|hz
 ·exact .step (b:=x.b) (.one hx) (by rw [he];exact .one hy)
 ·exact h.2.2 z hz
theorem Mid.names {ns:List ByteArray} {l o:List Lk} (h:Mid l o) (hn:NamesIn ns l):NamesIn ns o:=fun z hz=>Tr.names hn (h.2.2 z hz)
def Done1 (l o:List Lk) (x:Lk) (j:Nat):Prop:=∀ y∈l.take j,x.b=y.a→(⟨x.a,y.b⟩:Lk)∈o
def DoneN (l o:List Lk) (i:Nat):Prop:=∀ x∈l.take i,Done1 l o x l.length
theorem Zad {α:Type} {l:List α} {k:Nat} {x y:α} (hx:l[k]? =some x) (h:y∈l.take (k+1)):y=x∨y∈l.take k:=by
 obtain ⟨hk,rfl⟩:=List.getElem?_eq_some_iff.1 hx
 rw [List.take_succ_eq_append_getElem hk] at h
 rcases List.mem_append.1 h with h|h
 ·exact .inr h
 ·exact .inl (by simpa using h)
theorem Done1.succ {l o:List Lk} {x y:Lk} {j:Nat} (h:Done1 l o x j) (hy:l[j]? =some y) (hd:x.b=y.a→(⟨x.a,y.b⟩:Lk)∈o):Done1 l o x (j+1):=fun z hz he=>by
 rcases Zad hy hz with rfl|hz
 ·exact hd he
 ·exact h z hz he
theorem Done1.more {l o o' :List Lk} {x:Lk} {j:Nat} (h:Done1 l o x j) (hs:∀ z∈o,z∈o'):Done1 l o' x j:=fun z hz he=>hs _ (h z hz he)
theorem DoneN.more {l o o' :List Lk} {i:Nat} (h:DoneN l o i) (hs:∀ z∈o,z∈o'):DoneN l o' i:=fun x hx=>(h x hx).more hs
theorem DoneN.succ {l o:List Lk} {i:Nat} {x:Lk} (h:DoneN l o i) (hx:l[i]? =some x) (h1:Done1 l o x l.length):DoneN l o (i+1):=fun z hz=>by
 rcases Zad hx hz with rfl|hz
 ·exact h1
 ·exact h z hz
theorem Zgw {l0 l o:List Lk} (h:Mid l o) (hd:DoneN l o l.length) (hlen:o.length=l.length) (hl:LkSorted l) (h0:∀ z∈l0,z∈l) (h1:∀ z∈l,Tr l0 z.a z.b):U1 l0 o:=by
 have hsub:∀ z∈o,z∈l:=fun z hz=>by
  refine Classical.byContradiction fun hn=>?_
  have:=Qf (l:=z::l) (u:=o) (List.nodup_cons.2 ⟨hn,hl.nodup⟩) fun y hy=>by
   rcases List.mem_cons.1 hy with rfl|hy
   ·exact hz
   ·exact h.2.1 y hy
  simp only [List.length_cons] at this
  omega
 refine ⟨h.1,fun a b=>⟨fun hm=>h1 _ (hsub _ hm),fun ht=>?_⟩⟩
 induction ht with
 | one hm=>exact h.2.1 _ (h0 _ hm)
 | @step a b c _ _ i1 i2=>exact hd _ (by rw [List.take_length];exact hsub _ i1) _ (by rw [List.take_length];exact hsub _ i2) rfl
theorem Mid.len {l o:List Lk} (h:Mid l o) (hl:LkSorted l):l.length≤o.length:=Qf hl.nodup h.2.1
theorem Mid.trans {l0 l o:List Lk} (h:Mid l0 l) (k:Mid l o):Mid l0 o:=⟨k.1,fun z hz=>k.2.1 z (h.2.1 z hz),fun z hz=>Tr.mono h.2.2 (k.2.2 z hz)⟩
def ZdL (w:World) (M:Nat→Prop) (l:List Lk) (e:Ending) (w' :World):Prop:=∃ r,U1 l r∧ZbO w M r e w'
set_option maxHeartbeats 4000000 in
set_option maxRecDepth 100000 in
theorem ZfZ (M:Nat→Prop) (w:World) (hM:∀ b,M b→b<w.heap.size) (A:Option Addr) (n c:Nat) (l0:List Lk) (ns:List ByteArray) (hD:Ro w M (LksIn A n l0)) (hs:LkSorted l0) (hns:NamesIn ns l0) (hB:ns.length * ns.length≤1000000) (hc:n≤c) (hcm:c≤9223372036854775807):
  Calls Tryz.prog 108 #[.slice A n c] w fun e w' =>ZdL w M l0 e w' :=by
 have HB:=hid hB
 obtain ⟨B,hBB⟩:∃ B,ns.length * ns.length=B:=⟨_,rfl⟩
 rw [hBB] at hB
 have HBB:=hid hBB
 have K0:=(Hold.start M w hM).add (hD.less (by simp [Mut]))
 have HM0:=hid (Mid.self hs)
 have HNS:=hid hns
 have HS0:=hid hs
 clear hBB hns hs
 go_enter Tryz.func108,Tryz.ntmps108
 go_wp2_with fail
 go_loopg [0] B (fun gh v wr=>∃ (A:Option Addr) (n c:Nat) (l:List Lk),v=.slice A n c∧B≤n+gh∧n≤c∧c≤9223372036854775807∧Hid (Mid l0 l)∧Hold M none w wr [.ro (LksIn A n l)])
 case atStart=>exact ⟨A,n,c,l0,rfl,by omega,hc,hcm,HM0,K0⟩
 case round=>
  clear K0 hD hc hcm
  clear A n c
  obtain ⟨A,n,c,l,rfl,hgh,hc,hcm,HMl,H⟩:=hrel
  have hnl:=(H.ro 0 rfl).now.len
  have hnB:n≤B:=by rw [←hnl,←HBB.out];exact NamesIn.len (Mid.names HMl.out HNS.out) HMl.out.1
  have HL:=hid hnl;clear hnl
  have KS:=H.add (H.ro 0 rfl)
  go_wp2_with fail
  go_loopw [3,11] (fun v i wq=>∃ (A' :Option Addr) (n' c' k:Nat) (o:List Lk),v=.slice A' n' c' ∧k≤n∧i=.int .i64 k∧n' ≤c' ∧c' ≤9223372036854775807∧Hid (Mid l o)∧Hid (DoneN l o k)∧Hold M none w wq [.ro (LksIn A' n' o),.ro (LksIn A n l)]) (fun _ i _=>n - (intOf i).toNat)
  case atStart=>exact ⟨A,n,c,0,l,rfl,by omega,rfl,hc,hcm,hid (Mid.self HMl.out.1),hid (fun x hx=>by simp at hx),KS⟩
  case round=>
   clear KS H
   obtain ⟨A',n',c',k,o,rfl,hk,rfl,hc',hcm',HMo,HDN,H⟩:=hrel
   have hn'l:=(H.ro 0 rfl).now.len
   have hn'B:n' ≤B:=by rw [←hn'l,←HBB.out];exact NamesIn.len (Mid.names (HMl.out.trans HMo.out) HNS.out) HMo.out.1
   have HL' :=hid hn'l;clear hn'l
   have hnn:n≤n' :=by have:=HMo.out.len HMl.out.1;rw [HL.out,HL'.out] at this;exact this
   obtain ⟨wo,rfl⟩:∃ wo:World,wo=wr:=⟨_,rfl⟩
   by_cases hlt:k<n
   ·have hd:decide ((k:Int)<(n:Int))=true:=by simp;omega
    obtain ⟨x,hx⟩:=Zq HL.out hlt
    obtain ⟨g,oo,rfl,hb,c0,c1⟩:=(H.ro 1 rfl).now.at_ hx
    have HX:=hid hx;clear hx
    have K1:=H.Za #[.string x.a,.string x.b] 190
    have K2:=(K1.add (K1.ro 1 rfl)).drop (L' :=[.ro (LksIn A' n' o),.cst wo.heap.size 190 #[.string x.a,.string x.b],.ro (LksIn (some ⟨g,oo,none⟩) n l)]) (List.Sublist.cons_cons _ (List.Sublist.cons_cons _ (List.sublist_cons_self _ _)))
    clear K1
    go_wp2_with fail
    go_loopw [3,17] (fun v j wq=>∃ (A' :Option Addr) (n' c' p:Nat) (o:List Lk),v=.slice A' n' c' ∧p≤n∧j=.int .i64 p∧n' ≤c' ∧c' ≤9223372036854775807∧Hid (Mid l o)∧Hid (DoneN l o k)∧Hid (Done1 l o x p)∧Hold M none w wq [.ro (LksIn A' n' o),.cst wo.heap.size 190 #[.string x.a,.string x.b],.ro (LksIn (some ⟨g,oo,none⟩) n l)]) (fun _ j _=>n - (intOf j).toNat)
    case atStart=>exact ⟨A',n',c',0,o,rfl,by omega,rfl,hc',hcm',HMo,HDN,hid (fun y hy=>by simp at hy),K2⟩
    case round=>
     clear K2 H HL' HMo HDN hc' hcm' hn'B hnn
     obtain ⟨A',n',c',p,o,rfl,hp,rfl,hc',hcm',HMo,HDN,HD1,H⟩:=hrel
     have hn'l:=(H.ro 0 rfl).now.len
     have hn'B:n' ≤B:=by rw [←hn'l,←HBB.out];exact NamesIn.len (Mid.names (HMl.out.trans HMo.out) HNS.out) HMo.out.1
     have HL' :=hid hn'l;clear hn'l
     by_cases hlt2:p<n
     ·have hd2:decide ((p:Int)<(n:Int))=true:=by simp;omega
      obtain ⟨y,hy⟩:=Zq HL.out hlt2
      obtain ⟨g',o',ho',hb',e0,e1⟩:=(H.ro 2 rfl).now.at_ hy
      obtain ⟨rfl,rfl⟩:g=g' ∧oo=o' :=by injection ho' with ho';injection ho' with a1 a2;exact ⟨a1,a2⟩
      clear ho'
      have HY:=hid hy;clear hy
      have K3:=H.Za #[.string y.a,.string y.b] 190
      have F:=K3.facts
      simp only [World.size_alloc,World.size_drew,ZU,Zt,Nat.reduceAdd,List.toList_toArray,and_true,true_and] at F
      have F0:=H.facts
      simp only [World.size_alloc,World.size_drew,ZU,Zt,Nat.reduceAdd,List.toList_toArray,and_true,true_and] at F0
      cases h4:(x.b.toList==y.a.toList)
      ·have HE:=hid (show x.b≠y.a from fun e=>by rw [e] at h4;simp at h4)
       go_wp2_with fail
       go_roundw
       case rel=>exact ⟨A',n',c',p+1,o,rfl,by omega,by go_num,hc',hcm',HMo,HDN,hid (HD1.out.succ HY.out fun e=>absurd e HE.out),K3.drop (List.sublist_cons_self _ _)⟩
       case measure=>simp [intOf];omega
      ·have HE:=hid (show x.b=y.a from GN.1 h4)
       go_wp2_with fail
       refine (GD (Mut M _) _ K3.Zb A' n' c' o ⟨x.a,y.b⟩ (K3.ro 1 rfl) (by omega)).mono ?_
       rintro e w5 ⟨A5,n5,c5,rfl,h51,h52,h53,r5,b5⟩
       have H51:=hid h51;clear h51
       have K5:=((K3.call b5).add r5).drop (L' :=[.ro (LksIn A5 n5 (Y9 ⟨x.a,y.b⟩ o)),.cst wo.heap.size 190 #[.string x.a,.string x.b],.ro (LksIn (some ⟨g,oo,none⟩) n l)]) (List.Sublist.cons_cons _ (List.Sublist.cons _ (List.sublist_cons_self _ _)))
       have HM5:=hid (HMo.out.ins (List.mem_of_getElem? HX.out) (List.mem_of_getElem? HY.out) HE.out)
       have HI5:=hid (fun z (hz:z∈o)=>(UQ HMo.out.1).2 (Or.inr (b:=z∈o) (a:=z=⟨x.a,y.b⟩) hz))
       clear r5 b5 F F0
       go_wp2_with fail
       go_roundw
       case rel=>exact ⟨A5,n5,c5,p+1,_,rfl,by omega,by go_num,h52,h53,HM5,hid (HDN.out.more HI5.out),hid ((HD1.out.more HI5.out).succ HY.out fun _=>(UQ HMo.out.1).2 (.inl rfl)),K5⟩
       case measure=>simp [intOf];omega
     ·obtain rfl:p=n:=by omega
      go_wp2_with fail
      go_roundw
      case rel=>exact ⟨A',n',c',k+1,o,rfl,by omega,by go_num,hc',hcm',HMo,hid (HDN.out.succ HX.out (by rw [HL.out];exact HD1.out)),H.drop (List.Sublist.cons_cons _ (List.sublist_cons_self _ _))⟩
      case measure=>simp [intOf];omega
   ·obtain rfl:k=n:=by omega
    by_cases he:n' =k
    ·have hq:((n' :Int)==(k:Int))=true:=by rw [beq_iff_eq];omega
     have HE:=hid he;clear he
     go_wp2_with fail
     go_ret
     exact ⟨o,Zgw HMo.out (by rw [HL.out];exact HDN.out) (by rw [HL.out,HL'.out,HE.out]) HMl.out.1 HMl.out.2.1 HMl.out.2.2,A',n',c',rfl,HL'.out.symm,hc',hcm',H.ZP 0 rfl,H.below⟩
    ·have hq:((n' :Int)==(k:Int))=false:=by rw [beq_eq_false_iff_ne];omega
     cases gk with
     | succ go=>
      go_wp2_with fail
      go_roundg go
      case measure=>omega
      case rel=>exact ⟨A',n',c',o,rfl,by omega,hc',hcm',hid (HMl.out.trans HMo.out),H.drop (List.Sublist.cons_cons _ (List.nil_sublist _))⟩
     | zero=>omega
def Vs (l:List ByteArray):List Value:=l.map .string
def StrsIn (A:Option Addr) (n:Nat) (l:List ByteArray):World→Prop:=SlR 1 A n (Vs l)
theorem StrsIn.len {w:World} {A:Option Addr} {n:Nat} {l:List ByteArray} (h:StrsIn A n l w):l.length=n:=by
 have:=(show Rd w w.heap.size 1 A n (Vs l) from h).1
 simpa [Vs] using this
theorem StrsIn.at_ {w:World} {A:Option Addr} {n:Nat} {l:List ByteArray} (h:StrsIn A n l w) {k:Nat} {x:ByteArray} (hx:l[k]? =some x):
  ∃ b o,A=some ⟨b,o,none⟩∧b<w.heap.size∧w.cell? ⟨b,o+k,none⟩=some (.string x):=by
 have hk:k<n:=by rw [←h.len];exact (List.getElem?_eq_some_iff.1 hx).1
 obtain ⟨b,o,e,hb,hc⟩:=(show Rd w w.heap.size 1 A n (Vs l) from h).2 (by omega)
 exact ⟨b,o,e,hb,hc k _ (by simp [Vs,hx])⟩
theorem ZgA (l:List Lk):∀ u∈Wz l,u.oneCell' =true:=by
 intro u hu
 obtain ⟨x,_,hx⟩:=List.mem_flatMap.1 hu
 simp [Lk.cells] at hx
 rcases hx with rfl|rfl<;>rfl
theorem ZhE {l:List Lk} (h:YY l=true) {i:Nat} (hi:i<l.length):XQ l i=true:=by
 unfold YY at h
 rw [List.all_eq_true] at h
 exact h i (by simpa using hi)
theorem Zbx:∀ {l:List Lk},(∀ i,i+1<l.length→Yk (XC l i) (XC l (i+1))=true)→LkSorted l
 | [],_=>List.Pairwise.nil
 | [x],_=>List.pairwise_singleton _ _
 | x::y::l,h=>by
  have ih:LkSorted (y::l):=Zbx fun i hi=>by
   have:=h (i+1) (by simp at hi ⊢;omega)
   simpa [XC] using this
  have hxy:Yk x y=true:=by have:=h 0 (by simp);simpa [XC] using this
  refine List.pairwise_cons.2 ⟨fun z hz=>?_,ih⟩
  rcases List.mem_cons.1 hz with rfl|hz
  ·exact hxy
  ·exact zh hxy ((List.pairwise_cons.1 ih).1 z hz)
theorem Zd9 {l:List Lk} (h:YY l=true):LkSorted l:=Zbx fun i hi=>by
 have:=ZhE h hi
 unfold XQ at this
 simp only [Bool.and_eq_true,Bool.or_eq_true] at this
 rcases this.1.2 with h1|h1
 ·simp at h1
 ·simpa using h1
def Xn (f:ByteArray→Lk) (o:List Lk) (ss:List ByteArray):List Lk:=ss.foldl (fun o s=>Y9 (f s) o) o
theorem Zb1 (f:ByteArray→Lk) (o:List Lk) {ss:List ByteArray} {k:Nat} {s:ByteArray} (h:ss[k]? =some s):Xn f o (ss.take (k+1))=Y9 (f s) (Xn f o (ss.take k)):=by
 obtain ⟨hk,rfl⟩:=List.getElem?_eq_some_iff.1 h
 unfold Xn
 rw [List.take_succ_eq_append_getElem hk,List.foldl_append]
 rfl
theorem Un (f:ByteArray→Lk):∀ (ss:List ByteArray) (o:List Lk),LkSorted o→LkSorted (Xn f o ss)∧∀ z,z∈Xn f o ss↔z∈o∨∃ s∈ss,z=f s
 | [],o,h=>⟨h,fun z=>by simp [Xn]⟩
 | s::ss,o,h=>by
  obtain ⟨h1,h2⟩:=Un f ss (Y9 (f s) o) (zH h)
  refine ⟨h1,fun z=>?_⟩
  show z∈Xn f (Y9 (f s) o) ss↔_
  rw [h2 z,UQ h]
  simp only [List.mem_cons,exists_eq_or_imp]
  constructor
  ·rintro ((h|h)|h)
   ·exact .inr (.inl h)
   ·exact .inl h
   ·exact .inr (.inr h)
  ·rintro (h|h|h)
   ·exact .inl (.inr h)
   ·exact .inl (.inl h)
   ·exact .inr h
theorem Qp {ns:List ByteArray} {f:ByteArray→Lk} {ss:List ByteArray} {o:List Lk} (hs:LkSorted o) (ho:NamesIn ns o) (hf:∀ s∈ss,(f s).a∈ns∧(f s).b∈ns):NamesIn ns (Xn f o ss):=fun z hz=>by
 rcases ((Un f ss o hs).2 z).1 hz with h|⟨s,h,rfl⟩
 ·exact ho z h
 ·exact hf s h
def QC (l:List Lk) (nm:ByteArray) (ps fs:List ByteArray):List Lk:=Xn (fun s=>⟨s,nm⟩) (Xn (fun s=>⟨nm,s⟩) l ps) fs
def ZcR (w:World) (M:Nat→Prop) (l:List Lk) (nm:ByteArray) (ps fs:List ByteArray) (e:Ending) (w' :World):Prop:=
 Below w.heap.size w w' ∧((YY l=false∧e=.returned (.tuple #[.slice none 0 0,.int .i64 17]))∨
  (YY l=true∧∃ r,U1 (QC l nm ps fs) r∧((YY r=false∧e=.returned (.tuple #[.slice none 0 0,.int .i64 13]))∨
   (YY r=true∧∃ (A:Option Addr) (n c:Nat),e=.returned (.tuple #[.slice A n c,.int .i64 0])∧n=r.length∧n≤c∧c≤9223372036854775807∧Ro w' M (LksIn A n r)))))
set_option maxHeartbeats 4000000 in
set_option maxRecDepth 100000 in
theorem Zgi (M:Nat→Prop) (w:World) (hM:∀ b,M b→b<w.heap.size) (A:Option Addr) (n c:Nat) (l:List Lk) (nm:ByteArray) (A1:Option Addr) (n1 c1:Nat) (ps:List ByteArray) (A2:Option Addr) (n2 c2:Nat) (fs:List ByteArray) (ns:List ByteArray)
  (hD:Ro w M (LksIn A n l)) (hP:Ro w M (StrsIn A1 n1 ps)) (hF:Ro w M (StrsIn A2 n2 fs)) (hl:NamesIn ns l) (hnm:nm∈ns) (hps:∀ s∈ps,s∈ns) (hfs:∀ s∈fs,s∈ns) (hB:ns.length * ns.length≤1000000) (hn:n≤1000000) (hn1:n1≤1000000) (hn2:n2≤1000000):
  Calls Tryz.prog 46 #[.slice A n c,.string nm,.slice A1 n1 c1,.slice A2 n2 c2] w fun e w' =>ZcR w M l nm ps fs e w' :=by
 have HL:=hid hD.now.len
 have HP:=hid hP.now.len
 have HF:=hid hF.now.len
 have K0:=((((Hold.start M w hM).add (hF.less (by simp [Mut]))).add (hP.less (by simp [Mut,Hp.foot]))).add (hD.less (by simp [Mut,Hp.foot])))
 cases hv:YY l
 ·have HV:=hid hv;clear hv
  go_enter Tryz.func46,Tryz.ntmps46
  go_wp2_with fail
  refine (QV (Mut M _) _ K0.Zb A n c l (K0.ro 0 rfl) hn).mono ?_
  rintro e w1 ⟨rfl,b1⟩
  rw [HV.out]
  have K1:=K0.call b1
  go_wp2_with fail
  go_ret2
  exact ⟨K1.below,.inl ⟨HV.out,rfl⟩⟩
 have HV:=hid hv;clear hv
 have HS:=hid (Zd9 HV.out)
 have HNM:=hid (And.intro hl (And.intro hnm (And.intro hps hfs)))
 clear hl hnm hps hfs
 go_enter Tryz.func46,Tryz.ntmps46
 go_wp2_with fail
 refine (QV (Mut M _) _ K0.Zb A n c l (K0.ro 0 rfl) hn).mono ?_
 rintro e w1 ⟨rfl,b1⟩
 rw [HV.out]
 have K1:=(K0.call b1).nil 190 2
 have r1:=hid (K1.ro 1 rfl).now
 clear b1
 go_wp2_with (at_builtin;go_must (refine ZW K1 0 rfl Tryz.Ub r1.out rfl (.const (.slice none 0 0)) (.tmp 18) rfl rfl rfl (ZgA _) (by omega) (by omega) ?_);intro C' cap' w2 hc1 hc2 K2)
 have K3:=K2.Zu 0 rfl
 simp only [List.set_cons_zero,Nat.zero_add,List.nil_append] at K3 hc1
 have K3:Hold M none w w2 [.ro (LksIn C' n l),.ro (LksIn A n l),.ro (StrsIn A1 n1 ps),.ro (StrsIn A2 n2 fs)]:=K3
 have K4:=K3.drop (List.Sublist.cons_cons _ (List.sublist_cons_self _ _))
 clear K1 K2 K3 r1
 go_loopw [10,22] (fun v i wr=>∃ (A' :Option Addr) (n' c' k:Nat) (o:List Lk),v=.slice A' n' c' ∧k≤n1∧i=.int .i64 k∧n' ≤c' ∧c' ≤9223372036854775807∧Hid (o=Xn (fun s=>⟨nm,s⟩) l (ps.take k))∧Hold M none w wr [.ro (LksIn A' n' o),.ro (StrsIn A1 n1 ps),.ro (StrsIn A2 n2 fs)]) (fun _ i _=>n1 - (intOf i).toNat)
 case atStart=>exact ⟨_,_,_,0,l,by first|rfl|simp,by omega,rfl,hc1,hc2,hid rfl,K4⟩
 case round=>
  clear K4 hc1 hc2
  obtain ⟨A',n',c',k,o,rfl,hk,rfl,hc',hcm',HO,H⟩:=hrel
  have hn'l:=(H.ro 0 rfl).now.len
  have HSO:=hid (show LkSorted o∧NamesIn ns o by rw [HO.out];exact ⟨(Un _ _ l HS.out).1,Qp HS.out HNM.out.1 fun s hs=>⟨HNM.out.2.1,HNM.out.2.2.1 s (List.mem_of_mem_take hs)⟩⟩)
  have hn'B:n' ≤1000000:=by rw [←hn'l];exact Nat.le_trans (NamesIn.len HSO.out.2 HSO.out.1) hB
  clear hn'l
  by_cases hlt:k<n1
  ·have hd:decide ((k:Int)<(n1:Int))=true:=by simp;omega
   obtain ⟨s,hs⟩:=Zq HP.out hlt
   obtain ⟨g,oo,rfl,hb,c0⟩:=(H.ro 1 rfl).now.at_ hs
   have HX:=hid (Zb1 (fun s=>(⟨nm,s⟩:Lk)) l hs);clear hs
   go_wp2_with fail
   refine (GD (Mut M _) _ H.Zb A' n' c' o ⟨nm,s⟩ (H.ro 0 rfl) hn'B).mono ?_
   rintro e w5 ⟨A5,n5,c5,rfl,h51,h52,h53,r5,b5⟩
   have H51:=hid h51;clear h51
   have K5:=((H.call b5).add r5).drop (List.Sublist.cons_cons _ (List.sublist_cons_self _ _))
   clear r5 b5
   go_wp2_with fail
   go_roundw
   case rel=>exact ⟨A5,n5,c5,k+1,_,rfl,by omega,by go_num,h52,h53,hid (by rw [HX.out,←HO.out]),K5⟩
   case measure=>simp [intOf];omega
  ·obtain rfl:n1=k:=by omega
   have HO1:=hid (show o=Xn (fun s=>⟨nm,s⟩) l ps by have:=HO.out;rwa [List.take_of_length_le (by rw [HP.out];omega)] at this)
   have HSO1:=HSO
   clear HO hlt
   have KN:=H.drop (List.Sublist.cons_cons _ (List.sublist_cons_self _ _))
   clear H hn'B HSO
   go_wp2_with fail
   go_loopw [10,34] (fun v i wr=>∃ (A' :Option Addr) (n' c' k:Nat) (o2:List Lk),v=.slice A' n' c' ∧k≤n2∧i=.int .i64 k∧n' ≤c' ∧c' ≤9223372036854775807∧Hid (o2=Xn (fun s=>⟨s,nm⟩) o (fs.take k))∧Hold M none w wr [.ro (LksIn A' n' o2),.ro (StrsIn A2 n2 fs)]) (fun _ i _=>n2 - (intOf i).toNat)
   case atStart=>exact ⟨_,_,_,0,o,rfl,by omega,rfl,hc',hcm',hid rfl,KN⟩
   case round=>
    clear KN hc' hcm'
    obtain ⟨A',n',c',k,o2,rfl,hk,rfl,hc',hcm',HO,H⟩:=hrel
    have hn'l:=(H.ro 0 rfl).now.len
    have HSO:=hid (show LkSorted o2∧NamesIn ns o2 by rw [HO.out];exact ⟨(Un _ _ o HSO1.out.1).1,Qp HSO1.out.1 HSO1.out.2 fun s hs=>⟨HNM.out.2.2.2 s (List.mem_of_mem_take hs),HNM.out.2.1⟩⟩)
    have hn'B:n' ≤1000000:=by rw [←hn'l];exact Nat.le_trans (NamesIn.len HSO.out.2 HSO.out.1) hB
    clear hn'l
    by_cases hlt:k<n2
    ·have hd:decide ((k:Int)<(n2:Int))=true:=by simp;omega
     obtain ⟨s,hs⟩:=Zq HF.out hlt
     obtain ⟨g,oo,rfl,hb,c0⟩:=(H.ro 1 rfl).now.at_ hs
     have HX:=hid (Zb1 (fun s=>(⟨s,nm⟩:Lk)) o hs);clear hs
     go_wp2_with fail
     refine (GD (Mut M _) _ H.Zb A' n' c' o2 ⟨s,nm⟩ (H.ro 0 rfl) hn'B).mono ?_
     rintro e w5 ⟨A5,n5,c5,rfl,h51,h52,h53,r5,b5⟩
     have H51:=hid h51;clear h51
     have K5:=((H.call b5).add r5).drop (List.Sublist.cons_cons _ (List.sublist_cons_self _ _))
     clear r5 b5
     go_wp2_with fail
     go_roundw
     case rel=>exact ⟨A5,n5,c5,k+1,_,rfl,by omega,by go_num,h52,h53,hid (by rw [HX.out,←HO.out]),K5⟩
     case measure=>simp [intOf];omega
    ·obtain rfl:n2=k:=by omega
     have HO2:=hid (show o2=QC l nm ps fs by have:=HO.out;rw [List.take_of_length_le (by rw [HF.out];omega),HO1.out] at this;exact this)
     clear HO hlt
     go_wp2_with fail
     refine (ZfZ (Mut M _) _ H.Zb A' n' c' o2 ns (H.ro 0 rfl) HSO.out.1 HSO.out.2 hB hc' hcm').mono ?_
     rintro e w6 ⟨r,hr,A6,n6,c6,rfl,h61,h62,h63,r6,b6⟩
     have hn6:n6≤1000000:=by rw [h61];exact Nat.le_trans (NamesIn.len (fun z hz=>Tr.names HSO.out.2 ((hr.2 z.a z.b).1 hz)) hr.1) hB
     have HR:=hid (show U1 (QC l nm ps fs) r by rw [←HO2.out];exact hr)
     have H61:=hid h61
     have K6:=(H.call b6).add r6
     clear r6 b6 hr h61
     cases hvr:YY r
     ·have HVR:=hid hvr;clear hvr
      go_wp2_with fail
      refine (QV (Mut M _) _ K6.Zb A6 n6 c6 r (K6.ro 0 rfl) hn6).mono ?_
      rintro e w7 ⟨rfl,b7⟩
      rw [HVR.out]
      have K7:=K6.call b7
      clear b7
      go_wp2_with fail
      go_ret2
      exact ⟨K7.below,.inr ⟨HV.out,r,HR.out,.inl ⟨HVR.out,rfl⟩⟩⟩
     ·have HVR:=hid hvr;clear hvr
      go_wp2_with fail
      refine (QV (Mut M _) _ K6.Zb A6 n6 c6 r (K6.ro 0 rfl) hn6).mono ?_
      rintro e w7 ⟨rfl,b7⟩
      rw [HVR.out]
      have K7:=K6.call b7
      clear b7
      go_wp2_with fail
      go_ret2
      exact ⟨K7.below,.inr ⟨HV.out,r,HR.out,.inr ⟨HVR.out,A6,n6,c6,rfl,H61.out,h62,h63,K7.ZP 0 rfl⟩⟩⟩
end Go.Proofs.YtnbbllkbefagmaaGreatDoor
namespace Go.Proofs.YtnbbllkbefagmaaGreatDoor

end Go.Proofs.YtnbbllkbefagmaaGreatDoor
namespace Go.Proofs.YtnbbllkbefagmaaGreatDoor
open Go.RowKit
set_option linter.unusedVariables false
set_option linter.unusedSimpArgs false
theorem GR:∀ l:List ByteArray,l.flatMap ZG=Vs l
 | []=>rfl
 | x::l=>by
  have ih:=GR l
  simp only [List.flatMap_cons,Vs,List.map_cons,ZG,List.cons_append,List.nil_append] at ih ⊢
  rw [←ih]
theorem zt {A:Option Addr} {n:Nat} {l:List ByteArray} {w:World} (h:SlR 1 A n (l.flatMap ZG) w):StrsIn A n l w:=by
 rw [GR] at h
 exact h
def Ym (j:Nat):ByteArray:=⟨#[UInt8.ofNat (97+j),UInt8.ofNat (97+j)]⟩
def TNm (w:World):Prop:=∀ j,j<8→w.cell? ⟨0,j,none⟩=some (.string (Ym j))
def TgsOk (l:List Tg):Prop:=(∀ i t,l[i]? =some t→t.name=Ym i)∧∀ t∈l,TgGd 5 t∧Wi t.tab
theorem Zdh:TgsOk []:=⟨fun i t h=>by simp at h,fun t h=>(nomatch h)⟩
theorem TgsOk.snoc {l:List Tg} {t:Tg} (h:TgsOk l) (h1:t.name=Ym l.length) (h2:TgGd 5 t) (h3:Wi t.tab):TgsOk (l++[t]):=⟨fun i x hx=>by
 rcases Nat.lt_or_ge i l.length with hi|hi
 ·rw [List.getElem?_append_left hi] at hx
  exact h.1 i x hx
 ·rw [List.getElem?_append_right hi] at hx
  rcases Nat.eq_zero_or_pos (i - l.length) with h0|h0
  ·rw [h0] at hx
   obtain rfl:t=x:=by simpa using hx
   rw [h1];congr 1;omega
  ·rw [List.getElem?_eq_none (by simp;omega)] at hx
   exact (nomatch hx),fun x hx=>by
 rcases List.mem_append.1 hx with hx|hx
 ·exact h.2 x hx
 ·simp only [List.mem_cons,List.not_mem_nil,or_false] at hx
  subst hx
  exact ⟨h2,h3⟩⟩
theorem Zfa {l:List Lk} {nm:ByteArray} {ps fs ns:List ByteArray} (hl:LkSorted l) (h:NamesIn ns l) (hn:nm∈ns) (hp:∀ s∈ps,s∈ns) (hf:∀ s∈fs,s∈ns):NamesIn ns (QC l nm ps fs):=
 Qp (Un _ _ l hl).1 (Qp hl h fun y hy=>⟨hn,hp y hy⟩) fun y hy=>⟨hf y hy,hn⟩
theorem Zet {l r:List Lk} {ns:List ByteArray} (h:U1 l r) (hn:NamesIn ns l):NamesIn ns r:=fun z hz=>Tr.names hn ((h.2 z.a z.b).1 hz)
def OrdOk (B:Nat) (ol:List Lk):Prop:=YY ol=true∧LkSorted ol∧∃ ns:List ByteArray,ns.length≤17 * B∧NamesIn ns ol
theorem OrdOk.le {B B' :Nat} {ol:List Lk} (h:OrdOk B ol) (hb:B≤B'):OrdOk B' ol:=by
 obtain ⟨h1,h2,ns,h3,h4⟩:=h
 exact ⟨h1,h2,ns,by omega,h4⟩
def Uw (M:Nat→Prop) (u:Value) (w:World):Prop:=∃ (A:Option Addr) (c:Nat) (l:List Te),u=.slice A 3 c∧(∀ x∈l,1≤x.n∧x.n≤4)∧Ro w M (TesIn A 3 l)
theorem ZdH {M:Nat→Prop} (u:Value) (w w' :World) (hr:RM M w w') (h:Uw M u w):Uw M u w' :=by
 obtain ⟨A,c,l,h1,h2,h3⟩:=h
 exact ⟨A,c,l,h1,h2,hr.ro h3⟩
def Zf2 (w:World) (T:Nat) (M:Nat→Prop) (N:Nat) (e:Ending) (w' :World):Prop:=∃ (A:Option Addr) (n c:Nat) (l:List Tg) (O:Option Addr) (on oc:Nat) (ol:List Lk),e=.returned (.tuple #[.slice A n c,.slice O on oc])∧l.length=n∧n≤N∧n≤c∧c≤9223372036854775807∧TgsOk l∧OrdOk N ol∧Ro w' M (Wx 5 A n l)∧Ro w' M (LksIn O on ol)∧Tp w' T∧w.grownBy w' (some T)
theorem Tryz.Zij:ElemT Tryz.prog 25 40 11 200 (.agg #[.string ⟨#[]⟩,.string ⟨#[]⟩,.bool false,.int .i64 0,.slice none 0 0,.bool false,.slice none 0 0,.slice none 0 0,.slice none 0 0,.slice none 0 0,.slice none 0 0]):=⟨Tryz.underlying25,by kernel_rfl,rfl,by omega⟩
set_option maxHeartbeats 16000000 in
set_option maxRecDepth 100000 in
theorem Ze2 (M:Nat→Prop) (T:Nat) (w:World) (hM:∀ b,M b→b<w.heap.size) (ht:Tp w T) (hMT:∀ b,M b→T≤b) (N:Nat) (hN:N≤8) (hW:Ro w (Mut M [.tp T]) Wds) (hT:1<T) (hTN:Ro w (Mut M [.tp T]) TNm):Calls Tryz.prog 9 #[.pointer (some ⟨T,0,none⟩),.int .i64 N] w fun e w' =>Zf2 w T M N e w' :=by
 have K0:=((((Hold.Y5 M w T hM ht hMT).add hW).add (hTN.less (by simp [ZI,Mut,Hp.foot]))).add (S:=Vd 5 []) (fun w2 _ _ x hx=>(nomatch hx))).nil 40 11
 clear hW hTN
 have hw1:IntKind.i64.wrap ((N:Int)+1)=((N+1:Nat):Int):=by rw [IntWalk.i64_in _ (by omega)];omega
 go_enter Tryz.func9,Tryz.ntmps9
 go_wp2_with fail
 refine (ZT T (N+1) _ (K0.tp_ 4 rfl) (by omega) (by omega)).mono ?_
 rintro e w1 ⟨r,rfl,r0,r1,t1,g1⟩
 have K1:=Hold.Zf K0 4 rfl g1 t1
 clear K0 t1 g1 hw1
 obtain ⟨q,rfl⟩:∃ q:Nat,r=(q:Int):=⟨r.toNat,by omega⟩
 have hq:q≤N:=by omega
 clear r0 r1
 go_wp2_with fail
 go_loopw [6,7,8] (fun lv ov iv wr=>∃ (i k cap:Nat) (A:Option Addr) (l:List Tg) (O:Option Addr) (on oc:Nat) (ol:List Lk),i≤q∧k+i≤q∧l.length=k∧lv=.slice A k cap∧ov=.slice O on oc∧iv=.int .i64 i∧Hid (TgsOk l∧OrdOk (q - i) ol)∧Ro wr (Mut M [.own 40 11 (.slice A k cap) k (Xw l),.ro (Vd 5 l),.ro TNm,.ro Wds,.tp T]) (LksIn O on ol)∧Hold M (some T) w wr [.own 40 11 (.slice A k cap) k (Xw l),.ro (Vd 5 l),.ro TNm,.ro Wds,.tp T]) (fun _ _ iv _=>(intOf iv).toNat)
 case atStart=>exact ⟨q,0,0,none,[],none,0,0,[],by omega,by omega,rfl,rfl,rfl,rfl,hid ⟨Zdh,by
  refine ⟨by decide,List.Pairwise.nil,[],by simp,fun z hz=>(nomatch hz)⟩⟩,fun w2 _ _=>ZE 2 w2,K1⟩
 case round=>
  clear K1
  obtain ⟨i,k,cap,A,l,O,on,oc,ol,hi,hki,hlk,rfl,rfl,rfl,HOK,ho,H⟩:=hrel
  have HLK:=hid hlk
  clear hlk
  rcases Nat.eq_zero_or_pos i with h0|h0
  ·subst h0
   have hcap:=ZR (H.get 0 rfl)
   have KZ:=H.Zu 0 rfl
   simp only [List.set_cons_zero] at KZ
   have hR:Ro _ _ (Wx 5 A k l):=((KZ.ro 0 rfl).and (KZ.ro 1 rfl)).imp fun w2 h2=>⟨h2.1,h2.2⟩
   have HR:=hid (hR.less zm)
   have HO:=hid (ho.less zm)
   have HT:=hid (And.intro (KZ.tp_ 4 rfl) KZ.grow)
   clear KZ H hR ho
   go_wp2_with fail
   go_ret2
   exact ⟨A,k,cap,l,O,on,oc,ol,rfl,HLK.out,by omega,hcap.1,hcap.2.1,HOK.out.1,(by
    obtain ⟨h1,h2,ns,h3,h4⟩:=HOK.out.2
    exact ⟨h1,h2,ns,by omega,h4⟩),HR.out,HO.out,HT.out.1,HT.out.2⟩
  ·have hi0:(0:Int)<(i:Int):=by omega
   have hk8:(k:Int)<8:=by omega
   have hwi:IntKind.i64.wrap ((i:Int) - 1)=((i - 1:Nat):Int):=by rw [IntWalk.i64_in _ (by omega)];omega
   have c0:=(H.ro 2 rfl).now k (by omega)
   have hcap:=ZR (H.get 0 rfl)
   have KL:=H.add ho
   have hsl:Ro wr (fun b=>b=T) (SlR 11 A k (Xw l)):=by
    have KZ:=H.Zu 0 rfl
    simp only [List.set_cons_zero] at KZ
    exact (KZ.ro 0 rfl).less (fun b hb=>by subst hb;exact (Zk (i:=4) rfl) _ (by simp [ZI,Hp.foot]))
   clear H ho
   go_wp2_with fail
   clear c0
   refine (ZgM (Mut M _) T _ KL.Zb (KL.tp_ 5 rfl) (KL.get 5 rfl).2 (Ym k) A k cap l hsl (by omega) ((KL.ro 4 rfl).less (Zk (i:=5) rfl)) hT).mono ?_
   rintro e w2 ⟨x,rfl,hxg,hxn,hxt,rx,t2,g2⟩
   obtain ⟨xn,xt,xb,xe,⟨oA,onn,occ,oll⟩,xch,⟨pA,pn,pc,pl⟩,⟨qA,qn,qc,ql⟩,⟨rA,rn,rc,rl⟩,⟨kA,kn,kc,kl⟩,⟨aA,an,ac,al⟩⟩:=x
   have HXG:=hid hxg
   have HXT:=hid hxt
   have hxn:xn=Ym k:=hxn
   subst hxn
   have KA:=((Hold.Zf KL 5 rfl g2 t2).add rx).Za #[.string (Ym k),.string xt,.bool xb,.int .i64 xe,.slice oA onn occ,.bool xch,.slice pA pn pc,.slice qA qn qc,.slice rA rn rc,.slice kA kn kc,.slice aA an ac] 40
   clear KL hsl g2 t2 rx hxg hxt
   obtain ⟨gt,hgt⟩:∃ g,g=w2.heap.size:=⟨_,rfl⟩
   rw [←hgt] at KA
   rw [show (Tg.val ⟨Ym k,xt,xb,xe,⟨oA,onn,occ,oll⟩,xch,⟨pA,pn,pc,pl⟩,⟨qA,qn,qc,ql⟩,⟨rA,rn,rc,rl⟩,⟨kA,kn,kc,kl⟩,⟨aA,an,ac,al⟩⟩)=.agg #[.string (Ym k),.string xt,.bool xb,.int .i64 xe,.slice oA onn occ,.bool xch,.slice pA pn pc,.slice qA qn qc,.slice rA rn rc,.slice kA kn kc,.slice aA an ac] from rfl]
   obtain ⟨KM,hKM,K6⟩:=KA.name
   have H1:∀ wv:World,Hold M (some T) w wv KM→Blk wv gt 40 #[.string (Ym k),.string xt,.bool xb,.int .i64 xe,.slice oA onn occ,.bool xch,.slice pA pn pc,.slice qA qn qc,.slice rA rn rc,.slice kA kn kc,.slice aA an ac]:=fun wv h=>by rw [hKM] at h;exact h.ZB 0 rfl
   have H2:∀ wv:World,Hold M (some T) w wv KM→Ro wv (Mut M KM) (Yg 5 ⟨Ym k,xt,xb,xe,⟨oA,onn,occ,oll⟩,xch,⟨pA,pn,pc,pl⟩,⟨qA,qn,qc,ql⟩,⟨rA,rn,rc,rl⟩,⟨kA,kn,kc,kl⟩,⟨aA,an,ac,al⟩⟩):=fun wv h=>by rw [hKM] at h ⊢;exact h.ro 1 rfl
   have HH1:=hid H1
   have HH2:=hid H2
   have HKM:=hid hKM
   clear hKM H1 H2 KA
   go_upto_region 7 with fail
   rw [←hgt]
   have HGT:=hid hgt
   clear hgt
   refine wp_region_any (by kernel_rfl) ?_
   refine Zp 3 51 (KM) (spL [(28,Uw (Mut M KM)),(29,fun u _=>∃ c:Int,u=.int .i64 c)]) (by kernel_rfl) (by kernel_rfl) (by kernel_rfl) rfl ?_ (K6.drew) ?_
   ·exact Ze ZdH (Ze (fun _ _ _ _ h=>h) (Zo _))
   simp only [zd,Act.put,List.getElem_toArray,List.getElem_cons_zero,List.getElem_cons_succ,zl]
   refine' dv rfl rfl rfl (fun wv HC=>?_) ?_;rotate_left
   ·obtain q0:=(HH1.out _ HC).cell 0;obtain q1:=(HH1.out _ HC).cell 1;obtain q2:=(HH1.out _ HC).cell 2;obtain q3:=(HH1.out _ HC).cell 3;obtain q4:=(HH1.out _ HC).cell 4;obtain q5:=(HH1.out _ HC).cell 5;obtain q6:=(HH1.out _ HC).cell 6;obtain q7:=(HH1.out _ HC).cell 7;obtain q8:=(HH1.out _ HC).cell 8;obtain q9:=(HH1.out _ HC).cell 9;obtain q10:=(HH1.out _ HC).cell 10;go_simp<;>rfl
   simp only [Act.put,zl]
   refine Zm 28 (Uw (Mut M KM)) (f:=45) (args:=#[.slice none 0 0]) rfl rfl rfl rfl (fun wv=>?_) (fun wv HC hrm hD=>?_) ?_
   ·go_simp<;>rfl
   ·refine (Zf6 (Mut M KM) wv HC.Zb).mono ?_
    rintro e w5 ⟨yA,yc,yl,rfl,hyl,ry,b5⟩
    exact ⟨_,rfl,⟨yA,yc,yl,rfl,hyl,ry⟩,HC.call b5,RM.below b5⟩
   rintro u wx HCx ⟨yA,yc,yl,rfl,hyl,ry⟩
   clear HCx hyl ry
   simp only [Act.put,zl]
   refine Zm 29 (fun u _=>∃ c:Int,u=.int .i64 c) (f:=44) (args:=#[.agg #[.string (Ym k),.string xt,.bool xb,.int .i64 xe,.slice oA onn occ,.bool xch,.slice pA pn pc,.slice qA qn qc,.slice rA rn rc,.slice kA kn kc,.slice aA an ac],.slice yA 3 yc]) rfl rfl rfl rfl (fun wv=>?_) (fun wv HC hrm hD=>?_) ?_
   ·go_simp<;>rfl
   ·have h1:Uw (Mut M KM) (.slice yA 3 yc) wv:=ZM hD 1 rfl (by kernel_rfl) rfl rfl
    obtain ⟨yA',yc',yl',e',hyl,ry⟩:=h1
    obtain ⟨rfl,rfl⟩:yA=yA' ∧yc=yc' :=by injection e' with e1 e2 e3;exact ⟨e1,e3⟩
    refine (Ze3 5 (by omega) ⟨Ym k,xt,xb,xe,⟨oA,onn,occ,oll⟩,xch,⟨pA,pn,pc,pl⟩,⟨qA,qn,qc,ql⟩,⟨rA,rn,rc,rl⟩,⟨kA,kn,kc,kl⟩,⟨aA,an,ac,al⟩⟩ yA 3 yc yl' wv ((HH2.out _ HC).less zn) HXG.out (ry.less zn) (by omega) (fun x hx=>⟨(hyl x hx).1,by have:=(hyl x hx).2;omega⟩)).mono ?_
    rintro e w5 ⟨cd,rfl,b5⟩
    exact ⟨_,rfl,⟨_,rfl⟩,HC.call b5,RM.below b5⟩
   rintro u wx HCx ⟨cd,rfl⟩
   clear HCx
   simp only [Act.put,zl]
   refine Zj ?_
   rintro wx3 HX
   rintro _hrm HGW
   clear HGW _hrm
   rw [HKM.out] at HX
   clear HH1 HH2 HKM K6
   have F4:=HX.facts
   simp only [zg] at F4
   have HQ:=hid (show k+(i - 1)≤q∧i - 1≤q by omega)
   obtain ⟨z,hz⟩:∃ z:Bool,(cd !=0)=z:=⟨_,rfl⟩
   cases z
   ·have HPL:=hid (show pl.length=pn from SlP.In.len (s:=⟨pA,pn,pc,pl⟩) (k:=1) (cel:=ZG) (P:=fun _ _=>True) (HX.ro 1 rfl).now.2.1 (by omega) (fun _=>rfl))
    have HQL:=hid (show ql.length=qn from SlP.In.len (s:=⟨qA,qn,qc,ql⟩) (k:=1) (cel:=ZG) (P:=fun _ _=>True) (HX.ro 1 rfl).now.2.2.1 (by omega) (fun _=>rfl))
    have HOL:=hid (show ol.length=on from (show LksIn O on ol _ from (HX.ro 2 rfl).now).len)
    obtain ⟨hv,hs,ns,h3,h4⟩:=HOK.out.2
    have HNS:=hid (show ∃ NS:List ByteArray,NS.length≤17 * (q - (i - 1))∧NamesIn NS ol∧Ym k∈NS∧(∀ s∈pl,s∈NS)∧∀ s∈ql,s∈NS from by
     refine ⟨Ym k::(pl++(ql++ns)),?_,?_,by simp,fun s hs=>by simp [hs],fun s hs=>by simp [hs]⟩
     ·have e1:pl.length≤8:=HXG.out.p.2.1
      have e2:ql.length≤8:=HXG.out.f.2.1
      simp only [List.length_cons,List.length_append]
      omega
     ·intro z hz
      have:=h4 z hz
      exact ⟨by simp [this.1],by simp [this.2]⟩)
    have HSO:=hid hs
    have HON:=hid (show on≤1000000 from by
     have e:=h4.len hs
     have e2:ns.length≤136:=by omega
     have e3:=Nat.mul_le_mul e2 e2
     rw [←HOL.out]
     omega)
    clear hv hs h3 h4
    obtain ⟨NS,n1,n2,n3,n4,n5⟩:=HNS.out
    have HN1:=hid n1
    have HN2:=hid n2
    have HN3:=hid n3
    have HN4:=hid n4
    have HN5:=hid n5
    clear HNS n1 n2 n3 n4 n5
    go_wp2_with fail
    refine (Zgi (Mut M _) _ HX.Zb O on oc ol (Ym k) pA pn pc pl qA qn qc ql NS (HX.ro 2 rfl) ((HX.ro 1 rfl).imp fun w2 h2=>zt h2.2.1.1) ((HX.ro 1 rfl).imp fun w2 h2=>zt h2.2.2.1.1) HN2.out HN3.out HN4.out HN5.out (by
     have e2:NS.length≤136:=by have:=HN1.out;omega
     have e3:=Nat.mul_le_mul e2 e2
     omega) HON.out (by have e1:pl.length≤8:=HXG.out.p.2.1;have:=HPL.out;omega) (by have e1:ql.length≤8:=HXG.out.f.2.1;have:=HQL.out;omega)).mono ?_
    rintro e w9 ⟨b9,h9⟩
    rcases h9 with ⟨-,rfl⟩|⟨-,r,hr,⟨-,rfl⟩|⟨hvr,RA,rn2,rc2,rfl,hrn,hrc,hrc2,rr⟩⟩
    ·have K9:Hold M (some T) w w9 [.ro (LksIn O on ol),.own 40 11 (.slice A k cap) k (Xw l),.ro (Vd 5 l),.ro TNm,.ro Wds,.tp T]:=(HX.call b9).pick [2,3,4,5,6,7] (by decide) rfl
     clear HX F4 b9
     go_wp2_with fail
     go_roundw
     case rel=>exact ⟨i - 1,k,cap,A,l,O,on,oc,ol,HQ.out.2,HQ.out.1,HLK.out,rfl,rfl,by go_num,hid ⟨HOK.out.1,HOK.out.2.le (by omega)⟩,(K9.ro 0 rfl).less (fun b hb=>ZI.2 (.inr hb)),K9.drop (List.sublist_cons_self _ _)⟩
     case measure=>simp [intOf];omega
    ·have K9:Hold M (some T) w w9 [.ro (LksIn O on ol),.own 40 11 (.slice A k cap) k (Xw l),.ro (Vd 5 l),.ro TNm,.ro Wds,.tp T]:=(HX.call b9).pick [2,3,4,5,6,7] (by decide) rfl
     clear HX F4 b9 hr
     go_wp2_with fail
     go_roundw
     case rel=>exact ⟨i - 1,k,cap,A,l,O,on,oc,ol,HQ.out.2,HQ.out.1,HLK.out,rfl,rfl,by go_num,hid ⟨HOK.out.1,HOK.out.2.le (by omega)⟩,(K9.ro 0 rfl).less (fun b hb=>ZI.2 (.inr hb)),K9.drop (List.sublist_cons_self _ _)⟩
     case measure=>simp [intOf];omega
    ·have K9:=(HX.call b9).add rr
     have HR:=hid (And.intro hr hvr)
     clear HX F4 b9 rr hr hvr hrn hrc hrc2
     have F9:=K9.facts
     simp only [zg] at F9
     go_wp2_with (at_builtin;go_must (refine ZH K9 4 rfl Tryz.Zij #[.string (Ym k),.string xt,.bool xb,.int .i64 xe,.slice oA onn occ,.bool xch,.slice pA pn pc,.slice qA qn qc,.slice rA rn rc,.slice kA kn kc,.slice aA an ac] rfl (.tmp 45) (.tmp 47) rfl rfl _ (by first|rfl|simp) rfl rfl (by intro u hu;simp at hu;rcases hu with rfl|rfl|rfl|rfl|rfl|rfl|rfl|rfl|rfl|rfl|rfl<;>rfl) (by omega) (by omega) ?_);intro gA capA wA hcA hmA KB;simp only [zl] at KB)
     rw [show Xw l++(#[.string (Ym k),.string xt,.bool xb,.int .i64 xe,.slice oA onn occ,.bool xch,.slice pA pn pc,.slice qA qn qc,.slice rA rn rc,.slice kA kn kc,.slice aA an ac]:Array Value).toList=Xw (l++[⟨Ym k,xt,xb,xe,⟨oA,onn,occ,oll⟩,xch,⟨pA,pn,pc,pl⟩,⟨qA,qn,qc,ql⟩,⟨rA,rn,rc,rl⟩,⟨kA,kn,kc,kl⟩,⟨aA,an,ac,al⟩⟩]) from (Zfg l ⟨Ym k,xt,xb,xe,⟨oA,onn,occ,oll⟩,xch,⟨pA,pn,pc,pl⟩,⟨qA,qn,qc,ql⟩,⟨rA,rn,rc,rl⟩,⟨kA,kn,kc,kl⟩,⟨aA,an,ac,al⟩⟩).symm] at KB
     have hR:Ro _ _ (Vd 5 (l++[⟨Ym k,xt,xb,xe,⟨oA,onn,occ,oll⟩,xch,⟨pA,pn,pc,pl⟩,⟨qA,qn,qc,ql⟩,⟨rA,rn,rc,rl⟩,⟨kA,kn,kc,kl⟩,⟨aA,an,ac,al⟩⟩])):=((KB.ro 5 rfl).and (KB.ro 2 rfl)).imp fun w2 h2 y hy=>by
      rcases List.mem_append.1 hy with hy|hy
      ·exact h2.1 y hy
      ·simp only [List.mem_cons,List.not_mem_nil,or_false] at hy
       subst hy
       exact h2.2
     have KC:=(KB.Yy 5 rfl hR).pick [0,4,5,6,7,8] (by decide) rfl
     simp only [List.set_cons_zero,List.set_cons_succ,List.filterMap_cons,List.filterMap_nil,List.getElem?_cons_zero,List.getElem?_cons_succ] at KC
     go_roundw
     case rel=>exact ⟨i - 1,k+1,capA,_,l++[⟨Ym k,xt,xb,xe,⟨oA,onn,occ,oll⟩,xch,⟨pA,pn,pc,pl⟩,⟨qA,qn,qc,ql⟩,⟨rA,rn,rc,rl⟩,⟨kA,kn,kc,kl⟩,⟨aA,an,ac,al⟩⟩],RA,rn2,rc2,r,HQ.out.2,by have:=HQ.out.1;omega,by simp [HLK.out],by first|rfl|trivial,by first|rfl|trivial,by go_num,hid ⟨HOK.out.1.snoc (by rw [HLK.out]) HXG.out HXT.out,⟨HR.out.2,HR.out.1.1,NS,HN1.out,Zet HR.out.1 (Zfa HSO.out HN2.out HN3.out HN4.out HN5.out)⟩⟩,(KC.ro 0 rfl).less (fun b hb=>ZI.2 (.inr hb)),KC.drop (List.sublist_cons_self _ _)⟩
     case measure=>simp [intOf];omega
   ·go_wp2_with fail
    go_roundw
    have K9:Hold M (some T) w wx3 [.ro (LksIn O on ol),.own 40 11 (.slice A k cap) k (Xw l),.ro (Vd 5 l),.ro TNm,.ro Wds,.tp T]:=HX.pick [2,3,4,5,6,7] (by decide) rfl
    case rel=>exact ⟨i - 1,k,cap,A,l,O,on,oc,ol,HQ.out.2,HQ.out.1,HLK.out,rfl,rfl,by go_num,hid ⟨HOK.out.1,HOK.out.2.le (by omega)⟩,(K9.ro 0 rfl).less (fun b hb=>ZI.2 (.inr hb)),K9.drop (List.sublist_cons_self _ _)⟩
    case measure=>simp [intOf];omega
end Go.Proofs.YtnbbllkbefagmaaGreatDoor
namespace Go.Proofs.YtnbbllkbefagmaaGreatDoor
open Go.ChangeShapes Go.WideShapes Go.ChangeAt Go.RowKit
set_option linter.unusedVariables false
set_option linter.unusedSimpArgs false
theorem ZcM {P:Program} {W:World} {x:String × DataW Unit} {rest:List (String × DataW Unit)} (h:laidMet P (x::rest) W):laidMet P rest W:=by
 obtain ⟨ps,⟨g,t,cs,fuel,p,q,_,_,_,_,hr,rfl⟩,hn,hb⟩:=h
 exact ⟨q,hr,(List.nodup_append.1 hn).2.1,fun b off hm=>hb b off (List.mem_append_right _ hm)⟩
theorem gTn : Tryz.prog.globalNamed "triggerstore/triggerstoreworld.triggerNames" = some 0 := by kernel_rfl
theorem Zhu:(Tryz.prog.globals[0]?).map (·.type)=some 103:=by kernel_rfl
def zu:List (List UInt8):=[[97,97],[98,98],[99,99],[100,100],[101,101],[102,102],[103,103],[104,104]]
theorem ZgF:∀ j,j<8→zu[j]? =some (Ym j).data.toList:=by decide+kernel
theorem Zgo {W : World} {rest : List (String × DataW Unit)} (h : laidMet Tryz.prog (("triggerstore/triggerstoreworld.triggerNames", Rows.laid_triggerstore_triggerstoreworld_triggerNames) :: rest) W) : TNm W := by
 intro j hj
 obtain ⟨s,h1,h2,_⟩:=ZaW (bs:=zu) (rest:=rest) gTn Zhu Tryz.underlying103 Tryz.underlying9 (by kernel_rfl) h j hj
 rw [ZgF j hj] at h2
 have h3:=Option.some.inj h2
 have h4:s=Ym j:=Go.WideShapes.bytes_inj h3.symm
 rw [h1,h4]
theorem Zby {W : World} (h : laidMet Tryz.prog [("triggerstore/triggerstoreworld.triggerNames", Rows.laid_triggerstore_triggerstoreworld_triggerNames), ("triggerstore/triggerstoreworld.words", Rows.laid_triggerstore_triggerstoreworld_words)] W) : Wds W ∧ TNm W := ⟨ZeJ (rest := []) (ZcM h), Zgo h⟩
noncomputable def J9 (os:Os):World:=
 { ZbV os with heap:=(ZbV os).heap.modify 0 fun
   | .cells _ t frozen=>.cells #[.string ⟨#[97,97]⟩,.string ⟨#[98,98]⟩,.string ⟨#[99,99]⟩,.string ⟨#[100,100]⟩,.string ⟨#[101,101]⟩,.string ⟨#[102,102]⟩,.string ⟨#[103,103]⟩,.string ⟨#[104,104]⟩] t frozen
   | o=>o }
theorem TNm.keep {w w' :World} (h:TNm w) (hk:w'.heap[0]? =w.heap[0]?):TNm w' :=fun j hj=>(World.cell?_of_block (w:=w) (a:=⟨0,j,none⟩) hk).trans (h j hj)
theorem TNm.lt {w:World} (h:TNm w):0<w.heap.size:=World.block_lt_of_cell? w ⟨0,0,none⟩ (h 0 (by omega))
theorem TNm.ro2 {w:World} {M:Nat→Prop} (h:TNm w) (hM:¬M 0):Ro w M TNm:=fun w2 _ h2=>h.keep (h2 _ h.lt hM)
end Go.Proofs.YtnbbllkbefagmaaGreatDoor

import Derived.Test.YtnmnkbnmollpmaaGreatDoorBdDscSaidMAC
import Derived.Test.YtnmnkbnmollpmaaGreatDoorBdDscSaidMAB
import Derived.Test.YtnmnkbnmollpmaaGreatDoorBdDscSaidMZ
import Derived.Test.YtnmnkbnmollpmaaGreatDoorBdDscSaidMAA
set_option linter.unusedVariables false
set_option linter.unusedSimpArgs false
set_option maxHeartbeats 64000000
set_option maxRecDepth 100000
namespace Go.Proofs.YtnmnkbnmollpmaaGreatDoor
section
open Go.RowKit
def setR (k:Nat) (v:Vl) (r:Row):Row:=(r.1,r.2.set k v)
def Z5 (k:Nat) (v:Vl) (t:Tb):Tb:=⟨t.nm,t.cs,t.nx,t.rs.map (setR k v)⟩
def YN (k:Nat) (v:Vl) (rs:List Row):List Upd:=rs.map fun r=>(r.1,r.2,r.2.set k v)
theorem Zld (k:Nat) (v v' :Vl) (t:Tb):Z5 k v (Z5 k v' t)=Z5 k v t:=by
 simp [Z5,setR]
theorem Zbz {v:Vl}:∀ {cs:List Col} {vs:List Vl} {k:Nat} {c:Col},YK cs vs=0→cs[k]? =some c→Z9 c v=0→YK cs (vs.set k v)=0
 | [],vs,k,c,_,hc,_=>by simp at hc
 | x::cs,[],k,c,h,_,_=>by simp [YK]
 | x::cs,y::vs,0,c,h,hc,hv=>by
  simp only [List.getElem?_cons_zero,Option.some.injEq] at hc
  subst hc
  rw [YK] at h
  split at h
  ·rw [List.set_cons_zero,YK,Lg hv];exact h
  ·rename_i hn;exact absurd h hn
 | x::cs,y::vs,k+1,c,h,hc,hv=>by
  rw [YK] at h
  split at h
  ·rename_i hy
   rw [List.set_cons_succ,YK,Lg hy]
   exact Zbz h (by simpa using hc) hv
  ·rename_i hn;exact absurd h hn
theorem ZbA {v:Vl} {cs:List Col} {vs:List Vl} {k:Nat} {c:Col} (h:Zt cs vs=0) (hc:cs[k]? =some c) (hv:Z9 c v=0):Zt cs (vs.set k v)=0:=by
 unfold Zt at h ⊢
 rw [List.length_set]
 split at h
 ·rename_i hl
  rw [Lg hl]
  exact Zbz h hc hv
 ·omega
theorem Zci {cs:List Col} {nx:Int} {v:Vl} {k:Nat} {c:Col} (hc:cs[k]? =some c) (hv:Z9 c v=0):∀ {lst:Int} {rs:List Row},okR cs nx lst rs=true→okR cs nx lst (rs.map (setR k v))=true
 | _,[],_=>rfl
 | lst,r::rs,h=>by
  rw [okR] at h
  simp only [Bool.and_eq_true,decide_eq_true_eq] at h
  rw [List.map_cons,okR]
  simp only [Bool.and_eq_true,decide_eq_true_eq]
  exact ⟨⟨⟨h.1.1.1,h.1.1.2⟩,ZbA h.1.2 hc hv⟩,Zci hc hv h.2⟩
theorem QU {K:Int} {v:Vl} {k:Nat} (hk:K<0∨K.toNat≠k):∀ (seen:List Vl) (rs:List (List Vl)),ZV K seen (rs.map fun r=>r.set k v)=ZV K seen rs
 | _,[]=>rfl
 | seen,r::rs=>by
  rw [List.map_cons,ZV,ZV]
  by_cases h0:0≤K
  ·rw [Lg h0,Lg h0,List.getElem?_set_ne (by omega)]
   split
   ·split
    ·rfl
    ·exact QU hk _ rs
   ·exact QU hk _ rs
  ·rw [Lf h0,Lf h0]
   exact QU hk _ rs
theorem Za2 {cs:List Col} {v:Vl} {k:Nat} (hk:Ze Col.key cs<0∨(Ze Col.key cs).toNat≠k) (rs:List Row):YH cs (rs.map (setR k v))=YH cs rs:=by
 unfold YH
 rw [←QU hk (v:=v) [] (rs.map (·.2)),List.map_map,List.map_map]
 rfl
structure SetOk (cs:List Col) (k:Nat) (v:Vl):Prop where
 col:∃ c,cs[k]? =some c∧Z9 c v=0
 key:Ze Col.key cs<0∨(Ze Col.key cs).toNat≠k
theorem JF {t:Tb} {k:Nat} {v:Vl} (h:Zh t.nm t.cs t.nx t.rs=true) (hs:SetOk t.cs k v):Zh t.nm t.cs t.nx (t.rs.map (setR k v))=true:=by
 obtain ⟨c,hc,hv⟩:=hs.col
 obtain ⟨h1,h2,h3,h4,h5,h6⟩:=XU h
 exact Zdo h1 (by simpa using h2) h3 h4 (Zci hc hv h5) (by rw [Za2 hs.key];exact h6)
theorem VTab.set {t:Tb} (h:VTab t) {k:Nat} {v:Vl} (hs:SetOk t.cs k v):VTab (Z5 k v t):=
 { h with val:=JF h.val hs }
theorem ZcO {rs:List Row}:∀ {ids:List Int} {last:Option Int},ids.Pairwise (·<·)→(∀ id∈ids,(Zj rs id).isSome=true)→(∀ p,last=some p→∀ id∈ids,p<id)→Yo rs [] last ids=true
 | [],_,_,_,_=>rfl
 | id::ids,last,h1,h2,h3=>by
  have h4:=List.pairwise_cons.1 h1
  rw [Yo]
  simp only [Bool.and_eq_true,Bool.not_eq_true']
  refine ⟨⟨⟨h2 id Kl,?_⟩,rfl⟩,ZcO h4.2 (fun x hx=>h2 x (Kr _ hx)) (fun p hp x hx=>by obtain rfl:=Kz hp;exact h4.1 x hx)⟩
  cases last with
  | none=>rfl
  | some p=>exact decide_eq_false (by have:=h3 p rfl id Kl;omega)
theorem ZbI (k:Nat) (v:Vl):∀ rs:List Row,goR [] rs (YN k v rs)=rs.map (setR k v)
 | []=>rfl
 | r::rs=>by
  show goR [] (r::rs) ((r.1,r.2,r.2.set k v)::YN k v rs)=_
  rw [goR,if_neg (by simp),if_pos rfl,ZbI k v rs]
  rfl
theorem Zhj {cs:List Col}:∀ {l:List (List Vl)},(∀ r∈l,Zt cs r=0)→XB cs l []=0:=by
 have key:∀ {l:List (List Vl)},(∀ r∈l,Zt cs r=0)→Yt cs l=0:=by
  intro l
  induction l with
  | nil=>intro _;rfl
  | cons x l ih=>
   intro h
   rw [Yt,Lg (h x Kl)]
   exact ih fun r hr=>h r (Kr _ hr)
 intro l h
 unfold XB
 rw [Lg (key h)]
 rfl
theorem ZeT {t:Tb} {k:Nat} {v:Vl} (h:Zh t.nm t.cs t.nx t.rs=true) (hs:SetOk t.cs k v):YY t.nm t.cs t.nx t.rs [] [] (YN k v t.rs)=(0,Z5 k v t):=by
 obtain ⟨c,hc,hv⟩:=hs.col
 obtain ⟨h1,h2,h3,h4,h5,h6⟩:=XU h
 have ha:=(VT h5).1
 have hf:=Vp h5
 have e1:ZR t.nm t.cs t.nx t.rs [] [] (YN k v t.rs)=true:=by
  unfold ZR
  simp only [Bool.and_eq_true,List.any_nil,Bool.not_false,and_true]
  refine ⟨⟨⟨h,rfl⟩,?_⟩,ZcO ?_ ?_ ?_⟩
  ·unfold QB YN
   rw [List.all_map,Kw]
   intro r hr
   simp only [Function.comp_apply,Bool.and_eq_true,decide_eq_true_eq,List.length_set]
   exact ⟨XO ha hr,WN (hf r hr)⟩
  ·unfold YN;rw [List.map_map];exact ha
  ·intro id hid
   unfold YN at hid
   rw [List.map_map] at hid
   obtain ⟨r,hr,rfl⟩:=Kt.1 hid
   show (Zj t.rs r.1).isSome=true
   rw [XO ha hr];rfl
  ·intro p hp;cases hp
 have e2:XB t.cs ((YN k v t.rs).map (·.2.2)) []=0:=Zhj fun r hr=>by
  unfold YN at hr
  rw [List.map_map] at hr
  obtain ⟨x,hx,rfl⟩:=Kt.1 hr
  exact ZbA (hf x hx) hc hv
 have e3:Ql t.nx t.rs [] [] (YN k v t.rs)=t.rs.map (setR k v):=by
  unfold Ql;rw [ZbI];simp [Vk]
 unfold YY
 rw [e1,e2,e3,Za2 hs.key,h6]
 simp only [Bool.true_eq_false,if_false,ne_eq,not_true_eq_false,List.length_nil]
 rw [Lf (by omega)]
 simp [Z5]
theorem Q8 (k:Nat) (v:Vl) (rs:List Row) (id:Int):Zj (rs.map (setR k v)) id=(Zj rs id).map fun x=>x.set k v:=by
 unfold Zj
 rw [List.find?_map,Option.map_map,Option.map_map]
 rfl
theorem Zcd (k:Nat) (v v' :Vl) {rs:List Row} (ha:(rs.map (·.1)).Pairwise (·<·)):Z4 (rs.map (setR k v)) (rs.map (setR k v'))=[]:=by
 unfold Z4
 rw [List.filter_eq_nil_iff]
 intro r hr
 obtain ⟨x,hx,rfl⟩:=Kt.1 hr
 rw [Q8]
 show ¬((Zj rs x.1).map _).isNone=true
 rw [XO ha hx]
 simp
theorem Ze5 {t:Tb} (h:Zh t.nm t.cs t.nx t.rs=true) {k:Nat} {v v' :Vl} (hs:SetOk t.cs k v) (hs' :SetOk t.cs k v'):Zw (Z5 k v t) (Z5 k v' t)=(true,⟨t.nm,[],[],YF (t.rs.map (setR k v)) (t.rs.map (setR k v'))⟩):=by
 have ha:=(VT (XU h).2.2.2.2.1).1
 unfold Zw
 rw [Lg]
 ·show (true,(⟨t.nm,Z4 (t.rs.map (setR k v)) (t.rs.map (setR k v')),Z4 (t.rs.map (setR k v')) (t.rs.map (setR k v)),_⟩:Dl))=_
  rw [Zcd k v v' ha,Zcd k v' v ha]
  rfl
 ·unfold Xc
  simp only [Bool.and_eq_true,decide_eq_true_eq,List.all_eq_true,Bool.or_eq_true]
  refine ⟨⟨⟨⟨JF h hs,JF h hs'⟩,rfl,rfl⟩,Int.le_refl _⟩,fun r hr=>.inl ?_⟩
  obtain ⟨x,hx,rfl⟩:=Kt.1 hr
  show (Zj (t.rs.map (setR k v)) x.1).isSome=true
  rw [Q8,XO ha hx];rfl
theorem Zce (k:Nat) (v:Vl) {rs:List Row} (ha:(rs.map (·.1)).Pairwise (·<·)):Z4 rs (rs.map (setR k v))=[]∧Z4 (rs.map (setR k v)) rs=[]:=by
 unfold Z4
 refine ⟨List.filter_eq_nil_iff.2 fun r hr=>?_,List.filter_eq_nil_iff.2 fun r hr=>?_⟩
 ·obtain ⟨x,hx,rfl⟩:=Kt.1 hr
  show ¬(Zj rs x.1).isNone=true
  rw [XO ha hx];simp
 ·rw [Q8,XO ha hr];simp
theorem Ze6 {t:Tb} (h:Zh t.nm t.cs t.nx t.rs=true) {k:Nat} {v:Vl} (hs:SetOk t.cs k v):Zw t (Z5 k v t)=(true,⟨t.nm,[],[],YF t.rs (t.rs.map (setR k v))⟩):=by
 have ha:=(VT (XU h).2.2.2.2.1).1
 unfold Zw
 rw [Lg]
 ·show (true,(⟨t.nm,Z4 t.rs (t.rs.map (setR k v)),Z4 (t.rs.map (setR k v)) t.rs,_⟩:Dl))=_
  rw [(Zce k v ha).1,(Zce k v ha).2]
  rfl
 ·unfold Xc
  simp only [Bool.and_eq_true,decide_eq_true_eq,List.all_eq_true,Bool.or_eq_true]
  refine ⟨⟨⟨⟨h,JF h hs⟩,rfl,rfl⟩,Int.le_refl _⟩,fun r hr=>.inl ?_⟩
  obtain ⟨x,hx,rfl⟩:=Kt.1 hr
  show (Zj t.rs x.1).isSome=true
  rw [XO ha hx];rfl
theorem Zl6 {k:Nat} {v v' :Vl} {rs:List Row} (ha:(rs.map (·.1)).Pairwise (·<·)) (hk:∀ r∈rs,k<r.2.length) (hv:v≠v') (hr:rs≠[]):YF (rs.map (setR k v)) (rs.map (setR k v'))≠[]:=by
 obtain ⟨r,rs',rfl⟩:=List.exists_cons_of_ne_nil hr
 intro h
 unfold YF at h
 have h2:=List.filterMap_eq_nil_iff.1 h (setR k v' r) (Ko Kl)
 rw [Q8] at h2
 have h3:Zj (r::rs') (setR k v' r).1=some r.2:=XO ha Kl
 rw [h3] at h2
 simp only [Option.map_some] at h2
 split at h2
 ·rename_i he
  apply hv
  have h4:=congrArg (fun l:List Vl=>l[k]?) he
  have hl:=hk r Kl
  simpa [setR,hl] using h4
 ·cases h2
theorem ZaV {p q a b:Tb} (h:StOk [p,q,a]) (h' :StOk [p,q,b]) {d:Dl} (hb:Zw a b=(true,d)):Y6 [p,q,a] [p,q,b]=(true,if Y7 d then [] else [d]):=by
 have hs:=h.Zdj
 have ht:=zI hs
 have k1:(Zw p p).1=true∧Y7 (Zw p p).2=true:=by
  obtain ⟨e1,e2,e3,e4⟩:=Gj (ht p (by simp)) (ht p (by simp)) (LaterOk.refl _)
  rw [e1];exact ⟨rfl,by simp [Y7,e2,e3,e4]⟩
 have k2:(Zw q q).1=true∧Y7 (Zw q q).2=true:=by
  obtain ⟨e1,e2,e3,e4⟩:=Gj (ht q (by simp)) (ht q (by simp)) (LaterOk.refl _)
  rw [e1];exact ⟨rfl,by simp [Y7,e2,e3,e4]⟩
 rw [ZaU (n:=3) rfl hs h'.Zdj rfl (by simp [WH,k1.1,k2.1,hb])]
 congr 1
 unfold Ws
 simp only [List.zip_cons_cons,List.zip_nil_right,List.take_succ_cons,List.take_zero,List.map_cons,List.map_nil,List.filter_cons,List.filter_nil,k1.2,k2.2,hb]
 cases Y7 d<;>rfl
theorem ZfQ (M:Nat→Prop) (w:World) (hM:∀ b,M b→b<w.heap.size) (A:Option Addr) (n c:Nat) (l:List Vl) (hD:Ro w M (VlsIn A n l)) (hn:n≤4398046511104):
  Calls Tryz.prog 51 #[.slice A n c] w fun e w' =>∃ (C:Option Addr) (cap:Nat),e=.returned (.slice C n cap)∧w'.ownsRow w.heap.size 30 3 (.slice C n cap) n (ZH l)∧Below w.heap.size w w' :=by
 have K0:=((Hold.start M w hM).add (hD.less (by simp [Mut]))).nil 30 3
 have hr:=hid (show VlsIn A n l _ from (K0.ro 1 rfl).now)
 have h1:=hid (G8 l)
 go_enter Tryz.func51,Tryz.ntmps51
 go_wp2_with (at_builtin;go_must (refine ZX K0 0 rfl Tryz.Xz hr.out rfl (.const (.slice none 0 0)) (.tmp 3) rfl rfl rfl h1.out (by omega) (by omega) ?_);intro C' cap' w2 hc1 hm1 K2)
 go_ret
 simp only [Nat.zero_add,List.nil_append,List.set_cons_zero] at K2 hc1
 exact ⟨C',cap',by first|rfl|simp,K2.get 0 rfl,K2.below⟩
def Zap (w:World) (M:Nat→Prop) (us:List Upd) (e:Ending) (w' :World):Prop:=∃ (U:Option Addr) (nu cu:Nat) (ps:List Pr),e=.returned (.tuple #[.agg #[.slice none 0 0,.slice none 0 0,.slice U nu cu],.int .i64 0])∧nu≤cu∧cu≤9223372036854775807∧ps.map Pr.upd=us∧(∀ p∈ps,p.ok)∧Ro w' M (PrsIn U nu ps)∧Below w.heap.size w w'
def Zah (cs:List Col) (vs:List Vl) (f:Fr):Prop:=f.strict=false∧f.cols.n≤1000∧f.cols.l=cs∧f.vals.l=vs
def UO (d:Nat) (cs:List Col) (rs:List Row) (wh:List Ex) (x:Ex) (b:Bool) (v:Vl):Prop:=∀ r∈rs,∀ f:Fr,Zah cs r.2 f→TrX d [f] wh b∧(b=true→EvX d [f] x v)
def YV (b:Bool) (k:Nat) (v:Vl) (rs:List Row):List Upd:=if b then YN k v rs else []
theorem Zl2 {b:Bool} {k:Nat} {v:Vl} {rs:List Row} {j:Nat} {r:Row} (hr:rs[j]? =some r):YV b k v (rs.take (j+1))=YV b k v (rs.take j)++(if b then [(r.1,r.2,r.2.set k v)] else []):=by
 unfold YV
 cases b
 ·rfl
 ·simp only [if_true,YN]
  rw [Kq,hr,Km]
  rfl
theorem ZkL (M:Nat→Prop) (w:World) (hM:∀ b,M b→b<w.heap.size) (d:Nat) (a:Ac) (nm:ByteArray) (x:Ex) (t:Te) (k:Nat) (b:Bool) (v:Vl) (tA:Option Addr) (tn tc:Nat)
  (ha:Ro w M (AcIn d a)) (hu:UpA d a nm x) (ht:Ro w M (YA t)) (hk:Ze (named nm) t.cs=k) (hkl:∀ r∈t.l,k<r.vs.length) (hv:v.ok) (hok:∀ r∈t.l,r.ok∧r.n≤1000) (hn:t.n≤1000) (hm:t.m≤1000) (hs:UO d t.cs (t.l.map Rw.row) a.wh.l x b v):
  Calls Tryz.prog 46 #[.agg #[.int .i64 a.kind,.string a.tab,.slice a.rows.A a.rows.n a.rows.c,.slice a.qs.A a.qs.n a.qs.c,.slice a.sets.A a.sets.n a.sets.c,.slice a.wh.A a.wh.n a.wh.c,.string a.text],.agg #[.string t.nm,.slice t.A t.n t.c,.int .i64 t.nx,.slice t.B t.m t.d],.slice none 0 0,.slice tA tn tc] w fun e w' =>Zap w M (YV b k v (t.l.map Rw.row)) e w' :=by
 obtain ⟨kind,tab,⟨rA,rn,rc,rl⟩,⟨qA,qn,qc,ql⟩,⟨sA,sn,sc,sl⟩,⟨hA,hn_,hc,hl⟩,text⟩:=a
 obtain ⟨tnm,cA,cn,cc,cl,nx,B,m,dd,rws⟩:=t
 obtain rfl:kind=2:=hu.kind
 obtain ⟨sg,sc',hsc,hse⟩:=hu.sets
 obtain ⟨rfl,rfl,rfl,rfl⟩:sA=some ⟨sg,0,none⟩∧sn=1∧sc=sc' ∧sl=[⟨nm,x⟩]:=by
  simp only [SlP.mk.injEq] at hse
  exact hse
 have hm:m≤1000:=hm
 have hn:cn≤1000:=hn
 have HKB:=hid (show Ze (named nm) cl=k from hk)
 have HKL:=hid (show ∀ r∈rws,k<r.vs.length from hkl)
 have HV:=hid hv
 have HOK:=hid (show ∀ r∈rws,r.ok∧r.n≤1000 from hok)
 have HS:=hid (show UO d cl (rws.map Rw.row) hl x b v from hs)
 have HRL:=hid (show rws.length=m from ht.now.2.len)
 have K0:=((((((Hold.start M w hM).add (ht.less (by simp [Mut]))).add (ha.less (by simp [Mut,Hp.foot]))).Za #[.int .i64 2,.string tab,.slice rA rn rc,.slice qA qn qc,.slice (some ⟨sg,0,none⟩) 1 sc,.slice hA hn_ hc,.string text] 44).Za #[.string tnm,.slice cA cn cc,.int .i64 nx,.slice B m dd] 69).alloc #[.slice none 0 0,.slice none 0 0,.slice none 0 0] 87).alloc #[.slice none 0 0,.slice none 0 0,.slice none 0 0] 87
 simp only [World.size_alloc] at K0
 obtain ⟨g4,hg4⟩:∃ g,g=w.heap.size:=⟨_,rfl⟩
 obtain ⟨g5,hg5⟩:∃ g,g=g4+1:=⟨_,rfl⟩
 obtain ⟨g8,hg8⟩:∃ g,g=g5+1:=⟨_,rfl⟩
 obtain ⟨g10,hg10⟩:∃ g,g=g8+1:=⟨_,rfl⟩
 rw [←hg4,←hg5,←hg8,←hg10] at K0
 clear ha ht hk hkl hv hok hs hu hse hsc
 dsimp only
 go_enter Tryz.func46,Tryz.ntmps46
 go_upto_region 2 with fail
 rw [←hg4,←hg5,←hg8,←hg10]
 clear hg4 hg5 hg8 hg10
 generalize World.alloc _ _=w1 at K0 ⊢
 have K1:=(K0.add (show Ro _ _ (Yh []) from fun _ _ _ r hr=>nomatch hr)).nil 136 3
 have F1:=K1.facts
 simp only [zg] at F1
 clear K0
 go_wp2_with fail
 clear F1
 go_loopw [25] (fun iv wr=>∃ (j q cap:Nat) (O:Option Addr) (outs:List Pr),j≤m∧q≤j∧iv=.int .i64 j∧Hid (outs.map Pr.upd=YV b k v ((rws.map Rw.row).take j)∧∀ p∈outs,p.ok)∧Hold M none w wr [.own 136 3 (.slice O q cap) q (ZB outs),.ro (Yh outs),.blk g10 87 #[.slice none 0 0,.slice none 0 0,.slice O q cap],.blk g8 87 #[.slice none 0 0,.slice none 0 0,.slice none 0 0],.cst g5 69 #[.string tnm,.slice cA cn cc,.int .i64 nx,.slice B m dd],.cst g4 44 #[.int .i64 2,.string tab,.slice rA rn rc,.slice qA qn qc,.slice (some ⟨sg,0,none⟩) 1 sc,.slice hA hn_ hc,.string text],.ro (AcIn d ⟨2,tab,⟨rA,rn,rc,rl⟩,⟨qA,qn,qc,ql⟩,⟨some ⟨sg,0,none⟩,1,sc,[⟨nm,x⟩]⟩,⟨hA,hn_,hc,hl⟩,text⟩),.ro (YA ⟨tnm,cA,cn,cc,cl,nx,B,m,dd,rws⟩)]) (fun iv _=>m - (intOf iv).toNat)
 case atStart=>exact ⟨0,0,0,none,[],by omega,by omega,rfl,hid ⟨by unfold YV;cases b<;>rfl,fun p hp=>nomatch hp⟩,K1⟩
 case round=>
  clear K1
  obtain ⟨j,q,cap,O,outs,hj,hq,rfl,HO,H⟩:=hrel
  by_cases hlt:j<m
  ·obtain ⟨⟨rid,xA,xn,xc,xvs⟩,hx⟩:=Zl HRL.out hlt
   obtain ⟨rb,ro,rfl,hrb,c0,c1,hvs⟩:=(H.ro 7 rfl).now.2.at_ hx
   have hm_:=Ka hx
   have HX:=hid hx
   have hxn:xn≤1000:=(HOK.out _ hm_).2
   have HXK:=hid (show k<xvs.length from HKL.out _ hm_)
   have HXO:=hid (show (⟨rid,xA,xn,xc,xvs⟩:Rw).ok from (HOK.out _ hm_).1)
   have HSA:=hid (fun (f:Fr) (hf:Zah cl xvs f)=>HS.out (rid,xvs) (Kt.2 ⟨_,hm_,rfl⟩) f hf)
   have KA:=(H.Za #[.int .i64 rid,.slice xA xn xc] 72)
   have K2:=KA.add (S:=VlsIn xA xn xvs) ((KA.ro 8 rfl).imp fun w2 h2=>h2.2.2 _ hm_)
   obtain ⟨gr_,hgr_⟩:∃ g,g=wr.heap.size:=⟨_,rfl⟩
   rw [←hgr_] at K2
   have F2:=K2.facts
   simp only [zg] at F2
   rw [hgr_] at F2
   clear hx hvs KA H hm_
   simp only at c0 c1
   go_upto_region 5 with fail
   rw [←hgr_] at F2 ⊢
   have HGR:=hid hgr_
   clear hgr_ c0 c1
   generalize World.alloc _ _=w1 at K2 F2 ⊢
   go_wp2_with fail
   refine (Zkd (Mut M _) _ K2.Zb none 0 0 [] ⟨tnm,⟨cA,cn,cc,cl⟩⟩ ⟨xA,xn,xc,xvs⟩ ((K2.ro 0 rfl).imp fun w2 h2=>⟨h2,fun _ _=>trivial⟩) (fun w2 _ _=>SlP.YM 4 Fr.cells FrIn w2) ((K2.ro 9 rfl).imp fun w2 h2=>⟨h2.1,fun _ _=>trivial⟩) (by omega)).mono ?_
   rintro e w2 ⟨IA,ic,rfl,ri,b2⟩
   simp only [Nat.zero_add,List.nil_append] at ri ⊢
   have K3:=(K2.call b2).add ri
   obtain ⟨fr,hfr⟩:∃ f:Fr,f=⟨tnm,false,⟨cA,cn,cc,cl⟩,⟨xA,xn,xc,xvs⟩⟩:=⟨_,rfl⟩
   rw [←hfr] at K3
   have HFR:=hid (HSA.out fr (by rw [hfr];exact ⟨rfl,hn,rfl,rfl⟩))
   clear K2 F2 ri b2 hfr
   have F3:=K3.facts
   simp only [zg] at F3
   go_wp2_with fail
   refine (Zdz d [fr] hA hn_ hc hl b HFR.out.1 IA ic tA tn tc _ (((K3.ro 9 rfl).imp fun w2 h2=>h2.2.2.2).less zn) ((K3.ro 0 rfl).less zn)).mono ?_
   rintro e w3 ⟨rfl,b3⟩
   have K4:=K3.call b3
   clear K3 F3 b3
   have F4:=K4.facts
   simp only [zg] at F4
   cases b with
   | false=>
    go_wp2_with fail
    go_roundw
    case rel=>exact ⟨j+1,q,cap,O,outs,by omega,by omega,by go_num,hid ⟨by rw [HO.out.1];rfl,HO.out.2⟩,K4.pick [3,4,5,6,7,8,9,10] (by decide) rfl⟩
    case measure=>simp [intOf];omega
   | true=>
    go_wp2_with fail
    refine (ZfQ (Mut M _) _ K4.Zb xA xn xc xvs (K4.ro 1 rfl) (by omega)).mono ?_
    rintro e w4 ⟨C,ccap,rfl,ho,b4⟩
    have hxl:xvs.length=xn:=(K4.ro 1 rfl).now.len
    have hxpos:0<xn:=by have:=HXK.out;omega
    have K5:=K4.QQ b4 ho
    obtain ⟨cb,rfl⟩:∃ cb,C=some ⟨cb,0,none⟩:=by
     rcases Jl (K5.get 0 rfl) with ⟨_,h,_⟩|⟨g,h,_⟩
     ·omega
     ·exact ⟨g,h⟩
    clear K4 F4 ho b4 hxpos
    have F5:=K5.facts
    simp only [zg] at F5
    go_wp2_with fail
    clear F5
    go_loopw [65] (fun iv wq=>∃ (i:Nat) (ys:List Vl),i≤1∧iv=.int .i64 i∧Hid (ys=if i=0 then xvs else xvs.set k v)∧Hold M none w wq [.own 30 3 (.slice (some ⟨cb,0,none⟩) xn ccap) xn (ZH ys),.ro (FrsIn ⟨IA,1,ic,[fr]⟩),.ro (VlsIn xA xn xvs),.cst gr_ 72 #[.int .i64 rid,.slice xA xn xc],.own 136 3 (.slice O q cap) q (ZB outs),.ro (Yh outs),.blk g10 87 #[.slice none 0 0,.slice none 0 0,.slice O q cap],.blk g8 87 #[.slice none 0 0,.slice none 0 0,.slice none 0 0],.cst g5 69 #[.string tnm,.slice cA cn cc,.int .i64 nx,.slice (some ⟨rb,ro,none⟩) m dd],.cst g4 44 #[.int .i64 2,.string tab,.slice rA rn rc,.slice qA qn qc,.slice (some ⟨sg,0,none⟩) 1 sc,.slice hA hn_ hc,.string text],.ro (AcIn d ⟨2,tab,⟨rA,rn,rc,rl⟩,⟨qA,qn,qc,ql⟩,⟨some ⟨sg,0,none⟩,1,sc,[⟨nm,x⟩]⟩,⟨hA,hn_,hc,hl⟩,text⟩),.ro (YA ⟨tnm,cA,cn,cc,cl,nx,some ⟨rb,ro,none⟩,m,dd,rws⟩)]) (fun iv _=>1 - (intOf iv).toNat)
    case atStart=>exact ⟨0,xvs,by omega,rfl,hid rfl,K5⟩
    case round=>
     clear K5
     obtain ⟨i,ys,hi,rfl,HY,K5⟩:=hrel
     obtain rfl|rfl:i=0∨i=1:=by omega
     ·obtain rfl:ys=xvs:=HY.out
      obtain ⟨sb,so,sE,-,sh,-⟩:=SlP.In.at_ (s:=⟨some ⟨sg,0,none⟩,1,sc,[⟨nm,x⟩]⟩) (k:=11) (cel:=Se.cells) (P:=Yq d) (K5.ro 10 rfl).now.2.2.1 (by omega) (fun _=>rfl) (show ([⟨nm,x⟩]:List Se)[0]? =some _ from rfl)
      obtain ⟨rfl,rfl⟩:=Gd (show some (⟨sg,0,none⟩:Addr)=some ⟨sb,so,none⟩ from sE)
      have x0:=sh 0 _ (by omega) rfl
      have x1:=sh 1 _ (by omega) rfl
      have x2:=sh 2 _ (by omega) rfl
      have x3:=sh 3 _ (by omega) rfl
      have x4:=sh 4 _ (by omega) rfl
      have x5:=sh 5 _ (by omega) rfl
      have x6:=sh 6 _ (by omega) rfl
      have x7:=sh 7 _ (by omega) rfl
      have x8:=sh 8 _ (by omega) rfl
      have x9:=sh 9 _ (by omega) rfl
      have x10:=sh 10 _ (by omega) rfl
      simp only [Nat.add_zero,Nat.zero_mul] at x0 x1 x2 x3 x4 x5 x6 x7 x8 x9 x10
      clear sh sE HY
      have K6:=K5.Za #[.string nm,.int .i64 x.kind,.int .i64 x.op,.bool x.nt,.int .i64 x.v.k,.int .i64 x.v.i,.string x.v.s,.string x.tab,.string x.nm,.slice x.A x.n x.c,.slice x.B x.m x.d] 39
      have F6:=K6.facts
      simp only [zg] at F6
      clear K5
      go_wp2_with fail
      refine (Vt (Mut M _) _ K6.Zb tnm cA cn cc cl nm ((K6.ro 12 rfl).imp fun w2 h2=>h2.1) (by omega)).mono ?_
      rintro e w5 ⟨rfl,b5⟩
      rw [HKB.out]
      have K7:=K6.call b5
      clear K6 F6 b5 x0 x1 x2 x3 x4 x5 x6 x7 x8 x9 x10
      have F7:=K7.facts
      simp only [zg] at F7
      have k0:decide ((k:Int)<0)=false:=by simp
      have k1:(0:Int)≤(k:Int):=by omega
      have k2:(k:Int)<(xn:Int):=by have:=HXK.out;omega
      have k3:decide ((k:Int)≥(xn:Int))=false:=by simp;omega
      have k4:decide ((xn:Int)≤(k:Int))=false:=by simp;omega
      go_wp2_with fail
      refine ((HFR.out.2 (by first|trivial|rfl)) IA ic tA tn tc _ (((K7.ro 11 rfl).imp fun w2 h2=>(show ExIn d x w2 from h2.2.2.1.2 _ (Kl))).less zn) ((K7.ro 2 rfl).less zn)).mono ?_
      rintro e w6 ⟨rfl,b6⟩
      obtain ⟨vk,vi,vs_⟩:=v
      have K8:=(K7.call b6).Za #[.int .i64 vk,.int .i64 vi,.string vs_] 30
      clear K7 F7 b6
      obtain ⟨uq,huq⟩:∃ uq,ys[k]? =some uq:=⟨_,Ky HXK.out⟩
      obtain ⟨⟨z0,z1,z2⟩,⟨z3,z4,z5⟩,z6⟩:=Zjf (K8.get 2 rfl) huq
      clear huq
      have K9:=K8.Zjs 2 rfl k HXK.out ⟨vk,vi,vs_⟩
      simp only [zl] at K9
      have F8:=K8.facts
      simp only [zg] at F8
      clear K8
      go_wp2_with fail
      go_roundw
      case rel=>exact ⟨1,_,by omega,by go_num,hid rfl,K9.pick [2,3,4,5,6,7,8,9,10,11,12,13] (by decide) rfl⟩
      case measure=>simp [intOf]
     ·obtain rfl:ys=xvs.set k v:=HY.out
      have KZ:=K5.Zq 0 rfl
      simp only [List.set_cons_zero] at KZ
      have HCAP:=hid (show xn≤ccap∧ccap≤9223372036854775807 from ⟨(ZM (K5.get 0 rfl)).1,(ZM (K5.get 0 rfl)).2.1⟩)
      clear K5
      obtain ⟨KM,hKM,K6⟩:=KZ.name
      have H1:∀ wv:World,Hold M none w wv KM→Blk wv g10 87 #[.slice none 0 0,.slice none 0 0,.slice O q cap]:=fun wv h=>by rw [hKM] at h;exact h.Ym 6 rfl
      have H2:∀ wv:World,Hold M none w wv KM→Blk wv gr_ 72 #[.int .i64 rid,.slice xA xn xc]:=fun wv h=>by rw [hKM] at h;exact h.Zg 3 rfl
      have H3:∀ wv:World,Hold M none w wv KM→Ro wv (Mut M KM) (VlsIn xA xn xvs):=fun wv h=>by rw [hKM] at h ⊢;exact h.ro 2 rfl
      have H4:∀ wv:World,Hold M none w wv KM→Ro wv (Mut M KM) (VlsIn (some ⟨cb,0,none⟩) xn (xvs.set k v)):=fun wv h=>by rw [hKM] at h ⊢;exact h.ro 0 rfl
      have HH1:=hid H1
      have HH2:=hid H2
      have HH3:=hid H3
      have HH4:=hid H4
      have HKM:=hid hKM
      clear hKM H1 H2 H3 H4 KZ HY
      have HVN:=hid (show ∀ y∈xvs.set k v,y.ok from ZiW HXO.out.vs HV.out)
      have hxl2:(xvs.set k v).length=xn:=by rw [List.length_set];exact hxl
      obtain ⟨ys,hys⟩:∃ ys,ys=xvs.set k v:=⟨_,rfl⟩
      rw [←hys] at HH4 HVN hxl2 HKM
      have HYS:=hid hys
      clear hys
      go_upto_region 26 with fail
      refine Lj (by kernel_rfl) ?_
      refine Zn 10 113 (KM) (spL [(105,Zx (Mut M KM) xvs),(107,YP (Mut M KM) (rid,xvs,ys)),(108,YX (Mut M KM) [(rid,xvs,ys)])]) (by kernel_rfl) (by kernel_rfl) (by kernel_rfl) rfl ?_ (K6.drew) ?_
      ·exact Zd XG (Zd Vq (Zd Jr (Zm _)))
      simp only [zd,zp,List.getElem_toArray,List.getElem_cons_zero,List.getElem_cons_succ]
      repeat (refine' dv rfl rfl rfl (fun wv HC=>?_) ?_;rotate_left;(focus (have q0:=(HH1.out _ HC).cell 2;have p0:=(HH2.out _ HC).cell 0;have p1:=(HH2.out _ HC).cell 1;go_simp<;>rfl;done));simp only [zp])
      refine Zi 105 (Zx (Mut M KM) xvs) (f:=51) (args:=#[.slice xA xn xc]) rfl rfl rfl rfl (fun wv=>?_) (fun wv HC hrm hD=>?_) ?_
      ·go_simp<;>rfl
      ·refine (Xe (Mut M KM) wv HC.Zb xA xn xc xvs (HH3.out _ HC) (by omega)).mono ?_
       rintro e w5 ⟨A5,n5,c5,rfl,h50,h51,h52,h53,b5⟩
       exact ⟨_,rfl,⟨A5,n5,c5,rfl,h50,h51,h52,h53⟩,HC.call b5,RM.below b5⟩
      rintro u wx HCx ⟨A5,n5,c5,rfl,-,-,-,-⟩
      clear HCx
      simp only [zp]
      repeat (refine' dv rfl rfl rfl (fun wv HC=>?_) ?_;rotate_left;(focus (go_simp<;>rfl;done));simp only [zp])
      refine YI 107 (YP (Mut M KM) (rid,xvs,ys)) rfl rfl rfl rfl (.agg #[.int .i64 rid,.slice A5 n5 c5,.slice (some ⟨cb,0,none⟩) xn ccap]) (fun wv HC=>?_) (fun wv HC hD=>?_) ?_
      ·go_simp<;>rfl
      ·have h1:Zx (Mut M KM) xvs (.slice A5 n5 c5) wv:=ZI hD 6 rfl (by kernel_rfl) rfl rfl
       exact Jo HXO.out.id HXO.out.vs HVN.out h1 ⟨some ⟨cb,0,none⟩,xn,ccap,rfl,hxl2.symm,HCAP.out.1,HCAP.out.2,HH4.out _ HC⟩
      simp only [zp]
      refine Z8 #[.int .i64 rid,.slice A5 n5 c5,.slice (some ⟨cb,0,none⟩) xn ccap] 136 108 (YX (Mut M KM) [(rid,xvs,ys)]) (fun g=>.slice (some ⟨g,0,none⟩) 1 1) rfl rfl rfl rfl (fun wv=>?_) (fun wv HC _hrm hD hro=>?_) ?_
      ·go_simp<;>rfl
      ·have hrr:=RM.alloc (Mut M KM) wv (.cells #[.int .i64 rid,.slice A5 n5 c5,.slice (some ⟨cb,0,none⟩) xn ccap] 136)
       have h0:YP (Mut M KM) (rid,xvs,ys) (.agg #[.int .i64 rid,.slice A5 n5 c5,.slice (some ⟨cb,0,none⟩) xn ccap]) wv:=ZI hD 8 rfl (by kernel_rfl) rfl rfl
       replace h0:=Vq _ _ _ hrr h0
       exact Js (hro _ HC.Zb) (fun i j k e1=>Value.agg.inj e1) h0
      rintro g51 wg HCg hsl
      simp only [zp]
      clear hsl HCg
      refine Zk ?_
      rintro wx3 HX3
      rintro _hrm HGW
      have hb2:YX (Mut M KM) [(rid,xvs,ys)] (.slice (some ⟨g51,0,none⟩) 1 1) wx3:=(Zo (d:=108) rfl).1 (HGW 9 _ rfl (by omega))
      clear HGW _hrm
      obtain ⟨Aq,nq,cq,pq,heq,-,-,hpm,hpok,hpr⟩:=hb2
      obtain ⟨rfl,rfl,rfl⟩:some ⟨g51,0,none⟩=Aq∧1=nq∧1=cq:=by injection heq with h1 h2 h3;exact ⟨h1,h2,h3⟩
      clear heq
      obtain ⟨pr,rfl,hpu⟩:∃ pr,pq=[pr]∧pr.upd=(rid,xvs,ys):=by
       obtain ⟨pr,h1,h2⟩:=List.map_eq_singleton_iff.1 hpm
       exact ⟨pr,h1,h2⟩
      rw [HKM.out] at HX3 hpr
      have HPE:=hid (show ZB outs++ZB [pr]=ZB (outs++[pr]) by simp [ZB])
      have K7:=HX3.add (hpr.imp fun w h=>(h.2:Yh [pr] w))
      have HG:=hid ((hpr.imp fun w h=>h.1).now)
      have HPU:=hid hpu
      have HPO:=hid hpok
      clear HX3 hpr hpm hpok hpu HH1 HH2 HH3 HH4 HKM K6
      have F7:=K7.facts
      simp only [zg] at F7
      go_wp2_with (at_builtin;go_must (refine ZX K7 5 rfl Tryz.U7 HG.out rfl (.tmp 100) (.tmp 108) rfl rfl rfl (Jn _) (by omega) (by omega) ?_);intro G1 gc1 wB hcB hmB KE;rw [HPE.out] at KE;simp only [zl] at KE;(have FE:=KE.facts);simp only [zg] at FE)
      have KD:=KE.store 7 rfl 2 (.slice G1 (q+1) gc1)
      have KF:=(KD.ZT 6 rfl (Jp (KD.ro 6 rfl) (KD.ro 0 rfl))).pick [5,6,7,8,9,10,11,12] (by decide) rfl
      simp only [zl] at KF
      go_roundw
      case rel=>exact ⟨j+1,q+1,gc1,G1,outs++[pr],by omega,by omega,by go_num,hid ⟨by rw [Km,HO.out.1,Zl2 (r:=(rid,xvs)) (by rw [KQ,HX.out];rfl)];simp [HPU.out,HYS.out],fun p hp=>by
       rcases Kk.1 hp with hp|hp
       ·exact HO.out.2 p hp
       ·exact HPO.out p hp⟩,KF⟩
      case measure=>simp [intOf];omega
  ·obtain rfl:m=j:=by omega
   have hcap:=ZM (H.get 0 rfl)
   have HOE:=hid (show outs.map Pr.upd=YV b k v (rws.map Rw.row) from by
    have h:=HO.out.1
    rwa [Kh (by rw [Kj,HRL.out];exact Kg _)] at h)
   have K4:=((H.store 3 rfl 0 (.slice none 0 0)).store 3 rfl 1 (.slice none 0 0)).store 3 rfl 2 (.slice O q cap)
   simp only [zl] at K4
   have F2:=H.facts
   simp only [zg] at F2
   have F4:=K4.facts
   simp only [zg] at F4
   have KZ:=K4.Zq 0 rfl
   simp only [zl] at KZ
   have hR:Ro _ _ (PrsIn O q outs):=((KZ.ro 0 rfl).and (KZ.ro 1 rfl)).imp fun w2 h2=>⟨h2.1,h2.2⟩
   have HR:=hid (hR.less zm)
   have HBL:=hid KZ.below
   clear KZ K4 H hR
   go_wp2_with fail
   refine Lh (v:=.tuple #[.agg #[.slice none 0 0,.slice none 0 0,.slice O q cap],.int .i64 0]) ?_ rfl ?_
   ·clear HR HBL
    simp [results,Tryz.results46,go_sem,F4]
   ·exact ⟨O,q,cap,outs,rfl,hcap.1,hcap.2.1,HOE.out,HO.out.2,HR.out,HBL.out⟩
end
end Go.Proofs.YtnmnkbnmollpmaaGreatDoor

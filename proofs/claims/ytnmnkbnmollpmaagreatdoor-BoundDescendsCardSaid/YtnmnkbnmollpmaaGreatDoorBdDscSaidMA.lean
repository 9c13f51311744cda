import Derived.ProofKit
import Derived.OpenShut
import Derived.Deep.AppendLies
import Derived.Test.YtnmnkbnmollpmaaGreatDoorProg
import Derived.WalkSpells
import Derived.BigQuiet
import Derived.StillTail
import Derived.WalkLawsBesides
import Derived.Shelf.Small.Strs
import Derived.Deep.RegionHeld3
set_option linter.unusedVariables false
set_option linter.unusedSimpArgs false
set_option maxHeartbeats 64000000
set_option maxRecDepth 100000
namespace Go.Proofs.YtnmnkbnmollpmaaGreatDoor
section
open Go.ChangeShapes Go.WideShapes Go.ChangeAt Go.RowKit
theorem Ka:type_of% @List.mem_of_getElem?:=@List.mem_of_getElem?
theorem Kb:type_of% @List.sublist_cons_self:=@List.sublist_cons_self
theorem Kc:type_of% @List.getElem?_eq_some_iff:=@List.getElem?_eq_some_iff
theorem Ke:type_of% @List.Sublist.cons:=@List.Sublist.cons
theorem Kg:type_of% @Nat.le_refl:=@Nat.le_refl
theorem Kh:type_of% @List.take_of_length_le:=@List.take_of_length_le
theorem Ki:type_of% @List.Sublist.cons_cons:=@List.Sublist.cons_cons
theorem Kj:type_of% @List.length_map:=@List.length_map
theorem Kk:type_of% @List.mem_append:=@List.mem_append
theorem Kl:type_of% @List.mem_cons_self:=@List.mem_cons_self
theorem Km:type_of% @List.map_append:=@List.map_append
theorem Kn:type_of% @IntKind.wrap_i64:=@IntKind.wrap_i64
theorem Ko:type_of% @List.mem_map_of_mem:=@List.mem_map_of_mem
theorem Kq:type_of% @List.take_add_one:=@List.take_add_one
theorem Kr:type_of% @List.mem_cons_of_mem:=@List.mem_cons_of_mem
theorem Kt:type_of% @List.mem_map:=@List.mem_map
theorem Ku:type_of% @List.mem_range:=@List.mem_range
theorem Kv:type_of% @List.mem_cons:=@List.mem_cons
theorem Kw:type_of% @List.all_eq_true:=@List.all_eq_true
theorem Ky:type_of% @List.getElem?_eq_getElem:=@List.getElem?_eq_getElem
theorem Kz:type_of% @Option.some.inj:=@Option.some.inj
theorem KG:type_of% @Array.getElem?_eq_some_iff:=@Array.getElem?_eq_some_iff
theorem KI:type_of% @Nat.le_trans:=@Nat.le_trans
theorem KJ:type_of% @And.intro:=@And.intro
theorem KP:type_of% @World.size_alloc:=@World.size_alloc
theorem KQ:type_of% @List.getElem?_map:=@List.getElem?_map
theorem KR:type_of% @List.Sublist.refl:=@List.Sublist.refl
theorem KV:type_of% @List.nil_sublist:=@List.nil_sublist
theorem KY:type_of% @List.filter_append:=@List.filter_append
theorem La:type_of% @Nat.lt_of_lt_of_le:=@Nat.lt_of_lt_of_le
theorem Lb:type_of% @Array.getElem?_eq_getElem:=@Array.getElem?_eq_getElem
theorem Lc:type_of% @Nat.zero_le:=@Nat.zero_le
theorem Ld:type_of% @List.drop_of_length_le:=@List.drop_of_length_le
theorem Le:type_of% @List.drop_eq_getElem_cons:=@List.drop_eq_getElem_cons
theorem Lf:type_of% @if_neg:=@if_neg
theorem Lg:type_of% @if_pos:=@if_pos
section
variable {H:Type} {enc:TypeId × Value→H} {P:Program}
theorem Zjm {f:Func} {s:ChangeSpec} {apart fresh handsOn again:Bool} {W W' :World} {args:Array Value} {v:Value} {ds gs:List (DataW H)} {before pa pv:List MemPlace}
  (hW:DataW.Whole enc P f.params.toList s.vars apart W args.toList ds gs before)
  (hres:∀ (b:Nat) (sp:Nat→Bool) (hd:Bool),DataW.TrodAll enc P W' b sp hd f.resultTypes.toList (v.resultList f.resultTypes.size) (s.fn H (ds++gs)).results [])
  (hargs:∀ sp:Nat→Bool,(∀ p∈before,sp p.block=true)→DataW.TrodAll enc P W' 0 sp true f.params.toList args.toList (s.fn H (ds++gs)).args pa)
  (hvars:∀ sp:Nat→Bool,(∀ p∈before,sp p.block=true)→DataW.TrodVars enc P W' sp s.vars (s.fn H (ds++gs)).vars pv)
  (hps:before=pa++pv) (hb:Below W.heap.size W W')
  (hok:∀ (j:Nat) (t:TypeId) (r:Value),f.resultTypes[j]? =some t→(v.resultList f.resultTypes.size)[j]? =some r→Value.okWide P W' .any 0 t r):
  s.post enc P f apart fresh handsOn again W args v W' :=by
 have hlt:∀ p∈before,p.block<W.heap.size:=fun p hp=>hW.lt p hp
 have hold:∀ p∈before,(fun b=>decide (b<W.heap.size)) p.block=true:=fun p hp=>by simpa using hlt p hp
 refine ⟨ds,gs,before,[],pa,pv,hW,hres _ _ _,hargs _ hold,hvars _ hold,World.keptBut_mono (fun p hp=>⟨hp,?_⟩) (hb.frame (·∈before)),fun _=>?_⟩
 ·rw [hps,Kk] at hp
  exact Or.inr hp
 ·obtain ⟨_,_,_,_,_,hz,hn⟩:=hW
  refine ⟨hok,_,_,([]++pa)++pv,⟨[]++pa,pv,trodAll_append (hargs _ (fun _ _=>rfl)) (hres _ _ _),hvars _ (fun _ _=>rfl),rfl,?_,?_⟩,?_⟩
  ·intro b off hp
   have hin:MemPlace.cell b off∈before:=by rw [hps];simpa using hp
   rw [hb.frozen (hlt _ hin)]
   exact hz b off hin
  ·intro ha
   have:=hn ha
   rw [hps] at this
   simpa using this
  ·intro p hp _
   rw [hps]
   simpa using hp
theorem Zdy (hl:laidOutB P=true) {W W' :World} {sp:Nat→Bool}:∀ {ts:List TypeId} {vs:List Value} {ds:List (DataW H)} {ps:List MemPlace},
  ts.all (fun t=>P.readableRec t&&decide (t<P.types.size))=true→DataW.TrodAll enc P W 0 (fun _=>true) true ts vs ds ps→(∀ p∈ps,W.sameAt W' p)→(∀ p∈ps,sp p.block=true)→DataW.TrodAll enc P W' 0 sp true ts vs ds ps
 | [],vs,ds,ps,_,h,_,_=>by
  obtain ⟨rfl,rfl,rfl⟩:=trodAll_nil h;rfl
 | t::ts,vs,ds,ps,hr,h,hs,hp=>by
  obtain ⟨v,vs1,d,ds1,a,b,rfl,rfl,rfl,h1,h2⟩:=trodAll_cons h
  simp only [List.all_cons,Bool.and_eq_true,decide_eq_true_eq] at hr
  exact ⟨a,b,WideElems.Trod_stays hl hr.1.1 hr.1.2 h1 (fun x hx=>hs x (by simp [hx])) (fun x hx=>hp x (by simp [hx])),
   Zdy hl (by simpa using hr.2) h2 (fun x hx=>hs x (by simp [hx])) (fun x hx=>hp x (by simp [hx])),rfl⟩
theorem Zid {f:Func} {s:ChangeSpec} {apart fresh handsOn again:Bool} {W W' :World} {args:Array Value} {ds gs:List (DataW H)} {before:List MemPlace} {tb:TypeId}
  (hvs:s.vars=[]) (hl:laidOutB P=true) (hrd:f.params.toList.all (fun t=>P.readableRec t&&decide (t<P.types.size))=true)
  (htb:f.resultTypes=#[tb]) (hub:P.underlying tb=some .bool) (hfn:s.fn H (ds++gs)={ results:=[.lit (.bool true)],args:=ds })
  (hW:DataW.Whole enc P f.params.toList s.vars apart W args.toList ds gs before) (hb:Below W.heap.size W W'):
  s.post enc P f apart fresh handsOn again W args (.bool true) W' :=by
 have hW' :=hW
 obtain ⟨p,q,hA,hV,rfl,hfz,hnd⟩:=hW
 rw [hvs] at hV
 obtain ⟨rfl,rfl⟩:=trodVars_none hV
 have hlt:∀ x∈p++[],x.block<W.heap.size:=fun x hx=>hW'.lt x hx
 refine Zjm (pa:=p) (pv:=[]) hW' ?_ ?_ ?_ rfl hb ?_
 ·intro b sp hd
  rw [hfn,htb]
  exact trodAll_mk1 (shut_bool hub _)
 ·intro sp hsp
  rw [hfn]
  exact Zdy hl hrd hA (fun x hx=>hb.same (hlt x (by simpa using hx))) (fun x hx=>hsp x (by simpa using hx))
 ·intro sp hsp
  rw [hfn,hvs]
  rfl
 ·exact ok_one htb rfl (okWide_bool_mk hub _)
end
end
section
open Go.RowKit
theorem hid {p:Prop} (h:p):Hid p:=h
def I64 (x:Int):Prop:=-9223372036854775808≤x∧x≤9223372036854775807
def Ints (zs:List Int):Prop:=∀ x∈zs,I64 x
theorem Ints.at_ {zs:List Int} (h:Ints zs) (k:Nat):I64 (zs.getD k 0):=by
 by_cases hk:k<zs.length
 ·simp only [List.getD,List.getElem?_eq_getElem hk,Option.getD_some];exact h _ (List.getElem_mem hk)
 ·simp [List.getD,List.getElem?_eq_none (Nat.le_of_not_lt hk),I64]
theorem ZhV (k:IntKind) (zs:List Int) (j:Nat) (hj:j<zs.length):(zs.map (Value.int k)).getD j undef=.int k (zs.getD j 0):=by
 simp [List.getD,hj]
def Rd (w:World) (B size:Nat) (A:Option Addr) (n:Nat) (xs:List Value):Prop:=
 xs.length=n * size∧(0<n→∃ b o,A=some ⟨b,o,none⟩∧b<B∧∀ j u,xs[j]? =some u→w.cell? ⟨b,o+j,none⟩=some u)
section
variable {w w' :World} {B B' size n:Nat} {A:Option Addr} {xs:List Value}
theorem Rd.none_:Rd w B size A 0 []:=⟨by simp,fun h=>absurd h (by omega)⟩
theorem Rd.keep (h:Rd w B size A n xs) (hk:∀ p:Addr,p.block<B→w'.cell? p=w.cell? p):Rd w' B size A n xs:=
 ⟨h.1,fun hn=>by
  obtain ⟨b,o,e,hb,hc⟩:=h.2 hn
  exact ⟨b,o,e,hb,fun j u hu=>(hk _ hb).trans (hc j u hu)⟩⟩
theorem Rd.more (h:Rd w B size A n xs) (hB:B≤B'):Rd w B' size A n xs:=
 ⟨h.1,fun hn=>by
  obtain ⟨b,o,e,hb,hc⟩:=h.2 hn
  exact ⟨b,o,e,by omega,hc⟩⟩
theorem Rd.grown (h:Rd w B size A n xs) {row:Option Nat} (hg:w.grownBy w' row) (hB:B≤w.heap.size) (hr:∀ g,row=some g→B≤g):Rd w' B size A n xs:=
 h.keep fun p hp=>World.cell?_of_block (hg.block p.block (by omega) (fun e=>by have:=hr _ e.symm;omega))
theorem Rd.alloc (h:Rd w B size A n xs) (hB:B≤w.heap.size) (o:Obj):Rd (w.alloc o) B size A n xs:=h.keep fun p hp=>World.cell?_alloc_lt w o p (by omega)
theorem Rd.drewN (h:Rd w B size A n xs) (k:Nat):Rd (w.drewN k) B size A n xs:=h
theorem Rd.setCell (h:Rd w B size A n xs) {p:Addr} (hB:B≤p.block) (u:Value):Rd (w.setCell p u) B size A n xs:=
 h.keep fun q hq=>World.cell?_setCell_other w p q u (fun e=>by subst e;omega)
theorem Rd.at1 (h:Rd w B 1 A n xs) {k:Nat} (hk:k<n):∃ b o,A=some ⟨b,o,none⟩∧b<B∧w.cell? ⟨b,o+k,none⟩=some (xs.getD k undef):=by
 obtain ⟨b,o,e,hb,hc⟩:=h.2 (by omega)
 have hl:k<xs.length:=by have:=h.1;omega
 exact ⟨b,o,e,hb,hc k _ (by simp [List.getD,hl])⟩
theorem Rd.ZlO (h:Rd w B size A n xs) {k:Nat} (hk:k≤n):Rd w B size A k (xs.take (k * size)):=by
 refine ⟨by rw [List.length_take,h.1];exact Nat.min_eq_left (Nat.mul_le_mul_right _ hk),fun hn=>?_⟩
 obtain ⟨b,o,e,hb,hc⟩:=h.2 (by omega)
 exact ⟨b,o,e,hb,fun j u hu=>hc j u (by
  have:=(Kc.1 hu).1
  rw [List.getElem?_take_of_lt (by simp at this;omega)] at hu;exact hu)⟩
theorem Rd.Us {base:Nat} {e:TypeId} {c:Nat} (h:w.ownsRow base e size (.slice A n c) n xs):Rd w w.heap.size size A n xs:=by
 refine ⟨h.1,fun hn=>?_⟩
 obtain ⟨g,cap,hv,_,hlt⟩:=h.form hn
 have hA:A=some ⟨g,0,none⟩:=by injection hv
 subst hA
 refine ⟨g,0,rfl,hlt,fun j u hu=>?_⟩
 have:=h.cells (g:=g) rfl j u hu
 rwa [Addr.add_lit] at this
end
theorem Jk {a w:World} {row:Option Nat} (h:a.grownBy w row) (n:Nat):a.grownBy (w.drewN n) row:=⟨h.os,h.tape,h.output,h.size,h.block⟩
theorem Zi5 {a w:World} {row:Option Nat} (h:a.grownBy w row):a.grownBy w.drew row:=⟨h.os,h.tape,h.output,h.size,h.block⟩
theorem Jj {a w:World} {row:Option Nat} (h:a.grownBy w row) (o:Obj):a.grownBy (w.alloc o) row:=
 ⟨h.os,h.tape,h.output,Nat.le_trans h.size (by simp),fun i hi hne=>(Below.heap_alloc w o i (Nat.lt_of_lt_of_le hi h.size)).trans (h.block i hi hne)⟩
theorem Uv {a w:World} {g:Nat} (h:a.grownBy w (some g)) {p:Addr} (hp:p.block=g∨a.heap.size≤p.block) (u:Value):a.grownBy (w.setCell p u) (some g):=
 ⟨h.os,h.tape,h.output,by simpa [World.setCell] using h.size,fun i hi hne=>(Below.heap_setCell w p u i (by
  rintro rfl
  rcases hp with hp|hp
  ·exact hne (by rw [hp])
  ·omega)).trans (h.block i hi hne)⟩
theorem Zi6 {a w:World} (h:Below a.heap.size a w) (row:Option Nat):a.grownBy w row:=⟨h.os,h.tape,h.output,h.size,fun i hi _=>h.block i hi⟩
theorem WT {a b c:World} {row:Option Nat} (h:a.grownBy b row) (k:b.grownBy c row):a.grownBy c row:=
 ⟨k.os.trans h.os,k.tape.trans h.tape,k.output.trans h.output,KI h.size k.size,fun i hi hn=>(k.block i (La hi h.size) hn).trans (h.block i hi hn)⟩
theorem Zi4 {a b c:World} {row:Option Nat} (h:a.grownBy b row) (k:Below b.heap.size b c):a.grownBy c row:=WT h (Zi6 k row)
theorem Zjc {w:World} {base:Nat} {e:TypeId} {size:Nat} {v:Value} {n:Nat} {xs:List Value} (h:w.ownsRow base e size v n xs):∃ A c,v=.slice A n c:=by
 obtain ⟨_,h|⟨g,cap,_,h,_⟩⟩:=h
 ·obtain ⟨rfl,rfl⟩:=h;exact ⟨_,_,rfl⟩
 ·exact ⟨_,_,h⟩
theorem ZbD {w:World} {g:Nat} {t:TypeId} {cs:Array Value} (h:w.heap[g]? =some (.cells cs t (0,0))) (i:Nat):w.frozen? ⟨g,i,none⟩=false:=by simp [World.frozen?,h]
theorem Gl {w:World} {g:Nat} {t:TypeId} {cs:Array Value} {fr:Nat × Nat} (h:w.heap[g]? =some (.cells cs t fr)) (i:Nat) (u:Value):(w.setCell ⟨g,i,none⟩ u).heap[g]? =some (.cells (cs.setIfInBounds i u) t fr):=by
 simp [World.setCell,Array.getElem?_modify,h]
theorem Zju {P:Program} {f:FuncId} {args:Array Value} {w:World} {a n:Nat} {v:Value}
  (h:Calls P f args (w.drewN (a+n)) fun e w' =>e=.returned v∧w.drewN (a+n)=w'):Calls P f args (w.drewN (a+n)) fun e w'' =>e=.returned v∧∃ m,w'' =w.drewN (a+m):=
 h.mono fun _ _ ⟨he,hm⟩=>⟨he,n,hm.symm⟩
theorem Zjv {P:Program} {f:FuncId} {args:Array Value} {w:World} {n:Nat} {v:Value}
  (h:Calls P f args (w.drewN n) fun e w' =>e=.returned v∧w.drewN n=w'):Calls P f args (w.drewN n) fun e w'' =>e=.returned v∧∃ m,w'' =w.drewN m:=
 h.mono fun _ _ ⟨he,hm⟩=>⟨he,n,hm.symm⟩
theorem Wq {W w1:World} {B:Nat} (hb:Below B W w1):(∀ b o,b<B→w1.cell? ⟨b,o,none⟩=W.cell? ⟨b,o,none⟩)∧(∀ b o,b<B→w1.frozen? ⟨b,o,none⟩=W.frozen? ⟨b,o,none⟩):=
 ⟨fun b o h=>hb.cell (p:=⟨b,o,none⟩) h,fun b o h=>hb.frozen (p:=⟨b,o,none⟩) h⟩
theorem Xx {w w1 w2:World} {B:Nat} (h:Below B w w1) (k:Below w1.heap.size w1 w2) (hB:B≤w.heap.size):Below B w w2:=h.trans (k.mono (KI hB h.size))
end
section
open Go.RowKit
def Tp (w:World) (T:Nat):Prop:=
 ∃ (A:Option Addr) (n c p:Nat) (zs:List Int),w.heap[T]? =some (.cells #[.slice A n c,.int .i64 p] 77 (0,0))∧p≤n∧n≤500∧Rd w T 1 A n (zs.map (Value.int .i64))∧Ints zs
theorem Tp.lt {w:World} {T:Nat} (h:Tp w T):T<w.heap.size:=by
 obtain ⟨A,n,c,p,zs,h,_⟩:=h
 rcases Nat.lt_or_ge T w.heap.size with hlt|hge
 ·exact hlt
 ·rw [Array.getElem?_eq_none hge] at h;cases h
theorem Tp.keep {w w' :World} {T:Nat} (h:Tp w T) (hk:∀ k,k≤T→w'.heap[k]? =w.heap[k]?):Tp w' T:=by
 obtain ⟨A,n,c,p,zs,h1,h2,h3,h4,h5⟩:=h
 exact ⟨A,n,c,p,zs,(hk T (Kg _)).trans h1,h2,h3,h4.keep fun q hq=>World.cell?_of_block (w:=w) (hk q.block (by omega)),h5⟩
theorem Tp.grown {w w' :World} {T:Nat} {row:Option Nat} (h:Tp w T) (hg:w.grownBy w' row) (hr:∀ g,row=some g→T<g):Tp w' T:=
 h.keep fun k hk=>hg.block k (by have:=h.lt;omega) (fun e=>by have:=hr k e.symm;omega)
theorem Tp.alloc {w:World} {T:Nat} (h:Tp w T) (o:Obj):Tp (w.alloc o) T:=h.keep fun k hk=>Below.heap_alloc w o k (by have:=h.lt;omega)
theorem Tp.drewN {w:World} {T:Nat} (h:Tp w T) (n:Nat):Tp (w.drewN n) T:=h
theorem Tp.setCell {w:World} {T:Nat} (h:Tp w T) {p:Addr} (hp:T<p.block) (u:Value):Tp (w.setCell p u) T:=h.keep fun k hk=>Below.heap_setCell w p u k (by omega)
theorem Ziw (v n:Int) (h:0<n):(if v.tmod n<0 then v.tmod n+n else v.tmod n)=v % n:=by
 have h1:-n<v.tmod n:=Int.lt_tmod_of_pos v h
 have h2:v.tmod n<n:=Int.tmod_lt_of_pos v h
 have h3:v=n * (v.tdiv n)+v.tmod n:=(Int.mul_tdiv_add_tmod v n).symm
 split
 ·rename_i hlt
  have:v=(v.tmod n+n)+n * (v.tdiv n - 1):=by rw [Int.mul_sub,Int.mul_one];omega
  conv=>rhs;rw [this]
  rw [Int.add_mul_emod_self_left,Int.emod_eq_of_lt (by omega) (by omega)]
 ·conv=>rhs;rw [h3]
  rw [Int.add_comm,Int.add_mul_emod_self_left,Int.emod_eq_of_lt (by omega) (by omega)]
theorem ZcF {a b:Int} (h:a=b):Ending.returned (.int .i64 a)=.returned (.int .i64 b):=by rw [h]
theorem JV (v n:Int) (w:World) (hv:I64 v) (h0:0<n) (h1:n≤9223372036854775807):
  Calls Tryz.prog 5 #[.int .i64 v,.int .i64 n] w fun e w' =>e=.returned (.int .i64 (v % n))∧w=w' :=by
 have hm:=Ziw v n h0
 have b1:-n<v.tmod n:=Int.lt_tmod_of_pos v h0
 have b2:v.tmod n<n:=Int.tmod_lt_of_pos v h0
 have hn:(n==0)=false:=by simp;omega
 obtain ⟨t,ht,ht'⟩:∃ t,IntKind.i64.wrap (v.tmod n)=t∧v.tmod n=t:=⟨_,IntWalk.i64_in _ (by omega),rfl⟩
 rw [ht'] at hm b1 b2
 obtain ⟨hv0,hv1⟩:=hv
 by_cases hlt:t<0
 ·have HM:Hid (t+n=v % n):=by rw [Lg hlt] at hm;exact hm
  clear hm
  go_enter Tryz.func5,Tryz.ntmps5
  go_wp2
  go_ret
  exact ⟨ZcF HM.out,rfl⟩
 ·have HM:Hid (t=v % n):=by rw [Lf hlt] at hm;exact hm
  clear hm
  go_enter Tryz.func5,Tryz.ntmps5
  go_wp2
  go_ret
  exact ⟨ZcF HM.out,rfl⟩
def ZdY (w:World) (T:Nat) (n:Int) (e:Ending) (w' :World):Prop:=
 ∃ r:Int,e=.returned (.int .i64 r)∧0≤r∧r<n∧Tp w' T∧w.grownBy w' (some T)
theorem Wd (T:Nat) (n:Int) (w:World) (ht:Tp w T) (h0:0<n) (h1:n≤9223372036854775807):
  Calls Tryz.prog 42 #[.pointer (some ⟨T,0,none⟩),.int .i64 n] w fun e w' =>ZdY w T n e w' :=by
 obtain ⟨A,m,c,p,zs,hb,hp,hm,hr,hz⟩:=ht
 have hc0:w.cell? ⟨T,0,none⟩=some (.slice A m c):=cell_of_row w T 0 _ _ _ hb
 have hc1:w.cell? ⟨T,1,none⟩=some (.int .i64 p):=cell_of_row w T 1 _ _ _ hb
 have hf:w.frozen? ⟨T,1,none⟩=false:=by simp [World.frozen?,hb]
 have hl:zs.length=m:=by simpa using hr.1
 have HL:=hid hl;clear hl
 have HB:=hid hb;clear hb
 by_cases hlt:p<m
 ·obtain ⟨b,o,rfl,hbT,hc⟩:=hr.at1 hlt
  rw [ZhV _ _ _ (by rw [HL.out];omega)] at hc
  have bz:=hz.at_ p
  have HZ:=hid bz;clear bz
  go_enter Tryz.func42,Tryz.ntmps42
  go_wp2_with fail
  go_quiet (fail)
  go_wp2_with fail
  go_quiet ((go_at_call 5;first|exact Zjv (JV _ _ _ HZ.out h0 h1)|exact Zju (JV _ _ _ HZ.out h0 h1)))
  go_wp2_with fail
  go_ret
  refine ⟨zs.getD p 0 % n,by simp [List.getD],Int.emod_nonneg _ (by omega),Int.emod_lt_of_pos _ h0,Tp.drewN ⟨_,m,c,p+1,zs,Gl (g:=T) (w:=World.drewN _ _) HB.out 1 _,by omega,hm,Rd.setCell (Rd.drewN hr _) (Nat.le_refl _) _,hz⟩ _,?_⟩
  exact Jk (Uv (Jk (World.grownBy.refl _ _) _) (.inl rfl) _) _
 ·go_enter Tryz.func42,Tryz.ntmps42
  go_wp2_with fail
  go_quiet (fail)
  go_wp2_with fail
  go_ret
  exact ⟨0,rfl,by omega,h0,Tp.drewN ⟨A,m,c,p,zs,HB.out,hp,hm,hr,hz⟩ _,Jk (World.grownBy.refl _ _) _⟩
def ZdZ (w:World) (T:Nat) (e:Ending) (w' :World):Prop:=
 ∃ r:Int,e=.returned (.int .i64 r)∧I64 r∧Tp w' T∧w.grownBy w' (some T)
theorem ZiQ (T:Nat) (w:World) (ht:Tp w T):
  Calls Tryz.prog 128 #[.pointer (some ⟨T,0,none⟩)] w fun e w' =>ZdZ w T e w' :=by
 go_enter Tryz.func128,Tryz.ntmps128
 go_wp2_with fail
 refine (Wd T 8 _ ht (by omega) (by omega)).mono ?_
 rintro e w1 ⟨r,rfl,r0,r1,t1,g1⟩
 have hcase:r=0∨r=1∨r=2∨((r==0)=false∧(r==1)=false∧(r==2)=false):=by
  simp only [beq_eq_false_iff_ne];omega
 rcases hcase with rfl|rfl|rfl|⟨k0,k1,k2⟩
 ·go_wp2_with fail
  refine (Wd T 3 _ t1 (by omega) (by omega)).mono ?_
  rintro e w2 ⟨s,rfl,s0,s1,t2,g2⟩
  go_wp2
  go_ret
  exact ⟨9223372036854775807 - s,rfl,by unfold I64;omega,t2,WT g1 g2⟩
 ·go_wp2_with fail
  refine (Wd T 3 _ t1 (by omega) (by omega)).mono ?_
  rintro e w2 ⟨s,rfl,s0,s1,t2,g2⟩
  go_wp2
  go_ret
  exact ⟨-9223372036854775808+s,rfl,by unfold I64;omega,t2,WT g1 g2⟩
 ·go_wp2_with fail
  refine (Wd T 9 _ t1 (by omega) (by omega)).mono ?_
  rintro e w2 ⟨s,rfl,s0,s1,t2,g2⟩
  go_wp2
  go_ret
  exact ⟨-s,rfl,by unfold I64;omega,t2,WT g1 g2⟩
 ·go_wp2_with fail
  refine (Wd T 9 _ t1 (by omega) (by omega)).mono ?_
  rintro e w2 ⟨s,rfl,s0,s1,t2,g2⟩
  go_wp2
  go_ret
  exact ⟨s,rfl,by unfold I64;omega,t2,WT g1 g2⟩
def Zef (w:World) (e:Ending) (w' :World):Prop:=
 ∃ T,e=.returned (.pointer (some ⟨T,0,none⟩))∧w.heap.size≤T∧Tp w' T∧Below w.heap.size w w'
theorem ZiJ (A:Option Addr) (n c:Nat) (zs:List Int) (w:World) (hr:Rd w w.heap.size 1 A n (zs.map (Value.int .i64))) (hz:Ints zs) (hn:n≤c) (hc:c≤9223372036854775807):
  Calls Tryz.prog 4 #[.slice A n c] w fun e w' =>Zef w e w' :=by
 by_cases hlt:500<n
 ·go_enter Tryz.func4,Tryz.ntmps4
  go_wp2
  go_ret
  refine ⟨w.heap.size,rfl,Kg _,⟨A,500,c,0,zs.take 500,heap_alloc_new w _,by omega,by omega,?_,fun x hx=>hz x (List.mem_of_mem_take hx)⟩,(Below.refl _ _).alloc (Kg _) _⟩
  have:=(hr.ZlO (k:=500) (by omega)).alloc (Kg _) (.cells #[.slice A 500 c,.int .i64 0] 77)
  simpa [List.map_take] using this
 ·go_enter Tryz.func4,Tryz.ntmps4
  go_wp2
  go_ret
  exact ⟨w.heap.size,rfl,Kg _,⟨A,n,c,0,zs,heap_alloc_new w _,by omega,by omega,hr.alloc (Kg _) _,hz⟩,(Below.refl _ _).alloc (Kg _) _⟩
end
section
open Go.RowKit
def Blk (w:World) (g:Nat) (t:TypeId) (cs:Array Value):Prop:=w.heap[g]? =some (.cells cs t (0,0))
section
variable {w w' w1:World} {g:Nat} {t:TypeId} {cs:Array Value}
theorem Blk.lt (h:Blk w g t cs):g<w.heap.size:=by
 rcases Nat.lt_or_ge g w.heap.size with hlt|hge
 ·exact hlt
 ·unfold Blk at h;rw [Array.getElem?_eq_none hge] at h;cases h
theorem Blk.cell (h:Blk w g t cs) (i:Nat):w.cell? ⟨g,i,none⟩=cs[i]? :=cell_of_row w g i cs t (0,0) h
theorem Blk.frozen (h:Blk w g t cs) (i:Nat):w.frozen? ⟨g,i,none⟩=false:=ZbD h i
theorem Blk.new (w:World) (t:TypeId) (cs:Array Value):Blk (w.alloc (.cells cs t)) w.heap.size t cs:=heap_alloc_new w _
theorem Blk.alloc (h:Blk w g t cs) (o:Obj):Blk (w.alloc o) g t cs:=(Below.heap_alloc w o g h.lt).trans h
theorem Blk.below {B:Nat} (h:Blk w g t cs) (hb:Below B w w') (hg:g<B):Blk w' g t cs:=(hb.block g hg).trans h
theorem Blk.over (h:Blk w g t cs) (hb:Below w.heap.size w w'):Blk w' g t cs:=h.below hb h.lt
theorem Blk.Zc5 (h:Blk w g t cs) (i:Nat) (u:Value):Blk (w.setCell ⟨g,i,none⟩ u) g t (cs.setIfInBounds i u):=Gl h i u
theorem Blk.grown {row:Option Nat} (h:Blk w g t cs) (hb:w.grownBy w' row) (hg:some g≠row):Blk w' g t cs:=(hb.block g h.lt hg).trans h
theorem Blk.c3 {x y z:Value} (h:Blk w g t #[x,y,z]):w.cell? ⟨g,0,none⟩=some x∧w.cell? ⟨g,1,none⟩=some y∧w.cell? ⟨g,2,none⟩=some z∧g<w.heap.size:=⟨h.cell 0,h.cell 1,h.cell 2,h.lt⟩
end
theorem Q4 (w:World) (o:Obj):Below w.heap.size w (w.alloc o):=(Below.refl _ _).alloc (Kg _) _
theorem Zbb (w:World) (o o' :Obj):Below w.heap.size w ((w.alloc o).alloc o'):=(Q4 w o).alloc (by simp) _
theorem Wv (w:World) (o o' o'' :Obj):Below w.heap.size w (((w.alloc o).alloc o').alloc o''):=(Zbb w o o').alloc (by simp;omega) _
theorem Blk.Yb {w w1:World} {t t' t'' :TypeId} {cs cs' cs'' :Array Value} (hb:Below (((w.alloc (.cells cs t)).alloc (.cells cs' t')).alloc (.cells cs'' t'')).heap.size (((w.alloc (.cells cs t)).alloc (.cells cs' t')).alloc (.cells cs'' t'')) w1):
  Blk w1 w.heap.size t cs∧Blk w1 (w.heap.size+1) t' cs' ∧Blk w1 (w.heap.size+1+1) t'' cs'' :=
 ⟨(((Blk.new w t cs).alloc _).alloc _).over hb,by have:=((Blk.new (w.alloc (.cells cs t)) t' cs').alloc (.cells cs'' t'')).over hb;simpa using this,
  by have:=(Blk.new ((w.alloc (.cells cs t)).alloc (.cells cs' t')) t'' cs'').over hb;simpa using this⟩
end
section
open Go
set_option linter.unusedSectionVars false
def slot (a:Act):Option Tmp→Value
 | some t=>a.tmps.getD t undef
 | none=>undef
section
variable (P:Program) (ops:Array Oper) (C:World→Prop) (G:Option Tmp→Value→World→Prop) (R:World→World→Prop)
def Yv (o:Oper) (a:Act) (w:World):Prop:=∀ e∈o.after,Region.binds .any e=true→∀ oe,ops[e.on]? =some oe→G oe.dst (slot a oe.dst) w
def Vi (d:Option Tmp) (w:World):Result Next→Prop
 | .ok (.value u) w' =>G d u w' ∧C w' ∧R w w'
 | .ok .skip w' =>G d undef w' ∧C w' ∧R w w'
 | .ok (.enter f args) w' =>Calls P f args w' fun e w'' =>∃ u,e=.returned u∧G d u w'' ∧C w'' ∧R w w''
 | _=>False
def Good (o:Oper) (a:Act) (w:World):Prop:=Vi P C G R o.dst w ((execOp a.eval o).run P w)
def Zb6 (u:Value):Result Next→Prop
 | .ok (.value x) _=>u=x
 | .ok .skip _=>u=undef
 | .ok (.enter _ _) _=>True
 | _=>False
def StepOk (o:Oper) (a:Act):Prop:=
 if Region.wanted o (yielded ops a.tmps)=true then ∀ w,C w→Yv ops G o a w→Good P C G R o a w else ∀ w,C w→G o.dst undef w
def May (o:Oper) (a:Act) (u:Value):Prop:=
 if Region.wanted o (yielded ops a.tmps)=true then ∃ w,C w∧Yv ops G o a w∧Zb6 u ((execOp a.eval o).run P w) else u=undef
def Inh (S:Array Bool) (k:Nat) (a:Act):Prop:=∃ w,C w∧∀ j oj,ops[j]? =some oj→(S.getD j false=true∨j<k)→G oj.dst (slot a oj.dst) w
def Wk (S:Array Bool) (F:Act→Prop):Nat→Nat→Act→Prop
 | 0,k,a=>Inh ops C G S k a→F a
 | m+1,k,a=>Inh ops C G S k a→match ops[k]? with
  | none=>False
  | some o=>if S.getD k false=true then Wk S F m (k+1) a else StepOk P ops C G R o a∧∀ u,May P ops C G o a u→Inh ops C G S (k+1) (a.put o.dst u)→Wk S F m (k+1) (a.put o.dst u)
def Inv (S:Array Bool) (a:Act) (w:World):Prop:=C w∧∀ j oj,ops[j]? =some oj→S.getD j false=true→G oj.dst (slot a oj.dst) w
end
section
variable {P:Program} {ops:Array Oper} {C:World→Prop} {G:Option Tmp→Value→World→Prop} {R:World→World→Prop}
def U4 (ops:Array Oper) (n:Nat):Bool:=
 (List.range ops.size).all fun i=>match (ops[i]?).bind (·.dst) with
  | none=>true
  | some d=>decide (d<n)&&(List.range ops.size).all fun j=>j==i||(ops[j]?).bind (·.dst) !=some d
theorem Za0 {n i:Nat} {o:Oper} {d:Tmp} (h:U4 ops n=true) (hi:ops[i]? =some o) (hd:o.dst=some d):d<n:=by
 have h1:=Kw.1 h i (Ku.2 (KG.1 hi).1)
 simp only [hi,Option.bind_some,hd,Bool.and_eq_true,decide_eq_true_eq] at h1
 exact h1.1
theorem QT {n i j:Nat} {o o' :Oper} {d:Tmp} (h:U4 ops n=true) (hi:ops[i]? =some o) (hj:ops[j]? =some o') (hd:o.dst=some d) (hij:j≠i):o'.dst≠some d:=by
 have h1:=Kw.1 h i (Ku.2 (KG.1 hi).1)
 simp only [hi,Option.bind_some,hd,Bool.and_eq_true] at h1
 have h2:=Kw.1 h1.2 j (Ku.2 (KG.1 hj).1)
 simp only [hj,Option.bind_some,Bool.or_eq_true,beq_iff_eq,bne_iff_ne,ne_eq] at h2
 exact h2.resolve_left hij
theorem zC {a:Act} {x y:Option Tmp} {v:Value} (h:∀ d,x=some d→y≠some d):slot (a.put x v) y=slot a y:=by
 cases x with
 | none=>rfl
 | some d=>
  cases y with
  | none=>rfl
  | some t=>
   have hne:d≠t:=fun e=>h d rfl (by rw [e])
   simp only [Act.put,slot,Array.getD_eq_getD_getElem?,Array.getElem?_setIfInBounds_ne hne]
theorem Zda {a:Act} {d:Tmp} {v:Value} (h:d<a.tmps.size):slot (a.put (some d) v) (some d)=v:=by
 simp [Act.put,slot,h]
theorem size_put {a:Act} {x:Option Tmp} {v:Value}:(a.put x v).tmps.size=a.tmps.size:=by
 cases x<;>simp [Act.put]
structure Aside (ops:Array Oper) (o o' :Oper):Prop where
 sel:∀ cs b,o.op≠.select cs b
 look:∀ d,o'.dst=some d→d ∉ o.looksAt ops
 deps:∀ e∈o.after,Region.binds .any e=true→∀ oe,ops[e.on]? =some oe→∀ d,o'.dst=some d→oe.dst≠some d
theorem Aside.wanted {o o' :Oper} (h:Aside ops o o') (a:Act) (v:Value):Region.wanted o (yielded ops (a.put o'.dst v).tmps)=Region.wanted o (yielded ops a.tmps):=wanted_put o a o'.dst v h.look
theorem Aside.exec {o o' :Oper} (h:Aside ops o o') (a:Act) (v:Value):execOp (a.put o'.dst v).eval o=execOp a.eval o:=execOp_put (ops:=ops) o h.sel a o'.dst v h.look
theorem Aside.ZaW {o o' :Oper} (h:Aside ops o o') (a:Act) (v:Value) (w:World):Yv ops G o (a.put o'.dst v) w↔Yv ops G o a w:=by
 constructor
 ·intro k e he hb oe hoe
  have:=k e he hb oe hoe
  rwa [zC (h.deps e he hb oe hoe)] at this
 ·intro k e he hb oe hoe
  rw [zC (h.deps e he hb oe hoe)]
  exact k e he hb oe hoe
theorem Aside.step {o o' :Oper} (h:Aside ops o o') (a:Act) (v:Value):StepOk P ops C G R o (a.put o'.dst v)↔StepOk P ops C G R o a:=by
 unfold StepOk Good
 rw [h.wanted,h.exec]
 simp only [h.ZaW]
theorem Aside.may {o o' :Oper} (h:Aside ops o o') (a:Act) (v u:Value):May P ops C G o (a.put o'.dst v) u↔May P ops C G o a u:=by
 unfold May
 rw [h.wanted,h.exec]
 simp only [h.ZaW]
variable {n N:Nat} {F:Act→Prop}
structure Shape (ops:Array Oper) (n N:Nat):Prop where
 dsts:U4 ops N=true
 le:n≤ops.size
 back:∀ k o,ops[k]? =some o→k<n→∀ e∈o.after,Region.binds .any e=true→e.on<k
 aside:∀ k i ok oi,k<i→i<n→ops[k]? =some ok→ops[i]? =some oi→(∀ e∈oi.after,Region.binds .any e=true→e.on≠k)→ok.apart ops oi=true
 sel:∀ (j:Nat) (o:Oper) cs b,ops[j]? =some o→o.op≠.select cs b
theorem Shape.Zau (h:Shape ops n N) {k i:Nat} {ok oi:Oper} (hki:k<i) (hi:i<n) (hk' :ops[k]? =some ok) (hi' :ops[i]? =some oi) (hno:∀ e∈oi.after,Region.binds .any e=true→e.on≠k):Aside ops oi ok∧Aside ops ok oi:=by
 obtain ⟨h1,h2,h3⟩:=Oper.apart_spec (h.aside k i ok oi hki hi hk' hi' hno)
 refine ⟨⟨fun cs b=>h.sel i oi cs b hi',h1,fun e he hb oe hoe d hd=>?_⟩,⟨fun cs b=>h.sel k ok cs b hk',h3,fun e he hb oe hoe d hd=>?_⟩⟩
 ·exact QT h.dsts hk' hoe hd (hno e he hb)
 ·have:=h.back k ok hk' (by omega) e he hb
  exact QT h.dsts hi' hoe hd (by omega)
section
variable (sh:Shape ops n N) (hmono:∀ d u w w',R w w' →G d u w→G d u w')
include sh hmono
theorem Qr {S:Array Bool} {i:Nat} {oi:Oper} {a:Act} {u:Value} (hi:ops[i]? =some oi) {j:Nat} {oj:Oper} (hj:ops[j]? =some oj) (hji:j≠i):slot (a.put oi.dst u) oj.dst=slot a oj.dst:=
 zC fun d hd=>QT sh.dsts hi hj hd hji
theorem zD {i:Nat} {oi:Oper} {a:Act} {u:Value} (hN:a.tmps.size=N) (hi:ops[i]? =some oi) {w:World} (h:G oi.dst u w) (hu:oi.dst=none→G none undef w):G oi.dst (slot (a.put oi.dst u) oi.dst) w:=by
 cases hd:oi.dst with
 | none=>simpa [slot] using hu hd
 | some d=>
  rw [Zda (by rw [hN];exact Za0 sh.dsts hi hd),←hd]
  exact h
theorem StepOk.some_ {k:Nat} {o:Oper} {a:Act} {w:World} (h:StepOk P ops C G R o a) (hC:C w) (hD:Yv ops G o a w) (hR:R w w):∃ u w',May P ops C G o a u∧C w' ∧R w w' ∧G o.dst u w' :=by
 unfold StepOk at h
 unfold May
 split at h
 ·rename_i hw
  simp only [hw,if_true]
  have hg:=h w hC hD
  unfold Good at hg
  have key:∀ r,(execOp a.eval o).run P w=r→Vi P C G R o.dst w r→∃ u w',(∃ w,C w∧Yv ops G o a w∧Zb6 u ((execOp a.eval o).run P w))∧C w' ∧R w w' ∧G o.dst u w' :=by
   intro r hr hg
   cases r with
   | ok nx w' =>
    cases nx<;>simp only [Vi] at hg
    case value u=>exact ⟨u,w',⟨w,hC,hD,by rw [hr];rfl⟩,hg.2.1,hg.2.2,hg.1⟩
    case skip=>exact ⟨undef,w',⟨w,hC,hD,by rw [hr];rfl⟩,hg.2.1,hg.2.2,hg.1⟩
    case enter f args=>
     obtain ⟨e,w2,fr,⟨u,_,h1,h2,h3⟩,_⟩:=hg []
     exact ⟨u,w2,⟨w,hC,hD,by rw [hr];trivial⟩,h2,h3,h1⟩
   | halt x w' =>simp only [Vi] at hg
  exact key _ rfl hg
 ·rename_i hw
  simp only [hw,if_false]
  exact ⟨undef,w,rfl,hC,hR,h w hC⟩
theorem Wk.past {S:Array Bool} {i:Nat}:∀ (m k:Nat) (a:Act),i<k→i<S.size→Wk P ops C G R S F m k a→Wk P ops C G R (S.setIfInBounds i true) F m k a
 | 0,k,a,hk,hS,h=>fun ⟨w,hw,hg⟩=>h ⟨w,hw,fun j oj hj hs=>hg j oj hj (hs.imp (getD_set_true ·) id)⟩
 | m+1,k,a,hk,hS,h=>fun hI=>by
  obtain ⟨w,hw,hg⟩:=hI
  have hI' :Inh ops C G S k a:=⟨w,hw,fun j oj hj hs=>hg j oj hj (hs.imp (getD_set_true ·) id)⟩
  have h1:=h hI'
  cases ho:ops[k]? with
  | none=>simp only [ho] at h1
  | some o=>
   simp only [ho] at h1 ⊢
   rw [getD_set_ne false (by omega:i≠k)]
   split at h1
   ·rename_i hs
    simp only [hs,if_true]
    exact Wk.past m (k+1) a (by omega) hS h1
   ·rename_i hs
    simp only [hs,if_false]
    refine ⟨h1.1,fun u hu hI2=>Wk.past m (k+1) _ (by omega) hS (h1.2 u hu ?_)⟩
    obtain ⟨w,hw,hg⟩:=hI2
    exact ⟨w,hw,fun j oj hj hs=>hg j oj hj (hs.imp (getD_set_true ·) id)⟩
theorem Wk.front {S:Array Bool} {i:Nat} {oi:Oper} (hi:ops[i]? =some oi) (hin:i<n) (hS:S.size=ops.size) (hun:S.getD i false=false) (hw:∀ e∈oi.after,Region.binds .any e=true→S.getD e.on false=true) {u:Value}:
  ∀ (m k:Nat) (a:Act),k≤i→k+m=n→a.tmps.size=N→May P ops C G oi a u→Wk P ops C G R S F m k a→Wk P ops C G R (S.setIfInBounds i true) F m k (a.put oi.dst u)
 | 0,k,a,hk,hkm,_,_,h=>by omega
 | m+1,k,a,hk,hkm,hN,hu,h=>fun hI=>by
  have hiS:i<S.size:=by rw [hS];exact (KG.1 hi).1
  obtain ⟨w,hw',hg⟩:=hI
  have hI' :Inh ops C G S k a:=⟨w,hw',fun j oj hj hs=>by
   have hji:j≠i:=by
    rintro rfl
    rcases hs with hs|hs
    ·rw [hun] at hs;cases hs
    ·omega
   have:=hg j oj hj (hs.imp (getD_set_true ·) id)
   rwa [Qr sh hmono (S:=S) hi hj hji] at this⟩
  have h1:=h hI'
  by_cases hki:k=i
  ·subst hki
   simp only [hi,hun,if_false,Bool.false_eq_true] at h1
   simp only [hi]
   have hst:(S.setIfInBounds k true).getD k false=true:=by simp [hiS]
   simp only [hst,if_true]
   refine Wk.past sh hmono m (k+1) _ (by omega) hiS (h1.2 u hu ⟨w,hw',fun j oj hj hs=>hg j oj hj ?_⟩)
   by_cases hjk:j=k
   ·subst hjk;exact .inl hst
   ·rcases hs with hs|hs
    ·exact .inl (getD_set_true hs)
    ·exact .inr (by omega)
  ·cases ho:ops[k]? with
   | none=>simp only [ho] at h1
   | some o=>
    simp only [ho] at h1 ⊢
    rw [getD_set_ne false (Ne.symm hki)]
    split at h1
    ·rename_i hs
     simp only [hs,if_true]
     exact Wk.front hi hin hS hun hw m (k+1) a (by omega) (by omega) hN hu h1
    ·rename_i hs
     simp only [hs,if_false]
     have hno:∀ e∈oi.after,Region.binds .any e=true→e.on≠k:=fun e he hb hek=>by
      have:=hw e he hb
      rw [hek] at this
      exact hs this
     obtain ⟨as1,as2⟩:=sh.Zau (show k<i by omega) hin ho hi hno
     refine ⟨(as2.step a u).2 h1.1,fun v hv hI2=>?_⟩
     rw [as2.may] at hv
     have hdd:∀ d,o.dst=some d→oi.dst≠some d:=fun d hd=>QT sh.dsts ho hi hd (Ne.symm hki)
     have hcomm:(a.put oi.dst u).put o.dst v=(a.put o.dst v).put oi.dst u:=(Act.put_comm a v u hdd).symm
     rw [hcomm] at hI2 ⊢
     refine Wk.front hi hin hS hun hw m (k+1) _ (by omega) (by omega) (by rw [size_put];exact hN) ((as1.may a v u).2 hu) (h1.2 v hv ?_)
     obtain ⟨w2,hw2,hg2⟩:=hI2
     refine ⟨w2,hw2,fun j oj hj hs2=>?_⟩
     have hji:j≠i:=by
      rintro rfl
      rcases hs2 with hs2|hs2
      ·rw [hun] at hs2;cases hs2
      ·omega
     have:=hg2 j oj hj (hs2.imp (getD_set_true ·) id)
     rwa [Qr sh hmono (S:=S) hi hj hji] at this
theorem Wk.ready {S:Array Bool} {i:Nat} {oi:Oper} (hR:∀ w,C w→R w w) (hu:∀ w,C w→G none undef w) (hi:ops[i]? =some oi) (hin:i<n) (hun:S.getD i false=false) (hw:∀ e∈oi.after,Region.binds .any e=true→S.getD e.on false=true):
  ∀ (m k:Nat) (a:Act) (w:World),k≤i→k+m=n→a.tmps.size=N→C w→(∀ j oj,ops[j]? =some oj→(S.getD j false=true∨j<k)→G oj.dst (slot a oj.dst) w)→Wk P ops C G R S F m k a→StepOk P ops C G R oi a
 | 0,k,a,w,hk,hkm,_,_,_,h=>by omega
 | m+1,k,a,w,hk,hkm,hN,hC,hg,h=>by
  have h1:=h ⟨w,hC,hg⟩
  by_cases hki:k=i
  ·subst hki
   simp only [hi,hun,if_false,Bool.false_eq_true] at h1
   exact h1.1
  ·cases ho:ops[k]? with
   | none=>simp only [ho] at h1
   | some o=>
    simp only [ho] at h1
    split at h1
    ·rename_i hs
     exact Wk.ready hR hu hi hin hun hw m (k+1) a w (by omega) (by omega) hN hC (fun j oj hj hs2=>hg j oj hj (by
      rcases hs2 with hs2|hs2
      ·exact .inl hs2
      ·rcases Nat.lt_or_ge j k with h' |h'
       ·exact .inr h'
       ·obtain rfl:j=k:=by omega
        exact .inl hs)) h1
    ·rename_i hs
     have hno:∀ e∈oi.after,Region.binds .any e=true→e.on≠k:=fun e he hb hek=>by
      have:=hw e he hb
      rw [hek] at this
      exact hs this
     obtain ⟨as1,as2⟩:=sh.Zau (show k<i by omega) hin ho hi hno
     have hD:Yv ops G o a w:=fun e he hb oe hoe=>hg e.on oe hoe (.inr (sh.back k o ho (by omega) e he hb))
     obtain ⟨u,w',hm,hC',hR',hG'⟩:=StepOk.some_ sh hmono (k:=k) h1.1 hC hD (hR w hC)
     have hg' :∀ j oj,ops[j]? =some oj→(S.getD j false=true∨j<k+1)→G oj.dst (slot (a.put o.dst u) oj.dst) w' :=fun j oj hj hs2=>by
      by_cases hjk:j=k
      ·subst hjk
       obtain rfl:o=oj:=Kz (ho.symm.trans hj)
       exact zD sh hmono hN hj hG' (fun _=>hu w' hC')
      ·rw [Qr sh hmono (S:=S) ho hj hjk]
       exact hmono _ _ _ _ hR' (hg j oj hj (hs2.imp id (by omega)))
     have:=Wk.ready hR hu hi hin hun hw m (k+1) (a.put o.dst u) w' (by omega) (by omega) (by rw [size_put];exact hN) hC' hg' (h1.2 u hm ⟨w',hC',hg'⟩)
     exact (as1.step a u).1 this
theorem Wk.done {S:Array Bool}:∀ (m k:Nat) (a:Act) (w:World),k+m=n→(∀ j,j<n→S.getD j false=true)→C w→(∀ j oj,ops[j]? =some oj→(S.getD j false=true∨j<k)→G oj.dst (slot a oj.dst) w)→Wk P ops C G R S F m k a→F a
 | 0,k,a,w,hkm,hall,hC,hg,h=>h ⟨w,hC,hg⟩
 | m+1,k,a,w,hkm,hall,hC,hg,h=>by
  have h1:=h ⟨w,hC,hg⟩
  have hk:=hall k (by omega)
  cases ho:ops[k]? with
  | none=>simp only [ho] at h1
  | some o=>
   simp only [ho,hk,if_true] at h1
   exact Wk.done m (k+1) a w (by omega) hall hC (fun j oj hj hs2=>hg j oj hj (by
    rcases hs2 with hs2|hs2
    ·exact .inl hs2
    ·exact .inl (hall j (by omega)))) h1
end
theorem count_one {i:Nat} {p q:Nat→Bool} (hp:p i=true) (hq:q i=false) (he:∀ j,j≠i→q j=p j):∀ l:List Nat,l.Nodup→(i∈l→l.countP p=l.countP q+1)∧(i ∉ l→l.countP p=l.countP q)
 | [],_=>⟨(fun h=>nomatch h),fun _=>rfl⟩
 | x::l,h=>by
  obtain ⟨h1,h2⟩:=List.nodup_cons.1 h
  obtain ⟨i1,i2⟩:=count_one hp hq he l h2
  by_cases hx:x=i
  ·subst hx
   refine ⟨fun _=>?_,fun hn=>absurd (Kl ..) hn⟩
   have:=i2 h1
   simp [List.countP_cons,hp,hq,this]
  ·refine ⟨fun hm=>?_,fun hn=>?_⟩
   ·have:=i1 ((Kv.1 hm).resolve_left (Ne.symm hx))
    simp only [List.countP_cons,he x hx,this]
    omega
   ·have:=i2 fun hm=>hn (Kr _ hm)
    simp only [List.countP_cons,he x hx,this]
def unl (n:Nat) (S:Array Bool):Nat:=(List.range n).countP fun i=>S.getD i true==false
theorem zO {n i:Nat} {S:Array Bool} (hi:i<n) (hun:S.getD i true=false):unl n S=unl n (S.setIfInBounds i true)+1:=by
 refine ((count_one (i:=i) (by simp [hun]) ?_ fun j hj=>?_) (List.range n) List.nodup_range).1 (List.mem_range.2 hi)
 ·rcases Nat.lt_or_ge i S.size with h|h
  ·simp [h]
  ·simp [Array.getElem?_eq_none h] at hun
 ·rw [getD_set_ne true (Ne.symm hj)]
theorem zP {n:Nat} {S:Array Bool} (h:unl n S=0) (hs:n≤S.size):∀ j,j<n→S.getD j false=true:=fun j hj=>by
 have:=List.countP_eq_zero.1 h j (Ku.2 hj)
 have hl:j<S.size:=by omega
 simpa [hl] using this
theorem zN {n m:Nat} {S:Array Bool} (h:unl n S=m+1):∃ j,j<n∧S.getD j true=false:=by
 have:0<(List.range n).countP fun i=>S.getD i true==false:=by unfold unl at h;omega
 obtain ⟨j,hj,hp⟩:=List.countP_pos_iff.1 this
 exact ⟨j,List.mem_range.1 hj,by simpa using hp⟩
theorem least {p:Nat→Prop}:∀ k,p k→∃ j,p j∧∀ i,i<j→¬p i:=fun k h=>by
 induction k using Nat.strongRecOn with
 | _ k ih=>
  by_cases hh:∃ i,i<k∧p i
  ·obtain ⟨i,hi,hp⟩:=hh;exact ih i hi hp
  ·exact ⟨k,h,fun i hi hp=>hh ⟨i,hi,hp⟩⟩
theorem ZbJ {o:Oper} {a:Act} {w:World} {K:Act→World→Prop} {Q:Exit→Act→World→Prop} (hC:C w) (hD:Yv ops G o a w) (hw:Region.wanted o (yielded ops a.tmps)=true) (h:Good P C G R o a w)
  (hK:∀ u w',May P ops C G o a u→C w' →R w w' →G o.dst u w' →K (a.put o.dst u) w'):o.wp P a w K Q:=by
 unfold Good at h
 unfold May at hK
 simp only [hw,if_true] at hK
 unfold Oper.wp
 have key:∀ r,(execOp a.eval o).run P w=r→Vi P C G R o.dst w r→Oper.upon P o a K Q r:=by
  intro r hr hg
  cases r with
  | ok nx w' =>
   cases nx<;>simp only [Vi] at hg
   case value u=>exact hK u w' ⟨w,hC,hD,by rw [hr];rfl⟩ hg.2.1 hg.2.2 hg.1
   case skip=>exact hK undef w' ⟨w,hC,hD,by rw [hr];rfl⟩ hg.2.1 hg.2.2 hg.1
   case enter f args=>
    exact Calls.mono hg fun e w2 ⟨u,he,h1,h2,h3⟩=>by subst he;exact hK u w2 ⟨w,hC,hD,by rw [hr];trivial⟩ h2 h3 h1
  | halt x w' =>simp only [Vi] at hg
 exact key _ rfl h
theorem ZdL (sh:Shape ops n N) (hmono:∀ d u w w',R w w' →G d u w→G d u w') (hR:∀ w,C w→R w w) (hu:∀ w,C w→G none undef w) {g:Nat} {Q:Exit→Act→World→Prop} (S0:Array Bool)
  (htail:∀ S,HeadInv .any ops n S→(∀ j,S0.getD j false=true→S.getD j false=true)→(∃ i,i<n∧S.getD i true=false)→∀ t,n≤t→t ∉ Region.ready .any ops S)
  (hend:∀ S a w,HeadInv .any ops n S→(∀ j,j<n→S.getD j false=true)→C w→(∀ j oj,ops[j]? =some oj→j<n→G oj.dst (slot a oj.dst) w)→F a→wpAny P .any ops Q g S a w):
  ∀ (f:Nat) (S:Array Bool) (a:Act) (w:World),HeadInv .any ops n S→(∀ j,S0.getD j false=true→S.getD j false=true)→unl n S=f→a.tmps.size=N→Inv ops C G S a w→Wk P ops C G R S F n 0 a→wpAny P .any ops Q (f+g) S a w
 | 0,S,a,w,hd,h0s,hf,hN,hI,h=>by
  have hall:=zP hf (by rw [hd.size];exact sh.le)
  rw [Nat.zero_add]
  exact hend S a w hd hall hI.1 (fun j oj hj hjn=>hI.2 j oj hj (hall j hjn)) (Wk.done sh hmono n 0 a w (by omega) hall hI.1 (fun j oj hj hs=>hI.2 j oj hj (hs.resolve_right (by omega))) h)
 | f+1,S,a,w,hd,h0s,hf,hN,hI,h=>by
  obtain ⟨k0,hk0,hun0⟩:=zN hf
  obtain ⟨k,⟨hk,hun⟩,hmin⟩:=least (p:=fun j=>j<n∧S.getD j true=false) k0 ⟨hk0,hun0⟩
  have hrk:k∈Region.ready .any ops S:=by
   have hks:k<ops.size:=by have:=sh.le;omega
   refine mem_ready.2 ⟨hun,ops[k],Lb hks,fun e he hb=>?_⟩
   have hlt:=sh.back k _ (Lb hks) hk e he hb
   cases hS:S.getD e.on false with
   | true=>rfl
   | false=>exact absurd ⟨by omega,getD_in (by rw [hd.size];have:=sh.le;omega) hS⟩ (hmin e.on hlt)
  rw [show f+1+g=(f+g)+1 by omega]
  refine ⟨fun h0=>(by rw [h0] at hrk;cases hrk),fun i hi=>?_⟩
  have hin:i<n:=by
   rcases Nat.lt_or_ge i n with h' |h'
   ·exact h'
   ·exact absurd hi (htail S hd h0s ⟨k,hk,hun⟩ i h')
  obtain ⟨huni,oi,hoi,hall⟩:=mem_ready.1 hi
  have hunf:S.getD i false=false:=getD_both huni
  have hst:=Wk.ready sh hmono hR hu hoi hin hunf hall n 0 a w (by omega) (by omega) hN hI.1 (fun j oj hj hs=>hI.2 j oj hj (hs.resolve_right (by omega))) h
  have hD:Yv ops G oi a w:=fun e he hb oe hoe=>hI.2 e.on oe hoe (hall e he hb)
  have hnext:∀ u w',May P ops C G oi a u→C w' →R w w' →G oi.dst u w' →wpAny P .any ops Q (f+g) (S.setIfInBounds i true) (a.put oi.dst u) w' :=fun u w' hm hC' hR' hG' =>by
   refine ZdL sh hmono hR hu S0 htail hend f _ _ w' (hd.set hi hin) (fun j hj=>getD_set_true (h0s j hj)) ?_ (by rw [size_put];exact hN) ⟨hC',fun j oj hj hs=>?_⟩ (Wk.front sh hmono hoi hin (by rw [hd.size]) hunf hall n 0 a (by omega) (by omega) hN hm h)
   ·have:=zO hin huni;omega
   ·by_cases hji:j=i
    ·subst hji
     obtain rfl:oi=oj:=Kz (hoi.symm.trans hj)
     exact zD sh hmono hN hj hG' (fun _=>hu w' hC')
    ·rw [Qr sh hmono (S:=S) hoi hj hji]
     rw [getD_set_ne false (Ne.symm hji)] at hs
     exact hmono _ _ _ _ hR' (hI.2 j oj hj hs)
  unfold wpOp
  simp only [hoi]
  split
  ·rename_i hw
   refine .inl (ZbJ hI.1 hD hw ?_ hnext)
   unfold StepOk at hst
   simp only [hw,if_true] at hst
   exact hst w hI.1 hD
  ·rename_i hw
   unfold StepOk at hst
   rw [Lf hw] at hst
   exact hnext undef w (by unfold May;rw [Lf hw]) hI.1 (hR w hI.1) (hst w hI.1)
def X5 (n m:Nat):Array Bool:=(List.replicate n true++List.replicate (m - n) false).toArray
def Gi (ops:Array Oper) (n:Nat):Bool:=(List.range n).all fun k=>match ops[k]? with
 | some o=>o.after.all fun e=>!Region.binds .any e||decide (e.on<k)
 | none=>true
def Zat (ops:Array Oper) (n:Nat):Bool:=(List.range n).all fun i=>(List.range i).all fun k=>match ops[i]?,ops[k]? with
 | some oi,some ok=>oi.after.any (fun e=>Region.binds .any e&&e.on==k)||ok.apart ops oi
 | _,_=>true
def zz (ops:Array Oper) (S0:Array Bool) (n:Nat):Bool:=(List.range n).all fun i=>S0.getD i false||(List.range (n+1)).any fun j=>decide (i<j)&&Region.waitsFor .any ops j i
def QS (ops:Array Oper) (S0:Array Bool) (n:Nat):Bool:=decide (S0.size=ops.size)&&(List.range ops.size).all fun j=>!S0.getD j false||(decide (j<n)&&match ops[j]? with
 | some o=>o.after.all fun e=>!Region.binds .any e||S0.getD e.on false
 | none=>true)
def Qf (ops:Array Oper) (n:Nat):Bool:=(List.range ops.size).all fun t=>decide (t≤n)||(List.range ops.size).any fun j=>decide (n≤j)&&Region.waitsFor .any ops t j
def Qo (ops:Array Oper) (S0:Array Bool) (n N:Nat):Bool:=
 Region.noSelect ops&&U4 ops N&&decide (n≤ops.size)&&Gi ops n&&Zat ops n&&(decide (n=ops.size)||(decide (n<ops.size)&&zz ops S0 n&&Qf ops n))&&QS ops S0 n
def ze (ops:Array Oper) (S0:Array Bool) (n N:Nat):Bool:=Qo ops S0 n N&&Region.seqB .any ops (ops.size - n) n (X5 n ops.size)
theorem ZaH {S0:Array Bool} {n:Nat} (h:QS ops S0 n=true):HeadInv .any ops n S0:=by
 simp only [QS,Bool.and_eq_true,decide_eq_true_eq] at h
 have key:∀ j,S0.getD j false=true→j<ops.size∧j<n∧∀ o,ops[j]? =some o→∀ e∈o.after,Region.binds .any e=true→S0.getD e.on false=true:=fun j hj=>by
  have hjs:j<ops.size:=by
   rcases Nat.lt_or_ge j S0.size with h' |h'
   ·rw [←h.1];exact h'
   ·simp [Array.getElem?_eq_none h'] at hj
  have h1:=Kw.1 h.2 j (Ku.2 hjs)
  simp only [hj,Bool.not_true,Bool.false_or,Bool.and_eq_true,decide_eq_true_eq] at h1
  refine ⟨hjs,h1.1,fun o ho e he hb=>?_⟩
  have h2:=h1.2
  simp only [ho] at h2
  have h3:=Array.all_eq_true'.1 h2 e he
  simpa only [hb,Bool.not_true,Bool.false_or] using h3
 refine ⟨h.1,fun j oj hj hl e he hb=>(key j hl).2.2 oj hj e he hb,fun t ht htl=>?_⟩
 cases hS:S0.getD t true with
 | false=>rfl
 | true=>
  have:S0.getD t false=true:=by
   have hl:t<S0.size:=by rw [h.1];exact htl
   simpa [hl] using hS
  have:=(key t this).2.1
  omega
theorem Zdp {n:Nat} {S0 listed:Array Bool} (hs:zz ops S0 n=true) (hc:Qf ops n=true) (hn:n<ops.size) (inv:HeadInv .any ops n listed) (h0:∀ j,S0.getD j false=true→listed.getD j false=true):
  ∀ (d i:Nat),n - i=d→i<n→listed.getD i true=false→∀ t,n≤t→t ∉ Region.ready .any ops listed:=by
 intro d
 induction d using Nat.strongRecOn with
 | _ d ih=>
  intro i hd hi hun t ht hr
  obtain ⟨_,ot,hot,hall⟩:=mem_ready.1 hr
  have htlt:t<ops.size:=(KG.1 hot).1
  by_cases htn:t=n
  ·subst htn
   have h1:=Kw.1 hs i (Ku.2 hi)
   have hnot:S0.getD i false=false:=by
    cases hS:S0.getD i false with
    | false=>rfl
    | true=>have:=h0 i hS;rw [getD_both hun] at this;cases this
   rw [hnot,Bool.false_or] at h1
   obtain ⟨j,hj,hj2⟩:=List.any_eq_true.1 h1
   simp only [Bool.and_eq_true,decide_eq_true_eq] at hj2
   obtain ⟨oj,hoj,e,he,hb,hon⟩:=Region.waitsFor_spec hj2.2
   have hjle:j≤t:=by have:=Ku.1 hj;omega
   by_cases hjt:j=t
   ·subst hjt
    have:oj=ot:=Kz (hoj.symm.trans hot)
    subst this
    have h2:=hall e he hb
    rw [hon,getD_both hun] at h2
    cases h2
   ·cases hl:listed.getD j false with
    | true=>
     have h2:=inv.closed j oj hoj hl e he hb
     rw [hon,getD_both hun] at h2
     cases h2
    | false=>
     have hjs:j<listed.size:=by rw [inv.size];omega
     exact ih (t - j) (by omega) j rfl (by omega) (getD_in hjs hl) t (Kg _) hr
  ·have h1:=Kw.1 hc t (Ku.2 htlt)
   simp only [Bool.or_eq_true,decide_eq_true_eq] at h1
   rcases h1 with h1|h1
   ·omega
   ·obtain ⟨j,hj,hj2⟩:=List.any_eq_true.1 h1
    simp only [Bool.and_eq_true,decide_eq_true_eq] at hj2
    obtain ⟨o',ho',e,he,hb,hon⟩:=Region.waitsFor_spec hj2.2
    have:o' =ot:=Kz (ho'.symm.trans hot)
    subst this
    have h2:=hall e he hb
    rw [hon,getD_both (inv.tail j hj2.1 (Ku.1 hj))] at h2
    cases h2
theorem ZjX {S0:Array Bool} {n N:Nat} (h:Qo ops S0 n N=true):Shape ops n N:=by
 simp only [Qo,Bool.and_eq_true,decide_eq_true_eq] at h
 obtain ⟨⟨⟨⟨⟨⟨hsel,hd⟩,hn⟩,hb⟩,ha⟩,_⟩,_⟩:=h
 refine ⟨hd,hn,fun k o hk hkn e he hbd=>?_,fun k i ok oi hki hin hk hi hno=>?_,Region.noSelect_spec hsel⟩
 ·have h1:=Kw.1 hb k (Ku.2 hkn)
  simp only [hk] at h1
  have h2:=Array.all_eq_true'.1 h1 e he
  simp only [hbd,Bool.not_true,Bool.false_or,decide_eq_true_eq] at h2
  exact h2
 ·have h1:=Kw.1 (Kw.1 ha i (Ku.2 hin)) k (Ku.2 hki)
  simp only [hk,hi,Bool.or_eq_true] at h1
  refine h1.resolve_left fun h2=>?_
  obtain ⟨e,he,hb2⟩:=Array.any_eq_true'.1 h2
  simp only [Bool.and_eq_true,beq_iff_eq] at hb2
  exact hno e he hb2.1 hb2.2
theorem GR {S:Array Bool} (hs:S.size=ops.size) (hn:n≤ops.size) (h1:∀ j,j<n→S.getD j false=true) (h2:∀ t,n≤t→t<ops.size→S.getD t true=false):S=X5 n ops.size:=by
 apply Array.ext
 ·simp [X5,hs];omega
 ·intro j hj hj'
  rcases Nat.lt_or_ge j n with h|h
  ·have:=h1 j h
   simp [hj] at this
   simp [X5,List.getElem_append,h,this]
  ·have:=h2 j h (by omega)
   simp [hj] at this
   simp [X5,List.getElem_append,Nat.not_lt.2 h,this]
def Zeb (ops:Array Oper) (C:World→Prop) (G:Option Tmp→Value→World→Prop) (k:Nat) (a:Act):Prop:=∃ w,C w∧∀ j oj,ops[j]? =some oj→j<k→G oj.dst (slot a oj.dst) w
def Zz (P:Program) (ops:Array Oper) (C:World→Prop) (G:Option Tmp→Value→World→Prop) (R:World→World→Prop) (S0:Array Bool) (F:Act→Prop):Nat→List Oper→Act→Prop
 | k,[],a=>Zeb ops C G k a→F a
 | k,o::rest,a=>if S0.getD k false=true then Zz P ops C G R S0 F (k+1) rest a else StepOk P ops C G R o a∧∀ u,May P ops C G o a u→(∀ d,o.dst=some d→∃ w,C w∧G (some d) u w)→Zz P ops C G R S0 F (k+1) rest (a.put o.dst u)
theorem ZbF (m j:Nat):(Array.replicate m false).getD j false=false:=getD_replicate_false m j
theorem JU {S0:Array Bool} (sh:Shape ops n N):∀ (l:List Oper) (k:Nat) (a:Act),(∀ j,j<l.length→l[j]? =ops[k+j]?)→k+l.length=n→a.tmps.size=N→Zz P ops C G R S0 F k l a→Wk P ops C G R S0 F l.length k a
 | [],k,a,_,hk,hN,h=>fun ⟨w,hw,hg⟩=>h ⟨w,hw,fun j oj hj hjk=>hg j oj hj (.inr hjk)⟩
 | o::l,k,a,hl,hk,hN,h=>fun _=>by
  have h0:ops[k]? =some o:=by simpa using (hl 0 (by simp)).symm
  simp only [h0]
  unfold Zz at h
  split at h
  ·rename_i hs
   simp only [hs,if_true]
   exact JU sh l (k+1) a (fun j hj=>by have:=hl (j+1) (by simp;omega);simpa [Nat.add_assoc,Nat.add_comm 1 j] using this) (by simp only [List.length_cons] at hk;omega) hN h
  ·rename_i hs
   rw [Lf hs]
   refine ⟨h.1,fun u hu hI=>JU sh l (k+1) _ (fun j hj=>by have:=hl (j+1) (by simp;omega);simpa [Nat.add_assoc,Nat.add_comm 1 j] using this) (by simp only [List.length_cons] at hk;omega) (by rw [size_put];exact hN) (h.2 u hu fun d hd=>?_)⟩
   obtain ⟨w,hw,hg⟩:=hI
   refine ⟨w,hw,?_⟩
   have h1:=hg k o h0 (.inr (by omega))
   rw [hd,Zda (by rw [hN];exact Za0 sh.dsts h0 hd)] at h1
   exact h1
theorem Zmq {Q:Exit→Act→World→Prop} {a:Act} {w:World} {l:List Oper} (S0:Array Bool) (n N:Nat) (C:World→Prop) (G:Option Tmp→Value→World→Prop) (R:World→World→Prop) {fuel:Nat}
  (hB:Qo l.toArray S0 n N=true) (hf:fuel=unl n S0+(l.length - n)) (hN:a.tmps.size=N) (hmono:∀ d u w w',R w w' →G d u w→G d u w') (hR:∀ w,C w→R w w) (hu:∀ w,C w→G none undef w) (hC:C w)
  (h0:∀ j oj,l[j]? =some oj→S0.getD j false=true→G oj.dst (slot a oj.dst) w)
  (h:Zz P l.toArray C G R S0 (fun a' =>∀ w',C w' →(∀ j oj,l[j]? =some oj→j<n→G oj.dst (slot a' oj.dst) w')→wpAny P .any l.toArray Q (l.length - n) (X5 n l.length) a' w') 0 (l.take n) a):wpAny P .any l.toArray Q fuel S0 a w:=by
 have sh:=ZjX hB
 have hB' :=hB
 simp only [Qo,Bool.and_eq_true,Bool.or_eq_true,decide_eq_true_eq] at hB'
 obtain ⟨⟨⟨⟨⟨⟨hsel,hd⟩,hn⟩,hb⟩,ha⟩,hsc⟩,hcl⟩:=hB'
 have hnl:n≤l.length:=by simpa using hn
 have htl:(l.take n).length=n:=by simp;omega
 have hw:=JU sh (l.take n) 0 a (fun j hj=>by
  have hj' :j<n:=by rw [htl] at hj;exact hj
  simp [hj']) (by simpa using htl) hN h
 rw [htl] at hw
 have:=ZdL (Q:=Q) (g:=l.length - n) sh hmono hR hu S0 (fun S hI h0s hex t ht hr=>?_) (fun S a' w' hI hall hC' hg hF=>?_) _ S0 a w
  (ZaH hcl) (fun _ h=>h) rfl hN ⟨hC,fun j oj hj hs=>h0 j oj (by simpa using hj) hs⟩ hw
 ·rw [hf];exact this
 ·obtain ⟨i,hi,hun⟩:=hex
  rcases hsc with hsc|⟨⟨hlt,hs⟩,hc⟩
  ·have:=(mem_ready.1 hr).2
   obtain ⟨o,ho,_⟩:=this
   have:=(KG.1 ho).1
   omega
  ·exact Zdp hs hc hlt hI h0s _ i rfl hi hun t ht hr
 ·have hSeq:=GR hI.size hn hall hI.tail
  rw [show l.toArray.size=l.length from by simp] at hSeq
  rw [hSeq]
  exact hF w' hC' fun j oj hj hjn=>hg j oj (by simpa using hj) hjn
theorem QD {F F' :Act→Prop} (hF:∀ a,F a→F' a) {S0:Array Bool}:∀ (l' :List Oper) (k:Nat) (a:Act),Zz P ops C G R S0 F k l' a→Zz P ops C G R S0 F' k l' a
 | [],k,a,h=>fun hI=>hF a (h hI)
 | o::l',k,a,h=>by
  unfold Zz at h ⊢
  split
  ·rename_i hs;rw [Lg hs] at h;exact QD hF l' _ _ h
  ·rename_i hs;rw [Lf hs] at h;exact ⟨h.1,fun u hu hd=>QD hF l' _ _ (h.2 u hu hd)⟩
theorem Zmp {Q:Exit→Act→World→Prop} {a:Act} {w:World} {l:List Oper} (S0:Array Bool) (n N:Nat) (C:World→Prop) (G:Option Tmp→Value→World→Prop) (R:World→World→Prop) {fuel:Nat}
  (hB:ze l.toArray S0 n N=true) (hf:fuel=unl n S0+(l.length - n)) (hN:a.tmps.size=N) (hmono:∀ d u w w',R w w' →G d u w→G d u w') (hR:∀ w,C w→R w w) (hu:∀ w,C w→G none undef w) (hC:C w)
  (h0:∀ j oj,l[j]? =some oj→S0.getD j false=true→G oj.dst (slot a oj.dst) w)
  (h:Zz P l.toArray C G R S0 (fun a' =>∀ w',C w' →(∀ j oj,l[j]? =some oj→j<n→G oj.dst (slot a' oj.dst) w')→wpList P l.toArray Q (l.drop n) a' w') 0 (l.take n) a):wpAny P .any l.toArray Q fuel S0 a w:=by
 simp only [ze,Bool.and_eq_true] at hB
 have hdl:(l.drop n).length=l.length - n:=by simp
 refine Zmq S0 n N C G R hB.1 hf hN hmono hR hu hC h0 (QD (fun a' hF w' hC' hg=>?_) _ _ _ h)
 have:=wpAny_of_seq (md:=.any) (Q' :=Q) (ops:=l.toArray) (l.drop n) n (X5 n l.length) a' w' (fun j=>by simp [List.getElem?_drop]) (by rw [hdl];simpa using hB.2) (hF w' hC' hg)
 rwa [hdl] at this
section
variable {o:Oper} {rest:List Oper} {a:Act} {k:Nat} {S0:Array Bool}
theorem Zk (h:F a):Zz P ops C G R S0 F k [] a:=fun _=>h
theorem Zj0 (hS:S0.getD k false=false) (hw:Region.wanted o (yielded ops a.tmps)=false) (hG:∀ w,C w→G o.dst undef w) (hn:Zz P ops C G R S0 F (k+1) rest (a.put o.dst undef)):Zz P ops C G R S0 F k (o::rest) a:=by
 unfold Zz
 rw [hS,if_neg (by simp)]
 refine ⟨by unfold StepOk;simp only [hw,if_false,Bool.false_eq_true];exact hG,fun u hu _=>?_⟩
 unfold May at hu
 simp only [hw,if_false,Bool.false_eq_true] at hu
 subst hu
 exact hn
theorem ZcD (hR:∀ w,C w→R w w) (hS:S0.getD k false=false) (hw:Region.wanted o (yielded ops a.tmps)=true) (u:Value) (hrun:∀ w,C w→Yv ops G o a w→(execOp a.eval o).run P w=.ok (.value u) w) (hG:∀ w,C w→Yv ops G o a w→G o.dst u w) (hn:Zz P ops C G R S0 F (k+1) rest (a.put o.dst u)):Zz P ops C G R S0 F k (o::rest) a:=by
 unfold Zz
 rw [hS,if_neg (by simp)]
 refine ⟨by unfold StepOk;simp only [hw,if_true];intro w hC hD;unfold Good;rw [hrun w hC hD];exact ⟨hG w hC hD,hC,hR w hC⟩,fun x hx _=>?_⟩
 unfold May at hx
 simp only [hw,if_true] at hx
 obtain ⟨w,hC,hD,hm⟩:=hx
 rw [hrun w hC hD] at hm
 obtain rfl:x=u:=hm
 exact hn
theorem ZcC (hS:S0.getD k false=false) (hw:Region.wanted o (yielded ops a.tmps)=true) (f:FuncId) (args:Array Value) (d:Tmp) (hd:o.dst=some d) (hrun:∀ w,C w→Yv ops G o a w→(execOp a.eval o).run P w=.ok (.enter f args) w)
  (hc:∀ w,C w→Yv ops G o a w→Calls P f args w fun e w' =>∃ u,e=.returned u∧G (some d) u w' ∧C w' ∧R w w') (hn:∀ u w,C w→G (some d) u w→Zz P ops C G R S0 F (k+1) rest (a.put (some d) u)):Zz P ops C G R S0 F k (o::rest) a:=by
 unfold Zz
 rw [hS,if_neg (by simp)]
 refine ⟨by unfold StepOk;simp only [hw,if_true];intro w hC hD;unfold Good;rw [hrun w hC hD,hd];exact hc w hC hD,fun x _ hx=>?_⟩
 obtain ⟨w,hC,hg⟩:=hx d hd
 rw [hd]
 exact hn x w hC hg
theorem ZjZ (hS:S0.getD k false=false) (hw:Region.wanted o (yielded ops a.tmps)=true) (ob:Obj) (d:Tmp) (hd:o.dst=some d) (mk:Nat→Value) (hrun:∀ w,C w→Yv ops G o a w→(execOp a.eval o).run P w=.ok (.value (mk w.heap.size)) (w.alloc ob))
  (hc:∀ w,C w→Yv ops G o a w→G (some d) (mk w.heap.size) (w.alloc ob)∧C (w.alloc ob)∧R w (w.alloc ob)) (hn:∀ g w,C w→G (some d) (mk g) w→Zz P ops C G R S0 F (k+1) rest (a.put (some d) (mk g))):Zz P ops C G R S0 F k (o::rest) a:=by
 unfold Zz
 rw [hS,if_neg (by simp)]
 refine ⟨by unfold StepOk;simp only [hw,if_true];intro w hC hD;unfold Good;rw [hrun w hC hD,hd];exact hc w hC hD,fun x hm hx=>?_⟩
 obtain ⟨w,hC,hg⟩:=hx d hd
 unfold May at hm
 simp only [hw,if_true] at hm
 obtain ⟨w',hC',hD',hm⟩:=hm
 rw [hrun w' hC' hD'] at hm
 obtain rfl:x=mk w'.heap.size:=hm
 rw [hd]
 exact hn _ w hC hg
end
end
end
section
open Go.RowKit
theorem flat_get {α β:Type} (f:α→List β) (n:Nat) (hf:∀ a,(f a).length=n):∀ (l:List α) (k j:Nat) (a:α),j<n→l[k]? =some a→(l.flatMap f)[k * n+j]? =(f a)[j]?
 | [],k,j,a,_,h=>by simp at h
 | x::l,0,j,a,hj,h=>by
  simp only [List.getElem?_cons_zero,Option.some.injEq] at h
  subst h
  simp only [List.flatMap_cons,Nat.zero_mul,Nat.zero_add]
  rw [List.getElem?_append_left (by rw [hf];exact hj)]
 | x::l,k+1,j,a,hj,h=>by
  simp only [List.getElem?_cons_succ] at h
  simp only [List.flatMap_cons]
  rw [List.getElem?_append_right (by rw [hf,Nat.succ_mul];omega),hf,show (k+1) * n+j - n=k * n+j by rw [Nat.succ_mul];omega]
  exact flat_get f n hf l k j a hj h
theorem YL {α β:Type} (f:α→List β) (n:Nat) (hf:∀ a,(f a).length=n) (l:List α):(l.flatMap f).length=l.length * n:=by
 induction l with
 | nil=>simp
 | cons x l ih=>simp [List.flatMap_cons,hf,ih,Nat.succ_mul];omega
structure Col where
 name:ByteArray
 ty:Int
 nn:Bool
 key:Bool
deriving DecidableEq
def Col.cells (c:Col):List Value:=[.string c.name,.int .i64 c.ty,.bool c.nn,.bool c.key]
def Zf (l:List Col):List Value:=l.flatMap Col.cells
theorem ZfC (l:List Col):(Zf l).length=l.length * 4:=YL _ 4 (fun _=>rfl) l
theorem ZfB {l:List Col} {k:Nat} {c:Col} (h:l[k]? =some c):(Zf l)[k * 4]? =some (.string c.name)∧(Zf l)[k * 4+1]? =some (.int .i64 c.ty)∧(Zf l)[k * 4+2]? =some (.bool c.nn)∧(Zf l)[k * 4+3]? =some (.bool c.key):=
 ⟨flat_get Col.cells 4 (fun _=>rfl) l k 0 c (by omega) h,flat_get Col.cells 4 (fun _=>rfl) l k 1 c (by omega) h,flat_get Col.cells 4 (fun _=>rfl) l k 2 c (by omega) h,flat_get Col.cells 4 (fun _=>rfl) l k 3 c (by omega) h⟩
def RdC (w:World) (B:Nat) (A:Option Addr) (n:Nat) (l:List Col):Prop:=Rd w B 4 A n (Zf l)
theorem RdC.len {w:World} {B n:Nat} {A:Option Addr} {l:List Col} (h:RdC w B A n l):l.length=n:=by
 have:=h.1
 rw [ZfC] at this
 omega
theorem RdC.at_ {w:World} {B n:Nat} {A:Option Addr} {l:List Col} (h:RdC w B A n l) {k:Nat} {c:Col} (hc:l[k]? =some c):
  ∃ b o,A=some ⟨b,o,none⟩∧b<B∧w.cell? ⟨b,o+k * 4,none⟩=some (.string c.name)∧w.cell? ⟨b,o+k * 4+1,none⟩=some (.int .i64 c.ty)∧w.cell? ⟨b,o+k * 4+2,none⟩=some (.bool c.nn)∧w.cell? ⟨b,o+k * 4+3,none⟩=some (.bool c.key):=by
 have hk:k<n:=by rw [←h.len];exact (Kc.1 hc).1
 obtain ⟨b,o,e,hb,hcell⟩:=h.2 (by omega)
 obtain ⟨h0,h1,h2,h3⟩:=ZfB hc
 exact ⟨b,o,e,hb,hcell _ _ h0,hcell _ _ h1,hcell _ _ h2,hcell _ _ h3⟩
end
section
open Go.RowKit
theorem Yr {α:Type} {l:List α} {k:Nat} {c:α} (h:l[k]? =some c):l.drop k=c::l.drop (k+1):=by
 obtain ⟨hk,rfl⟩:=Kc.1 h
 exact Le hk
def Zy {α:Type} (p:α→Bool) (k:Nat):List α→Int
 | []=>-1
 | c::r=>if p c then (k:Int) else Zy p (k+1) r
def Ze {α:Type} (p:α→Bool) (l:List α):Int:=Zy p 0 l
section
variable {α:Type} {p:α→Bool} {l:List α} {k:Nat} {c:α}
theorem Ww (h:Ze p l=Zy p k (l.drop k)) (hc:l[k]? =some c) (hp:p c=true):Ze p l=k:=by
 rw [h,Yr hc,Zy,Lg hp]
theorem XZ (h:Ze p l=Zy p k (l.drop k)) (hc:l[k]? =some c) (hp:p c=false):Ze p l=Zy p (k+1) (l.drop (k+1)):=by
 rw [h,Yr hc,Zy,if_neg (by simp [hp])]
theorem XY (h:Ze p l=Zy p k (l.drop k)) (hk:l.length≤k):Ze p l=-1:=by
 rw [h,Ld hk,Zy]
theorem Zbh (p:α→Bool):∀ (l:List α) (k:Nat),Zy p k l=-1∨((k:Int)≤Zy p k l∧Zy p k l<k+l.length)
 | [],k=>.inl rfl
 | c::r,k=>by
  simp only [Zy]
  split
  ·right;simp;omega
  ·rcases Zbh p r (k+1) with h|⟨h1,h2⟩
   ·exact .inl h
   ·right
    have h1' :(k:Int)+1≤Zy p (k+1) r:=by simpa using h1
    refine ⟨by omega,?_⟩
    simp only [List.length_cons]
    have h2' :Zy p (k+1) r<(k:Int)+1+r.length:=by simpa using h2
    omega
theorem Zbe (p:α→Bool) (c:α) (hp:p c=true):∀ (l:List α) (k i:Nat),l[i]? =some c→(k:Int)≤Zy p k l∧Zy p k l≤k+i
 | [],k,i,h=>by simp at h
 | x::r,k,0,h=>by
  simp only [List.getElem?_cons_zero,Option.some.injEq] at h
  subst h
  rw [Zy,Lg hp];omega
 | x::r,k,i+1,h=>by
  simp only [List.getElem?_cons_succ] at h
  rw [Zy]
  split
  ·omega
  ·have:=Zbe p c hp r (k+1) i h
   omega
theorem Zbm (hp:p c=true) {i:Nat} (h:l[i]? =some c):0≤Ze p l∧Ze p l≤i:=by
 have:=Zbe p c hp l 0 i h
 simpa [Ze] using this
theorem find_range (p:α→Bool) (l:List α):-1≤Ze p l∧Ze p l<max l.length 1:=by
 have:=Zbh p l 0
 unfold Ze
 omega
end
def named (s:ByteArray) (c:Col):Bool:=c.name.toList==s.toList
def YC {α:Type} (t:Nat→α→Bool) (k:Nat):List α→Bool
 | []=>true
 | c::r=>t k c&&YC t (k+1) r
section
variable {α:Type} {t:Nat→α→Bool} {l:List α} {k:Nat} {c:α}
theorem ZiT (h:YC t 0 l=YC t k (l.drop k)) (hc:l[k]? =some c) (hp:t k c=false):YC t 0 l=false:=by
 rw [h,Yr hc,YC,hp,Bool.false_and]
theorem ZiV (h:YC t 0 l=YC t k (l.drop k)) (hc:l[k]? =some c) (hp:t k c=true):YC t 0 l=YC t (k+1) (l.drop (k+1)):=by
 rw [h,Yr hc,YC,hp,Bool.true_and]
theorem ZiU (h:YC t 0 l=YC t k (l.drop k)) (hk:l.length≤k):YC t 0 l=true:=by
 rw [h,Ld hk,YC]
end
theorem take_snoc' {α:Type} {l:List α} {k:Nat} {c:α} (h:l[k]? =some c):l.take (k+1)=l.take k++[c]:=by
 obtain ⟨hk,rfl⟩:=Kc.1 h
 exact List.take_succ_eq_append_getElem hk
theorem Zg7 {α:Type} {l:List α} {k:Nat} {c:α} (p:α→Bool) (h:l[k]? =some c):((l.take (k+1)).filter p).length=((l.take k).filter p).length+(if p c then 1 else 0):=by
 rw [take_snoc' h,KY,List.length_append]
 congr 1
 cases hp:p c<;>simp [List.filter,hp]
end
section
open Go
abbrev Sp:=Tmp→Option (Value→Prop)
def RT (_ _:World):Prop:=True
section
variable {P:Program} {C:World→Prop} {sp:Sp} {F:Act→Prop} {S0:Array Bool}
variable {ops:Array Oper} {o:Oper} {rest:List Oper} {a:Act} {k:Nat}
end
end
section
open Go.RowKit
def Gives (f:FuncId) (args:Array Value) (v:Value):Prop:=
 ∀ w:World,Calls Tryz.prog f args w fun e w' =>e=.returned v∧Below w.heap.size w w'
structure Vl where
 k:Int
 i:Int
 s:ByteArray
deriving DecidableEq
def Ut (c:UInt8):Bool:=decide (32≤c.toNat∧c.toNat≤126)
def Wi (s:ByteArray):Bool:=s.data.toList.all Ut&&decide (s.size≤64)
def Z7 (k i:Int) (s:ByteArray):Bool:=
 if k=0 then i==0&&s.toList.isEmpty else if k=1 then s.toList.isEmpty else if k=2 then (i==0||i==1)&&s.toList.isEmpty else if k=3 then i==0&&Wi s else false
theorem ZcW (k i:Int) (s:ByteArray) (w:World):
  Calls Tryz.prog 134 #[.agg #[.int .i64 k,.int .i64 i,.string s]] w fun e w' =>e=.returned (.bool (Z7 k i s))∧w.alloc (.cells #[.int .i64 k,.int .i64 i,.string s] 30)=w' :=by
 by_cases h0:k=0
 ·subst h0
  cases hi:(i==0)<;>cases he:s.toList.isEmpty
  all_goals
   go_enter Tryz.func134,Tryz.ntmps134
   go_wp2_with fail
   go_ret
   refine ⟨?_,rfl⟩
   simp [Z7,hi,he]
 by_cases h1:k=1
 ·subst h1
  go_enter Tryz.func134,Tryz.ntmps134
  go_wp2_with fail
  go_ret
  refine ⟨?_,rfl⟩
  simp [Z7]
 by_cases h2:k=2
 ·subst h2
  cases hi:(i==0)<;>cases hj:(i==1)
  all_goals
   go_enter Tryz.func134,Tryz.ntmps134
   go_wp2_with fail
   go_ret
   refine ⟨?_,rfl⟩
   simp [Z7,hi,hj]
 by_cases h3:k=3
 ·subst h3
  cases hi:(i==0)
  ·have hi' :(i !=0)=true:=by simp only [bne,hi,Bool.not_false]
   go_enter Tryz.func134,Tryz.ntmps134
   go_wp2_with fail
   go_ret
   refine ⟨?_,rfl⟩
   simp [Z7,hi]
  ·have hi' :(i !=0)=false:=by simp only [bne,hi,Bool.not_true]
   by_cases hl:s.size≤64
   ·have l0:((s.size:Int))≤64:=by omega
    have HV:Hid (Z7 3 i s=Wi s):=by unfold Hid;simp [Z7,hi]
    have B0:=Blk.new w 30 #[.int .i64 3,.int .i64 i,.string s]
    obtain ⟨c0,c1,c2,cl⟩:=B0.c3
    go_enter Tryz.func134,Tryz.ntmps134
    go_wp2_with fail
    go_loop [3] (fun j=>∃ k:Nat,k≤s.size∧j=.int .i64 k∧(s.data.toList.take k).all Ut=true) (fun j=>s.size - (intOf j).toNat)
    case atStart=>exact ⟨0,by omega,rfl,rfl⟩
    case round=>
     obtain ⟨k,hk,rfl,hall⟩:=hrel
     have HA:=hid hall;clear hall
     by_cases hlt:k<s.size
     ·have hts:Hid (s.data.toList.take (k+1)=s.data.toList.take k++[s[k]]):=by
       unfold Hid;rw [List.take_succ_eq_append_getElem (by simpa using hlt)];rfl
      by_cases hb:32≤s[k].toNat∧s[k].toNat≤126
      ·have b1:(32:Int)≤(s[k].toNat:Int):=by omega
       have b2:(s[k].toNat:Int)≤126:=by omega
       have HB:=hid hb;clear hb
       go_wp2_with fail
       go_round
       case rel=>exact ⟨k+1,by omega,by go_num,by rw [hts.out,List.all_append,HA.out];simp [Ut,HB.out]⟩
       case measure=>simp [intOf];omega
      ·have hno:Hid (Wi s=false):=by
        unfold Hid Wi
        have:s.data.toList.all Ut=false:=by
         rw [List.all_eq_false]
         exact ⟨s[k],List.mem_of_getElem (i:=k) (h:=by simpa using hlt) rfl,by simp [Ut];omega⟩
        rw [this];rfl
       by_cases h32:(s[k].toNat:Int)<32
       ·clear hb
        go_wp2
        go_ret
        exact ⟨by rw [HV.out,hno.out];rfl,rfl⟩
       ·have h126:(126:Int)<(s[k].toNat:Int):=by omega
        clear hb
        go_wp2
        go_ret
        exact ⟨by rw [HV.out,hno.out];rfl,rfl⟩
     ·obtain rfl:k=s.size:=by omega
      have hyes:Hid (Wi s=true):=by
       unfold Hid Wi
       have h:=HA.out
       rw [List.take_of_length_le (by simp)] at h
       rw [h];simpa using hl
      go_wp2
      go_ret
      exact ⟨by rw [HV.out,hyes.out];rfl,rfl⟩
   ·have l0:(64:Int)<(s.size:Int):=by omega
    have HV:Hid (Z7 3 i s=false):=by unfold Hid;simp [Z7,hi,Wi];omega
    go_enter Tryz.func134,Tryz.ntmps134
    go_wp2_with fail
    go_ret
    exact ⟨by rw [HV.out];rfl,rfl⟩
 ·have k0:(k==0)=false:=by simpa using h0
  have k1:(k==1)=false:=by simpa using h1
  have k2:(k==2)=false:=by simpa using h2
  have k3:(k==3)=false:=by simpa using h3
  go_enter Tryz.func134,Tryz.ntmps134
  go_wp2_with fail
  go_ret
  refine ⟨?_,rfl⟩
  simp [Z7,h0,h1,h2,h3]
theorem ZcX (k i:Int) (s:ByteArray) (w:World) (hs:s.size≤maxLen):
  Calls Tryz.prog 134 #[.agg #[.int .i64 k,.int .i64 i,.string s]] w fun e w' =>e=.returned (.bool (Z7 k i s))∧w.alloc (.cells #[.int .i64 k,.int .i64 i,.string s] 30)=w' :=ZcW k i s w
def Zby (nm:ByteArray) (ty:Int) (nn key:Bool) (k i:Int) (s:ByteArray):Int:=
 if Z7 k i s then (if k==0 then (if nn then 8 else 0) else if k==ty then 0 else 5) else 17
theorem Zj7 (nm:ByteArray) (ty:Int) (nn key:Bool) (k i:Int) (s:ByteArray) (hs:s.size≤maxLen):
  Gives 96 #[.agg #[.string nm,.int .i64 ty,.bool nn,.bool key],.agg #[.int .i64 k,.int .i64 i,.string s]] (.int .i64 (Zby nm ty nn key k i s)):=by
 intro w
 have v1:=fun w=>ZcX k i s w hs
 cases e1:Z7 k i s<;>cases z:(k==0)<;>cases nn<;>cases tt:(k==ty)
 all_goals
  rw [e1] at v1
  have V1:=hid v1;clear v1
  have z' :(k !=0)=!(k==0):=rfl
  have tt' :(k !=ty)=!(k==ty):=rfl
  rw [z] at z'
  rw [tt] at tt'
  simp only [Bool.not_true,Bool.not_false] at z' tt'
  go_enter Tryz.func96,Tryz.ntmps96
  go_wp2_with fail
  refine (V1.out _).mono ?_
  rintro e w1 ⟨rfl,rfl⟩
  go_wp2_with fail
  go_ret
  exact ⟨by simp [Zby,e1,z,tt],Wv _ _ _ _⟩
def Tryz.Zie:Go.Shelf.Ren:=⟨fun|106=>142|213=>178|265=>208|n=>n,fun|9=>9|3=>3|n=>n,fun|n=>n⟩
theorem Tryz.ZbX:Go.Proofs.Lays.n106 Tryz.prog Tryz.Zie:={
 mixed:=by kernel_rfl
 f106:=Tryz.func142.trans (congrArg some (by kernel_rfl))
 f213:=Tryz.func178.trans (congrArg some (by kernel_rfl))
 f265:=Tryz.func208.trans (congrArg some (by kernel_rfl))
 t3:=Tryz.underlying3
 a3:=Tryz.isAgg3
 z3:=Tryz.sizeOf3
 v3:=Tryz.zeroValue3
 t9:=Tryz.underlying9
 a9:=Tryz.isAgg9
 z9:=Tryz.sizeOf9
 v9:=Tryz.zeroValue9 }
def Zd0 (w:World) (T:Nat) (e:Ending) (w' :World):Prop:=
 ∃ b:Bool,e=.returned (.bool b)∧Tp w' T∧w.grownBy w' (some T)
theorem QO (T:Nat) (n:Int) (w:World) (ht:Tp w T) (h0:0<n) (h1:n≤9223372036854775807):
  Calls Tryz.prog 86 #[.pointer (some ⟨T,0,none⟩),.int .i64 n] w fun e w' =>Zd0 w T e w' :=by
 go_enter Tryz.func86,Tryz.ntmps86
 go_wp2_with fail
 refine (Wd T n _ ht h0 h1).mono ?_
 rintro e w1 ⟨r,rfl,r0,r1,t1,g1⟩
 go_wp2
 go_ret
 exact ⟨_,rfl,t1,g1⟩
def Wds (w:World):Prop:=∀ j,j<6→∃ s:ByteArray,w.cell? ⟨0,j,none⟩=some (.string s)∧Wi s=true∧s.size≤4
theorem Wds.keep {w w' :World} (h:Wds w) (hk:w'.heap[0]? =w.heap[0]?):Wds w' :=fun j hj=>by
 obtain ⟨s,h1,h2⟩:=h j hj
 exact ⟨s,(World.cell?_of_block (w:=w) (a:=⟨0,j,none⟩) hk).trans h1,h2⟩
theorem Wds.lt {w:World} (h:Wds w):0<w.heap.size:=by
 obtain ⟨s,h1,_⟩:=h 0 (by omega)
 exact World.block_lt_of_cell? w ⟨0,0,none⟩ h1
theorem Wds.grown {w w' :World} {row:Option Nat} (h:Wds w) (hg:w.grownBy w' row) (hr:some 0≠row):Wds w' :=h.keep (hg.block _ h.lt hr)
def Zd2 (w:World) (T:Nat) (e:Ending) (w' :World):Prop:=
 ∃ s:ByteArray,e=.returned (.string s)∧Wi s=true∧s.size≤4∧Tp w' T∧w.grownBy w' (some T)
theorem Zmm (T:Nat) (w:World) (ht:Tp w T) (hw:Wds w) (hT:0<T):
  Calls Tryz.prog 129 #[.pointer (some ⟨T,0,none⟩)] w fun e w' =>Zd2 w T e w' :=by
 go_enter Tryz.func129,Tryz.ntmps129
 go_wp2_with fail
 refine (Wd T 6 _ ht (by omega) (by omega)).mono ?_
 rintro e w1 ⟨r,rfl,r0,r1,t1,g1⟩
 have hw1:=hw.grown g1 (by intro e;injection e with e;omega)
 obtain ⟨r,rfl⟩:=Int.eq_ofNat_of_zero_le r0
 obtain ⟨s,hs,hp,hl⟩:=hw1 r (by omega)
 have HP:=hid hp;clear hp hw1 hw
 go_wp2
 go_ret
 exact ⟨s,rfl,HP.out,hl,t1,g1⟩
def Zag (w:World) (T:Nat) (K:Int→Int→ByteArray→Prop) (e:Ending) (w' :World):Prop:=
 ∃ (k i:Int) (s:ByteArray),e=.returned (.agg #[.int .i64 k,.int .i64 i,.string s])∧K k i s∧s.size≤80∧I64 i∧Tp w' T∧Wds w' ∧w.grownBy w' (some T)
def V8 (kind k i:Int) (s:ByteArray):Prop:=Z7 k i s=true∧((kind=1∨kind=2∨kind=3)→k=kind)∧(¬(kind=1∨kind=2∨kind=3)→k=0)
theorem Za5:(⟨#[]⟩:ByteArray).toList=[]:=by kernel_rfl
theorem Zl3 {w:World} {T g:Nat} (h:Tp w T) (hg:T<g) (x y z:Value):Tp (((w.setCell ⟨g,0,none⟩ x).setCell ⟨g,1,none⟩ y).setCell ⟨g,2,none⟩ z) T:=
 Tp.setCell (p:=⟨g,2,none⟩) (Tp.setCell (p:=⟨g,1,none⟩) (Tp.setCell (p:=⟨g,0,none⟩) h hg x) hg y) hg z
theorem Zi7 {a w:World} {T g:Nat} (h:a.grownBy w (some T)) (hg:a.heap.size≤g) (x y z:Value):a.grownBy (((w.setCell ⟨g,0,none⟩ x).setCell ⟨g,1,none⟩ y).setCell ⟨g,2,none⟩ z) (some T):=
 Uv (p:=⟨g,2,none⟩) (Uv (p:=⟨g,1,none⟩) (Uv (p:=⟨g,0,none⟩) h (.inr hg) x) (.inr hg) y) (.inr hg) z
theorem Gw {w w1:World} {T g:Nat} {K:Int→Int→ByteArray→Prop} {k i:Int} {s:ByteArray} (hK:K k i s) (hs:s.size≤80) (hi:I64 i) (t1:Tp w1 T) (hTw:T<w.heap.size) (hw:Wds w) (hT:0<T)
  (g1:w.grownBy w1 (some T)) (hg:w.heap.size≤g):Zag w T K (.returned (.agg #[.int .i64 k,.int .i64 i,.string s])) (((w1.setCell ⟨g,0,none⟩ (.int .i64 k)).setCell ⟨g,1,none⟩ (.int .i64 i)).setCell ⟨g,2,none⟩ (.string s)):=by
 have g2:=Zi7 g1 hg (.int .i64 k) (.int .i64 i) (.string s)
 exact ⟨k,i,s,rfl,hK,hs,hi,Zl3 t1 (by omega) _ _ _,hw.grown g2 (by intro e;injection e with e;omega),g2⟩
theorem Zia {kind:Int} (h:¬(kind=1∨kind=2∨kind=3)):V8 kind 0 0 ⟨#[]⟩:=⟨by kernel_rfl,fun k=>absurd k h,fun _=>rfl⟩
theorem Zh9 (x:Int):V8 1 1 x ⟨#[]⟩:=⟨by simp [Z7,Za5],fun _=>rfl,fun h=>absurd (.inl rfl) h⟩
theorem Zh8 {x:Int} (h0:0≤x) (h1:x<2):V8 2 2 x ⟨#[]⟩:=⟨by
 obtain rfl|rfl:x=0∨x=1:=by omega
 all_goals simp [Z7,Za5],fun _=>rfl,fun h=>absurd (.inr (.inl rfl)) h⟩
theorem Zib {s:ByteArray} (h:Wi s=true):V8 3 3 0 s:=⟨by simp [Z7,h],fun _=>rfl,fun h=>absurd (.inr (.inr rfl)) h⟩
theorem Zma (T:Nat) (kind:Int) (w:World) (ht:Tp w T) (hw:Wds w) (hT:0<T):
  Calls Tryz.prog 85 #[.pointer (some ⟨T,0,none⟩),.int .i64 kind] w fun e w' =>Zag w T (V8 kind) e w' :=by
 have hlt:=ht.lt
 have B0:=Blk.new w 30 #[.int .i64 0,.int .i64 0,.string ⟨#[]⟩]
 have t0:=ht.alloc (.cells #[.int .i64 0,.int .i64 0,.string ⟨#[]⟩] 30)
 have g0:w.grownBy (w.alloc (.cells #[.int .i64 0,.int .i64 0,.string ⟨#[]⟩] 30)) (some T):=Jj (World.grownBy.refl _ _) _
 have w0:Wds (w.alloc (.cells #[.int .i64 0,.int .i64 0,.string ⟨#[]⟩] 30)):=hw.grown g0 (by intro e;injection e with e;omega)
 have hI0:I64 0:=by unfold I64;omega
 by_cases h1:kind=1
 ·subst h1
  go_enter Tryz.func85,Tryz.ntmps85
  go_wp2_with fail
  refine (ZiQ T _ t0).mono ?_
  rintro e w1 ⟨x,rfl,hx,t1,g1⟩
  have B1:=B0.grown g1 (by intro e;injection e with e;omega)
  have g2:=WT g0 g1
  obtain ⟨c0,c1,c2,cl⟩:=B1.c3
  have f0:=B1.frozen 0;have f1:=B1.frozen 1;have f2:=B1.frozen 2
  clear t0 g0 B0 w0 g1
  go_wp2
  exact bodyPost_ret (v:=.agg #[.int .i64 1,.int .i64 x,.string ⟨#[]⟩]) (by simp [results,Tryz.results85,go_sem,c0,c1,c2]) rfl (Gw (Zh9 x) (by decide) hx t1 hlt hw hT g2 (Nat.le_refl _))
 by_cases h2:kind=2
 ·subst h2
  go_enter Tryz.func85,Tryz.ntmps85
  go_wp2_with fail
  refine (Wd T 2 _ t0 (by omega) (by omega)).mono ?_
  rintro e w1 ⟨x,rfl,x0,x1,t1,g1⟩
  have B1:=B0.grown g1 (by intro e;injection e with e;omega)
  have g2:=WT g0 g1
  obtain ⟨c0,c1,c2,cl⟩:=B1.c3
  have f0:=B1.frozen 0;have f1:=B1.frozen 1;have f2:=B1.frozen 2
  clear t0 g0 B0 w0 g1
  go_wp2
  exact bodyPost_ret (v:=.agg #[.int .i64 2,.int .i64 x,.string ⟨#[]⟩]) (by simp [results,Tryz.results85,go_sem,c0,c1,c2]) rfl (Gw (Zh8 x0 x1) (by decide) (by unfold I64;omega) t1 hlt hw hT g2 (Kg _))
 by_cases h3:kind=3
 ·subst h3
  go_enter Tryz.func85,Tryz.ntmps85
  go_wp2_with fail
  refine (Zmm T _ t0 w0 hT).mono ?_
  rintro e w1 ⟨s,rfl,hp,hs,t1,g1⟩
  have B1:=B0.grown g1 (by intro e;injection e with e;omega)
  have g2:=WT g0 g1
  obtain ⟨c0,c1,c2,cl⟩:=B1.c3
  have f0:=B1.frozen 0;have f1:=B1.frozen 1;have f2:=B1.frozen 2
  clear t0 g0 B0 w0 g1
  go_wp2
  exact bodyPost_ret (v:=.agg #[.int .i64 3,.int .i64 0,.string s]) (by simp [results,Tryz.results85,go_sem,c0,c1,c2]) rfl (Gw (Zib hp) (by omega) hI0 t1 hlt hw hT g2 (Nat.le_refl _))
 ·have k1:(kind==1)=false:=by simpa using h1
  have k2:(kind==2)=false:=by simpa using h2
  have k3:(kind==3)=false:=by simpa using h3
  have hn:¬(kind=1∨kind=2∨kind=3):=by omega
  have HN:=hid (Zia hn);clear hn
  go_enter Tryz.func85,Tryz.ntmps85
  clear h1 h2 h3
  go_wp2
  refine bodyPost_ret (v:=.agg #[.int .i64 0,.int .i64 0,.string ⟨#[]⟩]) (by simp [results,Tryz.results85,go_sem]) rfl ?_
  exact ⟨0,0,⟨#[]⟩,rfl,HN.out,by decide,hI0,t0,w0,g0⟩
def tv:Option Bool→Value
 | none=>.agg #[.int .i64 0,.int .i64 0,.string ⟨#[]⟩]
 | some false=>.agg #[.int .i64 2,.int .i64 0,.string ⟨#[]⟩]
 | some true=>.agg #[.int .i64 2,.int .i64 1,.string ⟨#[]⟩]
def ZeN:Option Bool→Option Bool→Option Bool
 | some false,_=>some false
 | _,some false=>some false
 | some true,some true=>some true
 | _,_=>none
theorem WZ {B g:Nat} {a w:World} (h:Below B a w) (hg:B≤g) (x y z:Value):Below B a (((w.setCell ⟨g,0,none⟩ x).setCell ⟨g,1,none⟩ y).setCell ⟨g,2,none⟩ z):=
 Below.setCell (p:=⟨g,2,none⟩) (Below.setCell (p:=⟨g,1,none⟩) (Below.setCell (p:=⟨g,0,none⟩) h hg _) hg _) hg _
theorem WG {W w1:World} {B:Nat} (hb:Below B W w1) {n:Nat} (h:n<W.heap.size):n<w1.heap.size:=La h hb.size
theorem WY (b:Bool) (w:World):
  Calls Tryz.prog 140 #[.bool b] w fun e w' =>e=.returned (.agg #[.int .i64 2,.int .i64 (bif b then 1 else 0),.string ⟨#[]⟩])∧Below w.heap.size w w' :=by
 cases b
 all_goals
  go_enter Tryz.func140,Tryz.ntmps140
  go_wp2
  refine bodyPost_ret (v:=.agg #[.int .i64 2,.int .i64 _,.string ⟨#[]⟩]) (by simp [results,Tryz.results140,go_sem]) rfl ⟨rfl,?_⟩
  exact (Below.refl _ _).alloc (Kg _) _
def Xd (a b:Int):Int:=if a<b then -1 else if b<a then 1 else 0
def VK (a b:ByteArray):Int:=if Op.bytesLess a.toList b.toList then -1 else if a.toList==b.toList then 0 else 1
def X0:List Int→Int
 | []=>0
 | x::r=>if x=0 then X0 r else x
theorem six {w:World} {g g' :Nat} {t:TypeId} {x y z x' y' z' :Value} (h:Blk w g t #[x,y,z]) (h' :Blk w g' t #[x',y',z']):
  w.cell? ⟨g,0,none⟩=some x∧w.cell? ⟨g,1,none⟩=some y∧w.cell? ⟨g,2,none⟩=some z∧w.cell? ⟨g',0,none⟩=some x' ∧w.cell? ⟨g',1,none⟩=some y' ∧w.cell? ⟨g',2,none⟩=some z' :=⟨h.cell 0,h.cell 1,h.cell 2,h'.cell 0,h'.cell 1,h'.cell 2⟩
def Uk (k1 i1:Int) (s1:ByteArray) (k2 i2:Int) (s2:ByteArray):Int:=X0 [Xd k1 k2,Xd i1 i2,VK s1 s2]
theorem cells3 {w:World} {g:Nat} {t:TypeId} {x y z:Value} (h:Blk w g t #[x,y,z]):w.cell? ⟨g,0,none⟩=some x∧w.cell? ⟨g,1,none⟩=some y∧w.cell? ⟨g,2,none⟩=some z:=⟨h.cell 0,h.cell 1,h.cell 2⟩
def GV (k i:Int) (s:ByteArray):Bool:=k==2&&(i==1&&s.toList.isEmpty)
theorem Xh (w:World):Calls Tryz.prog 140 #[.bool false] w fun e w' =>e=.returned (.agg #[.int .i64 2,.int .i64 0,.string ⟨#[]⟩])∧Below w.heap.size w w' :=WY false w
def lvB (k i:Int) (s:ByteArray):Bool:=Z7 k i s&&(k==2||k==0)
theorem Ju (k i:Int) (s:ByteArray) (hs:s.size≤maxLen):Gives 93 #[.agg #[.int .i64 k,.int .i64 i,.string s]] (.bool (lvB k i s)):=by
 intro w
 have v1:=fun w=>ZcX k i s w hs
 cases e1:Z7 k i s<;>cases e2:(k==2)<;>cases e0:(k==0)
 all_goals
  rw [e1] at v1
  have V1:=hid v1;clear v1
  go_enter Tryz.func93,Tryz.ntmps93
  go_wp2_with fail
  refine (V1.out _).mono ?_
  rintro e w1 ⟨rfl,rfl⟩
  go_wp2_with fail
  go_ret
  exact ⟨by simp [lvB,e1,e2,e0],Zbb _ _ _⟩
end
section
instance baMem (x:ByteArray) (l:List ByteArray):Decidable (x∈l):=
 decidable_of_iff (l.any (fun y=>decide (y=x))=true) (by simp [List.any_eq_true])
end
end Go.Proofs.YtnmnkbnmollpmaaGreatDoor

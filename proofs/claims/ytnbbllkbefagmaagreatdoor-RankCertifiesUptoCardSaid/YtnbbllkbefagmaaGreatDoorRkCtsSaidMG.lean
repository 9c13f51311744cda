import Derived.Test.YtnbbllkbefagmaaGreatDoorRkCtsSaidMF
import Derived.Test.YtnbbllkbefagmaaGreatDoorRkCtsSaidMD
import Derived.Test.YtnbbllkbefagmaaGreatDoorRkCtsSaidME
import Derived.Test.YtnbbllkbefagmaaGreatDoorRkCtsSaidMC
import Derived.Test.YtnbbllkbefagmaaGreatDoorRkCtsSaidMA
import Derived.Test.YtnbbllkbefagmaaGreatDoorProg
import Derived.Maps.OwnOps
import Derived.Maps.Views
import Derived.DeepKeys4
import Derived.Lib.ConvBytes
import Derived.WalkSpells
import Derived.Deep.QuietTactic
import Derived.BigQuiet
namespace Go.Proofs.YtnbbllkbefagmaaGreatDoor
open Go.RowKit
set_option linter.unusedVariables false
set_option linter.unusedSimpArgs false
def Yf (M:Nat→Prop) (H:Nat) (t:TypeId) (cs:Array Value) (u:Value) (w:World):Prop:=∃ g:Nat,u=.pointer (some ⟨g,0,none⟩)∧H≤g∧Ro w M (fun w=>w.heap[g]? =some (.cells cs t (0,0)))
theorem Wv {M:Nat→Prop} {H:Nat} {t:TypeId} {cs:Array Value} (u:Value) (w w' :World) (hr:RM M w w') (h:Yf M H t cs u w):Yf M H t cs u w' :=by
 obtain ⟨g,h1,h2,h3⟩:=h
 exact ⟨g,h1,h2,hr.ro h3⟩
theorem Hold.WJ {M:Nat→Prop} {row:Option Nat} {w0 w1 w:World} {L:List Hp} (K1:Hold M row w0 w1 L) (K:Hold M row w0 w L) (hr:RM (Mut M L) w1 w) {g:Nat} {t:TypeId} {cs:Array Value} (hg:w1.heap.size≤g) (hb:w.heap[g]? =some (.cells cs t (0,0))):
  Hold M row w0 w (.blk g t cs::L):=by
 have hgl:g<w.heap.size:=Blk.lt (t:=t) (cs:=cs) hb
 have hno:∀ k∈L,k.foot≠some g:=fun k hk hf=>by have:=(K1.fresh k hk g hf).2;omega
 have ee:∀ b,b<w1.heap.size→Mut M (.blk g t cs::L) b→Mut M L b:=fun b hl hb=>by
  rcases ZG.1 hb with hf|hm
  ·have:some g=some b:=hf
   injection this with this
   omega
  ·exact hm
 refine ⟨K.grow,K.low,fun k hk=>?_,fun k hk b hf=>?_,⟨fun b hf k hk he=>?_,K.sep⟩⟩
 ·rcases List.mem_cons.1 hk with rfl|hk
  ·exact hb
  ·have h1:=K1.sat k hk
   have h2:=K.sat k hk
   cases k with
   | blk g' t' cs' =>exact h2
   | own e s v n' xs=>exact h2
   | tp T=>
    refine ⟨h2.1,fun b hb' =>?_⟩
    have hT:T<w1.heap.size:=(K1.fresh _ hk T rfl).2
    rcases ZG.1 hb' with hf|hm'
    ·have:some g=some b:=hf
     injection this with this
     omega
    ·exact h2.2 b hm'
   | ro S=>exact Ro.step h1 hr.1 hr.2 ee
   | cst g' t' cs' =>exact Ro.step h1 hr.1 hr.2 ee
   | ob g' F' =>exact h2
 ·rcases List.mem_cons.1 hk with rfl|hk
  ·have:some g=some b:=hf
   injection this with this
   subst this
   exact ⟨.inl (Nat.le_trans K1.grow.size hg),hgl⟩
  ·exact K.fresh k hk b hf
 ·have:some g=some b:=hf
  injection this with this
  subst this
  exact hno k hk he
section
variable {M:Nat→Prop}
end
end Go.Proofs.YtnbbllkbefagmaaGreatDoor
namespace Go.Proofs.YtnbbllkbefagmaaGreatDoor
open Go.RowKit
set_option linter.unusedVariables false
set_option linter.unusedSimpArgs false
section
variable {P:Program} {M:Nat→Prop} {row:Option Nat} {w0 w1:World} {L:List Hp} {sp:SpW} {F:Act→Prop} {S0:Array Bool}
variable {ops:Array Oper} {o:Oper} {rest:List Oper} {a:Act} {k:Nat}
theorem Zfz {t e:TypeId} {size bytes:Nat} {z:Value} (hE:ElemT P t e size bytes z) (d:Tmp) (V:Value→World→Prop) (hS:S0.getD k false=false) (hw:Region.wanted o (yielded ops a.tmps)=true) (hd:o.dst=some d) (hsp:sp d=some V)
  (s x:Operand) (ho:o.op=.call { callee:=.builtin .append,args:=#[s,x],argTypes:=#[t,t] }) (hs:a.eval s=.slice none 0 0) {A:Option Addr} {m c:Nat} {ys:List Value} (hx:a.eval x=.slice A m c) (h1:∀ u∈ys,u.oneCell' =true) (hq:m<140737488355328) (hb:m * bytes≤140737488355328)
  (hr:∀ w,Hold M row w0 w L→Z5 ops (GW sp) o a w→SlR size A m ys w) (hV:∀ C' cap' w w',Hold M row w0 w L→RM (Mut M L) w1 w→Hold M row w0 w' L→m≤cap' →cap' ≤9223372036854775807→w'.ownsRow w.heap.size e size (.slice C' m cap') m ys→V (.slice C' m cap') w')
  (hn:∀ u w,Hold M row w0 w L→V u w→Zn P ops (HC M row w0 w1 L) (GW sp) (RM (Mut M L)) S0 F (k+1) rest (a.put (some d) u)):Zn P ops (HC M row w0 w1 L) (GW sp) (RM (Mut M L)) S0 F k (o::rest) a:=by
 refine Jn hS hw d hd (fun w hC hD=>?_) fun u w hC hu=>hn u w hC.1 ((Zp hsp).1 hu)
 obtain ⟨C',cap',w',hrun,c1,c2,ho2,hb2⟩:=Zen hE o.type w (hr w hC.1 hD) (c:=c) h1 hq hb
 have hH:=hC.1.call hb2
 refine ⟨.slice C' m cap',w',?_,(Zp hsp).2 (hV C' cap' w w' hC.1 hC.2 hH c1 c2 ho2),⟨hH,hC.2.trans (RM.below hb2)⟩,RM.below hb2⟩
 unfold execOp
 simp only [ho,resolve,invoke,builtin,Sem.run_bind,Sem.run_pure,Result.andThen_ok,List.map_toArray,List.map_cons,List.map_nil,hs,hx,hrun]
end
end Go.Proofs.YtnbbllkbefagmaaGreatDoor
namespace Go.Proofs.YtnbbllkbefagmaaGreatDoor
open Go.RowKit
set_option linter.unusedVariables false
set_option linter.unusedSimpArgs false
def Sm.val (s:Sm):Value:=.agg #[.string s.nm,.slice s.cols.A s.cols.n s.cols.c]
def Pl.more (p:Pl) (s:Sm) (A:Option Addr) (c:Nat):Pl:=⟨⟨A,p.fr.n+1,c,p.fr.l++[⟨s.nm,false,s.cols,SlP.nil⟩]⟩,p.tb⟩
def Zcw (w:World) (M:Nat→Prop) (p:Pl) (s:Sm) (e:Ending) (w' :World):Prop:=∃ (A:Option Addr) (c:Nat),e=.returned (p.more s A c).val∧p.fr.n+1≤c∧Ro w' M (Zg (p.more s A c))∧Below w.heap.size w w'
theorem Tryz.WI:ElemT Tryz.prog 149 210 4 72 (.agg #[.string ⟨#[]⟩,.bool false,.slice none 0 0,.slice none 0 0]):=⟨Tryz.underlying149,by kernel_rfl,rfl,by omega⟩
theorem Gh (l:List Fr):∀ u∈XQ l,u.oneCell' =true:=fun u hu=>by
 unfold XQ at hu
 rw [List.mem_flatMap] at hu
 obtain ⟨x,_,hx⟩:=hu
 simp only [Fr.cells,List.mem_cons,List.not_mem_nil,or_false] at hx
 rcases hx with rfl|rfl|rfl|rfl<;>rfl
def V3 (b0 n:Nat) (l:List Fr) (u:Value) (w:World):Prop:=∃ (A:Option Addr) (c:Nat),u=.slice A n c∧w.ownsRow b0 210 4 (.slice A n c) n (XQ l)
theorem ZfS {M:Nat→Prop} {b0 n:Nat} {l:List Fr} (hM:∀ b,M b→b<b0) (u:Value) (w w' :World) (hr:RM M w w') (h:V3 b0 n l u w):V3 b0 n l u w' :=by
 obtain ⟨A,c,h1,h2⟩:=h
 exact ⟨A,c,h1,GG hM hr h2⟩
def VK (M:Nat→Prop) (cs:List Value) (u:Value) (w:World):Prop:=∃ g:Nat,u=.slice (some ⟨g,0,none⟩) 1 1∧Ro w M (SlR 4 (some ⟨g,0,none⟩) 1 cs)
theorem ZgH {M:Nat→Prop} {cs:List Value} (u:Value) (w w' :World) (hr:RM M w w') (h:VK M cs u w):VK M cs u w' :=by
 obtain ⟨g,h1,h2⟩:=h
 exact ⟨g,h1,hr.ro h2⟩
set_option maxRecDepth 100000 in
set_option maxHeartbeats 8000000 in
theorem UV (M:Nat→Prop) (w:World) (hM:∀ b,M b→b<w.heap.size) (p:Pl) (s:Sm) (hp:Ro w M (Zg p)) (hs:Ro w M (ZK s)) (hn:p.fr.n≤1000):
  Calls Tryz.prog 158 #[p.val,s.val] w fun e w' =>Zcw w M p s e w' :=by
 obtain ⟨⟨fA,fn,fc,fl⟩,⟨sA,sn,sc,sl⟩⟩:=p
 obtain ⟨snm,⟨cA,cn,cc,cl⟩⟩:=s
 simp only at hn
 have hL:=hid (show fl.length=fn from FrsIn.len hp.now.1)
 have K0:=((((((Hold.start M w hM).add (hs.less (by simp [Mut]))).add ((hp.imp (S' :=SmsIn ⟨sA,sn,sc,sl⟩) fun w2 h2=>h2.2).less (by simp [Mut,Hp.foot]))).add ((hp.imp (S' :=FrsIn ⟨fA,fn,fc,fl⟩) fun w2 h2=>h2.1).less (by simp [ZG,Mut,Hp.foot]))).Za #[.slice fA fn fc,.slice sA sn sc] 177).Za #[.string snm,.slice cA cn cc] 49).alloc #[.slice none 0 0,.slice none 0 0] 177
 rw [World.size_alloc,World.size_alloc] at K0
 obtain ⟨gp,hgp⟩:∃ g,g=w.heap.size:=⟨_,rfl⟩
 rw [←hgp] at K0
 obtain ⟨gs,hgs⟩:∃ g,g=gp+1:=⟨_,rfl⟩
 obtain ⟨gr,hgr⟩:∃ g,g=gs+1:=⟨_,rfl⟩
 rw [←hgs,←hgr] at K0
 obtain ⟨KL,hKL⟩:∃ KL:List Hp,KL=[.cst gp 177 #[.slice fA fn fc,.slice sA sn sc],.cst gs 49 #[.string snm,.slice cA cn cc],.ro (FrsIn ⟨fA,fn,fc,fl⟩),.ro (SmsIn ⟨sA,sn,sc,sl⟩),.ro (ZK ⟨snm,⟨cA,cn,cc,cl⟩⟩),.blk gr 177 #[.slice none 0 0,.slice none 0 0]]:=⟨_,rfl⟩
 have hcast:∀ (L1:List Hp) (wz:World),Hold M none w wz L1→L1=KL→Hold M none w wz KL:=fun _ _ h e=>e ▸ h
 have K1:=hcast _ _ (K0.pick [2,1,3,4,5,0] (by decide) rfl) hKL.symm
 have F0:=K0.facts
 simp only [zg] at F0
 have H1:∀ wv:World,Hold M none w wv KL→Blk wv gp 177 #[.slice fA fn fc,.slice sA sn sc]:=fun wv h=>by rw [hKL] at h;exact h.ZB 0 rfl
 have H2:∀ wv:World,Hold M none w wv KL→Blk wv gs 49 #[.string snm,.slice cA cn cc]:=fun wv h=>by rw [hKL] at h;exact h.ZB 1 rfl
 have H3:∀ wv:World,Hold M none w wv KL→SlR 4 fA fn (XQ fl) wv:=fun wv h=>by rw [hKL] at h;exact (h.ro 2 rfl).now.1
 have HH1:=hid H1
 have HH2:=hid H2
 have HH3:=hid H3
 have HKL:=hid hKL
 clear hKL hcast H1 H2 H3 K0 hp hs
 simp only [Pl.val,Sm.val]
 go_enter Tryz.func158,Tryz.ntmps158
 go_wp2_with fail
 rw [←hgp]
 try rw [←hgs]
 try rw [←hgr]
 have HG:=hid (And.intro hgp (And.intro hgs hgr))
 clear hgp hgs hgr F0
 obtain ⟨w1,hw1⟩:∃ w1,w1=((w.alloc (.cells #[.slice fA fn fc,.slice sA sn sc] 177)).alloc (.cells #[.string snm,.slice cA cn cc] 49)).alloc (.cells #[.slice none 0 0,.slice none 0 0] 177):=⟨_,rfl⟩
 rw [←hw1] at K1 ⊢
 have HW1:=hid hw1
 clear hw1
 have hb0:∀ b,Mut M KL b→b<w1.heap.size:=K1.Zc
 refine wp_region_any (by kernel_rfl) ?_
 refine ZH 9 20 (KL) (spL [(8,V3 w1.heap.size fn fl),(14,VK (Mut M KL) [.string snm,.bool false,.slice cA cn cc,.slice none 0 0])]) (by kernel_rfl) (by kernel_rfl) (by kernel_rfl) rfl ?_ (K1.drew) ?_
 ·exact Ze (ZfS hb0) (Ze ZgH (ZF _))
 simp only [zd,Act.put,List.getElem_toArray,List.getElem_cons_zero,List.getElem_cons_succ,zl]
 refine' dv rfl rfl rfl (fun wv HC=>?_) ?_;rotate_left
 · go_simp<;>rfl
 simp only [Act.put,zl]
 refine' dv rfl rfl rfl (fun wv HC=>?_) ?_;rotate_left
 ·have q0:=(HH1.out _ HC).cell 0;go_simp<;>rfl
 simp only [Act.put,zl]
 refine Zfz Tryz.WI 8 (V3 w1.heap.size fn fl) rfl rfl rfl rfl (.const (.slice none 0 0)) (.tmp 7) rfl rfl (A:=fA) (m:=fn) (c:=fc) (ys:=XQ fl) rfl (Gh _) (by omega) (by omega) (fun wv HC hD=>HH3.out _ HC) (fun C9 c9 wa wv HCa hrm HC q1 q2 hro=>⟨C9,c9,rfl,QK (show w1.heap.size≤wa.heap.size from hrm.1) hro⟩) ?_
 rintro u wx HCx ⟨A8,c8,rfl,-⟩
 clear HCx
 simp only [Act.put,zl]
 refine' dv rfl rfl rfl (fun wv HC=>?_) ?_;rotate_left
 · go_simp<;>rfl
 simp only [Act.put,zl]
 refine' dv rfl rfl rfl (fun wv HC=>?_) ?_;rotate_left
 ·have q0:=(HH2.out _ HC).cell 0;go_simp<;>rfl
 simp only [Act.put,zl]
 refine' dv rfl rfl rfl (fun wv HC=>?_) ?_;rotate_left
 · go_simp<;>rfl
 simp only [Act.put,zl]
 refine' dv rfl rfl rfl (fun wv HC=>?_) ?_;rotate_left
 ·have q0:=(HH2.out _ HC).cell 1;go_simp<;>rfl
 simp only [Act.put,zl]
 refine' dv rfl rfl rfl (fun wv HC=>?_) ?_;rotate_left
 · go_simp<;>rfl
 simp only [Act.put,zl]
 refine Ye #[.string snm,.bool false,.slice cA cn cc,.slice none 0 0] 210 14 (VK (Mut M KL) [.string snm,.bool false,.slice cA cn cc,.slice none 0 0]) (fun g=>.slice (some ⟨g,0,none⟩) 1 1) rfl rfl rfl rfl (fun wv=>?_) (fun wv HC _hrm hD hro=>?_) ?_
 ·go_simp<;>rfl
 ·exact ⟨_,rfl,ZJ (hro _ HC.Zc) rfl⟩
 rintro g14 wg HCg h14
 simp only [Act.put,zl]
 clear HCg h14
 refine ZE ?_
 rintro wx2 HX
 rintro hrm HGW
 have h8:V3 w1.heap.size fn fl (.slice A8 fn c8) wx2:=(Zp (d:=8) rfl).1 (HGW 2 _ rfl (by omega))
 have h14:VK (Mut M KL) [.string snm,.bool false,.slice cA cn cc,.slice none 0 0] (.slice (some ⟨g14,0,none⟩) 1 1) wx2:=(Zp (d:=14) rfl).1 (HGW 8 _ rfl (by omega))
 clear HGW
 obtain ⟨A8',c8',e8,h8⟩:=h8
 obtain ⟨rfl,rfl⟩:A8=A8' ∧c8=c8' :=by injection e8 with e1 e2 e3;exact ⟨e1,e3⟩
 obtain ⟨g',e14,h14⟩:=h14
 obtain rfl:g14=g' :=by injection e14 with e14;injection e14 with e14;injection e14
 have K9:=K1.drew.Zbt HX hrm h8
 rw [HKL.out] at K9
 have HSR:=hid h14.now
 clear hrm HX h8 h14 HH1 HH2 HH3 K1 e8 e14 hb0
 have F9:=K9.facts
 simp only [zg] at F9
 go_wp2_with (at_builtin;go_must (refine Yy K9 0 rfl Tryz.WI HSR.out rfl (.tmp 8) (.tmp 14) rfl rfl rfl (by intro u hu;simp at hu;rcases hu with rfl|rfl|rfl|rfl<;>rfl) (by omega) (by omega) ?_);intro C9 cap9 w9 hc9 hm9 KB;simp only [List.set_cons_zero] at KB;have FB:=KB.facts;simp only [zg] at FB)
 have K5:=(KB.store 6 rfl 0 (.slice C9 (fn+1) cap9)).store 6 rfl 1 (.slice sA sn sc)
 simp only [zl] at K5
 have F5:=K5.facts
 simp only [zg] at F5
 have KS:=K5.ZC 0 rfl
 simp only [List.set_cons_zero] at KS
 have hR:Ro _ _ (Zg (Pl.more ⟨⟨fA,fn,fc,fl⟩,⟨sA,sn,sc,sl⟩⟩ ⟨snm,⟨cA,cn,cc,cl⟩⟩ C9 cap9)):=((KS.ro 0 rfl).and ((KS.ro 3 rfl).and ((KS.ro 4 rfl).and (KS.ro 5 rfl)))).imp fun w2 h2=>⟨⟨by
   have h3:=h2.1
   have e:XQ fl++[.string snm,.bool false,.slice cA cn cc,.slice none 0 0]=(fl++[(⟨snm,false,⟨cA,cn,cc,cl⟩,SlP.nil⟩:Fr)]).flatMap Fr.cells:=by simp [XQ,Fr.cells,SlP.v,SlP.nil]
   rw [e] at h3
   exact h3,fun x hx=>by
   have hx:x∈fl++[(⟨snm,false,⟨cA,cn,cc,cl⟩,SlP.nil⟩:Fr)]:=hx
   rcases List.mem_append.1 hx with hx|hx
   ·exact h2.2.1.2 x hx
   ·simp only [List.mem_cons,List.not_mem_nil,or_false] at hx
    subst hx
    exact ⟨h2.2.2.2,SlP.Zi _ _ _ _⟩⟩,h2.2.2.1⟩
 have HR:=hid (hR.less zm)
 have HB:=hid K5.below
 clear K5 KS KB hR
 refine bodyPost_ret (v:=.agg #[.slice C9 (fn+1) cap9,.slice sA sn sc]) ?_ rfl ?_
 ·clear HR HB
  simp [results,Tryz.results158,go_sem,F5]
 ·exact ⟨C9,cap9,rfl,hc9,HR.out,HB.out⟩
set_option maxHeartbeats 1000000 in
theorem ZcI (k i:Int) (s:ByteArray) (w:World):
  Calls Tryz.prog 182 #[.agg #[.int .i64 k,.int .i64 i,.string s]] w fun e w' =>e=.returned (.bool (YA k i s))∧w.alloc (.cells #[.int .i64 k,.int .i64 i,.string s] 122)=w' :=by
 by_cases h0:k=0
 ·subst h0
  cases hi:(i==0)<;>cases he:s.toList.isEmpty
  all_goals
   go_enter Tryz.func182,Tryz.ntmps182
   go_wp2_with fail
   go_ret
   refine ⟨?_,rfl⟩
   simp [YA,hi,he]
 by_cases h1:k=1
 ·subst h1
  go_enter Tryz.func182,Tryz.ntmps182
  go_wp2_with fail
  go_ret
  refine ⟨?_,rfl⟩
  simp [YA]
 by_cases h2:k=2
 ·subst h2
  cases hi:(i==0)<;>cases hj:(i==1)
  all_goals
   go_enter Tryz.func182,Tryz.ntmps182
   go_wp2_with fail
   go_ret
   refine ⟨?_,rfl⟩
   simp [YA,hi,hj]
 by_cases h3:k=3
 ·subst h3
  cases hi:(i==0)
  ·have hi' :(i !=0)=true:=by simp only [bne,hi,Bool.not_false]
   go_enter Tryz.func182,Tryz.ntmps182
   go_wp2_with fail
   go_ret
   refine ⟨?_,rfl⟩
   simp [YA,hi]
  ·have hi' :(i !=0)=false:=by simp only [bne,hi,Bool.not_true]
   by_cases hl:s.size≤64
   ·have l0:((s.size:Int))≤64:=by omega
    have HV:Hid (YA 3 i s=Xo s):=by unfold Hid;simp [YA,hi]
    have B0:=Blk.new w 122 #[.int .i64 3,.int .i64 i,.string s]
    obtain ⟨c0,c1,c2,cl⟩:=B0.c3
    go_enter Tryz.func182,Tryz.ntmps182
    go_wp2_with fail
    go_loop [3] (fun j=>∃ k:Nat,k≤s.size∧j=.int .i64 k∧(s.data.toList.take k).all Vy=true) (fun j=>s.size - (intOf j).toNat)
    case atStart=>exact ⟨0,by omega,rfl,rfl⟩
    case round=>
     obtain ⟨k,hk,rfl,hall⟩:=hrel
     have HA:=hid hall;clear hall
     by_cases hlt:k<s.size
     ·have hts:Hid (s.data.toList.take (k+1)=s.data.toList.take k++[s[k]]):=by
       unfold Hid;rw [List.take_succ_eq_append_getElem (by simpa using hlt)];rfl
      by_cases hb:32≤s[k].toNat∧s[k].toNat≤126
      ·have b1:(32:Int)≤(s[k].toNat:Int):=by omega
       have b2:(s[k].toNat:Int)≤126:=by omega
       have HB:=hid hb;clear hb
       go_wp2_with fail
       go_round
       case rel=>exact ⟨k+1,by omega,by go_num,by rw [hts.out,List.all_append,HA.out];simp [Vy,HB.out]⟩
       case measure=>simp [intOf];omega
      ·have hno:Hid (Xo s=false):=by
        unfold Hid Xo
        have:s.data.toList.all Vy=false:=by
         rw [List.all_eq_false]
         exact ⟨s[k],List.mem_of_getElem (i:=k) (h:=by simpa using hlt) rfl,by simp [Vy];omega⟩
        rw [this];rfl
       by_cases h32:(s[k].toNat:Int)<32
       ·clear hb
        go_wp2
        go_ret
        exact ⟨by rw [HV.out,hno.out];rfl,rfl⟩
       ·have h126:(126:Int)<(s[k].toNat:Int):=by omega
        clear hb
        go_wp2
        go_ret
        exact ⟨by rw [HV.out,hno.out];rfl,rfl⟩
     ·obtain rfl:k=s.size:=by omega
      have hyes:Hid (Xo s=true):=by
       unfold Hid Xo
       have h:=HA.out
       rw [List.take_of_length_le (by simp)] at h
       rw [h];simpa using hl
      go_wp2
      go_ret
      exact ⟨by rw [HV.out,hyes.out];rfl,rfl⟩
   ·have l0:(64:Int)<(s.size:Int):=by omega
    have HV:Hid (YA 3 i s=false):=by unfold Hid;simp [YA,hi,Xo];omega
    go_enter Tryz.func182,Tryz.ntmps182
    go_wp2_with fail
    go_ret
    exact ⟨by rw [HV.out];rfl,rfl⟩
 ·have k0:(k==0)=false:=by simpa using h0
  have k1:(k==1)=false:=by simpa using h1
  have k2:(k==2)=false:=by simpa using h2
  have k3:(k==3)=false:=by simpa using h3
  go_enter Tryz.func182,Tryz.ntmps182
  go_wp2_with fail
  go_ret
  refine ⟨?_,rfl⟩
  simp [YA,h0,h1,h2,h3]
def Gives (f:FuncId) (args:Array Value) (v:Value):Prop:=
 ∀ w:World,Calls Tryz.prog f args w fun e w' =>e=.returned v∧Below w.heap.size w w'


theorem ZfU {x y:Vl} (h0:x.k=y.k) (h1:x.i=y.i) (h2:x.s=y.s):x=y:=by
 obtain ⟨a,b,c⟩:=x;obtain ⟨d,e,f⟩:=y;simp only at h0 h1 h2;rw [h0,h1,h2]
end Go.Proofs.YtnbbllkbefagmaaGreatDoor
namespace Go.Proofs.YtnbbllkbefagmaaGreatDoor
open Go.RowKit Go.Maps
set_option linter.unusedVariables false
structure KeyFam (P:Program) (k:TypeId) (κ:Type) where
 val:κ→Value
 ok:κ→Prop
 key:∀ x,ok x→∃ kl,keyOf P k (val x)=some kl
 inj:∀ x y,val x=val y→x=y
structure SetT (P:Program) (t k e:TypeId):Prop where
 ht:P.underlying t=some (.map k e)
 he:P.underlying e=some .bool
 hz:∀ w:World,(zeroValue e).run P w=.ok (.bool false) w
 law:Keyed P k
def MSet {P:Program} {k:TypeId} {κ:Type} (e:TypeId) (F:KeyFam P k κ) (b n:Nat) (S:κ→Prop) (w:World):Prop:=
 ∃ D:DataW Unit,w.ownsMap P k (plainElem P e) b n D∧∀ x,F.ok x→∀ kl,keyOf P k (F.val x)=some kl→∃ c:Bool,D.atKey kl (.lit (.bool false))=.lit (.bool c)∧(c=true↔S x)
section
variable {P:Program} {t k e:TypeId} {κ:Type} {F:KeyFam P k κ} {b n:Nat} {S:κ→Prop} {w w' :World}
theorem MSet.stay (h:MSet e F b n S w) (hb:w'.heap[b]? =w.heap[b]?):MSet e F b n S w' :=by
 obtain ⟨D,⟨es,clock,h1,h2⟩,h3⟩:=h
 exact ⟨D,⟨es,clock,hb.trans h1,h2⟩,h3⟩
theorem MSet.made (e:TypeId) (F:KeyFam P k κ) (w:World) (h:w.heap[b]? =some (.map #[] 0)):MSet e F b 0 (fun _=>False) w:=by
 have h0:=World.ownsMap_made w P k (plainElem (H:=Unit) P e)
 obtain ⟨es,clock,h1,h2⟩:=h0
 have h3:(w.alloc (.map #[] 0)).heap[w.heap.size]? =some (.map #[] 0):=heap_alloc_new w _
 rw [h3] at h1
 injection h1 with h1
 injection h1 with h4 h5
 subst h4 h5
 refine ⟨.map [],⟨#[],0,h,h2⟩,fun x _ kl _=>⟨false,rfl,by simp⟩⟩
theorem Zf7 {H:Type} (he:P.underlying e=some .bool) {v:Value} {z:DataW H × List MemPlace} (h:plainElem P e v=some z):∃ c,v=.bool c∧z=(.lit (.bool c),[]):=by
 unfold plainElem at h
 rw [he] at h
 cases v<;>simp at h
 subst h
 exact ⟨_,rfl,rfl⟩
theorem MSet.look (T:SetT P t k e) (h:MSet e F b n S w) {x:κ} (hx:F.ok x):∃ c:Bool,(Instr.lookup t (.map (some b)) (F.val x) false).run P w=.ok (.bool c) w∧(c=true↔S x):=by
 obtain ⟨D,h1,h2⟩:=h
 obtain ⟨kl,hk⟩:=F.key x hx
 obtain ⟨c,h3,h4⟩:=h2 x hx kl hk
 obtain ⟨v,ps,hrun,hv⟩:=h1.lookup T.law T.ht (T.hz w) (plainElem_bool T.he false) hk
 obtain ⟨c',rfl,h5⟩:=Zf7 T.he hv
 rw [h3] at h5
 iterate 3
  injection h5 with h5
 subst h5
 exact ⟨c,hrun,h4⟩
theorem MSet.put (T:SetT P t k e) (h:MSet e F b n S w) {x:κ} (hx:F.ok x) (hn:n<maxLen):∃ w',(Instr.mapUpdate t (.map (some b)) (F.val x) (.bool true)).run P w=.ok () w' ∧MSet e F b (n+1) (fun y=>y=x∨S y) w' ∧w.grownBy w' (some b):=by
 obtain ⟨D,h1,h2⟩:=h
 obtain ⟨kl,hk⟩:=F.key x hx
 obtain ⟨w',hrun,h3,h4⟩:=h1.update T.law T.ht hn hk (plainElem_bool T.he true)
 refine ⟨w',hrun,⟨_,h3,fun y hy kl' hk' =>?_⟩,h4⟩
 by_cases hxy:y=x
 ·subst hxy
  rw [hk] at hk'
  injection hk' with hk'
  subst hk'
  refine ⟨true,?_,by simp⟩
  have hD:IsMap D:=by
   obtain ⟨es,clock,_,_,_,rfl⟩:=h1
   exact ⟨_,rfl⟩
  rw [atKey_put_same hD (T.law.key hk)]
 ·have hne:kl' ≠kl:=fun e=>by
   subst e
   exact hxy (F.inj _ _ (T.law.inj hk' hk))
  obtain ⟨c,h5,h6⟩:=h2 y hy kl' hk'
  exact ⟨c,by rw [atKey_put_other hne];exact h5,by rw [h6];simp [hxy]⟩
end
section
variable {P:Program} {M:Nat→Prop} {row:Option Nat} {w0 w:World} {L:List Hp} {t k e:TypeId} {κ:Type} {F:KeyFam P k κ} {b n:Nat} {S:κ→Prop}
theorem Hold.ZbA (K:Hold M row w0 w L) (e:TypeId) (F:KeyFam P k κ):Hold M row w0 (w.alloc (.map #[] 0)) (.ob w.heap.size (MSet e F w.heap.size 0 (fun _=>False))::L):=
 K.Zht _ _ fun w' hw' =>MSet.made e F w' hw'
theorem Zaa (K:Hold M row w0 w L) (i:Nat) (hi:L[i]? =some (.ob b (MSet e F b n S))) (T:SetT P t k e) {ops:Array Oper} {rest:List Oper} {o:Oper} {a:Act} {Q:Exit→Act→World→Prop}
  (hg:o.guard=none) (m x:Operand) (hop:o.op=Op.lookup t m x false) (hm:a.eval m=.map (some b)) (y:κ) (hx:a.eval x=F.val y) (hy:F.ok y)
  (h:∀ c:Bool,(c=true↔S y)→wpList P ops Q rest (a.put o.dst (.bool c)) w):wpList P ops Q (o::rest) a w:=by
 refine wpList_plain hg fun K' hK' =>?_
 obtain ⟨c,hrun,hc⟩:=(K.ob_ i hi).look T hy
 unfold Oper.wp
 simp [execOp,hop,hm,hx,hrun,Result.andThen]
 exact hK' _ _ (h c hc)
theorem ZaW (K:Hold M row w0 w L) (i:Nat) (hi:L[i]? =some (.ob b (MSet e F b n S))) (T:SetT P t k e) {ops:Array Oper} {rest:List Oper} {o:Oper} {a:Act} {Q:Exit→Act→World→Prop}
  (hg:o.guard=none) (m x v:Operand) (hop:o.op=Op.mapUpdate t m x v) (hm:a.eval m=.map (some b)) (y:κ) (hx:a.eval x=F.val y) (hv:a.eval v=.bool true) (hy:F.ok y) (hn:n<maxLen)
  (h:∀ w',Hold M row w0 w' (L.set i (.ob b (MSet e F b (n+1) (fun z=>z=y∨S z))))→wpList P ops Q rest (a.put o.dst undef) w'):wpList P ops Q (o::rest) a w:=by
 refine wpList_plain hg fun K' hK' =>?_
 obtain ⟨w',hrun,h1,h2⟩:=(K.ob_ i hi).put T hy hn
 unfold Oper.wp
 simp [execOp,hop,hm,hx,hv,hrun,Result.andThen]
 exact hK' _ _ (h w' (K.Zhy i hi h2 fun w2 hw2=>h1.stay hw2))
end
end Go.Proofs.YtnbbllkbefagmaaGreatDoor
namespace Go.Proofs.YtnbbllkbefagmaaGreatDoor
open Go.RowKit Go.Maps
set_option linter.unusedVariables false
set_option linter.unusedSimpArgs false
theorem Tryz.Zhl:laidOutB Tryz.prog=true:=by kernel_rfl
theorem wf_i64 {x:Int} (h:I64 x):(Lit.int .i64 x).wf=true:=by
 simp [Lit.wf,IntKind.min,IntKind.max,IntKind.signed,IntKind.bits]
 obtain ⟨h1,h2⟩:=h
 omega
end Go.Proofs.YtnbbllkbefagmaaGreatDoor
namespace Go.Proofs.YtnbbllkbefagmaaGreatDoor
open Go.RowKit
set_option linter.unusedVariables false
set_option linter.unusedSimpArgs false
def Wi (x:Nat):Bool:=decide (97≤x)&&decide (x≤122)
def Jz (x:Nat):Bool:=decide (48≤x)&&decide (x≤57)
def Xg (x:Nat):Bool:=Wi x||Jz x||x==95
def Yv (s:ByteArray):Bool:=decide (1≤s.size)&&decide (s.size≤12)&&Wi (s.data.toList.getD 0 0).toNat&&s.data.toList.all (fun c=>Xg c.toNat)
theorem ZfX {s:ByteArray} (h:s.size<1):Yv s=false:=by simp [Yv];omega
theorem Zdu {s:ByteArray} (h:12<s.size):Yv s=false:=by simp [Yv];omega
theorem ZbB {s:ByteArray} {c:UInt8} (hc:s.data.toList.getD 0 0=c) (h:Wi c.toNat=false):Yv s=false:=by
 unfold Yv;rw [hc,h];simp
theorem ZfG {s:ByteArray} {k:Nat} {c:UInt8} (hk:s.data.toList[k]? =some c) (h:Xg c.toNat=false):Yv s=false:=by
 have:s.data.toList.all (fun c=>Xg c.toNat)=false:=by
  rw [List.all_eq_false]
  exact ⟨c,List.mem_of_getElem? hk,by simp [h]⟩
 unfold Yv;rw [this,Bool.and_false]
theorem Zfx {s:ByteArray} {c:UInt8} (h1:1≤s.size) (h2:s.size≤12) (hc:s.data.toList.getD 0 0=c) (hl:Wi c.toNat=true) (ha:s.data.toList.all (fun c=>Xg c.toNat)=true):Yv s=true:=by
 unfold Yv;rw [hc,hl,ha];simp [h1,h2]
theorem QP {s:ByteArray} {k:Nat} {c:UInt8} {p:UInt8→Bool} (hk:s.data.toList[k]? =some c) (ha:(s.data.toList.take k).all p=true) (hp:p c=true):(s.data.toList.take (k+1)).all p=true:=by
 obtain ⟨h,rfl⟩:=List.getElem?_eq_some_iff.1 hk
 rw [List.take_succ_eq_append_getElem h,List.all_append,ha]
 simpa using hp
theorem Zdn {s:ByteArray} {p:UInt8→Bool} (ha:(s.data.toList.take s.size).all p=true):s.data.toList.all p=true:=by
 rwa [List.take_of_length_le (by simp)] at ha
theorem byte_at (s:ByteArray) {k:Nat} (h:k<s.size):s.data.toList[k]? =some s[k]:=by
 rw [List.getElem?_eq_getElem (by simpa using h)];rfl
theorem ZdY (s:ByteArray) (h:0<s.size):s.data.toList.getD 0 0=s[0]:=by
 simp only [List.getD,byte_at s h,Option.getD_some]
theorem ZbK {x:Nat} (h1:¬(97≤x∧x≤122)) (h2:¬(48≤x∧x≤57)) (h3:x≠95):Xg x=false:=by
 simp [Xg,Wi,Jz];omega
theorem ZeO {x:Nat} (h1:97≤x) (h2:x≤122):Xg x=true:=by simp [Xg,Wi,h1,h2]
theorem ZgV {x:Nat} (h1:48≤x) (h2:x≤57):Xg x=true:=by simp [Xg,Jz,h1,h2]
set_option maxHeartbeats 4000000 in
theorem Qq (s:ByteArray) (w:World):
  Calls Tryz.prog 160 #[.string s] w fun e w' =>e=.returned (.bool (Yv s))∧w=w' :=by
 by_cases h1:s.size<1
 ·have HN:=hid (ZfX h1)
  go_enter Tryz.func160,Tryz.ntmps160
  go_wp2
  go_ret
  exact ⟨by rw [HN.out]<;>rfl,rfl⟩
 by_cases h2:12<s.size
 ·have HN:=hid (Zdu h2)
  go_enter Tryz.func160,Tryz.ntmps160
  go_wp2
  go_ret
  exact ⟨by rw [HN.out]<;>rfl,rfl⟩
 have p0:0<s.size:=by omega
 have p1:1≤s.size:=by omega
 have p2:s.size≤12:=by omega
 have hf:=hid (ZdY s p0)
 have hlt:s[0].toNat<256:=s[0].toNat_lt
 by_cases h3:s[0].toNat<97∨122<s[0].toNat
 ·have HN:=hid (ZbB hf.out (by simp [Wi];omega))
  rcases h3 with h3|h3
  ·go_enter Tryz.func160,Tryz.ntmps160
   go_wp2
   go_ret
   exact ⟨by rw [HN.out]<;>rfl,rfl⟩
  ·have h97:97≤s[0].toNat:=by omega
   have d1:decide ((s[0].toNat:Int)≤122)=false:=by simp;omega
   have d0:decide ((97:Int)≤(s[0].toNat:Int))=true:=by simp;omega
   go_enter Tryz.func160,Tryz.ntmps160
   go_wp2
   go_ret
   exact ⟨by rw [HN.out]<;>rfl,rfl⟩
 have h97:97≤s[0].toNat:=by omega
 have h122:s[0].toNat≤122:=by omega
 have hl:=hid (show Wi s[0].toNat=true by simp [Wi];omega)
 clear h3
 have d1:decide ((s[0].toNat:Int)≤122)=true:=by simp;omega
 have d0:decide ((97:Int)≤(s[0].toNat:Int))=true:=by simp;omega
 go_enter Tryz.func160,Tryz.ntmps160
 go_wp2
 go_loop [3] (fun i=>∃ k:Nat,k≤s.size∧i=.int .i64 k∧(s.data.toList.take k).all (fun c=>Xg c.toNat)=true) (fun i=>s.size - (intOf i).toNat)
 case atStart=>exact ⟨0,by omega,rfl,rfl⟩
 case round=>
  obtain ⟨k,hk,rfl,hall⟩:=hrel
  have HA:=hid hall;clear hall
  by_cases hlt:k<s.size
  ·have HK:=hid (byte_at s hlt)
   have hx:s[k].toNat<256:=s[k].toNat_lt
   by_cases hcls:(97≤s[k].toNat∧s[k].toNat≤122)∨(48≤s[k].toNat∧s[k].toNat≤57)∨s[k].toNat=95
   ·have HN:Hid (Xg s[k].toNat=true):=by
     unfold Hid
     rcases hcls with ⟨a,b⟩|⟨a,b⟩|a
     ·exact ZeO a b
     ·exact ZgV a b
     ·rw [a];rfl
    rcases hcls with ⟨a,b⟩|⟨a,b⟩|a
    ·have e0:decide ((97:Int)≤(s[k].toNat:Int))=true:=by simp;omega
     have e1:decide ((s[k].toNat:Int)≤122)=true:=by simp;omega
     go_wp2
     go_round
     case rel=>exact ⟨k+1,by omega,by go_num,QP HK.out HA.out HN.out⟩
     case measure=>simp [intOf];omega
    ·have c1:s[k].toNat<97:=by omega
     have e0:decide ((97:Int)≤(s[k].toNat:Int))=false:=by simp;omega
     have e2:decide ((48:Int)≤(s[k].toNat:Int))=true:=by simp;omega
     have e3:decide ((s[k].toNat:Int)≤57)=true:=by simp;omega
     go_wp2
     go_round
     case rel=>exact ⟨k+1,by omega,by go_num,QP HK.out HA.out HN.out⟩
     case measure=>simp [intOf];omega
    ·have c1:s[k].toNat<97:=by omega
     have c2:57<s[k].toNat:=by omega
     have c3:((s[k].toNat:Int) !=95)=false:=by rw [bne_eq_false_iff_eq];omega
     have e0:decide ((97:Int)≤(s[k].toNat:Int))=false:=by simp;omega
     have e2:decide ((48:Int)≤(s[k].toNat:Int))=true:=by simp;omega
     have e3:decide ((s[k].toNat:Int)≤57)=false:=by simp;omega
     clear a
     go_wp2
     go_round
     case rel=>exact ⟨k+1,by omega,by go_num,QP HK.out HA.out HN.out⟩
     case measure=>simp [intOf];omega
   ·have HN:Hid (Yv s=false):=ZfG HK.out (ZbK (by omega) (by omega) (by omega))
    have c3:((s[k].toNat:Int) !=95)=true:=by rw [bne_iff_ne];omega
    have hx:s[k].toNat<48∨(57<s[k].toNat∧s[k].toNat<97)∨122<s[k].toNat:=by omega
    clear hcls
    rcases hx with h|⟨h,h'⟩|h
    ·have e0:decide ((97:Int)≤(s[k].toNat:Int))=false:=by simp;omega
     have e2:decide ((48:Int)≤(s[k].toNat:Int))=false:=by simp;omega
     go_wp2
     go_ret
     exact ⟨by rw [HN.out]<;>rfl,rfl⟩
    ·have e0:decide ((97:Int)≤(s[k].toNat:Int))=false:=by simp;omega
     have e2:decide ((48:Int)≤(s[k].toNat:Int))=true:=by simp;omega
     have e3:decide ((s[k].toNat:Int)≤57)=false:=by simp;omega
     go_wp2
     go_ret
     exact ⟨by rw [HN.out]<;>rfl,rfl⟩
    ·have e0:decide ((97:Int)≤(s[k].toNat:Int))=true:=by simp;omega
     have e1:decide ((s[k].toNat:Int)≤122)=false:=by simp;omega
     have e2:decide ((48:Int)≤(s[k].toNat:Int))=true:=by simp;omega
     have e3:decide ((s[k].toNat:Int)≤57)=false:=by simp;omega
     go_wp2
     go_ret
     exact ⟨by rw [HN.out]<;>rfl,rfl⟩
  ·obtain rfl:k=s.size:=by omega
   have HN:=hid (Zfx p1 p2 hf.out hl.out (Zdn HA.out))
   go_wp2
   go_ret
   exact ⟨by rw [HN.out]<;>rfl,rfl⟩
theorem Zfe (s:ByteArray) (w:World) (hs:s.size≤maxLen):
  Calls Tryz.prog 160 #[.string s] w fun e w' =>e=.returned (.bool (Yv s))∧w=w' :=Qq s w
def YJ (l:List Col) (k:Nat) (c:Col):Bool:=Yv c.name&&(Zr (named c.name) l==(k:Int))&&decide (1≤c.ty)&&decide (c.ty≤3)&&(!c.key||c.nn)
def Yi (nm:ByteArray) (l:List Col):Bool:=Yv nm&&decide (1≤l.length)&&decide (l.length≤6)&&Yw (YJ l) 0 l&&decide ((l.filter Col.key).length≤1)
theorem Zdm (c:Col):named c.name c=true:=by simp [named]
theorem ZcE {nm:ByteArray} {l:List Col} (h:Yw (YJ l) 0 l=false):Yi nm l=false:=by simp [Yi,h]
theorem Zei {nm:ByteArray} {l:List Col} {n:Nat} (hv:Yv nm=true) (hl:l.length=n) (h1:1≤n) (h2:n≤6) (h:Yw (YJ l) 0 l=true):Yi nm l=decide (((l.filter Col.key).length:Int)≤1):=by
 simp [Yi,hv,hl,h1,h2,h];omega
theorem ZbG {l:List Col} {n:Nat} (hl:l.length=n):((l.take n).filter Col.key).length=(l.filter Col.key).length:=by rw [List.take_of_length_le (by omega)]
theorem QV (l:List Col) (k:Nat):((l.take k).filter Col.key).length≤k:=Nat.le_trans (List.length_filter_le _ _) (List.length_take_le _ _)
theorem YV (s:ByteArray) (w:World) (hs:s.size≤maxLen):Calls Tryz.prog 160 #[.string s] w fun e w' =>e=.returned (.bool (Yv s))∧Below w.heap.size w w' :=
 (Zfe s w hs).mono fun e w' ⟨h1,h2⟩=>⟨h1,by subst h2;exact Below.refl _ _⟩
set_option maxHeartbeats 8000000 in
theorem ZcF (M:Nat→Prop) (w:World) (hM:∀ b,M b→b<w.heap.size) (nm:ByteArray) (A:Option Addr) (n c:Nat) (l:List Col) (hD:Ro w M (SlR 4 A n (Zd l))) (hn:n≤9223372036854775807) (hs:nm.size≤maxLen) (hok:∀ x∈l,x.name.size≤maxLen):
  Calls Tryz.prog 168 #[.agg #[.string nm,.slice A n c]] w fun e w' =>e=.returned (.bool (Yi nm l))∧Below w.heap.size w w' :=by
 have HL:=hid (RdC.Zw hD.now).len
 have K0:=((Hold.start M w hM).add (hD.less (by simp [Mut]))).Za #[.string nm,.slice A n c] 49
 cases hv:Yv nm
 ·have HN:Hid (Yi nm l=false):=by unfold Hid;simp [Yi,hv]
  have HV:=hid hv;clear hv
  go_enter Tryz.func168,Tryz.ntmps168
  go_wp2_with fail
  refine (YV nm _ hs).mono ?_
  rintro e w1 ⟨rfl,b1⟩
  have K1:=Hold.call (K0) b1
  clear b1
  try simp only [World.size_alloc] at K1
  have F1:=K1.facts
  simp only [zg] at F1
  rw [HV.out]
  go_wp2_with fail
  go_ret
  exact ⟨by rw [HN.out]<;>rfl,K1.below⟩
 have HV:=hid hv;clear hv
 by_cases h1:n<1
 ·have HN:Hid (Yi nm l=false):=by unfold Hid;have:=HL.out;simp [Yi];intros;omega
  go_enter Tryz.func168,Tryz.ntmps168
  go_wp2_with fail
  refine (YV nm _ hs).mono ?_
  rintro e w1 ⟨rfl,b1⟩
  have K1:=Hold.call (K0) b1
  clear b1
  try simp only [World.size_alloc] at K1
  have F1:=K1.facts
  simp only [zg] at F1
  rw [HV.out]
  go_wp2_with fail
  go_ret
  exact ⟨by rw [HN.out]<;>rfl,K1.below⟩
 by_cases h6:6<n
 ·have HN:Hid (Yi nm l=false):=by unfold Hid;have:=HL.out;simp [Yi];intros;omega
  go_enter Tryz.func168,Tryz.ntmps168
  go_wp2_with fail
  refine (YV nm _ hs).mono ?_
  rintro e w1 ⟨rfl,b1⟩
  have K1:=Hold.call (K0) b1
  clear b1
  try simp only [World.size_alloc] at K1
  have F1:=K1.facts
  simp only [zg] at F1
  rw [HV.out]
  go_wp2_with fail
  go_ret
  exact ⟨by rw [HN.out]<;>rfl,K1.below⟩
 have n1:1≤n:=by omega
 have n6:n≤6:=by omega
 go_enter Tryz.func168,Tryz.ntmps168
 go_wp2_with fail
 refine (YV nm _ hs).mono ?_
 rintro e w1 ⟨rfl,b1⟩
 have K1:=Hold.call (K0) b1
 clear b1
 try simp only [World.size_alloc] at K1
 have F1:=K1.facts
 simp only [zg] at F1
 rw [HV.out]
 go_wp2_with fail
 go_loopw [3,25] (fun q i wr=>∃ k:Nat,k≤n∧i=.int .i64 k∧q=.int .i64 ((l.take k).filter Col.key).length∧Yw (YJ l) 0 l=Yw (YJ l) k (l.drop k)∧Hold M none w wr [.cst w.heap.size 49 #[.string nm,.slice A n c],.ro (SlR 4 A n (Zd l))]) (fun _ i _=>n - (intOf i).toNat)
 case atStart=>exact ⟨0,by omega,rfl,rfl,rfl,K1⟩
 case round=>
  obtain ⟨k,hk,rfl,rfl,hf,H⟩:=hrel
  have HF:=hid hf;clear hf F1
  by_cases hlt:k<n
  ·obtain ⟨x,hc⟩:=YC HL.out hlt
   have hx:x.name.size≤maxLen:=hok x (List.mem_of_getElem? hc)
   have hfl:=Zb2 (Zdm x) hc
   have HQ:=hid (Zg0 Col.key hc)
   have hql:=QV l k
   have hql1:=QV l (k+1)
   obtain ⟨b,o,rfl,hb,c0,c1,c2,c3⟩:=(RdC.Zw (H.ro 1 rfl).now).at_ hc
   have HOk:Hid (YJ l k x=(Yv x.name&&(Zr (named x.name) l==(k:Int))&&decide (1≤x.ty)&&decide (x.ty≤3)&&(!x.key||x.nn))):=rfl
   have HBad:Hid (YJ l k x=false→Yi nm l=false):=fun h=>ZcE (Zeq HF.out hc h)
   have HGood:Hid (YJ l k x=true→Yw (YJ l) 0 l=Yw (YJ l) (k+1) (l.drop (k+1))):=fun h=>Zdr HF.out hc h
   obtain ⟨nx,ty,nn,key⟩:=x
   simp only at c0 c1 c2 c3 hx hfl
   have HX:=hid (Qo M)
   obtain ⟨f,hfe⟩:∃ f,f=Zr (named nx) l:=⟨_,rfl⟩
   rw [←hfe] at hfl
   have HFE:=hid hfe;clear hfe
   obtain ⟨q,hqe⟩:∃ q,q=((l.take k).filter Col.key).length:=⟨_,rfl⟩
   rw [←hqe] at hql
   have HQE:=hid hqe
   rw [←hqe]
   clear hqe hc
   simp only at HOk HQ
   rw [←HFE.out] at HOk
   cases hvx:Yv nx
   ·have HC:Hid (YJ l k ⟨nx,ty,nn,key⟩=false):=by unfold Hid;rw [HOk.out,hvx];rfl
    have HVX:=hid hvx;clear hvx
    have KB:=H.Za #[.string nx,.int .i64 ty,.bool nn,.bool key] 158
    go_wp2_with fail
    refine (YV nx _ hx).mono ?_
    rintro e w2 ⟨rfl,b2⟩
    have K2:=Hold.call (KB) b2
    clear b2
    try simp only [World.size_alloc] at K2
    have F2:=K2.facts
    simp only [zg] at F2
    rw [HVX.out]
    go_wp2_with fail
    go_ret
    exact ⟨by rw [HBad.out HC.out]<;>rfl,K2.below⟩
   have HVX:=hid hvx;clear hvx
   by_cases hlo:ty<1
   ·have HC:Hid (YJ l k ⟨nx,ty,nn,key⟩=false):=by unfold Hid;rw [HOk.out,show decide (1≤ty)=false from by simp;omega];simp
    have KB:=H.Za #[.string nx,.int .i64 ty,.bool nn,.bool key] 158
    go_wp2_with fail
    refine (YV nx _ hx).mono ?_
    rintro e w2 ⟨rfl,b2⟩
    have K2:=Hold.call (KB) b2
    clear b2
    try simp only [World.size_alloc] at K2
    have F2:=K2.facts
    simp only [zg] at F2
    rw [HVX.out]
    go_wp2_with fail
    go_ret
    exact ⟨by rw [HBad.out HC.out]<;>rfl,K2.below⟩
   have hlo1:1≤ty:=by omega
   by_cases hhi:3<ty
   ·have HC:Hid (YJ l k ⟨nx,ty,nn,key⟩=false):=by unfold Hid;rw [HOk.out,show decide (ty≤3)=false from by simp;omega];simp
    have KB:=H.Za #[.string nx,.int .i64 ty,.bool nn,.bool key] 158
    go_wp2_with fail
    refine (YV nx _ hx).mono ?_
    rintro e w2 ⟨rfl,b2⟩
    have K2:=Hold.call (KB) b2
    clear b2
    try simp only [World.size_alloc] at K2
    have F2:=K2.facts
    simp only [zg] at F2
    rw [HVX.out]
    go_wp2_with fail
    go_ret
    exact ⟨by rw [HBad.out HC.out]<;>rfl,K2.below⟩
   have hhi3:ty≤3:=by omega
   by_cases hkn:key=false∨nn=true
   rotate_left
   ·obtain ⟨rfl,rfl⟩:key=true∧nn=false:=by cases key<;>cases nn<;>simp at hkn ⊢
    have HC:Hid (YJ l k ⟨nx,ty,false,true⟩=false):=by unfold Hid;rw [HOk.out];simp
    clear hkn
    have KB:=H.Za #[.string nx,.int .i64 ty,.bool false,.bool true] 158
    go_wp2_with fail
    refine (YV nx _ hx).mono ?_
    rintro e w2 ⟨rfl,b2⟩
    have K2:=Hold.call (KB) b2
    clear b2
    try simp only [World.size_alloc] at K2
    have F2:=K2.facts
    simp only [zg] at F2
    rw [HVX.out]
    go_wp2_with fail
    go_ret
    exact ⟨by rw [HBad.out HC.out]<;>rfl,K2.below⟩
   by_cases hfk:f<k
   ·have HC:Hid (YJ l k ⟨nx,ty,nn,key⟩=false):=by unfold Hid;rw [HOk.out,show (f==(k:Int))=false from by rw [beq_eq_false_iff_ne];omega];simp
    have hne:(f !=(k:Int))=true:=by rw [bne_iff_ne];omega
    rcases hkn with rfl|rfl
    ·have KB:=H.Za #[.string nx,.int .i64 ty,.bool nn,.bool false] 158
     go_wp2_with fail
     refine (YV nx _ hx).mono ?_
     rintro e w2 ⟨rfl,b2⟩
     have K2:=Hold.call (KB) b2
     clear b2
     try simp only [World.size_alloc] at K2
     have F2:=K2.facts
     simp only [zg] at F2
     rw [HVX.out]
     go_wp2_with fail
     refine (Xz (Mut M _) _ K2.Zc nm _ n c l nx (K2.ro 2 rfl) hn).mono ?_
     rintro e w3 ⟨rfl,b3⟩
     have K3:=Hold.call K2 b3
     clear b3
     rw [←HFE.out]
     have F3:=K3.facts
     simp only [zg] at F3
     go_wp2_with fail
     go_ret
     exact ⟨by rw [HBad.out HC.out]<;>rfl,K3.below⟩
    ·cases key
     ·have KB:=H.Za #[.string nx,.int .i64 ty,.bool true,.bool false] 158
      go_wp2_with fail
      refine (YV nx _ hx).mono ?_
      rintro e w2 ⟨rfl,b2⟩
      have K2:=Hold.call (KB) b2
      clear b2
      try simp only [World.size_alloc] at K2
      have F2:=K2.facts
      simp only [zg] at F2
      rw [HVX.out]
      go_wp2_with fail
      refine (Xz (Mut M _) _ K2.Zc nm _ n c l nx (K2.ro 2 rfl) hn).mono ?_
      rintro e w3 ⟨rfl,b3⟩
      have K3:=Hold.call K2 b3
      clear b3
      rw [←HFE.out]
      have F3:=K3.facts
      simp only [zg] at F3
      go_wp2_with fail
      go_ret
      exact ⟨by rw [HBad.out HC.out]<;>rfl,K3.below⟩
     ·have KB:=H.Za #[.string nx,.int .i64 ty,.bool true,.bool true] 158
      go_wp2_with fail
      refine (YV nx _ hx).mono ?_
      rintro e w2 ⟨rfl,b2⟩
      have K2:=Hold.call (KB) b2
      clear b2
      try simp only [World.size_alloc] at K2
      have F2:=K2.facts
      simp only [zg] at F2
      rw [HVX.out]
      go_wp2_with fail
      refine (Xz (Mut M _) _ K2.Zc nm _ n c l nx (K2.ro 2 rfl) hn).mono ?_
      rintro e w3 ⟨rfl,b3⟩
      have K3:=Hold.call K2 b3
      clear b3
      rw [←HFE.out]
      have F3:=K3.facts
      simp only [zg] at F3
      go_wp2_with fail
      go_ret
      exact ⟨by rw [HBad.out HC.out]<;>rfl,K3.below⟩
   have hfe:f=k:=by omega
   have hne:(f !=(k:Int))=false:=by rw [bne_eq_false_iff_eq];omega
   have HFK:=hid hfe;clear hfe
   have HC:Hid (YJ l k ⟨nx,ty,nn,key⟩=true):=by unfold Hid;rw [HOk.out,HVX.out,HFK.out,show decide (1≤ty)=true from by simp;omega,show decide (ty≤3)=true from by simp;omega];rcases hkn with rfl|rfl<;>simp
   rcases hkn with rfl|rfl
   ·have HQ0:Hid (((l.take (k+1)).filter Col.key).length=q):=by unfold Hid;rw [HQ.out,HQE.out];rfl
    have KB:=H.Za #[.string nx,.int .i64 ty,.bool nn,.bool false] 158
    go_wp2_with fail
    refine (YV nx _ hx).mono ?_
    rintro e w2 ⟨rfl,b2⟩
    have K2:=Hold.call (KB) b2
    clear b2
    try simp only [World.size_alloc] at K2
    have F2:=K2.facts
    simp only [zg] at F2
    rw [HVX.out]
    go_wp2_with fail
    refine (Xz (Mut M _) _ K2.Zc nm _ n c l nx (K2.ro 2 rfl) hn).mono ?_
    rintro e w3 ⟨rfl,b3⟩
    have K3:=Hold.call K2 b3
    clear b3
    rw [←HFE.out]
    have F3:=K3.facts
    simp only [zg] at F3
    go_wp2_with fail
    go_roundw
    case rel=>exact ⟨k+1,by omega,by go_num,by rw [HQ0.out],HGood.out HC.out,K3.drop (List.sublist_cons_self _ _)⟩
    case measure=>simp [intOf];omega
   ·cases key
    ·have HQ0:Hid (((l.take (k+1)).filter Col.key).length=q):=by unfold Hid;rw [HQ.out,HQE.out];rfl
     have KB:=H.Za #[.string nx,.int .i64 ty,.bool true,.bool false] 158
     go_wp2_with fail
     refine (YV nx _ hx).mono ?_
     rintro e w2 ⟨rfl,b2⟩
     have K2:=Hold.call (KB) b2
     clear b2
     try simp only [World.size_alloc] at K2
     have F2:=K2.facts
     simp only [zg] at F2
     rw [HVX.out]
     go_wp2_with fail
     refine (Xz (Mut M _) _ K2.Zc nm _ n c l nx (K2.ro 2 rfl) hn).mono ?_
     rintro e w3 ⟨rfl,b3⟩
     have K3:=Hold.call K2 b3
     clear b3
     rw [←HFE.out]
     have F3:=K3.facts
     simp only [zg] at F3
     go_wp2_with fail
     go_roundw
     case rel=>exact ⟨k+1,by omega,by go_num,by rw [HQ0.out],HGood.out HC.out,K3.drop (List.sublist_cons_self _ _)⟩
     case measure=>simp [intOf];omega
    ·have HQ0:Hid (((l.take (k+1)).filter Col.key).length=q+1):=by unfold Hid;rw [HQ.out,HQE.out];rfl
     have KB:=H.Za #[.string nx,.int .i64 ty,.bool true,.bool true] 158
     go_wp2_with fail
     refine (YV nx _ hx).mono ?_
     rintro e w2 ⟨rfl,b2⟩
     have K2:=Hold.call (KB) b2
     clear b2
     try simp only [World.size_alloc] at K2
     have F2:=K2.facts
     simp only [zg] at F2
     rw [HVX.out]
     go_wp2_with fail
     refine (Xz (Mut M _) _ K2.Zc nm _ n c l nx (K2.ro 2 rfl) hn).mono ?_
     rintro e w3 ⟨rfl,b3⟩
     have K3:=Hold.call K2 b3
     clear b3
     rw [←HFE.out]
     have F3:=K3.facts
     simp only [zg] at F3
     go_wp2_with fail
     go_roundw
     case rel=>exact ⟨k+1,by omega,by go_num,by rw [HQ0.out];go_num,HGood.out HC.out,K3.drop (List.sublist_cons_self _ _)⟩
     case measure=>simp [intOf];omega
  ·obtain rfl:k=n:=by omega
   have HN:=hid (Zei HV.out HL.out n1 n6 (ZgG HF.out (by rw [HL.out];omega)))
   have HK:=hid (ZbG HL.out)
   have hql:=QV l k
   obtain ⟨q,hqe⟩:∃ q,q=((l.take k).filter Col.key).length:=⟨_,rfl⟩
   rw [←hqe] at hql HK
   rw [←hqe]
   clear hqe
   go_wp2_with fail
   go_ret
   exact ⟨by rw [HN.out,←HK.out]<;>rfl,H.below⟩
def VJ (nm:ByteArray) (cs:List Col) (nx:Int) (rs:List Row):Bool:=Yi nm cs&&decide (rs.length≤100)&&decide (1≤nx)&&decide (nx≤2147483648)&&okR cs nx 0 rs&&!WP cs rs
theorem Zgb {nm:ByteArray} {cs:List Col} {nx:Int} {rs:List Row} (h1:Yi nm cs=true) (h2:rs.length≤100) (h3:1≤nx) (h4:nx≤2147483648) (h5:okR cs nx 0 rs=true):VJ nm cs nx rs=!WP cs rs:=by simp [VJ,h1,h2,h3,h4,h5]
theorem Zef {nm:ByteArray} {l:List Col} (h:Yi nm l=true):l.length≤6:=by
 unfold Yi at h
 simp only [Bool.and_eq_true,decide_eq_true_eq] at h
 exact h.1.1.2
def Vr (w:World) (M:Nat→Prop) (nm:ByteArray) (cs:List Col) (e:Ending) (w' :World):Prop:=
 if Yi nm cs then ∃ (A:Option Addr) (n c:Nat),e=.returned (.tuple #[.agg #[.string nm,.slice A n c,.int .i64 1,.slice none 0 0],.int .i64 0])∧n=cs.length∧n≤c∧c≤9223372036854775807∧Ro w' M (ColsIn A n cs)∧Below w.heap.size w w'
 else e=.returned (.tuple #[.agg #[.string ⟨#[]⟩,.slice none 0 0,.int .i64 0,.slice none 0 0],.int .i64 17])∧Below w.heap.size w w'
set_option maxHeartbeats 1000000 in
set_option maxRecDepth 100000 in
theorem Qk (M:Nat→Prop) (w:World) (hM:∀ b,M b→b<w.heap.size) (nm:ByteArray) (A:Option Addr) (n c:Nat) (cs:List Col) (hD:Ro w M (ColsIn A n cs)) (hn:n≤9223372036854775807) (hs:nm.size≤maxLen) (hcs:∀ x∈cs,x.name.size≤maxLen):
  Calls Tryz.prog 105 #[.agg #[.string nm,.slice A n c]] w fun e w' =>Vr w M nm cs e w' :=by
 have HL:=hid (show cs.length=n from (RdC.Zw hD.now).len)
 have K0:=(((Hold.start M w hM).add (hD.less (by simp [Mut]))).alloc #[.string nm,.slice A n c] 49).alloc #[.string ⟨#[]⟩,.slice none 0 0,.int .i64 0,.slice none 0 0] 67
 rw [World.size_alloc] at K0
 have F0:=K0.facts
 simp only [zg] at F0
 clear hD
 go_enter Tryz.func105,Tryz.ntmps105
 go_wp2_with fail
 refine (ZcF _ _ K0.Zc nm A n c cs (K0.ro 2 rfl) hn hs hcs).mono ?_
 rintro e w1 ⟨rfl,b1⟩
 have K1:=K0.call b1
 clear K0 b1 F0
 have F1:=K1.facts
 simp only [zg] at F1
 cases hsb:Yi nm cs
 ·have HSB:=hid hsb;clear hsb
  have KN:=(((K1.store 0 rfl 0 (.string ⟨#[]⟩)).store 0 rfl 1 (.slice none 0 0)).store 0 rfl 2 (.int .i64 0)).store 0 rfl 3 (.slice none 0 0)
  go_wp2_with fail
  exact bodyPost_ret (v:=.tuple #[.agg #[.string ⟨#[]⟩,.slice none 0 0,.int .i64 0,.slice none 0 0],.int .i64 17]) (by simp [results,Tryz.results105,go_sem,F1]) rfl (by
   unfold Vr;rw [HSB.out];exact ⟨rfl,KN.below⟩)
 have hn6:n≤6:=by have:=Zef hsb;have:=HL.out;omega
 have HSB:=hid hsb;clear hsb
 have h1:=hid (WV cs)
 have hr:=hid (show ColsIn A n cs _ from (K1.ro 2 rfl).now)
 have KN:=K1.nil 158 4
 go_wp2_with (at_builtin;go_must (refine Yy KN 0 rfl Tryz.WH hr.out rfl (.const (.slice none 0 0)) (.tmp 9) rfl rfl rfl h1.out (by omega) (by omega) ?_);intro A2 c2 w2 hc2 hc22 KN2;simp only [Nat.zero_add,List.nil_append,List.set_cons_zero] at KN2 hc2;have K2:=KN2.ZC 0 rfl;simp only [List.set_cons_zero] at K2;clear K1 F1 KN2 KN;have F2:=K2.facts;simp only [zg] at F2;have N2:=K2.nes;simp only [World.size_alloc,Wj,neF,List.set_cons_zero,List.set_cons_succ,and_true,true_and] at N2)
 have KN:=((((K2.store 2 rfl 1 (.slice A2 n c2)).store 1 rfl 0 (.string nm)).store 1 rfl 1 (.slice A2 n c2)).store 1 rfl 2 (.int .i64 1)).store 1 rfl 3 (.slice none 0 0)
 exact bodyPost_ret (v:=.tuple #[.agg #[.string nm,.slice A2 n c2,.int .i64 1,.slice none 0 0],.int .i64 0]) (by simp [results,Tryz.results105,go_sem,F2,N2]) rfl (by
  unfold Vr;rw [HSB.out];exact ⟨A2,n,c2,rfl,HL.out.symm,hc2,hc22,KN.YM 0 rfl,KN.below⟩)
def Zai:ByteArray:=⟨#[105,100]⟩
def nmN:ByteArray:=⟨#[110]⟩
def nmS:ByteArray:=⟨#[115]⟩
def nmB:ByteArray:=⟨#[98]⟩
def nmM:ByteArray:=⟨#[109]⟩
def nmT:ByteArray:=⟨#[116]⟩
def nmU:ByteArray:=⟨#[117]⟩
def XX:ByteArray:=⟨#[108,111,103]⟩
def Ym:List Col:=[⟨nmN,1,false,false⟩,⟨nmS,3,false,false⟩]
def Yl:List Col:=[⟨Zai,1,true,true⟩,⟨nmN,1,false,false⟩,⟨nmB,2,false,false⟩,⟨nmS,3,false,false⟩]
def Yb:List Col:=[⟨Zai,1,true,true⟩,⟨nmN,1,true,false⟩,⟨nmM,1,false,false⟩]
def ZP (s:ByteArray):ByteArray × List Col:=
 if XX.toList==s.toList then (XX,Ym) else if nmT.toList==s.toList then (nmT,Yl) else if nmU.toList==s.toList then (nmU,Yb) else (⟨#[]⟩,[])
def ZfN (w:World) (M:Nat→Prop) (e:Ending) (w' :World):Prop:=
 ∃ (g g0 g1 g2:Nat) (nl nt nu:ByteArray),nl=XX∧nt=nmT∧nu=nmU∧e=.returned (.slice (some ⟨g,0,none⟩) 3 3)∧Below w.heap.size w w' ∧
  Ro w' M (fun w=>w.heap[g]? =some (.cells #[.string nl,.slice (some ⟨g0,0,none⟩) 2 2,.string nt,.slice (some ⟨g1,0,none⟩) 4 4,.string nu,.slice (some ⟨g2,0,none⟩) 3 3] 49 (0,0)))∧
  Ro w' M (SlR 4 (some ⟨g0,0,none⟩) 2 (Zd Ym))∧Ro w' M (SlR 4 (some ⟨g1,0,none⟩) 4 (Zd Yl))∧Ro w' M (SlR 4 (some ⟨g2,0,none⟩) 3 (Zd Yb))
set_option maxHeartbeats 2000000 in
theorem U4 (M:Nat→Prop) (w:World) (hM:∀ b,M b→b<w.heap.size):Calls Tryz.prog 56 #[] w fun e w' =>ZfN w M e w' :=by
 have K0:=((((Hold.start M w hM).Za (Zd Ym).toArray 158).Za (Zd Yl).toArray 158).Za (Zd Yb).toArray 158).Za
  #[.string XX,.slice (some ⟨w.heap.size,0,none⟩) 2 2,.string nmT,.slice (some ⟨w.heap.size+1,0,none⟩) 4 4,.string nmU,.slice (some ⟨w.heap.size+1+1,0,none⟩) 3 3] 49
 simp only [World.size_alloc] at K0
 go_enter Tryz.func56,Tryz.ntmps56
 go_wp2
 go_ret
 refine ⟨w.heap.size+1+1+1,w.heap.size,w.heap.size+1,w.heap.size+1+1,XX,nmT,nmU,rfl,rfl,rfl,rfl,K0.below,?_,?_,?_,?_⟩
 ·exact Ro.less (K0.get 0 rfl) fun b hb=>.inl hb
 ·exact (ZJ (K0.get 3 rfl) (by rfl)).less fun b hb=>.inl hb
 ·exact (ZJ (K0.get 2 rfl) (by rfl)).less fun b hb=>.inl hb
 ·exact (ZJ (K0.get 1 rfl) (by rfl)).less fun b hb=>.inl hb
end Go.Proofs.YtnbbllkbefagmaaGreatDoor

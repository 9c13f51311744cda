import Derived.Test.YtnbbllkbefagmaaGreatDoorRkCtsSaidMX
import Derived.Test.YtnbbllkbefagmaaGreatDoorRkCtsSaidMJ
import Derived.Test.YtnbbllkbefagmaaGreatDoorRkCtsSaidME
import Derived.Test.YtnbbllkbefagmaaGreatDoorRkCtsSaidMF
import Derived.Deep.DeepCutAuto
import Derived.IntWalk
import Derived.Test.YtnbbllkbefagmaaGreatDoorRkCtsSaidMD
import Derived.StillTailTactics
namespace Go.Proofs.YtnbbllkbefagmaaGreatDoor
open Go.RowKit
set_option linter.unusedVariables false
set_option linter.unusedSimpArgs false
set_option maxHeartbeats 4000000 in
theorem Vk (w:World) (e:Ex) (a:Ac) (c:ByteArray):Calls Tryz.prog 197 #[e.val,a.val,.string c] w fun r w' =>r=.returned (.bool (Yz e a.tab c))∧Below w.heap.size w w' :=by
 have K0:=((Hold.YD w).Za #[.int .i64 e.kind,.int .i64 e.op,.bool e.nt,.int .i64 e.v.k,.int .i64 e.v.i,.string e.v.s,.string e.tab,.string e.nm,.slice e.A e.n e.c,.slice e.B e.m e.d] 126).Za #[.int .i64 a.kind,.string a.tab,.slice a.rows.A a.rows.n a.rows.c,.slice a.qs.A a.qs.n a.qs.c,.slice a.sets.A a.sets.n a.sets.c,.slice a.wh.A a.wh.n a.wh.c,.string a.text] 97
 have F:=K0.facts
 simp only [zg] at F
 have HB:=hid K0.below
 rw [show e.val=.agg #[.int .i64 e.kind,.int .i64 e.op,.bool e.nt,.int .i64 e.v.k,.int .i64 e.v.i,.string e.v.s,.string e.tab,.string e.nm,.slice e.A e.n e.c,.slice e.B e.m e.d] from rfl,show a.val=.agg #[.int .i64 a.kind,.string a.tab,.slice a.rows.A a.rows.n a.rows.c,.slice a.qs.A a.qs.n a.qs.c,.slice a.sets.A a.sets.n a.sets.c,.slice a.wh.A a.wh.n a.wh.c,.string a.text] from rfl]
 go_enter Tryz.func197,Tryz.ntmps197
 go_wp2_with fail
 all_goals
  go_ret
  exact ⟨by simp_all [Yz],(((Hold.YD w).Za _ _).Za _ _).below⟩
def Yp (e:Ex):Int × Bool:=if (ZL e).2=true then ((ZL e).1,true) else (0,false)
theorem Zdb {e:Ex} (h:e.kind=1):Yp e=if e.v.k=1 then (e.v.i,true) else (0,false):=by
 unfold Yp ZL
 split<;>simp [h]
theorem Zgg {e a:Ex} (h:e.kind=4) (ha:e.args=[a]) (hk:a.kind=1):Yp e=if a.v.k=1 then (IntKind.i64.wrap (-a.v.i),true) else (0,false):=by
 unfold Yp ZL
 simp [h,ha,hk]
theorem QJ {e:Ex} (h:e.kind≠1) (h2:e.kind=4→∀ a,e.args=[a]→a.kind≠1):Yp e=(0,false):=by
 unfold Yp ZL
 split
 ·rename_i a ha
  by_cases h4:e.kind=4
  ·simp [h4,h2 h4 a ha]
  ·simp [h4,h]
 ·simp [h]
set_option maxRecDepth 100000 in
set_option maxHeartbeats 4000000 in
theorem Zab (M:Nat→Prop) (w:World) (hM:∀ b,M b→b<w.heap.size) (e:Ex) (d:Nat) (he:Ro w M (ExIn (d+1) e)):Calls Tryz.prog 199 #[e.val] w fun r w' =>r=.returned (.tuple #[.int .i64 (Yp e).1,.bool (Yp e).2])∧Below w.heap.size w w' :=by
 obtain ⟨k,op,nt,⟨vk,vi,vs⟩,tab,nm,A,n,c,args,B,m,d2,sub⟩:=e
 simp only [Ex.val]
 have K0:=((Hold.start M w hM).add (he.less (by simp [Mut]))).Za #[.int .i64 k,.int .i64 op,.bool nt,.int .i64 vk,.int .i64 vi,.string vs,.string tab,.string nm,.slice A n c,.slice B m d2] 126
 have hx:=ExIn.succ.1 (K0.ro 1 rfl).now
 have hlen:args.length=n:=hx.1.len
 have F:=K0.facts
 simp only [zg] at F
 have HB:=hid K0.below
 by_cases h1:k=1
 ·subst h1
  have HZ:=hid (Zdb (e:=⟨1,op,nt,⟨vk,vi,vs⟩,tab,nm,A,n,c,args,B,m,d2,sub⟩) rfl)
  dsimp only at HZ
  clear hx hlen K0
  by_cases hv:vk=1
  ·have b1:(vk==1)=true:=by simp [hv]
   have HZ:=hid (HZ.out.trans (if_pos hv))
   clear hv
   go_enter Tryz.func199,Tryz.ntmps199
   go_wp2_with fail
   refine bodyPost_ret (results_tmp2 rfl _ _ _) rfl ?_
   exact ⟨by rw [HZ.out]<;>rfl,HB.out⟩
  ·have b1:(vk==1)=false:=by simp [hv]
   have HZ:=hid (HZ.out.trans (if_neg hv))
   clear hv
   go_enter Tryz.func199,Tryz.ntmps199
   go_wp2_with fail
   refine bodyPost_ret (results_tmp2 rfl _ _ _) rfl ?_
   exact ⟨by rw [HZ.out]<;>rfl,HB.out⟩
 ·have a1:(k==1)=false:=by simp [h1]
  by_cases h4:k=4
  ·subst h4
   by_cases hn:n=1
   ·subst hn
    obtain ⟨a,rfl⟩:∃ a,args=[a]:=List.length_eq_one_iff.1 hlen
    obtain ⟨ak,aop,ant,⟨avk,avi,avs⟩,atab,anm,aA,an,ac,aargs,aB,am,ad,asub⟩:=a
    obtain ⟨b2,o2,rfl,hb2,hc,hal⟩:=hx.1.at_ (k:=0) (x:=⟨ak,aop,ant,⟨avk,avi,avs⟩,atab,anm,aA,an,ac,aargs,aB,am,ad,asub⟩) rfl
    have y0:=hc 0 _ (by omega) rfl
    have y3:=hc 3 _ (by omega) rfl
    have y4:=hc 4 _ (by omega) rfl
    simp only [Nat.zero_mul,Nat.add_zero] at y0 y3 y4
    clear hc hx hal K0
    by_cases ha:ak=1
    ·subst ha
     have HZ:=hid (Zgg (e:=⟨4,op,nt,⟨vk,vi,vs⟩,tab,nm,some ⟨b2,o2,none⟩,1,c,[⟨1,aop,ant,⟨avk,avi,avs⟩,atab,anm,aA,an,ac,aargs,aB,am,ad,asub⟩],B,m,d2,sub⟩) rfl rfl rfl)
     dsimp only at HZ
     by_cases hv:avk=1
     ·have b1:(avk==1)=true:=by simp [hv]
      have HZ:=hid (HZ.out.trans (if_pos hv))
      clear hv
      go_enter Tryz.func199,Tryz.ntmps199
      go_wp2_with fail
      refine bodyPost_ret (results_tmp2 rfl _ _ _) rfl ?_
      exact ⟨by rw [HZ.out]<;>first|rfl|(simp;(first|(simp [wrap64,IntKind.wrap_i64];done)|(rw [IntKind.wrap_i64];rfl)|(rw [IntKind.wrap_i64];unfold wrap64;omega))),HB.out⟩
     ·have b1:(avk==1)=false:=by simp [hv]
      have HZ:=hid (HZ.out.trans (if_neg hv))
      clear hv
      go_enter Tryz.func199,Tryz.ntmps199
      go_wp2_with fail
      refine bodyPost_ret (results_tmp2 rfl _ _ _) rfl ?_
      exact ⟨by rw [HZ.out]<;>rfl,HB.out⟩
    ·have b1:(ak==1)=false:=by simp [ha]
     have HZ:=hid (QJ (e:=⟨4,op,nt,⟨vk,vi,vs⟩,tab,nm,some ⟨b2,o2,none⟩,1,c,[⟨ak,aop,ant,⟨avk,avi,avs⟩,atab,anm,aA,an,ac,aargs,aB,am,ad,asub⟩],B,m,d2,sub⟩) (show (4:Int)≠1 by decide) (fun _ a he=>by
      injection he with he
      subst he
      exact ha))
     clear ha
     go_enter Tryz.func199,Tryz.ntmps199
     go_wp2_with fail
     refine bodyPost_ret (results_tmp2 rfl _ _ _) rfl ?_
     exact ⟨by rw [HZ.out]<;>rfl,HB.out⟩
   ·have b1:((n:Int)==1)=false:=by simp;omega
    have HZ:=hid (QJ (e:=⟨4,op,nt,⟨vk,vi,vs⟩,tab,nm,A,n,c,args,B,m,d2,sub⟩) (show (4:Int)≠1 by decide) (fun _ a he=>absurd (by rw [←hlen,show args=[a] from he];rfl) hn))
    clear hn hx hlen K0
    go_enter Tryz.func199,Tryz.ntmps199
    go_wp2_with fail
    refine bodyPost_ret (results_tmp2 rfl _ _ _) rfl ?_
    exact ⟨by rw [HZ.out]<;>rfl,HB.out⟩
  ·have b1:(k==4)=false:=by simp [h4]
   have HZ:=hid (QJ (e:=⟨k,op,nt,⟨vk,vi,vs⟩,tab,nm,A,n,c,args,B,m,d2,sub⟩) h1 (fun h=>absurd h h4))
   clear h1 h4 hx hlen K0
   go_enter Tryz.func199,Tryz.ntmps199
   go_wp2_with fail
   refine bodyPost_ret (results_tmp2 rfl _ _ _) rfl ?_
   exact ⟨by rw [HZ.out]<;>rfl,HB.out⟩
set_option maxRecDepth 100000 in
set_option maxHeartbeats 2000000 in
theorem ZbY (M:Nat→Prop) (w:World) (hM:∀ b,M b→b<w.heap.size) (d:Nat) (x:Ex) (hl:Ro w M (ExIn d x)):Calls Tryz.prog 198 #[x.val] w fun r w' =>r=.returned (Z9 d x).val∧Below w.heap.size w w' :=by
 have K0:=(((Hold.start M w hM).add (hl.less (by simp [Mut]))).alloc #[.int .i64 x.kind,.int .i64 x.op,.bool x.nt,.int .i64 x.v.k,.int .i64 x.v.i,.string x.v.s,.string x.tab,.string x.nm,.slice x.A x.n x.c,.slice x.B x.m x.d] 126).alloc #[.int .i64 0,.int .i64 0,.bool false,.int .i64 0,.int .i64 0,.string ⟨#[]⟩,.string ⟨#[]⟩,.string ⟨#[]⟩,.slice none 0 0,.slice none 0 0] 126
 rw [World.size_alloc] at K0
 have K1:=K0.pick (L' :=[.blk w.heap.size 126 #[.int .i64 x.kind,.int .i64 x.op,.bool x.nt,.int .i64 x.v.k,.int .i64 x.v.i,.string x.v.s,.string x.tab,.string x.nm,.slice x.A x.n x.c,.slice x.B x.m x.d],.ro (ExIn d x),.blk (w.heap.size+1) 126 #[.int .i64 0,.int .i64 0,.bool false,.int .i64 0,.int .i64 0,.string ⟨#[]⟩,.string ⟨#[]⟩,.string ⟨#[]⟩,.slice none 0 0,.slice none 0 0]]) [1,2,0] (by decide) rfl
 clear K0
 rw [show x.val=.agg #[.int .i64 x.kind,.int .i64 x.op,.bool x.nt,.int .i64 x.v.k,.int .i64 x.v.i,.string x.v.s,.string x.tab,.string x.nm,.slice x.A x.n x.c,.slice x.B x.m x.d] from rfl]
 go_enter Tryz.func198,Tryz.ntmps198
 go_wp2_with fail
 go_loopg [] d (fun gh wr=>∃ e:Ex,Hid (Z9 d x=Z9 gh e)∧Hold M none w wr [.blk w.heap.size 126 #[.int .i64 e.kind,.int .i64 e.op,.bool e.nt,.int .i64 e.v.k,.int .i64 e.v.i,.string e.v.s,.string e.tab,.string e.nm,.slice e.A e.n e.c,.slice e.B e.m e.d],.ro (ExIn gh e),.blk (w.heap.size+1) 126 #[.int .i64 0,.int .i64 0,.bool false,.int .i64 0,.int .i64 0,.string ⟨#[]⟩,.string ⟨#[]⟩,.string ⟨#[]⟩,.slice none 0 0,.slice none 0 0]])
 case atStart=>exact ⟨x,hid rfl,K1⟩
 case round=>
  clear K1
  obtain ⟨⟨k,op,nt,v,tab,nm,A,n2,c2,args,B,m,d2,sub⟩,HE,H⟩:=hrel
  obtain _|gh:=gk
  ·exact ((H.ro 1 rfl).now).elim
  have hx:=ExIn.succ.1 (H.ro 1 rfl).now
  have hlen:=hx.1.len
  simp only at hlen H
  have F:=H.facts
  simp only [zg] at F
  by_cases hk:k=5∧op=2∧args≠[]
  ·obtain ⟨rfl,rfl,h3⟩:=hk
   obtain ⟨a,t,rfl⟩:=List.exists_cons_of_ne_nil h3
   obtain ⟨b2,o2,rfl,hb2,hc,ha⟩:=hx.1.at_ (k:=0) (x:=a) rfl
   have y0:=hc 0 _ (by omega) rfl
   have y1:=hc 1 _ (by omega) rfl
   have y2:=hc 2 _ (by omega) rfl
   have y3:=hc 3 _ (by omega) rfl
   have y4:=hc 4 _ (by omega) rfl
   have y5:=hc 5 _ (by omega) rfl
   have y6:=hc 6 _ (by omega) rfl
   have y7:=hc 7 _ (by omega) rfl
   have y8:=hc 8 _ (by omega) rfl
   have y9:=hc 9 _ (by omega) rfl
   simp only [Nat.zero_mul,Nat.add_zero] at y0 y1 y2 y3 y4 y5 y6 y7 y8 y9
   have hn2:decide ((n2:Int) > 0)=true:=by simp at hlen;simp;omega
   have h0:0<n2:=by simp at hlen;omega
   clear hc hx ha
   have KA:=H.add (S:=ExIn gh a) ((H.ro 1 rfl).imp fun w2 h2=>(ExIn.succ.1 h2).1.2 a (List.mem_cons_self ..))
   have KB:=KA.perm (L' :=[.blk w.heap.size 126 #[.int .i64 5,.int .i64 2,.bool nt,.int .i64 v.k,.int .i64 v.i,.string v.s,.string tab,.string nm,.slice (some ⟨b2,o2,none⟩) n2 c2,.slice B m d2],.ro (ExIn gh a),.blk (w.heap.size+1) 126 #[.int .i64 0,.int .i64 0,.bool false,.int .i64 0,.int .i64 0,.string ⟨#[]⟩,.string ⟨#[]⟩,.string ⟨#[]⟩,.slice none 0 0,.slice none 0 0],.ro (ExIn (gh+1) ⟨5,2,nt,v,tab,nm,some ⟨b2,o2,none⟩,n2,c2,a::t,B,m,d2,sub⟩)]) ((List.Perm.swap _ _ _).trans (((List.Perm.swap _ _ _).cons _).cons _))
   have K2:=(((((((((KB.store 0 rfl 0 (.int .i64 a.kind)).store 0 rfl 1 (.int .i64 a.op)).store 0 rfl 2 (.bool a.nt)).store 0 rfl 3 (.int .i64 a.v.k)).store 0 rfl 4 (.int .i64 a.v.i)).store 0 rfl 5 (.string a.v.s)).store 0 rfl 6 (.string a.tab)).store 0 rfl 7 (.string a.nm)).store 0 rfl 8 (.slice a.A a.n a.c)).store 0 rfl 9 (.slice a.B a.m a.d)
   simp only [zl] at K2
   have K3:=K2.drop (List.Sublist.cons_cons _ (.cons_cons _ (.cons_cons _ (List.nil_sublist _))))
   clear KA KB K2
   go_wp2_with fail
   go_roundg gh
   case rel=>exact ⟨a,hid (HE.out.trans (ZaA rfl rfl rfl)),K3⟩
   case measure=>omega
  ·have HF:=hid (Zaz (d:=gh+1) (e:=⟨k,op,nt,v,tab,nm,A,n2,c2,args,B,m,d2,sub⟩) hk)
   have HC:k≠5∨(k=5∧op≠2)∨(k=5∧op=2∧n2=0):=by
    by_cases h5:k=5
    ·by_cases h2:op=2
     ·refine .inr (.inr ⟨h5,h2,?_⟩)
      have:args=[]:=Classical.byContradiction fun h=>hk ⟨h5,h2,h⟩
      rw [this] at hlen
      exact hlen.symm
     ·exact .inr (.inl ⟨h5,h2⟩)
    ·exact .inl h5
   clear hx hlen hk
   rcases HC with h|⟨rfl,h⟩|⟨rfl,rfl,rfl⟩
   ·have hq:(k==5)=false:=by simpa using h
    have K2:=(((((((((H.store 2 rfl 0 (.int .i64 k)).store 2 rfl 1 (.int .i64 op)).store 2 rfl 2 (.bool nt)).store 2 rfl 3 (.int .i64 v.k)).store 2 rfl 4 (.int .i64 v.i)).store 2 rfl 5 (.string v.s)).store 2 rfl 6 (.string tab)).store 2 rfl 7 (.string nm)).store 2 rfl 8 (.slice A n2 c2)).store 2 rfl 9 (.slice B m d2)
    simp only [zl] at K2
    have F2:=K2.facts
    simp only [zg] at F2
    have HB:=hid K2.below
    clear K2 H
    go_wp2_with fail
    refine bodyPost_ret (v:=.agg #[.int .i64 k,.int .i64 op,.bool nt,.int .i64 v.k,.int .i64 v.i,.string v.s,.string tab,.string nm,.slice A n2 c2,.slice B m d2]) ?_ rfl ⟨by rw [HE.out,HF.out];rfl,HB.out⟩
    simp [results,Tryz.results198,go_sem,F2]
   ·have hq:(op==2)=false:=by simpa using h
    have K2:=(((((((((H.store 2 rfl 0 (.int .i64 5)).store 2 rfl 1 (.int .i64 op)).store 2 rfl 2 (.bool nt)).store 2 rfl 3 (.int .i64 v.k)).store 2 rfl 4 (.int .i64 v.i)).store 2 rfl 5 (.string v.s)).store 2 rfl 6 (.string tab)).store 2 rfl 7 (.string nm)).store 2 rfl 8 (.slice A n2 c2)).store 2 rfl 9 (.slice B m d2)
    simp only [zl] at K2
    have F2:=K2.facts
    simp only [zg] at F2
    have HB:=hid K2.below
    clear K2 H
    go_wp2_with fail
    refine bodyPost_ret (v:=.agg #[.int .i64 5,.int .i64 op,.bool nt,.int .i64 v.k,.int .i64 v.i,.string v.s,.string tab,.string nm,.slice A n2 c2,.slice B m d2]) ?_ rfl ⟨by rw [HE.out,HF.out];rfl,HB.out⟩
    simp [results,Tryz.results198,go_sem,F2]
   ·skip
    have K2:=(((((((((H.store 2 rfl 0 (.int .i64 5)).store 2 rfl 1 (.int .i64 2)).store 2 rfl 2 (.bool nt)).store 2 rfl 3 (.int .i64 v.k)).store 2 rfl 4 (.int .i64 v.i)).store 2 rfl 5 (.string v.s)).store 2 rfl 6 (.string tab)).store 2 rfl 7 (.string nm)).store 2 rfl 8 (.slice A 0 c2)).store 2 rfl 9 (.slice B m d2)
    simp only [zl] at K2
    have F2:=K2.facts
    simp only [zg] at F2
    have HB:=hid K2.below
    clear K2 H
    go_wp2_with fail
    refine bodyPost_ret (v:=.agg #[.int .i64 5,.int .i64 2,.bool nt,.int .i64 v.k,.int .i64 v.i,.string v.s,.string tab,.string nm,.slice A 0 c2,.slice B m d2]) ?_ rfl ⟨by rw [HE.out,HF.out];rfl,HB.out⟩
    simp [results,Tryz.results198,go_sem,F2]
def Se.val (s:Se):Value:=.agg #[.string s.col,.int .i64 s.e.kind,.int .i64 s.e.op,.bool s.e.nt,.int .i64 s.e.v.k,.int .i64 s.e.v.i,.string s.e.v.s,.string s.e.tab,.string s.e.nm,.slice s.e.A s.e.n s.e.c,.slice s.e.B s.e.m s.e.d]
def Y7 (s:Se) (tab:ByteArray):Int × Bool:=match XJ s tab with|some m=>(m,true)|none=>(0,false)
theorem GV (a b:ByteArray):(a.toList==b.toList)=decide (a=b):=by
 by_cases h:a=b
 ·subst h;simp
 ·have:a.toList≠b.toList:=fun e=>h (Yr e)
  simp [h,this]
set_option maxRecDepth 100000 in
set_option maxHeartbeats 2000000 in
theorem Zcv (w:World) (s:Se) (t:ByteArray) (h:¬(s.e.kind=5∧(s.e.op=9∨s.e.op=10)∧s.e.n=2)):Calls Tryz.prog 188 #[s.val,.string t] w fun r w' =>r=.returned (.tuple #[.int .i64 0,.bool false])∧Below w.heap.size w w' :=by
 obtain ⟨col,k,op,nt,⟨vk,vi,vs⟩,tab,nm,A,n,c,args,B,m,d2,sub⟩:=s
 simp only [Se.val] at h ⊢
 have K0:=((Hold.YD w).Za #[.string col,.int .i64 k,.int .i64 op,.bool nt,.int .i64 vk,.int .i64 vi,.string vs,.string tab,.string nm,.slice A n c,.slice B m d2] 128).Za #[.int .i64 k,.int .i64 op,.bool nt,.int .i64 vk,.int .i64 vi,.string vs,.string tab,.string nm,.slice A n c,.slice B m d2] 126
 simp only [World.size_alloc] at K0
 have F:=K0.facts
 simp only [zg] at F
 have HB:=hid K0.below
 clear K0
 have HC:¬k=5∨(k=5∧¬op=9∧¬op=10)∨(k=5∧op=9∧¬(n:Int)=2)∨(k=5∧op=10∧¬(n:Int)=2):=by omega
 clear h
 rcases HC with q1|⟨rfl,q2,q3⟩|⟨rfl,rfl,q4⟩|⟨rfl,rfl,q4⟩
 all_goals
  go_enter Tryz.func188,Tryz.ntmps188
  go_wp2_with fail
  all_goals first
   | (exfalso;omega)
   | (refine bodyPost_ret (results_tmp2 rfl _ _ _) rfl ?_;exact ⟨rfl,HB.out⟩)
set_option maxRecDepth 100000 in
set_option maxHeartbeats 2000000 in
theorem Zcd (M:Nat→Prop) (w:World) (hM:∀ b,M b→b<w.heap.size) (s:Se) (t:ByteArray) (x y:Ex) (d:Nat) (he:Ro w M (ExIn (d+1) s.e)) (h:s.e.kind=5) (ho:s.e.op=9∨s.e.op=10) (ha:s.e.args=[x,y]):Calls Tryz.prog 188 #[s.val,.string t] w fun r w' =>r=.returned (.tuple #[.int .i64 (Y7 s t).1,.bool (Y7 s t).2])∧Below w.heap.size w w' :=by
 have HS:=hid (show Y7 s t=if x.kind=2∧x.nm.toList=s.col.toList∧(x.tab.toList=[]∨x.tab.toList=t.toList)∧y.kind=1∧(y.v.k !=1)=false then ((if s.e.op=9 then 3 else 4),true) else (0,false) by
  have e1:x.nm.toList=s.col.toList↔x.nm=s.col:=⟨Yr,fun h=>by rw [h]⟩
  have e2:x.tab.toList=[]↔x.tab=⟨#[]⟩:=⟨fun h=>Yr (by rw [h,ByteArray.toList_eq]),fun h=>by rw [h,ByteArray.toList_eq]⟩
  have e3:x.tab.toList=t.toList↔x.tab=t:=⟨Yr,fun h=>by rw [h]⟩
  have e4:(y.v.k !=1)=false↔y.v.k=1:=by simp
  simp only [Y7,XJ,ha,h,true_and,ho,e1,e2,e3,e4]
  split<;>rename_i q<;>split at q<;>simp_all)
 generalize Y7 s t=R at *
 obtain ⟨col,k,op,nt,⟨vk,vi,vs⟩,tab,nm,A,n,c,args,B,m,d2,sub⟩:=s
 obtain ⟨xk,xop,xnt,⟨xvk,xvi,xvs⟩,xtab,xnm,xA,xn,xc,xargs,xB,xm,xd,xsub⟩:=x
 obtain ⟨yk,yop,ynt,⟨yvk,yvi,yvs⟩,ytab,ynm,yA,yn,yc,yargs,yB,ym,yd,ysub⟩:=y
 simp only [Se.val] at h ho ha HS ⊢
 subst h
 subst ha
 have K0:=(((Hold.start M w hM).add (he.less (by simp [Mut]))).Za #[.string col,.int .i64 5,.int .i64 op,.bool nt,.int .i64 vk,.int .i64 vi,.string vs,.string tab,.string nm,.slice A n c,.slice B m d2] 128).Za #[.int .i64 5,.int .i64 op,.bool nt,.int .i64 vk,.int .i64 vi,.string vs,.string tab,.string nm,.slice A n c,.slice B m d2] 126
 simp only [World.size_alloc] at K0
 have hx:=ExIn.succ.1 (K0.ro 2 rfl).now
 have hlen:2=n:=hx.1.len
 subst hlen
 obtain ⟨b2,o2,rfl,hb2,hc,-⟩:=hx.1.at_ (k:=0) (x:=⟨xk,xop,xnt,⟨xvk,xvi,xvs⟩,xtab,xnm,xA,xn,xc,xargs,xB,xm,xd,xsub⟩) rfl
 obtain ⟨b3,o3,e3,hb3,hc3,-⟩:=hx.1.at_ (k:=1) (x:=⟨yk,yop,ynt,⟨yvk,yvi,yvs⟩,ytab,ynm,yA,yn,yc,yargs,yB,ym,yd,ysub⟩) rfl
 simp only [Option.some.injEq,Addr.mk.injEq,and_true] at e3
 obtain ⟨rfl,rfl⟩:=e3
 have x0:=hc 0 _ (by omega) rfl
 have y0:=hc3 0 _ (by omega) rfl
 have x1:=hc 1 _ (by omega) rfl
 have y1:=hc3 1 _ (by omega) rfl
 have x2:=hc 2 _ (by omega) rfl
 have y2:=hc3 2 _ (by omega) rfl
 have x3:=hc 3 _ (by omega) rfl
 have y3:=hc3 3 _ (by omega) rfl
 have x4:=hc 4 _ (by omega) rfl
 have y4:=hc3 4 _ (by omega) rfl
 have x5:=hc 5 _ (by omega) rfl
 have y5:=hc3 5 _ (by omega) rfl
 have x6:=hc 6 _ (by omega) rfl
 have y6:=hc3 6 _ (by omega) rfl
 have x7:=hc 7 _ (by omega) rfl
 have y7:=hc3 7 _ (by omega) rfl
 have x8:=hc 8 _ (by omega) rfl
 have y8:=hc3 8 _ (by omega) rfl
 have x9:=hc 9 _ (by omega) rfl
 have y9:=hc3 9 _ (by omega) rfl
 simp only [Nat.zero_mul,Nat.one_mul,Nat.add_zero] at x0 x1 x2 x3 x4 x5 x6 x7 x8 x9 y0 y1 y2 y3 y4 y5 y6 y7 y8 y9
 clear hc hc3 hx
 have F:=K0.facts
 simp only [zg] at F
 rcases ho with rfl|rfl
 ·go_enter Tryz.func188,Tryz.ntmps188
  go_wp2_with fail
  clear F
  generalize (w.alloc (.cells #[.string col,.int .i64 5,.int .i64 9,.bool nt,.int .i64 vk,.int .i64 vi,.string vs,.string tab,.string nm,.slice (some ⟨b2,o2,none⟩) 2 c,.slice B m d2] 128)).alloc (.cells #[.int .i64 5,.int .i64 9,.bool nt,.int .i64 vk,.int .i64 vi,.string vs,.string tab,.string nm,.slice (some ⟨b2,o2,none⟩) 2 c,.slice B m d2] 126)=wk at *
  have F:=K0.facts
  simp only [zg] at F
  go_cut [7,8] (fun s7 s8 wx=>∃ (g7 g8:Nat),s7=.pointer (some ⟨g7,0,none⟩)∧s8=.pointer (some ⟨g8,0,none⟩)∧∃ L,Hold M none w wx (.blk g7 126 #[.int .i64 xk,.int .i64 xop,.bool xnt,.int .i64 xvk,.int .i64 xvi,.string xvs,.string xtab,.string xnm,.slice xA xn xc,.slice xB xm xd]::.blk g8 126 #[.int .i64 yk,.int .i64 yop,.bool ynt,.int .i64 yvk,.int .i64 yvi,.string yvs,.string ytab,.string ynm,.slice yA yn yc,.slice yB ym yd]::.cst (w.heap.size+1) 126 #[.int .i64 5,.int .i64 9,.bool nt,.int .i64 vk,.int .i64 vi,.string vs,.string tab,.string nm,.slice (some ⟨b2,o2,none⟩) 2 c,.slice B m d2]::.cst w.heap.size 128 #[.string col,.int .i64 5,.int .i64 9,.bool nt,.int .i64 vk,.int .i64 vi,.string vs,.string tab,.string nm,.slice (some ⟨b2,o2,none⟩) 2 c,.slice B m d2]::L))
  case first=>
   go_region
   ·go_wp2_with fail
    go_meet
    have KA:=((K0.alloc #[.int .i64 xk,.int .i64 xop,.bool xnt,.int .i64 xvk,.int .i64 xvi,.string xvs,.string xtab,.string xnm,.slice xA xn xc,.slice xB xm xd] 126).alloc #[.int .i64 yk,.int .i64 yop,.bool ynt,.int .i64 yvk,.int .i64 yvi,.string yvs,.string ytab,.string ynm,.slice yA yn yc,.slice yB ym yd] 126).drew
    rw [World.size_alloc] at KA
    exact ⟨_,_,rfl,rfl,_,KA.perm (List.Perm.swap _ _ _)⟩
   ·go_wp2_with fail
    go_meet
    have KA:=((K0.alloc #[.int .i64 yk,.int .i64 yop,.bool ynt,.int .i64 yvk,.int .i64 yvi,.string yvs,.string ytab,.string ynm,.slice yA yn yc,.slice yB ym yd] 126).alloc #[.int .i64 xk,.int .i64 xop,.bool xnt,.int .i64 xvk,.int .i64 xvi,.string xvs,.string xtab,.string xnm,.slice xA xn xc,.slice xB xm xd] 126).drew
    rw [World.size_alloc] at KA
    exact ⟨_,_,rfl,rfl,_,KA⟩
  case rest=>
   obtain ⟨g7,g8,rfl,rfl,L,K⟩:=hcut
   clear F x0 x1 x2 x3 x4 x5 x6 x7 x8 x9 y0 y1 y2 y3 y4 y5 y6 y7 y8 y9 K0 hb2 hb3
   have F:=K.facts
   simp only [zg] at F
   have HB:=hid K.below
   clear K
   go_wp2_with fail
   all_goals
    clear F
    refine bodyPost_ret (results_tmp2 rfl _ _ _) rfl ⟨?_,HB.out⟩
    rw [HS.out]
    simp [*]
 ·go_enter Tryz.func188,Tryz.ntmps188
  go_wp2_with fail
  clear F
  generalize (w.alloc (.cells #[.string col,.int .i64 5,.int .i64 10,.bool nt,.int .i64 vk,.int .i64 vi,.string vs,.string tab,.string nm,.slice (some ⟨b2,o2,none⟩) 2 c,.slice B m d2] 128)).alloc (.cells #[.int .i64 5,.int .i64 10,.bool nt,.int .i64 vk,.int .i64 vi,.string vs,.string tab,.string nm,.slice (some ⟨b2,o2,none⟩) 2 c,.slice B m d2] 126)=wk at *
  have F:=K0.facts
  simp only [zg] at F
  go_cut [7,8] (fun s7 s8 wx=>∃ (g7 g8:Nat),s7=.pointer (some ⟨g7,0,none⟩)∧s8=.pointer (some ⟨g8,0,none⟩)∧∃ L,Hold M none w wx (.blk g7 126 #[.int .i64 xk,.int .i64 xop,.bool xnt,.int .i64 xvk,.int .i64 xvi,.string xvs,.string xtab,.string xnm,.slice xA xn xc,.slice xB xm xd]::.blk g8 126 #[.int .i64 yk,.int .i64 yop,.bool ynt,.int .i64 yvk,.int .i64 yvi,.string yvs,.string ytab,.string ynm,.slice yA yn yc,.slice yB ym yd]::.cst (w.heap.size+1) 126 #[.int .i64 5,.int .i64 10,.bool nt,.int .i64 vk,.int .i64 vi,.string vs,.string tab,.string nm,.slice (some ⟨b2,o2,none⟩) 2 c,.slice B m d2]::.cst w.heap.size 128 #[.string col,.int .i64 5,.int .i64 10,.bool nt,.int .i64 vk,.int .i64 vi,.string vs,.string tab,.string nm,.slice (some ⟨b2,o2,none⟩) 2 c,.slice B m d2]::L))
  case first=>
   go_region
   ·go_wp2_with fail
    go_meet
    have KA:=((K0.alloc #[.int .i64 xk,.int .i64 xop,.bool xnt,.int .i64 xvk,.int .i64 xvi,.string xvs,.string xtab,.string xnm,.slice xA xn xc,.slice xB xm xd] 126).alloc #[.int .i64 yk,.int .i64 yop,.bool ynt,.int .i64 yvk,.int .i64 yvi,.string yvs,.string ytab,.string ynm,.slice yA yn yc,.slice yB ym yd] 126).drew
    rw [World.size_alloc] at KA
    exact ⟨_,_,rfl,rfl,_,KA.perm (List.Perm.swap _ _ _)⟩
   ·go_wp2_with fail
    go_meet
    have KA:=((K0.alloc #[.int .i64 yk,.int .i64 yop,.bool ynt,.int .i64 yvk,.int .i64 yvi,.string yvs,.string ytab,.string ynm,.slice yA yn yc,.slice yB ym yd] 126).alloc #[.int .i64 xk,.int .i64 xop,.bool xnt,.int .i64 xvk,.int .i64 xvi,.string xvs,.string xtab,.string xnm,.slice xA xn xc,.slice xB xm xd] 126).drew
    rw [World.size_alloc] at KA
    exact ⟨_,_,rfl,rfl,_,KA⟩
  case rest=>
   obtain ⟨g7,g8,rfl,rfl,L,K⟩:=hcut
   clear F x0 x1 x2 x3 x4 x5 x6 x7 x8 x9 y0 y1 y2 y3 y4 y5 y6 y7 y8 y9 K0 hb2 hb3
   have F:=K.facts
   simp only [zg] at F
   have HB:=hid K.below
   clear K
   go_wp2_with fail
   all_goals
    clear F
    refine bodyPost_ret (results_tmp2 rfl _ _ _) rfl ⟨?_,HB.out⟩
    rw [HS.out]
    simp [*]
theorem ZfM (M:Nat→Prop) (w:World) (hM:∀ b,M b→b<w.heap.size) (s:Se) (t:ByteArray) (d:Nat) (he:Ro w M (ExIn (d+1) s.e)):Calls Tryz.prog 188 #[s.val,.string t] w fun r w' =>r=.returned (.tuple #[.int .i64 (Y7 s t).1,.bool (Y7 s t).2])∧Below w.heap.size w w' :=by
 have hlen:=(ExIn.succ.1 he.now).1.len
 by_cases h:s.e.kind=5∧(s.e.op=9∨s.e.op=10)∧s.e.n=2
 ·obtain ⟨x,y,hxy⟩:∃ x y,s.e.args=[x,y]:=by
   match hm:s.e.args with
   | []=>rw [hm] at hlen;simp at hlen;omega
   | [_]=>rw [hm] at hlen;simp at hlen;omega
   | [x,y]=>exact ⟨x,y,rfl⟩
   | _::_::_::_=>rw [hm] at hlen;simp at hlen;omega
  exact Zcd M w hM s t x y d he h.1 h.2.1 hxy
 ·have hs:Y7 s t=(0,false):=by
   have:XJ s t=none:=by
    unfold XJ
    split
    ·rename_i c k hm
     rw [hm] at hlen
     simp at hlen
     rw [if_neg]
     exact fun hc=>h ⟨hc.1,hc.2.1,by omega⟩
    ·rfl
   simp [Y7,this]
  rw [hs]
  exact Zcv w s t h
def ZT (a:Ac) (col:ByteArray):Int × Bool:=match YN a col with|some k=>(k,true)|none=>(0,false)
def SesIn (d:Nat) (A:Option Addr) (n:Nat) (l:List Se) (w:World):Prop:=SlR 11 A n (l.flatMap Se.cells) w∧∀ x∈l,ZY d x w
theorem SesIn.len {d:Nat} {A:Option Addr} {n:Nat} {l:List Se} {w:World} (h:SesIn d A n l w):l.length=n:=SlP.In.len (s:=⟨A,n,0,l⟩) (k:=11) (cel:=Se.cells) (P:=ZY d) h (by omega) (fun _=>rfl)
theorem SesIn.at_ {d:Nat} {w:World} {A:Option Addr} {n:Nat} {l:List Se} (h:SesIn d A n l w) {k:Nat} {x:Se} (hx:l[k]? =some x):
  ∃ b o,A=some ⟨b,o,none⟩∧b<w.heap.size∧(∀ j u,j<11→x.cells[j]? =some u→w.cell? ⟨b,o+k * 11+j,none⟩=some u)∧ZY d x w:=SlP.In.at_ (s:=⟨A,n,0,l⟩) (k:=11) (cel:=Se.cells) (P:=ZY d) h (by omega) (fun _=>rfl) hx
theorem Y2 {α:Type} {l:List α} {n k:Nat} (h:l.length=n) (hk:k<n):∃ c,l[k]? =some c:=⟨l[k]'(by omega),List.getElem?_eq_getElem _⟩
theorem Wm {α β:Type} {f:α→Option β} {l:List α} {k:Nat} {x:α} (hx:l[k]? =some x) (hf:f x=none) (h:l.findSome? f=(l.drop k).findSome? f):l.findSome? f=(l.drop (k+1)).findSome? f:=by
 have hk:k<l.length:=(List.getElem?_eq_some_iff.1 hx).1
 rw [h,List.drop_eq_getElem_cons hk]
 have:l[k]=x:=(List.getElem?_eq_some_iff.1 hx).2
 simp [this,hf]
theorem ZaK {α β:Type} {f:α→Option β} {l:List α} {k:Nat} {x:α} {y:β} (hx:l[k]? =some x) (hf:f x=some y) (h:l.findSome? f=(l.drop k).findSome? f):l.findSome? f=some y:=by
 have hk:k<l.length:=(List.getElem?_eq_some_iff.1 hx).1
 rw [h,List.drop_eq_getElem_cons hk]
 have:l[k]=x:=(List.getElem?_eq_some_iff.1 hx).2
 simp [this,hf]
set_option maxRecDepth 100000 in
set_option maxHeartbeats 2000000 in
theorem za (M:Nat→Prop) (w:World) (hM:∀ b,M b→b<w.heap.size) (a:Ac) (col:ByteArray) (d:Nat) (ha:Ro w M (AcIn (d+1) a)) (hn:a.sets.n≤9223372036854775807):Calls Tryz.prog 138 #[a.val,.string col] w fun r w' =>r=.returned (.tuple #[.int .i64 (ZT a col).1,.bool (ZT a col).2])∧Below w.heap.size w w' :=by
 have hD:Ro w M (SesIn (d+1) a.sets.A a.sets.n a.sets.l):=ha.imp fun w2 h2=>h2.2.2.1
 obtain ⟨ak,atab,⟨rA,rn,rc,rl⟩,⟨qA,qn,qc,ql⟩,⟨sA,sn,sc,sl⟩,⟨wA,wn,wc,wl⟩,text⟩:=a
 simp only [Ac.val] at hD hn ⊢
 clear ha
 by_cases hk:ak=2
 ·subst hk
  have HR:=hid (show ZT ⟨2,atab,⟨rA,rn,rc,rl⟩,⟨qA,qn,qc,ql⟩,⟨sA,sn,sc,sl⟩,⟨wA,wn,wc,wl⟩,text⟩ col=match sl.findSome? (Yq atab col) with|some k=>(k,true)|none=>(0,false) by simp [ZT,YN])
  generalize ZT ⟨2,atab,⟨rA,rn,rc,rl⟩,⟨qA,qn,qc,ql⟩,⟨sA,sn,sc,sl⟩,⟨wA,wn,wc,wl⟩,text⟩ col=R at *
  have HL:=hid hD.now.len
  have K0:=((Hold.start M w hM).add (hD.less (by simp [Mut]))).Za #[.int .i64 2,.string atab,.slice rA rn rc,.slice qA qn qc,.slice sA sn sc,.slice wA wn wc,.string text] 97
  have F:=K0.facts
  simp only [zg] at F
  go_enter Tryz.func138,Tryz.ntmps138
  go_wp2_with fail
  clear F
  go_loopw [16] (fun i wr=>∃ k:Nat,k≤sn∧i=.int .i64 k∧Hid (sl.findSome? (Yq atab col)=(sl.drop k).findSome? (Yq atab col))∧Hold M none w wr [.cst w.heap.size 97 #[.int .i64 2,.string atab,.slice rA rn rc,.slice qA qn qc,.slice sA sn sc,.slice wA wn wc,.string text],.ro (SesIn (d+1) sA sn sl)]) (fun i _=>sn - (intOf i).toNat)
  case atStart=>exact ⟨0,by omega,rfl,hid rfl,K0⟩
  case round=>
   clear K0
   obtain ⟨k,hk,rfl,HF,H⟩:=hrel
   by_cases hlt:k<sn
   ·obtain ⟨⟨xcol,⟨xk,xop,xnt,⟨xvk,xvi,xvs⟩,xtab,xnm,xA,xn,xc,xargs,xB,xm,xd,xsub⟩⟩,hc⟩:=Y2 HL.out hlt
    obtain ⟨b,o,rfl,hb,hcl,-⟩:=(H.ro 1 rfl).now.at_ hc
    have c0:=hcl 0 _ (by omega) rfl
    have c1:=hcl 1 _ (by omega) rfl
    have c2:=hcl 2 _ (by omega) rfl
    have c3:=hcl 3 _ (by omega) rfl
    have c4:=hcl 4 _ (by omega) rfl
    have c5:=hcl 5 _ (by omega) rfl
    have c6:=hcl 6 _ (by omega) rfl
    have c7:=hcl 7 _ (by omega) rfl
    have c8:=hcl 8 _ (by omega) rfl
    have c9:=hcl 9 _ (by omega) rfl
    have c10:=hcl 10 _ (by omega) rfl
    simp only [Nat.add_zero] at c0
    clear hcl
    have HC:=hid hc;clear hc
    have F:=H.facts
    simp only [zg] at F
    by_cases hcol:xcol=col
    ·subst hcol
     have K1:=(H.add (S:=ExIn (d+1) ⟨xk,xop,xnt,⟨xvk,xvi,xvs⟩,xtab,xnm,xA,xn,xc,xargs,xB,xm,xd,xsub⟩) ((H.ro 1 rfl).imp fun w2 h2=>h2.2 _ (List.mem_of_getElem? HC.out))).Za #[.string xcol,.int .i64 xk,.int .i64 xop,.bool xnt,.int .i64 xvk,.int .i64 xvi,.string xvs,.string xtab,.string xnm,.slice xA xn xc,.slice xB xm xd] 128
     have F1:=K1.facts
     simp only [zg] at F1
     have hce:=ZfM _ _ K1.Zc ⟨xcol,⟨xk,xop,xnt,⟨xvk,xvi,xvs⟩,xtab,xnm,xA,xn,xc,xargs,xB,xm,xd,xsub⟩⟩ atab d (K1.ro 1 rfl)
     rcases hst:XJ ⟨xcol,⟨xk,xop,xnt,⟨xvk,xvi,xvs⟩,xtab,xnm,xA,xn,xc,xargs,xB,xm,xd,xsub⟩⟩ atab with _|m
     ·rw [show Y7 ⟨xcol,⟨xk,xop,xnt,⟨xvk,xvi,xvs⟩,xtab,xnm,xA,xn,xc,xargs,xB,xm,xd,xsub⟩⟩ atab=(0,false) by simp [Y7,hst]] at hce
      have HST:=hid hst;clear hst
      go_wp2_with fail
      refine hce.mono ?_
      rintro e w1 ⟨rfl,b1⟩
      have K2:=K1.call b1
      clear K1 F1 F b1
      go_wp2_with fail
      go_roundw
      case rel=>exact ⟨k+1,by omega,by go_num,hid (Wm HC.out (by simp [Yq,HST.out]) HF.out),K2.drop (List.Sublist.cons _ (List.Sublist.cons _ (List.Sublist.refl _)))⟩
      case measure=>simp [intOf];omega
     ·rw [show Y7 ⟨xcol,⟨xk,xop,xnt,⟨xvk,xvi,xvs⟩,xtab,xnm,xA,xn,xc,xargs,xB,xm,xd,xsub⟩⟩ atab=(m,true) by simp [Y7,hst]] at hce
      by_cases hm:m=4
      ·subst hm
       obtain ⟨x0,⟨yk,yop,ynt,⟨yvk,yvi,yvs⟩,ytab,ynm,yA,yn,yc,yargs,yB,ym,yd,ysub⟩,rfl⟩:∃ x y,xargs=[x,y]:=by
        unfold XJ at hst
        split at hst
        ·rename_i c k h;exact ⟨_,_,h⟩
        ·cases hst
       have HST:=hid hst;clear hst
       go_wp2_with fail
       refine hce.mono ?_
       rintro e w1 ⟨rfl,b1⟩
       have K2:=K1.call b1
       have F2:=K2.facts
       simp only [zg] at F2
       clear K1 F1 F b1 c0 c1 c2 c3 c4 c5 c6 c7 c8 c9 c10
       have hx:=(ExIn.succ.1 (K2.ro 1 rfl).now).1
       have hlen:2=xn:=hx.len
       subst hlen
       obtain ⟨b2,o2,rfl,hb2,hcl,-⟩:=hx.at_ (k:=1) (x:=⟨yk,yop,ynt,⟨yvk,yvi,yvs⟩,ytab,ynm,yA,yn,yc,yargs,yB,ym,yd,ysub⟩) rfl
       have y4:=hcl 4 _ (by omega) rfl
       simp only [Nat.one_mul] at y4
       clear hcl hx
       go_wp2_with fail
       refine bodyPost_ret (results_tmp2 rfl _ _ _) rfl ⟨?_,K2.below⟩
       rw [HR.out,ZaK HC.out (y:=yvi) (by simp [Yq,HST.out]) HF.out]
       rfl
      ·have HST:=hid hst;clear hst
       go_wp2_with fail
       refine hce.mono ?_
       rintro e w1 ⟨rfl,b1⟩
       have K2:=K1.call b1
       clear K1 F1 F b1
       go_wp2_with fail
       go_roundw
       case rel=>exact ⟨k+1,by omega,by go_num,hid (Wm HC.out (by simp [Yq,HST.out,hm]) HF.out),K2.drop (List.Sublist.cons _ (List.Sublist.cons _ (List.Sublist.refl _)))⟩
       case measure=>simp [intOf];omega
    ·have e1:¬xcol.toList=col.toList:=fun h=>hcol (Yr h)
     have e2:(xcol.toList==col.toList)=false:=by simpa using e1
     have K1:=H.alloc #[.string xcol,.int .i64 xk,.int .i64 xop,.bool xnt,.int .i64 xvk,.int .i64 xvi,.string xvs,.string xtab,.string xnm,.slice xA xn xc,.slice xB xm xd] 128
     have F1:=K1.facts
     simp only [zg] at F1
     go_wp2_with fail
     go_roundw
     case rel=>exact ⟨k+1,by omega,by go_num,hid (Wm HC.out (by simp [Yq,hcol]) HF.out),K1.drop (List.sublist_cons_self _ _)⟩
     case measure=>simp [intOf];omega
   ·have F:=H.facts
    simp only [zg] at F
    have hks:k=sn:=by omega
    go_wp2_with fail
    refine bodyPost_ret (results_tmp2 rfl _ _ _) rfl ⟨?_,H.below⟩
    rw [HR.out,HF.out,List.drop_eq_nil_of_le (by rw [HL.out];omega)]
    rfl
 ·have K0:=(Hold.YD w).Za #[.int .i64 ak,.string atab,.slice rA rn rc,.slice qA qn qc,.slice sA sn sc,.slice wA wn wc,.string text] 97
  have F:=K0.facts
  simp only [zg] at F
  have HB:=hid K0.below
  clear K0
  rw [show ZT ⟨ak,atab,⟨rA,rn,rc,rl⟩,⟨qA,qn,qc,ql⟩,⟨sA,sn,sc,sl⟩,⟨wA,wn,wc,wl⟩,text⟩ col=(0,false) by simp [ZT,YN,hk]]
  go_enter Tryz.func138,Tryz.ntmps138
  go_wp2_with fail
  all_goals first
   | (exfalso;omega)
   | (refine bodyPost_ret (results_tmp2 rfl _ _ _) rfl ?_;exact ⟨rfl,HB.out⟩)
theorem Y3 {fn:Func} {t u v:Tmp} (h:fn.results=#[.tmp t,.tmp u,.tmp v]) (tmps:Array Value) (P:Program) (w:World):
  (results fn tmps).run P w=.ok (.tuple #[tmps.getD t undef,tmps.getD u undef,tmps.getD v undef]) w:=by
 simp [results,h]
theorem JA {w:World}:∀ {d:Nat} {e:Ex},ExIn d e w→ExIn d (Z9 d e) w
 | 0,_,h=>h.elim
 | d+1,e,h=>by
  unfold Z9
  split
  ·split
   ·rename_i a l hl
    exact (JA ((ExIn.succ.1 h).1.2 a (by rw [hl];exact List.mem_cons_self ..))).more
   ·exact h
  ·exact h
theorem GK {e:Ex} (h:¬(e.kind=4∧∃ a,e.args=[a]∧a.kind=1)):ZL e=(e.v.i,(e.kind==1)&&(e.v.k==1)):=by
 have hb:((e.kind==1)&&(e.v.k==1))=(decide (e.kind=1)&&decide (e.v.k=1)):=by
  cases h1:(e.kind==1)<;>cases h2:(e.v.k==1)<;>simp at h1 h2<;>simp [h1,h2]
 unfold ZL
 split
 ·rename_i a ha
  rw [if_neg (fun hc=>h ⟨hc.1,a,ha,hc.2⟩),hb]
 ·rw [hb]
theorem Zfp {e a:Ex} (h:e.kind=4) (ha:e.args=[a]) (hk:a.kind=1):ZL e=(IntKind.i64.wrap (-a.v.i),a.v.k==1):=by
 have hb:(a.v.k==1)=decide (a.v.k=1):=by cases h2:(a.v.k==1)<;>simp at h2<;>simp [h2]
 simp [ZL,ha,h,hk,hb]
set_option maxRecDepth 100000 in
set_option maxHeartbeats 2000000 in
theorem ZaL (M:Nat→Prop) (w:World) (hM:∀ b,M b→b<w.heap.size) (e:Ex) (d:Nat) (he:Ro w M (ExIn (d+1) e)):Calls Tryz.prog 191 #[e.val] w fun r w' =>r=.returned (.tuple #[.int .i64 (ZL e).1,.bool (ZL e).2])∧Below w.heap.size w w' :=by
 by_cases h:e.kind=4
 ·by_cases h2:∃ a,e.args=[a]∧a.kind=1
  ·obtain ⟨a,ha,hk⟩:=h2
   rw [Zfp h ha hk]
   exact Ze8 M w hM e a d he h ha hk
  ·rw [GK (fun hc=>h2 hc.2)]
   have hlen:=(ExIn.succ.1 he.now).1.len
   obtain ⟨k,op,nt,⟨vk,vi,vs⟩,tab,nm,A,n,c,args,B,m,d,sub⟩:=e
   simp only [Ex.val] at h h2 hlen ⊢
   subst h
   have K0:=((Hold.start M w hM).add (he.less (by simp [Mut]))).Za #[.int .i64 4,.int .i64 op,.bool nt,.int .i64 vk,.int .i64 vi,.string vs,.string tab,.string nm,.slice A n c,.slice B m d] 126
   have F0:=K0.facts
   simp only [zg] at F0
   have hB:=fun q=>(K0.drewN q).below
   have HB:=hid hB
   clear hB
   by_cases hn:(n:Int)=1
   ·obtain ⟨a,ha⟩:∃ a,args=[a]:=by
     match args,hlen with
     | [a],_=>exact ⟨a,rfl⟩
     | [],hlen=>simp at hlen;omega
     | _::_::_,hlen=>simp at hlen;omega
    subst ha
    obtain ⟨b2,o2,rfl,hb2,hc,-⟩:=(ExIn.succ.1 (K0.ro 1 rfl).now).1.at_ (k:=0) (x:=a) rfl
    have y0:=hc 0 _ (by omega) rfl
    simp only [Nat.zero_mul,Nat.add_zero] at y0
    clear hc K0 he
    have hak:¬a.kind=1:=fun hk=>h2 ⟨a,rfl,hk⟩
    obtain ⟨ka,hka⟩:∃ ka,ka=a.kind:=⟨_,rfl⟩
    rw [←hka] at y0 hak
    clear hka h2 hlen
    have h0:0<n:=by omega
    go_enter Tryz.func191,Tryz.ntmps191
    go_wp2_with fail
    go_quiet (fail)
    go_wp2_with fail
    refine bodyPost_ret (results_tmp2 rfl _ _ _) rfl ?_
    exact ⟨rfl,HB.out _⟩
   ·clear K0 he h2 hlen
    go_enter Tryz.func191,Tryz.ntmps191
    go_wp2_with fail
    go_quiet (fail)
    go_wp2_with fail
    refine bodyPost_ret (results_tmp2 rfl _ _ _) rfl ?_
    exact ⟨rfl,HB.out _⟩
 ·rw [GK (fun hc=>h hc.1)]
  exact J7 w e h
def Z8 (d:Nat) (a:Ac) (col:ByteArray):Int × Int × Bool:=match XI d a col with|some (x,y)=>(x,y,true)|none=>(0,0,false)
theorem JZ {d:Nat} {a:Ac} {col:ByteArray} {x:Ex} {l:List Ex} (hw:a.wh.l=x::l):Z8 d a col=(if a.kind=2∧(Z9 d x).kind=7 then (match (Z9 d x).args with|[x,y,z]=>(if Yz x a.tab col∧(ZL y).2∧(ZL z).2 then ((ZL y).1,(ZL z).1,true) else (0,0,false))|_=>(0,0,false)) else (0,0,false)):=by
 unfold Z8 XI
 simp only [hw]
 generalize Z9 d x=E
 by_cases h:a.kind=2∧E.kind=7
 ·rw [if_pos h,if_pos h]
  match hE:E.args with
  | [x,y,z]=>
   simp only
   by_cases h2:Yz x a.tab col=true∧(ZL y).2=true∧(ZL z).2=true
   ·rw [if_pos h2,if_pos h2]
   ·rw [if_neg h2,if_neg h2]
  | []=>rfl
  | [_]=>rfl
  | [_,_]=>rfl
  | _::_::_::_::_=>rfl
 ·rw [if_neg h,if_neg h]
set_option maxRecDepth 100000 in
set_option maxHeartbeats 2000000 in
theorem Zg2 (w:World) (a:Ac) (col:ByteArray) (hn:a.wh.n=0):Calls Tryz.prog 139 #[a.val,.string col] w fun r w' =>r=.returned (.tuple #[.int .i64 0,.int .i64 0,.bool false])∧Below w.heap.size w w' :=by
 obtain ⟨ak,atab,⟨rA,rn,rc,rl⟩,⟨qA,qn,qc,ql⟩,⟨sA,sn,sc,sl⟩,⟨wA,wn,wc,wl⟩,text⟩:=a
 simp only [Ac.val] at hn ⊢
 subst hn
 have K0:=(Hold.YD w).Za #[.int .i64 ak,.string atab,.slice rA rn rc,.slice qA qn qc,.slice sA sn sc,.slice wA 0 wc,.string text] 97
 have F0:=K0.facts
 simp only [zg] at F0
 by_cases hk:ak=2
 ·subst hk
  go_enter Tryz.func139,Tryz.ntmps139
  go_wp2_with fail
  refine (GZ _ wA wc).mono ?_
  rintro e w1 ⟨rfl,b1⟩
  have K1:=(K0.call b1).Za #[.int .i64 0,.int .i64 0,.bool false,.int .i64 0,.int .i64 0,.string ⟨#[]⟩,.string ⟨#[]⟩,.string ⟨#[]⟩,.slice none 0 0,.slice none 0 0] 126
  have F1:=K1.facts
  simp only [zg] at F1
  have hB:=fun q=>(K1.drewN q).below
  have HB:=hid hB
  clear hB K0 K1 F0
  go_wp2_with fail
  go_quiet (fail)
  go_wp2_with fail
  refine bodyPost_ret (Y3 rfl _ _ _) rfl ?_
  exact ⟨rfl,HB.out _⟩
 ·have hk2:(ak !=2)=true:=by simpa using hk
  go_enter Tryz.func139,Tryz.ntmps139
  go_wp2_with fail
  refine (GZ _ wA wc).mono ?_
  rintro e w1 ⟨rfl,b1⟩
  have K1:=(K0.call b1).Za #[.int .i64 0,.int .i64 0,.bool false,.int .i64 0,.int .i64 0,.string ⟨#[]⟩,.string ⟨#[]⟩,.string ⟨#[]⟩,.slice none 0 0,.slice none 0 0] 126
  have F1:=K1.facts
  simp only [zg] at F1
  have hB:=fun q=>(K1.drewN q).below
  have HB:=hid hB
  clear hB K0 K1 F0
  go_wp2_with fail
  go_quiet (fail)
  go_wp2_with fail
  refine bodyPost_ret (Y3 rfl _ _ _) rfl ?_
  exact ⟨rfl,HB.out _⟩
set_option maxRecDepth 100000 in
set_option maxHeartbeats 2000000 in
theorem Zdw (M:Nat→Prop) (w:World) (hM:∀ b,M b→b<w.heap.size) (a:Ac) (col:ByteArray) (d:Nat) (ha:Ro w M (AcIn (d+1) a)) (hn:a.wh.n≤9223372036854775807) (x:Ex) (l:List Ex) (hl:a.wh.l=x::l):Calls Tryz.prog 139 #[a.val,.string col] w fun r w' =>r=.returned (.tuple #[.int .i64 (Z8 (d+1) a col).1,.int .i64 (Z8 (d+1) a col).2.1,.bool (Z8 (d+1) a col).2.2])∧Below w.heap.size w w' :=by
 have hD:Ro w M (ExsIn (d+1) a.wh.A a.wh.n a.wh.l):=ha.imp fun w2 h2=>h2.2.2.2
 rw [hl] at hD
 have HR:=hid (JZ (d:=d+1) (col:=col) hl)
 generalize Z8 (d+1) a col=R at *
 obtain ⟨ak,atab,⟨rA,rn,rc,rl⟩,⟨qA,qn,qc,ql⟩,⟨sA,sn,sc,sl⟩,⟨wA,wn,wc,wl⟩,text⟩:=a
 simp only [Ac.val] at hD hn HR ⊢
 clear ha hl
 have K0:=((Hold.start M w hM).add (hD.less (by simp [Mut]))).Za #[.int .i64 ak,.string atab,.slice rA rn rc,.slice qA qn qc,.slice sA sn sc,.slice wA wn wc,.string text] 97
 have F0:=K0.facts
 simp only [zg] at F0
 go_enter Tryz.func139,Tryz.ntmps139
 go_wp2_with fail
 refine (ZgI _ _ K0.Zc wA wn wc (d+1) x l (K0.ro 1 rfl) hn).mono ?_
 rintro e w1 ⟨rfl,b1⟩
 have KA:=K0.call b1
 have KB:=KA.add (S:=ExIn (d+1) (Z9 (d+1) x)) ((KA.ro 1 rfl).imp fun w2 h2=>JA (h2.2 x (List.mem_cons_self ..)))
 clear KA K0 F0 b1
 obtain ⟨E,hE⟩:∃ E,E=Z9 (d+1) x:=⟨_,rfl⟩
 rw [←hE] at KB
 have HR2:=hid (show R=_ from HR.out)
 clear HR
 rw [←hE] at HR2 ⊢
 clear hE
 obtain ⟨ek,eop,ent,⟨evk,evi,evs⟩,etab,enm,eA,en,ec,eargs,eB,em,ed,esub⟩:=E
 simp only [Ex.val] at HR2 ⊢
 have K1:=KB.Za #[.int .i64 ek,.int .i64 eop,.bool ent,.int .i64 evk,.int .i64 evi,.string evs,.string etab,.string enm,.slice eA en ec,.slice eB em ed] 126
 clear KB
 have F1:=K1.facts
 simp only [zg] at F1
 have hlen:=(ExIn.succ.1 (K1.ro 1 rfl).now).1.len
 simp only at hlen
 have hB:=fun q=>(K1.drewN q).below
 have HB:=hid hB
 clear hB
 have HR:=hid (show R=_ from HR2.out)
 clear HR2
 by_cases hk:ak=2
 ·subst hk
  by_cases h7:ek=7
  ·subst h7
   by_cases h3:(en:Int)=3
   ·obtain ⟨X,Y,Z,rfl⟩:∃ X Y Z,eargs=[X,Y,Z]:=by
     match eargs,hlen with
     | [a,b,c],_=>exact ⟨a,b,c,rfl⟩
     | [],hlen=>simp at hlen;omega
     | [_],hlen=>simp at hlen;omega
     | [_,_],hlen=>simp at hlen;omega
     | _::_::_::_::_,hlen=>simp at hlen;omega
    obtain rfl:en=3:=by omega
    have hx:=(ExIn.succ.1 (K1.ro 1 rfl).now).1
    obtain _|d:=d
    ·exact (hx.2 X (List.mem_cons_self ..)).elim
    obtain ⟨xk,xop,xnt,⟨xvk,xvi,xvs⟩,xtab,xnm,xA,xn,xc,xargs,xB,xm,xd,xsub⟩:=X
    obtain ⟨yk,yop,ynt,⟨yvk,yvi,yvs⟩,ytab,ynm,yA,yn,yc,yargs,yB,ym,yd,ysub⟩:=Y
    obtain ⟨zk,zop,znt,⟨zvk,zvi,zvs⟩,ztab,znm,zA,zn,zc,zargs,zB,zm,zd,zsub⟩:=Z
    obtain ⟨b2,o2,rfl,hb2,hcx,-⟩:=hx.at_ (k:=0) (x:=⟨xk,xop,xnt,⟨xvk,xvi,xvs⟩,xtab,xnm,xA,xn,xc,xargs,xB,xm,xd,xsub⟩) rfl
    obtain ⟨b3,o3,e3,-,hcy,-⟩:=hx.at_ (k:=1) (x:=⟨yk,yop,ynt,⟨yvk,yvi,yvs⟩,ytab,ynm,yA,yn,yc,yargs,yB,ym,yd,ysub⟩) rfl
    obtain ⟨b4,o4,e4,-,hcz,-⟩:=hx.at_ (k:=2) (x:=⟨zk,zop,znt,⟨zvk,zvi,zvs⟩,ztab,znm,zA,zn,zc,zargs,zB,zm,zd,zsub⟩) rfl
    simp only [Option.some.injEq,Addr.mk.injEq,and_true] at e3 e4
    obtain ⟨rfl,rfl⟩:=e3
    obtain ⟨rfl,rfl⟩:=e4
    have x0:=hcx 0 _ (by omega) rfl
    have y0:=hcy 0 _ (by omega) rfl
    have z0:=hcz 0 _ (by omega) rfl
    have x1:=hcx 1 _ (by omega) rfl
    have y1:=hcy 1 _ (by omega) rfl
    have z1:=hcz 1 _ (by omega) rfl
    have x2:=hcx 2 _ (by omega) rfl
    have y2:=hcy 2 _ (by omega) rfl
    have z2:=hcz 2 _ (by omega) rfl
    have x3:=hcx 3 _ (by omega) rfl
    have y3:=hcy 3 _ (by omega) rfl
    have z3:=hcz 3 _ (by omega) rfl
    have x4:=hcx 4 _ (by omega) rfl
    have y4:=hcy 4 _ (by omega) rfl
    have z4:=hcz 4 _ (by omega) rfl
    have x5:=hcx 5 _ (by omega) rfl
    have y5:=hcy 5 _ (by omega) rfl
    have z5:=hcz 5 _ (by omega) rfl
    have x6:=hcx 6 _ (by omega) rfl
    have y6:=hcy 6 _ (by omega) rfl
    have z6:=hcz 6 _ (by omega) rfl
    have x7:=hcx 7 _ (by omega) rfl
    have y7:=hcy 7 _ (by omega) rfl
    have z7:=hcz 7 _ (by omega) rfl
    have x8:=hcx 8 _ (by omega) rfl
    have y8:=hcy 8 _ (by omega) rfl
    have z8:=hcz 8 _ (by omega) rfl
    have x9:=hcx 9 _ (by omega) rfl
    have y9:=hcy 9 _ (by omega) rfl
    have z9:=hcz 9 _ (by omega) rfl
    simp only [Nat.zero_mul,Nat.one_mul,Nat.add_zero,Nat.reduceMul] at x0 y0 z0 x1 y1 z1 x2 y2 z2 x3 y3 z3 x4 y4 z4 x5 y5 z5 x6 y6 z6 x7 y7 z7 x8 y8 z8 x9 y9 z9
    have RX:∀ q∈[⟨xk,xop,xnt,⟨xvk,xvi,xvs⟩,xtab,xnm,xA,xn,xc,xargs,xB,xm,xd,xsub⟩,⟨yk,yop,ynt,⟨yvk,yvi,yvs⟩,ytab,ynm,yA,yn,yc,yargs,yB,ym,yd,ysub⟩,⟨zk,zop,znt,⟨zvk,zvi,zvs⟩,ztab,znm,zA,zn,zc,zargs,zB,zm,zd,zsub⟩],Ro _ _ (ExIn (d+1) q):=fun q hq=>(K1.ro 1 rfl).imp fun w2 h2=>(ExIn.succ.1 h2).1.2 q hq
    have K2:=(K1.add (RX ⟨yk,yop,ynt,⟨yvk,yvi,yvs⟩,ytab,ynm,yA,yn,yc,yargs,yB,ym,yd,ysub⟩ (by simp))).add (S:=ExIn (d+1) ⟨zk,zop,znt,⟨zvk,zvi,zvs⟩,ztab,znm,zA,zn,zc,zargs,zB,zm,zd,zsub⟩) ((RX ⟨zk,zop,znt,⟨zvk,zvi,zvs⟩,ztab,znm,zA,zn,zc,zargs,zB,zm,zd,zsub⟩ (by simp)).less (by simp [ZG,Hp.foot]))
    have hR:R=if Yz ⟨xk,xop,xnt,⟨xvk,xvi,xvs⟩,xtab,xnm,xA,xn,xc,xargs,xB,xm,xd,xsub⟩ atab col∧(ZL ⟨yk,yop,ynt,⟨yvk,yvi,yvs⟩,ytab,ynm,yA,yn,yc,yargs,yB,ym,yd,ysub⟩).2∧(ZL ⟨zk,zop,znt,⟨zvk,zvi,zvs⟩,ztab,znm,zA,zn,zc,zargs,zB,zm,zd,zsub⟩).2 then ((ZL ⟨yk,yop,ynt,⟨yvk,yvi,yvs⟩,ytab,ynm,yA,yn,yc,yargs,yB,ym,yd,ysub⟩).1,(ZL ⟨zk,zop,znt,⟨zvk,zvi,zvs⟩,ztab,znm,zA,zn,zc,zargs,zB,zm,zd,zsub⟩).1,true) else (0,0,false):=by rw [HR.out,if_pos ⟨rfl,rfl⟩]
    clear HR hlen HB RX hx hcx hcy hcz
    cases hI:Yz ⟨xk,xop,xnt,⟨xvk,xvi,xvs⟩,xtab,xnm,xA,xn,xc,xargs,xB,xm,xd,xsub⟩ atab col
    ·have hr:R=(0,0,false):=by rw [hR,if_neg (by simp [hI])]
     clear hR K1
     subst hr
     go_wp2_with fail
     generalize w1.alloc (.cells #[.int .i64 7,.int .i64 eop,.bool ent,.int .i64 evk,.int .i64 evi,.string evs,.string etab,.string enm,.slice (some ⟨b2,o2,none⟩) 3 ec,.slice eB em ed] 126)=wk at *
     go_still_tail 26,(by kernel_rfl)
     change wpList _ _ _ _ _ wk.drew
     go_wp2_with (go_at_call 190;refine (zG _ ⟨xk,xop,xnt,⟨xvk,xvi,xvs⟩,xtab,xnm,xA,xn,xc,xargs,xB,xm,xd,xsub⟩ atab col).mono ?_;rintro e w2 ⟨rfl,bb2⟩;have K3:=K2.drew.call bb2;rw [hI])
     go_wp2_with fail
     refine bodyPost_ret (Y3 rfl _ _ _) rfl ?_
     exact ⟨rfl,K3.below⟩
    ·clear K1
     have HR:=hid (show R=_ from hR)
     clear hR
     go_wp2_with fail
     generalize w1.alloc (.cells #[.int .i64 7,.int .i64 eop,.bool ent,.int .i64 evk,.int .i64 evi,.string evs,.string etab,.string enm,.slice (some ⟨b2,o2,none⟩) 3 ec,.slice eB em ed] 126)=wk at *
     go_still_tail 26,(by kernel_rfl)
     change wpList _ _ _ _ _ wk.drew
     go_wp2_with (go_at_call 190;refine (zG _ ⟨xk,xop,xnt,⟨xvk,xvi,xvs⟩,xtab,xnm,xA,xn,xc,xargs,xB,xm,xd,xsub⟩ atab col).mono ?_;rintro e w2 ⟨rfl,bb2⟩;have K3:=K2.drew.call bb2;have F3:=K3.facts;simp only [zg] at F3;obtain ⟨b3,o3,e3,hb3,hcy,-⟩:=(ExIn.succ.1 (K3.ro 3 rfl).now).1.at_ (k:=1) (x:=⟨yk,yop,ynt,⟨yvk,yvi,yvs⟩,ytab,ynm,yA,yn,yc,yargs,yB,ym,yd,ysub⟩) rfl;simp only [Option.some.injEq,Addr.mk.injEq,and_true] at e3;obtain ⟨rfl,rfl⟩:=e3;have y0:=hcy 0 _ (by omega) rfl;have y1:=hcy 1 _ (by omega) rfl;have y2:=hcy 2 _ (by omega) rfl;have y3:=hcy 3 _ (by omega) rfl;have y4:=hcy 4 _ (by omega) rfl;have y5:=hcy 5 _ (by omega) rfl;have y6:=hcy 6 _ (by omega) rfl;have y7:=hcy 7 _ (by omega) rfl;have y8:=hcy 8 _ (by omega) rfl;have y9:=hcy 9 _ (by omega) rfl;simp only [Nat.one_mul,Nat.add_zero,Nat.reduceMul] at y0 y1 y2 y3 y4 y5 y6 y7 y8 y9;clear hcy;rw [hI])
     have HI:=hid hI
     clear hI
     clear x0 y0 z0 x1 y1 z1 x2 y2 z2 x3 y3 z3 x4 y4 z4 x5 y5 z5 x6 y6 z6 x7 y7 z7 x8 y8 z8 x9 y9 z9 F1 hb2 K2
     refine (ZaL _ _ K3.Zc ⟨yk,yop,ynt,⟨yvk,yvi,yvs⟩,ytab,ynm,yA,yn,yc,yargs,yB,ym,yd,ysub⟩ d (K3.ro 1 rfl)).mono ?_
     rintro e w3 ⟨rfl,bb3⟩
     have K4:=K3.call bb3
     clear y0 y1 y2 y3 y4 y5 y6 y7 y8 y9 F3 hb3 K3 bb3 bb2
     have F4:=K4.facts
     simp only [zg] at F4
     obtain ⟨b3,o3,e3,hb3,hcz,-⟩:=(ExIn.succ.1 (K4.ro 3 rfl).now).1.at_ (k:=2) (x:=⟨zk,zop,znt,⟨zvk,zvi,zvs⟩,ztab,znm,zA,zn,zc,zargs,zB,zm,zd,zsub⟩) rfl
     simp only [Option.some.injEq,Addr.mk.injEq,and_true] at e3
     obtain ⟨rfl,rfl⟩:=e3
     have z0:=hcz 0 _ (by omega) rfl
     have z1:=hcz 1 _ (by omega) rfl
     have z2:=hcz 2 _ (by omega) rfl
     have z3:=hcz 3 _ (by omega) rfl
     have z4:=hcz 4 _ (by omega) rfl
     have z5:=hcz 5 _ (by omega) rfl
     have z6:=hcz 6 _ (by omega) rfl
     have z7:=hcz 7 _ (by omega) rfl
     have z8:=hcz 8 _ (by omega) rfl
     have z9:=hcz 9 _ (by omega) rfl
     simp only [Nat.one_mul,Nat.add_zero,Nat.reduceMul] at z0 z1 z2 z3 z4 z5 z6 z7 z8 z9
     clear hcz
     go_wp2_with fail
     refine (ZaL _ _ K4.Zc ⟨zk,zop,znt,⟨zvk,zvi,zvs⟩,ztab,znm,zA,zn,zc,zargs,zB,zm,zd,zsub⟩ d (K4.ro 0 rfl)).mono ?_
     rintro e w4 ⟨rfl,bb4⟩
     have K5:=K4.call bb4
     clear z0 z1 z2 z3 z4 z5 z6 z7 z8 z9 F4 hb3 K4 bb4
     have HB:=hid K5.below
     clear K5
     obtain ⟨⟨cy,oy⟩,hcy⟩:∃ q,q=ZL ⟨yk,yop,ynt,⟨yvk,yvi,yvs⟩,ytab,ynm,yA,yn,yc,yargs,yB,ym,yd,ysub⟩:=⟨_,rfl⟩
     obtain ⟨⟨cz,oz⟩,hcz⟩:∃ q,q=ZL ⟨zk,zop,znt,⟨zvk,zvi,zvs⟩,ztab,znm,zA,zn,zc,zargs,zB,zm,zd,zsub⟩:=⟨_,rfl⟩
     rw [←hcy,←hcz] at HR
     rw [←hcy,←hcz]
     clear hcy hcz
     have hr:R=if oy=true∧oz=true then (cy,cz,true) else (0,0,false):=by rw [HR.out];simp [HI.out]
     clear HR
     cases oy<;>cases oz
     all_goals
      simp only [Bool.false_eq_true,false_and,and_false,and_self,if_false,if_true] at hr
      subst hr
      go_wp2_with fail
      refine bodyPost_ret (Y3 rfl _ _ _) rfl ?_
      exact ⟨rfl,HB.out⟩
   ·have h3b:((en:Int) !=3)=true:=by simpa using h3
    have hr:R=(0,0,false):=by
     rw [HR.out,if_pos ⟨rfl,rfl⟩]
     match eargs,hlen with
     | [a,b,c],hlen=>simp at hlen;omega
     | [],_=>rfl
     | [_],_=>rfl
     | [_,_],_=>rfl
     | _::_::_::_::_,_=>rfl
    clear K1 HR hlen
    subst hr
    go_wp2_with fail
    go_quiet (fail)
    go_wp2_with fail
    refine bodyPost_ret (Y3 rfl _ _ _) rfl ?_
    exact ⟨by rfl,HB.out _⟩
  ·have h7b:(ek !=7)=true:=by simpa using h7
   have hr:R=(0,0,false):=by rw [HR.out,if_neg (fun h=>h7 h.2)]
   clear K1 HR
   subst hr
   go_wp2_with fail
   go_quiet (fail)
   go_wp2_with fail
   refine bodyPost_ret (Y3 rfl _ _ _) rfl ?_
   exact ⟨by rfl,HB.out _⟩
 ·have hk2:(ak !=2)=true:=by simpa using hk
  have hr:R=(0,0,false):=by rw [HR.out,if_neg (fun h=>hk h.1)]
  clear K1 HR
  subst hr
  go_wp2_with fail
  go_quiet (fail)
  go_wp2_with fail
  refine bodyPost_ret (Y3 rfl _ _ _) rfl ?_
  exact ⟨by rfl,HB.out _⟩
end Go.Proofs.YtnbbllkbefagmaaGreatDoor

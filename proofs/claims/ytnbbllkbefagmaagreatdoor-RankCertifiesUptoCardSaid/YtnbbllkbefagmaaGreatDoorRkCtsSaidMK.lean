import Derived.Test.YtnbbllkbefagmaaGreatDoorRkCtsSaidMG
import Derived.Test.YtnbbllkbefagmaaGreatDoorRkCtsSaidMJ
import Derived.Test.YtnbbllkbefagmaaGreatDoorRkCtsSaidMD
import Derived.Test.YtnbbllkbefagmaaGreatDoorRkCtsSaidME
import Derived.Deep.DeepCutAuto
import Derived.StillTailTactics
import Derived.Test.YtnbbllkbefagmaaGreatDoorRkCtsSaidMF
import Derived.Deep.LoopGhost
import Derived.Test.YtnbbllkbefagmaaGreatDoorRkCtsSaidMH
import Derived.IntWalk
import Derived.Test.YtnbbllkbefagmaaGreatDoorRkCtsSaidMC
import Derived.Laws.BytesArg
import Derived.Deep.CutRange
namespace Go.Proofs.YtnbbllkbefagmaaGreatDoor
open Go.RowKit
set_option linter.unusedVariables false
set_option linter.unusedSimpArgs false
def Zd6 (w:World) (M:Nat→Prop) (s:Sm) (e:Ending) (w' :World):Prop:=∃ fs:SlP Fr,e=.returned fs.v∧fs.n≤fs.c∧fs.n≤2∧(∀ f∈fs.l,f.cols.n=s.cols.n)∧Ro w' M (FrsIn fs)∧Below w.heap.size w w'
set_option maxRecDepth 100000 in
set_option maxHeartbeats 8000000 in
theorem ZaT (M:Nat→Prop) (w:World) (hM:∀ b,M b→b<w.heap.size) (t:Tg) (s:Sm) (hs:Ro w M (ZK s)) (hn:s.cols.n≤1000):Calls Tryz.prog 75 #[t.val,s.val,.slice none 0 0,.slice none 0 0] w fun e w' =>Zd6 w M s e w' :=by
 obtain ⟨tn,tt,tb,te,⟨oA,on,oc,ol⟩,tch,⟨pA,pn,pc,pl⟩,⟨qA,qn,qc,ql⟩,⟨rA,rn,rc,rl⟩,⟨kA,kn,kc,kl⟩,⟨aA,an,ac,al⟩⟩:=t
 obtain ⟨snm,⟨cA,cn,cc,cl⟩⟩:=s
 have hcn:cn≤1000:=hn
 have K0:=((((Hold.start M w hM).add (hs.less (by simp [Mut]))).Za #[.string tn,.string tt,.bool tb,.int .i64 te,.slice oA on oc,.bool tch,.slice pA pn pc,.slice qA qn qc,.slice rA rn rc,.slice kA kn kc,.slice aA an ac] 40).Za #[.string snm,.slice cA cn cc] 49).nil 210 4
 have F0:=K0.facts
 simp only [zg] at F0
 rw [World.size_alloc] at K0
 have KP:Hold M none w _ [.own 210 4 (.slice none 0 0) 0 [],.ro (ZK ⟨snm,⟨cA,cn,cc,cl⟩⟩),.cst w.heap.size 40 #[.string tn,.string tt,.bool tb,.int .i64 te,.slice oA on oc,.bool tch,.slice pA pn pc,.slice qA qn qc,.slice rA rn rc,.slice kA kn kc,.slice aA an ac],.cst (w.heap.size+1) 49 #[.string snm,.slice cA cn cc]]:=K0.pick [0,3,2,1] (by decide) rfl
 simp only [Tg.val,Sm.val]
 clear hs K0
 go_enter Tryz.func75,Tryz.ntmps75
 cases tch
 ·have HB:=hid KP.below
  go_wp2_with fail
  go_ret
  exact ⟨SlP.nil,rfl,Nat.le_refl _,by simp [SlP.nil],fun f hf=>(nomatch hf),fun w2 _ _=>⟨ZR 4 w2,fun _ hx=>(nomatch hx)⟩,HB.out⟩
 ·by_cases e2:te=2
  ·subst e2
   have N1:=KP.nil 158 4
   have H1:=hid (show SlR 4 cA cn (Zd cl) _ from (N1.ro 2 rfl).now.1)
   go_wp2_with (at_builtin;go_must (refine Yy N1 0 rfl Tryz.WH H1.out rfl (.const (.slice none 0 0)) (.tmp 24) rfl rfl rfl (WV cl) (by omega) (by omega) ?_);intro C1 cap1 wA1 hcA1 hmA1 KB1;simp only [Nat.zero_add] at hcA1 ⊢;simp only [Nat.zero_add,List.nil_append,List.set_cons_zero,List.set_cons_succ] at KB1)
   have KS1:=KB1.ZC 0 rfl
   simp only [List.set_cons_zero] at KS1
   refine (UJ (Mut M _) _ KS1.Zc none 0 0 [] (fun w2 _ _=>ZR 3 w2) (by omega)).mono ?_
   rintro e w1 ⟨D1,dn1,dc1,rfl,hd01,hd11,hd21,ro1,b1⟩
   obtain rfl:dn1=0:=by simpa using hd01
   clear hd01
   have KD1:=((KS1.call b1).add ro1).Za #[.string ⟨#[79,76,68]⟩,.bool true,.slice C1 cn cap1,.slice D1 0 dc1] 210
   have FD1:=KD1.facts
   simp only [zg] at FD1
   have E1:=hid (show SlR 4 (some ⟨w1.heap.size,0,none⟩) 1 [.string ⟨#[79,76,68]⟩,.bool true,.slice C1 cn cap1,.slice D1 0 dc1] _ from ((ZJ (KD1.get 0 rfl) rfl:Ro _ _ _).now))
   clear KB1 KS1 b1 ro1
   go_upto_region 4 with (at_builtin;go_must (refine Yy KD1 3 rfl Tryz.WI E1.out rfl (.tmp 22) (.tmp 29) rfl rfl rfl (by intro u hu;simp at hu;rcases hu with rfl|rfl|rfl|rfl<;>rfl) (by omega) (by omega) ?_);intro G1 gc1 wB1 hcB1 hmB1 KE1;(try simp only [Nat.zero_add,Nat.reduceAdd] at hcB1 ⊢);simp only [Nat.zero_add,Nat.reduceAdd,List.nil_append,List.set_cons_zero,List.set_cons_succ] at KE1;(have hf1:Ro _ _ (FrIn ⟨⟨#[79,76,68]⟩,true,⟨C1,cn,cap1,cl⟩,⟨D1,0,dc1,[]⟩⟩):=((KE1.ro 2 rfl).and (KE1.ro 1 rfl)).imp fun w2 h2=>⟨⟨h2.1,fun _ _=>trivial⟩,⟨h2.2,fun _ hx=>(nomatch hx)⟩⟩);(have K1:Hold M none w wB1 [.own 210 4 (.slice G1 1 gc1) 1 [.string ⟨#[79,76,68]⟩,.bool true,.slice C1 cn cap1,.slice D1 0 dc1],.ro (ZK ⟨snm,⟨cA,cn,cc,cl⟩⟩),.cst w.heap.size 40 #[.string tn,.string tt,.bool tb,.int .i64 2,.slice oA on oc,.bool true,.slice pA pn pc,.slice qA qn qc,.slice rA rn rc,.slice kA kn kc,.slice aA an ac],.cst (w.heap.size+1) 49 #[.string snm,.slice cA cn cc],.ro (FrIn ⟨⟨#[79,76,68]⟩,true,⟨C1,cn,cap1,cl⟩,⟨D1,0,dc1,[]⟩⟩)]:=(KE1.add hf1).pick [4,5,6,7,0] (by decide) rfl);(have F1:=K1.facts);simp only [zg] at F1;clear KE1 KD1 FD1 hf1)
   have N2:=K1.nil 158 4
   have H2:=hid (show SlR 4 cA cn (Zd cl) _ from (N2.ro 2 rfl).now.1)
   go_wp2_with (at_builtin;go_must (refine Yy N2 0 rfl Tryz.WH H2.out rfl (.const (.slice none 0 0)) (.tmp 45) rfl rfl rfl (WV cl) (by omega) (by omega) ?_);intro C2 cap2 wA2 hcA2 hmA2 KB2;simp only [Nat.zero_add] at hcA2 ⊢;simp only [Nat.zero_add,List.nil_append,List.set_cons_zero,List.set_cons_succ] at KB2)
   have KS2:=KB2.ZC 0 rfl
   simp only [List.set_cons_zero] at KS2
   refine (UJ (Mut M _) _ KS2.Zc none 0 0 [] (fun w2 _ _=>ZR 3 w2) (by omega)).mono ?_
   rintro e w2 ⟨D2,dn2,dc2,rfl,hd02,hd12,hd22,ro2,b2⟩
   obtain rfl:dn2=0:=by simpa using hd02
   clear hd02
   have KD2:=((KS2.call b2).add ro2).Za #[.string ⟨#[78,69,87]⟩,.bool true,.slice C2 cn cap2,.slice D2 0 dc2] 210
   have FD2:=KD2.facts
   simp only [zg] at FD2
   have E2:=hid (show SlR 4 (some ⟨w2.heap.size,0,none⟩) 1 [.string ⟨#[78,69,87]⟩,.bool true,.slice C2 cn cap2,.slice D2 0 dc2] _ from ((ZJ (KD2.get 0 rfl) rfl:Ro _ _ _).now))
   clear KB2 KS2 b2 ro2
   go_wp2_with (at_builtin;go_must (refine Yy KD2 3 rfl Tryz.WI E2.out rfl (.tmp 43) (.tmp 50) rfl rfl rfl (by intro u hu;simp at hu;rcases hu with rfl|rfl|rfl|rfl<;>rfl) (by omega) (by omega) ?_);intro G2 gc2 wB2 hcB2 hmB2 KE2;(try simp only [Nat.zero_add,Nat.reduceAdd] at hcB2 ⊢);simp only [Nat.zero_add,Nat.reduceAdd,List.nil_append,List.set_cons_zero,List.set_cons_succ] at KE2;(have hf2:Ro _ _ (FrIn ⟨⟨#[78,69,87]⟩,true,⟨C2,cn,cap2,cl⟩,⟨D2,0,dc2,[]⟩⟩):=((KE2.ro 2 rfl).and (KE2.ro 1 rfl)).imp fun w2 h2=>⟨⟨h2.1,fun _ _=>trivial⟩,⟨h2.2,fun _ hx=>(nomatch hx)⟩⟩);(have K2:Hold M none w wB2 [.own 210 4 (.slice G2 2 gc2) 2 [.string ⟨#[79,76,68]⟩,.bool true,.slice C1 cn cap1,.slice D1 0 dc1,.string ⟨#[78,69,87]⟩,.bool true,.slice C2 cn cap2,.slice D2 0 dc2],.ro (ZK ⟨snm,⟨cA,cn,cc,cl⟩⟩),.cst w.heap.size 40 #[.string tn,.string tt,.bool tb,.int .i64 2,.slice oA on oc,.bool true,.slice pA pn pc,.slice qA qn qc,.slice rA rn rc,.slice kA kn kc,.slice aA an ac],.cst (w.heap.size+1) 49 #[.string snm,.slice cA cn cc],.ro (FrIn ⟨⟨#[79,76,68]⟩,true,⟨C1,cn,cap1,cl⟩,⟨D1,0,dc1,[]⟩⟩),.ro (FrIn ⟨⟨#[78,69,87]⟩,true,⟨C2,cn,cap2,cl⟩,⟨D2,0,dc2,[]⟩⟩)]:=(KE2.add hf2).pick [4,5,6,7,8,0] (by decide) rfl);(have F2:=K2.facts);simp only [zg] at F2;clear KE2 KD2 FD2 hf2)
   have KZ:=K2.ZC 0 rfl
   simp only [List.set_cons_zero] at KZ
   have HB:=hid KZ.below
   have hR:Ro _ _ (FrsIn ⟨G2,2,gc2,[⟨⟨#[79,76,68]⟩,true,⟨C1,cn,cap1,cl⟩,⟨D1,0,dc1,[]⟩⟩,⟨⟨#[78,69,87]⟩,true,⟨C2,cn,cap2,cl⟩,⟨D2,0,dc2,[]⟩⟩]⟩):=((KZ.ro 0 rfl).and ((KZ.ro 4 rfl).and (KZ.ro 5 rfl))).imp (fun w2 h2=>⟨h2.1,fun f hf=>by
      simp only [List.mem_cons,List.not_mem_nil,or_false] at hf
      rcases hf with rfl|rfl
      ·exact h2.2.1
      ·exact h2.2.2⟩)
   have HR:=hid (hR.less zm)
   clear KZ hR
   go_wp2_with fail
   go_ret
   exact ⟨⟨G2,2,gc2,[⟨⟨#[79,76,68]⟩,true,⟨C1,cn,cap1,cl⟩,⟨D1,0,dc1,[]⟩⟩,⟨⟨#[78,69,87]⟩,true,⟨C2,cn,cap2,cl⟩,⟨D2,0,dc2,[]⟩⟩]⟩,rfl,by simpa using hcB2,by simp,fun f hf=>by
     simp only [List.mem_cons,List.not_mem_nil,or_false] at hf
     rcases hf with rfl|rfl<;>rfl,HR.out,HB.out⟩
  ·by_cases e3:te=3
   ·subst e3
    have N1:=KP.nil 158 4
    have H1:=hid (show SlR 4 cA cn (Zd cl) _ from (N1.ro 2 rfl).now.1)
    go_wp2_with (at_builtin;go_must (refine Yy N1 0 rfl Tryz.WH H1.out rfl (.const (.slice none 0 0)) (.tmp 24) rfl rfl rfl (WV cl) (by omega) (by omega) ?_);intro C1 cap1 wA1 hcA1 hmA1 KB1;simp only [Nat.zero_add] at hcA1 ⊢;simp only [Nat.zero_add,List.nil_append,List.set_cons_zero,List.set_cons_succ] at KB1)
    have KS1:=KB1.ZC 0 rfl
    simp only [List.set_cons_zero] at KS1
    refine (UJ (Mut M _) _ KS1.Zc none 0 0 [] (fun w2 _ _=>ZR 3 w2) (by omega)).mono ?_
    rintro e w1 ⟨D1,dn1,dc1,rfl,hd01,hd11,hd21,ro1,b1⟩
    obtain rfl:dn1=0:=by simpa using hd01
    clear hd01
    have KD1:=((KS1.call b1).add ro1).Za #[.string ⟨#[79,76,68]⟩,.bool true,.slice C1 cn cap1,.slice D1 0 dc1] 210
    have FD1:=KD1.facts
    simp only [zg] at FD1
    have E1:=hid (show SlR 4 (some ⟨w1.heap.size,0,none⟩) 1 [.string ⟨#[79,76,68]⟩,.bool true,.slice C1 cn cap1,.slice D1 0 dc1] _ from ((ZJ (KD1.get 0 rfl) rfl:Ro _ _ _).now))
    clear KB1 KS1 b1 ro1
    go_wp2_with (at_builtin;go_must (refine Yy KD1 3 rfl Tryz.WI E1.out rfl (.tmp 22) (.tmp 29) rfl rfl rfl (by intro u hu;simp at hu;rcases hu with rfl|rfl|rfl|rfl<;>rfl) (by omega) (by omega) ?_);intro G1 gc1 wB1 hcB1 hmB1 KE1;(try simp only [Nat.zero_add,Nat.reduceAdd] at hcB1 ⊢);simp only [Nat.zero_add,Nat.reduceAdd,List.nil_append,List.set_cons_zero,List.set_cons_succ] at KE1;(have hf1:Ro _ _ (FrIn ⟨⟨#[79,76,68]⟩,true,⟨C1,cn,cap1,cl⟩,⟨D1,0,dc1,[]⟩⟩):=((KE1.ro 2 rfl).and (KE1.ro 1 rfl)).imp fun w2 h2=>⟨⟨h2.1,fun _ _=>trivial⟩,⟨h2.2,fun _ hx=>(nomatch hx)⟩⟩);(have K1:Hold M none w wB1 [.own 210 4 (.slice G1 1 gc1) 1 [.string ⟨#[79,76,68]⟩,.bool true,.slice C1 cn cap1,.slice D1 0 dc1],.ro (ZK ⟨snm,⟨cA,cn,cc,cl⟩⟩),.cst w.heap.size 40 #[.string tn,.string tt,.bool tb,.int .i64 3,.slice oA on oc,.bool true,.slice pA pn pc,.slice qA qn qc,.slice rA rn rc,.slice kA kn kc,.slice aA an ac],.cst (w.heap.size+1) 49 #[.string snm,.slice cA cn cc],.ro (FrIn ⟨⟨#[79,76,68]⟩,true,⟨C1,cn,cap1,cl⟩,⟨D1,0,dc1,[]⟩⟩)]:=(KE1.add hf1).pick [4,5,6,7,0] (by decide) rfl);(have F1:=K1.facts);simp only [zg] at F1;clear KE1 KD1 FD1 hf1)
    have KZ:=K1.ZC 0 rfl
    simp only [List.set_cons_zero] at KZ
    have HB:=hid KZ.below
    have hR:Ro _ _ (FrsIn ⟨G1,1,gc1,[⟨⟨#[79,76,68]⟩,true,⟨C1,cn,cap1,cl⟩,⟨D1,0,dc1,[]⟩⟩]⟩):=((KZ.ro 0 rfl).and (KZ.ro 4 rfl)).imp (fun w2 h2=>⟨h2.1,fun f hf=>by
       simp only [List.mem_cons,List.not_mem_nil,or_false] at hf
       subst hf
       exact h2.2⟩)
    have HR:=hid (hR.less zm)
    clear KZ hR
    go_wp2_with fail
    go_ret
    exact ⟨⟨G1,1,gc1,[⟨⟨#[79,76,68]⟩,true,⟨C1,cn,cap1,cl⟩,⟨D1,0,dc1,[]⟩⟩]⟩,rfl,by simpa using hcB1,by simp,fun f hf=>by
      simp only [List.mem_cons,List.not_mem_nil,or_false] at hf
      subst hf
      rfl,HR.out,HB.out⟩
   ·by_cases e1:te=1
    ·subst e1
     have N1:=KP.nil 158 4
     have H1:=hid (show SlR 4 cA cn (Zd cl) _ from (N1.ro 2 rfl).now.1)
     go_wp2_with (at_builtin;go_must (refine Yy N1 0 rfl Tryz.WH H1.out rfl (.const (.slice none 0 0)) (.tmp 45) rfl rfl rfl (WV cl) (by omega) (by omega) ?_);intro C1 cap1 wA1 hcA1 hmA1 KB1;simp only [Nat.zero_add] at hcA1 ⊢;simp only [Nat.zero_add,List.nil_append,List.set_cons_zero,List.set_cons_succ] at KB1)
     have KS1:=KB1.ZC 0 rfl
     simp only [List.set_cons_zero] at KS1
     refine (UJ (Mut M _) _ KS1.Zc none 0 0 [] (fun w2 _ _=>ZR 3 w2) (by omega)).mono ?_
     rintro e w1 ⟨D1,dn1,dc1,rfl,hd01,hd11,hd21,ro1,b1⟩
     obtain rfl:dn1=0:=by simpa using hd01
     clear hd01
     have KD1:=((KS1.call b1).add ro1).Za #[.string ⟨#[78,69,87]⟩,.bool true,.slice C1 cn cap1,.slice D1 0 dc1] 210
     have FD1:=KD1.facts
     simp only [zg] at FD1
     have E1:=hid (show SlR 4 (some ⟨w1.heap.size,0,none⟩) 1 [.string ⟨#[78,69,87]⟩,.bool true,.slice C1 cn cap1,.slice D1 0 dc1] _ from ((ZJ (KD1.get 0 rfl) rfl:Ro _ _ _).now))
     clear KB1 KS1 b1 ro1
     go_wp2_with (at_builtin;go_must (refine Yy KD1 3 rfl Tryz.WI E1.out rfl (.tmp 43) (.tmp 50) rfl rfl rfl (by intro u hu;simp at hu;rcases hu with rfl|rfl|rfl|rfl<;>rfl) (by omega) (by omega) ?_);intro G1 gc1 wB1 hcB1 hmB1 KE1;(try simp only [Nat.zero_add,Nat.reduceAdd] at hcB1 ⊢);simp only [Nat.zero_add,Nat.reduceAdd,List.nil_append,List.set_cons_zero,List.set_cons_succ] at KE1;(have hf1:Ro _ _ (FrIn ⟨⟨#[78,69,87]⟩,true,⟨C1,cn,cap1,cl⟩,⟨D1,0,dc1,[]⟩⟩):=((KE1.ro 2 rfl).and (KE1.ro 1 rfl)).imp fun w2 h2=>⟨⟨h2.1,fun _ _=>trivial⟩,⟨h2.2,fun _ hx=>(nomatch hx)⟩⟩);(have K1:Hold M none w wB1 [.own 210 4 (.slice G1 1 gc1) 1 [.string ⟨#[78,69,87]⟩,.bool true,.slice C1 cn cap1,.slice D1 0 dc1],.ro (ZK ⟨snm,⟨cA,cn,cc,cl⟩⟩),.cst w.heap.size 40 #[.string tn,.string tt,.bool tb,.int .i64 1,.slice oA on oc,.bool true,.slice pA pn pc,.slice qA qn qc,.slice rA rn rc,.slice kA kn kc,.slice aA an ac],.cst (w.heap.size+1) 49 #[.string snm,.slice cA cn cc],.ro (FrIn ⟨⟨#[78,69,87]⟩,true,⟨C1,cn,cap1,cl⟩,⟨D1,0,dc1,[]⟩⟩)]:=(KE1.add hf1).pick [4,5,6,7,0] (by decide) rfl);(have F1:=K1.facts);simp only [zg] at F1;clear KE1 KD1 FD1 hf1)
     have KZ:=K1.ZC 0 rfl
     simp only [List.set_cons_zero] at KZ
     have HB:=hid KZ.below
     have hR:Ro _ _ (FrsIn ⟨G1,1,gc1,[⟨⟨#[78,69,87]⟩,true,⟨C1,cn,cap1,cl⟩,⟨D1,0,dc1,[]⟩⟩]⟩):=((KZ.ro 0 rfl).and (KZ.ro 4 rfl)).imp (fun w2 h2=>⟨h2.1,fun f hf=>by
        simp only [List.mem_cons,List.not_mem_nil,or_false] at hf
        subst hf
        exact h2.2⟩)
     have HR:=hid (hR.less zm)
     clear KZ hR
     go_wp2_with fail
     go_ret
     exact ⟨⟨G1,1,gc1,[⟨⟨#[78,69,87]⟩,true,⟨C1,cn,cap1,cl⟩,⟨D1,0,dc1,[]⟩⟩]⟩,rfl,by simpa using hcB1,by simp,fun f hf=>by
       simp only [List.mem_cons,List.not_mem_nil,or_false] at hf
       subst hf
       rfl,HR.out,HB.out⟩
    ·have c2:(te==2)=false:=by simpa using e2
     have c3:(te==3)=false:=by simpa using e3
     have c1:(te==1)=false:=by simpa using e1
     have HB:=hid KP.below
     go_wp2_with fail
     go_ret
     exact ⟨SlP.nil,rfl,Nat.le_refl _,by simp [SlP.nil],fun f hf=>(nomatch hf),(fun w2 _ _=>⟨ZR 4 w2,fun _ hx=>(nomatch hx)⟩),HB.out⟩
theorem ZaI {cs:List Col} {nx nx' :Int} (h:nx≤nx'):∀ {lst:Int} {rs:List Row},okR cs nx lst rs=true→okR cs nx' lst rs=true
 | _,[],_=>rfl
 | lst,r::rs,hr=>by
  rw [okR] at hr ⊢
  simp only [Bool.and_eq_true,decide_eq_true_eq] at hr ⊢
  exact ⟨⟨⟨hr.1.1.1,by omega⟩,hr.1.2⟩,ZaI h hr.2⟩
theorem Gf {cs:List Col} {nx nx' :Int} {vs:List Vl} (hf:Wh cs vs=0) (hx:nx<nx'):∀ {lst:Int} {rs:List Row},lst<nx→okR cs nx lst rs=true→okR cs nx' lst (rs++[(nx,vs)])=true
 | lst,[],hl,_=>by
  simp only [List.nil_append,okR,Bool.and_eq_true,decide_eq_true_eq,Bool.and_true]
  exact ⟨⟨hl,hx⟩,hf⟩
 | lst,r::rs,hl,hr=>by
  rw [okR] at hr
  rw [List.cons_append,okR]
  simp only [Bool.and_eq_true,decide_eq_true_eq] at hr ⊢
  exact ⟨⟨⟨hr.1.1.1,by omega⟩,hr.1.2⟩,Gf hf hx (by omega) hr.2⟩
def Xk (κ:Nat) (l:List (List Vl)):List Vl:=l.filterMap (·[κ]?)
theorem QY {κ:Nat}:∀ (l:List (List Vl)) (seen:List Vl),XB κ seen l=false↔(∀ v∈Xk κ l,v ∉ seen)∧(Xk κ l).Nodup
 | [],seen=>by simp [XB,Xk]
 | r::l,seen=>by
  have h0:(0:Int)≤(κ:Int):=by omega
  rw [XB,if_pos h0]
  simp only [Int.toNat_natCast]
  cases hr:r[κ]? with
  | none=>
   have e:Xk κ (r::l)=Xk κ l:=by simp [Xk,hr]
   rw [e]
   simpa using QY l seen
  | some v=>
   have e:Xk κ (r::l)=v::Xk κ l:=by simp [Xk,hr]
   rw [e]
   simp only
   by_cases hv:v∈seen
   ·simp [hv]
   ·rw [if_neg hv,QY l (v::seen)]
    simp only [List.mem_cons,not_or,List.nodup_cons,List.forall_mem_cons]
    constructor
    ·rintro ⟨h1,h2⟩
     refine ⟨fun x hx=>?_,fun hm=>(h1 v hm).1 rfl,h2⟩
     rcases hx with rfl|hx
     ·exact hv
     ·exact (h1 x hx).2
    ·rintro ⟨h1,h2,h3⟩
     exact ⟨fun x hx=>⟨fun hxv=>h2 (hxv ▸ hx),h1 x (.inr hx)⟩,h3⟩
theorem Zff {κ:Nat} {l:List (List Vl)} {vs:List Vl} (h:XB κ [] l=false) (hn:∀ x∈l,x[κ]? =none∨x[κ]? ≠vs[κ]?):XB κ [] (l++[vs])=false:=by
 rw [QY] at h ⊢
 refine ⟨fun v _ hv=>(List.not_mem_nil hv),?_⟩
 have e:Xk κ (l++[vs])=Xk κ l++(vs[κ]?).toList:=by
  unfold Xk
  rw [List.filterMap_append]
  congr 1
 rw [e]
 cases hv:vs[κ]? with
 | none=>simpa using h.2
 | some v=>
  simp only [Option.toList_some]
  rw [List.nodup_append]
  refine ⟨h.2,by simp,fun x hx y hy=>?_⟩
  simp only [List.mem_singleton] at hy
  subst hy
  rintro rfl
  obtain ⟨r,hr,hrx⟩:=List.mem_filterMap.1 hx
  rcases hn r hr with h1|h1
  ·rw [h1] at hrx;cases hrx
  ·exact h1 (hrx.trans hv.symm)
theorem ZeX {cs:List Col} {rs:List Row} {id:Int} {vs:List Vl} (h:WP cs rs=false) (hn:Zr Col.key cs<0∨∀ x∈rs,x.2[(Zr Col.key cs).toNat]? =none∨x.2[(Zr Col.key cs).toNat]? ≠vs[(Zr Col.key cs).toNat]?):WP cs (rs++[(id,vs)])=false:=by
 rcases Int.lt_or_le (Zr Col.key cs) 0 with hk|hk
 ·exact GX hk _ _
 ·obtain ⟨κ,hκ⟩:=Int.eq_ofNat_of_zero_le hk
  have hn2:=hn.resolve_left (by omega)
  unfold WP at h ⊢
  rw [hκ] at h hn2 ⊢
  rw [List.map_append]
  exact Zff h fun x hx=>by
   obtain ⟨r,hr,rfl⟩:=List.mem_map.1 hx
   exact hn2 r hr
theorem Za2 {α:Type} (p:α→Bool):∀ (l:List α) (k f:Nat),ZN p k l=(f:Int)→k≤f∧f<k+l.length
 | [],k,f,h=>by rw [ZN] at h;omega
 | c::r,k,f,h=>by
  rw [ZN] at h
  split at h
  ·simp only [List.length_cons];omega
  ·have:=Za2 p r (k+1) f h
   simp only [List.length_cons];omega
theorem ZeE {cs:List Col} {κ:Nat} (h:(κ:Int)=Zr Col.key cs):κ<cs.length:=by
 have:=Za2 Col.key cs 0 κ h.symm
 omega
def Ux (cs:List Col):Prop:=∀ (i:Nat) (c:Col),cs[i]? =some c→c.key=true→Zr Col.key cs=i
theorem ZfT {nm:ByteArray} {cs:List Col} {nx:Int} {rs:List Row} (h1:Yi nm cs=true) (h2:rs.length≤100) (h3:1≤nx) (h4:nx≤2147483648) (h5:okR cs nx 0 rs=true) (h6:WP cs rs=false):VJ nm cs nx rs=true:=by
 rw [Zgb h1 h2 h3 h4 h5,h6];rfl
theorem Ro.Zbv {w:World} {M:Nat→Prop} {A:Option Addr} {n:Nat} {l:List Vl} (h:Ro w M (VlsIn A n l)) {k:Nat} {x:Vl} (hx:l[k]? =some x):
  ∃ b o,A=some ⟨b,o,none⟩∧Ro w M (fun w=>b<w.heap.size∧w.cell? ⟨b,o+k * 3,none⟩=some (.int .i64 x.k)∧w.cell? ⟨b,o+k * 3+1,none⟩=some (.int .i64 x.i)∧w.cell? ⟨b,o+k * 3+2,none⟩=some (.string x.s)):=by
 obtain ⟨b,o,e,_⟩:=h.now.at_ hx
 refine ⟨b,o,e,fun w2 h1 h2=>?_⟩
 obtain ⟨b',o',e',h3,h4,h5,h6⟩:=(h w2 h1 h2).at_ hx
 rw [e] at e'
 injection e' with e'
 injection e' with e1 e2
 subst e1;subst e2
 exact ⟨h3,h4,h5,h6⟩
theorem Hold.name {M:Nat→Prop} {row:Option Nat} {w0 w:World} {L:List Hp} (h:Hold M row w0 w L):∃ KL,KL=L∧Hold M row w0 w KL:=⟨L,rfl,h⟩


theorem zW {cs:List Col} {nx:Int}:∀ {lst:Int} {rs:List Row},okR cs nx lst rs=true→∀ r∈rs,Wh cs r.2=0
 | _,[],_,r,hr=>nomatch hr
 | lst,x::rs,h,r,hr=>by
  rw [okR] at h
  simp only [Bool.and_eq_true,decide_eq_true_eq] at h
  rcases List.mem_cons.1 hr with rfl|hr
  ·exact h.1.2
  ·exact zW h.2 r hr
theorem Zcx {cs:List Col} {vs:List Vl} (h:Wh cs vs=0):vs.length=cs.length:=by
 unfold Wh at h
 split at h
 ·assumption
 ·omega
def Zgi (w:World) (T:Nat) (M:Nat→Prop) (nm:ByteArray) (cs:List Col) (N:Nat) (e:Ending) (w' :World):Prop:=
 ∃ (v:Value) (nx:Int) (rs:List Row),e=.returned v∧Ju w' M v ⟨nm,cs,nx,rs⟩∧VJ nm cs nx rs=true∧rs.length≤N∧Tp w' T∧w.grownBy w' (some T)
theorem XA {M:Nat→Prop} {L:List Hp} {T i:Nat} (hi:L[i]? =some (.tp T)):∀ b,Mut (Mut M L) [.tp T] b→Mut M L b:=fun b hb=>by
 rcases hb with hb|⟨k,hk,hf⟩
 ·exact hb
 ·simp only [List.mem_singleton] at hk
  subst hk
  exact .inr ⟨_,List.mem_of_getElem? hi,hf⟩
theorem JW {α:Type} {p:α→Bool}:∀ (l:List α) (k:Nat),(∀ (i:Nat) (x:α),l[i]? =some x→p x=false)→ZN p k l=-1
 | [],_,_=>rfl
 | x::l,k,h=>by
  rw [ZN,if_neg (by rw [h 0 x rfl];simp)]
  exact JW l (k+1) fun i y hy=>h (i+1) y (by simpa using hy)
def Uf (cs:List Col) (k:Nat) (q:Int):Prop:=(q=-1∧∀ i x,i<k→cs[i]? =some x→x.key=false)∨(0≤q∧q=Zr Col.key cs)
theorem Zec {cs:List Col} {q:Int} (h:Uf cs cs.length q):q=Zr Col.key cs:=by
 rcases h with ⟨rfl,h⟩|⟨_,h⟩
 ·exact (JW cs 0 fun i x hx=>h i x (List.getElem?_eq_some_iff.1 hx).1 hx).symm
 ·exact h
theorem Zgy {cs:List Col} {k:Nat} {q:Int} {x:Col} (h:Uf cs k q) (hx:cs[k]? =some x) (hk:x.key=false):Uf cs (k+1) q:=by
 rcases h with ⟨rfl,h⟩|h
 ·refine .inl ⟨rfl,fun i y hi hy=>?_⟩
  rcases Nat.lt_or_ge i k with h' |h'
  ·exact h i y h' hy
  ·obtain rfl:i=k:=by omega
   rw [hx] at hy
   injection hy with hy
   rw [←hy];exact hk
 ·exact .inr h
theorem ZbT {cs:List Col} {k:Nat} {x:Col} (ho:Ux cs) (hx:cs[k]? =some x) (hk:x.key=true):Uf cs (k+1) (k:Int):=.inr ⟨by omega,(ho k x hx hk).symm⟩
structure RowsOk (cs:List Col) (nx:Int) (rs:List Rw):Prop where
 ok:okR cs nx 0 (rs.map Rw.row)=true
 dup:WP cs (rs.map Rw.row)=false
 rok:∀ r∈rs,r.ok
def Wl (q:Int) (rs:List Rw) (vr:List Vl) (fr:Bool):Prop:=fr=true→q<0∨∀ x∈rs,x.vs[q.toNat]? ≠vr[q.toNat]?
theorem ZcR {q:Int} {rs:List Rw} {vr:List Vl} {fr:Bool} (h:q<0):Wl q rs vr fr:=fun _=>.inl h
theorem Zcn {q:Int} {rs:List Rw} {vr:List Vl}:Wl q rs vr false:=fun h=>nomatch h
theorem Zgu {q:Nat} {rs:List Rw} {vr:List Vl} {j:Nat} {x:Rw} {vx vy:Vl} {fr:Bool} (hx:rs[j]? =some x) (h1:x.vs[q]? =some vx) (h2:vr[q]? =some vy) (h:Wl q (rs.take j) vr true) (hf:fr=decide (vx≠vy)):Wl q (rs.take (j+1)) vr fr:=by
 intro hfr
 rw [hfr] at hf
 have hne:vx≠vy:=of_decide_eq_true hf.symm
 refine .inr fun y hy=>?_
 rw [List.take_add_one,hx] at hy
 rcases List.mem_append.1 hy with hy|hy
 ·exact (h rfl).resolve_left (by omega) y hy
 ·simp at hy
  subst hy
  simp only [Int.toNat_natCast]
  rw [h1,h2]
  intro e
  injection e with e
  exact hne e
theorem Zb0 {cs:List Col} {nx nx' :Int} {rs:List Rw} {x:Rw} (h:RowsOk cs nx rs) (hid:x.id=nx) (h1:0<nx) (h2:nx<nx') (hf:Wh cs x.vs=0) (hok:x.ok) (hfr:Zr Col.key cs<0∨∀ y∈rs,y.vs[(Zr Col.key cs).toNat]? ≠x.vs[(Zr Col.key cs).toNat]?):RowsOk cs nx' (rs++[x]):=by
 refine ⟨?_,?_,fun y hy=>?_⟩
 ·rw [List.map_append]
  show okR cs nx' 0 (rs.map Rw.row++[(x.id,x.vs)])=true
  rw [hid]
  exact Gf hf h2 h1 h.ok
 ·rw [List.map_append]
  refine ZeX (id:=x.id) (vs:=x.vs) h.dup (hfr.imp (fun h=>h) fun h y hy=>?_)
  obtain ⟨z,hz,rfl⟩:=List.mem_map.1 hy
  exact .inr (h z hz)
 ·rcases List.mem_append.1 hy with hy|hy
  ·exact h.rok y hy
  ·simp at hy;subst hy;exact hok
theorem Zhd {cs:List Col} {nx nx' :Int} {rs:List Rw} (h:RowsOk cs nx rs) (h2:nx≤nx'):RowsOk cs nx' rs:=⟨ZaI h2 h.ok,h.dup,h.rok⟩
set_option maxHeartbeats 4000000 in
set_option maxRecDepth 100000 in
theorem ZgC (M:Nat→Prop) (T:Nat) (w:World) (hM:∀ b,M b→b<w.heap.size) (ht:Tp w T) (hMT:∀ b,M b→T≤b) (nm:ByteArray) (A:Option Addr) (n c:Nat) (cs:List Col) (N:Nat) (hD:Ro w (Mut M [.tp T]) (ColsIn A n cs)) (hW:Ro w (Mut M [.tp T]) Wds) (hT:1<T)
  (hn:n≤1000) (hnc:n≤c) (hc:c≤9223372036854775807) (hok:∀ x∈cs,VY x) (hsch:Yi nm cs=true) (hkey:Ux cs) (hN:N≤50):Calls Tryz.prog 60 #[.pointer (some ⟨T,0,none⟩),.agg #[.string nm,.slice A n c],.int .i64 N] w fun e w' =>Zgi w T M nm cs N e w' :=by
 have HL:=hid (Jw hD.now)
 have HOKC:=hid hok
 have HKEY:=hid hkey
 have HSCH:=hid hsch
 clear hok hkey hsch
 have K0:=((((Hold.YY M w T hM ht hMT).add hD).add (hW.less (XF rfl))).Za #[.string nm,.slice A n c] 49).alloc #[.string ⟨#[]⟩,.slice none 0 0,.int .i64 0,.slice none 0 0] 67
 rw [World.size_alloc] at K0
 clear hD hW
 go_enter Tryz.func60,Tryz.ntmps60
 go_wp2_with fail
 obtain ⟨gs,hgs⟩:∃ gs,gs=w.heap.size:=⟨_,rfl⟩
 obtain ⟨g6,hg6⟩:∃ g6,g6=gs+1:=⟨_,rfl⟩
 rw [←hgs,←hg6] at K0 ⊢
 generalize (w.alloc _).alloc _=w1 at K0 ⊢
 have HGS:=hid hgs
 have HG6:=hid hg6
 clear hgs hg6
 obtain ⟨H,hH⟩:∃ H,H=w1.drew.heap.size:=⟨_,rfl⟩
 have HH:=hid hH
 clear hH
 refine wp_region_any (by kernel_rfl) ?_
 refine ZH 6 90 ([.blk g6 67 #[.string ⟨#[]⟩,.slice none 0 0,.int .i64 0,.slice none 0 0],.cst gs 49 #[.string nm,.slice A n c],.ro Wds,.ro (ColsIn A n cs),.tp T]) (spL [(18,fun u _=>Z6 3 u),(7,Yf (Mut M ([.blk g6 67 #[.string ⟨#[]⟩,.slice none 0 0,.int .i64 0,.slice none 0 0],.cst gs 49 #[.string nm,.slice A n c],.ro Wds,.ro (ColsIn A n cs),.tp T])) H 67 #[.string ⟨#[]⟩,.slice none 0 0,.int .i64 0,.slice none 0 0])]) (by kernel_rfl) (by kernel_rfl) (by kernel_rfl) rfl ?_ (K0.drew) ?_
 ·exact Ze (fun _ _ _ _ h=>h) (Ze Wv (ZF _))
 simp only [zd,Act.put,List.getElem_toArray,List.getElem_cons_zero,List.getElem_cons_succ,zl]
 refine' dv rfl rfl rfl (fun wv HC=>?_) ?_;rotate_left
 ·have FC:=HC.facts;simp only [factsL,Zm,Nat.reduceAdd,List.toList_toArray,and_true,true_and] at FC;go_simp<;>rfl
 simp only [Act.put,zl]
 refine' dv rfl rfl rfl (fun wv HC=>?_) ?_;rotate_left
 · go_simp<;>rfl
 simp only [Act.put,zl]
 refine Yk 3 4 rfl 18 rfl rfl rfl rfl (fun wv=>?_) ?_
 ·go_simp<;>rfl
 rintro r hr
 simp only [Act.put,zl]
 have s1:IntKind.i64.wrap (1+(r:Int))=1+(r:Int):=by rw [IntKind.wrap_i64];omega
 iterate 2
  refine' dv rfl rfl rfl (fun wv HC=>?_) ?_;rotate_left
  · go_simp<;>rfl
  simp only [Act.put,zl]
 refine Ye #[.string ⟨#[]⟩,.slice none 0 0,.int .i64 0,.slice none 0 0] 67 7 (Yf (Mut M ([.blk g6 67 #[.string ⟨#[]⟩,.slice none 0 0,.int .i64 0,.slice none 0 0],.cst gs 49 #[.string nm,.slice A n c],.ro Wds,.ro (ColsIn A n cs),.tp T])) H 67 #[.string ⟨#[]⟩,.slice none 0 0,.int .i64 0,.slice none 0 0]) (fun g=>.pointer (some ⟨g,0,none⟩)) rfl rfl rfl rfl (fun wv=>?_) (fun wv HC hrm hD hro=>?_) ?_
 ·go_simp<;>rfl
 ·exact ⟨_,rfl,by have:=hrm.1;rw [HH.out];exact this,hro _ HC.Zc⟩
 rintro g7 wg HCg hsl
 simp only [Act.put,zl]
 clear hsl HCg s1
 refine ZE ?_
 rintro wx1 HX
 rintro _hrm HGW
 have hns:Yf (Mut M ([.blk g6 67 #[.string ⟨#[]⟩,.slice none 0 0,.int .i64 0,.slice none 0 0],.cst gs 49 #[.string nm,.slice A n c],.ro Wds,.ro (ColsIn A n cs),.tp T])) H 67 #[.string ⟨#[]⟩,.slice none 0 0,.int .i64 0,.slice none 0 0] (.pointer (some ⟨g7,0,none⟩)) wx1:=(Zp (d:=7) rfl).1 (HGW 5 _ rfl (by omega))
 clear HGW
 obtain ⟨gq,hgq,hgH,hgB⟩:=hns
 obtain rfl:g7=gq:=by injection hgq with hgq;injection hgq with hgq;injection hgq
 clear hgq
 rw [HH.out] at hgH
 have HB:=Hold.WJ K0.drew HX _hrm hgH hgB.now
 clear hgB hgH HX _hrm K0 HH
 have FB:=HB.facts
 simp only [factsL,Zm,Nat.reduceAdd,List.toList_toArray,and_true,true_and] at FB
 have K1:=(((HB.store 0 rfl 0 (.string nm)).store 0 rfl 1 (.slice A n c)).store 0 rfl 2 (.int .i64 (1+(r:Int)))).store 0 rfl 3 (.slice none 0 0)
 have F1:=K1.facts
 simp only [zg] at F1
 simp only [zl] at K1
 clear HB
 go_wp2_with fail
 generalize (((wx1.setCell _ _).setCell _ _).setCell _ _).setCell _ _=w2 at K1 ⊢
 clear F1 FB
 go_loopw [8,24] (fun qv iv wr=>∃ (k:Nat) (q:Int),k≤n∧iv=.int .i64 k∧qv=.int .i64 q∧Hid (Uf cs k q)∧Hold M (some T) w wr ([.blk g7 67 #[.string nm,.slice A n c,.int .i64 (1+(r:Int)),.slice none 0 0],.blk g6 67 #[.string ⟨#[]⟩,.slice none 0 0,.int .i64 0,.slice none 0 0],.cst gs 49 #[.string nm,.slice A n c],.ro Wds,.ro (ColsIn A n cs),.tp T])) (fun _ iv _=>n - (intOf iv).toNat)
 case atStart=>exact ⟨0,-1,by omega,rfl,rfl,hid (.inl ⟨rfl,fun i x hi=>absurd hi (by omega)⟩),K1⟩
 case round=>
  clear K1
  obtain ⟨k,q,hk,rfl,rfl,HQ,H⟩:=hrel
  by_cases hlt:k<n
  ·have hd:decide ((k:Int)<(n:Int))=true:=by simp;omega
   have k0:(0:Int)≤(k:Int):=by omega
   have k1:(k:Int)<(n:Int):=by omega
   obtain ⟨⟨xn,xt,xnn,xk⟩,hx⟩:=YC HL.out hlt
   obtain ⟨g,o,rfl,hgb,c0,c1,c2,c3⟩:=(RdC.Zw (H.ro 4 rfl).now).at_ hx
   dsimp only at c0 c1 c2 c3
   have HX:=hid hx
   clear hx
   have K2:=H.Za #[.string xn,.int .i64 xt,.bool xnn,.bool xk] 158
   clear H
   have F2:=K2.facts
   simp only [zg] at F2
   cases xk
   ·have HN:=hid (Zgy HQ.out HX.out rfl)
    go_wp2_with fail
    have K3:=K2.drop (List.sublist_cons_self _ _)
    go_roundw
    case rel=>exact ⟨k+1,q,by omega,by go_num,by first|rfl|trivial,HN,K3⟩
    case measure=>simp [intOf];omega
   ·have HN:=hid (ZbT HKEY.out HX.out rfl)
    go_wp2_with fail
    have K3:=K2.drop (List.sublist_cons_self _ _)
    go_roundw
    case rel=>exact ⟨k+1,k,by omega,by go_num,by first|rfl|trivial,HN,K3⟩
    case measure=>simp [intOf];omega
  ·obtain rfl:k=n:=by omega
   have hd:decide ((k:Int)<(k:Int))=false:=by simp
   clear hlt
   have HKQ:=hid (show q=Zr Col.key cs from Zec (by have h:=HQ.out;rwa [←HL.out] at h))
   clear HQ
   go_wp2_with fail
   refine (ZQ T ((N:Int)+1) _ (H.tp_ 5 rfl) (by omega) (by omega)).mono ?_
   rintro e w3 ⟨i0,rfl,i00,i01,t3,g3⟩
   obtain ⟨i0,rfl⟩:=Int.eq_ofNat_of_zero_le i00
   have K2:=(((Hold.Zf H 5 rfl g3 t3).add (Zfs _ _)).nil 124 2)
   clear H g3 t3
   have hi0:i0≤N:=by omega
   clear i00 i01
   go_wp2_with fail
   clear hd
   go_loopw [11] (fun iv wr=>∃ (i k2 cap:Nat) (nx:Int) (O:Option Addr) (rs:List Rw),iv=.int .i64 i∧i+k2≤N∧1≤nx∧nx≤3+2 * ((N:Int) - i)∧Hid (RowsOk cs nx rs)∧Hold M (some T) w wr ([.own 124 2 (.slice O k2 cap) k2 (Y1 rs),.ro (WE rs),.blk g7 67 #[.string nm,.slice A k c,.int .i64 nx,.slice O k2 cap],.blk g6 67 #[.string ⟨#[]⟩,.slice none 0 0,.int .i64 0,.slice none 0 0],.cst gs 49 #[.string nm,.slice A k c],.ro Wds,.ro (ColsIn A k cs),.tp T])) (fun iv _=>(intOf iv).toNat)
   case atStart=>exact ⟨i0,0,0,1+(r:Int),none,[],rfl,by omega,by omega,by omega,hid ⟨rfl,by rcases Int.lt_or_le (Zr Col.key cs) 0 with h|h<;>rfl,fun r hr=>nomatch hr⟩,K2⟩
   case round=>
    clear K2 hi0
    obtain ⟨i,k2,cap,nx,O,rs,rfl,hik,hnx,hnx2,HR,H⟩:=hrel
    by_cases hlt:0<i
    ·obtain ⟨i,rfl⟩:∃ i',i=i' +1:=⟨i - 1,by omega⟩
     have hd:decide (((i+1:Nat):Int) > 0)=true:=by rw [decide_eq_true_iff];omega
     clear hlt
     have F2:=H.facts
     simp only [zg] at F2
     go_wp2_with fail
     refine (ZfJ (Mut M _) T _ H.Zc (H.tp_ 7 rfl) (H.get 7 rfl).2 nm A k c cs ((H.ro 6 rfl).less (XA (i:=7) rfl)) ((H.ro 5 rfl).less (XA (i:=7) rfl)) hT hn HOKC.out).mono ?_
     rintro e w4 ⟨Ar,nr,cr,vr,rfl,hnr,hvr,hfr,ho,t4,g4⟩
     have K3a:=Hold.Zbt H (Hold.Zf H 7 rfl g4 t4) (RM.grown g4 (.inr ⟨_,List.mem_of_getElem? (i:=7) rfl,rfl⟩)) ho
     obtain ⟨hcr1,hcr2,_⟩:=Yx (K3a.get 0 rfl)
     have K3:=K3a.ZC 0 rfl
     simp only [List.set_cons_zero] at K3
     have HNR:=hid hnr
     have HFR:=hid hfr
     have HVR:=hid hvr
     clear K3a H ho t4 g4 hnr hfr hvr F2
     have F3:=K3.facts
     simp only [zg] at F3
     go_wp2_with fail
     clear F3
     go_loopw [13,47] (fun fv jv wr=>∃ (j:Nat) (fr:Bool),j≤k2∧jv=.int .i64 j∧fv=.bool fr∧Hid (Wl q (rs.take j) vr fr)∧Hold M (some T) w wr ([.ro (VlsIn Ar nr vr),.own 124 2 (.slice O k2 cap) k2 (Y1 rs),.ro (WE rs),.blk g7 67 #[.string nm,.slice A k c,.int .i64 nx,.slice O k2 cap],.blk g6 67 #[.string ⟨#[]⟩,.slice none 0 0,.int .i64 0,.slice none 0 0],.cst gs 49 #[.string nm,.slice A k c],.ro Wds,.ro (ColsIn A k cs),.tp T])) (fun _ jv _=>k2 - (intOf jv).toNat)
     case atStart=>exact ⟨0,true,by omega,rfl,rfl,hid (fun _=>.inr fun x hx=>(by simp at hx)),K3⟩
     case round=>
      clear K3 hd
      obtain ⟨j,fr,hj,rfl,rfl,HFS,H⟩:=hrel
      have hRW:RwsIn O k2 rs wr:=⟨Rd.Un (H.get 1 rfl),(H.ro 2 rfl).now⟩
      have HLR:=hid hRW.len
      by_cases hlt:j<k2
      ·have hd:decide ((j:Int)<(k2:Int))=true:=by simp;omega
       have j0:(0:Int)≤(j:Int):=by omega
       have j1:(j:Int)<(k2:Int):=by omega
       obtain ⟨x,hx⟩:=Z4 HLR.out hlt
       obtain ⟨b,o,rfl,hb,c0,c1,hxv⟩:=hRW.at_ hx
       have HX:=hid hx
       have HXV:=hid (show x.vs.length=x.n from hxv.len)
       have HXF:=hid (show Wh cs x.vs=0 from zW HR.out.ok _ (List.mem_map_of_mem (f:=Rw.row) (List.mem_of_getElem? hx)))
       have hxr:Ro wr _ (VlsIn x.A x.n x.vs):=(H.ro 2 rfl).imp fun w2 h2=>h2 x (List.mem_of_getElem? hx)
       clear hx hxv hRW
       have K4:=(H.add hxr).Za #[.int .i64 x.id,.slice x.A x.n x.c] 124
       obtain ⟨gx,hgx⟩:∃ gx,gx=wr.heap.size:=⟨_,rfl⟩
       rw [←hgx] at K4
       clear H hxr
       obtain ⟨xid,xA,xn,xc,xvs⟩:=x
       dsimp only at *
       go_wp2_with fail
       rw [←hgx]
       have HGX:=hid hgx
       clear hgx c0 c1
       generalize wr.alloc _=w5 at K4 ⊢
       obtain ⟨KL,hKL,K5⟩:=K4.name
       clear K4
       cases fr
       ·have HKL:=hid hKL
        clear hKL
        refine wp_region_any (by kernel_rfl) ?_
        refine ZH 18 90 (KL) (spL []) (by kernel_rfl) (by kernel_rfl) (by kernel_rfl) rfl ?_ (K5.drew) ?_
        ·exact ZF _
        simp only [zd,Act.put,List.getElem_toArray,List.getElem_cons_zero,List.getElem_cons_succ,zl]
        repeat (first|(refine dw_skip rfl rfl rfl ?_;simp only [Act.put,zl])|(refine' dv rfl rfl rfl (fun wv HC=>?_) ?_;rotate_left;(focus (go_simp<;>rfl;done));simp only [Act.put,zl]))
        refine ZE ?_
        rintro wx4 HX4
        rintro _hrm _HG
        rw [HKL.out] at HX4
        clear _hrm _HG
        have HQ:=hid ((Zcn:Wl q (rs.take (j+1)) vr false))
        have K6:=HX4.drop (List.Sublist.cons _ (List.sublist_cons_self _ _))
        have F5:=K6.facts
        simp only [zg] at F5
        go_wp2_with fail
        go_roundw
        case rel=>exact ⟨j+1,_,by omega,by go_num,by first|rfl|trivial|simp,HQ,K6⟩
        case measure=>simp [intOf];omega
       ·by_cases hq:q<0
        ·have hq1:decide (q<0)=true:=by simpa using hq
         have HKL:=hid hKL
         have HQN:=hid hq
         clear hKL hq
         refine wp_region_any (by kernel_rfl) ?_
         refine ZH 18 90 (KL) (spL []) (by kernel_rfl) (by kernel_rfl) (by kernel_rfl) rfl ?_ (K5.drew) ?_
         ·exact ZF _
         simp only [zd,Act.put,List.getElem_toArray,List.getElem_cons_zero,List.getElem_cons_succ,zl]
         repeat (first|(refine dw_skip rfl rfl rfl ?_;simp only [Act.put,zl])|(refine' dv rfl rfl rfl (fun wv HC=>?_) ?_;rotate_left;(focus (go_simp<;>rfl;done));simp only [Act.put,zl]))
         refine ZE ?_
         rintro wx4 HX4
         rintro _hrm _HG
         rw [HKL.out] at HX4
         clear _hrm _HG
         have HQ:=hid ((ZcR HQN.out:Wl q (rs.take (j+1)) vr true))
         have K6:=HX4.drop (List.Sublist.cons _ (List.sublist_cons_self _ _))
         have F5:=K6.facts
         simp only [zg] at F5
         go_wp2_with fail
         go_roundw
         case rel=>exact ⟨j+1,_,by omega,by go_num,by first|rfl|trivial|simp,HQ,K6⟩
         case measure=>simp [intOf];omega
        ·obtain ⟨κ,rfl⟩:=Int.eq_ofNat_of_zero_le (show 0≤q by omega)
         have hq1:decide ((κ:Int)<0)=false:=by rw [decide_eq_false_iff_not];omega
         clear hq
         have hκ:κ<cs.length:=ZeE HKQ.out
         have q0:(0:Int)≤(κ:Int):=by omega
         have q1:(κ:Int)<(xn:Int):=by have h:=Zcx HXF.out;have h2:=HXV.out;omega
         have q2:(κ:Int)<(nr:Int):=by have h:=UY HFR.out;have h2:=HNR.out;omega
         clear hκ
         obtain ⟨vx,hvx⟩:=Z4 HXV.out (show κ<xn by omega)
         obtain ⟨vy,hvy⟩:=Z4 HNR.out.symm (show κ<nr by omega)
         have K6:=K5
         rw [hKL] at K6
         obtain ⟨bx,ox,rfl,rx⟩:=(K6.ro 1 rfl).Zbv hvx
         obtain ⟨by_,oy,rfl,ry⟩:=(K6.ro 2 rfl).Zbv hvy
         have K7:=(K6.add rx).add (ry.less (XF rfl))
         clear K6 K5 hKL rx ry
         obtain ⟨KM,hKM,K5⟩:=K7.name
         clear K7
         have HF:Hid (∀ wv,Hold M (some T) w wv KM→(wv.cell? ⟨gx,1,none⟩=some (.slice (some ⟨bx,ox,none⟩) xn xc)∧gx<wv.heap.size)∧(bx<wv.heap.size∧wv.cell? ⟨bx,ox+κ * 3,none⟩=some (.int .i64 vx.k)∧wv.cell? ⟨bx,ox+κ * 3+1,none⟩=some (.int .i64 vx.i)∧wv.cell? ⟨bx,ox+κ * 3+2,none⟩=some (.string vx.s))∧by_<wv.heap.size∧wv.cell? ⟨by_,oy+κ * 3,none⟩=some (.int .i64 vy.k)∧wv.cell? ⟨by_,oy+κ * 3+1,none⟩=some (.int .i64 vy.i)∧wv.cell? ⟨by_,oy+κ * 3+2,none⟩=some (.string vy.s)):=hid fun wv HC=>by
          rw [hKM] at HC
          have y1:=HC.ZB 2 rfl
          exact ⟨⟨cell_of_row _ _ 1 _ _ _ y1,Blk.lt y1⟩,(HC.ro 1 rfl).now,(HC.ro 0 rfl).now⟩
         have HKL:=hid hKM
         have HVX:=hid hvx
         have HVY:=hid hvy
         clear hKM hvx hvy
         refine wp_region_any (by kernel_rfl) ?_
         refine ZH 18 90 (KM) (spL []) (by kernel_rfl) (by kernel_rfl) (by kernel_rfl) rfl ?_ (K5.drew) ?_
         ·exact ZF _
         simp only [zd,Act.put,List.getElem_toArray,List.getElem_cons_zero,List.getElem_cons_succ,zl]
         repeat (refine' dv rfl rfl rfl (fun wv HC=>?_) ?_;rotate_left;(focus (obtain ⟨⟨f0,f1⟩,⟨f2,f3,f4,f5⟩,f6,f7,f8,f9⟩:=HF.out _ HC;go_simp<;>rfl;done));simp only [Act.put,zl])
         refine V5 rfl rfl rfl ⟨.bool (decide (vx≠vy)),fun wv HC=>?_,?_⟩
         ·by_cases h0:vx.k=vy.k
          ·have e0:(vx.k==vy.k)=true:=by simp [h0]
           by_cases h1:vx.i=vy.i
           ·have e1:(vx.i==vy.i)=true:=by simp [h1]
            by_cases h2:vx.s=vy.s
            ·have e2:(vx.s.toList==vy.s.toList)=true:=by simp [h2]
             have e3:decide (vx≠vy)=false:=by rw [decide_eq_false_iff_not];exact fun h=>h (ZfU h0 h1 h2)
             rw [e3]
             clear h0 h1 h2
             go_simp<;>rfl
            ·have e2:(vx.s.toList==vy.s.toList)=false:=by rw [beq_eq_false_iff_ne];exact fun h=>h2 (Yr h)
             have e3:decide (vx≠vy)=true:=by rw [decide_eq_true_iff];rintro rfl;exact h2 rfl
             rw [e3]
             clear h0 h1 h2
             go_simp<;>rfl
           ·have e1:(vx.i==vy.i)=false:=by simpa using h1
            have e3:decide (vx≠vy)=true:=by rw [decide_eq_true_iff];rintro rfl;exact h1 rfl
            rw [e3]
            clear h0 h1
            go_simp<;>rfl
          ·have e0:(vx.k==vy.k)=false:=by simpa using h0
           have e3:decide (vx≠vy)=true:=by rw [decide_eq_true_iff];rintro rfl;exact h0 rfl
           rw [e3]
           clear h0
           go_simp<;>rfl
         iterate 3
          simp only [Act.put,zl]
          refine' dv rfl rfl rfl (fun wv HC=>?_) ?_;rotate_left
          · go_simp<;>rfl
         simp only [Act.put,zl]
         refine ZE ?_
         rintro wx4 HX4
         rintro _hrm _HG
         rw [HKL.out] at HX4
         clear _hrm _HG
         have HQ:=hid ((Zgu HX.out (by simpa using HVX.out) HVY.out HFS.out rfl:Wl (κ:Int) (rs.take (j+1)) vr (decide (vx≠vy))))
         have K6:=HX4.drop (List.Sublist.cons _ (List.Sublist.cons _ (List.Sublist.cons _ (List.sublist_cons_self _ _))))
         have F5:=K6.facts
         simp only [zg] at F5
         go_wp2_with fail
         go_roundw
         case rel=>exact ⟨j+1,_,by omega,by go_num,by first|rfl|trivial|simp,HQ,K6⟩
         case measure=>simp [intOf];omega
      ·obtain rfl:j=k2:=by omega
       have hd:decide ((j:Int)<(j:Int))=false:=by simp
       clear hlt
       have HFE:=hid (show Wl q rs vr fr by have h:=HFS.out;rwa [List.take_of_length_le (by rw [HLR.out];exact Nat.le_refl _)] at h)
       clear hRW HFS
       have F3:=H.facts
       simp only [zg] at F3
       cases fr
       ·go_wp2_with fail
        clear F3 hd
        have K4:=H.drop (List.sublist_cons_self _ _)
        clear H
        refine wp_region_any (by kernel_rfl) ?_
        refine ZH 10 90 ([.own 124 2 (.slice O j cap) j (Y1 rs),.ro (WE rs),.blk g7 67 #[.string nm,.slice A k c,.int .i64 nx,.slice O j cap],.blk g6 67 #[.string ⟨#[]⟩,.slice none 0 0,.int .i64 0,.slice none 0 0],.cst gs 49 #[.string nm,.slice A k c],.ro Wds,.ro (ColsIn A k cs),.tp T]) (spL [(82,fun u _=>Z6 2 u),(84,fun u _=>Z6 2 u)]) (by kernel_rfl) (by kernel_rfl) (by kernel_rfl) rfl ?_ (K4.drew) ?_
        ·exact Ze (fun _ _ _ _ h=>h) (Ze (fun _ _ _ _ h=>h) (ZF _))
        simp only [zd,Act.put,List.getElem_toArray,List.getElem_cons_zero,List.getElem_cons_succ,zl]
        refine' dv rfl rfl rfl (fun wv HC=>?_) ?_;rotate_left
        · go_simp<;>rfl
        simp only [Act.put,zl]
        refine' dv rfl rfl rfl (fun wv HC=>?_) ?_;rotate_left
        ·have FC:=HC.facts;simp only [factsL,Zm,Nat.reduceAdd,List.toList_toArray,and_true,true_and] at FC;go_simp<;>rfl
        simp only [Act.put,zl]
        refine' dv rfl rfl rfl (fun wv HC=>?_) ?_;rotate_left
        · go_simp<;>rfl
        simp only [Act.put,zl]
        refine Yk 2 7 rfl 82 rfl rfl rfl rfl (fun wv=>?_) ?_
        ·go_simp<;>rfl
        rintro a ha
        simp only [Act.put,zl]
        refine' dv rfl rfl rfl (fun wv HC=>?_) ?_;rotate_left
        · go_simp<;>rfl
        simp only [Act.put,zl]
        refine Yk 2 7 rfl 84 rfl rfl rfl rfl (fun wv=>?_) ?_
        ·go_simp<;>rfl
        rintro b hb
        simp only [Act.put,zl]
        obtain ⟨m,hm,hm1⟩:∃ m:Nat,(a:Int) * (b:Int)=(m:Int)∧m≤1:=⟨a * b,by simp,by
         obtain rfl|rfl:a=0∨a=1:=by omega
         ·simp
         ·omega⟩
        have s1:IntKind.i64.wrap ((a:Int) * (b:Int))=(m:Int):=by rw [hm,IntKind.wrap_i64];omega
        have s2:IntKind.i64.wrap (1+(m:Int))=1+(m:Int):=by rw [IntKind.wrap_i64];omega
        have s3:IntKind.i64.wrap (nx+(1+(m:Int)))=nx+(1+(m:Int)):=by rw [IntKind.wrap_i64];omega
        clear hm
        repeat (refine' dv rfl rfl rfl (fun wv HC=>?_) ?_;rotate_left;(focus (go_simp<;>rfl;done));simp only [Act.put,zl])
        refine ZE ?_
        rintro wx5 HX5
        rintro _hrm _HG
        clear _hrm _HG s1 s2 s3
        have F6:=HX5.facts
        simp only [zg] at F6
        have K9:=HX5.store 2 rfl 2 (.int .i64 (nx+(1+(m:Int))))
        simp only [zl] at K9
        have HRN:=hid (Zhd HR.out (show nx≤nx+(1+(m:Int)) by omega))
        go_wp2_with fail
        go_roundw
        case rel=>exact ⟨i,j,cap,nx+(1+(m:Int)),_,_,by first|rfl|go_num,by omega,by omega,by omega,HRN,K9⟩
        case measure=>simp [intOf]<;>omega
       ·have hx2:(Y1 rs++(#[Value.int .i64 nx,.slice Ar nr cr]).toList)=Y1 (rs++[⟨nx,Ar,nr,cr,vr⟩]):=Zfy _ _ _ _ _ _
        have HCE:=hid hx2
        clear hx2
        go_wp2_with (at_builtin;go_must (refine Zx H 1 rfl Tryz.Zbs #[.int .i64 nx,.slice Ar nr cr] rfl (.tmp 71) (.tmp 76) rfl rfl _ rfl rfl rfl (by intro u hu;simp at hu;rcases hu with rfl|rfl<;>rfl) (by omega) (by omega) ?_);intro g9 cap9 w9 hc9 hm9 KB;rw [HCE.out] at KB;simp only [zl] at KB;(have FB:=KB.facts);simp only [zg] at FB)
        clear F3 hd
        have KC:=KB.store 3 rfl 3 (.slice (some ⟨g9,0,none⟩) (j+1) cap9)
        have KD:=(KC.WL 2 rfl (ZbD (r:=⟨nx,Ar,nr,cr,vr⟩) (KC.ro 2 rfl) (KC.ro 0 rfl))).drop (List.sublist_cons_self _ _)
        simp only [zl] at KD
        generalize World.setCell _ _ _=w10 at KD ⊢
        clear KB KC FB H
        refine wp_region_any (by kernel_rfl) ?_
        refine ZH 10 90 ([.own 124 2 (.slice (some ⟨g9,0,none⟩) (j+1) cap9) (j+1) (Y1 (rs++[⟨nx,Ar,nr,cr,vr⟩])),.ro (WE (rs++[⟨nx,Ar,nr,cr,vr⟩])),.blk g7 67 #[.string nm,.slice A k c,.int .i64 nx,.slice (some ⟨g9,0,none⟩) (j+1) cap9],.blk g6 67 #[.string ⟨#[]⟩,.slice none 0 0,.int .i64 0,.slice none 0 0],.cst gs 49 #[.string nm,.slice A k c],.ro Wds,.ro (ColsIn A k cs),.tp T]) (spL [(82,fun u _=>Z6 2 u),(84,fun u _=>Z6 2 u)]) (by kernel_rfl) (by kernel_rfl) (by kernel_rfl) rfl ?_ (KD.drew) ?_
        ·exact Ze (fun _ _ _ _ h=>h) (Ze (fun _ _ _ _ h=>h) (ZF _))
        simp only [zd,Act.put,List.getElem_toArray,List.getElem_cons_zero,List.getElem_cons_succ,zl]
        refine' dv rfl rfl rfl (fun wv HC=>?_) ?_;rotate_left
        · go_simp<;>rfl
        simp only [Act.put,zl]
        refine' dv rfl rfl rfl (fun wv HC=>?_) ?_;rotate_left
        ·have FC:=HC.facts;simp only [factsL,Zm,Nat.reduceAdd,List.toList_toArray,and_true,true_and] at FC;go_simp<;>rfl
        simp only [Act.put,zl]
        refine' dv rfl rfl rfl (fun wv HC=>?_) ?_;rotate_left
        · go_simp<;>rfl
        simp only [Act.put,zl]
        refine Yk 2 7 rfl 82 rfl rfl rfl rfl (fun wv=>?_) ?_
        ·go_simp<;>rfl
        rintro a ha
        simp only [Act.put,zl]
        refine' dv rfl rfl rfl (fun wv HC=>?_) ?_;rotate_left
        · go_simp<;>rfl
        simp only [Act.put,zl]
        refine Yk 2 7 rfl 84 rfl rfl rfl rfl (fun wv=>?_) ?_
        ·go_simp<;>rfl
        rintro b hb
        simp only [Act.put,zl]
        obtain ⟨m,hm,hm1⟩:∃ m:Nat,(a:Int) * (b:Int)=(m:Int)∧m≤1:=⟨a * b,by simp,by
         obtain rfl|rfl:a=0∨a=1:=by omega
         ·simp
         ·omega⟩
        have s1:IntKind.i64.wrap ((a:Int) * (b:Int))=(m:Int):=by rw [hm,IntKind.wrap_i64];omega
        have s2:IntKind.i64.wrap (1+(m:Int))=1+(m:Int):=by rw [IntKind.wrap_i64];omega
        have s3:IntKind.i64.wrap (nx+(1+(m:Int)))=nx+(1+(m:Int)):=by rw [IntKind.wrap_i64];omega
        clear hm
        repeat (refine' dv rfl rfl rfl (fun wv HC=>?_) ?_;rotate_left;(focus (go_simp<;>rfl;done));simp only [Act.put,zl])
        refine ZE ?_
        rintro wx5 HX5
        rintro _hrm _HG
        clear _hrm _HG s1 s2 s3
        have F6:=HX5.facts
        simp only [zg] at F6
        have K9:=HX5.store 2 rfl 2 (.int .i64 (nx+(1+(m:Int))))
        simp only [zl] at K9
        have HRN:=hid (Zb0 (x:=⟨nx,Ar,nr,cr,vr⟩) HR.out rfl (by omega) (show nx<nx+(1+(m:Int)) by omega) (ZcX HFR.out) ⟨by show I64 nx;unfold I64;omega,hcr1,hcr2,HVR.out⟩ (by have h:=HFE.out rfl;rwa [HKQ.out] at h))
        go_wp2_with fail
        go_roundw
        case rel=>exact ⟨i,(j+1),cap9,nx+(1+(m:Int)),_,_,by first|rfl|go_num,by omega,by omega,by omega,HRN,K9⟩
        case measure=>simp [intOf]<;>omega
    ·obtain rfl:i=0:=by omega
     have hd:decide (((0:Nat):Int) > 0)=false:=by decide
     have F:=H.facts
     simp only [zg] at F
     obtain ⟨hcq1,hcq2,_⟩:=Yx (H.get 0 rfl)
     have KS:=H.ZC 0 rfl
     simp only [List.set_cons_zero] at KS
     have KN:=(((KS.store 3 rfl 0 (.string nm)).store 3 rfl 1 (.slice A k c)).store 3 rfl 2 (.int .i64 nx)).store 3 rfl 3 (.slice O k2 cap)
     clear KS
     go_wp2_with fail
     exact bodyPost_ret (v:=.agg #[.string nm,.slice A k c,.int .i64 nx,.slice O k2 cap]) (by simp [results,Tryz.results60,go_sem,F]) rfl ⟨_,nx,rs.map Rw.row,rfl,⟨A,k,c,O,k2,cap,rs,rfl,hnc,hc,hcq1,hcq2,KN.YM 6 rfl,(KN.YM 0 rfl).and (KN.YM 1 rfl),HR.out.rok,rfl⟩,ZfT HSCH.out (by have h:=Rd.Un (H.get 0 rfl);have h2:=h.1;rw [Qp] at h2;simp;omega) (by omega) (by omega) HR.out.ok HR.out.dup,by have h:=Rd.Un (H.get 0 rfl);have h2:=h.1;rw [Qp] at h2;simp;omega,KN.tp_ 7 rfl,KN.grow⟩
theorem Zb3 (x:Int):I64 (wrap64 x):=by
 unfold I64 wrap64
 omega

def WU (s:ByteArray):Prop:=s=⟨#[116]⟩∨s=⟨#[117]⟩∨s=⟨#[108,111,103]⟩
def ZcM (w:World) (T:Nat) (e:Ending) (w' :World):Prop:=∃ s:ByteArray,e=.returned (.string s)∧WU s∧Tp w' T∧w.grownBy w' (some T)
set_option maxHeartbeats 1000000 in
theorem Qs (M:Nat→Prop) (T:Nat) (w:World) (hM:∀ b,M b→b<w.heap.size) (ht:Tp w T) (hMT:∀ b,M b→T≤b):Calls Tryz.prog 96 #[.pointer (some ⟨T,0,none⟩)] w fun e w' =>ZcM w T e w' :=by
 have K0:=(Hold.YY M w T hM ht hMT).Za #[.string ⟨#[116]⟩,.string ⟨#[117]⟩,.string ⟨#[108,111,103]⟩] 9
 go_enter Tryz.func96,Tryz.ntmps96
 go_wp2_with fail
 refine (ZQ T 3 _ (K0.tp_ 1 rfl) (by omega) (by omega)).mono ?_
 rintro e w1 ⟨r,rfl,r0,r1,t1,g1⟩
 have K1:=Hold.Zf K0 1 rfl g1 t1
 have F1:=K1.facts
 simp only [zg] at F1
 clear K0 g1 t1
 obtain ⟨r,rfl⟩:=Int.eq_ofNat_of_zero_le r0
 obtain rfl|rfl|rfl:r=0∨r=1∨r=2:=by omega
 ·go_wp2_with fail
  go_ret
  exact ⟨_,rfl,.inl rfl,K1.tp_ 1 rfl,K1.grow⟩
 ·go_wp2_with fail
  go_ret
  exact ⟨_,rfl,.inr (.inl rfl),K1.tp_ 1 rfl,K1.grow⟩
 ·go_wp2_with fail
  go_ret
  exact ⟨_,rfl,.inr (.inr rfl),K1.tp_ 1 rfl,K1.grow⟩
structure SchOk (nm:ByteArray) (cs:List Col):Prop where
 val:Yi nm cs=true
 col:∀ x∈cs,VY x
 key:Ux cs
 len:1≤cs.length∧cs.length≤4
 nm:nm.size≤maxLen
 cs:∀ x∈cs,x.name.size≤maxLen
def Zbn (cs:List Col):Bool:=(List.range cs.length).all fun i=>match cs[i]? with|some c=>!c.key||Zr Col.key cs==(i:Int)|none=>true
theorem ZcQ {cs:List Col} (h:Zbn cs=true):Ux cs:=fun i c hc hk=>by
 have h1:=List.all_eq_true.1 h i (List.mem_range.2 (List.getElem?_eq_some_iff.1 hc).1)
 simp only [hc,hk,Bool.not_true,Bool.false_or,beq_iff_eq] at h1
 exact h1
def G8 (c:Col):Bool:=c.ty==1||c.ty==2||c.ty==3
def Zba (nm:ByteArray) (cs:List Col):Bool:=Yi nm cs&&cs.all G8&&Zbn cs&&decide (1≤cs.length)&&decide (cs.length≤4)&&decide (nm.size≤100)&&cs.all fun x=>decide (x.name.size≤100)
theorem Vi {nm:ByteArray} {cs:List Col} (h:Zba nm cs=true):SchOk nm cs:=by
 unfold Zba at h
 simp only [Bool.and_eq_true,decide_eq_true_eq] at h
 obtain ⟨⟨⟨⟨⟨⟨h1,h2⟩,h3⟩,h4⟩,h5⟩,h6⟩,h7⟩:=h
 refine ⟨h1,fun x hx=>?_,ZcQ h3,⟨h4,h5⟩,by unfold maxLen;omega,fun x hx=>?_⟩
 ·have:=List.all_eq_true.1 h2 x hx
  simpa [G8,VY,or_assoc] using this
 ·have:=List.all_eq_true.1 h7 x hx
  simp only [decide_eq_true_eq] at this
  unfold maxLen;omega




structure VTab (t:Tb):Prop where
 sch:SchOk t.nm t.cs
 val:VJ t.nm t.cs t.nx t.rs=true
theorem QU (M:Nat→Prop) (T:Nat) (w:World) (hM:∀ b,M b→b<w.heap.size) (ht:Tp w T) (hMT:∀ b,M b→T≤b) (nm:ByteArray) (A:Option Addr) (n c:Nat) (cs:List Col) (N:Nat) (hD:Ro w (Mut M [.tp T]) (ColsIn A n cs)) (hc1:n≤c) (hc2:c≤9223372036854775807) (hs:SchOk nm cs) (hW:Ro w (Mut M [.tp T]) Wds) (hw:1<T) (hN:N≤50):
  Calls Tryz.prog 60 #[.pointer (some ⟨T,0,none⟩),.agg #[.string nm,.slice A n c],.int .i64 N] w fun e w' =>∃ (v:Value) (t:Tb),e=.returned v∧Ju w' M v t∧VTab t∧t.nm=nm∧t.cs=cs∧t.rs.length≤N∧Tp w' T∧w.grownBy w' (some T):=by
 have hn:cs.length=n:=Jw hD.now
 have hl:=hs.len
 refine (ZgC M T w hM ht hMT nm A n c cs N hD hW hw (by omega) hc1 hc2 hs.col hs.val hs.key hN).mono ?_
 rintro e w' ⟨v,nx,rs,rfl,hT,hv,hr,t1,g1⟩
 exact ⟨v,_,rfl,hT,⟨hs,hv⟩,rfl,rfl,hr,t1,g1⟩
end Go.Proofs.YtnbbllkbefagmaaGreatDoor

import Derived.Test.YtnbbllkbefagmaaGreatDoorRkCtsSaidMU
import Derived.Test.YtnbbllkbefagmaaGreatDoorRkCtsSaidMQ
import Derived.Deep.CutRange
import Derived.Test.YtnbbllkbefagmaaGreatDoorRkCtsSaidMG
import Derived.Test.YtnbbllkbefagmaaGreatDoorRkCtsSaidMF
import Derived.Test.YtnbbllkbefagmaaGreatDoorRkCtsSaidMD
import Derived.Test.YtnbbllkbefagmaaGreatDoorRkCtsSaidMK
import Derived.Shelf.Small.Strs
import Derived.Ground.NamesProg
import Derived.IntWalk
import Derived.Test.YtnbbllkbefagmaaGreatDoorRkCtsSaidMH
import Derived.Test.YtnbbllkbefagmaaGreatDoorRkCtsSaidML
namespace Go.Proofs.YtnbbllkbefagmaaGreatDoor
open Go.RowKit
set_option linter.unusedVariables false
set_option linter.unusedSimpArgs false
def Zc1 (al:List Ac) (w:World) (e:Ending) (w' :World):Prop:=∃ b:Bool,e=.returned (.bool b)∧Below w.heap.size w w' ∧(b=true→∀ a∈al,a.kind=5→a.sets.n=1)
set_option maxHeartbeats 16000000 in
set_option maxRecDepth 100000 in
theorem ZcY (d:Nat) (t:Tg) (w:World) (hx:Ro w Zb (TgIn d t)) (hg:TgGd d t):Calls Tryz.prog 102 #[t.val] w fun e w' =>Zc1 t.acts.l w e w' :=by
 obtain ⟨tn,tt,tb,te,⟨oA,on,oc,ol⟩,tch,⟨pA,pn,pc,pl⟩,⟨qA,qn,qc,ql⟩,⟨rA,rn,rc,rl⟩,⟨kA,kn,kc,kl⟩,⟨aA,an,ac,al⟩⟩:=t
 have he:1≤te∧te≤3:=hg.e
 have HON:=hid (show on≤1000∧on≤oc from by
  have h:ol.length=on:=SlP.In.len (s:=⟨oA,on,oc,ol⟩) (k:=1) (cel:=Zt) (P:=fun _ _=>True) hx.now.1 (by omega) (fun _=>rfl)
  have h2:ol.length≤8:=hg.o.2.1
  exact ⟨by omega,hg.o.1.1⟩)
 have HPN:=hid (show pn≤1000∧pn≤pc from by
  have h:pl.length=pn:=SlP.In.len (s:=⟨pA,pn,pc,pl⟩) (k:=1) (cel:=Zt) (P:=fun _ _=>True) hx.now.2.1 (by omega) (fun _=>rfl)
  have h2:pl.length≤8:=hg.p.2.1
  exact ⟨by omega,hg.p.1.1⟩)
 have HQN:=hid (show qn≤1000∧qn≤qc from by
  have h:ql.length=qn:=SlP.In.len (s:=⟨qA,qn,qc,ql⟩) (k:=1) (cel:=Zt) (P:=fun _ _=>True) hx.now.2.2.1 (by omega) (fun _=>rfl)
  have h2:ql.length≤8:=hg.f.2.1
  exact ⟨by omega,hg.f.1.1⟩)
 have HRL:=hid (show rl.length=rn from SlP.In.len (s:=⟨rA,rn,rc,rl⟩) (k:=4) (cel:=Rk.cells) (P:=fun _ _=>True) hx.now.2.2.2.1 (by omega) (fun _=>rfl))
 have hrn:rn≤1:=by have h2:rl.length≤1:=hg.r.2.1;have:=HRL.out;omega
 have hkn:kn≤1:=by
  have h:kl.length=kn:=ExsIn.len (show ExsIn d kA kn kl w from hx.now.2.2.2.2.1)
  have h2:kl.length≤1:=hg.h.2.1
  omega
 have HAL:=hid (show al.length=an from SlP.In.len (s:=⟨aA,an,ac,al⟩) (k:=7) (cel:=Ac.cells) (P:=AcIn d) hx.now.2.2.2.2.2 (by omega) (fun _=>rfl))
 have han:an≤4:=by have h2:al.length≤4:=hg.a.2.1;have:=HAL.out;omega
 have HG:=hid hg
 have K0:=((Hold.start Zb w zn).add (hx.less (by simp [Mut]))).Za #[.string tn,.string tt,.bool tb,.int .i64 te,.slice oA on oc,.bool tch,.slice pA pn pc,.slice qA qn qc,.slice rA rn rc,.slice kA kn kc,.slice aA an ac] 40
 obtain ⟨gx,hgx⟩:∃ g,g=w.heap.size:=⟨_,rfl⟩
 rw [←hgx] at K0
 clear hx hg
 simp only [Tg.val]
 go_enter Tryz.func102,Tryz.ntmps102
 go_upto_region 1 with fail
 rw [←hgx]
 have HGX:=hid hgx
 clear hgx
 generalize World.alloc _ _=w1 at K0 ⊢
 have F0:=K0.facts
 simp only [zg] at F0
 go_cut [38] from 8 to 38 (fun v wx=>∃ bb:Bool,v=.bool bb∧Hold Zb none w wx [.cst gx 40 #[.string tn,.string tt,.bool tb,.int .i64 te,.slice oA on oc,.bool tch,.slice pA pn pc,.slice qA qn qc,.slice rA rn rc,.slice kA kn kc,.slice aA an ac],.ro (TgIn d ⟨tn,tt,tb,te,⟨oA,on,oc,ol⟩,tch,⟨pA,pn,pc,pl⟩,⟨qA,qn,qc,ql⟩,⟨rA,rn,rc,rl⟩,⟨kA,kn,kc,kl⟩,⟨aA,an,ac,al⟩⟩)])
 case first=>
  obtain ⟨c2,h2⟩:∃ z:Bool,(te !=2)=z:=⟨_,rfl⟩
  obtain ⟨cs,hcs⟩:∃ z:Bool,decide ((0:Int)<(on:Int))=z:=⟨_,rfl⟩
  have hcs2:decide (0<on)=cs:=by rw [←hcs];simp
  have e1:decide (te<1)=false:=by simp;omega
  have e3:decide (3<te)=false:=by simp;omega
  clear he
  go_wp2_with (go_at_call 160;go_must (refine (ZO _ _).mono ?_);rintro e w1 ⟨r,rfl,b1⟩;replace K0:=K0.call b1;replace F0:=K0.facts;simp only [zg] at F0;clear b1)
  all_goals (go_meet;exact ⟨_,rfl,K0⟩)
 case rest=>
  obtain ⟨bb,rfl,K1⟩:=hcut
  clear K0 F0
  have K0:=K1
  clear K1
  have F0:=K0.facts
  simp only [zg] at F0
  cases bb
  ·have HW:=hid (fun (wv:World) (h:Hold Zb none w wv [.cst gx 40 #[.string tn,.string tt,.bool tb,.int .i64 te,.slice oA on oc,.bool tch,.slice pA pn pc,.slice qA qn qc,.slice rA rn rc,.slice kA kn kc,.slice aA an ac],.ro (TgIn d ⟨tn,tt,tb,te,⟨oA,on,oc,ol⟩,tch,⟨pA,pn,pc,pl⟩,⟨qA,qn,qc,ql⟩,⟨rA,rn,rc,rl⟩,⟨kA,kn,kc,kl⟩,⟨aA,an,ac,al⟩⟩)])=>XL d kA kn kc kl wv (((h.ro 1 rfl).imp fun w2 h2=>(show ExsIn d kA kn kl w2 from h2.2.2.2.2.1)).less zn) HG.out.h.2.2 (by omega))
   have HO:=hid (fun (wv:World) (h:Hold Zb none w wv [.cst gx 40 #[.string tn,.string tt,.bool tb,.int .i64 te,.slice oA on oc,.bool tch,.slice pA pn pc,.slice qA qn qc,.slice rA rn rc,.slice kA kn kc,.slice aA an ac],.ro (TgIn d ⟨tn,tt,tb,te,⟨oA,on,oc,ol⟩,tch,⟨pA,pn,pc,pl⟩,⟨qA,qn,qc,ql⟩,⟨rA,rn,rc,rl⟩,⟨kA,kn,kc,kl⟩,⟨aA,an,ac,al⟩⟩)])=>Qy ⟨oA,on,oc,ol⟩ wv (((h.ro 1 rfl).imp fun w2 h2=>h2.1).less zn) HON.out.1 HON.out.2)
   have HP:=hid (fun (wv:World) (h:Hold Zb none w wv [.cst gx 40 #[.string tn,.string tt,.bool tb,.int .i64 te,.slice oA on oc,.bool tch,.slice pA pn pc,.slice qA qn qc,.slice rA rn rc,.slice kA kn kc,.slice aA an ac],.ro (TgIn d ⟨tn,tt,tb,te,⟨oA,on,oc,ol⟩,tch,⟨pA,pn,pc,pl⟩,⟨qA,qn,qc,ql⟩,⟨rA,rn,rc,rl⟩,⟨kA,kn,kc,kl⟩,⟨aA,an,ac,al⟩⟩)])=>Qy ⟨pA,pn,pc,pl⟩ wv (((h.ro 1 rfl).imp fun w2 h2=>h2.2.1).less zn) HPN.out.1 HPN.out.2)
   have HQ:=hid (fun (wv:World) (h:Hold Zb none w wv [.cst gx 40 #[.string tn,.string tt,.bool tb,.int .i64 te,.slice oA on oc,.bool tch,.slice pA pn pc,.slice qA qn qc,.slice rA rn rc,.slice kA kn kc,.slice aA an ac],.ro (TgIn d ⟨tn,tt,tb,te,⟨oA,on,oc,ol⟩,tch,⟨pA,pn,pc,pl⟩,⟨qA,qn,qc,ql⟩,⟨rA,rn,rc,rl⟩,⟨kA,kn,kc,kl⟩,⟨aA,an,ac,al⟩⟩)])=>Qy ⟨qA,qn,qc,ql⟩ wv (((h.ro 1 rfl).imp fun w2 h2=>h2.2.2.1).less zn) HQN.out.1 HQN.out.2)
   go_upto_region 3 with fail
   go_cut [82] from 39 to 82 (fun v wx=>∃ bb:Bool,v=.bool bb∧Hold Zb none w wx [.cst gx 40 #[.string tn,.string tt,.bool tb,.int .i64 te,.slice oA on oc,.bool tch,.slice pA pn pc,.slice qA qn qc,.slice rA rn rc,.slice kA kn kc,.slice aA an ac],.ro (TgIn d ⟨tn,tt,tb,te,⟨oA,on,oc,ol⟩,tch,⟨pA,pn,pc,pl⟩,⟨qA,qn,qc,ql⟩,⟨rA,rn,rc,rl⟩,⟨kA,kn,kc,kl⟩,⟨aA,an,ac,al⟩⟩)])
   case first=>
    obtain ⟨cs,hcs⟩:∃ z:Bool,decide ((0:Int)<(rn:Int))=z:=⟨_,rfl⟩
    have hcs2:decide (0<rn)=cs:=by rw [←hcs];simp
    have e1:decide ((1:Int)<(rn:Int))=false:=by simp;omega
    have e12:decide (1<rn)=false:=by simp;omega
    have e2:decide ((1:Int)<(kn:Int))=false:=by simp;omega
    have e22:decide (1<kn)=false:=by simp;omega
    clear he hrn hkn
    cases tb<;>go_wp2_with (first
     | (go_at_call 162;go_must (refine (HW.out _ K0).mono ?_);rintro e w1 ⟨r,rfl,b1⟩;replace K0:=K0.call b1;replace F0:=K0.facts;simp only [zg] at F0;clear b1)
     | (go_at_call 161;go_must (first|with_reducible refine (HO.out _ K0).mono ?_|with_reducible refine (HP.out _ K0).mono ?_|with_reducible refine (HQ.out _ K0).mono ?_);rintro e w1 ⟨r,rfl,b1⟩;replace K0:=K0.call b1;replace F0:=K0.facts;simp only [zg] at F0;clear b1))
    all_goals (go_meet;exact ⟨_,rfl,K0⟩)
   case rest=>
    obtain ⟨bb,rfl,K1⟩:=hcut
    clear K0 F0 HW HO HP HQ
    have K0:=K1
    clear K1
    have F0:=K0.facts
    simp only [zg] at F0
    cases bb
    ·go_wp2_with fail
     clear F0
     go_loopw [86] (fun iv wr=>∃ j:Nat,j≤rn∧iv=.int .i64 j∧Hold Zb none w wr [.cst gx 40 #[.string tn,.string tt,.bool tb,.int .i64 te,.slice oA on oc,.bool tch,.slice pA pn pc,.slice qA qn qc,.slice rA rn rc,.slice kA kn kc,.slice aA an ac],.ro (TgIn d ⟨tn,tt,tb,te,⟨oA,on,oc,ol⟩,tch,⟨pA,pn,pc,pl⟩,⟨qA,qn,qc,ql⟩,⟨rA,rn,rc,rl⟩,⟨kA,kn,kc,kl⟩,⟨aA,an,ac,al⟩⟩)]) (fun iv _=>rn - (intOf iv).toNat)
     case atStart=>exact ⟨0,by omega,rfl,K0⟩
     case round=>
      clear K0
      obtain ⟨j,hj,rfl,H⟩:=hrel
      by_cases hlt:j<rn
      ·obtain ⟨⟨xt,xc,xlo,xhi⟩,hr⟩:=Yg HRL.out hlt
       obtain ⟨b,o,rfl,-,hc9,-⟩:=SlP.In.at_ (s:=⟨rA,rn,rc,rl⟩) (k:=4) (cel:=Rk.cells) (P:=fun _ _=>True) (H.ro 1 rfl).now.2.2.2.1 (by omega) (fun _=>rfl) hr
       have q0:=hc9 0 _ (by omega) rfl
       have q1:=hc9 1 _ (by omega) rfl
       have q2:=hc9 2 _ (by omega) rfl
       have q3:=hc9 3 _ (by omega) rfl
       simp only [Nat.add_zero] at q0 q1 q2 q3
       clear hc9 hr
       have K0:=H.Za #[.string xt,.string xc,.int .i64 xlo,.int .i64 xhi] 85
       obtain ⟨gk,hgk⟩:∃ g,g=wr.heap.size:=⟨_,rfl⟩
       rw [←hgk] at K0
       clear H
       go_upto_region 8 with fail
       rw [←hgk]
       have HGK:=hid hgk
       clear hgk q0 q1 q2 q3
       generalize World.alloc _ _=w1 at K0 ⊢
       have F0:=K0.facts
       simp only [zg] at F0
       go_cut [109] from 90 to 109 (fun v wx=>∃ bb:Bool,v=.bool bb∧Hold Zb none w wx [.cst gk 85 #[.string xt,.string xc,.int .i64 xlo,.int .i64 xhi],.cst gx 40 #[.string tn,.string tt,.bool tb,.int .i64 te,.slice oA on oc,.bool tch,.slice pA pn pc,.slice qA qn qc,.slice (some ⟨b,o,none⟩) rn rc,.slice kA kn kc,.slice aA an ac],.ro (TgIn d ⟨tn,tt,tb,te,⟨oA,on,oc,ol⟩,tch,⟨pA,pn,pc,pl⟩,⟨qA,qn,qc,ql⟩,⟨some ⟨b,o,none⟩,rn,rc,rl⟩,⟨kA,kn,kc,kl⟩,⟨aA,an,ac,al⟩⟩)])
       case first=>
        obtain ⟨d1,hd1⟩:∃ z:Bool,(xlo==-9223372036854775808)=z:=⟨_,rfl⟩
        obtain ⟨d2,hd2⟩:∃ z:Bool,(xhi==-9223372036854775808)=z:=⟨_,rfl⟩
        go_wp2_with (go_at_call 160;go_must (refine (ZO _ _).mono ?_);rintro e w1 ⟨r,rfl,b1⟩;replace K0:=K0.call b1;replace F0:=K0.facts;simp only [zg] at F0;clear b1)
        all_goals (go_meet;exact ⟨_,rfl,K0⟩)
       case rest=>
        obtain ⟨bb,rfl,K1⟩:=hcut
        clear K0 F0
        cases bb
        ·go_wp2_with fail
         go_roundw
         case rel=>exact ⟨j+1,by omega,by go_num,K1.drop (List.sublist_cons_self _ _)⟩
         case measure=>simp [intOf];omega
        ·go_wp2_with fail
         go_ret
         exact ⟨_,rfl,K1.below,fun h=>(nomatch h)⟩
      ·obtain rfl:rn=j:=by omega
       have F0:=H.facts
       simp only [zg] at F0
       go_wp2_with fail
       clear F0
       go_loopw [114] (fun iv wr=>∃ j:Nat,j≤an∧iv=.int .i64 j∧(∀ i a,i<j→al[i]? =some a→a.kind=5→a.sets.n=1)∧Hold Zb none w wr [.cst gx 40 #[.string tn,.string tt,.bool tb,.int .i64 te,.slice oA on oc,.bool tch,.slice pA pn pc,.slice qA qn qc,.slice rA rn rc,.slice kA kn kc,.slice aA an ac],.ro (TgIn d ⟨tn,tt,tb,te,⟨oA,on,oc,ol⟩,tch,⟨pA,pn,pc,pl⟩,⟨qA,qn,qc,ql⟩,⟨rA,rn,rc,rl⟩,⟨kA,kn,kc,kl⟩,⟨aA,an,ac,al⟩⟩)]) (fun iv _=>an - (intOf iv).toNat)
       case atStart=>exact ⟨0,by omega,rfl,fun i a h=>absurd h (by omega),H⟩
       case round=>
        clear H
        obtain ⟨j,hj,rfl,hpre,H⟩:=hrel
        have HPRE:=hid hpre
        clear hpre
        by_cases hlt:j<an
        ·obtain ⟨x,hr⟩:=Yg HAL.out hlt
         obtain ⟨b,o,rfl,-,hc9,-⟩:=SlP.In.at_ (s:=⟨aA,an,ac,al⟩) (k:=7) (cel:=Ac.cells) (P:=AcIn d) (H.ro 1 rfl).now.2.2.2.2.2 (by omega) (fun _=>rfl) hr
         have q0:=hc9 0 _ (by omega) rfl
         have q1:=hc9 1 _ (by omega) rfl
         have q2:=hc9 2 _ (by omega) rfl
         have q3:=hc9 3 _ (by omega) rfl
         have q4:=hc9 4 _ (by omega) rfl
         have q5:=hc9 5 _ (by omega) rfl
         have q6:=hc9 6 _ (by omega) rfl
         simp only [Nat.add_zero,SlP.v] at q0 q1 q2 q3 q4 q5 q6
         have hmx:=List.mem_of_getElem? hr
         have HXR:=hid hr
         clear hc9 hr
         have K0:=(H.Za #[.int .i64 x.kind,.string x.tab,.slice x.rows.A x.rows.n x.rows.c,.slice x.qs.A x.qs.n x.qs.c,.slice x.sets.A x.sets.n x.sets.c,.slice x.wh.A x.wh.n x.wh.c,.string x.text] 97)
         obtain ⟨gk,hgk⟩:∃ g,g=wr.heap.size:=⟨_,rfl⟩
         rw [←hgk] at K0
         clear H
         obtain ⟨d5,hd5⟩:∃ z:Bool,(x.kind==5)=z:=⟨_,rfl⟩
         go_upto_region 15 with fail
         rw [←hgk]
         have HGK:=hid hgk
         clear hgk q0 q1 q2 q3 q4 q5 q6 hd5
         generalize World.alloc _ _=w1 at K0 ⊢
         have F0:=K0.facts
         simp only [zg] at F0
         go_cut [154] from 121 to 154 (fun v wx=>∃ bb:Bool,v=.bool bb∧(bb=false→x.kind=5→x.sets.n=1)∧Hold Zb none w wx [.cst gk 97 #[.int .i64 x.kind,.string x.tab,.slice x.rows.A x.rows.n x.rows.c,.slice x.qs.A x.qs.n x.qs.c,.slice x.sets.A x.sets.n x.sets.c,.slice x.wh.A x.wh.n x.wh.c,.string x.text],.cst gx 40 #[.string tn,.string tt,.bool tb,.int .i64 te,.slice oA on oc,.bool tch,.slice pA pn pc,.slice qA qn qc,.slice rA rn rc,.slice kA kn kc,.slice (some ⟨b,o,none⟩) an ac],.ro (TgIn d ⟨tn,tt,tb,te,⟨oA,on,oc,ol⟩,tch,⟨pA,pn,pc,pl⟩,⟨qA,qn,qc,ql⟩,⟨rA,rn,rc,rl⟩,⟨kA,kn,kc,kl⟩,⟨some ⟨b,o,none⟩,an,ac,al⟩⟩)])
         case first=>
          obtain ⟨d4,hd4⟩:∃ z:Bool,(x.kind !=4)=z:=⟨_,rfl⟩
          obtain ⟨d3,hd3⟩:∃ z:Bool,(te==3)=z:=⟨_,rfl⟩
          cases tb<;>cases tch<;>cases d5<;>go_wp2_with (go_at_call 163;go_must (refine (Gm d x _ (((K0.ro 2 rfl).imp fun w2 h2=>h2.2.2.2.2.2.2 x hmx).less zn) (HG.out.a.2.2 x hmx)).mono ?_);rintro e w1 ⟨r,rfl,b1,hr5⟩;(have HR5:=hid hr5);clear hr5;replace K0:=K0.call b1;replace F0:=K0.facts;simp only [zg] at F0;clear b1)
          all_goals (go_meet;exact ⟨_,rfl,by first|(intro h;exact absurd h (by decide))|(intro _;exact HR5.out (by first|rfl|assumption))|(intro h;exact HR5.out (by simpa using h)),K0⟩)
         case rest=>
          obtain ⟨bb,rfl,hb5,K1⟩:=hcut
          have HB5:=hid hb5
          clear K0 F0 hb5
          cases bb
          ·go_wp2_with fail
           go_roundw
           case rel=>exact ⟨j+1,by omega,by go_num,fun i a hi ha=>by
            rcases Nat.lt_or_ge i j with h1|h1
            ·exact HPRE.out i a h1 ha
            ·obtain rfl:i=j:=by omega
             rw [HXR.out] at ha
             obtain rfl:=Option.some.inj ha
             exact HB5.out rfl,K1.drop (List.sublist_cons_self _ _)⟩
           case measure=>simp [intOf];omega
          ·go_wp2_with fail
           go_ret
           exact ⟨_,rfl,K1.below,fun h=>(nomatch h)⟩
        ·obtain rfl:an=j:=by omega
         have HB:=hid H.below
         have F0:=H.facts
         simp only [zg] at F0
         go_wp2_with fail
         all_goals (go_ret;exact ⟨_,rfl,HB.out,fun _ a ha=>by
          obtain ⟨i,hi⟩:=List.mem_iff_getElem?.1 ha
          exact HPRE.out i a (by rw [←HAL.out];exact (List.getElem?_eq_some_iff.1 hi).1) hi⟩)
    ·go_wp2_with fail
     go_ret
     exact ⟨_,rfl,K0.below,fun h=>(nomatch h)⟩
  ·go_wp2_with fail
   go_ret
   exact ⟨_,rfl,K0.below,fun h=>(nomatch h)⟩


end Go.Proofs.YtnbbllkbefagmaaGreatDoor
namespace Go.Proofs.YtnbbllkbefagmaaGreatDoor
open Go.RowKit Go.Maps
set_option linter.unusedVariables false
set_option linter.unusedSimpArgs false

end Go.Proofs.YtnbbllkbefagmaaGreatDoor
namespace Go.Proofs.YtnbbllkbefagmaaGreatDoor
open Go.RowKit
set_option linter.unusedVariables false
set_option linter.unusedSimpArgs false










def ZhB (t t' :Tb):Prop:=t'.nm=t.nm∧t'.cs=t.cs∧t.nx≤t'.nx∧∀ r∈t'.rs,(ZeA t.rs r.1).isSome=true∨t.nx≤r.1
end Go.Proofs.YtnbbllkbefagmaaGreatDoor
namespace Go.Proofs.YtnbbllkbefagmaaGreatDoor
open Go.RowKit
set_option linter.unusedVariables false
set_option linter.unusedSimpArgs false
set_option linter.unusedSectionVars false


structure Ue where
 nm:ByteArray
 nx:Int
 I:Option Addr
 ni:Nat
 ci:Nat
 D:Option Addr
 nd:Nat
 cd:Nat
 U:Option Addr
 nu:Nat
 cu:Nat
 li:List Int
 ld:List Rw
 lu:List Rw
theorem VB (l:List Te) (x:Te):ZI (l++[x])=ZI l++x.cells:=by simp [ZI]
def UO (l:List Te) (w:World):Prop:=∀ x∈l,XH x w
theorem Q5 {M:Nat→Prop} {w:World} {rs:List Te} {r:Te} (h:Ro w M (UO rs)) (k:Ro w M (XH r)):Ro w M (UO (rs++[r])):=fun w2 h1 h2 x hx=>by
 rcases List.mem_append.1 hx with hx|hx
 ·exact h w2 h1 h2 x hx
 ·simp at hx;subst hx;exact k w2 h1 h2
theorem Zdp (w:World) (M:Nat→Prop):Ro w M (UO []):=fun _ _ _ r hr=>nomatch hr


theorem Tryz.WK:ElemT Tryz.prog 29 67 4 72 (.agg #[.string ⟨#[]⟩,.slice none 0 0,.int .i64 0,.slice none 0 0]):=⟨Tryz.underlying29,by kernel_rfl,rfl,by omega⟩
def Zdk (w:World) (M:Nat→Prop) (n:Nat) (l:List Te) (e:Ending) (w' :World):Prop:=∃ (C:Option Addr) (c:Nat),e=.returned (.slice C n c)∧Ro w' M (TesIn C n l)∧Below w.heap.size w w'
set_option maxHeartbeats 8000000 in
set_option maxRecDepth 100000 in
theorem Zet (M:Nat→Prop) (w:World) (hM:∀ b,M b→b<w.heap.size) (A:Option Addr) (n c:Nat) (l:List Te) (B:Option Addr) (m d:Nat) (k:List Te) (hD:Ro w M (TesIn A n l)) (hE:Ro w M (TesIn B m k)) (hn:n≤1000) (hm:m≤1000):Calls Tryz.prog 79 #[.slice A n c,.slice B m d] w fun e w' =>Zdk w M (n+m) (l++k) e w' :=by
 have K0:=(((Hold.start M w hM).add (hE.less (by simp [Mut]))).add (hD.less (by simp [Mut,Hp.foot]))).nil 67 4
 have HA:=hid (show SlR 4 A n (ZI l) _ from (K0.ro 1 rfl).now.1)
 clear hD hE
 go_enter Tryz.func79,Tryz.ntmps79
 go_wp2_with (at_builtin;first|(refine Yy K0 0 rfl Tryz.WK HA.out rfl (.const (.slice none 0 0)) (.tmp 5) rfl rfl rfl (ZaX l) (by omega) (by omega) ?_;intro C1 cap1 wA hcA hmA KB;simp only [Nat.zero_add] at hcA ⊢;simp only [Nat.zero_add,List.nil_append,List.set_cons_zero,List.set_cons_succ] at KB;(have HB:=hid (show SlR 4 B m (ZI k) _ from (KB.ro 2 rfl).now.1)))|(refine Yy KB 0 rfl Tryz.WK HB.out rfl (.tmp 6) (.tmp 7) rfl rfl rfl (ZaX k) (by omega) (by omega) ?_;intro C2 cap2 wB hcB hmB KE;simp only [zl] at KE))
 have KZ:=KE.ZC 0 rfl
 simp only [zl] at KZ
 have hR:Ro _ _ (TesIn C2 (n+m) (l++k)):=((KZ.ro 0 rfl).and ((KZ.ro 1 rfl).and (KZ.ro 2 rfl))).imp fun w2 h2=>⟨by
   have h3:=h2.1
   rw [show ZI l++ZI k=ZI (l++k) by simp [ZI]] at h3
   exact h3,fun x hx=>by
   rcases List.mem_append.1 hx with hx|hx
   ·exact h2.2.1.2 x hx
   ·exact h2.2.2.2 x hx⟩
 have HR:=hid (hR.less zm)
 have HZ:=hid KZ.below
 clear KZ KE hR KB K0
 go_ret
 exact ⟨_,_,rfl,HR.out,HZ.out⟩
def Zad (cn:Nat) (u:Value) (w:World):Prop:=∃ k:Int,u=.int .i64 k∧(0≤k→k<cn)
set_option maxHeartbeats 16000000 in
set_option maxRecDepth 100000 in
theorem ZcB (d:Nat) (a:Ac) (s:Sm) (fA:Option Addr) (fn fc:Nat) (fl:List Fr) (tA:Option Addr) (tn tc:Nat) (tl:List Te) (w:World) (hx:Ro w Zb (AcIn d a)) (hg:AcGd d a) (h5:a.kind=5→a.sets.n=1) (hs:Ro w Zb (ZK s)) (hf:Ro w Zb (FrsIn ⟨fA,fn,fc,fl⟩)) (ht:Ro w Zb (TesIn tA tn tl)) (hsn:s.cols.n≤1000) (hfb:FB (d+1) fn fl) (htb:TBd tn tl):Calls Tryz.prog 104 #[.agg #[.int .i64 a.kind,.string a.tab,.slice a.rows.A a.rows.n a.rows.c,.slice a.qs.A a.qs.n a.qs.c,.slice a.sets.A a.sets.n a.sets.c,.slice a.wh.A a.wh.n a.wh.c,.string a.text],.agg #[.string s.nm,.slice s.cols.A s.cols.n s.cols.c],.slice fA fn fc,.slice tA tn tc] w fun e w' =>V6 w e w' :=by
 obtain ⟨kind,tab,⟨rA,rn,rc,rl⟩,⟨qA,qn,qc,ql⟩,⟨sA,sn,sc,sl⟩,⟨hA,hn,hc,hl⟩,text⟩:=a
 obtain ⟨snm,⟨cA,cn,cc,cl⟩⟩:=s
 have hcn:cn≤1000:=hsn
 have HSL:=hid (show sl.length=sn from SlP.In.len (s:=⟨sA,sn,sc,sl⟩) (k:=11) (cel:=Se.cells) (P:=ZY d) hx.now.2.2.1 (by omega) (fun _=>rfl))
 have HG:=hid hg
 have H5:=hid h5
 have HFB:=hid hfb
 have HTB:=hid htb
 have HCL:=hid (show cl.length=cn from (RdC.Zw (show SlR 4 cA cn (Zd cl) _ from hs.now.1)).len)
 have K0:=((((((Hold.start Zb w zn).add (ht.less (by simp [Mut]))).add (hf.less (by simp [Mut,Hp.foot]))).add ((hs.imp (S' :=SlR 4 cA cn (Zd cl)) fun w2 h2=>h2.1).less (by simp [Mut,Hp.foot]))).add (hx.less (by simp [Mut,Hp.foot]))).Za #[.int .i64 kind,.string tab,.slice rA rn rc,.slice qA qn qc,.slice sA sn sc,.slice hA hn hc,.string text] 97).Za #[.string snm,.slice cA cn cc] 49
 rw [World.size_alloc] at K0
 obtain ⟨gx,hgx⟩:∃ g,g=w.heap.size:=⟨_,rfl⟩
 rw [←hgx] at K0
 obtain ⟨gs,hgs⟩:∃ g,g=gx+1:=⟨_,rfl⟩
 rw [←hgs] at K0
 clear hx hg hs hf ht hfb htb h5
 go_enter Tryz.func104,Tryz.ntmps104
 go_upto_region 1 with fail
 rw [←hgx]
 try rw [←hgs]
 have HGX:=hid (And.intro hgx hgs)
 clear hgx hgs
 generalize World.alloc _ _=w1 at K0 ⊢
 have F0:=K0.facts
 simp only [zg] at F0
 obtain ⟨d4,hd4⟩:∃ z:Bool,(kind==4)=z:=⟨_,rfl⟩
 cases d4
 ·obtain ⟨d5,hd5⟩:∃ z:Bool,(kind==5)=z:=⟨_,rfl⟩
  cases d5
  ·go_wp2_with fail
   clear F0 hd4 hd5
   refine (Zb6 d ⟨kind,tab,⟨rA,rn,rc,rl⟩,⟨qA,qn,qc,ql⟩,⟨sA,sn,sc,sl⟩,⟨hA,hn,hc,hl⟩,text⟩ fA fn fc fl tA tn tc tl _ ((K0.ro 2 rfl).less zn) HG.out ((K0.ro 4 rfl).less zn) ((K0.ro 5 rfl).less zn) HFB.out HTB.out).mono ?_
   rintro e w5 ⟨cd,rfl,b5⟩
   have K3:=K0.call b5
   clear K0 b5
   go_wp2_with fail
   go_ret
   exact ⟨_,rfl,K3.below⟩
  ·have hk5:kind=5:=by simpa using hd5
   obtain rfl:sn=1:=H5.out hk5
   have HK5:=hid hk5
   clear hk5
   obtain ⟨⟨zc,y⟩,hz⟩:=Yg HSL.out (show 0<1 by omega)
   obtain ⟨qb,qo,rfl,-,-,-⟩:=SlP.In.at_ (s:=⟨sA,1,sc,sl⟩) (k:=11) (cel:=Se.cells) (P:=ZY d) (K0.ro 2 rfl).now.2.2.1 (by omega) (fun _=>rfl) hz
   have HAT:=hid (show ∀ wv:World,AcIn d ⟨kind,tab,⟨rA,rn,rc,rl⟩,⟨qA,qn,qc,ql⟩,⟨some ⟨qb,qo,none⟩,1,sc,sl⟩,⟨hA,hn,hc,hl⟩,text⟩ wv→∀ j u,j<11→(Se.cells ⟨zc,y⟩)[j]? =some u→wv.cell? ⟨qb,qo+j,none⟩=some u from fun wv h j u hj hu=>by
    obtain ⟨b',o',e',-,hc',-⟩:=SlP.In.at_ (s:=⟨some ⟨qb,qo,none⟩,1,sc,sl⟩) (k:=11) (cel:=Se.cells) (P:=ZY d) h.2.2.1 (by omega) (fun _=>rfl) hz
    obtain ⟨rfl,rfl⟩:=WO (show some (⟨qb,qo,none⟩:Addr)=some ⟨b',o',none⟩ from e')
    simpa using hc' j u hj hu)
   have hm:=List.mem_of_getElem? hz
   clear hz
   obtain ⟨KM,hKM,K6⟩:=K0.name
   have H1:∀ wv:World,Hold Zb none w wv KM→Blk wv gs 49 #[.string snm,.slice cA cn cc]:=fun wv h=>by rw [hKM] at h;exact h.ZB 0 rfl
   have H2:∀ wv:World,Hold Zb none w wv KM→Blk wv gx 97 #[.int .i64 kind,.string tab,.slice rA rn rc,.slice qA qn qc,.slice (some ⟨qb,qo,none⟩) 1 sc,.slice hA hn hc,.string text]:=fun wv h=>by rw [hKM] at h;exact h.ZB 1 rfl
   have H3:∀ wv:World,Hold Zb none w wv KM→wv.cell? ⟨qb,qo,none⟩=some (.string zc):=fun wv h=>by rw [hKM] at h;exact HAT.out wv (h.ro 2 rfl).now 0 _ (by omega) rfl
   have H4:∀ wv:World,Hold Zb none w wv KM→Ro wv (Mut Zb KM) (SlR 4 cA cn (Zd cl)):=fun wv h=>by rw [hKM] at h ⊢;exact h.ro 3 rfl
   have HH1:=hid H1
   have HH2:=hid H2
   have HH3:=hid H3
   have HH4:=hid H4
   have HKM:=hid hKM
   clear hKM H1 H2 H3 H4 K0
   go_wp2_with fail
   clear F0
   refine wp_region_any (by kernel_rfl) ?_
   refine ZH 7 54 (KM) (spL [(24,Zad cn)]) (by kernel_rfl) (by kernel_rfl) (by kernel_rfl) rfl ?_ (K6.drew) ?_
   ·exact Ze (fun _ _ _ _ h=>h) (ZF _)
   simp only [zd,Act.put,List.getElem_toArray,List.getElem_cons_zero,List.getElem_cons_succ,zl]
   refine' dv rfl rfl rfl (fun wv HC=>?_) ?_;rotate_left
   ·obtain q0:=(HH1.out _ HC).cell 0;obtain q1:=(HH1.out _ HC).cell 1;go_simp<;>rfl
   simp only [Act.put,zl]
   refine' dv rfl rfl rfl (fun wv HC=>?_) ?_;rotate_left
   · go_simp<;>rfl
   simp only [Act.put,zl]
   refine' dv rfl rfl rfl (fun wv HC=>?_) ?_;rotate_left
   ·obtain q4:=(HH2.out _ HC).cell 4;go_simp<;>rfl
   iterate 2
    simp only [Act.put,zl]
    refine' dv rfl rfl rfl (fun wv HC=>?_) ?_;rotate_left
    · go_simp<;>rfl
   simp only [Act.put,zl]
   refine' dv rfl rfl rfl (fun wv HC=>?_) ?_;rotate_left
   ·have q0:=HH3.out _ HC;go_simp<;>rfl
   simp only [Act.put,zl]
   refine Zq 24 (Zad cn) (f:=53) (args:=#[.agg #[.string snm,.slice cA cn cc],.string zc]) rfl rfl rfl rfl (fun wv=>?_) (fun wv HC hrm hD=>?_) ?_
   ·go_simp<;>rfl
   ·refine (Xz (Mut Zb KM) wv HC.Zc snm cA cn cc cl zc (HH4.out _ HC) (by omega)).mono ?_
    rintro e w5 ⟨rfl,b5⟩
    exact ⟨_,rfl,⟨_,rfl,fun h=>by have:=Qx (named zc) cl h;rw [HCL.out] at this;exact this⟩,HC.call b5,RM.below b5⟩
   rintro u wx HCx ⟨kf,rfl,hkf⟩
   clear HCx
   simp only [Act.put,zl]
   refine ZE ?_
   rintro wx3 HX
   rintro _hrm HGW
   clear HGW _hrm
   rw [HKM.out] at HX
   clear HH1 HH2 HH3 HH4 HKM K6
   have HKF:=hid hkf
   clear hkf
   have F4:=HX.facts
   simp only [zg] at F4
   by_cases hneg:kf<0
   ·go_wp2_with fail
    go_ret
    exact ⟨_,rfl,HX.below⟩
   ·obtain ⟨kk,rfl⟩:∃ k:Nat,kf=(k:Int):=⟨kf.toNat,by omega⟩
    have hkk:kk<cn:=by have:=HKF.out (by omega);omega
    have hneg' :¬((kk:Int)<0):=by omega
    have hki:(kk:Int)<(cn:Int):=by omega
    have x1:=HAT.out _ (HX.ro 2 rfl).now 1 _ (by omega) rfl
    have x2:=HAT.out _ (HX.ro 2 rfl).now 2 _ (by omega) rfl
    have x3:=HAT.out _ (HX.ro 2 rfl).now 3 _ (by omega) rfl
    have x4:=HAT.out _ (HX.ro 2 rfl).now 4 _ (by omega) rfl
    have x5:=HAT.out _ (HX.ro 2 rfl).now 5 _ (by omega) rfl
    have x6:=HAT.out _ (HX.ro 2 rfl).now 6 _ (by omega) rfl
    have x7:=HAT.out _ (HX.ro 2 rfl).now 7 _ (by omega) rfl
    have x8:=HAT.out _ (HX.ro 2 rfl).now 8 _ (by omega) rfl
    have x9:=HAT.out _ (HX.ro 2 rfl).now 9 _ (by omega) rfl
    have x10:=HAT.out _ (HX.ro 2 rfl).now 10 _ (by omega) rfl
    clear hneg
    go_wp2_with fail
    clear F4 x1 x2 x3 x4 x5 x6 x7 x8 x9 x10
    refine (Va d y fA fn fc fl tA tn tc tl _ (((HX.ro 2 rfl).imp fun w2 h2=>h2.2.2.1.2 _ hm).less zn) (HG.out.s.2.2 _ hm) ((HX.ro 4 rfl).less zn) ((HX.ro 5 rfl).less zn) ⟨by have:=HFB.out.1;omega,HFB.out.2⟩ HTB.out).mono ?_
    rintro e w8 ⟨t,cd,rfl,b8⟩
    have K5:=HX.call b8
    clear HX b8
    have F5:=K5.facts
    simp only [zg] at F5
    obtain ⟨⟨xnm,xty,xnn,xkey⟩,hcx⟩:=YC HCL.out hkk
    obtain ⟨b2,o2,rfl,hb2,-,y1,-,-⟩:=(RdC.Zw (K5.ro 3 rfl).now).at_ hcx
    simp only at y1
    clear hcx
    obtain ⟨z,hz⟩:∃ z:Bool,(cd !=0)=z:=⟨_,rfl⟩
    cases z
    ·go_wp2_with fail
     refine (UN _ _ _).mono ?_
     rintro e w9 ⟨r,rfl,b9⟩
     have K6:=K5.call b9
     clear K5 F5 b9 y1
     cases r
     ·go_wp2_with fail
      go_ret
      exact ⟨_,rfl,K6.below⟩
     ·go_wp2_with fail
      go_ret
      exact ⟨_,rfl,K6.below⟩
    ·go_wp2_with fail
     go_ret
     exact ⟨_,rfl,K5.below⟩
 ·go_wp2_with fail
  go_ret
  exact ⟨_,rfl,K0.below⟩
set_option maxHeartbeats 16000000 in
set_option maxRecDepth 100000 in
theorem Zhc (d:Nat) (hd:d≤100) (t:Tg) (A:Option Addr) (n c:Nat) (l:List Te) (w:World) (hx:Ro w Zb (TgIn d t)) (hg:TgGd d t) (ht:Ro w Zb (TesIn A n l)) (hn:n≤900) (hc:∀ x∈l,1≤x.n∧x.n≤1000):Calls Tryz.prog 44 #[t.val,.slice A n c] w fun e w' =>V6 w e w' :=by
 obtain ⟨tn,tt,tb,te,⟨oA,on,oc,ol⟩,tch,⟨pA,pn,pc,pl⟩,⟨qA,qn,qc,ql⟩,⟨rA,rn,rc,rl⟩,⟨kA,kn,kc,kl⟩,⟨aA,an,ac,al⟩⟩:=t
 have HOL:=hid (show ol.length=on from SlP.In.len (s:=⟨oA,on,oc,ol⟩) (k:=1) (cel:=Zt) (P:=fun _ _=>True) hx.now.1 (by omega) (fun _=>rfl))
 have hon:on≤8:=by have h2:ol.length≤8:=hg.o.2.1;have:=HOL.out;omega
 have HRL:=hid (show rl.length=rn from SlP.In.len (s:=⟨rA,rn,rc,rl⟩) (k:=4) (cel:=Rk.cells) (P:=fun _ _=>True) hx.now.2.2.2.1 (by omega) (fun _=>rfl))
 have hrn:rn≤1:=by have h2:rl.length≤1:=hg.r.2.1;have:=HRL.out;omega
 have HAL:=hid (show al.length=an from SlP.In.len (s:=⟨aA,an,ac,al⟩) (k:=7) (cel:=Ac.cells) (P:=AcIn d) hx.now.2.2.2.2.2 (by omega) (fun _=>rfl))
 have han:an≤4:=by have h2:al.length≤4:=hg.a.2.1;have:=HAL.out;omega
 have HG:=hid hg
 have HC:=hid hc
 have HD:=hid hd
 have HTB:=hid (show n≤1000∧∀ x∈l,x.n≤1000 from ⟨by omega,fun x hx=>(hc x hx).2⟩)
 have K0:=(((Hold.start Zb w zn).add (ht.less (by simp [Mut]))).add (hx.less (by simp [Mut,Hp.foot]))).Za #[.string tn,.string tt,.bool tb,.int .i64 te,.slice oA on oc,.bool tch,.slice pA pn pc,.slice qA qn qc,.slice rA rn rc,.slice kA kn kc,.slice aA an ac] 40
 obtain ⟨gx,hgx⟩:∃ g,g=w.heap.size:=⟨_,rfl⟩
 rw [←hgx] at K0
 clear hx hg ht hc
 simp only [Tg.val]
 go_enter Tryz.func44,Tryz.ntmps44
 go_upto_region 1 with fail
 rw [←hgx]
 have HGX:=hid hgx
 clear hgx
 generalize World.alloc _ _=w1 at K0 ⊢
 have F0:=K0.facts
 simp only [zg] at F0
 go_wp2_with fail
 clear F0
 refine (ZcY d ⟨tn,tt,tb,te,⟨oA,on,oc,ol⟩,tch,⟨pA,pn,pc,pl⟩,⟨qA,qn,qc,ql⟩,⟨rA,rn,rc,rl⟩,⟨kA,kn,kc,kl⟩,⟨aA,an,ac,al⟩⟩ _ ((K0.ro 1 rfl).less zn) HG.out).mono ?_
 rintro e w2 ⟨vb,rfl,b2,hv5⟩
 have HV5:=hid hv5
 have K1:=K0.call b2
 clear K0 b2 hv5
 have F1:=K1.facts
 simp only [zg] at F1
 cases vb
 ·go_wp2_with fail
  go_ret
  exact ⟨_,rfl,K1.below⟩
 ·go_wp2_with fail
  clear F1
  refine (VN (Mut Zb _) _ K1.Zc A n c l tt (K1.ro 2 rfl) HTB.out.1 HTB.out.2).mono ?_
  rintro e w3 ⟨⟨snm,⟨cA,cn,cc,cl⟩⟩,ok,rfl,hcn,hok,rs,b3⟩
  have hcn:cn≤1000:=hcn
  have HOK:=hid (show ok=true→1≤cn from fun h=>by
   obtain ⟨x,hx,hxe⟩:=hok h
   have h1:=(HC.out x hx).1
   have h2:x.n=cn:=hxe
   omega)
  have KS:=hid (((K1.call b3).add rs).Za #[.string snm,.slice cA cn cc] 49)
  obtain ⟨gs,hgs⟩:∃ g,g=w3.heap.size:=⟨_,rfl⟩
  have K2:=KS.out
  rw [←hgs] at K2
  clear K1 b3 rs hok KS
  have F2:=K2.facts
  simp only [zg] at F2
  rw [hgs] at F2
  cases ok
  ·have HB:=hid K2.below
   go_wp2_with fail
   go_ret
   exact ⟨_,rfl,HB.out⟩
  ·have h1cn:1≤cn:=HOK.out rfl
   go_upto_region 4 with fail
   rw [←hgs]
   have HGS:=hid hgs
   clear hgs F2
   generalize World.alloc _ _=w4 at K2 ⊢
   have F2:=K2.facts
   simp only [zg] at F2
   go_wp2_with fail
   clear F2
   go_loopw [35] (fun iv wr=>∃ j:Nat,j≤on∧iv=.int .i64 j∧Hold Zb none w wr [.cst gs 49 #[.string snm,.slice cA cn cc],.ro (ZK ⟨snm,⟨cA,cn,cc,cl⟩⟩),.cst gx 40 #[.string tn,.string tt,.bool tb,.int .i64 te,.slice oA on oc,.bool tch,.slice pA pn pc,.slice qA qn qc,.slice rA rn rc,.slice kA kn kc,.slice aA an ac],.ro (TgIn d ⟨tn,tt,tb,te,⟨oA,on,oc,ol⟩,tch,⟨pA,pn,pc,pl⟩,⟨qA,qn,qc,ql⟩,⟨rA,rn,rc,rl⟩,⟨kA,kn,kc,kl⟩,⟨aA,an,ac,al⟩⟩),.ro (TesIn A n l)]) (fun iv _=>on - (intOf iv).toNat)
   case atStart=>exact ⟨0,by omega,rfl,K2⟩
   case round=>
    clear K2
    obtain ⟨j,hj,rfl,H⟩:=hrel
    by_cases hlt:j<on
    ·obtain ⟨nmx,hr⟩:=Yg HOL.out hlt
     obtain ⟨b,o,rfl,-,hc9,-⟩:=SlP.In.at_ (s:=⟨oA,on,oc,ol⟩) (k:=1) (cel:=Zt) (P:=fun _ _=>True) (H.ro 3 rfl).now.1 (by omega) (fun _=>rfl) hr
     have q0:=hc9 0 _ (by omega) rfl
     simp only [Nat.add_zero,Nat.mul_one] at q0
     clear hc9 hr
     have F3:=H.facts
     simp only [zg] at F3
     go_wp2_with fail
     clear F3
     refine (Xz (Mut Zb _) _ H.Zc snm cA cn cc cl nmx ((H.ro 1 rfl).imp fun w2 h2=>h2.1) (by omega)).mono ?_
     rintro e w7 ⟨rfl,b7⟩
     have K4:=H.call b7
     clear H b7 q0
     obtain ⟨kf,hkf⟩:∃ z:Int,Zr (named nmx) cl=z:=⟨_,rfl⟩
     rw [hkf]
     clear hkf
     by_cases hneg:kf<0
     ·go_wp2_with fail
      go_ret
      exact ⟨_,rfl,K4.below⟩
     ·go_wp2_with fail
      go_roundw
      case rel=>exact ⟨j+1,by omega,by go_num,K4⟩
      case measure=>simp [intOf];omega
    ·obtain rfl:on=j:=by omega
     have F3:=H.facts
     simp only [zg] at F3
     go_wp2_with fail
     clear F3
     go_loopw [47] (fun iv wr=>∃ j:Nat,j≤rn∧iv=.int .i64 j∧Hold Zb none w wr [.cst gs 49 #[.string snm,.slice cA cn cc],.ro (ZK ⟨snm,⟨cA,cn,cc,cl⟩⟩),.cst gx 40 #[.string tn,.string tt,.bool tb,.int .i64 te,.slice oA on oc,.bool tch,.slice pA pn pc,.slice qA qn qc,.slice rA rn rc,.slice kA kn kc,.slice aA an ac],.ro (TgIn d ⟨tn,tt,tb,te,⟨oA,on,oc,ol⟩,tch,⟨pA,pn,pc,pl⟩,⟨qA,qn,qc,ql⟩,⟨rA,rn,rc,rl⟩,⟨kA,kn,kc,kl⟩,⟨aA,an,ac,al⟩⟩),.ro (TesIn A n l)]) (fun iv _=>rn - (intOf iv).toNat)
     case atStart=>exact ⟨0,by omega,rfl,H⟩
     case round=>
      clear H
      obtain ⟨j,hj,rfl,H⟩:=hrel
      by_cases hlt:j<rn
      ·obtain ⟨⟨xt,xc,xlo,xhi⟩,hr⟩:=Yg HRL.out hlt
       obtain ⟨b,o,rfl,-,hc9,-⟩:=SlP.In.at_ (s:=⟨rA,rn,rc,rl⟩) (k:=4) (cel:=Rk.cells) (P:=fun _ _=>True) (H.ro 3 rfl).now.2.2.2.1 (by omega) (fun _=>rfl) hr
       have q0:=hc9 0 _ (by omega) rfl
       have q1:=hc9 1 _ (by omega) rfl
       have q2:=hc9 2 _ (by omega) rfl
       have q3:=hc9 3 _ (by omega) rfl
       simp only [Nat.add_zero] at q0 q1 q2 q3
       clear hc9 hr
       have K3:=H.Za #[.string xt,.string xc,.int .i64 xlo,.int .i64 xhi] 85
       have F3:=K3.facts
       simp only [zg] at F3
       clear H
       go_wp2_with fail
       clear F3 q0 q1 q2 q3
       refine (VN (Mut Zb _) _ K3.Zc A n c l xt (K3.ro 5 rfl) HTB.out.1 HTB.out.2).mono ?_
       rintro e w5 ⟨⟨unm,⟨uA,un,uc,ul⟩⟩,ok,rfl,hun,-,ru,b5⟩
       have hun:un≤1000:=hun
       have HUL:=hid (show ul.length=un from (RdC.Zw (show SlR 4 uA un (Zd ul) _ from ru.now.1)).len)
       have K4:=(((K3.call b5).add (ru.imp (S' :=SlR 4 uA un (Zd ul)) fun w2 h2=>h2.1)).Za #[.string unm,.slice uA un uc] 49)
       clear K3 b5 ru
       have F4:=K4.facts
       simp only [zg] at F4
       go_wp2_with fail
       clear F4
       refine (Xz (Mut Zb _) _ K4.Zc unm uA un uc ul xc (K4.ro 1 rfl) (by omega)).mono ?_
       rintro e w7 ⟨rfl,b7⟩
       have K5:=K4.call b7
       clear K4 b7
       have F5:=K5.facts
       simp only [zg] at F5
       have hfl:=Qx (named xc) ul
       rw [HUL.out] at hfl
       obtain ⟨kf,hkf⟩:∃ z:Int,Zr (named xc) ul=z:=⟨_,rfl⟩
       rw [hkf] at hfl ⊢
       clear hkf
       cases ok
       ·clear hfl
        go_wp2_with fail
        go_ret
        exact ⟨_,rfl,K5.below⟩
       ·by_cases hneg:kf<0
        ·clear hfl
         go_wp2_with fail
         go_ret
         exact ⟨_,rfl,K5.below⟩
        ·obtain ⟨kk,rfl⟩:∃ k:Nat,kf=(k:Int):=⟨kf.toNat,by omega⟩
         have hkk:kk<un:=by have:=hfl (by omega);omega
         have hneg' :¬((kk:Int)<0):=by omega
         have hki:(kk:Int)<(un:Int):=by omega
         obtain ⟨⟨xnm,xty,xnn,xkey⟩,hcx⟩:=YC HUL.out hkk
         obtain ⟨b2,o2,rfl,hb2,-,y1,-,-⟩:=(RdC.Zw (K5.ro 1 rfl).now).at_ hcx
         simp only at y1
         clear hcx hfl hneg
         obtain ⟨z,hz⟩:∃ z:Bool,(xty !=1)=z:=⟨_,rfl⟩
         cases z
         ·go_wp2_with fail
          go_roundw
          case rel=>exact ⟨j+1,by omega,by go_num,K5.pick [3,4,5,6,7] (by decide) rfl⟩
          case measure=>simp [intOf];omega
         ·go_wp2_with fail
          go_ret
          exact ⟨_,rfl,K5.below⟩
      ·obtain rfl:rn=j:=by omega
       have F3:=H.facts
       simp only [zg] at F3
       go_wp2_with fail
       clear F3
       refine (ZaT (Mut Zb _) _ H.Zc ⟨tn,tt,tb,te,⟨oA,on,oc,ol⟩,tch,⟨pA,pn,pc,pl⟩,⟨qA,qn,qc,ql⟩,⟨rA,rn,rc,rl⟩,⟨kA,kn,kc,kl⟩,⟨aA,an,ac,al⟩⟩ ⟨snm,⟨cA,cn,cc,cl⟩⟩ (H.ro 1 rfl) hcn).mono ?_
       rintro e w5 ⟨⟨fA,fn,fc,fl⟩,rfl,hfc,hf2,hfl,rf,b5⟩
       have hf2:fn≤2:=hf2
       have HFL:=hid (show ∀ f∈fl,f.cols.n=cn from hfl)
       have K4:=(H.call b5).add rf
       clear H b5 rf hfc hfl
       have F4:=K4.facts
       simp only [zg] at F4
       try simp only [SlP.v]
       go_wp2_with fail
       clear F4
       refine (zo (Mut Zb _) _ K4.Zc ⟨tn,tt,tb,te,⟨oA,on,oc,ol⟩,tch,⟨pA,pn,pc,pl⟩,⟨qA,qn,qc,ql⟩,⟨rA,rn,rc,rl⟩,⟨kA,kn,kc,kl⟩,⟨aA,an,ac,al⟩⟩ ⟨snm,⟨cA,cn,cc,cl⟩⟩ (K4.ro 2 rfl) ⟨h1cn,hcn⟩).mono ?_
       rintro e w6 ⟨xA,xc,xl,rfl,hx2,hxc,hxc2,hxo,rx,b6⟩
       obtain ⟨xn,hxn⟩:∃ k,k=xl.length:=⟨_,rfl⟩
       rw [←hxn] at rx hx2 hxc ⊢
       have HXN:=hid hxn
       have HXO:=hid hxo
       have K5:=(K4.call b6).add rx
       clear K4 b6 rx hxn hxo
       have F5:=K5.facts
       simp only [zg] at F5
       go_wp2_with fail
       clear F5
       refine (Zet (Mut Zb _) _ K5.Zc A n c l xA xn xc xl (K5.ro 6 rfl) (K5.ro 0 rfl) (by omega) (by omega)).mono ?_
       rintro e w7 ⟨TA,tcap,rfl,rt,b7⟩
       obtain ⟨m,hm⟩:∃ k,k=n+xn:=⟨_,rfl⟩
       have hmi:((n:Int)+(xn:Int))=(m:Int):=by omega
       rw [←hm] at rt ⊢
       have HM:=hid hm
       have K6:Hold Zb none w _ [.ro (TesIn TA m (l++xl)),.ro (FrsIn ⟨fA,fn,fc,fl⟩),.cst gs 49 #[.string snm,.slice cA cn cc],.ro (ZK ⟨snm,⟨cA,cn,cc,cl⟩⟩),.cst gx 40 #[.string tn,.string tt,.bool tb,.int .i64 te,.slice oA on oc,.bool tch,.slice pA pn pc,.slice qA qn qc,.slice rA rn rc,.slice kA kn kc,.slice aA an ac],.ro (TgIn d ⟨tn,tt,tb,te,⟨oA,on,oc,ol⟩,tch,⟨pA,pn,pc,pl⟩,⟨qA,qn,qc,ql⟩,⟨rA,rn,rc,rl⟩,⟨kA,kn,kc,kl⟩,⟨aA,an,ac,al⟩⟩)]:=((K5.call b7).add rt).pick [0,2,3,4,5,6] (by decide) rfl
       clear K5 b7 rt hm hmi
       have HTA:=hid (show TBd m (l++xl) from ⟨by have:=HM.out;omega,fun x hx=>by
        rcases List.mem_append.1 hx with hx|hx
        ·exact (HC.out x hx).2
        ·have h1:x.n=cn:=(HXO.out x hx).n
         omega⟩)
       have HFB:=hid (show FB (d+1) fn fl from ⟨by have:=HD.out;omega,fun f hf=>by rw [HFL.out f hf];exact hcn⟩)
       have F6:=K6.facts
       simp only [zg] at F6
       go_wp2_with fail
       clear F6
       refine (Jh d kA kn kc kl fA fn fc fl TA m tcap (l++xl) _ (((K6.ro 5 rfl).imp fun w2 h2=>(show ExsIn d kA kn kl w2 from h2.2.2.2.2.1)).less zn) HG.out.h.2.2 ((K6.ro 1 rfl).less zn) ((K6.ro 0 rfl).less zn) ⟨by have:=HFB.out.1;omega,HFB.out.2⟩ HTA.out).mono ?_
       rintro e w8 ⟨cd,rfl,b8⟩
       have K7:=K6.call b8
       clear K6 b8
       have F7:=K7.facts
       simp only [zg] at F7
       obtain ⟨z,hz⟩:∃ z:Bool,(cd !=0)=z:=⟨_,rfl⟩
       cases z
       ·go_wp2_with fail
        clear F7
        go_loopw [96] (fun iv wr=>∃ j:Nat,j≤an∧iv=.int .i64 j∧Hold Zb none w wr [.ro (TesIn TA m (l++xl)),.ro (FrsIn ⟨fA,fn,fc,fl⟩),.cst gs 49 #[.string snm,.slice cA cn cc],.ro (ZK ⟨snm,⟨cA,cn,cc,cl⟩⟩),.cst gx 40 #[.string tn,.string tt,.bool tb,.int .i64 te,.slice oA on oc,.bool tch,.slice pA pn pc,.slice qA qn qc,.slice rA rn rc,.slice kA kn kc,.slice aA an ac],.ro (TgIn d ⟨tn,tt,tb,te,⟨oA,on,oc,ol⟩,tch,⟨pA,pn,pc,pl⟩,⟨qA,qn,qc,ql⟩,⟨rA,rn,rc,rl⟩,⟨kA,kn,kc,kl⟩,⟨aA,an,ac,al⟩⟩)]) (fun iv _=>an - (intOf iv).toNat)
        case atStart=>exact ⟨0,by omega,rfl,K7⟩
        case round=>
         clear K7
         obtain ⟨j,hj,rfl,H⟩:=hrel
         by_cases hlt:j<an
         ·obtain ⟨x,hr⟩:=Yg HAL.out hlt
          obtain ⟨b,o,rfl,-,hc9,-⟩:=SlP.In.at_ (s:=⟨aA,an,ac,al⟩) (k:=7) (cel:=Ac.cells) (P:=AcIn d) (H.ro 5 rfl).now.2.2.2.2.2 (by omega) (fun _=>rfl) hr
          have q0:=hc9 0 _ (by omega) rfl
          have q1:=hc9 1 _ (by omega) rfl
          have q2:=hc9 2 _ (by omega) rfl
          have q3:=hc9 3 _ (by omega) rfl
          have q4:=hc9 4 _ (by omega) rfl
          have q5:=hc9 5 _ (by omega) rfl
          have q6:=hc9 6 _ (by omega) rfl
          simp only [Nat.add_zero,SlP.v] at q0 q1 q2 q3 q4 q5 q6
          have hmx:=List.mem_of_getElem? hr
          clear hc9 hr
          have K3:=(H.Za #[.int .i64 x.kind,.string x.tab,.slice x.rows.A x.rows.n x.rows.c,.slice x.qs.A x.qs.n x.qs.c,.slice x.sets.A x.sets.n x.sets.c,.slice x.wh.A x.wh.n x.wh.c,.string x.text] 97)
          have F3:=K3.facts
          simp only [zg] at F3
          clear H
          go_wp2_with fail
          clear F3 q0 q1 q2 q3 q4 q5 q6
          refine (ZcB d x ⟨snm,⟨cA,cn,cc,cl⟩⟩ fA fn fc fl TA m tcap (l++xl) _ (((K3.ro 6 rfl).imp fun w2 h2=>h2.2.2.2.2.2.2 x hmx).less zn) (HG.out.a.2.2 x hmx) (HV5.out (by first|rfl|trivial) x hmx) ((K3.ro 4 rfl).less zn) ((K3.ro 2 rfl).less zn) ((K3.ro 1 rfl).less zn) hcn HFB.out HTA.out).mono ?_
          rintro e w9 ⟨cd2,rfl,b9⟩
          have K4:=K3.call b9
          clear K3 b9
          obtain ⟨z,hz⟩:∃ z:Bool,(cd2 !=0)=z:=⟨_,rfl⟩
          cases z
          ·go_wp2_with fail
           go_roundw
           case rel=>exact ⟨j+1,by omega,by go_num,K4.drop (List.sublist_cons_self _ _)⟩
           case measure=>simp [intOf];omega
          ·go_wp2_with fail
           go_ret
           exact ⟨_,rfl,K4.below⟩
         ·obtain rfl:an=j:=by omega
          go_wp2_with fail
          go_ret
          exact ⟨_,rfl,H.below⟩
       ·go_wp2_with fail
        go_ret
        exact ⟨_,rfl,K7.below⟩
end Go.Proofs.YtnbbllkbefagmaaGreatDoor

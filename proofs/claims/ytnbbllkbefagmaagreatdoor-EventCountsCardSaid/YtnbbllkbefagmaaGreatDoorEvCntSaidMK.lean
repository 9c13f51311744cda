import Derived.Test.YtnbbllkbefagmaaGreatDoorEvCntSaidMJ
import Derived.Test.YtnbbllkbefagmaaGreatDoorEvCntSaidMI
import Derived.Deep.CutRange
import Derived.Test.YtnbbllkbefagmaaGreatDoorEvCntSaidME
import Derived.Test.YtnbbllkbefagmaaGreatDoorEvCntSaidMD
namespace Go.Proofs.YtnbbllkbefagmaaGreatDoor
open Go.RowKit
set_option linter.unusedVariables false
set_option linter.unusedSimpArgs false
def VQ (kind:Int) (sn:Nat) (w:World) (e:Ending) (w' :World):Prop:=∃ b:Bool,e=.returned (.bool b)∧Below w.heap.size w w' ∧(b=true→kind=5→sn=1)
set_option maxHeartbeats 16000000 in
set_option maxRecDepth 100000 in
theorem ZdD (d:Nat) (tab:ByteArray) (rA:Option Addr) (rn rc:Nat) (rl:List (SlP Ex)) (qA:Option Addr) (qn qc:Nat) (ql:List Qu) (sA:Option Addr) (sn sc:Nat) (sl:List Se) (hA:Option Addr) (hn hc:Nat) (hl:List Ex) (text:ByteArray) (w:World) (hx:Ro w Zc (AcIn d ⟨1,tab,⟨rA,rn,rc,rl⟩,⟨qA,qn,qc,ql⟩,⟨sA,sn,sc,sl⟩,⟨hA,hn,hc,hl⟩,text⟩)) (hg:AcGd d ⟨1,tab,⟨rA,rn,rc,rl⟩,⟨qA,qn,qc,ql⟩,⟨sA,sn,sc,sl⟩,⟨hA,hn,hc,hl⟩,text⟩):Calls Tryz.prog 163 #[.agg #[.int .i64 1,.string tab,.slice rA rn rc,.slice qA qn qc,.slice sA sn sc,.slice hA hn hc,.string text]] w fun e w' =>VQ 1 sn w e w' :=by
 have HHN:=hid (show hn≤1000 from by
  have h:hl.length=hn:=ExsIn.len (show ExsIn d hA hn hl w from hx.now.2.2.2)
  have h2:hl.length≤1:=hg.h.2.1
  omega)
 have HSN:=hid (show sn≤1000 from by
  have h:sl.length=sn:=SlP.In.len (s:=⟨sA,sn,sc,sl⟩) (k:=11) (cel:=Se.cells) (P:=YC d) hx.now.2.2.1 (by omega) (fun _=>rfl)
  have h2:sl.length≤8:=hg.s.2.1
  omega)
 have HRQ:=hid (show rn≤8∧qn≤1 from by
  have h1:rl.length=rn:=SlP.In.len (s:=⟨rA,rn,rc,rl⟩) (k:=1) (cel:=fun r:SlP Ex=>[r.v]) (P:=fun r w=>r.In 10 Ex.cells (ExIn d) w) hx.now.1 (by omega) (fun _=>rfl)
  have h2:ql.length=qn:=SlP.In.len (s:=⟨qA,qn,qc,ql⟩) (k:=4) (cel:=Qu.cells) (P:=QuIn d) hx.now.2.1 (by omega) (fun _=>rfl)
  have h3:rl.length≤8:=hg.r.2.1
  have h4:ql.length≤1:=hg.q.2.1
  omega)
 have HG:=hid hg
 have K0:=((Hold.start Zc w zn).add (hx.less (by simp [Mut]))).Za #[.int .i64 1,.string tab,.slice rA rn rc,.slice qA qn qc,.slice sA sn sc,.slice hA hn hc,.string text] 97
 obtain ⟨gx,hgx⟩:∃ g,g=w.heap.size:=⟨_,rfl⟩
 rw [←hgx] at K0
 have F0:=K0.facts
 simp only [zg] at F0
 rw [hgx] at F0
 clear hx hg
 go_enter Tryz.func163,Tryz.ntmps163
 go_upto_region 1 with fail
 rw [←hgx] at F0 ⊢
 have HGX:=hid hgx
 clear hgx
 generalize World.alloc _ _=w1 at K0 F0 ⊢
 have HW:=hid (fun (wv:World) (h:Hold Zc none w wv [.cst gx 97 #[.int .i64 1,.string tab,.slice rA rn rc,.slice qA qn qc,.slice sA sn sc,.slice hA hn hc,.string text],.ro (AcIn d ⟨1,tab,⟨rA,rn,rc,rl⟩,⟨qA,qn,qc,ql⟩,⟨sA,sn,sc,sl⟩,⟨hA,hn,hc,hl⟩,text⟩)])=>X5 d hA hn hc hl wv (((h.ro 1 rfl).imp fun w2 h2=>(show ExsIn d hA hn hl w2 from h2.2.2.2)).less zn) HG.out.h.2.2 HHN.out)
 have HI:=hid (fun (wv:World) (h:Hold Zc none w wv [.cst gx 97 #[.int .i64 1,.string tab,.slice rA rn rc,.slice qA qn qc,.slice sA sn sc,.slice hA hn hc,.string text],.ro (AcIn d ⟨1,tab,⟨rA,rn,rc,rl⟩,⟨qA,qn,qc,ql⟩,⟨sA,sn,sc,sl⟩,⟨hA,hn,hc,hl⟩,text⟩)])=>V8 d ⟨1,tab,⟨rA,rn,rc,rl⟩,⟨qA,qn,qc,ql⟩,⟨sA,sn,sc,sl⟩,⟨hA,hn,hc,hl⟩,text⟩ wv ((h.ro 1 rfl).less zn) HG.out)
 have HS:=hid (fun (wv:World) (h:Hold Zc none w wv [.cst gx 97 #[.int .i64 1,.string tab,.slice rA rn rc,.slice qA qn qc,.slice sA sn sc,.slice hA hn hc,.string text],.ro (AcIn d ⟨1,tab,⟨rA,rn,rc,rl⟩,⟨qA,qn,qc,ql⟩,⟨sA,sn,sc,sl⟩,⟨hA,hn,hc,hl⟩,text⟩)])=>VM d ⟨sA,sn,sc,sl⟩ wv (((h.ro 1 rfl).imp fun w2 h2=>h2.2.2.1).less zn) HG.out.s.2.2 HSN.out HG.out.s.1.1)
 go_cut [35] (fun v wx=>∃ bb:Bool,v=.bool bb∧Hold Zc none w wx [.cst gx 97 #[.int .i64 1,.string tab,.slice rA rn rc,.slice qA qn qc,.slice sA sn sc,.slice hA hn hc,.string text],.ro (AcIn d ⟨1,tab,⟨rA,rn,rc,rl⟩,⟨qA,qn,qc,ql⟩,⟨sA,sn,sc,sl⟩,⟨hA,hn,hc,hl⟩,text⟩)])
 case first=>
  obtain ⟨cs,hcs⟩:∃ z:Bool,decide ((0:Int)<(sn:Int))=z:=⟨_,rfl⟩
  have hcs2:decide (0<sn)=cs:=by rw [←hcs];simp
  obtain ⟨ch,hch⟩:∃ z:Bool,decide ((0:Int)<(hn:Int))=z:=⟨_,rfl⟩
  have hch2:decide (0<hn)=ch:=by rw [←hch];simp
  go_wp2_with (first
    | (go_at_call 160;go_must (refine (ZY _ _).mono ?_);rintro e w1 ⟨r,rfl,b1⟩;replace K0:=K0.call b1;replace F0:=K0.facts;simp only [zg] at F0;clear b1)
    | (go_at_call 182;go_must (refine (Z9 _ _ _ _).mono ?_);rintro e w1 ⟨r,rfl,b1⟩;replace K0:=K0.call b1;replace F0:=K0.facts;simp only [zg] at F0;clear b1)
    | (go_at_call 162;go_must (refine (HW.out _ K0).mono ?_);rintro e w1 ⟨r,rfl,b1⟩;replace K0:=K0.call b1;replace F0:=K0.facts;simp only [zg] at F0;clear b1)
    | (go_at_call 208;go_must (refine (HI.out _ K0).mono ?_);rintro e w1 ⟨r,rfl,b1⟩;replace K0:=K0.call b1;replace F0:=K0.facts;simp only [zg] at F0;clear b1)
    | (go_at_call 209;go_must (refine (HS.out _ K0).mono ?_);rintro e w1 ⟨r,rfl,b1⟩;replace K0:=K0.call b1;replace F0:=K0.facts;simp only [zg] at F0;clear b1))
  all_goals (go_meet;exact ⟨_,rfl,K0⟩)
 case rest=>
  obtain ⟨bb,rfl,K1⟩:=hcut
  clear K0 F0
  have K0:=K1
  clear K1
  have F0:=K0.facts
  simp only [zg] at F0
  cases bb
  ·go_upto_region 3 with fail
   go_cut [80] (fun v wx=>∃ bb:Bool,v=.bool bb∧Hold Zc none w wx [.cst gx 97 #[.int .i64 1,.string tab,.slice rA rn rc,.slice qA qn qc,.slice sA sn sc,.slice hA hn hc,.string text],.ro (AcIn d ⟨1,tab,⟨rA,rn,rc,rl⟩,⟨qA,qn,qc,ql⟩,⟨sA,sn,sc,sl⟩,⟨hA,hn,hc,hl⟩,text⟩)])
   case first=>
    obtain ⟨cs,hcs⟩:∃ z:Bool,decide ((0:Int)<(sn:Int))=z:=⟨_,rfl⟩
    have hcs2:decide (0<sn)=cs:=by rw [←hcs];simp
    obtain ⟨ch,hch⟩:∃ z:Bool,decide ((0:Int)<(hn:Int))=z:=⟨_,rfl⟩
    have hch2:decide (0<hn)=ch:=by rw [←hch];simp
    go_wp2_with (first
      | (go_at_call 160;go_must (refine (ZY _ _).mono ?_);rintro e w1 ⟨r,rfl,b1⟩;replace K0:=K0.call b1;replace F0:=K0.facts;simp only [zg] at F0;clear b1)
      | (go_at_call 182;go_must (refine (Z9 _ _ _ _).mono ?_);rintro e w1 ⟨r,rfl,b1⟩;replace K0:=K0.call b1;replace F0:=K0.facts;simp only [zg] at F0;clear b1)
      | (go_at_call 162;go_must (refine (HW.out _ K0).mono ?_);rintro e w1 ⟨r,rfl,b1⟩;replace K0:=K0.call b1;replace F0:=K0.facts;simp only [zg] at F0;clear b1)
      | (go_at_call 208;go_must (refine (HI.out _ K0).mono ?_);rintro e w1 ⟨r,rfl,b1⟩;replace K0:=K0.call b1;replace F0:=K0.facts;simp only [zg] at F0;clear b1)
      | (go_at_call 209;go_must (refine (HS.out _ K0).mono ?_);rintro e w1 ⟨r,rfl,b1⟩;replace K0:=K0.call b1;replace F0:=K0.facts;simp only [zg] at F0;clear b1))
    all_goals (go_meet;exact ⟨_,rfl,K0⟩)
   case rest=>
    obtain ⟨bb,rfl,K1⟩:=hcut
    clear K0 F0
    have K0:=K1
    clear K1
    have F0:=K0.facts
    simp only [zg] at F0
    cases bb
    ·go_upto_region 5 with fail
     go_cut [90] (fun v wx=>∃ bb:Bool,v=.bool bb∧Hold Zc none w wx [.cst gx 97 #[.int .i64 1,.string tab,.slice rA rn rc,.slice qA qn qc,.slice sA sn sc,.slice hA hn hc,.string text],.ro (AcIn d ⟨1,tab,⟨rA,rn,rc,rl⟩,⟨qA,qn,qc,ql⟩,⟨sA,sn,sc,sl⟩,⟨hA,hn,hc,hl⟩,text⟩)])
     case first=>
      obtain ⟨cs,hcs⟩:∃ z:Bool,decide ((0:Int)<(sn:Int))=z:=⟨_,rfl⟩
      have hcs2:decide (0<sn)=cs:=by rw [←hcs];simp
      obtain ⟨ch,hch⟩:∃ z:Bool,decide ((0:Int)<(hn:Int))=z:=⟨_,rfl⟩
      have hch2:decide (0<hn)=ch:=by rw [←hch];simp
      go_wp2_with (first
        | (go_at_call 160;go_must (refine (ZY _ _).mono ?_);rintro e w1 ⟨r,rfl,b1⟩;replace K0:=K0.call b1;replace F0:=K0.facts;simp only [zg] at F0;clear b1)
        | (go_at_call 182;go_must (refine (Z9 _ _ _ _).mono ?_);rintro e w1 ⟨r,rfl,b1⟩;replace K0:=K0.call b1;replace F0:=K0.facts;simp only [zg] at F0;clear b1)
        | (go_at_call 162;go_must (refine (HW.out _ K0).mono ?_);rintro e w1 ⟨r,rfl,b1⟩;replace K0:=K0.call b1;replace F0:=K0.facts;simp only [zg] at F0;clear b1)
        | (go_at_call 208;go_must (refine (HI.out _ K0).mono ?_);rintro e w1 ⟨r,rfl,b1⟩;replace K0:=K0.call b1;replace F0:=K0.facts;simp only [zg] at F0;clear b1)
        | (go_at_call 209;go_must (refine (HS.out _ K0).mono ?_);rintro e w1 ⟨r,rfl,b1⟩;replace K0:=K0.call b1;replace F0:=K0.facts;simp only [zg] at F0;clear b1))
      all_goals (go_meet;exact ⟨_,rfl,K0⟩)
     case rest=>
      obtain ⟨bb,rfl,K1⟩:=hcut
      clear K0 F0
      have K0:=K1
      clear K1
      have F0:=K0.facts
      simp only [zg] at F0
      cases bb
      ·go_wp2_with (first
         | (go_at_call 160;go_must (refine (ZY _ _).mono ?_);rintro e w1 ⟨r,rfl,b1⟩;replace K0:=K0.call b1;replace F0:=K0.facts;simp only [zg] at F0;clear b1)
         | (go_at_call 182;go_must (refine (Z9 _ _ _ _).mono ?_);rintro e w1 ⟨r,rfl,b1⟩;replace K0:=K0.call b1;replace F0:=K0.facts;simp only [zg] at F0;clear b1)
         | (go_at_call 162;go_must (refine (HW.out _ K0).mono ?_);rintro e w1 ⟨r,rfl,b1⟩;replace K0:=K0.call b1;replace F0:=K0.facts;simp only [zg] at F0;clear b1)
         | (go_at_call 208;go_must (refine (HI.out _ K0).mono ?_);rintro e w1 ⟨r,rfl,b1⟩;replace K0:=K0.call b1;replace F0:=K0.facts;simp only [zg] at F0;clear b1)
         | (go_at_call 209;go_must (refine (HS.out _ K0).mono ?_);rintro e w1 ⟨r,rfl,b1⟩;replace K0:=K0.call b1;replace F0:=K0.facts;simp only [zg] at F0;clear b1))
       all_goals (go_ret;exact ⟨_,rfl,K0.below,fun _ h=>absurd h (by decide)⟩)
      ·go_wp2_with fail
       all_goals (go_ret;exact ⟨_,rfl,K0.below,fun _ h=>absurd h (by decide)⟩)
    ·go_wp2_with fail
     all_goals (go_ret;exact ⟨_,rfl,K0.below,fun _ h=>absurd h (by decide)⟩)
  ·go_wp2_with fail
   all_goals (go_ret;exact ⟨_,rfl,K0.below,fun _ h=>absurd h (by decide)⟩)
set_option maxHeartbeats 16000000 in
set_option maxRecDepth 100000 in
theorem Zc5 (d:Nat) (tab:ByteArray) (rA:Option Addr) (rn rc:Nat) (rl:List (SlP Ex)) (qA:Option Addr) (qn qc:Nat) (ql:List Qu) (sA:Option Addr) (sn sc:Nat) (sl:List Se) (hA:Option Addr) (hn hc:Nat) (hl:List Ex) (text:ByteArray) (w:World) (hx:Ro w Zc (AcIn d ⟨2,tab,⟨rA,rn,rc,rl⟩,⟨qA,qn,qc,ql⟩,⟨sA,sn,sc,sl⟩,⟨hA,hn,hc,hl⟩,text⟩)) (hg:AcGd d ⟨2,tab,⟨rA,rn,rc,rl⟩,⟨qA,qn,qc,ql⟩,⟨sA,sn,sc,sl⟩,⟨hA,hn,hc,hl⟩,text⟩):Calls Tryz.prog 163 #[.agg #[.int .i64 2,.string tab,.slice rA rn rc,.slice qA qn qc,.slice sA sn sc,.slice hA hn hc,.string text]] w fun e w' =>VQ 2 sn w e w' :=by
 have HHN:=hid (show hn≤1000 from by
  have h:hl.length=hn:=ExsIn.len (show ExsIn d hA hn hl w from hx.now.2.2.2)
  have h2:hl.length≤1:=hg.h.2.1
  omega)
 have HSN:=hid (show sn≤1000 from by
  have h:sl.length=sn:=SlP.In.len (s:=⟨sA,sn,sc,sl⟩) (k:=11) (cel:=Se.cells) (P:=YC d) hx.now.2.2.1 (by omega) (fun _=>rfl)
  have h2:sl.length≤8:=hg.s.2.1
  omega)
 have HRQ:=hid (show rn≤8∧qn≤1 from by
  have h1:rl.length=rn:=SlP.In.len (s:=⟨rA,rn,rc,rl⟩) (k:=1) (cel:=fun r:SlP Ex=>[r.v]) (P:=fun r w=>r.In 10 Ex.cells (ExIn d) w) hx.now.1 (by omega) (fun _=>rfl)
  have h2:ql.length=qn:=SlP.In.len (s:=⟨qA,qn,qc,ql⟩) (k:=4) (cel:=Qu.cells) (P:=QuIn d) hx.now.2.1 (by omega) (fun _=>rfl)
  have h3:rl.length≤8:=hg.r.2.1
  have h4:ql.length≤1:=hg.q.2.1
  omega)
 have HG:=hid hg
 have K0:=((Hold.start Zc w zn).add (hx.less (by simp [Mut]))).Za #[.int .i64 2,.string tab,.slice rA rn rc,.slice qA qn qc,.slice sA sn sc,.slice hA hn hc,.string text] 97
 obtain ⟨gx,hgx⟩:∃ g,g=w.heap.size:=⟨_,rfl⟩
 rw [←hgx] at K0
 have F0:=K0.facts
 simp only [zg] at F0
 rw [hgx] at F0
 clear hx hg
 go_enter Tryz.func163,Tryz.ntmps163
 go_upto_region 1 with fail
 rw [←hgx] at F0 ⊢
 have HGX:=hid hgx
 clear hgx
 generalize World.alloc _ _=w1 at K0 F0 ⊢
 have HW:=hid (fun (wv:World) (h:Hold Zc none w wv [.cst gx 97 #[.int .i64 2,.string tab,.slice rA rn rc,.slice qA qn qc,.slice sA sn sc,.slice hA hn hc,.string text],.ro (AcIn d ⟨2,tab,⟨rA,rn,rc,rl⟩,⟨qA,qn,qc,ql⟩,⟨sA,sn,sc,sl⟩,⟨hA,hn,hc,hl⟩,text⟩)])=>X5 d hA hn hc hl wv (((h.ro 1 rfl).imp fun w2 h2=>(show ExsIn d hA hn hl w2 from h2.2.2.2)).less zn) HG.out.h.2.2 HHN.out)
 have HI:=hid (fun (wv:World) (h:Hold Zc none w wv [.cst gx 97 #[.int .i64 2,.string tab,.slice rA rn rc,.slice qA qn qc,.slice sA sn sc,.slice hA hn hc,.string text],.ro (AcIn d ⟨2,tab,⟨rA,rn,rc,rl⟩,⟨qA,qn,qc,ql⟩,⟨sA,sn,sc,sl⟩,⟨hA,hn,hc,hl⟩,text⟩)])=>V8 d ⟨2,tab,⟨rA,rn,rc,rl⟩,⟨qA,qn,qc,ql⟩,⟨sA,sn,sc,sl⟩,⟨hA,hn,hc,hl⟩,text⟩ wv ((h.ro 1 rfl).less zn) HG.out)
 have HS:=hid (fun (wv:World) (h:Hold Zc none w wv [.cst gx 97 #[.int .i64 2,.string tab,.slice rA rn rc,.slice qA qn qc,.slice sA sn sc,.slice hA hn hc,.string text],.ro (AcIn d ⟨2,tab,⟨rA,rn,rc,rl⟩,⟨qA,qn,qc,ql⟩,⟨sA,sn,sc,sl⟩,⟨hA,hn,hc,hl⟩,text⟩)])=>VM d ⟨sA,sn,sc,sl⟩ wv (((h.ro 1 rfl).imp fun w2 h2=>h2.2.2.1).less zn) HG.out.s.2.2 HSN.out HG.out.s.1.1)
 go_cut [35] (fun v wx=>∃ bb:Bool,v=.bool bb∧Hold Zc none w wx [.cst gx 97 #[.int .i64 2,.string tab,.slice rA rn rc,.slice qA qn qc,.slice sA sn sc,.slice hA hn hc,.string text],.ro (AcIn d ⟨2,tab,⟨rA,rn,rc,rl⟩,⟨qA,qn,qc,ql⟩,⟨sA,sn,sc,sl⟩,⟨hA,hn,hc,hl⟩,text⟩)])
 case first=>
  have hw0:IntKind.i64.wrap ((rn:Int)+(qn:Int))=(rn:Int)+(qn:Int):=IntWalk.i64_in _ (by have:=HRQ.out;omega)
  obtain ⟨cr,hcr⟩:∃ z:Bool,decide ((0:Int)<(rn:Int)+(qn:Int))=z:=⟨_,rfl⟩
  obtain ⟨cs,hcs⟩:∃ z:Bool,decide ((0:Int)<(sn:Int))=z:=⟨_,rfl⟩
  have hcs2:decide (0<sn)=cs:=by rw [←hcs];simp
  obtain ⟨ch,hch⟩:∃ z:Bool,decide ((0:Int)<(hn:Int))=z:=⟨_,rfl⟩
  have hch2:decide (0<hn)=ch:=by rw [←hch];simp
  go_wp2_with (first
    | (go_at_call 160;go_must (refine (ZY _ _).mono ?_);rintro e w1 ⟨r,rfl,b1⟩;replace K0:=K0.call b1;replace F0:=K0.facts;simp only [zg] at F0;clear b1)
    | (go_at_call 182;go_must (refine (Z9 _ _ _ _).mono ?_);rintro e w1 ⟨r,rfl,b1⟩;replace K0:=K0.call b1;replace F0:=K0.facts;simp only [zg] at F0;clear b1)
    | (go_at_call 162;go_must (refine (HW.out _ K0).mono ?_);rintro e w1 ⟨r,rfl,b1⟩;replace K0:=K0.call b1;replace F0:=K0.facts;simp only [zg] at F0;clear b1)
    | (go_at_call 208;go_must (refine (HI.out _ K0).mono ?_);rintro e w1 ⟨r,rfl,b1⟩;replace K0:=K0.call b1;replace F0:=K0.facts;simp only [zg] at F0;clear b1)
    | (go_at_call 209;go_must (refine (HS.out _ K0).mono ?_);rintro e w1 ⟨r,rfl,b1⟩;replace K0:=K0.call b1;replace F0:=K0.facts;simp only [zg] at F0;clear b1))
  all_goals (go_meet;exact ⟨_,rfl,K0⟩)
 case rest=>
  obtain ⟨bb,rfl,K1⟩:=hcut
  clear K0 F0
  have K0:=K1
  clear K1
  have F0:=K0.facts
  simp only [zg] at F0
  cases bb
  ·go_upto_region 3 with fail
   go_cut [80] (fun v wx=>∃ bb:Bool,v=.bool bb∧Hold Zc none w wx [.cst gx 97 #[.int .i64 2,.string tab,.slice rA rn rc,.slice qA qn qc,.slice sA sn sc,.slice hA hn hc,.string text],.ro (AcIn d ⟨2,tab,⟨rA,rn,rc,rl⟩,⟨qA,qn,qc,ql⟩,⟨sA,sn,sc,sl⟩,⟨hA,hn,hc,hl⟩,text⟩)])
   case first=>
    have hw0:IntKind.i64.wrap ((rn:Int)+(qn:Int))=(rn:Int)+(qn:Int):=IntWalk.i64_in _ (by have:=HRQ.out;omega)
    obtain ⟨cr,hcr⟩:∃ z:Bool,decide ((0:Int)<(rn:Int)+(qn:Int))=z:=⟨_,rfl⟩
    obtain ⟨cs,hcs⟩:∃ z:Bool,decide ((0:Int)<(sn:Int))=z:=⟨_,rfl⟩
    have hcs2:decide (0<sn)=cs:=by rw [←hcs];simp
    obtain ⟨ch,hch⟩:∃ z:Bool,decide ((0:Int)<(hn:Int))=z:=⟨_,rfl⟩
    have hch2:decide (0<hn)=ch:=by rw [←hch];simp
    go_wp2_with (first
      | (go_at_call 160;go_must (refine (ZY _ _).mono ?_);rintro e w1 ⟨r,rfl,b1⟩;replace K0:=K0.call b1;replace F0:=K0.facts;simp only [zg] at F0;clear b1)
      | (go_at_call 182;go_must (refine (Z9 _ _ _ _).mono ?_);rintro e w1 ⟨r,rfl,b1⟩;replace K0:=K0.call b1;replace F0:=K0.facts;simp only [zg] at F0;clear b1)
      | (go_at_call 162;go_must (refine (HW.out _ K0).mono ?_);rintro e w1 ⟨r,rfl,b1⟩;replace K0:=K0.call b1;replace F0:=K0.facts;simp only [zg] at F0;clear b1)
      | (go_at_call 208;go_must (refine (HI.out _ K0).mono ?_);rintro e w1 ⟨r,rfl,b1⟩;replace K0:=K0.call b1;replace F0:=K0.facts;simp only [zg] at F0;clear b1)
      | (go_at_call 209;go_must (refine (HS.out _ K0).mono ?_);rintro e w1 ⟨r,rfl,b1⟩;replace K0:=K0.call b1;replace F0:=K0.facts;simp only [zg] at F0;clear b1))
    all_goals (go_meet;exact ⟨_,rfl,K0⟩)
   case rest=>
    obtain ⟨bb,rfl,K1⟩:=hcut
    clear K0 F0
    have K0:=K1
    clear K1
    have F0:=K0.facts
    simp only [zg] at F0
    cases bb
    ·go_upto_region 5 with fail
     go_cut [90] (fun v wx=>∃ bb:Bool,v=.bool bb∧Hold Zc none w wx [.cst gx 97 #[.int .i64 2,.string tab,.slice rA rn rc,.slice qA qn qc,.slice sA sn sc,.slice hA hn hc,.string text],.ro (AcIn d ⟨2,tab,⟨rA,rn,rc,rl⟩,⟨qA,qn,qc,ql⟩,⟨sA,sn,sc,sl⟩,⟨hA,hn,hc,hl⟩,text⟩)])
     case first=>
      have hw0:IntKind.i64.wrap ((rn:Int)+(qn:Int))=(rn:Int)+(qn:Int):=IntWalk.i64_in _ (by have:=HRQ.out;omega)
      obtain ⟨cr,hcr⟩:∃ z:Bool,decide ((0:Int)<(rn:Int)+(qn:Int))=z:=⟨_,rfl⟩
      obtain ⟨cs,hcs⟩:∃ z:Bool,decide ((0:Int)<(sn:Int))=z:=⟨_,rfl⟩
      have hcs2:decide (0<sn)=cs:=by rw [←hcs];simp
      obtain ⟨ch,hch⟩:∃ z:Bool,decide ((0:Int)<(hn:Int))=z:=⟨_,rfl⟩
      have hch2:decide (0<hn)=ch:=by rw [←hch];simp
      go_wp2_with (first
        | (go_at_call 160;go_must (refine (ZY _ _).mono ?_);rintro e w1 ⟨r,rfl,b1⟩;replace K0:=K0.call b1;replace F0:=K0.facts;simp only [zg] at F0;clear b1)
        | (go_at_call 182;go_must (refine (Z9 _ _ _ _).mono ?_);rintro e w1 ⟨r,rfl,b1⟩;replace K0:=K0.call b1;replace F0:=K0.facts;simp only [zg] at F0;clear b1)
        | (go_at_call 162;go_must (refine (HW.out _ K0).mono ?_);rintro e w1 ⟨r,rfl,b1⟩;replace K0:=K0.call b1;replace F0:=K0.facts;simp only [zg] at F0;clear b1)
        | (go_at_call 208;go_must (refine (HI.out _ K0).mono ?_);rintro e w1 ⟨r,rfl,b1⟩;replace K0:=K0.call b1;replace F0:=K0.facts;simp only [zg] at F0;clear b1)
        | (go_at_call 209;go_must (refine (HS.out _ K0).mono ?_);rintro e w1 ⟨r,rfl,b1⟩;replace K0:=K0.call b1;replace F0:=K0.facts;simp only [zg] at F0;clear b1))
      all_goals (go_meet;exact ⟨_,rfl,K0⟩)
     case rest=>
      obtain ⟨bb,rfl,K1⟩:=hcut
      clear K0 F0
      have K0:=K1
      clear K1
      have F0:=K0.facts
      simp only [zg] at F0
      cases bb
      ·go_wp2_with (first
         | (go_at_call 160;go_must (refine (ZY _ _).mono ?_);rintro e w1 ⟨r,rfl,b1⟩;replace K0:=K0.call b1;replace F0:=K0.facts;simp only [zg] at F0;clear b1)
         | (go_at_call 182;go_must (refine (Z9 _ _ _ _).mono ?_);rintro e w1 ⟨r,rfl,b1⟩;replace K0:=K0.call b1;replace F0:=K0.facts;simp only [zg] at F0;clear b1)
         | (go_at_call 162;go_must (refine (HW.out _ K0).mono ?_);rintro e w1 ⟨r,rfl,b1⟩;replace K0:=K0.call b1;replace F0:=K0.facts;simp only [zg] at F0;clear b1)
         | (go_at_call 208;go_must (refine (HI.out _ K0).mono ?_);rintro e w1 ⟨r,rfl,b1⟩;replace K0:=K0.call b1;replace F0:=K0.facts;simp only [zg] at F0;clear b1)
         | (go_at_call 209;go_must (refine (HS.out _ K0).mono ?_);rintro e w1 ⟨r,rfl,b1⟩;replace K0:=K0.call b1;replace F0:=K0.facts;simp only [zg] at F0;clear b1))
       all_goals (go_ret;exact ⟨_,rfl,K0.below,fun _ h=>absurd h (by decide)⟩)
      ·go_wp2_with fail
       all_goals (go_ret;exact ⟨_,rfl,K0.below,fun _ h=>absurd h (by decide)⟩)
    ·go_wp2_with fail
     all_goals (go_ret;exact ⟨_,rfl,K0.below,fun _ h=>absurd h (by decide)⟩)
  ·go_wp2_with fail
   all_goals (go_ret;exact ⟨_,rfl,K0.below,fun _ h=>absurd h (by decide)⟩)
set_option maxHeartbeats 16000000 in
set_option maxRecDepth 100000 in
theorem ZgJ (d:Nat) (tab:ByteArray) (rA:Option Addr) (rn rc:Nat) (rl:List (SlP Ex)) (qA:Option Addr) (qn qc:Nat) (ql:List Qu) (sA:Option Addr) (sn sc:Nat) (sl:List Se) (hA:Option Addr) (hn hc:Nat) (hl:List Ex) (text:ByteArray) (w:World) (hx:Ro w Zc (AcIn d ⟨3,tab,⟨rA,rn,rc,rl⟩,⟨qA,qn,qc,ql⟩,⟨sA,sn,sc,sl⟩,⟨hA,hn,hc,hl⟩,text⟩)) (hg:AcGd d ⟨3,tab,⟨rA,rn,rc,rl⟩,⟨qA,qn,qc,ql⟩,⟨sA,sn,sc,sl⟩,⟨hA,hn,hc,hl⟩,text⟩):Calls Tryz.prog 163 #[.agg #[.int .i64 3,.string tab,.slice rA rn rc,.slice qA qn qc,.slice sA sn sc,.slice hA hn hc,.string text]] w fun e w' =>VQ 3 sn w e w' :=by
 have HHN:=hid (show hn≤1000 from by
  have h:hl.length=hn:=ExsIn.len (show ExsIn d hA hn hl w from hx.now.2.2.2)
  have h2:hl.length≤1:=hg.h.2.1
  omega)
 have HSN:=hid (show sn≤1000 from by
  have h:sl.length=sn:=SlP.In.len (s:=⟨sA,sn,sc,sl⟩) (k:=11) (cel:=Se.cells) (P:=YC d) hx.now.2.2.1 (by omega) (fun _=>rfl)
  have h2:sl.length≤8:=hg.s.2.1
  omega)
 have HRQ:=hid (show rn≤8∧qn≤1 from by
  have h1:rl.length=rn:=SlP.In.len (s:=⟨rA,rn,rc,rl⟩) (k:=1) (cel:=fun r:SlP Ex=>[r.v]) (P:=fun r w=>r.In 10 Ex.cells (ExIn d) w) hx.now.1 (by omega) (fun _=>rfl)
  have h2:ql.length=qn:=SlP.In.len (s:=⟨qA,qn,qc,ql⟩) (k:=4) (cel:=Qu.cells) (P:=QuIn d) hx.now.2.1 (by omega) (fun _=>rfl)
  have h3:rl.length≤8:=hg.r.2.1
  have h4:ql.length≤1:=hg.q.2.1
  omega)
 have HG:=hid hg
 have K0:=((Hold.start Zc w zn).add (hx.less (by simp [Mut]))).Za #[.int .i64 3,.string tab,.slice rA rn rc,.slice qA qn qc,.slice sA sn sc,.slice hA hn hc,.string text] 97
 obtain ⟨gx,hgx⟩:∃ g,g=w.heap.size:=⟨_,rfl⟩
 rw [←hgx] at K0
 have F0:=K0.facts
 simp only [zg] at F0
 rw [hgx] at F0
 clear hx hg
 go_enter Tryz.func163,Tryz.ntmps163
 go_upto_region 1 with fail
 rw [←hgx] at F0 ⊢
 have HGX:=hid hgx
 clear hgx
 generalize World.alloc _ _=w1 at K0 F0 ⊢
 have HW:=hid (fun (wv:World) (h:Hold Zc none w wv [.cst gx 97 #[.int .i64 3,.string tab,.slice rA rn rc,.slice qA qn qc,.slice sA sn sc,.slice hA hn hc,.string text],.ro (AcIn d ⟨3,tab,⟨rA,rn,rc,rl⟩,⟨qA,qn,qc,ql⟩,⟨sA,sn,sc,sl⟩,⟨hA,hn,hc,hl⟩,text⟩)])=>X5 d hA hn hc hl wv (((h.ro 1 rfl).imp fun w2 h2=>(show ExsIn d hA hn hl w2 from h2.2.2.2)).less zn) HG.out.h.2.2 HHN.out)
 have HI:=hid (fun (wv:World) (h:Hold Zc none w wv [.cst gx 97 #[.int .i64 3,.string tab,.slice rA rn rc,.slice qA qn qc,.slice sA sn sc,.slice hA hn hc,.string text],.ro (AcIn d ⟨3,tab,⟨rA,rn,rc,rl⟩,⟨qA,qn,qc,ql⟩,⟨sA,sn,sc,sl⟩,⟨hA,hn,hc,hl⟩,text⟩)])=>V8 d ⟨3,tab,⟨rA,rn,rc,rl⟩,⟨qA,qn,qc,ql⟩,⟨sA,sn,sc,sl⟩,⟨hA,hn,hc,hl⟩,text⟩ wv ((h.ro 1 rfl).less zn) HG.out)
 have HS:=hid (fun (wv:World) (h:Hold Zc none w wv [.cst gx 97 #[.int .i64 3,.string tab,.slice rA rn rc,.slice qA qn qc,.slice sA sn sc,.slice hA hn hc,.string text],.ro (AcIn d ⟨3,tab,⟨rA,rn,rc,rl⟩,⟨qA,qn,qc,ql⟩,⟨sA,sn,sc,sl⟩,⟨hA,hn,hc,hl⟩,text⟩)])=>VM d ⟨sA,sn,sc,sl⟩ wv (((h.ro 1 rfl).imp fun w2 h2=>h2.2.2.1).less zn) HG.out.s.2.2 HSN.out HG.out.s.1.1)
 go_cut [35] (fun v wx=>∃ bb:Bool,v=.bool bb∧Hold Zc none w wx [.cst gx 97 #[.int .i64 3,.string tab,.slice rA rn rc,.slice qA qn qc,.slice sA sn sc,.slice hA hn hc,.string text],.ro (AcIn d ⟨3,tab,⟨rA,rn,rc,rl⟩,⟨qA,qn,qc,ql⟩,⟨sA,sn,sc,sl⟩,⟨hA,hn,hc,hl⟩,text⟩)])
 case first=>
  have hw0:IntKind.i64.wrap ((rn:Int)+(qn:Int))=(rn:Int)+(qn:Int):=IntWalk.i64_in _ (by have:=HRQ.out;omega)
  obtain ⟨cr,hcr⟩:∃ z:Bool,decide ((0:Int)<(rn:Int)+(qn:Int))=z:=⟨_,rfl⟩
  obtain ⟨cs,hcs⟩:∃ z:Bool,decide ((0:Int)<(sn:Int))=z:=⟨_,rfl⟩
  have hcs2:decide (0<sn)=cs:=by rw [←hcs];simp
  obtain ⟨ch,hch⟩:∃ z:Bool,decide ((0:Int)<(hn:Int))=z:=⟨_,rfl⟩
  have hch2:decide (0<hn)=ch:=by rw [←hch];simp
  go_wp2_with (first
    | (go_at_call 160;go_must (refine (ZY _ _).mono ?_);rintro e w1 ⟨r,rfl,b1⟩;replace K0:=K0.call b1;replace F0:=K0.facts;simp only [zg] at F0;clear b1)
    | (go_at_call 182;go_must (refine (Z9 _ _ _ _).mono ?_);rintro e w1 ⟨r,rfl,b1⟩;replace K0:=K0.call b1;replace F0:=K0.facts;simp only [zg] at F0;clear b1)
    | (go_at_call 162;go_must (refine (HW.out _ K0).mono ?_);rintro e w1 ⟨r,rfl,b1⟩;replace K0:=K0.call b1;replace F0:=K0.facts;simp only [zg] at F0;clear b1)
    | (go_at_call 208;go_must (refine (HI.out _ K0).mono ?_);rintro e w1 ⟨r,rfl,b1⟩;replace K0:=K0.call b1;replace F0:=K0.facts;simp only [zg] at F0;clear b1)
    | (go_at_call 209;go_must (refine (HS.out _ K0).mono ?_);rintro e w1 ⟨r,rfl,b1⟩;replace K0:=K0.call b1;replace F0:=K0.facts;simp only [zg] at F0;clear b1))
  all_goals (go_meet;exact ⟨_,rfl,K0⟩)
 case rest=>
  obtain ⟨bb,rfl,K1⟩:=hcut
  clear K0 F0
  have K0:=K1
  clear K1
  have F0:=K0.facts
  simp only [zg] at F0
  cases bb
  ·go_upto_region 3 with fail
   go_cut [80] (fun v wx=>∃ bb:Bool,v=.bool bb∧Hold Zc none w wx [.cst gx 97 #[.int .i64 3,.string tab,.slice rA rn rc,.slice qA qn qc,.slice sA sn sc,.slice hA hn hc,.string text],.ro (AcIn d ⟨3,tab,⟨rA,rn,rc,rl⟩,⟨qA,qn,qc,ql⟩,⟨sA,sn,sc,sl⟩,⟨hA,hn,hc,hl⟩,text⟩)])
   case first=>
    have hw0:IntKind.i64.wrap ((rn:Int)+(qn:Int))=(rn:Int)+(qn:Int):=IntWalk.i64_in _ (by have:=HRQ.out;omega)
    obtain ⟨cr,hcr⟩:∃ z:Bool,decide ((0:Int)<(rn:Int)+(qn:Int))=z:=⟨_,rfl⟩
    obtain ⟨cs,hcs⟩:∃ z:Bool,decide ((0:Int)<(sn:Int))=z:=⟨_,rfl⟩
    have hcs2:decide (0<sn)=cs:=by rw [←hcs];simp
    obtain ⟨ch,hch⟩:∃ z:Bool,decide ((0:Int)<(hn:Int))=z:=⟨_,rfl⟩
    have hch2:decide (0<hn)=ch:=by rw [←hch];simp
    go_wp2_with (first
      | (go_at_call 160;go_must (refine (ZY _ _).mono ?_);rintro e w1 ⟨r,rfl,b1⟩;replace K0:=K0.call b1;replace F0:=K0.facts;simp only [zg] at F0;clear b1)
      | (go_at_call 182;go_must (refine (Z9 _ _ _ _).mono ?_);rintro e w1 ⟨r,rfl,b1⟩;replace K0:=K0.call b1;replace F0:=K0.facts;simp only [zg] at F0;clear b1)
      | (go_at_call 162;go_must (refine (HW.out _ K0).mono ?_);rintro e w1 ⟨r,rfl,b1⟩;replace K0:=K0.call b1;replace F0:=K0.facts;simp only [zg] at F0;clear b1)
      | (go_at_call 208;go_must (refine (HI.out _ K0).mono ?_);rintro e w1 ⟨r,rfl,b1⟩;replace K0:=K0.call b1;replace F0:=K0.facts;simp only [zg] at F0;clear b1)
      | (go_at_call 209;go_must (refine (HS.out _ K0).mono ?_);rintro e w1 ⟨r,rfl,b1⟩;replace K0:=K0.call b1;replace F0:=K0.facts;simp only [zg] at F0;clear b1))
    all_goals (go_meet;exact ⟨_,rfl,K0⟩)
   case rest=>
    obtain ⟨bb,rfl,K1⟩:=hcut
    clear K0 F0
    have K0:=K1
    clear K1
    have F0:=K0.facts
    simp only [zg] at F0
    cases bb
    ·go_upto_region 5 with fail
     go_cut [90] (fun v wx=>∃ bb:Bool,v=.bool bb∧Hold Zc none w wx [.cst gx 97 #[.int .i64 3,.string tab,.slice rA rn rc,.slice qA qn qc,.slice sA sn sc,.slice hA hn hc,.string text],.ro (AcIn d ⟨3,tab,⟨rA,rn,rc,rl⟩,⟨qA,qn,qc,ql⟩,⟨sA,sn,sc,sl⟩,⟨hA,hn,hc,hl⟩,text⟩)])
     case first=>
      have hw0:IntKind.i64.wrap ((rn:Int)+(qn:Int))=(rn:Int)+(qn:Int):=IntWalk.i64_in _ (by have:=HRQ.out;omega)
      obtain ⟨cr,hcr⟩:∃ z:Bool,decide ((0:Int)<(rn:Int)+(qn:Int))=z:=⟨_,rfl⟩
      obtain ⟨cs,hcs⟩:∃ z:Bool,decide ((0:Int)<(sn:Int))=z:=⟨_,rfl⟩
      have hcs2:decide (0<sn)=cs:=by rw [←hcs];simp
      obtain ⟨ch,hch⟩:∃ z:Bool,decide ((0:Int)<(hn:Int))=z:=⟨_,rfl⟩
      have hch2:decide (0<hn)=ch:=by rw [←hch];simp
      go_wp2_with (first
        | (go_at_call 160;go_must (refine (ZY _ _).mono ?_);rintro e w1 ⟨r,rfl,b1⟩;replace K0:=K0.call b1;replace F0:=K0.facts;simp only [zg] at F0;clear b1)
        | (go_at_call 182;go_must (refine (Z9 _ _ _ _).mono ?_);rintro e w1 ⟨r,rfl,b1⟩;replace K0:=K0.call b1;replace F0:=K0.facts;simp only [zg] at F0;clear b1)
        | (go_at_call 162;go_must (refine (HW.out _ K0).mono ?_);rintro e w1 ⟨r,rfl,b1⟩;replace K0:=K0.call b1;replace F0:=K0.facts;simp only [zg] at F0;clear b1)
        | (go_at_call 208;go_must (refine (HI.out _ K0).mono ?_);rintro e w1 ⟨r,rfl,b1⟩;replace K0:=K0.call b1;replace F0:=K0.facts;simp only [zg] at F0;clear b1)
        | (go_at_call 209;go_must (refine (HS.out _ K0).mono ?_);rintro e w1 ⟨r,rfl,b1⟩;replace K0:=K0.call b1;replace F0:=K0.facts;simp only [zg] at F0;clear b1))
      all_goals (go_meet;exact ⟨_,rfl,K0⟩)
     case rest=>
      obtain ⟨bb,rfl,K1⟩:=hcut
      clear K0 F0
      have K0:=K1
      clear K1
      have F0:=K0.facts
      simp only [zg] at F0
      cases bb
      ·go_wp2_with (first
         | (go_at_call 160;go_must (refine (ZY _ _).mono ?_);rintro e w1 ⟨r,rfl,b1⟩;replace K0:=K0.call b1;replace F0:=K0.facts;simp only [zg] at F0;clear b1)
         | (go_at_call 182;go_must (refine (Z9 _ _ _ _).mono ?_);rintro e w1 ⟨r,rfl,b1⟩;replace K0:=K0.call b1;replace F0:=K0.facts;simp only [zg] at F0;clear b1)
         | (go_at_call 162;go_must (refine (HW.out _ K0).mono ?_);rintro e w1 ⟨r,rfl,b1⟩;replace K0:=K0.call b1;replace F0:=K0.facts;simp only [zg] at F0;clear b1)
         | (go_at_call 208;go_must (refine (HI.out _ K0).mono ?_);rintro e w1 ⟨r,rfl,b1⟩;replace K0:=K0.call b1;replace F0:=K0.facts;simp only [zg] at F0;clear b1)
         | (go_at_call 209;go_must (refine (HS.out _ K0).mono ?_);rintro e w1 ⟨r,rfl,b1⟩;replace K0:=K0.call b1;replace F0:=K0.facts;simp only [zg] at F0;clear b1))
       all_goals (go_ret;exact ⟨_,rfl,K0.below,fun _ h=>absurd h (by decide)⟩)
      ·go_wp2_with fail
       all_goals (go_ret;exact ⟨_,rfl,K0.below,fun _ h=>absurd h (by decide)⟩)
    ·go_wp2_with fail
     all_goals (go_ret;exact ⟨_,rfl,K0.below,fun _ h=>absurd h (by decide)⟩)
  ·go_wp2_with fail
   all_goals (go_ret;exact ⟨_,rfl,K0.below,fun _ h=>absurd h (by decide)⟩)
set_option maxHeartbeats 16000000 in
set_option maxRecDepth 100000 in
theorem Zdx (d:Nat) (tab:ByteArray) (rA:Option Addr) (rn rc:Nat) (rl:List (SlP Ex)) (qA:Option Addr) (qn qc:Nat) (ql:List Qu) (sA:Option Addr) (sn sc:Nat) (sl:List Se) (hA:Option Addr) (hn hc:Nat) (hl:List Ex) (text:ByteArray) (w:World) (hx:Ro w Zc (AcIn d ⟨4,tab,⟨rA,rn,rc,rl⟩,⟨qA,qn,qc,ql⟩,⟨sA,sn,sc,sl⟩,⟨hA,hn,hc,hl⟩,text⟩)) (hg:AcGd d ⟨4,tab,⟨rA,rn,rc,rl⟩,⟨qA,qn,qc,ql⟩,⟨sA,sn,sc,sl⟩,⟨hA,hn,hc,hl⟩,text⟩):Calls Tryz.prog 163 #[.agg #[.int .i64 4,.string tab,.slice rA rn rc,.slice qA qn qc,.slice sA sn sc,.slice hA hn hc,.string text]] w fun e w' =>VQ 4 sn w e w' :=by
 have HHN:=hid (show hn≤1000 from by
  have h:hl.length=hn:=ExsIn.len (show ExsIn d hA hn hl w from hx.now.2.2.2)
  have h2:hl.length≤1:=hg.h.2.1
  omega)
 have HSN:=hid (show sn≤1000 from by
  have h:sl.length=sn:=SlP.In.len (s:=⟨sA,sn,sc,sl⟩) (k:=11) (cel:=Se.cells) (P:=YC d) hx.now.2.2.1 (by omega) (fun _=>rfl)
  have h2:sl.length≤8:=hg.s.2.1
  omega)
 have HRQ:=hid (show rn≤8∧qn≤1 from by
  have h1:rl.length=rn:=SlP.In.len (s:=⟨rA,rn,rc,rl⟩) (k:=1) (cel:=fun r:SlP Ex=>[r.v]) (P:=fun r w=>r.In 10 Ex.cells (ExIn d) w) hx.now.1 (by omega) (fun _=>rfl)
  have h2:ql.length=qn:=SlP.In.len (s:=⟨qA,qn,qc,ql⟩) (k:=4) (cel:=Qu.cells) (P:=QuIn d) hx.now.2.1 (by omega) (fun _=>rfl)
  have h3:rl.length≤8:=hg.r.2.1
  have h4:ql.length≤1:=hg.q.2.1
  omega)
 have HG:=hid hg
 have K0:=((Hold.start Zc w zn).add (hx.less (by simp [Mut]))).Za #[.int .i64 4,.string tab,.slice rA rn rc,.slice qA qn qc,.slice sA sn sc,.slice hA hn hc,.string text] 97
 obtain ⟨gx,hgx⟩:∃ g,g=w.heap.size:=⟨_,rfl⟩
 rw [←hgx] at K0
 have F0:=K0.facts
 simp only [zg] at F0
 rw [hgx] at F0
 clear hx hg
 go_enter Tryz.func163,Tryz.ntmps163
 go_upto_region 1 with fail
 rw [←hgx] at F0 ⊢
 have HGX:=hid hgx
 clear hgx
 generalize World.alloc _ _=w1 at K0 F0 ⊢
 have HW:=hid (fun (wv:World) (h:Hold Zc none w wv [.cst gx 97 #[.int .i64 4,.string tab,.slice rA rn rc,.slice qA qn qc,.slice sA sn sc,.slice hA hn hc,.string text],.ro (AcIn d ⟨4,tab,⟨rA,rn,rc,rl⟩,⟨qA,qn,qc,ql⟩,⟨sA,sn,sc,sl⟩,⟨hA,hn,hc,hl⟩,text⟩)])=>X5 d hA hn hc hl wv (((h.ro 1 rfl).imp fun w2 h2=>(show ExsIn d hA hn hl w2 from h2.2.2.2)).less zn) HG.out.h.2.2 HHN.out)
 have HI:=hid (fun (wv:World) (h:Hold Zc none w wv [.cst gx 97 #[.int .i64 4,.string tab,.slice rA rn rc,.slice qA qn qc,.slice sA sn sc,.slice hA hn hc,.string text],.ro (AcIn d ⟨4,tab,⟨rA,rn,rc,rl⟩,⟨qA,qn,qc,ql⟩,⟨sA,sn,sc,sl⟩,⟨hA,hn,hc,hl⟩,text⟩)])=>V8 d ⟨4,tab,⟨rA,rn,rc,rl⟩,⟨qA,qn,qc,ql⟩,⟨sA,sn,sc,sl⟩,⟨hA,hn,hc,hl⟩,text⟩ wv ((h.ro 1 rfl).less zn) HG.out)
 have HS:=hid (fun (wv:World) (h:Hold Zc none w wv [.cst gx 97 #[.int .i64 4,.string tab,.slice rA rn rc,.slice qA qn qc,.slice sA sn sc,.slice hA hn hc,.string text],.ro (AcIn d ⟨4,tab,⟨rA,rn,rc,rl⟩,⟨qA,qn,qc,ql⟩,⟨sA,sn,sc,sl⟩,⟨hA,hn,hc,hl⟩,text⟩)])=>VM d ⟨sA,sn,sc,sl⟩ wv (((h.ro 1 rfl).imp fun w2 h2=>h2.2.2.1).less zn) HG.out.s.2.2 HSN.out HG.out.s.1.1)
 go_cut [35] (fun v wx=>∃ bb:Bool,v=.bool bb∧Hold Zc none w wx [.cst gx 97 #[.int .i64 4,.string tab,.slice rA rn rc,.slice qA qn qc,.slice sA sn sc,.slice hA hn hc,.string text],.ro (AcIn d ⟨4,tab,⟨rA,rn,rc,rl⟩,⟨qA,qn,qc,ql⟩,⟨sA,sn,sc,sl⟩,⟨hA,hn,hc,hl⟩,text⟩)])
 case first=>
  have hw0:IntKind.i64.wrap ((rn:Int)+(qn:Int))=(rn:Int)+(qn:Int):=IntWalk.i64_in _ (by have:=HRQ.out;omega)
  obtain ⟨cr,hcr⟩:∃ z:Bool,decide ((0:Int)<(rn:Int)+(qn:Int))=z:=⟨_,rfl⟩
  obtain ⟨cs,hcs⟩:∃ z:Bool,decide ((0:Int)<(sn:Int))=z:=⟨_,rfl⟩
  have hcs2:decide (0<sn)=cs:=by rw [←hcs];simp
  obtain ⟨ch,hch⟩:∃ z:Bool,decide ((0:Int)<(hn:Int))=z:=⟨_,rfl⟩
  have hch2:decide (0<hn)=ch:=by rw [←hch];simp
  go_wp2_with (first
    | (go_at_call 160;go_must (refine (ZY _ _).mono ?_);rintro e w1 ⟨r,rfl,b1⟩;replace K0:=K0.call b1;replace F0:=K0.facts;simp only [zg] at F0;clear b1)
    | (go_at_call 182;go_must (refine (Z9 _ _ _ _).mono ?_);rintro e w1 ⟨r,rfl,b1⟩;replace K0:=K0.call b1;replace F0:=K0.facts;simp only [zg] at F0;clear b1)
    | (go_at_call 162;go_must (refine (HW.out _ K0).mono ?_);rintro e w1 ⟨r,rfl,b1⟩;replace K0:=K0.call b1;replace F0:=K0.facts;simp only [zg] at F0;clear b1)
    | (go_at_call 208;go_must (refine (HI.out _ K0).mono ?_);rintro e w1 ⟨r,rfl,b1⟩;replace K0:=K0.call b1;replace F0:=K0.facts;simp only [zg] at F0;clear b1)
    | (go_at_call 209;go_must (refine (HS.out _ K0).mono ?_);rintro e w1 ⟨r,rfl,b1⟩;replace K0:=K0.call b1;replace F0:=K0.facts;simp only [zg] at F0;clear b1))
  all_goals (go_meet;exact ⟨_,rfl,K0⟩)
 case rest=>
  obtain ⟨bb,rfl,K1⟩:=hcut
  clear K0 F0
  have K0:=K1
  clear K1
  have F0:=K0.facts
  simp only [zg] at F0
  cases bb
  ·go_upto_region 3 with fail
   go_cut [80] (fun v wx=>∃ bb:Bool,v=.bool bb∧Hold Zc none w wx [.cst gx 97 #[.int .i64 4,.string tab,.slice rA rn rc,.slice qA qn qc,.slice sA sn sc,.slice hA hn hc,.string text],.ro (AcIn d ⟨4,tab,⟨rA,rn,rc,rl⟩,⟨qA,qn,qc,ql⟩,⟨sA,sn,sc,sl⟩,⟨hA,hn,hc,hl⟩,text⟩)])
   case first=>
    have hw0:IntKind.i64.wrap ((rn:Int)+(qn:Int))=(rn:Int)+(qn:Int):=IntWalk.i64_in _ (by have:=HRQ.out;omega)
    obtain ⟨cr,hcr⟩:∃ z:Bool,decide ((0:Int)<(rn:Int)+(qn:Int))=z:=⟨_,rfl⟩
    obtain ⟨cs,hcs⟩:∃ z:Bool,decide ((0:Int)<(sn:Int))=z:=⟨_,rfl⟩
    have hcs2:decide (0<sn)=cs:=by rw [←hcs];simp
    obtain ⟨ch,hch⟩:∃ z:Bool,decide ((0:Int)<(hn:Int))=z:=⟨_,rfl⟩
    have hch2:decide (0<hn)=ch:=by rw [←hch];simp
    go_wp2_with (first
      | (go_at_call 160;go_must (refine (ZY _ _).mono ?_);rintro e w1 ⟨r,rfl,b1⟩;replace K0:=K0.call b1;replace F0:=K0.facts;simp only [zg] at F0;clear b1)
      | (go_at_call 182;go_must (refine (Z9 _ _ _ _).mono ?_);rintro e w1 ⟨r,rfl,b1⟩;replace K0:=K0.call b1;replace F0:=K0.facts;simp only [zg] at F0;clear b1)
      | (go_at_call 162;go_must (refine (HW.out _ K0).mono ?_);rintro e w1 ⟨r,rfl,b1⟩;replace K0:=K0.call b1;replace F0:=K0.facts;simp only [zg] at F0;clear b1)
      | (go_at_call 208;go_must (refine (HI.out _ K0).mono ?_);rintro e w1 ⟨r,rfl,b1⟩;replace K0:=K0.call b1;replace F0:=K0.facts;simp only [zg] at F0;clear b1)
      | (go_at_call 209;go_must (refine (HS.out _ K0).mono ?_);rintro e w1 ⟨r,rfl,b1⟩;replace K0:=K0.call b1;replace F0:=K0.facts;simp only [zg] at F0;clear b1))
    all_goals (go_meet;exact ⟨_,rfl,K0⟩)
   case rest=>
    obtain ⟨bb,rfl,K1⟩:=hcut
    clear K0 F0
    have K0:=K1
    clear K1
    have F0:=K0.facts
    simp only [zg] at F0
    cases bb
    ·go_upto_region 5 with fail
     go_cut [90] (fun v wx=>∃ bb:Bool,v=.bool bb∧Hold Zc none w wx [.cst gx 97 #[.int .i64 4,.string tab,.slice rA rn rc,.slice qA qn qc,.slice sA sn sc,.slice hA hn hc,.string text],.ro (AcIn d ⟨4,tab,⟨rA,rn,rc,rl⟩,⟨qA,qn,qc,ql⟩,⟨sA,sn,sc,sl⟩,⟨hA,hn,hc,hl⟩,text⟩)])
     case first=>
      have hw0:IntKind.i64.wrap ((rn:Int)+(qn:Int))=(rn:Int)+(qn:Int):=IntWalk.i64_in _ (by have:=HRQ.out;omega)
      obtain ⟨cr,hcr⟩:∃ z:Bool,decide ((0:Int)<(rn:Int)+(qn:Int))=z:=⟨_,rfl⟩
      obtain ⟨cs,hcs⟩:∃ z:Bool,decide ((0:Int)<(sn:Int))=z:=⟨_,rfl⟩
      have hcs2:decide (0<sn)=cs:=by rw [←hcs];simp
      obtain ⟨ch,hch⟩:∃ z:Bool,decide ((0:Int)<(hn:Int))=z:=⟨_,rfl⟩
      have hch2:decide (0<hn)=ch:=by rw [←hch];simp
      go_wp2_with (first
        | (go_at_call 160;go_must (refine (ZY _ _).mono ?_);rintro e w1 ⟨r,rfl,b1⟩;replace K0:=K0.call b1;replace F0:=K0.facts;simp only [zg] at F0;clear b1)
        | (go_at_call 182;go_must (refine (Z9 _ _ _ _).mono ?_);rintro e w1 ⟨r,rfl,b1⟩;replace K0:=K0.call b1;replace F0:=K0.facts;simp only [zg] at F0;clear b1)
        | (go_at_call 162;go_must (refine (HW.out _ K0).mono ?_);rintro e w1 ⟨r,rfl,b1⟩;replace K0:=K0.call b1;replace F0:=K0.facts;simp only [zg] at F0;clear b1)
        | (go_at_call 208;go_must (refine (HI.out _ K0).mono ?_);rintro e w1 ⟨r,rfl,b1⟩;replace K0:=K0.call b1;replace F0:=K0.facts;simp only [zg] at F0;clear b1)
        | (go_at_call 209;go_must (refine (HS.out _ K0).mono ?_);rintro e w1 ⟨r,rfl,b1⟩;replace K0:=K0.call b1;replace F0:=K0.facts;simp only [zg] at F0;clear b1))
      all_goals (go_meet;exact ⟨_,rfl,K0⟩)
     case rest=>
      obtain ⟨bb,rfl,K1⟩:=hcut
      clear K0 F0
      have K0:=K1
      clear K1
      have F0:=K0.facts
      simp only [zg] at F0
      cases bb
      ·go_wp2_with (first
         | (go_at_call 160;go_must (refine (ZY _ _).mono ?_);rintro e w1 ⟨r,rfl,b1⟩;replace K0:=K0.call b1;replace F0:=K0.facts;simp only [zg] at F0;clear b1)
         | (go_at_call 182;go_must (refine (Z9 _ _ _ _).mono ?_);rintro e w1 ⟨r,rfl,b1⟩;replace K0:=K0.call b1;replace F0:=K0.facts;simp only [zg] at F0;clear b1)
         | (go_at_call 162;go_must (refine (HW.out _ K0).mono ?_);rintro e w1 ⟨r,rfl,b1⟩;replace K0:=K0.call b1;replace F0:=K0.facts;simp only [zg] at F0;clear b1)
         | (go_at_call 208;go_must (refine (HI.out _ K0).mono ?_);rintro e w1 ⟨r,rfl,b1⟩;replace K0:=K0.call b1;replace F0:=K0.facts;simp only [zg] at F0;clear b1)
         | (go_at_call 209;go_must (refine (HS.out _ K0).mono ?_);rintro e w1 ⟨r,rfl,b1⟩;replace K0:=K0.call b1;replace F0:=K0.facts;simp only [zg] at F0;clear b1))
       all_goals (go_ret;exact ⟨_,rfl,K0.below,fun _ h=>absurd h (by decide)⟩)
      ·go_wp2_with fail
       all_goals (go_ret;exact ⟨_,rfl,K0.below,fun _ h=>absurd h (by decide)⟩)
    ·go_wp2_with fail
     all_goals (go_ret;exact ⟨_,rfl,K0.below,fun _ h=>absurd h (by decide)⟩)
  ·go_wp2_with fail
   all_goals (go_ret;exact ⟨_,rfl,K0.below,fun _ h=>absurd h (by decide)⟩)
set_option maxHeartbeats 16000000 in
set_option maxRecDepth 100000 in
theorem ZdZ (d:Nat) (tab:ByteArray) (rA:Option Addr) (rn rc:Nat) (rl:List (SlP Ex)) (qA:Option Addr) (qn qc:Nat) (ql:List Qu) (sA:Option Addr) (sn sc:Nat) (sl:List Se) (hA:Option Addr) (hn hc:Nat) (hl:List Ex) (text:ByteArray) (w:World) (hx:Ro w Zc (AcIn d ⟨5,tab,⟨rA,rn,rc,rl⟩,⟨qA,qn,qc,ql⟩,⟨sA,sn,sc,sl⟩,⟨hA,hn,hc,hl⟩,text⟩)) (hg:AcGd d ⟨5,tab,⟨rA,rn,rc,rl⟩,⟨qA,qn,qc,ql⟩,⟨sA,sn,sc,sl⟩,⟨hA,hn,hc,hl⟩,text⟩):Calls Tryz.prog 163 #[.agg #[.int .i64 5,.string tab,.slice rA rn rc,.slice qA qn qc,.slice sA sn sc,.slice hA hn hc,.string text]] w fun e w' =>VQ 5 sn w e w' :=by
 have HHN:=hid (show hn≤1000 from by
  have h:hl.length=hn:=ExsIn.len (show ExsIn d hA hn hl w from hx.now.2.2.2)
  have h2:hl.length≤1:=hg.h.2.1
  omega)
 have HSN:=hid (show sn≤1000 from by
  have h:sl.length=sn:=SlP.In.len (s:=⟨sA,sn,sc,sl⟩) (k:=11) (cel:=Se.cells) (P:=YC d) hx.now.2.2.1 (by omega) (fun _=>rfl)
  have h2:sl.length≤8:=hg.s.2.1
  omega)
 have HRQ:=hid (show rn≤8∧qn≤1 from by
  have h1:rl.length=rn:=SlP.In.len (s:=⟨rA,rn,rc,rl⟩) (k:=1) (cel:=fun r:SlP Ex=>[r.v]) (P:=fun r w=>r.In 10 Ex.cells (ExIn d) w) hx.now.1 (by omega) (fun _=>rfl)
  have h2:ql.length=qn:=SlP.In.len (s:=⟨qA,qn,qc,ql⟩) (k:=4) (cel:=Qu.cells) (P:=QuIn d) hx.now.2.1 (by omega) (fun _=>rfl)
  have h3:rl.length≤8:=hg.r.2.1
  have h4:ql.length≤1:=hg.q.2.1
  omega)
 have HG:=hid hg
 have K0:=((Hold.start Zc w zn).add (hx.less (by simp [Mut]))).Za #[.int .i64 5,.string tab,.slice rA rn rc,.slice qA qn qc,.slice sA sn sc,.slice hA hn hc,.string text] 97
 obtain ⟨gx,hgx⟩:∃ g,g=w.heap.size:=⟨_,rfl⟩
 rw [←hgx] at K0
 have F0:=K0.facts
 simp only [zg] at F0
 rw [hgx] at F0
 clear hx hg
 go_enter Tryz.func163,Tryz.ntmps163
 go_upto_region 1 with fail
 rw [←hgx] at F0 ⊢
 have HGX:=hid hgx
 clear hgx
 generalize World.alloc _ _=w1 at K0 F0 ⊢
 by_cases hs1:sn=1
 ·have HS1:=hid hs1
  clear hs1
  have HW:=hid (fun (wv:World) (h:Hold Zc none w wv [.cst gx 97 #[.int .i64 5,.string tab,.slice rA rn rc,.slice qA qn qc,.slice sA sn sc,.slice hA hn hc,.string text],.ro (AcIn d ⟨5,tab,⟨rA,rn,rc,rl⟩,⟨qA,qn,qc,ql⟩,⟨sA,sn,sc,sl⟩,⟨hA,hn,hc,hl⟩,text⟩)])=>X5 d hA hn hc hl wv (((h.ro 1 rfl).imp fun w2 h2=>(show ExsIn d hA hn hl w2 from h2.2.2.2)).less zn) HG.out.h.2.2 HHN.out)
  have HI:=hid (fun (wv:World) (h:Hold Zc none w wv [.cst gx 97 #[.int .i64 5,.string tab,.slice rA rn rc,.slice qA qn qc,.slice sA sn sc,.slice hA hn hc,.string text],.ro (AcIn d ⟨5,tab,⟨rA,rn,rc,rl⟩,⟨qA,qn,qc,ql⟩,⟨sA,sn,sc,sl⟩,⟨hA,hn,hc,hl⟩,text⟩)])=>V8 d ⟨5,tab,⟨rA,rn,rc,rl⟩,⟨qA,qn,qc,ql⟩,⟨sA,sn,sc,sl⟩,⟨hA,hn,hc,hl⟩,text⟩ wv ((h.ro 1 rfl).less zn) HG.out)
  have HS:=hid (fun (wv:World) (h:Hold Zc none w wv [.cst gx 97 #[.int .i64 5,.string tab,.slice rA rn rc,.slice qA qn qc,.slice sA sn sc,.slice hA hn hc,.string text],.ro (AcIn d ⟨5,tab,⟨rA,rn,rc,rl⟩,⟨qA,qn,qc,ql⟩,⟨sA,sn,sc,sl⟩,⟨hA,hn,hc,hl⟩,text⟩)])=>VM d ⟨sA,sn,sc,sl⟩ wv (((h.ro 1 rfl).imp fun w2 h2=>h2.2.2.1).less zn) HG.out.s.2.2 HSN.out HG.out.s.1.1)
  go_cut [35] (fun v wx=>∃ bb:Bool,v=.bool bb∧Hold Zc none w wx [.cst gx 97 #[.int .i64 5,.string tab,.slice rA rn rc,.slice qA qn qc,.slice sA sn sc,.slice hA hn hc,.string text],.ro (AcIn d ⟨5,tab,⟨rA,rn,rc,rl⟩,⟨qA,qn,qc,ql⟩,⟨sA,sn,sc,sl⟩,⟨hA,hn,hc,hl⟩,text⟩)])
  case first=>
   have hw0:IntKind.i64.wrap ((rn:Int)+(qn:Int))=(rn:Int)+(qn:Int):=IntWalk.i64_in _ (by have:=HRQ.out;omega)
   obtain ⟨cr,hcr⟩:∃ z:Bool,decide ((0:Int)<(rn:Int)+(qn:Int))=z:=⟨_,rfl⟩
   obtain ⟨cs,hcs⟩:∃ z:Bool,decide ((0:Int)<(sn:Int))=z:=⟨_,rfl⟩
   have hcs2:decide (0<sn)=cs:=by rw [←hcs];simp
   obtain ⟨ch,hch⟩:∃ z:Bool,decide ((0:Int)<(hn:Int))=z:=⟨_,rfl⟩
   have hch2:decide (0<hn)=ch:=by rw [←hch];simp
   go_wp2_with (first
     | (go_at_call 160;go_must (refine (ZY _ _).mono ?_);rintro e w1 ⟨r,rfl,b1⟩;replace K0:=K0.call b1;replace F0:=K0.facts;simp only [zg] at F0;clear b1)
     | (go_at_call 182;go_must (refine (Z9 _ _ _ _).mono ?_);rintro e w1 ⟨r,rfl,b1⟩;replace K0:=K0.call b1;replace F0:=K0.facts;simp only [zg] at F0;clear b1)
     | (go_at_call 162;go_must (refine (HW.out _ K0).mono ?_);rintro e w1 ⟨r,rfl,b1⟩;replace K0:=K0.call b1;replace F0:=K0.facts;simp only [zg] at F0;clear b1)
     | (go_at_call 208;go_must (refine (HI.out _ K0).mono ?_);rintro e w1 ⟨r,rfl,b1⟩;replace K0:=K0.call b1;replace F0:=K0.facts;simp only [zg] at F0;clear b1)
     | (go_at_call 209;go_must (refine (HS.out _ K0).mono ?_);rintro e w1 ⟨r,rfl,b1⟩;replace K0:=K0.call b1;replace F0:=K0.facts;simp only [zg] at F0;clear b1))
   all_goals (go_meet;exact ⟨_,rfl,K0⟩)
  case rest=>
   obtain ⟨bb,rfl,K1⟩:=hcut
   clear K0 F0
   have K0:=K1
   clear K1
   have F0:=K0.facts
   simp only [zg] at F0
   cases bb
   ·go_upto_region 3 with fail
    go_cut [80] (fun v wx=>∃ bb:Bool,v=.bool bb∧Hold Zc none w wx [.cst gx 97 #[.int .i64 5,.string tab,.slice rA rn rc,.slice qA qn qc,.slice sA sn sc,.slice hA hn hc,.string text],.ro (AcIn d ⟨5,tab,⟨rA,rn,rc,rl⟩,⟨qA,qn,qc,ql⟩,⟨sA,sn,sc,sl⟩,⟨hA,hn,hc,hl⟩,text⟩)])
    case first=>
     have hw0:IntKind.i64.wrap ((rn:Int)+(qn:Int))=(rn:Int)+(qn:Int):=IntWalk.i64_in _ (by have:=HRQ.out;omega)
     obtain ⟨cr,hcr⟩:∃ z:Bool,decide ((0:Int)<(rn:Int)+(qn:Int))=z:=⟨_,rfl⟩
     obtain ⟨cs,hcs⟩:∃ z:Bool,decide ((0:Int)<(sn:Int))=z:=⟨_,rfl⟩
     have hcs2:decide (0<sn)=cs:=by rw [←hcs];simp
     obtain ⟨ch,hch⟩:∃ z:Bool,decide ((0:Int)<(hn:Int))=z:=⟨_,rfl⟩
     have hch2:decide (0<hn)=ch:=by rw [←hch];simp
     go_wp2_with (first
       | (go_at_call 160;go_must (refine (ZY _ _).mono ?_);rintro e w1 ⟨r,rfl,b1⟩;replace K0:=K0.call b1;replace F0:=K0.facts;simp only [zg] at F0;clear b1)
       | (go_at_call 182;go_must (refine (Z9 _ _ _ _).mono ?_);rintro e w1 ⟨r,rfl,b1⟩;replace K0:=K0.call b1;replace F0:=K0.facts;simp only [zg] at F0;clear b1)
       | (go_at_call 162;go_must (refine (HW.out _ K0).mono ?_);rintro e w1 ⟨r,rfl,b1⟩;replace K0:=K0.call b1;replace F0:=K0.facts;simp only [zg] at F0;clear b1)
       | (go_at_call 208;go_must (refine (HI.out _ K0).mono ?_);rintro e w1 ⟨r,rfl,b1⟩;replace K0:=K0.call b1;replace F0:=K0.facts;simp only [zg] at F0;clear b1)
       | (go_at_call 209;go_must (refine (HS.out _ K0).mono ?_);rintro e w1 ⟨r,rfl,b1⟩;replace K0:=K0.call b1;replace F0:=K0.facts;simp only [zg] at F0;clear b1))
     all_goals (go_meet;exact ⟨_,rfl,K0⟩)
    case rest=>
     obtain ⟨bb,rfl,K1⟩:=hcut
     clear K0 F0
     have K0:=K1
     clear K1
     have F0:=K0.facts
     simp only [zg] at F0
     cases bb
     ·go_upto_region 5 with fail
      go_cut [90] (fun v wx=>∃ bb:Bool,v=.bool bb∧Hold Zc none w wx [.cst gx 97 #[.int .i64 5,.string tab,.slice rA rn rc,.slice qA qn qc,.slice sA sn sc,.slice hA hn hc,.string text],.ro (AcIn d ⟨5,tab,⟨rA,rn,rc,rl⟩,⟨qA,qn,qc,ql⟩,⟨sA,sn,sc,sl⟩,⟨hA,hn,hc,hl⟩,text⟩)])
      case first=>
       have hw0:IntKind.i64.wrap ((rn:Int)+(qn:Int))=(rn:Int)+(qn:Int):=IntWalk.i64_in _ (by have:=HRQ.out;omega)
       obtain ⟨cr,hcr⟩:∃ z:Bool,decide ((0:Int)<(rn:Int)+(qn:Int))=z:=⟨_,rfl⟩
       obtain ⟨cs,hcs⟩:∃ z:Bool,decide ((0:Int)<(sn:Int))=z:=⟨_,rfl⟩
       have hcs2:decide (0<sn)=cs:=by rw [←hcs];simp
       obtain ⟨ch,hch⟩:∃ z:Bool,decide ((0:Int)<(hn:Int))=z:=⟨_,rfl⟩
       have hch2:decide (0<hn)=ch:=by rw [←hch];simp
       go_wp2_with (first
         | (go_at_call 160;go_must (refine (ZY _ _).mono ?_);rintro e w1 ⟨r,rfl,b1⟩;replace K0:=K0.call b1;replace F0:=K0.facts;simp only [zg] at F0;clear b1)
         | (go_at_call 182;go_must (refine (Z9 _ _ _ _).mono ?_);rintro e w1 ⟨r,rfl,b1⟩;replace K0:=K0.call b1;replace F0:=K0.facts;simp only [zg] at F0;clear b1)
         | (go_at_call 162;go_must (refine (HW.out _ K0).mono ?_);rintro e w1 ⟨r,rfl,b1⟩;replace K0:=K0.call b1;replace F0:=K0.facts;simp only [zg] at F0;clear b1)
         | (go_at_call 208;go_must (refine (HI.out _ K0).mono ?_);rintro e w1 ⟨r,rfl,b1⟩;replace K0:=K0.call b1;replace F0:=K0.facts;simp only [zg] at F0;clear b1)
         | (go_at_call 209;go_must (refine (HS.out _ K0).mono ?_);rintro e w1 ⟨r,rfl,b1⟩;replace K0:=K0.call b1;replace F0:=K0.facts;simp only [zg] at F0;clear b1))
       all_goals (go_meet;exact ⟨_,rfl,K0⟩)
      case rest=>
       obtain ⟨bb,rfl,K1⟩:=hcut
       clear K0 F0
       have K0:=K1
       clear K1
       have F0:=K0.facts
       simp only [zg] at F0
       cases bb
       ·go_wp2_with (first
          | (go_at_call 160;go_must (refine (ZY _ _).mono ?_);rintro e w1 ⟨r,rfl,b1⟩;replace K0:=K0.call b1;replace F0:=K0.facts;simp only [zg] at F0;clear b1)
          | (go_at_call 182;go_must (refine (Z9 _ _ _ _).mono ?_);rintro e w1 ⟨r,rfl,b1⟩;replace K0:=K0.call b1;replace F0:=K0.facts;simp only [zg] at F0;clear b1)
          | (go_at_call 162;go_must (refine (HW.out _ K0).mono ?_);rintro e w1 ⟨r,rfl,b1⟩;replace K0:=K0.call b1;replace F0:=K0.facts;simp only [zg] at F0;clear b1)
          | (go_at_call 208;go_must (refine (HI.out _ K0).mono ?_);rintro e w1 ⟨r,rfl,b1⟩;replace K0:=K0.call b1;replace F0:=K0.facts;simp only [zg] at F0;clear b1)
          | (go_at_call 209;go_must (refine (HS.out _ K0).mono ?_);rintro e w1 ⟨r,rfl,b1⟩;replace K0:=K0.call b1;replace F0:=K0.facts;simp only [zg] at F0;clear b1))
        all_goals (go_ret;exact ⟨_,rfl,K0.below,fun _ _=>HS1.out⟩)
       ·go_wp2_with fail
        all_goals (go_ret;exact ⟨_,rfl,K0.below,fun _ _=>HS1.out⟩)
     ·go_wp2_with fail
      all_goals (go_ret;exact ⟨_,rfl,K0.below,fun _ _=>HS1.out⟩)
   ·go_wp2_with fail
    all_goals (go_ret;exact ⟨_,rfl,K0.below,fun _ _=>HS1.out⟩)
 ·have hs1b:((sn:Int)==1)=false:=by simp;omega
  clear hs1
  have HW:=hid (fun (wv:World) (h:Hold Zc none w wv [.cst gx 97 #[.int .i64 5,.string tab,.slice rA rn rc,.slice qA qn qc,.slice sA sn sc,.slice hA hn hc,.string text],.ro (AcIn d ⟨5,tab,⟨rA,rn,rc,rl⟩,⟨qA,qn,qc,ql⟩,⟨sA,sn,sc,sl⟩,⟨hA,hn,hc,hl⟩,text⟩)])=>X5 d hA hn hc hl wv (((h.ro 1 rfl).imp fun w2 h2=>(show ExsIn d hA hn hl w2 from h2.2.2.2)).less zn) HG.out.h.2.2 HHN.out)
  have HI:=hid (fun (wv:World) (h:Hold Zc none w wv [.cst gx 97 #[.int .i64 5,.string tab,.slice rA rn rc,.slice qA qn qc,.slice sA sn sc,.slice hA hn hc,.string text],.ro (AcIn d ⟨5,tab,⟨rA,rn,rc,rl⟩,⟨qA,qn,qc,ql⟩,⟨sA,sn,sc,sl⟩,⟨hA,hn,hc,hl⟩,text⟩)])=>V8 d ⟨5,tab,⟨rA,rn,rc,rl⟩,⟨qA,qn,qc,ql⟩,⟨sA,sn,sc,sl⟩,⟨hA,hn,hc,hl⟩,text⟩ wv ((h.ro 1 rfl).less zn) HG.out)
  have HS:=hid (fun (wv:World) (h:Hold Zc none w wv [.cst gx 97 #[.int .i64 5,.string tab,.slice rA rn rc,.slice qA qn qc,.slice sA sn sc,.slice hA hn hc,.string text],.ro (AcIn d ⟨5,tab,⟨rA,rn,rc,rl⟩,⟨qA,qn,qc,ql⟩,⟨sA,sn,sc,sl⟩,⟨hA,hn,hc,hl⟩,text⟩)])=>VM d ⟨sA,sn,sc,sl⟩ wv (((h.ro 1 rfl).imp fun w2 h2=>h2.2.2.1).less zn) HG.out.s.2.2 HSN.out HG.out.s.1.1)
  go_cut [35] (fun v wx=>∃ bb:Bool,v=.bool bb∧Hold Zc none w wx [.cst gx 97 #[.int .i64 5,.string tab,.slice rA rn rc,.slice qA qn qc,.slice sA sn sc,.slice hA hn hc,.string text],.ro (AcIn d ⟨5,tab,⟨rA,rn,rc,rl⟩,⟨qA,qn,qc,ql⟩,⟨sA,sn,sc,sl⟩,⟨hA,hn,hc,hl⟩,text⟩)])
  case first=>
   have hw0:IntKind.i64.wrap ((rn:Int)+(qn:Int))=(rn:Int)+(qn:Int):=IntWalk.i64_in _ (by have:=HRQ.out;omega)
   obtain ⟨cr,hcr⟩:∃ z:Bool,decide ((0:Int)<(rn:Int)+(qn:Int))=z:=⟨_,rfl⟩
   obtain ⟨cs,hcs⟩:∃ z:Bool,decide ((0:Int)<(sn:Int))=z:=⟨_,rfl⟩
   have hcs2:decide (0<sn)=cs:=by rw [←hcs];simp
   obtain ⟨ch,hch⟩:∃ z:Bool,decide ((0:Int)<(hn:Int))=z:=⟨_,rfl⟩
   have hch2:decide (0<hn)=ch:=by rw [←hch];simp
   go_wp2_with (first
     | (go_at_call 160;go_must (refine (ZY _ _).mono ?_);rintro e w1 ⟨r,rfl,b1⟩;replace K0:=K0.call b1;replace F0:=K0.facts;simp only [zg] at F0;clear b1)
     | (go_at_call 182;go_must (refine (Z9 _ _ _ _).mono ?_);rintro e w1 ⟨r,rfl,b1⟩;replace K0:=K0.call b1;replace F0:=K0.facts;simp only [zg] at F0;clear b1)
     | (go_at_call 162;go_must (refine (HW.out _ K0).mono ?_);rintro e w1 ⟨r,rfl,b1⟩;replace K0:=K0.call b1;replace F0:=K0.facts;simp only [zg] at F0;clear b1)
     | (go_at_call 208;go_must (refine (HI.out _ K0).mono ?_);rintro e w1 ⟨r,rfl,b1⟩;replace K0:=K0.call b1;replace F0:=K0.facts;simp only [zg] at F0;clear b1)
     | (go_at_call 209;go_must (refine (HS.out _ K0).mono ?_);rintro e w1 ⟨r,rfl,b1⟩;replace K0:=K0.call b1;replace F0:=K0.facts;simp only [zg] at F0;clear b1))
   all_goals (go_meet;exact ⟨_,rfl,K0⟩)
  case rest=>
   obtain ⟨bb,rfl,K1⟩:=hcut
   clear K0 F0
   have K0:=K1
   clear K1
   have F0:=K0.facts
   simp only [zg] at F0
   cases bb
   ·go_upto_region 3 with fail
    go_cut [80] (fun v wx=>∃ bb:Bool,v=.bool bb∧Hold Zc none w wx [.cst gx 97 #[.int .i64 5,.string tab,.slice rA rn rc,.slice qA qn qc,.slice sA sn sc,.slice hA hn hc,.string text],.ro (AcIn d ⟨5,tab,⟨rA,rn,rc,rl⟩,⟨qA,qn,qc,ql⟩,⟨sA,sn,sc,sl⟩,⟨hA,hn,hc,hl⟩,text⟩)])
    case first=>
     have hw0:IntKind.i64.wrap ((rn:Int)+(qn:Int))=(rn:Int)+(qn:Int):=IntWalk.i64_in _ (by have:=HRQ.out;omega)
     obtain ⟨cr,hcr⟩:∃ z:Bool,decide ((0:Int)<(rn:Int)+(qn:Int))=z:=⟨_,rfl⟩
     obtain ⟨cs,hcs⟩:∃ z:Bool,decide ((0:Int)<(sn:Int))=z:=⟨_,rfl⟩
     have hcs2:decide (0<sn)=cs:=by rw [←hcs];simp
     obtain ⟨ch,hch⟩:∃ z:Bool,decide ((0:Int)<(hn:Int))=z:=⟨_,rfl⟩
     have hch2:decide (0<hn)=ch:=by rw [←hch];simp
     go_wp2_with (first
       | (go_at_call 160;go_must (refine (ZY _ _).mono ?_);rintro e w1 ⟨r,rfl,b1⟩;replace K0:=K0.call b1;replace F0:=K0.facts;simp only [zg] at F0;clear b1)
       | (go_at_call 182;go_must (refine (Z9 _ _ _ _).mono ?_);rintro e w1 ⟨r,rfl,b1⟩;replace K0:=K0.call b1;replace F0:=K0.facts;simp only [zg] at F0;clear b1)
       | (go_at_call 162;go_must (refine (HW.out _ K0).mono ?_);rintro e w1 ⟨r,rfl,b1⟩;replace K0:=K0.call b1;replace F0:=K0.facts;simp only [zg] at F0;clear b1)
       | (go_at_call 208;go_must (refine (HI.out _ K0).mono ?_);rintro e w1 ⟨r,rfl,b1⟩;replace K0:=K0.call b1;replace F0:=K0.facts;simp only [zg] at F0;clear b1)
       | (go_at_call 209;go_must (refine (HS.out _ K0).mono ?_);rintro e w1 ⟨r,rfl,b1⟩;replace K0:=K0.call b1;replace F0:=K0.facts;simp only [zg] at F0;clear b1))
     all_goals (go_meet;exact ⟨_,rfl,K0⟩)
    case rest=>
     obtain ⟨bb,rfl,K1⟩:=hcut
     clear K0 F0
     have K0:=K1
     clear K1
     have F0:=K0.facts
     simp only [zg] at F0
     cases bb
     ·go_upto_region 5 with fail
      go_cut [90] (fun v wx=>∃ bb:Bool,v=.bool bb∧Hold Zc none w wx [.cst gx 97 #[.int .i64 5,.string tab,.slice rA rn rc,.slice qA qn qc,.slice sA sn sc,.slice hA hn hc,.string text],.ro (AcIn d ⟨5,tab,⟨rA,rn,rc,rl⟩,⟨qA,qn,qc,ql⟩,⟨sA,sn,sc,sl⟩,⟨hA,hn,hc,hl⟩,text⟩)])
      case first=>
       have hw0:IntKind.i64.wrap ((rn:Int)+(qn:Int))=(rn:Int)+(qn:Int):=IntWalk.i64_in _ (by have:=HRQ.out;omega)
       obtain ⟨cr,hcr⟩:∃ z:Bool,decide ((0:Int)<(rn:Int)+(qn:Int))=z:=⟨_,rfl⟩
       obtain ⟨cs,hcs⟩:∃ z:Bool,decide ((0:Int)<(sn:Int))=z:=⟨_,rfl⟩
       have hcs2:decide (0<sn)=cs:=by rw [←hcs];simp
       obtain ⟨ch,hch⟩:∃ z:Bool,decide ((0:Int)<(hn:Int))=z:=⟨_,rfl⟩
       have hch2:decide (0<hn)=ch:=by rw [←hch];simp
       go_wp2_with (first
         | (go_at_call 160;go_must (refine (ZY _ _).mono ?_);rintro e w1 ⟨r,rfl,b1⟩;replace K0:=K0.call b1;replace F0:=K0.facts;simp only [zg] at F0;clear b1)
         | (go_at_call 182;go_must (refine (Z9 _ _ _ _).mono ?_);rintro e w1 ⟨r,rfl,b1⟩;replace K0:=K0.call b1;replace F0:=K0.facts;simp only [zg] at F0;clear b1)
         | (go_at_call 162;go_must (refine (HW.out _ K0).mono ?_);rintro e w1 ⟨r,rfl,b1⟩;replace K0:=K0.call b1;replace F0:=K0.facts;simp only [zg] at F0;clear b1)
         | (go_at_call 208;go_must (refine (HI.out _ K0).mono ?_);rintro e w1 ⟨r,rfl,b1⟩;replace K0:=K0.call b1;replace F0:=K0.facts;simp only [zg] at F0;clear b1)
         | (go_at_call 209;go_must (refine (HS.out _ K0).mono ?_);rintro e w1 ⟨r,rfl,b1⟩;replace K0:=K0.call b1;replace F0:=K0.facts;simp only [zg] at F0;clear b1))
       all_goals (go_meet;exact ⟨_,rfl,K0⟩)
      case rest=>
       obtain ⟨bb,rfl,K1⟩:=hcut
       clear K0 F0
       have K0:=K1
       clear K1
       have F0:=K0.facts
       simp only [zg] at F0
       cases bb
       ·go_wp2_with (first
          | (go_at_call 160;go_must (refine (ZY _ _).mono ?_);rintro e w1 ⟨r,rfl,b1⟩;replace K0:=K0.call b1;replace F0:=K0.facts;simp only [zg] at F0;clear b1)
          | (go_at_call 182;go_must (refine (Z9 _ _ _ _).mono ?_);rintro e w1 ⟨r,rfl,b1⟩;replace K0:=K0.call b1;replace F0:=K0.facts;simp only [zg] at F0;clear b1)
          | (go_at_call 162;go_must (refine (HW.out _ K0).mono ?_);rintro e w1 ⟨r,rfl,b1⟩;replace K0:=K0.call b1;replace F0:=K0.facts;simp only [zg] at F0;clear b1)
          | (go_at_call 208;go_must (refine (HI.out _ K0).mono ?_);rintro e w1 ⟨r,rfl,b1⟩;replace K0:=K0.call b1;replace F0:=K0.facts;simp only [zg] at F0;clear b1)
          | (go_at_call 209;go_must (refine (HS.out _ K0).mono ?_);rintro e w1 ⟨r,rfl,b1⟩;replace K0:=K0.call b1;replace F0:=K0.facts;simp only [zg] at F0;clear b1))
        all_goals (go_ret;exact ⟨_,rfl,K0.below,fun h _=>(nomatch h)⟩)
       ·go_wp2_with fail
        all_goals (go_ret;exact ⟨_,rfl,K0.below,fun h _=>(nomatch h)⟩)
     ·go_wp2_with fail
      all_goals (go_ret;exact ⟨_,rfl,K0.below,fun h _=>(nomatch h)⟩)
   ·go_wp2_with fail
    all_goals (go_ret;exact ⟨_,rfl,K0.below,fun h _=>(nomatch h)⟩)
theorem ZaD (d:Nat) (a:Ac) (w:World) (hx:Ro w Zc (AcIn d a)) (hg:AcGd d a):Calls Tryz.prog 163 #[.agg #[.int .i64 a.kind,.string a.tab,.slice a.rows.A a.rows.n a.rows.c,.slice a.qs.A a.qs.n a.qs.c,.slice a.sets.A a.sets.n a.sets.c,.slice a.wh.A a.wh.n a.wh.c,.string a.text]] w fun e w' =>VQ a.kind a.sets.n w e w' :=by
 obtain ⟨kind,tab,⟨rA,rn,rc,rl⟩,⟨qA,qn,qc,ql⟩,⟨sA,sn,sc,sl⟩,⟨hA,hn,hc,hl⟩,text⟩:=a
 have hk:1≤kind∧kind≤5:=hg.k
 obtain rfl|rfl|rfl|rfl|rfl:kind=1∨kind=2∨kind=3∨kind=4∨kind=5:=by omega
 ·exact ZdD d tab rA rn rc rl qA qn qc ql sA sn sc sl hA hn hc hl text w hx hg
 ·exact Zc5 d tab rA rn rc rl qA qn qc ql sA sn sc sl hA hn hc hl text w hx hg
 ·exact ZgJ d tab rA rn rc rl qA qn qc ql sA sn sc sl hA hn hc hl text w hx hg
 ·exact Zdx d tab rA rn rc rl qA qn qc ql sA sn sc sl hA hn hc hl text w hx hg
 ·exact ZdZ d tab rA rn rc rl qA qn qc ql sA sn sc sl hA hn hc hl text w hx hg
set_option maxHeartbeats 8000000 in
set_option maxRecDepth 100000 in
theorem Zeo (d:Nat) (a:Ac) (w:World) (hx:Ro w Zc (AcIn d a)) (hg:AcGd d a):Calls Tryz.prog 149 #[.agg #[.int .i64 a.kind,.string a.tab,.slice a.rows.A a.rows.n a.rows.c,.slice a.qs.A a.qs.n a.qs.c,.slice a.sets.A a.sets.n a.sets.c,.slice a.wh.A a.wh.n a.wh.c,.string a.text]] w fun e w' =>Xc w e w' :=by
 have HG:=hid hg
 have h1:(1:Int)≤a.kind:=hg.k.1
 have K0:=((Hold.start Zc w zn).add (hx.less (by simp [Mut]))).Za #[.int .i64 a.kind,.string a.tab,.slice a.rows.A a.rows.n a.rows.c,.slice a.qs.A a.qs.n a.qs.c,.slice a.sets.A a.sets.n a.sets.c,.slice a.wh.A a.wh.n a.wh.c,.string a.text] 97
 obtain ⟨gx,hgx⟩:∃ g,g=w.heap.size:=⟨_,rfl⟩
 rw [←hgx] at K0
 clear hx hg
 go_enter Tryz.func149,Tryz.ntmps149
 go_upto_region 1 with fail
 rw [←hgx]
 have HGX:=hid hgx
 clear hgx
 generalize World.alloc _ _=w1 at K0 ⊢
 have F0:=K0.facts
 simp only [zg] at F0
 by_cases h3:a.kind≤3
 ·go_wp2_with (go_at_call 163;go_must (refine (ZaD d a _ ((K0.ro 1 rfl).less zn) HG.out).mono ?_);rintro e w5 ⟨r,rfl,b5,-⟩;replace K0:=K0.call b5;clear b5;replace F0:=K0.facts;simp only [zg] at F0)
  all_goals (go_ret;exact ⟨_,rfl,K0.below⟩)
 ·go_wp2_with fail
  all_goals (go_ret;exact ⟨_,rfl,K0.below⟩)
set_option maxHeartbeats 16000000 in
set_option maxRecDepth 100000 in
theorem ZdM (d:Nat) (a:Ac) (s:Sm) (fA:Option Addr) (fn fc:Nat) (fl:List Fr) (tA:Option Addr) (tn tc:Nat) (tl:List Te) (w:World) (hx:Ro w Zc (AcIn d a)) (hg:AcGd d a) (hs:Ro w Zc (ZQ s)) (hf:Ro w Zc (FrsIn ⟨fA,fn,fc,fl⟩)) (ht:Ro w Zc (TesIn tA tn tl)) (hsn:s.cols.n≤1000) (hfb:FB (d+1) fn fl) (htb:TBd tn tl):Calls Tryz.prog 212 #[.agg #[.int .i64 a.kind,.string a.tab,.slice a.rows.A a.rows.n a.rows.c,.slice a.qs.A a.qs.n a.qs.c,.slice a.sets.A a.sets.n a.sets.c,.slice a.wh.A a.wh.n a.wh.c,.string a.text],.agg #[.string s.nm,.slice s.cols.A s.cols.n s.cols.c],.slice fA fn fc,.slice tA tn tc] w fun e w' =>UI w e w' :=by
 obtain ⟨kind,tab,⟨rA,rn,rc,rl⟩,⟨qA,qn,qc,ql⟩,⟨sA,sn,sc,sl⟩,⟨hA,hn,hc,hl⟩,text⟩:=a
 obtain ⟨snm,⟨cA,cn,cc,cl⟩⟩:=s
 have hcn:cn≤1000:=hsn
 have HRN:=hid (show rl.length=rn from SlP.In.len (s:=⟨rA,rn,rc,rl⟩) (k:=1) (cel:=fun r:SlP Ex=>[r.v]) (P:=fun r w=>r.In 10 Ex.cells (ExIn d) w) hx.now.1 (by omega) (fun _=>rfl))
 have HQN:=hid (show ql.length=qn from SlP.In.len (s:=⟨qA,qn,qc,ql⟩) (k:=4) (cel:=Qu.cells) (P:=QuIn d) hx.now.2.1 (by omega) (fun _=>rfl))
 have hqn:qn≤1:=by have h:ql.length≤1:=hg.q.2.1;have:=HQN.out;omega
 have hrn:rn≤8:=by have h:rl.length≤8:=hg.r.2.1;have:=HRN.out;omega
 have HQG:=hid (show ∀ q∈ql,QuGd d q from hg.q.2.2)
 have HRG:=hid (show ∀ r∈rl,(∀ x∈r.l,ExGd d x)∧r.l.length≤8 from fun r hr=>⟨(hg.r.2.2 r hr).2.2,(hg.r.2.2 r hr).2.1⟩)
 have HFB:=hid hfb
 have HTB:=hid htb
 have HCL:=hid (show cl.length=cn from (RdC.Zy (show SlR 4 cA cn (Zd cl) _ from hs.now.1)).len)
 have K0:=((((((Hold.start Zc w zn).add (ht.less (by simp [Mut]))).add (hf.less (by simp [Mut,Hp.foot]))).add ((hs.imp (S' :=SlR 4 cA cn (Zd cl)) fun w2 h2=>h2.1).less (by simp [Mut,Hp.foot]))).add (hx.less (by simp [Mut,Hp.foot]))).Za #[.int .i64 kind,.string tab,.slice rA rn rc,.slice qA qn qc,.slice sA sn sc,.slice hA hn hc,.string text] 97).Za #[.string snm,.slice cA cn cc] 49
 rw [World.size_alloc] at K0
 obtain ⟨gx,hgx⟩:∃ g,g=w.heap.size:=⟨_,rfl⟩
 rw [←hgx] at K0
 obtain ⟨gs,hgs⟩:∃ g,g=gx+1:=⟨_,rfl⟩
 rw [←hgs] at K0
 clear hx hg hs hf ht hfb htb
 go_enter Tryz.func212,Tryz.ntmps212
 go_upto_region 1 with fail
 rw [←hgx]
 try rw [←hgs]
 have HGX:=hid (And.intro hgx hgs)
 clear hgx hgs
 generalize World.alloc _ _=w1 at K0 ⊢
 have F0:=K0.facts
 simp only [zg] at F0
 go_wp2_with fail
 clear F0
 go_loopw [24] (fun iv wr=>∃ j:Nat,j≤rn∧iv=.int .i64 j∧Hold Zc none w wr [.cst gs 49 #[.string snm,.slice cA cn cc],.cst gx 97 #[.int .i64 kind,.string tab,.slice rA rn rc,.slice qA qn qc,.slice sA sn sc,.slice hA hn hc,.string text],.ro (AcIn d ⟨kind,tab,⟨rA,rn,rc,rl⟩,⟨qA,qn,qc,ql⟩,⟨sA,sn,sc,sl⟩,⟨hA,hn,hc,hl⟩,text⟩),.ro (SlR 4 cA cn (Zd cl)),.ro (FrsIn ⟨fA,fn,fc,fl⟩),.ro (TesIn tA tn tl)]) (fun iv _=>rn - (intOf iv).toNat)
 case atStart=>exact ⟨0,by omega,rfl,K0⟩
 case round=>
  clear K0
  obtain ⟨j,hj,rfl,H⟩:=hrel
  by_cases hlt:j<rn
  ·obtain ⟨⟨eA,en,ec,el⟩,hr⟩:=Yo HRN.out hlt
   obtain ⟨b,o,rfl,-,hc9,hin9⟩:=SlP.In.at_ (s:=⟨rA,rn,rc,rl⟩) (k:=1) (cel:=fun r:SlP Ex=>[r.v]) (P:=fun r w=>r.In 10 Ex.cells (ExIn d) w) (H.ro 2 rfl).now.1 (by omega) (fun _=>rfl) hr
   have q0:=hc9 0 _ (by omega) rfl
   simp only [Nat.add_zero,Nat.mul_one,SlP.v] at q0
   have hml:=List.mem_of_getElem? hr
   have HEL:=hid (show el.length=en from ExsIn.len (show ExsIn d eA en el _ from hin9))
   have h8:en≤8:=by have:=(HRG.out _ hml).2;simp only at this;have:=HEL.out;omega
   have K1:=H.add (S:=ExsIn d eA en el) ((H.ro 2 rfl).imp fun w2 h2=>h2.1.2 _ hml)
   clear hc9 hin9 hr H
   have F1:=K1.facts
   simp only [zg] at F1
   obtain ⟨z,hz⟩:∃ z:Bool,(en==cn)=z:=⟨_,rfl⟩
   cases z
   ·have hzi:((en:Int) !=(cn:Int))=true:=by simp at hz ⊢;omega
    clear hz
    go_wp2_with fail
    go_ret
    exact ⟨_,rfl,K1.below⟩
   ·have hzi:((en:Int) !=(cn:Int))=false:=by simp at hz ⊢;omega
    have HEC:=hid (show en=cn by simpa using hz)
    clear hz
    go_wp2_with fail
    clear F1 q0
    go_loopw [36] (fun iv wr=>∃ k:Nat,k≤en∧iv=.int .i64 k∧Hold Zc none w wr [.ro (ExsIn d eA en el),.cst gs 49 #[.string snm,.slice cA cn cc],.cst gx 97 #[.int .i64 kind,.string tab,.slice (some ⟨b,o,none⟩) rn rc,.slice qA qn qc,.slice sA sn sc,.slice hA hn hc,.string text],.ro (AcIn d ⟨kind,tab,⟨some ⟨b,o,none⟩,rn,rc,rl⟩,⟨qA,qn,qc,ql⟩,⟨sA,sn,sc,sl⟩,⟨hA,hn,hc,hl⟩,text⟩),.ro (SlR 4 cA cn (Zd cl)),.ro (FrsIn ⟨fA,fn,fc,fl⟩),.ro (TesIn tA tn tl)]) (fun iv _=>en - (intOf iv).toNat)
    case atStart=>exact ⟨0,by omega,rfl,K1⟩
    case round=>
     clear K1
     obtain ⟨k,hk,rfl,H⟩:=hrel
     by_cases hlt2:k<en
     ·obtain ⟨y,hy⟩:=Yo HEL.out hlt2
      obtain ⟨qb,qo,rfl,hb,hc,-⟩:=(H.ro 0 rfl).now.at_ hy
      have hm:=List.mem_of_getElem? hy
      have x0:=hc 0 _ (by omega) rfl
      have x1:=hc 1 _ (by omega) rfl
      have x2:=hc 2 _ (by omega) rfl
      have x3:=hc 3 _ (by omega) rfl
      have x4:=hc 4 _ (by omega) rfl
      have x5:=hc 5 _ (by omega) rfl
      have x6:=hc 6 _ (by omega) rfl
      have x7:=hc 7 _ (by omega) rfl
      have x8:=hc 8 _ (by omega) rfl
      have x9:=hc 9 _ (by omega) rfl
      simp only [Nat.add_zero] at x0 x1 x2 x3 x4 x5 x6 x7 x8 x9
      clear hc hy
      have hkc:k<cn:=by rw [←HEC.out];exact hlt2
      obtain ⟨⟨xnm,xty,xnn,xkey⟩,hcx⟩:=YA HCL.out hkc
      obtain ⟨b2,o2,rfl,hb2,-,-,-,-⟩:=(RdC.Zy (H.ro 4 rfl).now).at_ hcx
      have HTYC:=hid (show ∀ wv:World,SlR 4 (some ⟨b2,o2,none⟩) cn (Zd cl) wv→wv.cell? ⟨b2,o2+k * 4+1,none⟩=some (.int .i64 xty) from fun wv h=>by
       obtain ⟨b3,o3,e3,-,-,h1,-,-⟩:=(RdC.Zy h).at_ hcx
       obtain ⟨rfl,rfl⟩:=Vr e3
       exact h1)
      clear hcx
      have K3:=H.Za #[.int .i64 y.kind,.int .i64 y.op,.bool y.nt,.int .i64 y.v.k,.int .i64 y.v.i,.string y.v.s,.string y.tab,.string y.nm,.slice y.A y.n y.c,.slice y.B y.m y.d] 126
      have F3:=K3.facts
      simp only [zg] at F3
      clear H
      go_wp2_with fail
      refine (Vt d y fA fn fc fl tA tn tc tl _ (((K3.ro 1 rfl).imp fun w2 h2=>h2.2 y hm).less zn) ((HRG.out _ hml).1 y hm) ((K3.ro 6 rfl).less zn) ((K3.ro 7 rfl).less zn) ⟨by have:=HFB.out.1;omega,HFB.out.2⟩ HTB.out).mono ?_
      rintro e w4 ⟨t,cd,rfl,b4⟩
      have K4:=K3.call b4
      clear K3 F3 b4 x0 x1 x2 x3 x4 x5 x6 x7 x8 x9
      have F4:=K4.facts
      simp only [zg] at F4
      have y1:=HTYC.out _ (K4.ro 5 rfl).now
      have hki:(k:Int)<(cn:Int):=by omega
      obtain ⟨z,hz⟩:∃ z:Bool,(cd !=0)=z:=⟨_,rfl⟩
      cases z
      ·go_wp2_with fail
       refine (Ql _ _ _).mono ?_
       rintro e w5 ⟨r,rfl,b5⟩
       have K5:=K4.call b5
       clear K4 F4 b5 y1
       cases r
       ·go_wp2_with fail
        go_ret
        exact ⟨_,rfl,K5.below⟩
       ·go_wp2_with fail
        go_roundw
        case rel=>exact ⟨k+1,by omega,by go_num,K5.drop (List.sublist_cons_self _ _)⟩
        case measure=>simp [intOf];omega
      ·go_wp2_with fail
       go_ret
       exact ⟨_,rfl,K4.below⟩
     ·obtain rfl:en=k:=by omega
      go_wp2_with fail
      go_roundw
      case rel=>exact ⟨j+1,by omega,by go_num,H.drop (List.sublist_cons_self _ _)⟩
      case measure=>simp [intOf];omega
  ·obtain rfl:rn=j:=by omega
   have F0:=H.facts
   simp only [zg] at F0
   go_wp2_with fail
   clear F0
   go_loopw [65] (fun iv wr=>∃ j:Nat,j≤qn∧iv=.int .i64 j∧Hold Zc none w wr [.cst gs 49 #[.string snm,.slice cA cn cc],.cst gx 97 #[.int .i64 kind,.string tab,.slice rA rn rc,.slice qA qn qc,.slice sA sn sc,.slice hA hn hc,.string text],.ro (AcIn d ⟨kind,tab,⟨rA,rn,rc,rl⟩,⟨qA,qn,qc,ql⟩,⟨sA,sn,sc,sl⟩,⟨hA,hn,hc,hl⟩,text⟩),.ro (SlR 4 cA cn (Zd cl)),.ro (FrsIn ⟨fA,fn,fc,fl⟩),.ro (TesIn tA tn tl)]) (fun iv _=>qn - (intOf iv).toNat)
   case atStart=>exact ⟨0,by omega,rfl,H⟩
   case round=>
    clear H
    obtain ⟨j,hj,rfl,H⟩:=hrel
    by_cases hlt:j<qn
    ·obtain ⟨⟨star,iA,inn,ic,il,src,wA,wn,wc,wl⟩,hq⟩:=Yo HQN.out hlt
     obtain ⟨b9,o9,rfl,-,hc9,hin9⟩:=SlP.In.at_ (s:=⟨qA,qn,qc,ql⟩) (k:=4) (cel:=Qu.cells) (P:=QuIn d) (H.ro 2 rfl).now.2.1 (by omega) (fun _=>rfl) hq
     have q0:=hc9 0 _ (by omega) rfl
     have q1:=hc9 1 _ (by omega) rfl
     have q2:=hc9 2 _ (by omega) rfl
     have q3:=hc9 3 _ (by omega) rfl
     simp only [Nat.add_zero] at q0 q1 q2 q3
     have hmq:=List.mem_of_getElem? hq
     clear hc9 hin9 hq
     have K1:=H.Za #[.bool star,.slice iA inn ic,.string src,.slice wA wn wc] 273
     have F1:=K1.facts
     simp only [zg] at F1
     clear H
     go_wp2_with fail
     refine (Zgg d (Mut Zc _) _ K1.Zb ⟨star,iA,inn,ic,il,src,wA,wn,wc,wl⟩ fA fn fc fl tA tn tc tl ((K1.ro 3 rfl).imp fun w2 h2=>h2.2.1.2 _ hmq) (HQG.out _ hmq) (K1.ro 5 rfl) (K1.ro 6 rfl) HFB.out HTB.out).mono ?_
     rintro e w4 ⟨yA,yn,yc,yl,cd,rfl,hyn,ry,b4⟩
     have K4:=(K1.call b4).add ry
     clear K1 F1 b4 ry q0 q1 q2 q3
     have F4:=K4.facts
     simp only [zg] at F4
     obtain ⟨z,hz⟩:∃ z:Bool,(cd !=0)=z:=⟨_,rfl⟩
     cases z
     ·obtain ⟨z2,hz2⟩:∃ z:Bool,(yn==cn)=z:=⟨_,rfl⟩
      cases z2
      ·have hzi:((yn:Int) !=(cn:Int))=true:=by simp at hz2 ⊢;omega
       clear hz2
       go_wp2_with fail
       go_ret
       exact ⟨_,rfl,K4.below⟩
      ·have hzi:((yn:Int) !=(cn:Int))=false:=by simp at hz2 ⊢;omega
       have HEC:=hid (show yn=cn by simpa using hz2)
       clear hz2
       go_wp2_with fail
       clear F4
       go_loopw [87] (fun iv wr=>∃ k:Nat,k≤yn∧iv=.int .i64 k∧Hold Zc none w wr [.ro (SlR 1 yA yn (tyC yl)),.cst gs 49 #[.string snm,.slice cA cn cc],.cst gx 97 #[.int .i64 kind,.string tab,.slice rA rn rc,.slice (some ⟨b9,o9,none⟩) qn qc,.slice sA sn sc,.slice hA hn hc,.string text],.ro (AcIn d ⟨kind,tab,⟨rA,rn,rc,rl⟩,⟨some ⟨b9,o9,none⟩,qn,qc,ql⟩,⟨sA,sn,sc,sl⟩,⟨hA,hn,hc,hl⟩,text⟩),.ro (SlR 4 cA cn (Zd cl)),.ro (FrsIn ⟨fA,fn,fc,fl⟩),.ro (TesIn tA tn tl)]) (fun iv _=>yn - (intOf iv).toNat)
       case atStart=>exact ⟨0,by omega,rfl,K4.pick [0,2,3,4,5,6,7] (by decide) rfl⟩
       case round=>
        clear K4
        obtain ⟨k,hk,rfl,H⟩:=hrel
        by_cases hlt2:k<yn
        ·obtain ⟨b3,o3,e3,-,hc3⟩:=(show Rd _ _ 1 yA yn (tyC yl) from (H.ro 0 rfl).now).2 (by omega)
         subst e3
         have hyl:yl.length=yn:=by
          have:=(show Rd _ _ 1 (some ⟨b3,o3,none⟩) yn (tyC yl) from (H.ro 0 rfl).now).1
          rw [ZbJ] at this
          omega
         have y0:=hc3 k (.int .i64 (yl[k]'(by omega))) (by simp [tyC,List.getElem?_eq_getElem (show k<yl.length by omega)])
         generalize yl[k]'(by omega)=t at y0
         have hkc:k<cn:=by rw [←HEC.out];exact hlt2
         obtain ⟨⟨xnm,xty,xnn,xkey⟩,hcx⟩:=YA HCL.out hkc
         obtain ⟨b2,o2,rfl,hb2,-,y1,-,-⟩:=(RdC.Zy (H.ro 4 rfl).now).at_ hcx
         simp only at y1
         have hki:(k:Int)<(cn:Int):=by omega
         clear hc3 hyl hcx
         have F4:=H.facts
         simp only [zg] at F4
         go_wp2_with fail
         refine (Ql _ _ _).mono ?_
         rintro e w5 ⟨r,rfl,b5⟩
         have K5:=H.call b5
         clear H F4 b5 y0 y1
         cases r
         ·go_wp2_with fail
          go_ret
          exact ⟨_,rfl,K5.below⟩
         ·go_wp2_with fail
          go_roundw
          case rel=>exact ⟨k+1,by omega,by go_num,K5⟩
          case measure=>simp [intOf];omega
        ·obtain rfl:yn=k:=by omega
         go_wp2_with fail
         go_roundw
         case rel=>exact ⟨j+1,by omega,by go_num,H.drop (List.sublist_cons_self _ _)⟩
         case measure=>simp [intOf];omega
     ·go_wp2_with fail
      go_ret
      exact ⟨_,rfl,K4.below⟩
    ·obtain rfl:qn=j:=by omega
     go_wp2_with fail
     go_ret
     exact ⟨_,rfl,H.below⟩
set_option maxHeartbeats 16000000 in
set_option maxRecDepth 100000 in
theorem ZgN (d:Nat) (a:Ac) (fA:Option Addr) (fn fc:Nat) (fl:List Fr) (tA:Option Addr) (tn tc:Nat) (tl:List Te) (w:World) (hx:Ro w Zc (AcIn d a)) (hg:AcGd d a) (hf:Ro w Zc (FrsIn ⟨fA,fn,fc,fl⟩)) (ht:Ro w Zc (TesIn tA tn tl)) (hfb:FB (d+1) fn fl) (htb:TBd tn tl):Calls Tryz.prog 167 #[.agg #[.int .i64 a.kind,.string a.tab,.slice a.rows.A a.rows.n a.rows.c,.slice a.qs.A a.qs.n a.qs.c,.slice a.sets.A a.sets.n a.sets.c,.slice a.wh.A a.wh.n a.wh.c,.string a.text],.slice fA fn fc,.slice tA tn tc] w fun e w' =>UI w e w' :=by
 obtain ⟨kind,tab,⟨rA,rn,rc,rl⟩,⟨qA,qn,qc,ql⟩,⟨sA,sn,sc,sl⟩,⟨hA,hn,hc,hl⟩,text⟩:=a
 have HSL:=hid (show sl.length=sn from SlP.In.len (s:=⟨sA,sn,sc,sl⟩) (k:=11) (cel:=Se.cells) (P:=YC d) hx.now.2.2.1 (by omega) (fun _=>rfl))
 have hsn8:sn≤8:=by have h:sl.length≤8:=hg.s.2.1;have:=HSL.out;omega
 have HG:=hid hg
 have HFB:=hid hfb
 have HTB:=hid htb
 have hfn:fn≤1000:=by have:=hfb.1;omega
 have K0:=((((Hold.start Zc w zn).add (ht.less (by simp [Mut]))).add (hf.less (by simp [Mut,Hp.foot]))).add (hx.less (by simp [Mut,Hp.foot]))).Za #[.int .i64 kind,.string tab,.slice rA rn rc,.slice qA qn qc,.slice sA sn sc,.slice hA hn hc,.string text] 97
 obtain ⟨gx,hgx⟩:∃ g,g=w.heap.size:=⟨_,rfl⟩
 rw [←hgx] at K0
 clear hx hg hf ht hfb htb
 go_enter Tryz.func167,Tryz.ntmps167
 go_upto_region 1 with fail
 rw [←hgx]
 have HGX:=hid hgx
 clear hgx
 generalize World.alloc _ _=w1 at K0 ⊢
 have F0:=K0.facts
 simp only [zg] at F0
 go_wp2_with fail
 clear F0
 refine (Zeo d ⟨kind,tab,⟨rA,rn,rc,rl⟩,⟨qA,qn,qc,ql⟩,⟨sA,sn,sc,sl⟩,⟨hA,hn,hc,hl⟩,text⟩ _ ((K0.ro 1 rfl).less zn) HG.out).mono ?_
 rintro e w2 ⟨r,rfl,b2⟩
 have K1:=K0.call b2
 clear K0 b2
 have F1:=K1.facts
 simp only [zg] at F1
 cases r
 ·go_wp2_with fail
  go_ret
  exact ⟨_,rfl,K1.below⟩
 ·go_wp2_with fail
  clear F1
  refine (UL (Mut Zc _) _ K1.Zb tA tn tc tl tab (K1.ro 3 rfl) HTB.out.1 HTB.out.2).mono ?_
  rintro e w3 ⟨⟨snm,⟨cA,cn,cc,cl⟩⟩,ok,rfl,hcn,hsc,rs,b3⟩
  have hcn:cn≤1000:=hcn
  have K2:=((K1.call b3).add (rs.imp (S' :=SlR 4 cA cn (Zd cl)) fun w2 h2=>h2.1)).Za #[.string snm,.slice cA cn cc] 49
  have HCL:=hid (show cl.length=cn from (RdC.Zy (show SlR 4 cA cn (Zd cl) _ from rs.now.1)).len)
  obtain ⟨gs,hgs⟩:∃ g,g=w3.heap.size:=⟨_,rfl⟩
  rw [←hgs] at K2
  have RS:=hid rs
  clear K1 b3 rs
  have F2:=K2.facts
  simp only [zg] at F2
  rw [hgs] at F2
  cases ok
  ·have HB:=hid K2.below
   go_wp2_with fail
   go_ret
   exact ⟨_,rfl,HB.out⟩
  ·obtain ⟨d1,hd1⟩:∃ z:Bool,(kind==1)=z:=⟨_,rfl⟩
   go_upto_region 6 with fail
   rw [←hgs] at F2 ⊢
   have HGS:=hid hgs
   have KS:=hid (K2.add (S:=ZQ ⟨snm,⟨cA,cn,cc,cl⟩⟩) ((K2.ro 1 rfl).imp fun w2 h2=>⟨h2,fun _ _=>trivial⟩))
   clear hgs RS K2
   generalize World.alloc _ _=w4 at KS F2 ⊢
   have K2:=KS.out
   clear KS
   cases d1
   ·go_wp2_with fail
    clear F2 hd1
    refine (Ji (Mut Zc _) _ K2.Zb fA fn fc fl ⟨snm,⟨cA,cn,cc,cl⟩⟩ (K2.ro 5 rfl) (K2.ro 0 rfl) hfn).mono ?_
    rintro e w5 ⟨IA,ic,rfl,ri,b5⟩
    have K3:=((K2.call b5).add ri)
    clear K2 ri b5
    have HIB:=hid (show FB d (fn+1) (fl++[(⟨snm,false,⟨cA,cn,cc,cl⟩,SlP.nil⟩:Fr)]) from ⟨by have:=HFB.out.1;omega,fun f hf=>by
     rcases List.mem_append.1 hf with hf|hf
     ·exact HFB.out.2 f hf
     ·simp only [List.mem_cons,List.not_mem_nil,or_false] at hf
      subst hf
      exact hcn⟩)
    have F3:=K3.facts
    simp only [zg] at F3
    go_wp2_with fail
    clear F3
    go_loopw [41] (fun iv wr=>∃ j:Nat,j≤sn∧iv=.int .i64 j∧Hold Zc none w wr [.ro (FrsIn ⟨IA,fn+1,ic,fl++[⟨snm,false,⟨cA,cn,cc,cl⟩,SlP.nil⟩]⟩),.cst gs 49 #[.string snm,.slice cA cn cc],.ro (SlR 4 cA cn (Zd cl)),.cst gx 97 #[.int .i64 kind,.string tab,.slice rA rn rc,.slice qA qn qc,.slice sA sn sc,.slice hA hn hc,.string text],.ro (AcIn d ⟨kind,tab,⟨rA,rn,rc,rl⟩,⟨qA,qn,qc,ql⟩,⟨sA,sn,sc,sl⟩,⟨hA,hn,hc,hl⟩,text⟩),.ro (TesIn tA tn tl)]) (fun iv _=>sn - (intOf iv).toNat)
    case atStart=>exact ⟨0,by omega,rfl,K3.pick [0,2,3,4,5,7] (by decide) rfl⟩
    case round=>
     clear K3
     obtain ⟨j,hj,rfl,H⟩:=hrel
     by_cases hlt:j<sn
     ·obtain ⟨⟨zc,y⟩,hz⟩:=Yo HSL.out hlt
      obtain ⟨qb,qo,rfl,hb,hc,-⟩:=SlP.In.at_ (s:=⟨sA,sn,sc,sl⟩) (k:=11) (cel:=Se.cells) (P:=YC d) (H.ro 4 rfl).now.2.2.1 (by omega) (fun _=>rfl) hz
      have hm:=List.mem_of_getElem? hz
      have x0:=hc 0 _ (by omega) rfl
      have x1:=hc 1 _ (by omega) rfl
      have x2:=hc 2 _ (by omega) rfl
      have x3:=hc 3 _ (by omega) rfl
      have x4:=hc 4 _ (by omega) rfl
      have x5:=hc 5 _ (by omega) rfl
      have x6:=hc 6 _ (by omega) rfl
      have x7:=hc 7 _ (by omega) rfl
      have x8:=hc 8 _ (by omega) rfl
      have x9:=hc 9 _ (by omega) rfl
      have x10:=hc 10 _ (by omega) rfl
      simp only [Nat.add_zero] at x0 x1 x2 x3 x4 x5 x6 x7 x8 x9 x10
      clear hc hz
      have K3:=H.Za #[.string zc,.int .i64 y.kind,.int .i64 y.op,.bool y.nt,.int .i64 y.v.k,.int .i64 y.v.i,.string y.v.s,.string y.tab,.string y.nm,.slice y.A y.n y.c,.slice y.B y.m y.d] 128
      obtain ⟨gz,hgz⟩:∃ g,g=wr.heap.size:=⟨_,rfl⟩
      rw [←hgz] at K3
      clear H
      go_upto_region 12 with fail
      rw [←hgz]
      have HGZ:=hid hgz
      clear hgz x0 x1 x2 x3 x4 x5 x6 x7 x8 x9 x10
      generalize World.alloc _ _=w6 at K3 ⊢
      have F3:=K3.facts
      simp only [zg] at F3
      go_wp2_with fail
      clear F3
      refine (XD (Mut Zc _) _ K3.Zb snm cA cn cc cl zc (K3.ro 3 rfl) (by omega)).mono ?_
      rintro e w7 ⟨rfl,b7⟩
      have K4:=K3.call b7
      clear K3 b7
      have F4:=K4.facts
      simp only [zg] at F4
      have hfl:=GI (named zc) cl
      rw [HCL.out] at hfl
      obtain ⟨kf,hkf⟩:∃ z:Int,Zi (named zc) cl=z:=⟨_,rfl⟩
      rw [hkf] at hfl ⊢
      clear hkf
      by_cases hneg:kf<0
      ·clear hfl
       go_wp2_with fail
       go_ret
       exact ⟨_,rfl,K4.below⟩
      ·obtain ⟨kk,rfl⟩:∃ k:Nat,kf=(k:Int):=⟨kf.toNat,by omega⟩
       have hkk:kk<cn:=by have:=hfl (by omega);omega
       have hneg' :¬((kk:Int)<0):=by omega
       have hki:(kk:Int)<(cn:Int):=by omega
       clear hfl hneg
       go_wp2_with fail
       clear F4
       refine (Vt d y IA (fn+1) ic (fl++[⟨snm,false,⟨cA,cn,cc,cl⟩,SlP.nil⟩]) tA tn tc tl _ (((K4.ro 5 rfl).imp fun w2 h2=>h2.2.2.1.2 _ hm).less zn) (HG.out.s.2.2 _ hm) ((K4.ro 1 rfl).less zn) ((K4.ro 6 rfl).less zn) HIB.out HTB.out).mono ?_
       rintro e w8 ⟨t,cd,rfl,b8⟩
       have K5:=K4.call b8
       clear K4 b8
       have F5:=K5.facts
       simp only [zg] at F5
       obtain ⟨⟨xnm,xty,xnn,xkey⟩,hcx⟩:=YA HCL.out hkk
       obtain ⟨b2,o2,rfl,hb2,-,y1,-,-⟩:=(RdC.Zy (K5.ro 3 rfl).now).at_ hcx
       simp only at y1
       clear hcx
       obtain ⟨z,hz⟩:∃ z:Bool,(cd !=0)=z:=⟨_,rfl⟩
       cases z
       ·go_wp2_with fail
        refine (Ql _ _ _).mono ?_
        rintro e w9 ⟨r,rfl,b9⟩
        have K6:=K5.call b9
        clear K5 F5 b9 y1
        cases r
        ·go_wp2_with fail
         go_ret
         exact ⟨_,rfl,K6.below⟩
        ·go_wp2_with fail
         go_roundw
         case rel=>exact ⟨j+1,by omega,by go_num,K6.drop (List.sublist_cons_self _ _)⟩
         case measure=>simp [intOf];omega
       ·go_wp2_with fail
        go_ret
        exact ⟨_,rfl,K5.below⟩
     ·obtain rfl:sn=j:=by omega
      have F4:=H.facts
      simp only [zg] at F4
      go_wp2_with fail
      clear F4
      refine (JY d hA hn hc hl IA (fn+1) ic (fl++[⟨snm,false,⟨cA,cn,cc,cl⟩,SlP.nil⟩]) tA tn tc tl _ (((H.ro 4 rfl).imp fun w2 h2=>(show ExsIn d hA hn hl w2 from h2.2.2.2)).less zn) HG.out.h.2.2 ((H.ro 0 rfl).less zn) ((H.ro 5 rfl).less zn) HIB.out HTB.out).mono ?_
      rintro e w4 ⟨cd,rfl,b4⟩
      have K4:=H.call b4
      clear H b4
      go_wp2_with fail
      go_ret
      exact ⟨_,rfl,K4.below⟩
   ·go_wp2_with fail
    clear F2 hd1
    refine (ZdM d ⟨kind,tab,⟨rA,rn,rc,rl⟩,⟨qA,qn,qc,ql⟩,⟨sA,sn,sc,sl⟩,⟨hA,hn,hc,hl⟩,text⟩ ⟨snm,⟨cA,cn,cc,cl⟩⟩ fA fn fc fl tA tn tc tl _ ((K2.ro 4 rfl).less zn) HG.out ((K2.ro 0 rfl).less zn) ((K2.ro 5 rfl).less zn) ((K2.ro 6 rfl).less zn) hcn HFB.out HTB.out).mono ?_
    rintro e w5 ⟨cd,rfl,b5⟩
    have K3:=K2.call b5
    clear K2 b5
    go_wp2_with fail
    go_ret
    exact ⟨_,rfl,K3.below⟩
def Zga (al:List Ac) (w:World) (e:Ending) (w' :World):Prop:=∃ b:Bool,e=.returned (.bool b)∧Below w.heap.size w w' ∧(b=true→∀ a∈al,a.kind=5→a.sets.n=1)
set_option maxHeartbeats 16000000 in
set_option maxRecDepth 100000 in
theorem ZdV (d:Nat) (t:Tg) (w:World) (hx:Ro w Zc (Yg d t)) (hg:TgGd d t):Calls Tryz.prog 102 #[t.val] w fun e w' =>Zga t.acts.l w e w' :=by
 obtain ⟨tn,tt,tb,te,⟨oA,on,oc,ol⟩,tch,⟨pA,pn,pc,pl⟩,⟨qA,qn,qc,ql⟩,⟨rA,rn,rc,rl⟩,⟨kA,kn,kc,kl⟩,⟨aA,an,ac,al⟩⟩:=t
 have he:1≤te∧te≤3:=hg.e
 have HON:=hid (show on≤1000∧on≤oc from by
  have h:ol.length=on:=SlP.In.len (s:=⟨oA,on,oc,ol⟩) (k:=1) (cel:=ZG) (P:=fun _ _=>True) hx.now.1 (by omega) (fun _=>rfl)
  have h2:ol.length≤8:=hg.o.2.1
  exact ⟨by omega,hg.o.1.1⟩)
 have HPN:=hid (show pn≤1000∧pn≤pc from by
  have h:pl.length=pn:=SlP.In.len (s:=⟨pA,pn,pc,pl⟩) (k:=1) (cel:=ZG) (P:=fun _ _=>True) hx.now.2.1 (by omega) (fun _=>rfl)
  have h2:pl.length≤8:=hg.p.2.1
  exact ⟨by omega,hg.p.1.1⟩)
 have HQN:=hid (show qn≤1000∧qn≤qc from by
  have h:ql.length=qn:=SlP.In.len (s:=⟨qA,qn,qc,ql⟩) (k:=1) (cel:=ZG) (P:=fun _ _=>True) hx.now.2.2.1 (by omega) (fun _=>rfl)
  have h2:ql.length≤8:=hg.f.2.1
  exact ⟨by omega,hg.f.1.1⟩)
 have HRL:=hid (show rl.length=rn from SlP.In.len (s:=⟨rA,rn,rc,rl⟩) (k:=4) (cel:=Rk.cells) (P:=fun _ _=>True) hx.now.2.2.2.1 (by omega) (fun _=>rfl))
 have hrn:rn≤1:=by have h2:rl.length≤1:=hg.r.2.1;have:=HRL.out;omega
 have hkn:kn≤1:=by
  have h:kl.length=kn:=ExsIn.len (show ExsIn d kA kn kl w from hx.now.2.2.2.2.1)
  have h2:kl.length≤1:=hg.h.2.1
  omega
 have HAL:=hid (show al.length=an from SlP.In.len (s:=⟨aA,an,ac,al⟩) (k:=7) (cel:=Ac.cells) (P:=AcIn d) hx.now.2.2.2.2.2 (by omega) (fun _=>rfl))
 have han:an≤4:=by have h2:al.length≤4:=hg.a.2.1;have:=HAL.out;omega
 have HG:=hid hg
 have K0:=((Hold.start Zc w zn).add (hx.less (by simp [Mut]))).Za #[.string tn,.string tt,.bool tb,.int .i64 te,.slice oA on oc,.bool tch,.slice pA pn pc,.slice qA qn qc,.slice rA rn rc,.slice kA kn kc,.slice aA an ac] 40
 obtain ⟨gx,hgx⟩:∃ g,g=w.heap.size:=⟨_,rfl⟩
 rw [←hgx] at K0
 clear hx hg
 simp only [Tg.val]
 go_enter Tryz.func102,Tryz.ntmps102
 go_upto_region 1 with fail
 rw [←hgx]
 have HGX:=hid hgx
 clear hgx
 generalize World.alloc _ _=w1 at K0 ⊢
 have F0:=K0.facts
 simp only [zg] at F0
 go_cut [38] from 8 to 38 (fun v wx=>∃ bb:Bool,v=.bool bb∧Hold Zc none w wx [.cst gx 40 #[.string tn,.string tt,.bool tb,.int .i64 te,.slice oA on oc,.bool tch,.slice pA pn pc,.slice qA qn qc,.slice rA rn rc,.slice kA kn kc,.slice aA an ac],.ro (Yg d ⟨tn,tt,tb,te,⟨oA,on,oc,ol⟩,tch,⟨pA,pn,pc,pl⟩,⟨qA,qn,qc,ql⟩,⟨rA,rn,rc,rl⟩,⟨kA,kn,kc,kl⟩,⟨aA,an,ac,al⟩⟩)])
 case first=>
  obtain ⟨c2,h2⟩:∃ z:Bool,(te !=2)=z:=⟨_,rfl⟩
  obtain ⟨cs,hcs⟩:∃ z:Bool,decide ((0:Int)<(on:Int))=z:=⟨_,rfl⟩
  have hcs2:decide (0<on)=cs:=by rw [←hcs];simp
  have e1:decide (te<1)=false:=by simp;omega
  have e3:decide (3<te)=false:=by simp;omega
  clear he
  go_wp2_with (go_at_call 160;go_must (refine (ZY _ _).mono ?_);rintro e w1 ⟨r,rfl,b1⟩;replace K0:=K0.call b1;replace F0:=K0.facts;simp only [zg] at F0;clear b1)
  all_goals (go_meet;exact ⟨_,rfl,K0⟩)
 case rest=>
  obtain ⟨bb,rfl,K1⟩:=hcut
  clear K0 F0
  have K0:=K1
  clear K1
  have F0:=K0.facts
  simp only [zg] at F0
  cases bb
  ·have HW:=hid (fun (wv:World) (h:Hold Zc none w wv [.cst gx 40 #[.string tn,.string tt,.bool tb,.int .i64 te,.slice oA on oc,.bool tch,.slice pA pn pc,.slice qA qn qc,.slice rA rn rc,.slice kA kn kc,.slice aA an ac],.ro (Yg d ⟨tn,tt,tb,te,⟨oA,on,oc,ol⟩,tch,⟨pA,pn,pc,pl⟩,⟨qA,qn,qc,ql⟩,⟨rA,rn,rc,rl⟩,⟨kA,kn,kc,kl⟩,⟨aA,an,ac,al⟩⟩)])=>X5 d kA kn kc kl wv (((h.ro 1 rfl).imp fun w2 h2=>(show ExsIn d kA kn kl w2 from h2.2.2.2.2.1)).less zn) HG.out.h.2.2 (by omega))
   have HO:=hid (fun (wv:World) (h:Hold Zc none w wv [.cst gx 40 #[.string tn,.string tt,.bool tb,.int .i64 te,.slice oA on oc,.bool tch,.slice pA pn pc,.slice qA qn qc,.slice rA rn rc,.slice kA kn kc,.slice aA an ac],.ro (Yg d ⟨tn,tt,tb,te,⟨oA,on,oc,ol⟩,tch,⟨pA,pn,pc,pl⟩,⟨qA,qn,qc,ql⟩,⟨rA,rn,rc,rl⟩,⟨kA,kn,kc,kl⟩,⟨aA,an,ac,al⟩⟩)])=>JK ⟨oA,on,oc,ol⟩ wv (((h.ro 1 rfl).imp fun w2 h2=>h2.1).less zn) HON.out.1 HON.out.2)
   have HP:=hid (fun (wv:World) (h:Hold Zc none w wv [.cst gx 40 #[.string tn,.string tt,.bool tb,.int .i64 te,.slice oA on oc,.bool tch,.slice pA pn pc,.slice qA qn qc,.slice rA rn rc,.slice kA kn kc,.slice aA an ac],.ro (Yg d ⟨tn,tt,tb,te,⟨oA,on,oc,ol⟩,tch,⟨pA,pn,pc,pl⟩,⟨qA,qn,qc,ql⟩,⟨rA,rn,rc,rl⟩,⟨kA,kn,kc,kl⟩,⟨aA,an,ac,al⟩⟩)])=>JK ⟨pA,pn,pc,pl⟩ wv (((h.ro 1 rfl).imp fun w2 h2=>h2.2.1).less zn) HPN.out.1 HPN.out.2)
   have HQ:=hid (fun (wv:World) (h:Hold Zc none w wv [.cst gx 40 #[.string tn,.string tt,.bool tb,.int .i64 te,.slice oA on oc,.bool tch,.slice pA pn pc,.slice qA qn qc,.slice rA rn rc,.slice kA kn kc,.slice aA an ac],.ro (Yg d ⟨tn,tt,tb,te,⟨oA,on,oc,ol⟩,tch,⟨pA,pn,pc,pl⟩,⟨qA,qn,qc,ql⟩,⟨rA,rn,rc,rl⟩,⟨kA,kn,kc,kl⟩,⟨aA,an,ac,al⟩⟩)])=>JK ⟨qA,qn,qc,ql⟩ wv (((h.ro 1 rfl).imp fun w2 h2=>h2.2.2.1).less zn) HQN.out.1 HQN.out.2)
   go_upto_region 3 with fail
   go_cut [82] from 39 to 82 (fun v wx=>∃ bb:Bool,v=.bool bb∧Hold Zc none w wx [.cst gx 40 #[.string tn,.string tt,.bool tb,.int .i64 te,.slice oA on oc,.bool tch,.slice pA pn pc,.slice qA qn qc,.slice rA rn rc,.slice kA kn kc,.slice aA an ac],.ro (Yg d ⟨tn,tt,tb,te,⟨oA,on,oc,ol⟩,tch,⟨pA,pn,pc,pl⟩,⟨qA,qn,qc,ql⟩,⟨rA,rn,rc,rl⟩,⟨kA,kn,kc,kl⟩,⟨aA,an,ac,al⟩⟩)])
   case first=>
    obtain ⟨cs,hcs⟩:∃ z:Bool,decide ((0:Int)<(rn:Int))=z:=⟨_,rfl⟩
    have hcs2:decide (0<rn)=cs:=by rw [←hcs];simp
    have e1:decide ((1:Int)<(rn:Int))=false:=by simp;omega
    have e12:decide (1<rn)=false:=by simp;omega
    have e2:decide ((1:Int)<(kn:Int))=false:=by simp;omega
    have e22:decide (1<kn)=false:=by simp;omega
    clear he hrn hkn
    cases tb<;>go_wp2_with (first
     | (go_at_call 162;go_must (refine (HW.out _ K0).mono ?_);rintro e w1 ⟨r,rfl,b1⟩;replace K0:=K0.call b1;replace F0:=K0.facts;simp only [zg] at F0;clear b1)
     | (go_at_call 161;go_must (first|with_reducible refine (HO.out _ K0).mono ?_|with_reducible refine (HP.out _ K0).mono ?_|with_reducible refine (HQ.out _ K0).mono ?_);rintro e w1 ⟨r,rfl,b1⟩;replace K0:=K0.call b1;replace F0:=K0.facts;simp only [zg] at F0;clear b1))
    all_goals (go_meet;exact ⟨_,rfl,K0⟩)
   case rest=>
    obtain ⟨bb,rfl,K1⟩:=hcut
    clear K0 F0 HW HO HP HQ
    have K0:=K1
    clear K1
    have F0:=K0.facts
    simp only [zg] at F0
    cases bb
    ·go_wp2_with fail
     clear F0
     go_loopw [86] (fun iv wr=>∃ j:Nat,j≤rn∧iv=.int .i64 j∧Hold Zc none w wr [.cst gx 40 #[.string tn,.string tt,.bool tb,.int .i64 te,.slice oA on oc,.bool tch,.slice pA pn pc,.slice qA qn qc,.slice rA rn rc,.slice kA kn kc,.slice aA an ac],.ro (Yg d ⟨tn,tt,tb,te,⟨oA,on,oc,ol⟩,tch,⟨pA,pn,pc,pl⟩,⟨qA,qn,qc,ql⟩,⟨rA,rn,rc,rl⟩,⟨kA,kn,kc,kl⟩,⟨aA,an,ac,al⟩⟩)]) (fun iv _=>rn - (intOf iv).toNat)
     case atStart=>exact ⟨0,by omega,rfl,K0⟩
     case round=>
      clear K0
      obtain ⟨j,hj,rfl,H⟩:=hrel
      by_cases hlt:j<rn
      ·obtain ⟨⟨xt,xc,xlo,xhi⟩,hr⟩:=Yo HRL.out hlt
       obtain ⟨b,o,rfl,-,hc9,-⟩:=SlP.In.at_ (s:=⟨rA,rn,rc,rl⟩) (k:=4) (cel:=Rk.cells) (P:=fun _ _=>True) (H.ro 1 rfl).now.2.2.2.1 (by omega) (fun _=>rfl) hr
       have q0:=hc9 0 _ (by omega) rfl
       have q1:=hc9 1 _ (by omega) rfl
       have q2:=hc9 2 _ (by omega) rfl
       have q3:=hc9 3 _ (by omega) rfl
       simp only [Nat.add_zero] at q0 q1 q2 q3
       clear hc9 hr
       have K0:=H.Za #[.string xt,.string xc,.int .i64 xlo,.int .i64 xhi] 85
       obtain ⟨gk,hgk⟩:∃ g,g=wr.heap.size:=⟨_,rfl⟩
       rw [←hgk] at K0
       clear H
       go_upto_region 8 with fail
       rw [←hgk]
       have HGK:=hid hgk
       clear hgk q0 q1 q2 q3
       generalize World.alloc _ _=w1 at K0 ⊢
       have F0:=K0.facts
       simp only [zg] at F0
       go_cut [109] from 90 to 109 (fun v wx=>∃ bb:Bool,v=.bool bb∧Hold Zc none w wx [.cst gk 85 #[.string xt,.string xc,.int .i64 xlo,.int .i64 xhi],.cst gx 40 #[.string tn,.string tt,.bool tb,.int .i64 te,.slice oA on oc,.bool tch,.slice pA pn pc,.slice qA qn qc,.slice (some ⟨b,o,none⟩) rn rc,.slice kA kn kc,.slice aA an ac],.ro (Yg d ⟨tn,tt,tb,te,⟨oA,on,oc,ol⟩,tch,⟨pA,pn,pc,pl⟩,⟨qA,qn,qc,ql⟩,⟨some ⟨b,o,none⟩,rn,rc,rl⟩,⟨kA,kn,kc,kl⟩,⟨aA,an,ac,al⟩⟩)])
       case first=>
        obtain ⟨d1,hd1⟩:∃ z:Bool,(xlo==-9223372036854775808)=z:=⟨_,rfl⟩
        obtain ⟨d2,hd2⟩:∃ z:Bool,(xhi==-9223372036854775808)=z:=⟨_,rfl⟩
        go_wp2_with (go_at_call 160;go_must (refine (ZY _ _).mono ?_);rintro e w1 ⟨r,rfl,b1⟩;replace K0:=K0.call b1;replace F0:=K0.facts;simp only [zg] at F0;clear b1)
        all_goals (go_meet;exact ⟨_,rfl,K0⟩)
       case rest=>
        obtain ⟨bb,rfl,K1⟩:=hcut
        clear K0 F0
        cases bb
        ·go_wp2_with fail
         go_roundw
         case rel=>exact ⟨j+1,by omega,by go_num,K1.drop (List.sublist_cons_self _ _)⟩
         case measure=>simp [intOf];omega
        ·go_wp2_with fail
         go_ret
         exact ⟨_,rfl,K1.below,fun h=>(nomatch h)⟩
      ·obtain rfl:rn=j:=by omega
       have F0:=H.facts
       simp only [zg] at F0
       go_wp2_with fail
       clear F0
       go_loopw [114] (fun iv wr=>∃ j:Nat,j≤an∧iv=.int .i64 j∧(∀ i a,i<j→al[i]? =some a→a.kind=5→a.sets.n=1)∧Hold Zc none w wr [.cst gx 40 #[.string tn,.string tt,.bool tb,.int .i64 te,.slice oA on oc,.bool tch,.slice pA pn pc,.slice qA qn qc,.slice rA rn rc,.slice kA kn kc,.slice aA an ac],.ro (Yg d ⟨tn,tt,tb,te,⟨oA,on,oc,ol⟩,tch,⟨pA,pn,pc,pl⟩,⟨qA,qn,qc,ql⟩,⟨rA,rn,rc,rl⟩,⟨kA,kn,kc,kl⟩,⟨aA,an,ac,al⟩⟩)]) (fun iv _=>an - (intOf iv).toNat)
       case atStart=>exact ⟨0,by omega,rfl,fun i a h=>absurd h (by omega),H⟩
       case round=>
        clear H
        obtain ⟨j,hj,rfl,hpre,H⟩:=hrel
        have HPRE:=hid hpre
        clear hpre
        by_cases hlt:j<an
        ·obtain ⟨x,hr⟩:=Yo HAL.out hlt
         obtain ⟨b,o,rfl,-,hc9,-⟩:=SlP.In.at_ (s:=⟨aA,an,ac,al⟩) (k:=7) (cel:=Ac.cells) (P:=AcIn d) (H.ro 1 rfl).now.2.2.2.2.2 (by omega) (fun _=>rfl) hr
         have q0:=hc9 0 _ (by omega) rfl
         have q1:=hc9 1 _ (by omega) rfl
         have q2:=hc9 2 _ (by omega) rfl
         have q3:=hc9 3 _ (by omega) rfl
         have q4:=hc9 4 _ (by omega) rfl
         have q5:=hc9 5 _ (by omega) rfl
         have q6:=hc9 6 _ (by omega) rfl
         simp only [Nat.add_zero,SlP.v] at q0 q1 q2 q3 q4 q5 q6
         have hmx:=List.mem_of_getElem? hr
         have HXR:=hid hr
         clear hc9 hr
         have K0:=(H.Za #[.int .i64 x.kind,.string x.tab,.slice x.rows.A x.rows.n x.rows.c,.slice x.qs.A x.qs.n x.qs.c,.slice x.sets.A x.sets.n x.sets.c,.slice x.wh.A x.wh.n x.wh.c,.string x.text] 97)
         obtain ⟨gk,hgk⟩:∃ g,g=wr.heap.size:=⟨_,rfl⟩
         rw [←hgk] at K0
         clear H
         obtain ⟨d5,hd5⟩:∃ z:Bool,(x.kind==5)=z:=⟨_,rfl⟩
         go_upto_region 15 with fail
         rw [←hgk]
         have HGK:=hid hgk
         clear hgk q0 q1 q2 q3 q4 q5 q6 hd5
         generalize World.alloc _ _=w1 at K0 ⊢
         have F0:=K0.facts
         simp only [zg] at F0
         go_cut [154] from 121 to 154 (fun v wx=>∃ bb:Bool,v=.bool bb∧(bb=false→x.kind=5→x.sets.n=1)∧Hold Zc none w wx [.cst gk 97 #[.int .i64 x.kind,.string x.tab,.slice x.rows.A x.rows.n x.rows.c,.slice x.qs.A x.qs.n x.qs.c,.slice x.sets.A x.sets.n x.sets.c,.slice x.wh.A x.wh.n x.wh.c,.string x.text],.cst gx 40 #[.string tn,.string tt,.bool tb,.int .i64 te,.slice oA on oc,.bool tch,.slice pA pn pc,.slice qA qn qc,.slice rA rn rc,.slice kA kn kc,.slice (some ⟨b,o,none⟩) an ac],.ro (Yg d ⟨tn,tt,tb,te,⟨oA,on,oc,ol⟩,tch,⟨pA,pn,pc,pl⟩,⟨qA,qn,qc,ql⟩,⟨rA,rn,rc,rl⟩,⟨kA,kn,kc,kl⟩,⟨some ⟨b,o,none⟩,an,ac,al⟩⟩)])
         case first=>
          obtain ⟨d4,hd4⟩:∃ z:Bool,(x.kind !=4)=z:=⟨_,rfl⟩
          obtain ⟨d3,hd3⟩:∃ z:Bool,(te==3)=z:=⟨_,rfl⟩
          cases tb<;>cases tch<;>cases d5<;>go_wp2_with (go_at_call 163;go_must (refine (ZaD d x _ (((K0.ro 2 rfl).imp fun w2 h2=>h2.2.2.2.2.2.2 x hmx).less zn) (HG.out.a.2.2 x hmx)).mono ?_);rintro e w1 ⟨r,rfl,b1,hr5⟩;(have HR5:=hid hr5);clear hr5;replace K0:=K0.call b1;replace F0:=K0.facts;simp only [zg] at F0;clear b1)
          all_goals (go_meet;exact ⟨_,rfl,by first|(intro h;exact absurd h (by decide))|(intro _;exact HR5.out (by first|rfl|assumption))|(intro h;exact HR5.out (by simpa using h)),K0⟩)
         case rest=>
          obtain ⟨bb,rfl,hb5,K1⟩:=hcut
          have HB5:=hid hb5
          clear K0 F0 hb5
          cases bb
          ·go_wp2_with fail
           go_roundw
           case rel=>exact ⟨j+1,by omega,by go_num,fun i a hi ha=>by
            rcases Nat.lt_or_ge i j with h1|h1
            ·exact HPRE.out i a h1 ha
            ·obtain rfl:i=j:=by omega
             rw [HXR.out] at ha
             obtain rfl:=Option.some.inj ha
             exact HB5.out rfl,K1.drop (List.sublist_cons_self _ _)⟩
           case measure=>simp [intOf];omega
          ·go_wp2_with fail
           go_ret
           exact ⟨_,rfl,K1.below,fun h=>(nomatch h)⟩
        ·obtain rfl:an=j:=by omega
         have HB:=hid H.below
         have F0:=H.facts
         simp only [zg] at F0
         go_wp2_with fail
         all_goals (go_ret;exact ⟨_,rfl,HB.out,fun _ a ha=>by
          obtain ⟨i,hi⟩:=List.mem_iff_getElem?.1 ha
          exact HPRE.out i a (by rw [←HAL.out];exact (List.getElem?_eq_some_iff.1 hi).1) hi⟩)
    ·go_wp2_with fail
     go_ret
     exact ⟨_,rfl,K0.below,fun h=>(nomatch h)⟩
  ·go_wp2_with fail
   go_ret
   exact ⟨_,rfl,K0.below,fun h=>(nomatch h)⟩
set_option maxHeartbeats 4000000 in
set_option maxRecDepth 100000 in
theorem Vu (M:Nat→Prop) (w:World) (hM:∀ b,M b→b<w.heap.size) (nm:ByteArray) (A:Option Addr) (n c:Nat) (cs:List Col) (nx:Int) (B:Option Addr) (m d:Nat) (l:List Rw) (hD:Ro w M (SlR 4 A n (Zd cs))) (hE:Ro w M (RwsIn B m l)) (hn:n≤9223372036854775807) (hm:m≤4611686018427387904) (hok:∀ r∈l,r.ok) (hs:nm.size≤maxLen) (hcs:∀ x∈cs,x.name.size≤maxLen):
  Calls Tryz.prog 120 #[.agg #[.string nm,.slice A n c,.int .i64 nx,.slice B m d]] w fun e w' =>e=.returned (.bool (Zn nm cs nx (l.map Rw.row)))∧Below w.heap.size w w' :=by
 have HL:=hid hE.now.len
 have HML:=hid (show (l.map Rw.row).length=m by rw [List.length_map,HL.out])
 have K0:=(((Hold.start M w hM).add (hE.less (by simp [Mut]))).add (hD.less (by simp [Mut,Hp.foot]))).Za #[.string nm,.slice A n c,.int .i64 nx,.slice B m d] 67
 have F0:=K0.facts
 simp only [zg] at F0
 clear hD hE
 go_enter Tryz.func120,Tryz.ntmps120
 go_wp2_with fail
 refine (ZaV _ _ K0.Zb nm A n c cs (K0.ro 1 rfl) hn hs hcs).mono ?_
 rintro e w1 ⟨rfl,b1⟩
 have K1:=K0.call b1
 clear K0 b1 F0
 have F1:=K1.facts
 simp only [zg] at F1
 cases hsb:Yc nm cs
 ·have HN:=hid (show Zn nm cs nx (l.map Rw.row)=false from Zhr hsb)
  go_wp2_with fail
  go_ret
  exact ⟨by rw [HN.out]<;>rfl,K1.below⟩
 have HSB:=hid hsb;clear hsb
 by_cases h1:100<m
 ·have h1d:decide ((m:Int) > 100)=true:=by simp;omega
  have HN:=hid (show Zn nm cs nx (l.map Rw.row)=false from Zfp (by rw [HML.out];exact h1))
  go_wp2_with fail
  go_ret
  exact ⟨by rw [HN.out]<;>rfl,K1.below⟩
 have h1d:decide ((m:Int) > 100)=false:=by simp;omega
 by_cases h2:nx<1
 ·have h2d:decide (nx<1)=true:=by simpa using h2
  have HN:=hid (show Zn nm cs nx (l.map Rw.row)=false from Zef h2)
  go_wp2_with fail
  go_ret
  exact ⟨by rw [HN.out]<;>rfl,K1.below⟩
 have h2d:decide (nx<1)=false:=by simpa using h2
 by_cases h3:2147483648<nx
 ·have h3d:decide (nx > 2147483648)=true:=by simpa using h3
  have HN:=hid (show Zn nm cs nx (l.map Rw.row)=false from ZgD h3)
  go_wp2_with fail
  go_ret
  exact ⟨by rw [HN.out]<;>rfl,K1.below⟩
 have h3d:decide (nx > 2147483648)=false:=by simpa using h3
 go_wp2_with fail
 clear F1
 go_loopw [28] (fun iv wr=>∃ (j:Nat) (lst:Int),j≤m∧iv=.int .i64 j∧0≤lst∧Hid ((j=0→lst=0)∧∀ p,j=p+1→∃ r:Rw,l[p]? =some r∧r.id=lst)∧Hid (okR cs nx 0 (l.map Rw.row)=okR cs nx lst ((l.map Rw.row).drop j))∧Hold M none w wr [.cst w.heap.size 67 #[.string nm,.slice A n c,.int .i64 nx,.slice B m d],.ro (SlR 4 A n (Zd cs)),.ro (RwsIn B m l)]) (fun iv _=>m - (intOf iv).toNat)
 case atStart=>exact ⟨0,0,by omega,rfl,by omega,hid ⟨fun _=>rfl,fun p hp=>by omega⟩,hid rfl,K1⟩
 case round=>
  clear K1
  obtain ⟨j,lst,hj,rfl,hl0,HP,HS,H⟩:=hrel
  by_cases hlt:j<m
  ·have hdd:decide ((j:Int)<(m:Int))=true:=by simp;omega
   have j0:(0:Int)≤(j:Int):=by omega
   obtain ⟨x,hx⟩:=Zq HL.out hlt
   obtain ⟨g,o,rfl,hgb,c0,c1,hvi⟩:=(H.ro 2 rfl).now.at_ hx
   have hrok:=hok x (List.mem_of_getElem? hx)
   have HX:=hid (show (l.map Rw.row)[j]? =some (x.id,x.vs) by simp [hx,Rw.row])
   have HXM:=hid (List.mem_of_getElem? hx)
   have HXL:=hid hx
   have K2:=H.Za #[.int .i64 x.id,.slice x.A x.n x.c] 124
   clear hx
   have hxn:x.n≤9223372036854775807:=Nat.le_trans hrok.nc hrok.c
   by_cases a1:x.id<1
   ·have a1d:decide (x.id<1)=true:=by simpa using a1
    have HN:=hid (show Zn nm cs nx (l.map Rw.row)=false from UU (by rw [HS.out];exact Uo HX.out (.inl (show x.id≤lst by omega))))
    clear a1
    obtain ⟨gb,hgb2⟩:∃ gb,gb=wr.heap.size:=⟨_,rfl⟩
    obtain ⟨KL,hKL⟩:∃ KL:List Hp,KL=[Hp.cst wr.heap.size 124 #[.int .i64 x.id,.slice x.A x.n x.c],.cst w.heap.size 67 #[.string nm,.slice A n c,.int .i64 nx,.slice (some ⟨g,o,none⟩) m d],.ro (SlR 4 A n (Zd cs)),.ro (RwsIn (some ⟨g,o,none⟩) m l)]:=⟨_,rfl⟩
    rw [←hKL] at K2
    rw [←hgb2] at hKL
    have HF:Hid (∀ wv,Hold M none w wv KL→wv.cell? ⟨gb,0,none⟩=some (.int .i64 x.id)∧wv.cell? ⟨gb,1,none⟩=some (.slice x.A x.n x.c)∧gb<wv.heap.size∧wv.cell? ⟨w.heap.size,0,none⟩=some (.string nm)∧wv.cell? ⟨w.heap.size,1,none⟩=some (.slice A n c)∧wv.cell? ⟨w.heap.size,2,none⟩=some (.int .i64 nx)∧wv.cell? ⟨w.heap.size,3,none⟩=some (.slice (some ⟨g,o,none⟩) m d)∧w.heap.size<wv.heap.size):=hid fun wv HC=>by
     rw [hKL] at HC
     have b0:=HC.ZB 0 rfl
     have b1:=HC.ZB 1 rfl
     exact ⟨cell_of_row _ _ 0 _ _ _ b0,cell_of_row _ _ 1 _ _ _ b0,Blk.lt b0,cell_of_row _ _ 0 _ _ _ b1,cell_of_row _ _ 1 _ _ _ b1,cell_of_row _ _ 2 _ _ _ b1,cell_of_row _ _ 3 _ _ _ b1,Blk.lt b1⟩
    have HKL:Hid (∀ wv,Hold M none w wv KL→Ro wv (Mut M KL) (SlR 4 A n (Zd cs))∧Ro wv (Mut M KL) (VlsIn x.A x.n x.vs)):=hid fun wv HC=>by
     rw [hKL] at HC ⊢
     exact ⟨HC.ro 2 rfl,(HC.ro 3 rfl).imp fun w2 h2=>h2.2 x HXM.out⟩
    go_wp2_with fail
    rw [←hgb2]
    have HGB:=hid hgb2
    have HKE:=hid hKL
    clear hgb2 hKL
    generalize wr.alloc (.cells #[.int .i64 x.id,.slice x.A x.n x.c] 124)=w2 at *
    refine wp_region_any (by kernel_rfl) ?_
    refine Zp 33 71 (KL) (spL []) (by kernel_rfl) (by kernel_rfl) (by kernel_rfl) rfl ?_ (K2.drew) ?_
    ·exact Zo _
    simp only [zd,Act.put,List.getElem_toArray,List.getElem_cons_zero,List.getElem_cons_succ,zl]
    repeat (first|(refine dw_skip rfl rfl rfl ?_;simp only [Act.put,zl])|(refine' dv rfl rfl rfl (fun wv HC=>?_) ?_;rotate_left;(focus (obtain ⟨f0,f1,f2,f3,f4,f5,f6,f7⟩:=HF.out _ HC;go_simp<;>rfl;done));simp only [Act.put,zl]))
    refine Zj ?_
    rintro wx2 HX2
    rintro _hrm _HG
    rw [HKE.out] at HX2
    clear _hrm _HG
    go_wp2_with fail
    go_ret
    exact ⟨by rw [HN.out]<;>rfl,HX2.below⟩
   have a1d:decide (x.id<1)=false:=by simpa using a1
   by_cases a2:nx≤x.id
   ·have a2d:decide (x.id≥nx)=true:=by simpa using a2
    have HN:=hid (show Zn nm cs nx (l.map Rw.row)=false from UU (by rw [HS.out];exact Uo HX.out (.inr (.inl a2))))
    clear a1 a2
    obtain ⟨gb,hgb2⟩:∃ gb,gb=wr.heap.size:=⟨_,rfl⟩
    obtain ⟨KL,hKL⟩:∃ KL:List Hp,KL=[Hp.cst wr.heap.size 124 #[.int .i64 x.id,.slice x.A x.n x.c],.cst w.heap.size 67 #[.string nm,.slice A n c,.int .i64 nx,.slice (some ⟨g,o,none⟩) m d],.ro (SlR 4 A n (Zd cs)),.ro (RwsIn (some ⟨g,o,none⟩) m l)]:=⟨_,rfl⟩
    rw [←hKL] at K2
    rw [←hgb2] at hKL
    have HF:Hid (∀ wv,Hold M none w wv KL→wv.cell? ⟨gb,0,none⟩=some (.int .i64 x.id)∧wv.cell? ⟨gb,1,none⟩=some (.slice x.A x.n x.c)∧gb<wv.heap.size∧wv.cell? ⟨w.heap.size,0,none⟩=some (.string nm)∧wv.cell? ⟨w.heap.size,1,none⟩=some (.slice A n c)∧wv.cell? ⟨w.heap.size,2,none⟩=some (.int .i64 nx)∧wv.cell? ⟨w.heap.size,3,none⟩=some (.slice (some ⟨g,o,none⟩) m d)∧w.heap.size<wv.heap.size):=hid fun wv HC=>by
     rw [hKL] at HC
     have b0:=HC.ZB 0 rfl
     have b1:=HC.ZB 1 rfl
     exact ⟨cell_of_row _ _ 0 _ _ _ b0,cell_of_row _ _ 1 _ _ _ b0,Blk.lt b0,cell_of_row _ _ 0 _ _ _ b1,cell_of_row _ _ 1 _ _ _ b1,cell_of_row _ _ 2 _ _ _ b1,cell_of_row _ _ 3 _ _ _ b1,Blk.lt b1⟩
    have HKL:Hid (∀ wv,Hold M none w wv KL→Ro wv (Mut M KL) (SlR 4 A n (Zd cs))∧Ro wv (Mut M KL) (VlsIn x.A x.n x.vs)):=hid fun wv HC=>by
     rw [hKL] at HC ⊢
     exact ⟨HC.ro 2 rfl,(HC.ro 3 rfl).imp fun w2 h2=>h2.2 x HXM.out⟩
    go_wp2_with fail
    rw [←hgb2]
    have HGB:=hid hgb2
    have HKE:=hid hKL
    clear hgb2 hKL
    generalize wr.alloc (.cells #[.int .i64 x.id,.slice x.A x.n x.c] 124)=w2 at *
    refine wp_region_any (by kernel_rfl) ?_
    refine Zp 33 71 (KL) (spL []) (by kernel_rfl) (by kernel_rfl) (by kernel_rfl) rfl ?_ (K2.drew) ?_
    ·exact Zo _
    simp only [zd,Act.put,List.getElem_toArray,List.getElem_cons_zero,List.getElem_cons_succ,zl]
    repeat (first|(refine dw_skip rfl rfl rfl ?_;simp only [Act.put,zl])|(refine' dv rfl rfl rfl (fun wv HC=>?_) ?_;rotate_left;(focus (obtain ⟨f0,f1,f2,f3,f4,f5,f6,f7⟩:=HF.out _ HC;go_simp<;>rfl;done));simp only [Act.put,zl]))
    refine Zj ?_
    rintro wx2 HX2
    rintro _hrm _HG
    rw [HKE.out] at HX2
    clear _hrm _HG
    go_wp2_with fail
    go_ret
    exact ⟨by rw [HN.out]<;>rfl,HX2.below⟩
   have a2d:decide (x.id≥nx)=false:=by simpa using a2
   have HA:=hid (show ¬x.id<1∧¬nx≤x.id from ⟨a1,a2⟩)
   clear a1 a2
   rcases Nat.eq_zero_or_pos j with hj0|hj0
   ·have HL0:=hid (HP.out.1 hj0)
    have HJ0:=hid hj0
    have hj0d:decide ((j:Int) > 0)=false:=by simp;omega
    have hj0d2:decide (0<j)=false:=by simp;omega
    have hj0d3:decide ((0:Int)<(j:Int))=false:=by simp;omega
    clear hj0
    obtain ⟨gb,hgb2⟩:∃ gb,gb=wr.heap.size:=⟨_,rfl⟩
    obtain ⟨KL,hKL⟩:∃ KL:List Hp,KL=[Hp.cst wr.heap.size 124 #[.int .i64 x.id,.slice x.A x.n x.c],.cst w.heap.size 67 #[.string nm,.slice A n c,.int .i64 nx,.slice (some ⟨g,o,none⟩) m d],.ro (SlR 4 A n (Zd cs)),.ro (RwsIn (some ⟨g,o,none⟩) m l)]:=⟨_,rfl⟩
    rw [←hKL] at K2
    rw [←hgb2] at hKL
    have HF:Hid (∀ wv,Hold M none w wv KL→wv.cell? ⟨gb,0,none⟩=some (.int .i64 x.id)∧wv.cell? ⟨gb,1,none⟩=some (.slice x.A x.n x.c)∧gb<wv.heap.size∧wv.cell? ⟨w.heap.size,0,none⟩=some (.string nm)∧wv.cell? ⟨w.heap.size,1,none⟩=some (.slice A n c)∧wv.cell? ⟨w.heap.size,2,none⟩=some (.int .i64 nx)∧wv.cell? ⟨w.heap.size,3,none⟩=some (.slice (some ⟨g,o,none⟩) m d)∧w.heap.size<wv.heap.size):=hid fun wv HC=>by
     rw [hKL] at HC
     have b0:=HC.ZB 0 rfl
     have b1:=HC.ZB 1 rfl
     exact ⟨cell_of_row _ _ 0 _ _ _ b0,cell_of_row _ _ 1 _ _ _ b0,Blk.lt b0,cell_of_row _ _ 0 _ _ _ b1,cell_of_row _ _ 1 _ _ _ b1,cell_of_row _ _ 2 _ _ _ b1,cell_of_row _ _ 3 _ _ _ b1,Blk.lt b1⟩
    have HKL:Hid (∀ wv,Hold M none w wv KL→Ro wv (Mut M KL) (SlR 4 A n (Zd cs))∧Ro wv (Mut M KL) (VlsIn x.A x.n x.vs)):=hid fun wv HC=>by
     rw [hKL] at HC ⊢
     exact ⟨HC.ro 2 rfl,(HC.ro 3 rfl).imp fun w2 h2=>h2.2 x HXM.out⟩
    go_wp2_with fail
    rw [←hgb2]
    have HGB:=hid hgb2
    have HKE:=hid hKL
    clear hgb2 hKL
    generalize wr.alloc (.cells #[.int .i64 x.id,.slice x.A x.n x.c] 124)=w2 at *
    refine wp_region_any (by kernel_rfl) ?_
    refine Zp 33 71 (KL) (spL [(64,IsV (.int .i64 (ZC cs x.vs)))]) (by kernel_rfl) (by kernel_rfl) (by kernel_rfl) rfl ?_ (K2.drew) ?_
    ·exact Ze Vg (Zo _)
    simp only [zd,Act.put,List.getElem_toArray,List.getElem_cons_zero,List.getElem_cons_succ,zl]
    repeat (first|(refine dw_skip rfl rfl rfl ?_;simp only [Act.put,zl])|(refine' dv rfl rfl rfl (fun wv HC=>?_) ?_;rotate_left;(focus (obtain ⟨f0,f1,f2,f3,f4,f5,f6,f7⟩:=HF.out _ HC;go_simp<;>rfl;done));simp only [Act.put,zl]))
    refine Zm 64 (IsV (.int .i64 (ZC cs x.vs))) (f:=62) (args:=#[.agg #[.string nm,.slice A n c],.slice x.A x.n x.c]) rfl rfl rfl rfl (fun wv=>?_) (fun wv HC hrm hD=>?_) ?_
    ·go_simp<;>rfl
    ·refine (Qd _ _ HC.Zb nm A n c cs x.A x.n x.c x.vs ((HKL.out wv HC).1) ((HKL.out wv HC).2) hn hxn hrok.vs).mono ?_
     rintro e w5 ⟨rfl,b5⟩
     exact ⟨_,rfl,rfl,HC.call b5,RM.below b5⟩
    rintro u wx HCx hu
    obtain rfl:u=_:=hu
    clear HCx
    simp only [Act.put,zl]
    refine' dv rfl rfl rfl (fun wv HC=>?_) ?_;rotate_left
    ·obtain ⟨f0,f1,f2,f3,f4,f5,f6,f7⟩:=HF.out _ HC;go_simp<;>rfl
    simp only [Act.put,zl]
    refine Zj ?_
    rintro wx2 HX2
    rintro _hrm _HG
    rw [HKE.out] at HX2
    clear _hrm _HG
    by_cases a3:ZC cs x.vs=0
    ·have HS2:=hid (show okR cs nx 0 (l.map Rw.row)=okR cs nx x.id ((l.map Rw.row).drop (j+1)) by rw [HS.out];exact Zaa HX.out (by have:=HL0.out;have:=HA.out;omega) (by have:=HA.out;omega) a3)
     have HP2:=hid (show (j+1=0→x.id=0)∧∀ q,j+1=q+1→∃ r:Rw,l[q]? =some r∧r.id=x.id from ⟨fun h=>by omega,fun q hq=>⟨x,(show j=q by omega) ▸ HXL.out,rfl⟩⟩)
     have h0x:0≤x.id:=by have:=HA.out;omega
     rw [a3]
     clear a3
     go_wp2_with fail
     go_roundw
     case rel=>exact ⟨j+1,x.id,by omega,by go_num,h0x,HP2,HS2,HX2.drop (List.sublist_cons_self _ _)⟩
     case measure=>simp [intOf];omega
    ·have a3d:(ZC cs x.vs !=0)=true:=by simp [a3]
     have HN:=hid (show Zn nm cs nx (l.map Rw.row)=false from UU (by rw [HS.out];exact Uo HX.out (.inr (.inr a3))))
     clear a3
     go_wp2_with fail
     go_ret
     exact ⟨by rw [HN.out]<;>rfl,HX2.below⟩
   ·obtain ⟨p,hp⟩:∃ p,j=p+1:=⟨j - 1,by omega⟩
    obtain ⟨r,hr,hrl⟩:=HP.out.2 p hp
    have HR:=hid hr
    have HRL:=hid hrl
    clear hr hrl
    have hj0d:decide ((j:Int) > 0)=true:=by simp;omega
    have hj0d2:decide (0<j)=true:=by simp;omega
    have hj0d3:decide ((0:Int)<(j:Int))=true:=by simp;omega
    have hw1:IntKind.i64.wrap ((j:Int) - 1)=(p:Int):=by rw [IntKind.wrap_i64];omega
    have p0:(0:Int)≤(p:Int):=by omega
    have p1:(p:Int)<(m:Int):=by omega
    have hpm:p<m:=by omega
    have HPJ:=hid hp
    clear hp hj0
    by_cases a4:r.id≥x.id
    ·have a4d:decide (r.id≥x.id)=true:=by simpa using a4
     have HN:=hid (show Zn nm cs nx (l.map Rw.row)=false from UU (by rw [HS.out];exact Uo HX.out (.inl (show x.id≤lst by have:=HRL.out;omega))))
     clear a4
     obtain ⟨gb,hgb2⟩:∃ gb,gb=wr.heap.size:=⟨_,rfl⟩
     obtain ⟨KL,hKL⟩:∃ KL:List Hp,KL=[Hp.cst wr.heap.size 124 #[.int .i64 x.id,.slice x.A x.n x.c],.cst w.heap.size 67 #[.string nm,.slice A n c,.int .i64 nx,.slice (some ⟨g,o,none⟩) m d],.ro (SlR 4 A n (Zd cs)),.ro (RwsIn (some ⟨g,o,none⟩) m l)]:=⟨_,rfl⟩
     rw [←hKL] at K2
     rw [←hgb2] at hKL
     have HF:Hid (∀ wv,Hold M none w wv KL→wv.cell? ⟨gb,0,none⟩=some (.int .i64 x.id)∧wv.cell? ⟨gb,1,none⟩=some (.slice x.A x.n x.c)∧gb<wv.heap.size∧wv.cell? ⟨w.heap.size,0,none⟩=some (.string nm)∧wv.cell? ⟨w.heap.size,1,none⟩=some (.slice A n c)∧wv.cell? ⟨w.heap.size,2,none⟩=some (.int .i64 nx)∧wv.cell? ⟨w.heap.size,3,none⟩=some (.slice (some ⟨g,o,none⟩) m d)∧w.heap.size<wv.heap.size∧wv.cell? ⟨g,o+p * 2,none⟩=some (.int .i64 r.id)∧g<wv.heap.size):=hid fun wv HC=>by
      rw [hKL] at HC
      have b0:=HC.ZB 0 rfl
      have b1:=HC.ZB 1 rfl
      obtain ⟨g',o',e',hl,e0,e1,_⟩:=(HC.ro 3 rfl).now.at_ HR.out
      obtain ⟨rfl,rfl⟩:g=g' ∧o=o' :=by injection e' with e';injection e' with a1 a2;exact ⟨a1,a2⟩
      exact ⟨cell_of_row _ _ 0 _ _ _ b0,cell_of_row _ _ 1 _ _ _ b0,Blk.lt b0,cell_of_row _ _ 0 _ _ _ b1,cell_of_row _ _ 1 _ _ _ b1,cell_of_row _ _ 2 _ _ _ b1,cell_of_row _ _ 3 _ _ _ b1,Blk.lt b1,e0,hl⟩
     have HKL:Hid (∀ wv,Hold M none w wv KL→Ro wv (Mut M KL) (SlR 4 A n (Zd cs))∧Ro wv (Mut M KL) (VlsIn x.A x.n x.vs)):=hid fun wv HC=>by
      rw [hKL] at HC ⊢
      exact ⟨HC.ro 2 rfl,(HC.ro 3 rfl).imp fun w2 h2=>h2.2 x HXM.out⟩
     go_wp2_with fail
     rw [←hgb2]
     have HGB:=hid hgb2
     have HKE:=hid hKL
     clear hgb2 hKL
     generalize wr.alloc (.cells #[.int .i64 x.id,.slice x.A x.n x.c] 124)=w2 at *
     refine wp_region_any (by kernel_rfl) ?_
     refine Zp 33 71 (KL) (spL []) (by kernel_rfl) (by kernel_rfl) (by kernel_rfl) rfl ?_ (K2.drew) ?_
     ·exact Zo _
     simp only [zd,Act.put,List.getElem_toArray,List.getElem_cons_zero,List.getElem_cons_succ,zl]
     repeat (first|(refine dw_skip rfl rfl rfl ?_;simp only [Act.put,zl])|(refine' dv rfl rfl rfl (fun wv HC=>?_) ?_;rotate_left;(focus (obtain ⟨f0,f1,f2,f3,f4,f5,f6,f7,f8,f9⟩:=HF.out _ HC;go_simp<;>rfl;done));simp only [Act.put,zl]))
     refine Zj ?_
     rintro wx2 HX2
     rintro _hrm _HG
     rw [HKE.out] at HX2
     clear _hrm _HG
     go_wp2_with fail
     go_ret
     exact ⟨by rw [HN.out]<;>rfl,HX2.below⟩
    ·have a4d:decide (r.id≥x.id)=false:=by simpa using a4
     have HA4:=hid a4
     clear a4
     obtain ⟨gb,hgb2⟩:∃ gb,gb=wr.heap.size:=⟨_,rfl⟩
     obtain ⟨KL,hKL⟩:∃ KL:List Hp,KL=[Hp.cst wr.heap.size 124 #[.int .i64 x.id,.slice x.A x.n x.c],.cst w.heap.size 67 #[.string nm,.slice A n c,.int .i64 nx,.slice (some ⟨g,o,none⟩) m d],.ro (SlR 4 A n (Zd cs)),.ro (RwsIn (some ⟨g,o,none⟩) m l)]:=⟨_,rfl⟩
     rw [←hKL] at K2
     rw [←hgb2] at hKL
     have HF:Hid (∀ wv,Hold M none w wv KL→wv.cell? ⟨gb,0,none⟩=some (.int .i64 x.id)∧wv.cell? ⟨gb,1,none⟩=some (.slice x.A x.n x.c)∧gb<wv.heap.size∧wv.cell? ⟨w.heap.size,0,none⟩=some (.string nm)∧wv.cell? ⟨w.heap.size,1,none⟩=some (.slice A n c)∧wv.cell? ⟨w.heap.size,2,none⟩=some (.int .i64 nx)∧wv.cell? ⟨w.heap.size,3,none⟩=some (.slice (some ⟨g,o,none⟩) m d)∧w.heap.size<wv.heap.size∧wv.cell? ⟨g,o+p * 2,none⟩=some (.int .i64 r.id)∧g<wv.heap.size):=hid fun wv HC=>by
      rw [hKL] at HC
      have b0:=HC.ZB 0 rfl
      have b1:=HC.ZB 1 rfl
      obtain ⟨g',o',e',hl,e0,e1,_⟩:=(HC.ro 3 rfl).now.at_ HR.out
      obtain ⟨rfl,rfl⟩:g=g' ∧o=o' :=by injection e' with e';injection e' with a1 a2;exact ⟨a1,a2⟩
      exact ⟨cell_of_row _ _ 0 _ _ _ b0,cell_of_row _ _ 1 _ _ _ b0,Blk.lt b0,cell_of_row _ _ 0 _ _ _ b1,cell_of_row _ _ 1 _ _ _ b1,cell_of_row _ _ 2 _ _ _ b1,cell_of_row _ _ 3 _ _ _ b1,Blk.lt b1,e0,hl⟩
     have HKL:Hid (∀ wv,Hold M none w wv KL→Ro wv (Mut M KL) (SlR 4 A n (Zd cs))∧Ro wv (Mut M KL) (VlsIn x.A x.n x.vs)):=hid fun wv HC=>by
      rw [hKL] at HC ⊢
      exact ⟨HC.ro 2 rfl,(HC.ro 3 rfl).imp fun w2 h2=>h2.2 x HXM.out⟩
     go_wp2_with fail
     rw [←hgb2]
     have HGB:=hid hgb2
     have HKE:=hid hKL
     clear hgb2 hKL
     generalize wr.alloc (.cells #[.int .i64 x.id,.slice x.A x.n x.c] 124)=w2 at *
     refine wp_region_any (by kernel_rfl) ?_
     refine Zp 33 71 (KL) (spL [(64,IsV (.int .i64 (ZC cs x.vs)))]) (by kernel_rfl) (by kernel_rfl) (by kernel_rfl) rfl ?_ (K2.drew) ?_
     ·exact Ze Vg (Zo _)
     simp only [zd,Act.put,List.getElem_toArray,List.getElem_cons_zero,List.getElem_cons_succ,zl]
     repeat (first|(refine dw_skip rfl rfl rfl ?_;simp only [Act.put,zl])|(refine' dv rfl rfl rfl (fun wv HC=>?_) ?_;rotate_left;(focus (obtain ⟨f0,f1,f2,f3,f4,f5,f6,f7,f8,f9⟩:=HF.out _ HC;go_simp<;>rfl;done));simp only [Act.put,zl]))
     refine Zm 64 (IsV (.int .i64 (ZC cs x.vs))) (f:=62) (args:=#[.agg #[.string nm,.slice A n c],.slice x.A x.n x.c]) rfl rfl rfl rfl (fun wv=>?_) (fun wv HC hrm hD=>?_) ?_
     ·go_simp<;>rfl
     ·refine (Qd _ _ HC.Zb nm A n c cs x.A x.n x.c x.vs ((HKL.out wv HC).1) ((HKL.out wv HC).2) hn hxn hrok.vs).mono ?_
      rintro e w5 ⟨rfl,b5⟩
      exact ⟨_,rfl,rfl,HC.call b5,RM.below b5⟩
     rintro u wx HCx hu
     obtain rfl:u=_:=hu
     clear HCx
     simp only [Act.put,zl]
     refine' dv rfl rfl rfl (fun wv HC=>?_) ?_;rotate_left
     ·obtain ⟨f0,f1,f2,f3,f4,f5,f6,f7,f8,f9⟩:=HF.out _ HC;go_simp<;>rfl
     simp only [Act.put,zl]
     refine Zj ?_
     rintro wx2 HX2
     rintro _hrm _HG
     rw [HKE.out] at HX2
     clear _hrm _HG
     by_cases a3:ZC cs x.vs=0
     ·have HS2:=hid (show okR cs nx 0 (l.map Rw.row)=okR cs nx x.id ((l.map Rw.row).drop (j+1)) by rw [HS.out];exact Zaa HX.out (by have:=HA4.out;have:=HRL.out;omega) (by have:=HA.out;omega) a3)
      have HP2:=hid (show (j+1=0→x.id=0)∧∀ q,j+1=q+1→∃ r:Rw,l[q]? =some r∧r.id=x.id from ⟨fun h=>by omega,fun q hq=>⟨x,(show j=q by omega) ▸ HXL.out,rfl⟩⟩)
      have h0x:0≤x.id:=by have:=HA.out;omega
      rw [a3]
      clear a3
      go_wp2_with fail
      go_roundw
      case rel=>exact ⟨j+1,x.id,by omega,by go_num,h0x,HP2,HS2,HX2.drop (List.sublist_cons_self _ _)⟩
      case measure=>simp [intOf];omega
     ·have a3d:(ZC cs x.vs !=0)=true:=by simp [a3]
      have HN:=hid (show Zn nm cs nx (l.map Rw.row)=false from UU (by rw [HS.out];exact Uo HX.out (.inr (.inr a3))))
      clear a3
      go_wp2_with fail
      go_ret
      exact ⟨by rw [HN.out]<;>rfl,HX2.below⟩
  ·obtain rfl:j=m:=by omega
   have hdd:decide ((j:Int)<(j:Int))=false:=by simp
   have HN:=hid (show Zn nm cs nx (l.map Rw.row)=!YW cs (l.map Rw.row) from Zag HSB.out (by rw [HML.out];omega) (by omega) (by omega) (by rw [HS.out];exact Zdk (by rw [HML.out];exact Nat.le_refl _)))
   have F3:=H.facts
   simp only [zg] at F3
   go_wp2_with fail
   refine (Zal _ _ H.Zb nm A n c cs nx B j d l (H.ro 1 rfl) (H.ro 2 rfl) hn hm hok).mono ?_
   rintro e w3 ⟨rfl,b3⟩
   have K3:=H.call b3
   go_wp2_with fail
   go_ret
   exact ⟨by rw [HN.out]<;>rfl,K3.below⟩
end Go.Proofs.YtnbbllkbefagmaaGreatDoor

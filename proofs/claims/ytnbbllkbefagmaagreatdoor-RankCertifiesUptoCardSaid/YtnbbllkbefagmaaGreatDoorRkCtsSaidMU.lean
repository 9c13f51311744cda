import Derived.Test.YtnbbllkbefagmaaGreatDoorRkCtsSaidMT
namespace Go.Proofs.YtnbbllkbefagmaaGreatDoor
open Go.RowKit
set_option linter.unusedVariables false
set_option linter.unusedSimpArgs false
set_option maxHeartbeats 16000000 in
set_option maxRecDepth 100000 in
theorem Zd5 (d:Nat) (tab:ByteArray) (rA:Option Addr) (rn rc:Nat) (rl:List (SlP Ex)) (qA:Option Addr) (qn qc:Nat) (ql:List Qu) (sA:Option Addr) (sn sc:Nat) (sl:List Se) (hA:Option Addr) (hn hc:Nat) (hl:List Ex) (text:ByteArray) (w:World) (hx:Ro w Zb (AcIn d ⟨4,tab,⟨rA,rn,rc,rl⟩,⟨qA,qn,qc,ql⟩,⟨sA,sn,sc,sl⟩,⟨hA,hn,hc,hl⟩,text⟩)) (hg:AcGd d ⟨4,tab,⟨rA,rn,rc,rl⟩,⟨qA,qn,qc,ql⟩,⟨sA,sn,sc,sl⟩,⟨hA,hn,hc,hl⟩,text⟩):Calls Tryz.prog 163 #[.agg #[.int .i64 4,.string tab,.slice rA rn rc,.slice qA qn qc,.slice sA sn sc,.slice hA hn hc,.string text]] w fun e w' =>Vm 4 sn w e w' :=by
 have HHN:=hid (show hn≤1000 from by
  have h:hl.length=hn:=ExsIn.len (show ExsIn d hA hn hl w from hx.now.2.2.2)
  have h2:hl.length≤1:=hg.h.2.1
  omega)
 have HSN:=hid (show sn≤1000 from by
  have h:sl.length=sn:=SlP.In.len (s:=⟨sA,sn,sc,sl⟩) (k:=11) (cel:=Se.cells) (P:=ZY d) hx.now.2.2.1 (by omega) (fun _=>rfl)
  have h2:sl.length≤8:=hg.s.2.1
  omega)
 have HRQ:=hid (show rn≤8∧qn≤1 from by
  have h1:rl.length=rn:=SlP.In.len (s:=⟨rA,rn,rc,rl⟩) (k:=1) (cel:=fun r:SlP Ex=>[r.v]) (P:=fun r w=>r.In 10 Ex.cells (ExIn d) w) hx.now.1 (by omega) (fun _=>rfl)
  have h2:ql.length=qn:=SlP.In.len (s:=⟨qA,qn,qc,ql⟩) (k:=4) (cel:=Qu.cells) (P:=QuIn d) hx.now.2.1 (by omega) (fun _=>rfl)
  have h3:rl.length≤8:=hg.r.2.1
  have h4:ql.length≤1:=hg.q.2.1
  omega)
 have HG:=hid hg
 have K0:=((Hold.start Zb w zn).add (hx.less (by simp [Mut]))).Za #[.int .i64 4,.string tab,.slice rA rn rc,.slice qA qn qc,.slice sA sn sc,.slice hA hn hc,.string text] 97
 obtain ⟨gx,hgx⟩:∃ g,g=w.heap.size:=⟨_,rfl⟩
 rw [←hgx] at K0
 have F0:=K0.facts
 simp only [zg] at F0
 rw [hgx] at F0
 clear hx hg
 go_enter Tryz.func163,Tryz.ntmps163
 go_upto_region 1 with fail
 rw [←hgx] at F0 ⊢
 have HGX:=hid hgx
 clear hgx
 generalize World.alloc _ _=w1 at K0 F0 ⊢
 have HW:=hid (fun (wv:World) (h:Hold Zb none w wv [.cst gx 97 #[.int .i64 4,.string tab,.slice rA rn rc,.slice qA qn qc,.slice sA sn sc,.slice hA hn hc,.string text],.ro (AcIn d ⟨4,tab,⟨rA,rn,rc,rl⟩,⟨qA,qn,qc,ql⟩,⟨sA,sn,sc,sl⟩,⟨hA,hn,hc,hl⟩,text⟩)])=>XL d hA hn hc hl wv (((h.ro 1 rfl).imp fun w2 h2=>(show ExsIn d hA hn hl w2 from h2.2.2.2)).less zn) HG.out.h.2.2 HHN.out)
 have HI:=hid (fun (wv:World) (h:Hold Zb none w wv [.cst gx 97 #[.int .i64 4,.string tab,.slice rA rn rc,.slice qA qn qc,.slice sA sn sc,.slice hA hn hc,.string text],.ro (AcIn d ⟨4,tab,⟨rA,rn,rc,rl⟩,⟨qA,qn,qc,ql⟩,⟨sA,sn,sc,sl⟩,⟨hA,hn,hc,hl⟩,text⟩)])=>Vw d ⟨4,tab,⟨rA,rn,rc,rl⟩,⟨qA,qn,qc,ql⟩,⟨sA,sn,sc,sl⟩,⟨hA,hn,hc,hl⟩,text⟩ wv ((h.ro 1 rfl).less zn) HG.out)
 have HS:=hid (fun (wv:World) (h:Hold Zb none w wv [.cst gx 97 #[.int .i64 4,.string tab,.slice rA rn rc,.slice qA qn qc,.slice sA sn sc,.slice hA hn hc,.string text],.ro (AcIn d ⟨4,tab,⟨rA,rn,rc,rl⟩,⟨qA,qn,qc,ql⟩,⟨sA,sn,sc,sl⟩,⟨hA,hn,hc,hl⟩,text⟩)])=>VC d ⟨sA,sn,sc,sl⟩ wv (((h.ro 1 rfl).imp fun w2 h2=>h2.2.2.1).less zn) HG.out.s.2.2 HSN.out HG.out.s.1.1)
 go_cut [35] (fun v wx=>∃ bb:Bool,v=.bool bb∧Hold Zb none w wx [.cst gx 97 #[.int .i64 4,.string tab,.slice rA rn rc,.slice qA qn qc,.slice sA sn sc,.slice hA hn hc,.string text],.ro (AcIn d ⟨4,tab,⟨rA,rn,rc,rl⟩,⟨qA,qn,qc,ql⟩,⟨sA,sn,sc,sl⟩,⟨hA,hn,hc,hl⟩,text⟩)])
 case first=>
  have hw0:IntKind.i64.wrap ((rn:Int)+(qn:Int))=(rn:Int)+(qn:Int):=IntWalk.i64_in _ (by have:=HRQ.out;omega)
  obtain ⟨cr,hcr⟩:∃ z:Bool,decide ((0:Int)<(rn:Int)+(qn:Int))=z:=⟨_,rfl⟩
  obtain ⟨cs,hcs⟩:∃ z:Bool,decide ((0:Int)<(sn:Int))=z:=⟨_,rfl⟩
  have hcs2:decide (0<sn)=cs:=by rw [←hcs];simp
  obtain ⟨ch,hch⟩:∃ z:Bool,decide ((0:Int)<(hn:Int))=z:=⟨_,rfl⟩
  have hch2:decide (0<hn)=ch:=by rw [←hch];simp
  go_wp2_with (first
    | (go_at_call 160;go_must (refine (ZO _ _).mono ?_);rintro e w1 ⟨r,rfl,b1⟩;replace K0:=K0.call b1;replace F0:=K0.facts;simp only [zg] at F0;clear b1)
    | (go_at_call 182;go_must (refine (ZU _ _ _ _).mono ?_);rintro e w1 ⟨r,rfl,b1⟩;replace K0:=K0.call b1;replace F0:=K0.facts;simp only [zg] at F0;clear b1)
    | (go_at_call 162;go_must (refine (HW.out _ K0).mono ?_);rintro e w1 ⟨r,rfl,b1⟩;replace K0:=K0.call b1;replace F0:=K0.facts;simp only [zg] at F0;clear b1)
    | (go_at_call 208;go_must (refine (HI.out _ K0).mono ?_);rintro e w1 ⟨r,rfl,b1⟩;replace K0:=K0.call b1;replace F0:=K0.facts;simp only [zg] at F0;clear b1)
    | (go_at_call 209;go_must (refine (HS.out _ K0).mono ?_);rintro e w1 ⟨r,rfl,b1⟩;replace K0:=K0.call b1;replace F0:=K0.facts;simp only [zg] at F0;clear b1))
  all_goals (go_meet;exact ⟨_,rfl,K0⟩)
 case rest=>
  obtain ⟨bb,rfl,K1⟩:=hcut
  clear K0 F0
  have K0:=K1
  clear K1
  have F0:=K0.facts
  simp only [zg] at F0
  cases bb
  ·go_upto_region 3 with fail
   go_cut [80] (fun v wx=>∃ bb:Bool,v=.bool bb∧Hold Zb none w wx [.cst gx 97 #[.int .i64 4,.string tab,.slice rA rn rc,.slice qA qn qc,.slice sA sn sc,.slice hA hn hc,.string text],.ro (AcIn d ⟨4,tab,⟨rA,rn,rc,rl⟩,⟨qA,qn,qc,ql⟩,⟨sA,sn,sc,sl⟩,⟨hA,hn,hc,hl⟩,text⟩)])
   case first=>
    have hw0:IntKind.i64.wrap ((rn:Int)+(qn:Int))=(rn:Int)+(qn:Int):=IntWalk.i64_in _ (by have:=HRQ.out;omega)
    obtain ⟨cr,hcr⟩:∃ z:Bool,decide ((0:Int)<(rn:Int)+(qn:Int))=z:=⟨_,rfl⟩
    obtain ⟨cs,hcs⟩:∃ z:Bool,decide ((0:Int)<(sn:Int))=z:=⟨_,rfl⟩
    have hcs2:decide (0<sn)=cs:=by rw [←hcs];simp
    obtain ⟨ch,hch⟩:∃ z:Bool,decide ((0:Int)<(hn:Int))=z:=⟨_,rfl⟩
    have hch2:decide (0<hn)=ch:=by rw [←hch];simp
    go_wp2_with (first
      | (go_at_call 160;go_must (refine (ZO _ _).mono ?_);rintro e w1 ⟨r,rfl,b1⟩;replace K0:=K0.call b1;replace F0:=K0.facts;simp only [zg] at F0;clear b1)
      | (go_at_call 182;go_must (refine (ZU _ _ _ _).mono ?_);rintro e w1 ⟨r,rfl,b1⟩;replace K0:=K0.call b1;replace F0:=K0.facts;simp only [zg] at F0;clear b1)
      | (go_at_call 162;go_must (refine (HW.out _ K0).mono ?_);rintro e w1 ⟨r,rfl,b1⟩;replace K0:=K0.call b1;replace F0:=K0.facts;simp only [zg] at F0;clear b1)
      | (go_at_call 208;go_must (refine (HI.out _ K0).mono ?_);rintro e w1 ⟨r,rfl,b1⟩;replace K0:=K0.call b1;replace F0:=K0.facts;simp only [zg] at F0;clear b1)
      | (go_at_call 209;go_must (refine (HS.out _ K0).mono ?_);rintro e w1 ⟨r,rfl,b1⟩;replace K0:=K0.call b1;replace F0:=K0.facts;simp only [zg] at F0;clear b1))
    all_goals (go_meet;exact ⟨_,rfl,K0⟩)
   case rest=>
    obtain ⟨bb,rfl,K1⟩:=hcut
    clear K0 F0
    have K0:=K1
    clear K1
    have F0:=K0.facts
    simp only [zg] at F0
    cases bb
    ·go_upto_region 5 with fail
     go_cut [90] (fun v wx=>∃ bb:Bool,v=.bool bb∧Hold Zb none w wx [.cst gx 97 #[.int .i64 4,.string tab,.slice rA rn rc,.slice qA qn qc,.slice sA sn sc,.slice hA hn hc,.string text],.ro (AcIn d ⟨4,tab,⟨rA,rn,rc,rl⟩,⟨qA,qn,qc,ql⟩,⟨sA,sn,sc,sl⟩,⟨hA,hn,hc,hl⟩,text⟩)])
     case first=>
      have hw0:IntKind.i64.wrap ((rn:Int)+(qn:Int))=(rn:Int)+(qn:Int):=IntWalk.i64_in _ (by have:=HRQ.out;omega)
      obtain ⟨cr,hcr⟩:∃ z:Bool,decide ((0:Int)<(rn:Int)+(qn:Int))=z:=⟨_,rfl⟩
      obtain ⟨cs,hcs⟩:∃ z:Bool,decide ((0:Int)<(sn:Int))=z:=⟨_,rfl⟩
      have hcs2:decide (0<sn)=cs:=by rw [←hcs];simp
      obtain ⟨ch,hch⟩:∃ z:Bool,decide ((0:Int)<(hn:Int))=z:=⟨_,rfl⟩
      have hch2:decide (0<hn)=ch:=by rw [←hch];simp
      go_wp2_with (first
        | (go_at_call 160;go_must (refine (ZO _ _).mono ?_);rintro e w1 ⟨r,rfl,b1⟩;replace K0:=K0.call b1;replace F0:=K0.facts;simp only [zg] at F0;clear b1)
        | (go_at_call 182;go_must (refine (ZU _ _ _ _).mono ?_);rintro e w1 ⟨r,rfl,b1⟩;replace K0:=K0.call b1;replace F0:=K0.facts;simp only [zg] at F0;clear b1)
        | (go_at_call 162;go_must (refine (HW.out _ K0).mono ?_);rintro e w1 ⟨r,rfl,b1⟩;replace K0:=K0.call b1;replace F0:=K0.facts;simp only [zg] at F0;clear b1)
        | (go_at_call 208;go_must (refine (HI.out _ K0).mono ?_);rintro e w1 ⟨r,rfl,b1⟩;replace K0:=K0.call b1;replace F0:=K0.facts;simp only [zg] at F0;clear b1)
        | (go_at_call 209;go_must (refine (HS.out _ K0).mono ?_);rintro e w1 ⟨r,rfl,b1⟩;replace K0:=K0.call b1;replace F0:=K0.facts;simp only [zg] at F0;clear b1))
      all_goals (go_meet;exact ⟨_,rfl,K0⟩)
     case rest=>
      obtain ⟨bb,rfl,K1⟩:=hcut
      clear K0 F0
      have K0:=K1
      clear K1
      have F0:=K0.facts
      simp only [zg] at F0
      cases bb
      ·go_wp2_with (first
         | (go_at_call 160;go_must (refine (ZO _ _).mono ?_);rintro e w1 ⟨r,rfl,b1⟩;replace K0:=K0.call b1;replace F0:=K0.facts;simp only [zg] at F0;clear b1)
         | (go_at_call 182;go_must (refine (ZU _ _ _ _).mono ?_);rintro e w1 ⟨r,rfl,b1⟩;replace K0:=K0.call b1;replace F0:=K0.facts;simp only [zg] at F0;clear b1)
         | (go_at_call 162;go_must (refine (HW.out _ K0).mono ?_);rintro e w1 ⟨r,rfl,b1⟩;replace K0:=K0.call b1;replace F0:=K0.facts;simp only [zg] at F0;clear b1)
         | (go_at_call 208;go_must (refine (HI.out _ K0).mono ?_);rintro e w1 ⟨r,rfl,b1⟩;replace K0:=K0.call b1;replace F0:=K0.facts;simp only [zg] at F0;clear b1)
         | (go_at_call 209;go_must (refine (HS.out _ K0).mono ?_);rintro e w1 ⟨r,rfl,b1⟩;replace K0:=K0.call b1;replace F0:=K0.facts;simp only [zg] at F0;clear b1))
       all_goals (go_ret;exact ⟨_,rfl,K0.below,fun _ h=>absurd h (by decide)⟩)
      ·go_wp2_with fail
       all_goals (go_ret;exact ⟨_,rfl,K0.below,fun _ h=>absurd h (by decide)⟩)
    ·go_wp2_with fail
     all_goals (go_ret;exact ⟨_,rfl,K0.below,fun _ h=>absurd h (by decide)⟩)
  ·go_wp2_with fail
   all_goals (go_ret;exact ⟨_,rfl,K0.below,fun _ h=>absurd h (by decide)⟩)
set_option maxHeartbeats 16000000 in
set_option maxRecDepth 100000 in
theorem Zex (d:Nat) (tab:ByteArray) (rA:Option Addr) (rn rc:Nat) (rl:List (SlP Ex)) (qA:Option Addr) (qn qc:Nat) (ql:List Qu) (sA:Option Addr) (sn sc:Nat) (sl:List Se) (hA:Option Addr) (hn hc:Nat) (hl:List Ex) (text:ByteArray) (w:World) (hx:Ro w Zb (AcIn d ⟨5,tab,⟨rA,rn,rc,rl⟩,⟨qA,qn,qc,ql⟩,⟨sA,sn,sc,sl⟩,⟨hA,hn,hc,hl⟩,text⟩)) (hg:AcGd d ⟨5,tab,⟨rA,rn,rc,rl⟩,⟨qA,qn,qc,ql⟩,⟨sA,sn,sc,sl⟩,⟨hA,hn,hc,hl⟩,text⟩):Calls Tryz.prog 163 #[.agg #[.int .i64 5,.string tab,.slice rA rn rc,.slice qA qn qc,.slice sA sn sc,.slice hA hn hc,.string text]] w fun e w' =>Vm 5 sn w e w' :=by
 have HHN:=hid (show hn≤1000 from by
  have h:hl.length=hn:=ExsIn.len (show ExsIn d hA hn hl w from hx.now.2.2.2)
  have h2:hl.length≤1:=hg.h.2.1
  omega)
 have HSN:=hid (show sn≤1000 from by
  have h:sl.length=sn:=SlP.In.len (s:=⟨sA,sn,sc,sl⟩) (k:=11) (cel:=Se.cells) (P:=ZY d) hx.now.2.2.1 (by omega) (fun _=>rfl)
  have h2:sl.length≤8:=hg.s.2.1
  omega)
 have HRQ:=hid (show rn≤8∧qn≤1 from by
  have h1:rl.length=rn:=SlP.In.len (s:=⟨rA,rn,rc,rl⟩) (k:=1) (cel:=fun r:SlP Ex=>[r.v]) (P:=fun r w=>r.In 10 Ex.cells (ExIn d) w) hx.now.1 (by omega) (fun _=>rfl)
  have h2:ql.length=qn:=SlP.In.len (s:=⟨qA,qn,qc,ql⟩) (k:=4) (cel:=Qu.cells) (P:=QuIn d) hx.now.2.1 (by omega) (fun _=>rfl)
  have h3:rl.length≤8:=hg.r.2.1
  have h4:ql.length≤1:=hg.q.2.1
  omega)
 have HG:=hid hg
 have K0:=((Hold.start Zb w zn).add (hx.less (by simp [Mut]))).Za #[.int .i64 5,.string tab,.slice rA rn rc,.slice qA qn qc,.slice sA sn sc,.slice hA hn hc,.string text] 97
 obtain ⟨gx,hgx⟩:∃ g,g=w.heap.size:=⟨_,rfl⟩
 rw [←hgx] at K0
 have F0:=K0.facts
 simp only [zg] at F0
 rw [hgx] at F0
 clear hx hg
 go_enter Tryz.func163,Tryz.ntmps163
 go_upto_region 1 with fail
 rw [←hgx] at F0 ⊢
 have HGX:=hid hgx
 clear hgx
 generalize World.alloc _ _=w1 at K0 F0 ⊢
 by_cases hs1:sn=1
 ·have HS1:=hid hs1
  clear hs1
  have HW:=hid (fun (wv:World) (h:Hold Zb none w wv [.cst gx 97 #[.int .i64 5,.string tab,.slice rA rn rc,.slice qA qn qc,.slice sA sn sc,.slice hA hn hc,.string text],.ro (AcIn d ⟨5,tab,⟨rA,rn,rc,rl⟩,⟨qA,qn,qc,ql⟩,⟨sA,sn,sc,sl⟩,⟨hA,hn,hc,hl⟩,text⟩)])=>XL d hA hn hc hl wv (((h.ro 1 rfl).imp fun w2 h2=>(show ExsIn d hA hn hl w2 from h2.2.2.2)).less zn) HG.out.h.2.2 HHN.out)
  have HI:=hid (fun (wv:World) (h:Hold Zb none w wv [.cst gx 97 #[.int .i64 5,.string tab,.slice rA rn rc,.slice qA qn qc,.slice sA sn sc,.slice hA hn hc,.string text],.ro (AcIn d ⟨5,tab,⟨rA,rn,rc,rl⟩,⟨qA,qn,qc,ql⟩,⟨sA,sn,sc,sl⟩,⟨hA,hn,hc,hl⟩,text⟩)])=>Vw d ⟨5,tab,⟨rA,rn,rc,rl⟩,⟨qA,qn,qc,ql⟩,⟨sA,sn,sc,sl⟩,⟨hA,hn,hc,hl⟩,text⟩ wv ((h.ro 1 rfl).less zn) HG.out)
  have HS:=hid (fun (wv:World) (h:Hold Zb none w wv [.cst gx 97 #[.int .i64 5,.string tab,.slice rA rn rc,.slice qA qn qc,.slice sA sn sc,.slice hA hn hc,.string text],.ro (AcIn d ⟨5,tab,⟨rA,rn,rc,rl⟩,⟨qA,qn,qc,ql⟩,⟨sA,sn,sc,sl⟩,⟨hA,hn,hc,hl⟩,text⟩)])=>VC d ⟨sA,sn,sc,sl⟩ wv (((h.ro 1 rfl).imp fun w2 h2=>h2.2.2.1).less zn) HG.out.s.2.2 HSN.out HG.out.s.1.1)
  go_cut [35] (fun v wx=>∃ bb:Bool,v=.bool bb∧Hold Zb none w wx [.cst gx 97 #[.int .i64 5,.string tab,.slice rA rn rc,.slice qA qn qc,.slice sA sn sc,.slice hA hn hc,.string text],.ro (AcIn d ⟨5,tab,⟨rA,rn,rc,rl⟩,⟨qA,qn,qc,ql⟩,⟨sA,sn,sc,sl⟩,⟨hA,hn,hc,hl⟩,text⟩)])
  case first=>
   have hw0:IntKind.i64.wrap ((rn:Int)+(qn:Int))=(rn:Int)+(qn:Int):=IntWalk.i64_in _ (by have:=HRQ.out;omega)
   obtain ⟨cr,hcr⟩:∃ z:Bool,decide ((0:Int)<(rn:Int)+(qn:Int))=z:=⟨_,rfl⟩
   obtain ⟨cs,hcs⟩:∃ z:Bool,decide ((0:Int)<(sn:Int))=z:=⟨_,rfl⟩
   have hcs2:decide (0<sn)=cs:=by rw [←hcs];simp
   obtain ⟨ch,hch⟩:∃ z:Bool,decide ((0:Int)<(hn:Int))=z:=⟨_,rfl⟩
   have hch2:decide (0<hn)=ch:=by rw [←hch];simp
   go_wp2_with (first
     | (go_at_call 160;go_must (refine (ZO _ _).mono ?_);rintro e w1 ⟨r,rfl,b1⟩;replace K0:=K0.call b1;replace F0:=K0.facts;simp only [zg] at F0;clear b1)
     | (go_at_call 182;go_must (refine (ZU _ _ _ _).mono ?_);rintro e w1 ⟨r,rfl,b1⟩;replace K0:=K0.call b1;replace F0:=K0.facts;simp only [zg] at F0;clear b1)
     | (go_at_call 162;go_must (refine (HW.out _ K0).mono ?_);rintro e w1 ⟨r,rfl,b1⟩;replace K0:=K0.call b1;replace F0:=K0.facts;simp only [zg] at F0;clear b1)
     | (go_at_call 208;go_must (refine (HI.out _ K0).mono ?_);rintro e w1 ⟨r,rfl,b1⟩;replace K0:=K0.call b1;replace F0:=K0.facts;simp only [zg] at F0;clear b1)
     | (go_at_call 209;go_must (refine (HS.out _ K0).mono ?_);rintro e w1 ⟨r,rfl,b1⟩;replace K0:=K0.call b1;replace F0:=K0.facts;simp only [zg] at F0;clear b1))
   all_goals (go_meet;exact ⟨_,rfl,K0⟩)
  case rest=>
   obtain ⟨bb,rfl,K1⟩:=hcut
   clear K0 F0
   have K0:=K1
   clear K1
   have F0:=K0.facts
   simp only [zg] at F0
   cases bb
   ·go_upto_region 3 with fail
    go_cut [80] (fun v wx=>∃ bb:Bool,v=.bool bb∧Hold Zb none w wx [.cst gx 97 #[.int .i64 5,.string tab,.slice rA rn rc,.slice qA qn qc,.slice sA sn sc,.slice hA hn hc,.string text],.ro (AcIn d ⟨5,tab,⟨rA,rn,rc,rl⟩,⟨qA,qn,qc,ql⟩,⟨sA,sn,sc,sl⟩,⟨hA,hn,hc,hl⟩,text⟩)])
    case first=>
     have hw0:IntKind.i64.wrap ((rn:Int)+(qn:Int))=(rn:Int)+(qn:Int):=IntWalk.i64_in _ (by have:=HRQ.out;omega)
     obtain ⟨cr,hcr⟩:∃ z:Bool,decide ((0:Int)<(rn:Int)+(qn:Int))=z:=⟨_,rfl⟩
     obtain ⟨cs,hcs⟩:∃ z:Bool,decide ((0:Int)<(sn:Int))=z:=⟨_,rfl⟩
     have hcs2:decide (0<sn)=cs:=by rw [←hcs];simp
     obtain ⟨ch,hch⟩:∃ z:Bool,decide ((0:Int)<(hn:Int))=z:=⟨_,rfl⟩
     have hch2:decide (0<hn)=ch:=by rw [←hch];simp
     go_wp2_with (first
       | (go_at_call 160;go_must (refine (ZO _ _).mono ?_);rintro e w1 ⟨r,rfl,b1⟩;replace K0:=K0.call b1;replace F0:=K0.facts;simp only [zg] at F0;clear b1)
       | (go_at_call 182;go_must (refine (ZU _ _ _ _).mono ?_);rintro e w1 ⟨r,rfl,b1⟩;replace K0:=K0.call b1;replace F0:=K0.facts;simp only [zg] at F0;clear b1)
       | (go_at_call 162;go_must (refine (HW.out _ K0).mono ?_);rintro e w1 ⟨r,rfl,b1⟩;replace K0:=K0.call b1;replace F0:=K0.facts;simp only [zg] at F0;clear b1)
       | (go_at_call 208;go_must (refine (HI.out _ K0).mono ?_);rintro e w1 ⟨r,rfl,b1⟩;replace K0:=K0.call b1;replace F0:=K0.facts;simp only [zg] at F0;clear b1)
       | (go_at_call 209;go_must (refine (HS.out _ K0).mono ?_);rintro e w1 ⟨r,rfl,b1⟩;replace K0:=K0.call b1;replace F0:=K0.facts;simp only [zg] at F0;clear b1))
     all_goals (go_meet;exact ⟨_,rfl,K0⟩)
    case rest=>
     obtain ⟨bb,rfl,K1⟩:=hcut
     clear K0 F0
     have K0:=K1
     clear K1
     have F0:=K0.facts
     simp only [zg] at F0
     cases bb
     ·go_upto_region 5 with fail
      go_cut [90] (fun v wx=>∃ bb:Bool,v=.bool bb∧Hold Zb none w wx [.cst gx 97 #[.int .i64 5,.string tab,.slice rA rn rc,.slice qA qn qc,.slice sA sn sc,.slice hA hn hc,.string text],.ro (AcIn d ⟨5,tab,⟨rA,rn,rc,rl⟩,⟨qA,qn,qc,ql⟩,⟨sA,sn,sc,sl⟩,⟨hA,hn,hc,hl⟩,text⟩)])
      case first=>
       have hw0:IntKind.i64.wrap ((rn:Int)+(qn:Int))=(rn:Int)+(qn:Int):=IntWalk.i64_in _ (by have:=HRQ.out;omega)
       obtain ⟨cr,hcr⟩:∃ z:Bool,decide ((0:Int)<(rn:Int)+(qn:Int))=z:=⟨_,rfl⟩
       obtain ⟨cs,hcs⟩:∃ z:Bool,decide ((0:Int)<(sn:Int))=z:=⟨_,rfl⟩
       have hcs2:decide (0<sn)=cs:=by rw [←hcs];simp
       obtain ⟨ch,hch⟩:∃ z:Bool,decide ((0:Int)<(hn:Int))=z:=⟨_,rfl⟩
       have hch2:decide (0<hn)=ch:=by rw [←hch];simp
       go_wp2_with (first
         | (go_at_call 160;go_must (refine (ZO _ _).mono ?_);rintro e w1 ⟨r,rfl,b1⟩;replace K0:=K0.call b1;replace F0:=K0.facts;simp only [zg] at F0;clear b1)
         | (go_at_call 182;go_must (refine (ZU _ _ _ _).mono ?_);rintro e w1 ⟨r,rfl,b1⟩;replace K0:=K0.call b1;replace F0:=K0.facts;simp only [zg] at F0;clear b1)
         | (go_at_call 162;go_must (refine (HW.out _ K0).mono ?_);rintro e w1 ⟨r,rfl,b1⟩;replace K0:=K0.call b1;replace F0:=K0.facts;simp only [zg] at F0;clear b1)
         | (go_at_call 208;go_must (refine (HI.out _ K0).mono ?_);rintro e w1 ⟨r,rfl,b1⟩;replace K0:=K0.call b1;replace F0:=K0.facts;simp only [zg] at F0;clear b1)
         | (go_at_call 209;go_must (refine (HS.out _ K0).mono ?_);rintro e w1 ⟨r,rfl,b1⟩;replace K0:=K0.call b1;replace F0:=K0.facts;simp only [zg] at F0;clear b1))
       all_goals (go_meet;exact ⟨_,rfl,K0⟩)
      case rest=>
       obtain ⟨bb,rfl,K1⟩:=hcut
       clear K0 F0
       have K0:=K1
       clear K1
       have F0:=K0.facts
       simp only [zg] at F0
       cases bb
       ·go_wp2_with (first
          | (go_at_call 160;go_must (refine (ZO _ _).mono ?_);rintro e w1 ⟨r,rfl,b1⟩;replace K0:=K0.call b1;replace F0:=K0.facts;simp only [zg] at F0;clear b1)
          | (go_at_call 182;go_must (refine (ZU _ _ _ _).mono ?_);rintro e w1 ⟨r,rfl,b1⟩;replace K0:=K0.call b1;replace F0:=K0.facts;simp only [zg] at F0;clear b1)
          | (go_at_call 162;go_must (refine (HW.out _ K0).mono ?_);rintro e w1 ⟨r,rfl,b1⟩;replace K0:=K0.call b1;replace F0:=K0.facts;simp only [zg] at F0;clear b1)
          | (go_at_call 208;go_must (refine (HI.out _ K0).mono ?_);rintro e w1 ⟨r,rfl,b1⟩;replace K0:=K0.call b1;replace F0:=K0.facts;simp only [zg] at F0;clear b1)
          | (go_at_call 209;go_must (refine (HS.out _ K0).mono ?_);rintro e w1 ⟨r,rfl,b1⟩;replace K0:=K0.call b1;replace F0:=K0.facts;simp only [zg] at F0;clear b1))
        all_goals (go_ret;exact ⟨_,rfl,K0.below,fun _ _=>HS1.out⟩)
       ·go_wp2_with fail
        all_goals (go_ret;exact ⟨_,rfl,K0.below,fun _ _=>HS1.out⟩)
     ·go_wp2_with fail
      all_goals (go_ret;exact ⟨_,rfl,K0.below,fun _ _=>HS1.out⟩)
   ·go_wp2_with fail
    all_goals (go_ret;exact ⟨_,rfl,K0.below,fun _ _=>HS1.out⟩)
 ·have hs1b:((sn:Int)==1)=false:=by simp;omega
  clear hs1
  have HW:=hid (fun (wv:World) (h:Hold Zb none w wv [.cst gx 97 #[.int .i64 5,.string tab,.slice rA rn rc,.slice qA qn qc,.slice sA sn sc,.slice hA hn hc,.string text],.ro (AcIn d ⟨5,tab,⟨rA,rn,rc,rl⟩,⟨qA,qn,qc,ql⟩,⟨sA,sn,sc,sl⟩,⟨hA,hn,hc,hl⟩,text⟩)])=>XL d hA hn hc hl wv (((h.ro 1 rfl).imp fun w2 h2=>(show ExsIn d hA hn hl w2 from h2.2.2.2)).less zn) HG.out.h.2.2 HHN.out)
  have HI:=hid (fun (wv:World) (h:Hold Zb none w wv [.cst gx 97 #[.int .i64 5,.string tab,.slice rA rn rc,.slice qA qn qc,.slice sA sn sc,.slice hA hn hc,.string text],.ro (AcIn d ⟨5,tab,⟨rA,rn,rc,rl⟩,⟨qA,qn,qc,ql⟩,⟨sA,sn,sc,sl⟩,⟨hA,hn,hc,hl⟩,text⟩)])=>Vw d ⟨5,tab,⟨rA,rn,rc,rl⟩,⟨qA,qn,qc,ql⟩,⟨sA,sn,sc,sl⟩,⟨hA,hn,hc,hl⟩,text⟩ wv ((h.ro 1 rfl).less zn) HG.out)
  have HS:=hid (fun (wv:World) (h:Hold Zb none w wv [.cst gx 97 #[.int .i64 5,.string tab,.slice rA rn rc,.slice qA qn qc,.slice sA sn sc,.slice hA hn hc,.string text],.ro (AcIn d ⟨5,tab,⟨rA,rn,rc,rl⟩,⟨qA,qn,qc,ql⟩,⟨sA,sn,sc,sl⟩,⟨hA,hn,hc,hl⟩,text⟩)])=>VC d ⟨sA,sn,sc,sl⟩ wv (((h.ro 1 rfl).imp fun w2 h2=>h2.2.2.1).less zn) HG.out.s.2.2 HSN.out HG.out.s.1.1)
  go_cut [35] (fun v wx=>∃ bb:Bool,v=.bool bb∧Hold Zb none w wx [.cst gx 97 #[.int .i64 5,.string tab,.slice rA rn rc,.slice qA qn qc,.slice sA sn sc,.slice hA hn hc,.string text],.ro (AcIn d ⟨5,tab,⟨rA,rn,rc,rl⟩,⟨qA,qn,qc,ql⟩,⟨sA,sn,sc,sl⟩,⟨hA,hn,hc,hl⟩,text⟩)])
  case first=>
   have hw0:IntKind.i64.wrap ((rn:Int)+(qn:Int))=(rn:Int)+(qn:Int):=IntWalk.i64_in _ (by have:=HRQ.out;omega)
   obtain ⟨cr,hcr⟩:∃ z:Bool,decide ((0:Int)<(rn:Int)+(qn:Int))=z:=⟨_,rfl⟩
   obtain ⟨cs,hcs⟩:∃ z:Bool,decide ((0:Int)<(sn:Int))=z:=⟨_,rfl⟩
   have hcs2:decide (0<sn)=cs:=by rw [←hcs];simp
   obtain ⟨ch,hch⟩:∃ z:Bool,decide ((0:Int)<(hn:Int))=z:=⟨_,rfl⟩
   have hch2:decide (0<hn)=ch:=by rw [←hch];simp
   go_wp2_with (first
     | (go_at_call 160;go_must (refine (ZO _ _).mono ?_);rintro e w1 ⟨r,rfl,b1⟩;replace K0:=K0.call b1;replace F0:=K0.facts;simp only [zg] at F0;clear b1)
     | (go_at_call 182;go_must (refine (ZU _ _ _ _).mono ?_);rintro e w1 ⟨r,rfl,b1⟩;replace K0:=K0.call b1;replace F0:=K0.facts;simp only [zg] at F0;clear b1)
     | (go_at_call 162;go_must (refine (HW.out _ K0).mono ?_);rintro e w1 ⟨r,rfl,b1⟩;replace K0:=K0.call b1;replace F0:=K0.facts;simp only [zg] at F0;clear b1)
     | (go_at_call 208;go_must (refine (HI.out _ K0).mono ?_);rintro e w1 ⟨r,rfl,b1⟩;replace K0:=K0.call b1;replace F0:=K0.facts;simp only [zg] at F0;clear b1)
     | (go_at_call 209;go_must (refine (HS.out _ K0).mono ?_);rintro e w1 ⟨r,rfl,b1⟩;replace K0:=K0.call b1;replace F0:=K0.facts;simp only [zg] at F0;clear b1))
   all_goals (go_meet;exact ⟨_,rfl,K0⟩)
  case rest=>
   obtain ⟨bb,rfl,K1⟩:=hcut
   clear K0 F0
   have K0:=K1
   clear K1
   have F0:=K0.facts
   simp only [zg] at F0
   cases bb
   ·go_upto_region 3 with fail
    go_cut [80] (fun v wx=>∃ bb:Bool,v=.bool bb∧Hold Zb none w wx [.cst gx 97 #[.int .i64 5,.string tab,.slice rA rn rc,.slice qA qn qc,.slice sA sn sc,.slice hA hn hc,.string text],.ro (AcIn d ⟨5,tab,⟨rA,rn,rc,rl⟩,⟨qA,qn,qc,ql⟩,⟨sA,sn,sc,sl⟩,⟨hA,hn,hc,hl⟩,text⟩)])
    case first=>
     have hw0:IntKind.i64.wrap ((rn:Int)+(qn:Int))=(rn:Int)+(qn:Int):=IntWalk.i64_in _ (by have:=HRQ.out;omega)
     obtain ⟨cr,hcr⟩:∃ z:Bool,decide ((0:Int)<(rn:Int)+(qn:Int))=z:=⟨_,rfl⟩
     obtain ⟨cs,hcs⟩:∃ z:Bool,decide ((0:Int)<(sn:Int))=z:=⟨_,rfl⟩
     have hcs2:decide (0<sn)=cs:=by rw [←hcs];simp
     obtain ⟨ch,hch⟩:∃ z:Bool,decide ((0:Int)<(hn:Int))=z:=⟨_,rfl⟩
     have hch2:decide (0<hn)=ch:=by rw [←hch];simp
     go_wp2_with (first
       | (go_at_call 160;go_must (refine (ZO _ _).mono ?_);rintro e w1 ⟨r,rfl,b1⟩;replace K0:=K0.call b1;replace F0:=K0.facts;simp only [zg] at F0;clear b1)
       | (go_at_call 182;go_must (refine (ZU _ _ _ _).mono ?_);rintro e w1 ⟨r,rfl,b1⟩;replace K0:=K0.call b1;replace F0:=K0.facts;simp only [zg] at F0;clear b1)
       | (go_at_call 162;go_must (refine (HW.out _ K0).mono ?_);rintro e w1 ⟨r,rfl,b1⟩;replace K0:=K0.call b1;replace F0:=K0.facts;simp only [zg] at F0;clear b1)
       | (go_at_call 208;go_must (refine (HI.out _ K0).mono ?_);rintro e w1 ⟨r,rfl,b1⟩;replace K0:=K0.call b1;replace F0:=K0.facts;simp only [zg] at F0;clear b1)
       | (go_at_call 209;go_must (refine (HS.out _ K0).mono ?_);rintro e w1 ⟨r,rfl,b1⟩;replace K0:=K0.call b1;replace F0:=K0.facts;simp only [zg] at F0;clear b1))
     all_goals (go_meet;exact ⟨_,rfl,K0⟩)
    case rest=>
     obtain ⟨bb,rfl,K1⟩:=hcut
     clear K0 F0
     have K0:=K1
     clear K1
     have F0:=K0.facts
     simp only [zg] at F0
     cases bb
     ·go_upto_region 5 with fail
      go_cut [90] (fun v wx=>∃ bb:Bool,v=.bool bb∧Hold Zb none w wx [.cst gx 97 #[.int .i64 5,.string tab,.slice rA rn rc,.slice qA qn qc,.slice sA sn sc,.slice hA hn hc,.string text],.ro (AcIn d ⟨5,tab,⟨rA,rn,rc,rl⟩,⟨qA,qn,qc,ql⟩,⟨sA,sn,sc,sl⟩,⟨hA,hn,hc,hl⟩,text⟩)])
      case first=>
       have hw0:IntKind.i64.wrap ((rn:Int)+(qn:Int))=(rn:Int)+(qn:Int):=IntWalk.i64_in _ (by have:=HRQ.out;omega)
       obtain ⟨cr,hcr⟩:∃ z:Bool,decide ((0:Int)<(rn:Int)+(qn:Int))=z:=⟨_,rfl⟩
       obtain ⟨cs,hcs⟩:∃ z:Bool,decide ((0:Int)<(sn:Int))=z:=⟨_,rfl⟩
       have hcs2:decide (0<sn)=cs:=by rw [←hcs];simp
       obtain ⟨ch,hch⟩:∃ z:Bool,decide ((0:Int)<(hn:Int))=z:=⟨_,rfl⟩
       have hch2:decide (0<hn)=ch:=by rw [←hch];simp
       go_wp2_with (first
         | (go_at_call 160;go_must (refine (ZO _ _).mono ?_);rintro e w1 ⟨r,rfl,b1⟩;replace K0:=K0.call b1;replace F0:=K0.facts;simp only [zg] at F0;clear b1)
         | (go_at_call 182;go_must (refine (ZU _ _ _ _).mono ?_);rintro e w1 ⟨r,rfl,b1⟩;replace K0:=K0.call b1;replace F0:=K0.facts;simp only [zg] at F0;clear b1)
         | (go_at_call 162;go_must (refine (HW.out _ K0).mono ?_);rintro e w1 ⟨r,rfl,b1⟩;replace K0:=K0.call b1;replace F0:=K0.facts;simp only [zg] at F0;clear b1)
         | (go_at_call 208;go_must (refine (HI.out _ K0).mono ?_);rintro e w1 ⟨r,rfl,b1⟩;replace K0:=K0.call b1;replace F0:=K0.facts;simp only [zg] at F0;clear b1)
         | (go_at_call 209;go_must (refine (HS.out _ K0).mono ?_);rintro e w1 ⟨r,rfl,b1⟩;replace K0:=K0.call b1;replace F0:=K0.facts;simp only [zg] at F0;clear b1))
       all_goals (go_meet;exact ⟨_,rfl,K0⟩)
      case rest=>
       obtain ⟨bb,rfl,K1⟩:=hcut
       clear K0 F0
       have K0:=K1
       clear K1
       have F0:=K0.facts
       simp only [zg] at F0
       cases bb
       ·go_wp2_with (first
          | (go_at_call 160;go_must (refine (ZO _ _).mono ?_);rintro e w1 ⟨r,rfl,b1⟩;replace K0:=K0.call b1;replace F0:=K0.facts;simp only [zg] at F0;clear b1)
          | (go_at_call 182;go_must (refine (ZU _ _ _ _).mono ?_);rintro e w1 ⟨r,rfl,b1⟩;replace K0:=K0.call b1;replace F0:=K0.facts;simp only [zg] at F0;clear b1)
          | (go_at_call 162;go_must (refine (HW.out _ K0).mono ?_);rintro e w1 ⟨r,rfl,b1⟩;replace K0:=K0.call b1;replace F0:=K0.facts;simp only [zg] at F0;clear b1)
          | (go_at_call 208;go_must (refine (HI.out _ K0).mono ?_);rintro e w1 ⟨r,rfl,b1⟩;replace K0:=K0.call b1;replace F0:=K0.facts;simp only [zg] at F0;clear b1)
          | (go_at_call 209;go_must (refine (HS.out _ K0).mono ?_);rintro e w1 ⟨r,rfl,b1⟩;replace K0:=K0.call b1;replace F0:=K0.facts;simp only [zg] at F0;clear b1))
        all_goals (go_ret;exact ⟨_,rfl,K0.below,fun h _=>(nomatch h)⟩)
       ·go_wp2_with fail
        all_goals (go_ret;exact ⟨_,rfl,K0.below,fun h _=>(nomatch h)⟩)
     ·go_wp2_with fail
      all_goals (go_ret;exact ⟨_,rfl,K0.below,fun h _=>(nomatch h)⟩)
   ·go_wp2_with fail
    all_goals (go_ret;exact ⟨_,rfl,K0.below,fun h _=>(nomatch h)⟩)
theorem Gm (d:Nat) (a:Ac) (w:World) (hx:Ro w Zb (AcIn d a)) (hg:AcGd d a):Calls Tryz.prog 163 #[.agg #[.int .i64 a.kind,.string a.tab,.slice a.rows.A a.rows.n a.rows.c,.slice a.qs.A a.qs.n a.qs.c,.slice a.sets.A a.sets.n a.sets.c,.slice a.wh.A a.wh.n a.wh.c,.string a.text]] w fun e w' =>Vm a.kind a.sets.n w e w' :=by
 obtain ⟨kind,tab,⟨rA,rn,rc,rl⟩,⟨qA,qn,qc,ql⟩,⟨sA,sn,sc,sl⟩,⟨hA,hn,hc,hl⟩,text⟩:=a
 have hk:1≤kind∧kind≤5:=hg.k
 obtain rfl|rfl|rfl|rfl|rfl:kind=1∨kind=2∨kind=3∨kind=4∨kind=5:=by omega
 ·exact Zdz d tab rA rn rc rl qA qn qc ql sA sn sc sl hA hn hc hl text w hx hg
 ·exact Zek d tab rA rn rc rl qA qn qc ql sA sn sc sl hA hn hc hl text w hx hg
 ·exact ZeS d tab rA rn rc rl qA qn qc ql sA sn sc sl hA hn hc hl text w hx hg
 ·exact Zd5 d tab rA rn rc rl qA qn qc ql sA sn sc sl hA hn hc hl text w hx hg
 ·exact Zex d tab rA rn rc rl qA qn qc ql sA sn sc sl hA hn hc hl text w hx hg
set_option maxHeartbeats 8000000 in
set_option maxRecDepth 100000 in
theorem ZdK (d:Nat) (a:Ac) (w:World) (hx:Ro w Zb (AcIn d a)) (hg:AcGd d a):Calls Tryz.prog 149 #[.agg #[.int .i64 a.kind,.string a.tab,.slice a.rows.A a.rows.n a.rows.c,.slice a.qs.A a.qs.n a.qs.c,.slice a.sets.A a.sets.n a.sets.c,.slice a.wh.A a.wh.n a.wh.c,.string a.text]] w fun e w' =>YR w e w' :=by
 have HG:=hid hg
 have h1:(1:Int)≤a.kind:=hg.k.1
 have K0:=((Hold.start Zb w zn).add (hx.less (by simp [Mut]))).Za #[.int .i64 a.kind,.string a.tab,.slice a.rows.A a.rows.n a.rows.c,.slice a.qs.A a.qs.n a.qs.c,.slice a.sets.A a.sets.n a.sets.c,.slice a.wh.A a.wh.n a.wh.c,.string a.text] 97
 obtain ⟨gx,hgx⟩:∃ g,g=w.heap.size:=⟨_,rfl⟩
 rw [←hgx] at K0
 clear hx hg
 go_enter Tryz.func149,Tryz.ntmps149
 go_upto_region 1 with fail
 rw [←hgx]
 have HGX:=hid hgx
 clear hgx
 generalize World.alloc _ _=w1 at K0 ⊢
 have F0:=K0.facts
 simp only [zg] at F0
 by_cases h3:a.kind≤3
 ·go_wp2_with (go_at_call 163;go_must (refine (Gm d a _ ((K0.ro 1 rfl).less zn) HG.out).mono ?_);rintro e w5 ⟨r,rfl,b5,-⟩;replace K0:=K0.call b5;clear b5;replace F0:=K0.facts;simp only [zg] at F0)
  all_goals (go_ret;exact ⟨_,rfl,K0.below⟩)
 ·go_wp2_with fail
  all_goals (go_ret;exact ⟨_,rfl,K0.below⟩)
set_option maxHeartbeats 16000000 in
set_option maxRecDepth 100000 in
theorem Zb4 (d:Nat) (a:Ac) (s:Sm) (fA:Option Addr) (fn fc:Nat) (fl:List Fr) (tA:Option Addr) (tn tc:Nat) (tl:List Te) (w:World) (hx:Ro w Zb (AcIn d a)) (hg:AcGd d a) (hs:Ro w Zb (ZK s)) (hf:Ro w Zb (FrsIn ⟨fA,fn,fc,fl⟩)) (ht:Ro w Zb (TesIn tA tn tl)) (hsn:s.cols.n≤1000) (hfb:FB (d+1) fn fl) (htb:TBd tn tl):Calls Tryz.prog 212 #[.agg #[.int .i64 a.kind,.string a.tab,.slice a.rows.A a.rows.n a.rows.c,.slice a.qs.A a.qs.n a.qs.c,.slice a.sets.A a.sets.n a.sets.c,.slice a.wh.A a.wh.n a.wh.c,.string a.text],.agg #[.string s.nm,.slice s.cols.A s.cols.n s.cols.c],.slice fA fn fc,.slice tA tn tc] w fun e w' =>V6 w e w' :=by
 obtain ⟨kind,tab,⟨rA,rn,rc,rl⟩,⟨qA,qn,qc,ql⟩,⟨sA,sn,sc,sl⟩,⟨hA,hn,hc,hl⟩,text⟩:=a
 obtain ⟨snm,⟨cA,cn,cc,cl⟩⟩:=s
 have hcn:cn≤1000:=hsn
 have HRN:=hid (show rl.length=rn from SlP.In.len (s:=⟨rA,rn,rc,rl⟩) (k:=1) (cel:=fun r:SlP Ex=>[r.v]) (P:=fun r w=>r.In 10 Ex.cells (ExIn d) w) hx.now.1 (by omega) (fun _=>rfl))
 have HQN:=hid (show ql.length=qn from SlP.In.len (s:=⟨qA,qn,qc,ql⟩) (k:=4) (cel:=Qu.cells) (P:=QuIn d) hx.now.2.1 (by omega) (fun _=>rfl))
 have hqn:qn≤1:=by have h:ql.length≤1:=hg.q.2.1;have:=HQN.out;omega
 have hrn:rn≤8:=by have h:rl.length≤8:=hg.r.2.1;have:=HRN.out;omega
 have HQG:=hid (show ∀ q∈ql,QuGd d q from hg.q.2.2)
 have HRG:=hid (show ∀ r∈rl,(∀ x∈r.l,ExGd d x)∧r.l.length≤8 from fun r hr=>⟨(hg.r.2.2 r hr).2.2,(hg.r.2.2 r hr).2.1⟩)
 have HFB:=hid hfb
 have HTB:=hid htb
 have HCL:=hid (show cl.length=cn from (RdC.Zw (show SlR 4 cA cn (Zd cl) _ from hs.now.1)).len)
 have K0:=((((((Hold.start Zb w zn).add (ht.less (by simp [Mut]))).add (hf.less (by simp [Mut,Hp.foot]))).add ((hs.imp (S' :=SlR 4 cA cn (Zd cl)) fun w2 h2=>h2.1).less (by simp [Mut,Hp.foot]))).add (hx.less (by simp [Mut,Hp.foot]))).Za #[.int .i64 kind,.string tab,.slice rA rn rc,.slice qA qn qc,.slice sA sn sc,.slice hA hn hc,.string text] 97).Za #[.string snm,.slice cA cn cc] 49
 rw [World.size_alloc] at K0
 obtain ⟨gx,hgx⟩:∃ g,g=w.heap.size:=⟨_,rfl⟩
 rw [←hgx] at K0
 obtain ⟨gs,hgs⟩:∃ g,g=gx+1:=⟨_,rfl⟩
 rw [←hgs] at K0
 clear hx hg hs hf ht hfb htb
 go_enter Tryz.func212,Tryz.ntmps212
 go_upto_region 1 with fail
 rw [←hgx]
 try rw [←hgs]
 have HGX:=hid (And.intro hgx hgs)
 clear hgx hgs
 generalize World.alloc _ _=w1 at K0 ⊢
 have F0:=K0.facts
 simp only [zg] at F0
 go_wp2_with fail
 clear F0
 go_loopw [24] (fun iv wr=>∃ j:Nat,j≤rn∧iv=.int .i64 j∧Hold Zb none w wr [.cst gs 49 #[.string snm,.slice cA cn cc],.cst gx 97 #[.int .i64 kind,.string tab,.slice rA rn rc,.slice qA qn qc,.slice sA sn sc,.slice hA hn hc,.string text],.ro (AcIn d ⟨kind,tab,⟨rA,rn,rc,rl⟩,⟨qA,qn,qc,ql⟩,⟨sA,sn,sc,sl⟩,⟨hA,hn,hc,hl⟩,text⟩),.ro (SlR 4 cA cn (Zd cl)),.ro (FrsIn ⟨fA,fn,fc,fl⟩),.ro (TesIn tA tn tl)]) (fun iv _=>rn - (intOf iv).toNat)
 case atStart=>exact ⟨0,by omega,rfl,K0⟩
 case round=>
  clear K0
  obtain ⟨j,hj,rfl,H⟩:=hrel
  by_cases hlt:j<rn
  ·obtain ⟨⟨eA,en,ec,el⟩,hr⟩:=Yg HRN.out hlt
   obtain ⟨b,o,rfl,-,hc9,hin9⟩:=SlP.In.at_ (s:=⟨rA,rn,rc,rl⟩) (k:=1) (cel:=fun r:SlP Ex=>[r.v]) (P:=fun r w=>r.In 10 Ex.cells (ExIn d) w) (H.ro 2 rfl).now.1 (by omega) (fun _=>rfl) hr
   have q0:=hc9 0 _ (by omega) rfl
   simp only [Nat.add_zero,Nat.mul_one,SlP.v] at q0
   have hml:=List.mem_of_getElem? hr
   have HEL:=hid (show el.length=en from ExsIn.len (show ExsIn d eA en el _ from hin9))
   have h8:en≤8:=by have:=(HRG.out _ hml).2;simp only at this;have:=HEL.out;omega
   have K1:=H.add (S:=ExsIn d eA en el) ((H.ro 2 rfl).imp fun w2 h2=>h2.1.2 _ hml)
   clear hc9 hin9 hr H
   have F1:=K1.facts
   simp only [zg] at F1
   obtain ⟨z,hz⟩:∃ z:Bool,(en==cn)=z:=⟨_,rfl⟩
   cases z
   ·have hzi:((en:Int) !=(cn:Int))=true:=by simp at hz ⊢;omega
    clear hz
    go_wp2_with fail
    go_ret
    exact ⟨_,rfl,K1.below⟩
   ·have hzi:((en:Int) !=(cn:Int))=false:=by simp at hz ⊢;omega
    have HEC:=hid (show en=cn by simpa using hz)
    clear hz
    go_wp2_with fail
    clear F1 q0
    go_loopw [36] (fun iv wr=>∃ k:Nat,k≤en∧iv=.int .i64 k∧Hold Zb none w wr [.ro (ExsIn d eA en el),.cst gs 49 #[.string snm,.slice cA cn cc],.cst gx 97 #[.int .i64 kind,.string tab,.slice (some ⟨b,o,none⟩) rn rc,.slice qA qn qc,.slice sA sn sc,.slice hA hn hc,.string text],.ro (AcIn d ⟨kind,tab,⟨some ⟨b,o,none⟩,rn,rc,rl⟩,⟨qA,qn,qc,ql⟩,⟨sA,sn,sc,sl⟩,⟨hA,hn,hc,hl⟩,text⟩),.ro (SlR 4 cA cn (Zd cl)),.ro (FrsIn ⟨fA,fn,fc,fl⟩),.ro (TesIn tA tn tl)]) (fun iv _=>en - (intOf iv).toNat)
    case atStart=>exact ⟨0,by omega,rfl,K1⟩
    case round=>
     clear K1
     obtain ⟨k,hk,rfl,H⟩:=hrel
     by_cases hlt2:k<en
     ·obtain ⟨y,hy⟩:=Yg HEL.out hlt2
      obtain ⟨qb,qo,rfl,hb,hc,-⟩:=(H.ro 0 rfl).now.at_ hy
      have hm:=List.mem_of_getElem? hy
      have x0:=hc 0 _ (by omega) rfl
      have x1:=hc 1 _ (by omega) rfl
      have x2:=hc 2 _ (by omega) rfl
      have x3:=hc 3 _ (by omega) rfl
      have x4:=hc 4 _ (by omega) rfl
      have x5:=hc 5 _ (by omega) rfl
      have x6:=hc 6 _ (by omega) rfl
      have x7:=hc 7 _ (by omega) rfl
      have x8:=hc 8 _ (by omega) rfl
      have x9:=hc 9 _ (by omega) rfl
      simp only [Nat.add_zero] at x0 x1 x2 x3 x4 x5 x6 x7 x8 x9
      clear hc hy
      have hkc:k<cn:=by rw [←HEC.out];exact hlt2
      obtain ⟨⟨xnm,xty,xnn,xkey⟩,hcx⟩:=YC HCL.out hkc
      obtain ⟨b2,o2,rfl,hb2,-,-,-,-⟩:=(RdC.Zw (H.ro 4 rfl).now).at_ hcx
      have HTYC:=hid (show ∀ wv:World,SlR 4 (some ⟨b2,o2,none⟩) cn (Zd cl) wv→wv.cell? ⟨b2,o2+k * 4+1,none⟩=some (.int .i64 xty) from fun wv h=>by
       obtain ⟨b3,o3,e3,-,-,h1,-,-⟩:=(RdC.Zw h).at_ hcx
       obtain ⟨rfl,rfl⟩:=WO e3
       exact h1)
      clear hcx
      have K3:=H.Za #[.int .i64 y.kind,.int .i64 y.op,.bool y.nt,.int .i64 y.v.k,.int .i64 y.v.i,.string y.v.s,.string y.tab,.string y.nm,.slice y.A y.n y.c,.slice y.B y.m y.d] 126
      have F3:=K3.facts
      simp only [zg] at F3
      clear H
      go_wp2_with fail
      refine (Va d y fA fn fc fl tA tn tc tl _ (((K3.ro 1 rfl).imp fun w2 h2=>h2.2 y hm).less zn) ((HRG.out _ hml).1 y hm) ((K3.ro 6 rfl).less zn) ((K3.ro 7 rfl).less zn) ⟨by have:=HFB.out.1;omega,HFB.out.2⟩ HTB.out).mono ?_
      rintro e w4 ⟨t,cd,rfl,b4⟩
      have K4:=K3.call b4
      clear K3 F3 b4 x0 x1 x2 x3 x4 x5 x6 x7 x8 x9
      have F4:=K4.facts
      simp only [zg] at F4
      have y1:=HTYC.out _ (K4.ro 5 rfl).now
      have hki:(k:Int)<(cn:Int):=by omega
      obtain ⟨z,hz⟩:∃ z:Bool,(cd !=0)=z:=⟨_,rfl⟩
      cases z
      ·go_wp2_with fail
       refine (UN _ _ _).mono ?_
       rintro e w5 ⟨r,rfl,b5⟩
       have K5:=K4.call b5
       clear K4 F4 b5 y1
       cases r
       ·go_wp2_with fail
        go_ret
        exact ⟨_,rfl,K5.below⟩
       ·go_wp2_with fail
        go_roundw
        case rel=>exact ⟨k+1,by omega,by go_num,K5.drop (List.sublist_cons_self _ _)⟩
        case measure=>simp [intOf];omega
      ·go_wp2_with fail
       go_ret
       exact ⟨_,rfl,K4.below⟩
     ·obtain rfl:en=k:=by omega
      go_wp2_with fail
      go_roundw
      case rel=>exact ⟨j+1,by omega,by go_num,H.drop (List.sublist_cons_self _ _)⟩
      case measure=>simp [intOf];omega
  ·obtain rfl:rn=j:=by omega
   have F0:=H.facts
   simp only [zg] at F0
   go_wp2_with fail
   clear F0
   go_loopw [65] (fun iv wr=>∃ j:Nat,j≤qn∧iv=.int .i64 j∧Hold Zb none w wr [.cst gs 49 #[.string snm,.slice cA cn cc],.cst gx 97 #[.int .i64 kind,.string tab,.slice rA rn rc,.slice qA qn qc,.slice sA sn sc,.slice hA hn hc,.string text],.ro (AcIn d ⟨kind,tab,⟨rA,rn,rc,rl⟩,⟨qA,qn,qc,ql⟩,⟨sA,sn,sc,sl⟩,⟨hA,hn,hc,hl⟩,text⟩),.ro (SlR 4 cA cn (Zd cl)),.ro (FrsIn ⟨fA,fn,fc,fl⟩),.ro (TesIn tA tn tl)]) (fun iv _=>qn - (intOf iv).toNat)
   case atStart=>exact ⟨0,by omega,rfl,H⟩
   case round=>
    clear H
    obtain ⟨j,hj,rfl,H⟩:=hrel
    by_cases hlt:j<qn
    ·obtain ⟨⟨star,iA,inn,ic,il,src,wA,wn,wc,wl⟩,hq⟩:=Yg HQN.out hlt
     obtain ⟨b9,o9,rfl,-,hc9,hin9⟩:=SlP.In.at_ (s:=⟨qA,qn,qc,ql⟩) (k:=4) (cel:=Qu.cells) (P:=QuIn d) (H.ro 2 rfl).now.2.1 (by omega) (fun _=>rfl) hq
     have q0:=hc9 0 _ (by omega) rfl
     have q1:=hc9 1 _ (by omega) rfl
     have q2:=hc9 2 _ (by omega) rfl
     have q3:=hc9 3 _ (by omega) rfl
     simp only [Nat.add_zero] at q0 q1 q2 q3
     have hmq:=List.mem_of_getElem? hq
     clear hc9 hin9 hq
     have K1:=H.Za #[.bool star,.slice iA inn ic,.string src,.slice wA wn wc] 273
     have F1:=K1.facts
     simp only [zg] at F1
     clear H
     go_wp2_with fail
     refine (Zci d (Mut Zb _) _ K1.Zc ⟨star,iA,inn,ic,il,src,wA,wn,wc,wl⟩ fA fn fc fl tA tn tc tl ((K1.ro 3 rfl).imp fun w2 h2=>h2.2.1.2 _ hmq) (HQG.out _ hmq) (K1.ro 5 rfl) (K1.ro 6 rfl) HFB.out HTB.out).mono ?_
     rintro e w4 ⟨yA,yn,yc,yl,cd,rfl,hyn,ry,b4⟩
     have K4:=(K1.call b4).add ry
     clear K1 F1 b4 ry q0 q1 q2 q3
     have F4:=K4.facts
     simp only [zg] at F4
     obtain ⟨z,hz⟩:∃ z:Bool,(cd !=0)=z:=⟨_,rfl⟩
     cases z
     ·obtain ⟨z2,hz2⟩:∃ z:Bool,(yn==cn)=z:=⟨_,rfl⟩
      cases z2
      ·have hzi:((yn:Int) !=(cn:Int))=true:=by simp at hz2 ⊢;omega
       clear hz2
       go_wp2_with fail
       go_ret
       exact ⟨_,rfl,K4.below⟩
      ·have hzi:((yn:Int) !=(cn:Int))=false:=by simp at hz2 ⊢;omega
       have HEC:=hid (show yn=cn by simpa using hz2)
       clear hz2
       go_wp2_with fail
       clear F4
       go_loopw [87] (fun iv wr=>∃ k:Nat,k≤yn∧iv=.int .i64 k∧Hold Zb none w wr [.ro (SlR 1 yA yn (tyC yl)),.cst gs 49 #[.string snm,.slice cA cn cc],.cst gx 97 #[.int .i64 kind,.string tab,.slice rA rn rc,.slice (some ⟨b9,o9,none⟩) qn qc,.slice sA sn sc,.slice hA hn hc,.string text],.ro (AcIn d ⟨kind,tab,⟨rA,rn,rc,rl⟩,⟨some ⟨b9,o9,none⟩,qn,qc,ql⟩,⟨sA,sn,sc,sl⟩,⟨hA,hn,hc,hl⟩,text⟩),.ro (SlR 4 cA cn (Zd cl)),.ro (FrsIn ⟨fA,fn,fc,fl⟩),.ro (TesIn tA tn tl)]) (fun iv _=>yn - (intOf iv).toNat)
       case atStart=>exact ⟨0,by omega,rfl,K4.pick [0,2,3,4,5,6,7] (by decide) rfl⟩
       case round=>
        clear K4
        obtain ⟨k,hk,rfl,H⟩:=hrel
        by_cases hlt2:k<yn
        ·obtain ⟨b3,o3,e3,-,hc3⟩:=(show Rd _ _ 1 yA yn (tyC yl) from (H.ro 0 rfl).now).2 (by omega)
         subst e3
         have hyl:yl.length=yn:=by
          have:=(show Rd _ _ 1 (some ⟨b3,o3,none⟩) yn (tyC yl) from (H.ro 0 rfl).now).1
          rw [Gq] at this
          omega
         have y0:=hc3 k (.int .i64 (yl[k]'(by omega))) (by simp [tyC,List.getElem?_eq_getElem (show k<yl.length by omega)])
         generalize yl[k]'(by omega)=t at y0
         have hkc:k<cn:=by rw [←HEC.out];exact hlt2
         obtain ⟨⟨xnm,xty,xnn,xkey⟩,hcx⟩:=YC HCL.out hkc
         obtain ⟨b2,o2,rfl,hb2,-,y1,-,-⟩:=(RdC.Zw (H.ro 4 rfl).now).at_ hcx
         simp only at y1
         have hki:(k:Int)<(cn:Int):=by omega
         clear hc3 hyl hcx
         have F4:=H.facts
         simp only [zg] at F4
         go_wp2_with fail
         refine (UN _ _ _).mono ?_
         rintro e w5 ⟨r,rfl,b5⟩
         have K5:=H.call b5
         clear H F4 b5 y0 y1
         cases r
         ·go_wp2_with fail
          go_ret
          exact ⟨_,rfl,K5.below⟩
         ·go_wp2_with fail
          go_roundw
          case rel=>exact ⟨k+1,by omega,by go_num,K5⟩
          case measure=>simp [intOf];omega
        ·obtain rfl:yn=k:=by omega
         go_wp2_with fail
         go_roundw
         case rel=>exact ⟨j+1,by omega,by go_num,H.drop (List.sublist_cons_self _ _)⟩
         case measure=>simp [intOf];omega
     ·go_wp2_with fail
      go_ret
      exact ⟨_,rfl,K4.below⟩
    ·obtain rfl:qn=j:=by omega
     go_wp2_with fail
     go_ret
     exact ⟨_,rfl,H.below⟩
set_option maxHeartbeats 16000000 in
set_option maxRecDepth 100000 in
theorem Zb6 (d:Nat) (a:Ac) (fA:Option Addr) (fn fc:Nat) (fl:List Fr) (tA:Option Addr) (tn tc:Nat) (tl:List Te) (w:World) (hx:Ro w Zb (AcIn d a)) (hg:AcGd d a) (hf:Ro w Zb (FrsIn ⟨fA,fn,fc,fl⟩)) (ht:Ro w Zb (TesIn tA tn tl)) (hfb:FB (d+1) fn fl) (htb:TBd tn tl):Calls Tryz.prog 167 #[.agg #[.int .i64 a.kind,.string a.tab,.slice a.rows.A a.rows.n a.rows.c,.slice a.qs.A a.qs.n a.qs.c,.slice a.sets.A a.sets.n a.sets.c,.slice a.wh.A a.wh.n a.wh.c,.string a.text],.slice fA fn fc,.slice tA tn tc] w fun e w' =>V6 w e w' :=by
 obtain ⟨kind,tab,⟨rA,rn,rc,rl⟩,⟨qA,qn,qc,ql⟩,⟨sA,sn,sc,sl⟩,⟨hA,hn,hc,hl⟩,text⟩:=a
 have HSL:=hid (show sl.length=sn from SlP.In.len (s:=⟨sA,sn,sc,sl⟩) (k:=11) (cel:=Se.cells) (P:=ZY d) hx.now.2.2.1 (by omega) (fun _=>rfl))
 have hsn8:sn≤8:=by have h:sl.length≤8:=hg.s.2.1;have:=HSL.out;omega
 have HG:=hid hg
 have HFB:=hid hfb
 have HTB:=hid htb
 have hfn:fn≤1000:=by have:=hfb.1;omega
 have K0:=((((Hold.start Zb w zn).add (ht.less (by simp [Mut]))).add (hf.less (by simp [Mut,Hp.foot]))).add (hx.less (by simp [Mut,Hp.foot]))).Za #[.int .i64 kind,.string tab,.slice rA rn rc,.slice qA qn qc,.slice sA sn sc,.slice hA hn hc,.string text] 97
 obtain ⟨gx,hgx⟩:∃ g,g=w.heap.size:=⟨_,rfl⟩
 rw [←hgx] at K0
 clear hx hg hf ht hfb htb
 go_enter Tryz.func167,Tryz.ntmps167
 go_upto_region 1 with fail
 rw [←hgx]
 have HGX:=hid hgx
 clear hgx
 generalize World.alloc _ _=w1 at K0 ⊢
 have F0:=K0.facts
 simp only [zg] at F0
 go_wp2_with fail
 clear F0
 refine (ZdK d ⟨kind,tab,⟨rA,rn,rc,rl⟩,⟨qA,qn,qc,ql⟩,⟨sA,sn,sc,sl⟩,⟨hA,hn,hc,hl⟩,text⟩ _ ((K0.ro 1 rfl).less zn) HG.out).mono ?_
 rintro e w2 ⟨r,rfl,b2⟩
 have K1:=K0.call b2
 clear K0 b2
 have F1:=K1.facts
 simp only [zg] at F1
 cases r
 ·go_wp2_with fail
  go_ret
  exact ⟨_,rfl,K1.below⟩
 ·go_wp2_with fail
  clear F1
  refine (VN (Mut Zb _) _ K1.Zc tA tn tc tl tab (K1.ro 3 rfl) HTB.out.1 HTB.out.2).mono ?_
  rintro e w3 ⟨⟨snm,⟨cA,cn,cc,cl⟩⟩,ok,rfl,hcn,hsc,rs,b3⟩
  have hcn:cn≤1000:=hcn
  have K2:=((K1.call b3).add (rs.imp (S' :=SlR 4 cA cn (Zd cl)) fun w2 h2=>h2.1)).Za #[.string snm,.slice cA cn cc] 49
  have HCL:=hid (show cl.length=cn from (RdC.Zw (show SlR 4 cA cn (Zd cl) _ from rs.now.1)).len)
  obtain ⟨gs,hgs⟩:∃ g,g=w3.heap.size:=⟨_,rfl⟩
  rw [←hgs] at K2
  have RS:=hid rs
  clear K1 b3 rs
  have F2:=K2.facts
  simp only [zg] at F2
  rw [hgs] at F2
  cases ok
  ·have HB:=hid K2.below
   go_wp2_with fail
   go_ret
   exact ⟨_,rfl,HB.out⟩
  ·obtain ⟨d1,hd1⟩:∃ z:Bool,(kind==1)=z:=⟨_,rfl⟩
   go_upto_region 6 with fail
   rw [←hgs] at F2 ⊢
   have HGS:=hid hgs
   have KS:=hid (K2.add (S:=ZK ⟨snm,⟨cA,cn,cc,cl⟩⟩) ((K2.ro 1 rfl).imp fun w2 h2=>⟨h2,fun _ _=>trivial⟩))
   clear hgs RS K2
   generalize World.alloc _ _=w4 at KS F2 ⊢
   have K2:=KS.out
   clear KS
   cases d1
   ·go_wp2_with fail
    clear F2 hd1
    refine (Ja (Mut Zb _) _ K2.Zc fA fn fc fl ⟨snm,⟨cA,cn,cc,cl⟩⟩ (K2.ro 5 rfl) (K2.ro 0 rfl) hfn).mono ?_
    rintro e w5 ⟨IA,ic,rfl,ri,b5⟩
    have K3:=((K2.call b5).add ri)
    clear K2 ri b5
    have HIB:=hid (show FB d (fn+1) (fl++[(⟨snm,false,⟨cA,cn,cc,cl⟩,SlP.nil⟩:Fr)]) from ⟨by have:=HFB.out.1;omega,fun f hf=>by
     rcases List.mem_append.1 hf with hf|hf
     ·exact HFB.out.2 f hf
     ·simp only [List.mem_cons,List.not_mem_nil,or_false] at hf
      subst hf
      exact hcn⟩)
    have F3:=K3.facts
    simp only [zg] at F3
    go_wp2_with fail
    clear F3
    go_loopw [41] (fun iv wr=>∃ j:Nat,j≤sn∧iv=.int .i64 j∧Hold Zb none w wr [.ro (FrsIn ⟨IA,fn+1,ic,fl++[⟨snm,false,⟨cA,cn,cc,cl⟩,SlP.nil⟩]⟩),.cst gs 49 #[.string snm,.slice cA cn cc],.ro (SlR 4 cA cn (Zd cl)),.cst gx 97 #[.int .i64 kind,.string tab,.slice rA rn rc,.slice qA qn qc,.slice sA sn sc,.slice hA hn hc,.string text],.ro (AcIn d ⟨kind,tab,⟨rA,rn,rc,rl⟩,⟨qA,qn,qc,ql⟩,⟨sA,sn,sc,sl⟩,⟨hA,hn,hc,hl⟩,text⟩),.ro (TesIn tA tn tl)]) (fun iv _=>sn - (intOf iv).toNat)
    case atStart=>exact ⟨0,by omega,rfl,K3.pick [0,2,3,4,5,7] (by decide) rfl⟩
    case round=>
     clear K3
     obtain ⟨j,hj,rfl,H⟩:=hrel
     by_cases hlt:j<sn
     ·obtain ⟨⟨zc,y⟩,hz⟩:=Yg HSL.out hlt
      obtain ⟨qb,qo,rfl,hb,hc,-⟩:=SlP.In.at_ (s:=⟨sA,sn,sc,sl⟩) (k:=11) (cel:=Se.cells) (P:=ZY d) (H.ro 4 rfl).now.2.2.1 (by omega) (fun _=>rfl) hz
      have hm:=List.mem_of_getElem? hz
      have x0:=hc 0 _ (by omega) rfl
      have x1:=hc 1 _ (by omega) rfl
      have x2:=hc 2 _ (by omega) rfl
      have x3:=hc 3 _ (by omega) rfl
      have x4:=hc 4 _ (by omega) rfl
      have x5:=hc 5 _ (by omega) rfl
      have x6:=hc 6 _ (by omega) rfl
      have x7:=hc 7 _ (by omega) rfl
      have x8:=hc 8 _ (by omega) rfl
      have x9:=hc 9 _ (by omega) rfl
      have x10:=hc 10 _ (by omega) rfl
      simp only [Nat.add_zero] at x0 x1 x2 x3 x4 x5 x6 x7 x8 x9 x10
      clear hc hz
      have K3:=H.Za #[.string zc,.int .i64 y.kind,.int .i64 y.op,.bool y.nt,.int .i64 y.v.k,.int .i64 y.v.i,.string y.v.s,.string y.tab,.string y.nm,.slice y.A y.n y.c,.slice y.B y.m y.d] 128
      obtain ⟨gz,hgz⟩:∃ g,g=wr.heap.size:=⟨_,rfl⟩
      rw [←hgz] at K3
      clear H
      go_upto_region 12 with fail
      rw [←hgz]
      have HGZ:=hid hgz
      clear hgz x0 x1 x2 x3 x4 x5 x6 x7 x8 x9 x10
      generalize World.alloc _ _=w6 at K3 ⊢
      have F3:=K3.facts
      simp only [zg] at F3
      go_wp2_with fail
      clear F3
      refine (Xz (Mut Zb _) _ K3.Zc snm cA cn cc cl zc (K3.ro 3 rfl) (by omega)).mono ?_
      rintro e w7 ⟨rfl,b7⟩
      have K4:=K3.call b7
      clear K3 b7
      have F4:=K4.facts
      simp only [zg] at F4
      have hfl:=Qx (named zc) cl
      rw [HCL.out] at hfl
      obtain ⟨kf,hkf⟩:∃ z:Int,Zr (named zc) cl=z:=⟨_,rfl⟩
      rw [hkf] at hfl ⊢
      clear hkf
      by_cases hneg:kf<0
      ·clear hfl
       go_wp2_with fail
       go_ret
       exact ⟨_,rfl,K4.below⟩
      ·obtain ⟨kk,rfl⟩:∃ k:Nat,kf=(k:Int):=⟨kf.toNat,by omega⟩
       have hkk:kk<cn:=by have:=hfl (by omega);omega
       have hneg' :¬((kk:Int)<0):=by omega
       have hki:(kk:Int)<(cn:Int):=by omega
       clear hfl hneg
       go_wp2_with fail
       clear F4
       refine (Va d y IA (fn+1) ic (fl++[⟨snm,false,⟨cA,cn,cc,cl⟩,SlP.nil⟩]) tA tn tc tl _ (((K4.ro 5 rfl).imp fun w2 h2=>h2.2.2.1.2 _ hm).less zn) (HG.out.s.2.2 _ hm) ((K4.ro 1 rfl).less zn) ((K4.ro 6 rfl).less zn) HIB.out HTB.out).mono ?_
       rintro e w8 ⟨t,cd,rfl,b8⟩
       have K5:=K4.call b8
       clear K4 b8
       have F5:=K5.facts
       simp only [zg] at F5
       obtain ⟨⟨xnm,xty,xnn,xkey⟩,hcx⟩:=YC HCL.out hkk
       obtain ⟨b2,o2,rfl,hb2,-,y1,-,-⟩:=(RdC.Zw (K5.ro 3 rfl).now).at_ hcx
       simp only at y1
       clear hcx
       obtain ⟨z,hz⟩:∃ z:Bool,(cd !=0)=z:=⟨_,rfl⟩
       cases z
       ·go_wp2_with fail
        refine (UN _ _ _).mono ?_
        rintro e w9 ⟨r,rfl,b9⟩
        have K6:=K5.call b9
        clear K5 F5 b9 y1
        cases r
        ·go_wp2_with fail
         go_ret
         exact ⟨_,rfl,K6.below⟩
        ·go_wp2_with fail
         go_roundw
         case rel=>exact ⟨j+1,by omega,by go_num,K6.drop (List.sublist_cons_self _ _)⟩
         case measure=>simp [intOf];omega
       ·go_wp2_with fail
        go_ret
        exact ⟨_,rfl,K5.below⟩
     ·obtain rfl:sn=j:=by omega
      have F4:=H.facts
      simp only [zg] at F4
      go_wp2_with fail
      clear F4
      refine (Jh d hA hn hc hl IA (fn+1) ic (fl++[⟨snm,false,⟨cA,cn,cc,cl⟩,SlP.nil⟩]) tA tn tc tl _ (((H.ro 4 rfl).imp fun w2 h2=>(show ExsIn d hA hn hl w2 from h2.2.2.2)).less zn) HG.out.h.2.2 ((H.ro 0 rfl).less zn) ((H.ro 5 rfl).less zn) HIB.out HTB.out).mono ?_
      rintro e w4 ⟨cd,rfl,b4⟩
      have K4:=H.call b4
      clear H b4
      go_wp2_with fail
      go_ret
      exact ⟨_,rfl,K4.below⟩
   ·go_wp2_with fail
    clear F2 hd1
    refine (Zb4 d ⟨kind,tab,⟨rA,rn,rc,rl⟩,⟨qA,qn,qc,ql⟩,⟨sA,sn,sc,sl⟩,⟨hA,hn,hc,hl⟩,text⟩ ⟨snm,⟨cA,cn,cc,cl⟩⟩ fA fn fc fl tA tn tc tl _ ((K2.ro 4 rfl).less zn) HG.out ((K2.ro 0 rfl).less zn) ((K2.ro 5 rfl).less zn) ((K2.ro 6 rfl).less zn) hcn HFB.out HTB.out).mono ?_
    rintro e w5 ⟨cd,rfl,b5⟩
    have K3:=K2.call b5
    clear K2 b5
    go_wp2_with fail
    go_ret
    exact ⟨_,rfl,K3.below⟩
end Go.Proofs.YtnbbllkbefagmaaGreatDoor

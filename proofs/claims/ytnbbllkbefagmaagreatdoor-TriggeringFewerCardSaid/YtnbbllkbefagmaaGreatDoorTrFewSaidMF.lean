/- RValid: the contract of Valid, of order's reference. -/
import Derived.Test.YtnbbllkbefagmaaGreatDoorTrFewSaidME
import Derived.Test.YtnbbllkbefagmaaGreatDoorTrFewSaidMD
import Derived.Deep.CutRange
import Derived.Test.YtnbbllkbefagmaaGreatDoorTrFewSaidMB
import Derived.Test.YtnbbllkbefagmaaGreatDoorTrFewSaidMA
import Derived.Test.YtnbbllkbefagmaaGreatDoorTrFewSaidMC
import Derived.Shelf.Small.Strs
import Derived.Ground.NamesProg
import Derived.IntWalk
import Derived.WalkSpells
import Derived.Deep.QuietTactic
import Derived.BigQuiet
import Derived.WalkLawsBesides
import Derived.StillTailTactics
import Derived.Deep.LoopGhost
namespace Go.Proofs.YtnbbllkbefagmaaGreatDoor
open Go.RowKit
set_option linter.unusedVariables false
set_option linter.unusedSimpArgs false
set_option maxHeartbeats 16000000 in
set_option maxRecDepth 100000 in
theorem vaction3 (d : Nat) (tab : ByteArray) (rA : Option Addr) (rn rc : Nat) (rl : List (SlP Ex)) (qA : Option Addr) (qn qc : Nat) (ql : List Qu) (sA : Option Addr) (sn sc : Nat) (sl : List Se) (hA : Option Addr) (hn hc : Nat) (hl : List Ex) (text : ByteArray) (w : World) (hx : Ro w None_ (AcIn d ⟨3, tab, ⟨rA, rn, rc, rl⟩, ⟨qA, qn, qc, ql⟩, ⟨sA, sn, sc, sl⟩, ⟨hA, hn, hc, hl⟩, text⟩)) (hg : AcGd d ⟨3, tab, ⟨rA, rn, rc, rl⟩, ⟨qA, qn, qc, ql⟩, ⟨sA, sn, sc, sl⟩, ⟨hA, hn, hc, hl⟩, text⟩) : Calls Tryz.prog 163 #[.agg #[.int .i64 3, .string tab, .slice rA rn rc, .slice qA qn qc, .slice sA sn sc, .slice hA hn hc, .string text]] w fun e w' => ActRet 3 sn w e w' := by
 have HHN := hid (show hn ≤ 1000 from by
  have h : hl.length = hn := ExsIn.len (show ExsIn d hA hn hl w from hx.now.2.2.2)
  have h2 : hl.length ≤ 1 := hg.h.2.1
  omega)
 have HSN := hid (show sn ≤ 1000 from by
  have h : sl.length = sn := SlP.In.len (s := ⟨sA, sn, sc, sl⟩) (k := 11) (cel := Se.cells) (P := SeIn d) hx.now.2.2.1 (by omega) (fun _ => rfl)
  have h2 : sl.length ≤ 8 := hg.s.2.1
  omega)
 have HRQ := hid (show rn ≤ 8 ∧ qn ≤ 1 from by
  have h1 : rl.length = rn := SlP.In.len (s := ⟨rA, rn, rc, rl⟩) (k := 1) (cel := fun r : SlP Ex => [r.v]) (P := fun r w => r.In 10 Ex.cells (ExIn d) w) hx.now.1 (by omega) (fun _ => rfl)
  have h2 : ql.length = qn := SlP.In.len (s := ⟨qA, qn, qc, ql⟩) (k := 4) (cel := Qu.cells) (P := QuIn d) hx.now.2.1 (by omega) (fun _ => rfl)
  have h3 : rl.length ≤ 8 := hg.r.2.1
  have h4 : ql.length ≤ 1 := hg.q.2.1
  omega)
 have HG := hid hg
 have K0 := ((Hold.start None_ w zn).add (hx.less (by simp [Mut]))).alloc_cst #[.int .i64 3, .string tab, .slice rA rn rc, .slice qA qn qc, .slice sA sn sc, .slice hA hn hc, .string text] 97
 obtain ⟨gx, hgx⟩ : ∃ g, g = w.heap.size := ⟨_, rfl⟩
 rw [← hgx] at K0
 have F0 := K0.facts
 simp only [factsL, cellsF, Nat.reduceAdd, zf, zl] at F0
 rw [hgx] at F0
 clear hx hg
 go_enter Tryz.func163, Tryz.ntmps163
 go_upto_region 1 with fail
 rw [← hgx] at F0 ⊢
 have HGX := hid hgx
 clear hgx
 generalize World.alloc _ _ = w1 at K0 F0 ⊢
 have HW := hid (fun (wv : World) (h : Hold None_ none w wv [.cst gx 97 #[.int .i64 3, .string tab, .slice rA rn rc, .slice qA qn qc, .slice sA sn sc, .slice hA hn hc, .string text], .ro (AcIn d ⟨3, tab, ⟨rA, rn, rc, rl⟩, ⟨qA, qn, qc, ql⟩, ⟨sA, sn, sc, sl⟩, ⟨hA, hn, hc, hl⟩, text⟩)]) => va_all d hA hn hc hl wv (((h.ro 1 rfl).imp fun w2 h2 => (show ExsIn d hA hn hl w2 from h2.2.2.2)).less zn) HG.out.h.2.2 HHN.out)
 have HI := hid (fun (wv : World) (h : Hold None_ none w wv [.cst gx 97 #[.int .i64 3, .string tab, .slice rA rn rc, .slice qA qn qc, .slice sA sn sc, .slice hA hn hc, .string text], .ro (AcIn d ⟨3, tab, ⟨rA, rn, rc, rl⟩, ⟨qA, qn, qc, ql⟩, ⟨sA, sn, sc, sl⟩, ⟨hA, hn, hc, hl⟩, text⟩)]) => vinsert_ret d ⟨3, tab, ⟨rA, rn, rc, rl⟩, ⟨qA, qn, qc, ql⟩, ⟨sA, sn, sc, sl⟩, ⟨hA, hn, hc, hl⟩, text⟩ wv ((h.ro 1 rfl).less zn) HG.out)
 have HS := hid (fun (wv : World) (h : Hold None_ none w wv [.cst gx 97 #[.int .i64 3, .string tab, .slice rA rn rc, .slice qA qn qc, .slice sA sn sc, .slice hA hn hc, .string text], .ro (AcIn d ⟨3, tab, ⟨rA, rn, rc, rl⟩, ⟨qA, qn, qc, ql⟩, ⟨sA, sn, sc, sl⟩, ⟨hA, hn, hc, hl⟩, text⟩)]) => vsets_ret d ⟨sA, sn, sc, sl⟩ wv (((h.ro 1 rfl).imp fun w2 h2 => h2.2.2.1).less zn) HG.out.s.2.2 HSN.out HG.out.s.1.1)
 go_cut [35] (fun v wx => ∃ bb : Bool, v = .bool bb ∧ Hold None_ none w wx [.cst gx 97 #[.int .i64 3, .string tab, .slice rA rn rc, .slice qA qn qc, .slice sA sn sc, .slice hA hn hc, .string text], .ro (AcIn d ⟨3, tab, ⟨rA, rn, rc, rl⟩, ⟨qA, qn, qc, ql⟩, ⟨sA, sn, sc, sl⟩, ⟨hA, hn, hc, hl⟩, text⟩)])
 case first =>
  have hw0 : IntKind.i64.wrap ((rn : Int) + (qn : Int)) = (rn : Int) + (qn : Int) := IntWalk.i64_in _ (by have := HRQ.out; omega)
  obtain ⟨cr, hcr⟩ : ∃ z : Bool, decide ((0 : Int) < (rn : Int) + (qn : Int)) = z := ⟨_, rfl⟩
  obtain ⟨cs, hcs⟩ : ∃ z : Bool, decide ((0 : Int) < (sn : Int)) = z := ⟨_, rfl⟩
  have hcs2 : decide (0 < sn) = cs := by rw [← hcs]; simp
  obtain ⟨ch, hch⟩ : ∃ z : Bool, decide ((0 : Int) < (hn : Int)) = z := ⟨_, rfl⟩
  have hch2 : decide (0 < hn) = ch := by rw [← hch]; simp
  go_wp2_with (first
    | (go_at_call 160; go_must (refine (rvalidname_ret _ _).mono ?_); rintro e w1 ⟨r, rfl, b1⟩; replace K0 := K0.call b1; replace F0 := K0.facts; simp only [factsL, cellsF, Nat.reduceAdd, zf, zl] at F0; clear b1)
    | (go_at_call 182; go_must (refine (rvalid_ret _ _ _ _).mono ?_); rintro e w1 ⟨r, rfl, b1⟩; replace K0 := K0.call b1; replace F0 := K0.facts; simp only [factsL, cellsF, Nat.reduceAdd, zf, zl] at F0; clear b1)
    | (go_at_call 162; go_must (refine (HW.out _ K0).mono ?_); rintro e w1 ⟨r, rfl, b1⟩; replace K0 := K0.call b1; replace F0 := K0.facts; simp only [factsL, cellsF, Nat.reduceAdd, zf, zl] at F0; clear b1)
    | (go_at_call 208; go_must (refine (HI.out _ K0).mono ?_); rintro e w1 ⟨r, rfl, b1⟩; replace K0 := K0.call b1; replace F0 := K0.facts; simp only [factsL, cellsF, Nat.reduceAdd, zf, zl] at F0; clear b1)
    | (go_at_call 209; go_must (refine (HS.out _ K0).mono ?_); rintro e w1 ⟨r, rfl, b1⟩; replace K0 := K0.call b1; replace F0 := K0.facts; simp only [factsL, cellsF, Nat.reduceAdd, zf, zl] at F0; clear b1))
  all_goals (go_meet; exact ⟨_, rfl, K0⟩)
 case rest =>
  obtain ⟨bb, rfl, K1⟩ := hcut
  clear K0 F0
  have K0 := K1
  clear K1
  have F0 := K0.facts
  simp only [factsL, cellsF, Nat.reduceAdd, zf, zl] at F0
  cases bb
  ·go_upto_region 3 with fail
   go_cut [80] (fun v wx => ∃ bb : Bool, v = .bool bb ∧ Hold None_ none w wx [.cst gx 97 #[.int .i64 3, .string tab, .slice rA rn rc, .slice qA qn qc, .slice sA sn sc, .slice hA hn hc, .string text], .ro (AcIn d ⟨3, tab, ⟨rA, rn, rc, rl⟩, ⟨qA, qn, qc, ql⟩, ⟨sA, sn, sc, sl⟩, ⟨hA, hn, hc, hl⟩, text⟩)])
   case first =>
    have hw0 : IntKind.i64.wrap ((rn : Int) + (qn : Int)) = (rn : Int) + (qn : Int) := IntWalk.i64_in _ (by have := HRQ.out; omega)
    obtain ⟨cr, hcr⟩ : ∃ z : Bool, decide ((0 : Int) < (rn : Int) + (qn : Int)) = z := ⟨_, rfl⟩
    obtain ⟨cs, hcs⟩ : ∃ z : Bool, decide ((0 : Int) < (sn : Int)) = z := ⟨_, rfl⟩
    have hcs2 : decide (0 < sn) = cs := by rw [← hcs]; simp
    obtain ⟨ch, hch⟩ : ∃ z : Bool, decide ((0 : Int) < (hn : Int)) = z := ⟨_, rfl⟩
    have hch2 : decide (0 < hn) = ch := by rw [← hch]; simp
    go_wp2_with (first
      | (go_at_call 160; go_must (refine (rvalidname_ret _ _).mono ?_); rintro e w1 ⟨r, rfl, b1⟩; replace K0 := K0.call b1; replace F0 := K0.facts; simp only [factsL, cellsF, Nat.reduceAdd, zf, zl] at F0; clear b1)
      | (go_at_call 182; go_must (refine (rvalid_ret _ _ _ _).mono ?_); rintro e w1 ⟨r, rfl, b1⟩; replace K0 := K0.call b1; replace F0 := K0.facts; simp only [factsL, cellsF, Nat.reduceAdd, zf, zl] at F0; clear b1)
      | (go_at_call 162; go_must (refine (HW.out _ K0).mono ?_); rintro e w1 ⟨r, rfl, b1⟩; replace K0 := K0.call b1; replace F0 := K0.facts; simp only [factsL, cellsF, Nat.reduceAdd, zf, zl] at F0; clear b1)
      | (go_at_call 208; go_must (refine (HI.out _ K0).mono ?_); rintro e w1 ⟨r, rfl, b1⟩; replace K0 := K0.call b1; replace F0 := K0.facts; simp only [factsL, cellsF, Nat.reduceAdd, zf, zl] at F0; clear b1)
      | (go_at_call 209; go_must (refine (HS.out _ K0).mono ?_); rintro e w1 ⟨r, rfl, b1⟩; replace K0 := K0.call b1; replace F0 := K0.facts; simp only [factsL, cellsF, Nat.reduceAdd, zf, zl] at F0; clear b1))
    all_goals (go_meet; exact ⟨_, rfl, K0⟩)
   case rest =>
    obtain ⟨bb, rfl, K1⟩ := hcut
    clear K0 F0
    have K0 := K1
    clear K1
    have F0 := K0.facts
    simp only [factsL, cellsF, Nat.reduceAdd, zf, zl] at F0
    cases bb
    ·go_upto_region 5 with fail
     go_cut [90] (fun v wx => ∃ bb : Bool, v = .bool bb ∧ Hold None_ none w wx [.cst gx 97 #[.int .i64 3, .string tab, .slice rA rn rc, .slice qA qn qc, .slice sA sn sc, .slice hA hn hc, .string text], .ro (AcIn d ⟨3, tab, ⟨rA, rn, rc, rl⟩, ⟨qA, qn, qc, ql⟩, ⟨sA, sn, sc, sl⟩, ⟨hA, hn, hc, hl⟩, text⟩)])
     case first =>
      have hw0 : IntKind.i64.wrap ((rn : Int) + (qn : Int)) = (rn : Int) + (qn : Int) := IntWalk.i64_in _ (by have := HRQ.out; omega)
      obtain ⟨cr, hcr⟩ : ∃ z : Bool, decide ((0 : Int) < (rn : Int) + (qn : Int)) = z := ⟨_, rfl⟩
      obtain ⟨cs, hcs⟩ : ∃ z : Bool, decide ((0 : Int) < (sn : Int)) = z := ⟨_, rfl⟩
      have hcs2 : decide (0 < sn) = cs := by rw [← hcs]; simp
      obtain ⟨ch, hch⟩ : ∃ z : Bool, decide ((0 : Int) < (hn : Int)) = z := ⟨_, rfl⟩
      have hch2 : decide (0 < hn) = ch := by rw [← hch]; simp
      go_wp2_with (first
        | (go_at_call 160; go_must (refine (rvalidname_ret _ _).mono ?_); rintro e w1 ⟨r, rfl, b1⟩; replace K0 := K0.call b1; replace F0 := K0.facts; simp only [factsL, cellsF, Nat.reduceAdd, zf, zl] at F0; clear b1)
        | (go_at_call 182; go_must (refine (rvalid_ret _ _ _ _).mono ?_); rintro e w1 ⟨r, rfl, b1⟩; replace K0 := K0.call b1; replace F0 := K0.facts; simp only [factsL, cellsF, Nat.reduceAdd, zf, zl] at F0; clear b1)
        | (go_at_call 162; go_must (refine (HW.out _ K0).mono ?_); rintro e w1 ⟨r, rfl, b1⟩; replace K0 := K0.call b1; replace F0 := K0.facts; simp only [factsL, cellsF, Nat.reduceAdd, zf, zl] at F0; clear b1)
        | (go_at_call 208; go_must (refine (HI.out _ K0).mono ?_); rintro e w1 ⟨r, rfl, b1⟩; replace K0 := K0.call b1; replace F0 := K0.facts; simp only [factsL, cellsF, Nat.reduceAdd, zf, zl] at F0; clear b1)
        | (go_at_call 209; go_must (refine (HS.out _ K0).mono ?_); rintro e w1 ⟨r, rfl, b1⟩; replace K0 := K0.call b1; replace F0 := K0.facts; simp only [factsL, cellsF, Nat.reduceAdd, zf, zl] at F0; clear b1))
      all_goals (go_meet; exact ⟨_, rfl, K0⟩)
     case rest =>
      obtain ⟨bb, rfl, K1⟩ := hcut
      clear K0 F0
      have K0 := K1
      clear K1
      have F0 := K0.facts
      simp only [factsL, cellsF, Nat.reduceAdd, zf, zl] at F0
      cases bb
      ·go_wp2_with (first
         | (go_at_call 160; go_must (refine (rvalidname_ret _ _).mono ?_); rintro e w1 ⟨r, rfl, b1⟩; replace K0 := K0.call b1; replace F0 := K0.facts; simp only [factsL, cellsF, Nat.reduceAdd, zf, zl] at F0; clear b1)
         | (go_at_call 182; go_must (refine (rvalid_ret _ _ _ _).mono ?_); rintro e w1 ⟨r, rfl, b1⟩; replace K0 := K0.call b1; replace F0 := K0.facts; simp only [factsL, cellsF, Nat.reduceAdd, zf, zl] at F0; clear b1)
         | (go_at_call 162; go_must (refine (HW.out _ K0).mono ?_); rintro e w1 ⟨r, rfl, b1⟩; replace K0 := K0.call b1; replace F0 := K0.facts; simp only [factsL, cellsF, Nat.reduceAdd, zf, zl] at F0; clear b1)
         | (go_at_call 208; go_must (refine (HI.out _ K0).mono ?_); rintro e w1 ⟨r, rfl, b1⟩; replace K0 := K0.call b1; replace F0 := K0.facts; simp only [factsL, cellsF, Nat.reduceAdd, zf, zl] at F0; clear b1)
         | (go_at_call 209; go_must (refine (HS.out _ K0).mono ?_); rintro e w1 ⟨r, rfl, b1⟩; replace K0 := K0.call b1; replace F0 := K0.facts; simp only [factsL, cellsF, Nat.reduceAdd, zf, zl] at F0; clear b1))
       all_goals (go_ret; exact ⟨_, rfl, K0.below, fun _ h => absurd h (by decide)⟩)
      ·go_wp2_with fail
       all_goals (go_ret; exact ⟨_, rfl, K0.below, fun _ h => absurd h (by decide)⟩)
    ·go_wp2_with fail
     all_goals (go_ret; exact ⟨_, rfl, K0.below, fun _ h => absurd h (by decide)⟩)
  ·go_wp2_with fail
   all_goals (go_ret; exact ⟨_, rfl, K0.below, fun _ h => absurd h (by decide)⟩)
end Go.Proofs.YtnbbllkbefagmaaGreatDoor

namespace Go.Proofs.YtnbbllkbefagmaaGreatDoor
open Go.RowKit
set_option linter.unusedVariables false
set_option linter.unusedSimpArgs false
set_option maxHeartbeats 16000000 in
set_option maxRecDepth 100000 in
theorem vaction4 (d : Nat) (tab : ByteArray) (rA : Option Addr) (rn rc : Nat) (rl : List (SlP Ex)) (qA : Option Addr) (qn qc : Nat) (ql : List Qu) (sA : Option Addr) (sn sc : Nat) (sl : List Se) (hA : Option Addr) (hn hc : Nat) (hl : List Ex) (text : ByteArray) (w : World) (hx : Ro w None_ (AcIn d ⟨4, tab, ⟨rA, rn, rc, rl⟩, ⟨qA, qn, qc, ql⟩, ⟨sA, sn, sc, sl⟩, ⟨hA, hn, hc, hl⟩, text⟩)) (hg : AcGd d ⟨4, tab, ⟨rA, rn, rc, rl⟩, ⟨qA, qn, qc, ql⟩, ⟨sA, sn, sc, sl⟩, ⟨hA, hn, hc, hl⟩, text⟩) : Calls Tryz.prog 163 #[.agg #[.int .i64 4, .string tab, .slice rA rn rc, .slice qA qn qc, .slice sA sn sc, .slice hA hn hc, .string text]] w fun e w' => ActRet 4 sn w e w' := by
 have HHN := hid (show hn ≤ 1000 from by
  have h : hl.length = hn := ExsIn.len (show ExsIn d hA hn hl w from hx.now.2.2.2)
  have h2 : hl.length ≤ 1 := hg.h.2.1
  omega)
 have HSN := hid (show sn ≤ 1000 from by
  have h : sl.length = sn := SlP.In.len (s := ⟨sA, sn, sc, sl⟩) (k := 11) (cel := Se.cells) (P := SeIn d) hx.now.2.2.1 (by omega) (fun _ => rfl)
  have h2 : sl.length ≤ 8 := hg.s.2.1
  omega)
 have HRQ := hid (show rn ≤ 8 ∧ qn ≤ 1 from by
  have h1 : rl.length = rn := SlP.In.len (s := ⟨rA, rn, rc, rl⟩) (k := 1) (cel := fun r : SlP Ex => [r.v]) (P := fun r w => r.In 10 Ex.cells (ExIn d) w) hx.now.1 (by omega) (fun _ => rfl)
  have h2 : ql.length = qn := SlP.In.len (s := ⟨qA, qn, qc, ql⟩) (k := 4) (cel := Qu.cells) (P := QuIn d) hx.now.2.1 (by omega) (fun _ => rfl)
  have h3 : rl.length ≤ 8 := hg.r.2.1
  have h4 : ql.length ≤ 1 := hg.q.2.1
  omega)
 have HG := hid hg
 have K0 := ((Hold.start None_ w zn).add (hx.less (by simp [Mut]))).alloc_cst #[.int .i64 4, .string tab, .slice rA rn rc, .slice qA qn qc, .slice sA sn sc, .slice hA hn hc, .string text] 97
 obtain ⟨gx, hgx⟩ : ∃ g, g = w.heap.size := ⟨_, rfl⟩
 rw [← hgx] at K0
 have F0 := K0.facts
 simp only [factsL, cellsF, Nat.reduceAdd, zf, zl] at F0
 rw [hgx] at F0
 clear hx hg
 go_enter Tryz.func163, Tryz.ntmps163
 go_upto_region 1 with fail
 rw [← hgx] at F0 ⊢
 have HGX := hid hgx
 clear hgx
 generalize World.alloc _ _ = w1 at K0 F0 ⊢
 have HW := hid (fun (wv : World) (h : Hold None_ none w wv [.cst gx 97 #[.int .i64 4, .string tab, .slice rA rn rc, .slice qA qn qc, .slice sA sn sc, .slice hA hn hc, .string text], .ro (AcIn d ⟨4, tab, ⟨rA, rn, rc, rl⟩, ⟨qA, qn, qc, ql⟩, ⟨sA, sn, sc, sl⟩, ⟨hA, hn, hc, hl⟩, text⟩)]) => va_all d hA hn hc hl wv (((h.ro 1 rfl).imp fun w2 h2 => (show ExsIn d hA hn hl w2 from h2.2.2.2)).less zn) HG.out.h.2.2 HHN.out)
 have HI := hid (fun (wv : World) (h : Hold None_ none w wv [.cst gx 97 #[.int .i64 4, .string tab, .slice rA rn rc, .slice qA qn qc, .slice sA sn sc, .slice hA hn hc, .string text], .ro (AcIn d ⟨4, tab, ⟨rA, rn, rc, rl⟩, ⟨qA, qn, qc, ql⟩, ⟨sA, sn, sc, sl⟩, ⟨hA, hn, hc, hl⟩, text⟩)]) => vinsert_ret d ⟨4, tab, ⟨rA, rn, rc, rl⟩, ⟨qA, qn, qc, ql⟩, ⟨sA, sn, sc, sl⟩, ⟨hA, hn, hc, hl⟩, text⟩ wv ((h.ro 1 rfl).less zn) HG.out)
 have HS := hid (fun (wv : World) (h : Hold None_ none w wv [.cst gx 97 #[.int .i64 4, .string tab, .slice rA rn rc, .slice qA qn qc, .slice sA sn sc, .slice hA hn hc, .string text], .ro (AcIn d ⟨4, tab, ⟨rA, rn, rc, rl⟩, ⟨qA, qn, qc, ql⟩, ⟨sA, sn, sc, sl⟩, ⟨hA, hn, hc, hl⟩, text⟩)]) => vsets_ret d ⟨sA, sn, sc, sl⟩ wv (((h.ro 1 rfl).imp fun w2 h2 => h2.2.2.1).less zn) HG.out.s.2.2 HSN.out HG.out.s.1.1)
 go_cut [35] (fun v wx => ∃ bb : Bool, v = .bool bb ∧ Hold None_ none w wx [.cst gx 97 #[.int .i64 4, .string tab, .slice rA rn rc, .slice qA qn qc, .slice sA sn sc, .slice hA hn hc, .string text], .ro (AcIn d ⟨4, tab, ⟨rA, rn, rc, rl⟩, ⟨qA, qn, qc, ql⟩, ⟨sA, sn, sc, sl⟩, ⟨hA, hn, hc, hl⟩, text⟩)])
 case first =>
  have hw0 : IntKind.i64.wrap ((rn : Int) + (qn : Int)) = (rn : Int) + (qn : Int) := IntWalk.i64_in _ (by have := HRQ.out; omega)
  obtain ⟨cr, hcr⟩ : ∃ z : Bool, decide ((0 : Int) < (rn : Int) + (qn : Int)) = z := ⟨_, rfl⟩
  obtain ⟨cs, hcs⟩ : ∃ z : Bool, decide ((0 : Int) < (sn : Int)) = z := ⟨_, rfl⟩
  have hcs2 : decide (0 < sn) = cs := by rw [← hcs]; simp
  obtain ⟨ch, hch⟩ : ∃ z : Bool, decide ((0 : Int) < (hn : Int)) = z := ⟨_, rfl⟩
  have hch2 : decide (0 < hn) = ch := by rw [← hch]; simp
  go_wp2_with (first
    | (go_at_call 160; go_must (refine (rvalidname_ret _ _).mono ?_); rintro e w1 ⟨r, rfl, b1⟩; replace K0 := K0.call b1; replace F0 := K0.facts; simp only [factsL, cellsF, Nat.reduceAdd, zf, zl] at F0; clear b1)
    | (go_at_call 182; go_must (refine (rvalid_ret _ _ _ _).mono ?_); rintro e w1 ⟨r, rfl, b1⟩; replace K0 := K0.call b1; replace F0 := K0.facts; simp only [factsL, cellsF, Nat.reduceAdd, zf, zl] at F0; clear b1)
    | (go_at_call 162; go_must (refine (HW.out _ K0).mono ?_); rintro e w1 ⟨r, rfl, b1⟩; replace K0 := K0.call b1; replace F0 := K0.facts; simp only [factsL, cellsF, Nat.reduceAdd, zf, zl] at F0; clear b1)
    | (go_at_call 208; go_must (refine (HI.out _ K0).mono ?_); rintro e w1 ⟨r, rfl, b1⟩; replace K0 := K0.call b1; replace F0 := K0.facts; simp only [factsL, cellsF, Nat.reduceAdd, zf, zl] at F0; clear b1)
    | (go_at_call 209; go_must (refine (HS.out _ K0).mono ?_); rintro e w1 ⟨r, rfl, b1⟩; replace K0 := K0.call b1; replace F0 := K0.facts; simp only [factsL, cellsF, Nat.reduceAdd, zf, zl] at F0; clear b1))
  all_goals (go_meet; exact ⟨_, rfl, K0⟩)
 case rest =>
  obtain ⟨bb, rfl, K1⟩ := hcut
  clear K0 F0
  have K0 := K1
  clear K1
  have F0 := K0.facts
  simp only [factsL, cellsF, Nat.reduceAdd, zf, zl] at F0
  cases bb
  ·go_upto_region 3 with fail
   go_cut [80] (fun v wx => ∃ bb : Bool, v = .bool bb ∧ Hold None_ none w wx [.cst gx 97 #[.int .i64 4, .string tab, .slice rA rn rc, .slice qA qn qc, .slice sA sn sc, .slice hA hn hc, .string text], .ro (AcIn d ⟨4, tab, ⟨rA, rn, rc, rl⟩, ⟨qA, qn, qc, ql⟩, ⟨sA, sn, sc, sl⟩, ⟨hA, hn, hc, hl⟩, text⟩)])
   case first =>
    have hw0 : IntKind.i64.wrap ((rn : Int) + (qn : Int)) = (rn : Int) + (qn : Int) := IntWalk.i64_in _ (by have := HRQ.out; omega)
    obtain ⟨cr, hcr⟩ : ∃ z : Bool, decide ((0 : Int) < (rn : Int) + (qn : Int)) = z := ⟨_, rfl⟩
    obtain ⟨cs, hcs⟩ : ∃ z : Bool, decide ((0 : Int) < (sn : Int)) = z := ⟨_, rfl⟩
    have hcs2 : decide (0 < sn) = cs := by rw [← hcs]; simp
    obtain ⟨ch, hch⟩ : ∃ z : Bool, decide ((0 : Int) < (hn : Int)) = z := ⟨_, rfl⟩
    have hch2 : decide (0 < hn) = ch := by rw [← hch]; simp
    go_wp2_with (first
      | (go_at_call 160; go_must (refine (rvalidname_ret _ _).mono ?_); rintro e w1 ⟨r, rfl, b1⟩; replace K0 := K0.call b1; replace F0 := K0.facts; simp only [factsL, cellsF, Nat.reduceAdd, zf, zl] at F0; clear b1)
      | (go_at_call 182; go_must (refine (rvalid_ret _ _ _ _).mono ?_); rintro e w1 ⟨r, rfl, b1⟩; replace K0 := K0.call b1; replace F0 := K0.facts; simp only [factsL, cellsF, Nat.reduceAdd, zf, zl] at F0; clear b1)
      | (go_at_call 162; go_must (refine (HW.out _ K0).mono ?_); rintro e w1 ⟨r, rfl, b1⟩; replace K0 := K0.call b1; replace F0 := K0.facts; simp only [factsL, cellsF, Nat.reduceAdd, zf, zl] at F0; clear b1)
      | (go_at_call 208; go_must (refine (HI.out _ K0).mono ?_); rintro e w1 ⟨r, rfl, b1⟩; replace K0 := K0.call b1; replace F0 := K0.facts; simp only [factsL, cellsF, Nat.reduceAdd, zf, zl] at F0; clear b1)
      | (go_at_call 209; go_must (refine (HS.out _ K0).mono ?_); rintro e w1 ⟨r, rfl, b1⟩; replace K0 := K0.call b1; replace F0 := K0.facts; simp only [factsL, cellsF, Nat.reduceAdd, zf, zl] at F0; clear b1))
    all_goals (go_meet; exact ⟨_, rfl, K0⟩)
   case rest =>
    obtain ⟨bb, rfl, K1⟩ := hcut
    clear K0 F0
    have K0 := K1
    clear K1
    have F0 := K0.facts
    simp only [factsL, cellsF, Nat.reduceAdd, zf, zl] at F0
    cases bb
    ·go_upto_region 5 with fail
     go_cut [90] (fun v wx => ∃ bb : Bool, v = .bool bb ∧ Hold None_ none w wx [.cst gx 97 #[.int .i64 4, .string tab, .slice rA rn rc, .slice qA qn qc, .slice sA sn sc, .slice hA hn hc, .string text], .ro (AcIn d ⟨4, tab, ⟨rA, rn, rc, rl⟩, ⟨qA, qn, qc, ql⟩, ⟨sA, sn, sc, sl⟩, ⟨hA, hn, hc, hl⟩, text⟩)])
     case first =>
      have hw0 : IntKind.i64.wrap ((rn : Int) + (qn : Int)) = (rn : Int) + (qn : Int) := IntWalk.i64_in _ (by have := HRQ.out; omega)
      obtain ⟨cr, hcr⟩ : ∃ z : Bool, decide ((0 : Int) < (rn : Int) + (qn : Int)) = z := ⟨_, rfl⟩
      obtain ⟨cs, hcs⟩ : ∃ z : Bool, decide ((0 : Int) < (sn : Int)) = z := ⟨_, rfl⟩
      have hcs2 : decide (0 < sn) = cs := by rw [← hcs]; simp
      obtain ⟨ch, hch⟩ : ∃ z : Bool, decide ((0 : Int) < (hn : Int)) = z := ⟨_, rfl⟩
      have hch2 : decide (0 < hn) = ch := by rw [← hch]; simp
      go_wp2_with (first
        | (go_at_call 160; go_must (refine (rvalidname_ret _ _).mono ?_); rintro e w1 ⟨r, rfl, b1⟩; replace K0 := K0.call b1; replace F0 := K0.facts; simp only [factsL, cellsF, Nat.reduceAdd, zf, zl] at F0; clear b1)
        | (go_at_call 182; go_must (refine (rvalid_ret _ _ _ _).mono ?_); rintro e w1 ⟨r, rfl, b1⟩; replace K0 := K0.call b1; replace F0 := K0.facts; simp only [factsL, cellsF, Nat.reduceAdd, zf, zl] at F0; clear b1)
        | (go_at_call 162; go_must (refine (HW.out _ K0).mono ?_); rintro e w1 ⟨r, rfl, b1⟩; replace K0 := K0.call b1; replace F0 := K0.facts; simp only [factsL, cellsF, Nat.reduceAdd, zf, zl] at F0; clear b1)
        | (go_at_call 208; go_must (refine (HI.out _ K0).mono ?_); rintro e w1 ⟨r, rfl, b1⟩; replace K0 := K0.call b1; replace F0 := K0.facts; simp only [factsL, cellsF, Nat.reduceAdd, zf, zl] at F0; clear b1)
        | (go_at_call 209; go_must (refine (HS.out _ K0).mono ?_); rintro e w1 ⟨r, rfl, b1⟩; replace K0 := K0.call b1; replace F0 := K0.facts; simp only [factsL, cellsF, Nat.reduceAdd, zf, zl] at F0; clear b1))
      all_goals (go_meet; exact ⟨_, rfl, K0⟩)
     case rest =>
      obtain ⟨bb, rfl, K1⟩ := hcut
      clear K0 F0
      have K0 := K1
      clear K1
      have F0 := K0.facts
      simp only [factsL, cellsF, Nat.reduceAdd, zf, zl] at F0
      cases bb
      ·go_wp2_with (first
         | (go_at_call 160; go_must (refine (rvalidname_ret _ _).mono ?_); rintro e w1 ⟨r, rfl, b1⟩; replace K0 := K0.call b1; replace F0 := K0.facts; simp only [factsL, cellsF, Nat.reduceAdd, zf, zl] at F0; clear b1)
         | (go_at_call 182; go_must (refine (rvalid_ret _ _ _ _).mono ?_); rintro e w1 ⟨r, rfl, b1⟩; replace K0 := K0.call b1; replace F0 := K0.facts; simp only [factsL, cellsF, Nat.reduceAdd, zf, zl] at F0; clear b1)
         | (go_at_call 162; go_must (refine (HW.out _ K0).mono ?_); rintro e w1 ⟨r, rfl, b1⟩; replace K0 := K0.call b1; replace F0 := K0.facts; simp only [factsL, cellsF, Nat.reduceAdd, zf, zl] at F0; clear b1)
         | (go_at_call 208; go_must (refine (HI.out _ K0).mono ?_); rintro e w1 ⟨r, rfl, b1⟩; replace K0 := K0.call b1; replace F0 := K0.facts; simp only [factsL, cellsF, Nat.reduceAdd, zf, zl] at F0; clear b1)
         | (go_at_call 209; go_must (refine (HS.out _ K0).mono ?_); rintro e w1 ⟨r, rfl, b1⟩; replace K0 := K0.call b1; replace F0 := K0.facts; simp only [factsL, cellsF, Nat.reduceAdd, zf, zl] at F0; clear b1))
       all_goals (go_ret; exact ⟨_, rfl, K0.below, fun _ h => absurd h (by decide)⟩)
      ·go_wp2_with fail
       all_goals (go_ret; exact ⟨_, rfl, K0.below, fun _ h => absurd h (by decide)⟩)
    ·go_wp2_with fail
     all_goals (go_ret; exact ⟨_, rfl, K0.below, fun _ h => absurd h (by decide)⟩)
  ·go_wp2_with fail
   all_goals (go_ret; exact ⟨_, rfl, K0.below, fun _ h => absurd h (by decide)⟩)
end Go.Proofs.YtnbbllkbefagmaaGreatDoor

namespace Go.Proofs.YtnbbllkbefagmaaGreatDoor
open Go.RowKit
set_option linter.unusedVariables false
set_option linter.unusedSimpArgs false
set_option maxHeartbeats 16000000 in
set_option maxRecDepth 100000 in
theorem vaction5 (d : Nat) (tab : ByteArray) (rA : Option Addr) (rn rc : Nat) (rl : List (SlP Ex)) (qA : Option Addr) (qn qc : Nat) (ql : List Qu) (sA : Option Addr) (sn sc : Nat) (sl : List Se) (hA : Option Addr) (hn hc : Nat) (hl : List Ex) (text : ByteArray) (w : World) (hx : Ro w None_ (AcIn d ⟨5, tab, ⟨rA, rn, rc, rl⟩, ⟨qA, qn, qc, ql⟩, ⟨sA, sn, sc, sl⟩, ⟨hA, hn, hc, hl⟩, text⟩)) (hg : AcGd d ⟨5, tab, ⟨rA, rn, rc, rl⟩, ⟨qA, qn, qc, ql⟩, ⟨sA, sn, sc, sl⟩, ⟨hA, hn, hc, hl⟩, text⟩) : Calls Tryz.prog 163 #[.agg #[.int .i64 5, .string tab, .slice rA rn rc, .slice qA qn qc, .slice sA sn sc, .slice hA hn hc, .string text]] w fun e w' => ActRet 5 sn w e w' := by
 have HHN := hid (show hn ≤ 1000 from by
  have h : hl.length = hn := ExsIn.len (show ExsIn d hA hn hl w from hx.now.2.2.2)
  have h2 : hl.length ≤ 1 := hg.h.2.1
  omega)
 have HSN := hid (show sn ≤ 1000 from by
  have h : sl.length = sn := SlP.In.len (s := ⟨sA, sn, sc, sl⟩) (k := 11) (cel := Se.cells) (P := SeIn d) hx.now.2.2.1 (by omega) (fun _ => rfl)
  have h2 : sl.length ≤ 8 := hg.s.2.1
  omega)
 have HRQ := hid (show rn ≤ 8 ∧ qn ≤ 1 from by
  have h1 : rl.length = rn := SlP.In.len (s := ⟨rA, rn, rc, rl⟩) (k := 1) (cel := fun r : SlP Ex => [r.v]) (P := fun r w => r.In 10 Ex.cells (ExIn d) w) hx.now.1 (by omega) (fun _ => rfl)
  have h2 : ql.length = qn := SlP.In.len (s := ⟨qA, qn, qc, ql⟩) (k := 4) (cel := Qu.cells) (P := QuIn d) hx.now.2.1 (by omega) (fun _ => rfl)
  have h3 : rl.length ≤ 8 := hg.r.2.1
  have h4 : ql.length ≤ 1 := hg.q.2.1
  omega)
 have HG := hid hg
 have K0 := ((Hold.start None_ w zn).add (hx.less (by simp [Mut]))).alloc_cst #[.int .i64 5, .string tab, .slice rA rn rc, .slice qA qn qc, .slice sA sn sc, .slice hA hn hc, .string text] 97
 obtain ⟨gx, hgx⟩ : ∃ g, g = w.heap.size := ⟨_, rfl⟩
 rw [← hgx] at K0
 have F0 := K0.facts
 simp only [factsL, cellsF, Nat.reduceAdd, zf, zl] at F0
 rw [hgx] at F0
 clear hx hg
 go_enter Tryz.func163, Tryz.ntmps163
 go_upto_region 1 with fail
 rw [← hgx] at F0 ⊢
 have HGX := hid hgx
 clear hgx
 generalize World.alloc _ _ = w1 at K0 F0 ⊢
 by_cases hs1 : sn = 1
 ·have HS1 := hid hs1
  clear hs1
  have HW := hid (fun (wv : World) (h : Hold None_ none w wv [.cst gx 97 #[.int .i64 5, .string tab, .slice rA rn rc, .slice qA qn qc, .slice sA sn sc, .slice hA hn hc, .string text], .ro (AcIn d ⟨5, tab, ⟨rA, rn, rc, rl⟩, ⟨qA, qn, qc, ql⟩, ⟨sA, sn, sc, sl⟩, ⟨hA, hn, hc, hl⟩, text⟩)]) => va_all d hA hn hc hl wv (((h.ro 1 rfl).imp fun w2 h2 => (show ExsIn d hA hn hl w2 from h2.2.2.2)).less zn) HG.out.h.2.2 HHN.out)
  have HI := hid (fun (wv : World) (h : Hold None_ none w wv [.cst gx 97 #[.int .i64 5, .string tab, .slice rA rn rc, .slice qA qn qc, .slice sA sn sc, .slice hA hn hc, .string text], .ro (AcIn d ⟨5, tab, ⟨rA, rn, rc, rl⟩, ⟨qA, qn, qc, ql⟩, ⟨sA, sn, sc, sl⟩, ⟨hA, hn, hc, hl⟩, text⟩)]) => vinsert_ret d ⟨5, tab, ⟨rA, rn, rc, rl⟩, ⟨qA, qn, qc, ql⟩, ⟨sA, sn, sc, sl⟩, ⟨hA, hn, hc, hl⟩, text⟩ wv ((h.ro 1 rfl).less zn) HG.out)
  have HS := hid (fun (wv : World) (h : Hold None_ none w wv [.cst gx 97 #[.int .i64 5, .string tab, .slice rA rn rc, .slice qA qn qc, .slice sA sn sc, .slice hA hn hc, .string text], .ro (AcIn d ⟨5, tab, ⟨rA, rn, rc, rl⟩, ⟨qA, qn, qc, ql⟩, ⟨sA, sn, sc, sl⟩, ⟨hA, hn, hc, hl⟩, text⟩)]) => vsets_ret d ⟨sA, sn, sc, sl⟩ wv (((h.ro 1 rfl).imp fun w2 h2 => h2.2.2.1).less zn) HG.out.s.2.2 HSN.out HG.out.s.1.1)
  go_cut [35] (fun v wx => ∃ bb : Bool, v = .bool bb ∧ Hold None_ none w wx [.cst gx 97 #[.int .i64 5, .string tab, .slice rA rn rc, .slice qA qn qc, .slice sA sn sc, .slice hA hn hc, .string text], .ro (AcIn d ⟨5, tab, ⟨rA, rn, rc, rl⟩, ⟨qA, qn, qc, ql⟩, ⟨sA, sn, sc, sl⟩, ⟨hA, hn, hc, hl⟩, text⟩)])
  case first =>
   have hw0 : IntKind.i64.wrap ((rn : Int) + (qn : Int)) = (rn : Int) + (qn : Int) := IntWalk.i64_in _ (by have := HRQ.out; omega)
   obtain ⟨cr, hcr⟩ : ∃ z : Bool, decide ((0 : Int) < (rn : Int) + (qn : Int)) = z := ⟨_, rfl⟩
   obtain ⟨cs, hcs⟩ : ∃ z : Bool, decide ((0 : Int) < (sn : Int)) = z := ⟨_, rfl⟩
   have hcs2 : decide (0 < sn) = cs := by rw [← hcs]; simp
   obtain ⟨ch, hch⟩ : ∃ z : Bool, decide ((0 : Int) < (hn : Int)) = z := ⟨_, rfl⟩
   have hch2 : decide (0 < hn) = ch := by rw [← hch]; simp
   go_wp2_with (first
     | (go_at_call 160; go_must (refine (rvalidname_ret _ _).mono ?_); rintro e w1 ⟨r, rfl, b1⟩; replace K0 := K0.call b1; replace F0 := K0.facts; simp only [factsL, cellsF, Nat.reduceAdd, zf, zl] at F0; clear b1)
     | (go_at_call 182; go_must (refine (rvalid_ret _ _ _ _).mono ?_); rintro e w1 ⟨r, rfl, b1⟩; replace K0 := K0.call b1; replace F0 := K0.facts; simp only [factsL, cellsF, Nat.reduceAdd, zf, zl] at F0; clear b1)
     | (go_at_call 162; go_must (refine (HW.out _ K0).mono ?_); rintro e w1 ⟨r, rfl, b1⟩; replace K0 := K0.call b1; replace F0 := K0.facts; simp only [factsL, cellsF, Nat.reduceAdd, zf, zl] at F0; clear b1)
     | (go_at_call 208; go_must (refine (HI.out _ K0).mono ?_); rintro e w1 ⟨r, rfl, b1⟩; replace K0 := K0.call b1; replace F0 := K0.facts; simp only [factsL, cellsF, Nat.reduceAdd, zf, zl] at F0; clear b1)
     | (go_at_call 209; go_must (refine (HS.out _ K0).mono ?_); rintro e w1 ⟨r, rfl, b1⟩; replace K0 := K0.call b1; replace F0 := K0.facts; simp only [factsL, cellsF, Nat.reduceAdd, zf, zl] at F0; clear b1))
   all_goals (go_meet; exact ⟨_, rfl, K0⟩)
  case rest =>
   obtain ⟨bb, rfl, K1⟩ := hcut
   clear K0 F0
   have K0 := K1
   clear K1
   have F0 := K0.facts
   simp only [factsL, cellsF, Nat.reduceAdd, zf, zl] at F0
   cases bb
   ·go_upto_region 3 with fail
    go_cut [80] (fun v wx => ∃ bb : Bool, v = .bool bb ∧ Hold None_ none w wx [.cst gx 97 #[.int .i64 5, .string tab, .slice rA rn rc, .slice qA qn qc, .slice sA sn sc, .slice hA hn hc, .string text], .ro (AcIn d ⟨5, tab, ⟨rA, rn, rc, rl⟩, ⟨qA, qn, qc, ql⟩, ⟨sA, sn, sc, sl⟩, ⟨hA, hn, hc, hl⟩, text⟩)])
    case first =>
     have hw0 : IntKind.i64.wrap ((rn : Int) + (qn : Int)) = (rn : Int) + (qn : Int) := IntWalk.i64_in _ (by have := HRQ.out; omega)
     obtain ⟨cr, hcr⟩ : ∃ z : Bool, decide ((0 : Int) < (rn : Int) + (qn : Int)) = z := ⟨_, rfl⟩
     obtain ⟨cs, hcs⟩ : ∃ z : Bool, decide ((0 : Int) < (sn : Int)) = z := ⟨_, rfl⟩
     have hcs2 : decide (0 < sn) = cs := by rw [← hcs]; simp
     obtain ⟨ch, hch⟩ : ∃ z : Bool, decide ((0 : Int) < (hn : Int)) = z := ⟨_, rfl⟩
     have hch2 : decide (0 < hn) = ch := by rw [← hch]; simp
     go_wp2_with (first
       | (go_at_call 160; go_must (refine (rvalidname_ret _ _).mono ?_); rintro e w1 ⟨r, rfl, b1⟩; replace K0 := K0.call b1; replace F0 := K0.facts; simp only [factsL, cellsF, Nat.reduceAdd, zf, zl] at F0; clear b1)
       | (go_at_call 182; go_must (refine (rvalid_ret _ _ _ _).mono ?_); rintro e w1 ⟨r, rfl, b1⟩; replace K0 := K0.call b1; replace F0 := K0.facts; simp only [factsL, cellsF, Nat.reduceAdd, zf, zl] at F0; clear b1)
       | (go_at_call 162; go_must (refine (HW.out _ K0).mono ?_); rintro e w1 ⟨r, rfl, b1⟩; replace K0 := K0.call b1; replace F0 := K0.facts; simp only [factsL, cellsF, Nat.reduceAdd, zf, zl] at F0; clear b1)
       | (go_at_call 208; go_must (refine (HI.out _ K0).mono ?_); rintro e w1 ⟨r, rfl, b1⟩; replace K0 := K0.call b1; replace F0 := K0.facts; simp only [factsL, cellsF, Nat.reduceAdd, zf, zl] at F0; clear b1)
       | (go_at_call 209; go_must (refine (HS.out _ K0).mono ?_); rintro e w1 ⟨r, rfl, b1⟩; replace K0 := K0.call b1; replace F0 := K0.facts; simp only [factsL, cellsF, Nat.reduceAdd, zf, zl] at F0; clear b1))
     all_goals (go_meet; exact ⟨_, rfl, K0⟩)
    case rest =>
     obtain ⟨bb, rfl, K1⟩ := hcut
     clear K0 F0
     have K0 := K1
     clear K1
     have F0 := K0.facts
     simp only [factsL, cellsF, Nat.reduceAdd, zf, zl] at F0
     cases bb
     ·go_upto_region 5 with fail
      go_cut [90] (fun v wx => ∃ bb : Bool, v = .bool bb ∧ Hold None_ none w wx [.cst gx 97 #[.int .i64 5, .string tab, .slice rA rn rc, .slice qA qn qc, .slice sA sn sc, .slice hA hn hc, .string text], .ro (AcIn d ⟨5, tab, ⟨rA, rn, rc, rl⟩, ⟨qA, qn, qc, ql⟩, ⟨sA, sn, sc, sl⟩, ⟨hA, hn, hc, hl⟩, text⟩)])
      case first =>
       have hw0 : IntKind.i64.wrap ((rn : Int) + (qn : Int)) = (rn : Int) + (qn : Int) := IntWalk.i64_in _ (by have := HRQ.out; omega)
       obtain ⟨cr, hcr⟩ : ∃ z : Bool, decide ((0 : Int) < (rn : Int) + (qn : Int)) = z := ⟨_, rfl⟩
       obtain ⟨cs, hcs⟩ : ∃ z : Bool, decide ((0 : Int) < (sn : Int)) = z := ⟨_, rfl⟩
       have hcs2 : decide (0 < sn) = cs := by rw [← hcs]; simp
       obtain ⟨ch, hch⟩ : ∃ z : Bool, decide ((0 : Int) < (hn : Int)) = z := ⟨_, rfl⟩
       have hch2 : decide (0 < hn) = ch := by rw [← hch]; simp
       go_wp2_with (first
         | (go_at_call 160; go_must (refine (rvalidname_ret _ _).mono ?_); rintro e w1 ⟨r, rfl, b1⟩; replace K0 := K0.call b1; replace F0 := K0.facts; simp only [factsL, cellsF, Nat.reduceAdd, zf, zl] at F0; clear b1)
         | (go_at_call 182; go_must (refine (rvalid_ret _ _ _ _).mono ?_); rintro e w1 ⟨r, rfl, b1⟩; replace K0 := K0.call b1; replace F0 := K0.facts; simp only [factsL, cellsF, Nat.reduceAdd, zf, zl] at F0; clear b1)
         | (go_at_call 162; go_must (refine (HW.out _ K0).mono ?_); rintro e w1 ⟨r, rfl, b1⟩; replace K0 := K0.call b1; replace F0 := K0.facts; simp only [factsL, cellsF, Nat.reduceAdd, zf, zl] at F0; clear b1)
         | (go_at_call 208; go_must (refine (HI.out _ K0).mono ?_); rintro e w1 ⟨r, rfl, b1⟩; replace K0 := K0.call b1; replace F0 := K0.facts; simp only [factsL, cellsF, Nat.reduceAdd, zf, zl] at F0; clear b1)
         | (go_at_call 209; go_must (refine (HS.out _ K0).mono ?_); rintro e w1 ⟨r, rfl, b1⟩; replace K0 := K0.call b1; replace F0 := K0.facts; simp only [factsL, cellsF, Nat.reduceAdd, zf, zl] at F0; clear b1))
       all_goals (go_meet; exact ⟨_, rfl, K0⟩)
      case rest =>
       obtain ⟨bb, rfl, K1⟩ := hcut
       clear K0 F0
       have K0 := K1
       clear K1
       have F0 := K0.facts
       simp only [factsL, cellsF, Nat.reduceAdd, zf, zl] at F0
       cases bb
       ·go_wp2_with (first
          | (go_at_call 160; go_must (refine (rvalidname_ret _ _).mono ?_); rintro e w1 ⟨r, rfl, b1⟩; replace K0 := K0.call b1; replace F0 := K0.facts; simp only [factsL, cellsF, Nat.reduceAdd, zf, zl] at F0; clear b1)
          | (go_at_call 182; go_must (refine (rvalid_ret _ _ _ _).mono ?_); rintro e w1 ⟨r, rfl, b1⟩; replace K0 := K0.call b1; replace F0 := K0.facts; simp only [factsL, cellsF, Nat.reduceAdd, zf, zl] at F0; clear b1)
          | (go_at_call 162; go_must (refine (HW.out _ K0).mono ?_); rintro e w1 ⟨r, rfl, b1⟩; replace K0 := K0.call b1; replace F0 := K0.facts; simp only [factsL, cellsF, Nat.reduceAdd, zf, zl] at F0; clear b1)
          | (go_at_call 208; go_must (refine (HI.out _ K0).mono ?_); rintro e w1 ⟨r, rfl, b1⟩; replace K0 := K0.call b1; replace F0 := K0.facts; simp only [factsL, cellsF, Nat.reduceAdd, zf, zl] at F0; clear b1)
          | (go_at_call 209; go_must (refine (HS.out _ K0).mono ?_); rintro e w1 ⟨r, rfl, b1⟩; replace K0 := K0.call b1; replace F0 := K0.facts; simp only [factsL, cellsF, Nat.reduceAdd, zf, zl] at F0; clear b1))
        all_goals (go_ret; exact ⟨_, rfl, K0.below, fun _ _ => HS1.out⟩)
       ·go_wp2_with fail
        all_goals (go_ret; exact ⟨_, rfl, K0.below, fun _ _ => HS1.out⟩)
     ·go_wp2_with fail
      all_goals (go_ret; exact ⟨_, rfl, K0.below, fun _ _ => HS1.out⟩)
   ·go_wp2_with fail
    all_goals (go_ret; exact ⟨_, rfl, K0.below, fun _ _ => HS1.out⟩)
 ·have hs1b : ((sn : Int) == 1) = false := by simp; omega
  clear hs1
  have HW := hid (fun (wv : World) (h : Hold None_ none w wv [.cst gx 97 #[.int .i64 5, .string tab, .slice rA rn rc, .slice qA qn qc, .slice sA sn sc, .slice hA hn hc, .string text], .ro (AcIn d ⟨5, tab, ⟨rA, rn, rc, rl⟩, ⟨qA, qn, qc, ql⟩, ⟨sA, sn, sc, sl⟩, ⟨hA, hn, hc, hl⟩, text⟩)]) => va_all d hA hn hc hl wv (((h.ro 1 rfl).imp fun w2 h2 => (show ExsIn d hA hn hl w2 from h2.2.2.2)).less zn) HG.out.h.2.2 HHN.out)
  have HI := hid (fun (wv : World) (h : Hold None_ none w wv [.cst gx 97 #[.int .i64 5, .string tab, .slice rA rn rc, .slice qA qn qc, .slice sA sn sc, .slice hA hn hc, .string text], .ro (AcIn d ⟨5, tab, ⟨rA, rn, rc, rl⟩, ⟨qA, qn, qc, ql⟩, ⟨sA, sn, sc, sl⟩, ⟨hA, hn, hc, hl⟩, text⟩)]) => vinsert_ret d ⟨5, tab, ⟨rA, rn, rc, rl⟩, ⟨qA, qn, qc, ql⟩, ⟨sA, sn, sc, sl⟩, ⟨hA, hn, hc, hl⟩, text⟩ wv ((h.ro 1 rfl).less zn) HG.out)
  have HS := hid (fun (wv : World) (h : Hold None_ none w wv [.cst gx 97 #[.int .i64 5, .string tab, .slice rA rn rc, .slice qA qn qc, .slice sA sn sc, .slice hA hn hc, .string text], .ro (AcIn d ⟨5, tab, ⟨rA, rn, rc, rl⟩, ⟨qA, qn, qc, ql⟩, ⟨sA, sn, sc, sl⟩, ⟨hA, hn, hc, hl⟩, text⟩)]) => vsets_ret d ⟨sA, sn, sc, sl⟩ wv (((h.ro 1 rfl).imp fun w2 h2 => h2.2.2.1).less zn) HG.out.s.2.2 HSN.out HG.out.s.1.1)
  go_cut [35] (fun v wx => ∃ bb : Bool, v = .bool bb ∧ Hold None_ none w wx [.cst gx 97 #[.int .i64 5, .string tab, .slice rA rn rc, .slice qA qn qc, .slice sA sn sc, .slice hA hn hc, .string text], .ro (AcIn d ⟨5, tab, ⟨rA, rn, rc, rl⟩, ⟨qA, qn, qc, ql⟩, ⟨sA, sn, sc, sl⟩, ⟨hA, hn, hc, hl⟩, text⟩)])
  case first =>
   have hw0 : IntKind.i64.wrap ((rn : Int) + (qn : Int)) = (rn : Int) + (qn : Int) := IntWalk.i64_in _ (by have := HRQ.out; omega)
   obtain ⟨cr, hcr⟩ : ∃ z : Bool, decide ((0 : Int) < (rn : Int) + (qn : Int)) = z := ⟨_, rfl⟩
   obtain ⟨cs, hcs⟩ : ∃ z : Bool, decide ((0 : Int) < (sn : Int)) = z := ⟨_, rfl⟩
   have hcs2 : decide (0 < sn) = cs := by rw [← hcs]; simp
   obtain ⟨ch, hch⟩ : ∃ z : Bool, decide ((0 : Int) < (hn : Int)) = z := ⟨_, rfl⟩
   have hch2 : decide (0 < hn) = ch := by rw [← hch]; simp
   go_wp2_with (first
     | (go_at_call 160; go_must (refine (rvalidname_ret _ _).mono ?_); rintro e w1 ⟨r, rfl, b1⟩; replace K0 := K0.call b1; replace F0 := K0.facts; simp only [factsL, cellsF, Nat.reduceAdd, zf, zl] at F0; clear b1)
     | (go_at_call 182; go_must (refine (rvalid_ret _ _ _ _).mono ?_); rintro e w1 ⟨r, rfl, b1⟩; replace K0 := K0.call b1; replace F0 := K0.facts; simp only [factsL, cellsF, Nat.reduceAdd, zf, zl] at F0; clear b1)
     | (go_at_call 162; go_must (refine (HW.out _ K0).mono ?_); rintro e w1 ⟨r, rfl, b1⟩; replace K0 := K0.call b1; replace F0 := K0.facts; simp only [factsL, cellsF, Nat.reduceAdd, zf, zl] at F0; clear b1)
     | (go_at_call 208; go_must (refine (HI.out _ K0).mono ?_); rintro e w1 ⟨r, rfl, b1⟩; replace K0 := K0.call b1; replace F0 := K0.facts; simp only [factsL, cellsF, Nat.reduceAdd, zf, zl] at F0; clear b1)
     | (go_at_call 209; go_must (refine (HS.out _ K0).mono ?_); rintro e w1 ⟨r, rfl, b1⟩; replace K0 := K0.call b1; replace F0 := K0.facts; simp only [factsL, cellsF, Nat.reduceAdd, zf, zl] at F0; clear b1))
   all_goals (go_meet; exact ⟨_, rfl, K0⟩)
  case rest =>
   obtain ⟨bb, rfl, K1⟩ := hcut
   clear K0 F0
   have K0 := K1
   clear K1
   have F0 := K0.facts
   simp only [factsL, cellsF, Nat.reduceAdd, zf, zl] at F0
   cases bb
   ·go_upto_region 3 with fail
    go_cut [80] (fun v wx => ∃ bb : Bool, v = .bool bb ∧ Hold None_ none w wx [.cst gx 97 #[.int .i64 5, .string tab, .slice rA rn rc, .slice qA qn qc, .slice sA sn sc, .slice hA hn hc, .string text], .ro (AcIn d ⟨5, tab, ⟨rA, rn, rc, rl⟩, ⟨qA, qn, qc, ql⟩, ⟨sA, sn, sc, sl⟩, ⟨hA, hn, hc, hl⟩, text⟩)])
    case first =>
     have hw0 : IntKind.i64.wrap ((rn : Int) + (qn : Int)) = (rn : Int) + (qn : Int) := IntWalk.i64_in _ (by have := HRQ.out; omega)
     obtain ⟨cr, hcr⟩ : ∃ z : Bool, decide ((0 : Int) < (rn : Int) + (qn : Int)) = z := ⟨_, rfl⟩
     obtain ⟨cs, hcs⟩ : ∃ z : Bool, decide ((0 : Int) < (sn : Int)) = z := ⟨_, rfl⟩
     have hcs2 : decide (0 < sn) = cs := by rw [← hcs]; simp
     obtain ⟨ch, hch⟩ : ∃ z : Bool, decide ((0 : Int) < (hn : Int)) = z := ⟨_, rfl⟩
     have hch2 : decide (0 < hn) = ch := by rw [← hch]; simp
     go_wp2_with (first
       | (go_at_call 160; go_must (refine (rvalidname_ret _ _).mono ?_); rintro e w1 ⟨r, rfl, b1⟩; replace K0 := K0.call b1; replace F0 := K0.facts; simp only [factsL, cellsF, Nat.reduceAdd, zf, zl] at F0; clear b1)
       | (go_at_call 182; go_must (refine (rvalid_ret _ _ _ _).mono ?_); rintro e w1 ⟨r, rfl, b1⟩; replace K0 := K0.call b1; replace F0 := K0.facts; simp only [factsL, cellsF, Nat.reduceAdd, zf, zl] at F0; clear b1)
       | (go_at_call 162; go_must (refine (HW.out _ K0).mono ?_); rintro e w1 ⟨r, rfl, b1⟩; replace K0 := K0.call b1; replace F0 := K0.facts; simp only [factsL, cellsF, Nat.reduceAdd, zf, zl] at F0; clear b1)
       | (go_at_call 208; go_must (refine (HI.out _ K0).mono ?_); rintro e w1 ⟨r, rfl, b1⟩; replace K0 := K0.call b1; replace F0 := K0.facts; simp only [factsL, cellsF, Nat.reduceAdd, zf, zl] at F0; clear b1)
       | (go_at_call 209; go_must (refine (HS.out _ K0).mono ?_); rintro e w1 ⟨r, rfl, b1⟩; replace K0 := K0.call b1; replace F0 := K0.facts; simp only [factsL, cellsF, Nat.reduceAdd, zf, zl] at F0; clear b1))
     all_goals (go_meet; exact ⟨_, rfl, K0⟩)
    case rest =>
     obtain ⟨bb, rfl, K1⟩ := hcut
     clear K0 F0
     have K0 := K1
     clear K1
     have F0 := K0.facts
     simp only [factsL, cellsF, Nat.reduceAdd, zf, zl] at F0
     cases bb
     ·go_upto_region 5 with fail
      go_cut [90] (fun v wx => ∃ bb : Bool, v = .bool bb ∧ Hold None_ none w wx [.cst gx 97 #[.int .i64 5, .string tab, .slice rA rn rc, .slice qA qn qc, .slice sA sn sc, .slice hA hn hc, .string text], .ro (AcIn d ⟨5, tab, ⟨rA, rn, rc, rl⟩, ⟨qA, qn, qc, ql⟩, ⟨sA, sn, sc, sl⟩, ⟨hA, hn, hc, hl⟩, text⟩)])
      case first =>
       have hw0 : IntKind.i64.wrap ((rn : Int) + (qn : Int)) = (rn : Int) + (qn : Int) := IntWalk.i64_in _ (by have := HRQ.out; omega)
       obtain ⟨cr, hcr⟩ : ∃ z : Bool, decide ((0 : Int) < (rn : Int) + (qn : Int)) = z := ⟨_, rfl⟩
       obtain ⟨cs, hcs⟩ : ∃ z : Bool, decide ((0 : Int) < (sn : Int)) = z := ⟨_, rfl⟩
       have hcs2 : decide (0 < sn) = cs := by rw [← hcs]; simp
       obtain ⟨ch, hch⟩ : ∃ z : Bool, decide ((0 : Int) < (hn : Int)) = z := ⟨_, rfl⟩
       have hch2 : decide (0 < hn) = ch := by rw [← hch]; simp
       go_wp2_with (first
         | (go_at_call 160; go_must (refine (rvalidname_ret _ _).mono ?_); rintro e w1 ⟨r, rfl, b1⟩; replace K0 := K0.call b1; replace F0 := K0.facts; simp only [factsL, cellsF, Nat.reduceAdd, zf, zl] at F0; clear b1)
         | (go_at_call 182; go_must (refine (rvalid_ret _ _ _ _).mono ?_); rintro e w1 ⟨r, rfl, b1⟩; replace K0 := K0.call b1; replace F0 := K0.facts; simp only [factsL, cellsF, Nat.reduceAdd, zf, zl] at F0; clear b1)
         | (go_at_call 162; go_must (refine (HW.out _ K0).mono ?_); rintro e w1 ⟨r, rfl, b1⟩; replace K0 := K0.call b1; replace F0 := K0.facts; simp only [factsL, cellsF, Nat.reduceAdd, zf, zl] at F0; clear b1)
         | (go_at_call 208; go_must (refine (HI.out _ K0).mono ?_); rintro e w1 ⟨r, rfl, b1⟩; replace K0 := K0.call b1; replace F0 := K0.facts; simp only [factsL, cellsF, Nat.reduceAdd, zf, zl] at F0; clear b1)
         | (go_at_call 209; go_must (refine (HS.out _ K0).mono ?_); rintro e w1 ⟨r, rfl, b1⟩; replace K0 := K0.call b1; replace F0 := K0.facts; simp only [factsL, cellsF, Nat.reduceAdd, zf, zl] at F0; clear b1))
       all_goals (go_meet; exact ⟨_, rfl, K0⟩)
      case rest =>
       obtain ⟨bb, rfl, K1⟩ := hcut
       clear K0 F0
       have K0 := K1
       clear K1
       have F0 := K0.facts
       simp only [factsL, cellsF, Nat.reduceAdd, zf, zl] at F0
       cases bb
       ·go_wp2_with (first
          | (go_at_call 160; go_must (refine (rvalidname_ret _ _).mono ?_); rintro e w1 ⟨r, rfl, b1⟩; replace K0 := K0.call b1; replace F0 := K0.facts; simp only [factsL, cellsF, Nat.reduceAdd, zf, zl] at F0; clear b1)
          | (go_at_call 182; go_must (refine (rvalid_ret _ _ _ _).mono ?_); rintro e w1 ⟨r, rfl, b1⟩; replace K0 := K0.call b1; replace F0 := K0.facts; simp only [factsL, cellsF, Nat.reduceAdd, zf, zl] at F0; clear b1)
          | (go_at_call 162; go_must (refine (HW.out _ K0).mono ?_); rintro e w1 ⟨r, rfl, b1⟩; replace K0 := K0.call b1; replace F0 := K0.facts; simp only [factsL, cellsF, Nat.reduceAdd, zf, zl] at F0; clear b1)
          | (go_at_call 208; go_must (refine (HI.out _ K0).mono ?_); rintro e w1 ⟨r, rfl, b1⟩; replace K0 := K0.call b1; replace F0 := K0.facts; simp only [factsL, cellsF, Nat.reduceAdd, zf, zl] at F0; clear b1)
          | (go_at_call 209; go_must (refine (HS.out _ K0).mono ?_); rintro e w1 ⟨r, rfl, b1⟩; replace K0 := K0.call b1; replace F0 := K0.facts; simp only [factsL, cellsF, Nat.reduceAdd, zf, zl] at F0; clear b1))
        all_goals (go_ret; exact ⟨_, rfl, K0.below, fun h _ => (nomatch h)⟩)
       ·go_wp2_with fail
        all_goals (go_ret; exact ⟨_, rfl, K0.below, fun h _ => (nomatch h)⟩)
     ·go_wp2_with fail
      all_goals (go_ret; exact ⟨_, rfl, K0.below, fun h _ => (nomatch h)⟩)
   ·go_wp2_with fail
    all_goals (go_ret; exact ⟨_, rfl, K0.below, fun h _ => (nomatch h)⟩)
end Go.Proofs.YtnbbllkbefagmaaGreatDoor

namespace Go.Proofs.YtnbbllkbefagmaaGreatDoor
open Go.RowKit
theorem vaction_ret (d : Nat) (a : Ac) (w : World) (hx : Ro w None_ (AcIn d a)) (hg : AcGd d a) : Calls Tryz.prog 163 #[.agg #[.int .i64 a.kind, .string a.tab, .slice a.rows.A a.rows.n a.rows.c, .slice a.qs.A a.qs.n a.qs.c, .slice a.sets.A a.sets.n a.sets.c, .slice a.wh.A a.wh.n a.wh.c, .string a.text]] w fun e w' => ActRet a.kind a.sets.n w e w' := by
 obtain ⟨kind, tab, ⟨rA, rn, rc, rl⟩, ⟨qA, qn, qc, ql⟩, ⟨sA, sn, sc, sl⟩, ⟨hA, hn, hc, hl⟩, text⟩ := a
 have hk : 1 ≤ kind ∧ kind ≤ 5 := hg.k
 obtain rfl | rfl | rfl | rfl | rfl : kind = 1 ∨ kind = 2 ∨ kind = 3 ∨ kind = 4 ∨ kind = 5 := by omega
 ·exact vaction1 d tab rA rn rc rl qA qn qc ql sA sn sc sl hA hn hc hl text w hx hg
 ·exact vaction2 d tab rA rn rc rl qA qn qc ql sA sn sc sl hA hn hc hl text w hx hg
 ·exact vaction3 d tab rA rn rc rl qA qn qc ql sA sn sc sl hA hn hc hl text w hx hg
 ·exact vaction4 d tab rA rn rc rl qA qn qc ql sA sn sc sl hA hn hc hl text w hx hg
 ·exact vaction5 d tab rA rn rc rl qA qn qc ql sA sn sc sl hA hn hc hl text w hx hg
end Go.Proofs.YtnbbllkbefagmaaGreatDoor

namespace Go.Proofs.YtnbbllkbefagmaaGreatDoor
open Go.RowKit
set_option linter.unusedVariables false
set_option linter.unusedSimpArgs false
set_option maxHeartbeats 8000000 in
set_option maxRecDepth 100000 in
theorem rsound_ret (d : Nat) (a : Ac) (w : World) (hx : Ro w None_ (AcIn d a)) (hg : AcGd d a) : Calls Tryz.prog 149 #[.agg #[.int .i64 a.kind, .string a.tab, .slice a.rows.A a.rows.n a.rows.c, .slice a.qs.A a.qs.n a.qs.c, .slice a.sets.A a.sets.n a.sets.c, .slice a.wh.A a.wh.n a.wh.c, .string a.text]] w fun e w' => BoolRet w e w' := by
 have HG := hid hg
 have h1 : (1 : Int) ≤ a.kind := hg.k.1
 have K0 := ((Hold.start None_ w zn).add (hx.less (by simp [Mut]))).alloc_cst #[.int .i64 a.kind, .string a.tab, .slice a.rows.A a.rows.n a.rows.c, .slice a.qs.A a.qs.n a.qs.c, .slice a.sets.A a.sets.n a.sets.c, .slice a.wh.A a.wh.n a.wh.c, .string a.text] 97
 obtain ⟨gx, hgx⟩ : ∃ g, g = w.heap.size := ⟨_, rfl⟩
 rw [← hgx] at K0
 clear hx hg
 go_enter Tryz.func149, Tryz.ntmps149
 go_upto_region 1 with fail
 rw [← hgx]
 have HGX := hid hgx
 clear hgx
 generalize World.alloc _ _ = w1 at K0 ⊢
 have F0 := K0.facts
 simp only [factsL, cellsF, Nat.reduceAdd, zf, zl] at F0
 by_cases h3 : a.kind ≤ 3
 ·go_wp2_with (go_at_call 163; go_must (refine (vaction_ret d a _ ((K0.ro 1 rfl).less zn) HG.out).mono ?_); rintro e w5 ⟨r, rfl, b5, -⟩; replace K0 := K0.call b5; clear b5; replace F0 := K0.facts; simp only [factsL, cellsF, Nat.reduceAdd, zf, zl] at F0)
  all_goals (go_ret; exact ⟨_, rfl, K0.below⟩)
 ·go_wp2_with fail
  all_goals (go_ret; exact ⟨_, rfl, K0.below⟩)
set_option maxHeartbeats 16000000 in
set_option maxRecDepth 100000 in
theorem rcheckInsert_ret (d : Nat) (a : Ac) (s : Sm) (fA : Option Addr) (fn fc : Nat) (fl : List Fr) (tA : Option Addr) (tn tc : Nat) (tl : List Te) (w : World) (hx : Ro w None_ (AcIn d a)) (hg : AcGd d a) (hs : Ro w None_ (SmIn s)) (hf : Ro w None_ (FrsIn ⟨fA, fn, fc, fl⟩)) (ht : Ro w None_ (TesIn tA tn tl)) (hsn : s.cols.n ≤ 1000) (hfb : FB (d + 1) fn fl) (htb : TBd tn tl) : Calls Tryz.prog 212 #[.agg #[.int .i64 a.kind, .string a.tab, .slice a.rows.A a.rows.n a.rows.c, .slice a.qs.A a.qs.n a.qs.c, .slice a.sets.A a.sets.n a.sets.c, .slice a.wh.A a.wh.n a.wh.c, .string a.text], .agg #[.string s.nm, .slice s.cols.A s.cols.n s.cols.c], .slice fA fn fc, .slice tA tn tc] w fun e w' => CodeRet w e w' := by
 obtain ⟨kind, tab, ⟨rA, rn, rc, rl⟩, ⟨qA, qn, qc, ql⟩, ⟨sA, sn, sc, sl⟩, ⟨hA, hn, hc, hl⟩, text⟩ := a
 obtain ⟨snm, ⟨cA, cn, cc, cl⟩⟩ := s
 have hcn : cn ≤ 1000 := hsn
 have HRN := hid (show rl.length = rn from SlP.In.len (s := ⟨rA, rn, rc, rl⟩) (k := 1) (cel := fun r : SlP Ex => [r.v]) (P := fun r w => r.In 10 Ex.cells (ExIn d) w) hx.now.1 (by omega) (fun _ => rfl))
 have HQN := hid (show ql.length = qn from SlP.In.len (s := ⟨qA, qn, qc, ql⟩) (k := 4) (cel := Qu.cells) (P := QuIn d) hx.now.2.1 (by omega) (fun _ => rfl))
 have hqn : qn ≤ 1 := by have h : ql.length ≤ 1 := hg.q.2.1; have := HQN.out; omega
 have hrn : rn ≤ 8 := by have h : rl.length ≤ 8 := hg.r.2.1; have := HRN.out; omega
 have HQG := hid (show ∀ q ∈ ql, QuGd d q from hg.q.2.2)
 have HRG := hid (show ∀ r ∈ rl, (∀ x ∈ r.l, ExGd d x) ∧ r.l.length ≤ 8 from fun r hr => ⟨(hg.r.2.2 r hr).2.2, (hg.r.2.2 r hr).2.1⟩)
 have HFB := hid hfb
 have HTB := hid htb
 have HCL := hid (show cl.length = cn from (RdC.of_sl (show SlR 4 cA cn (colCells cl) _ from hs.now.1)).len)
 have K0 := ((((((Hold.start None_ w zn).add (ht.less (by simp [Mut]))).add (hf.less (by simp [Mut, Hp.foot]))).add ((hs.imp (S' := SlR 4 cA cn (colCells cl)) fun w2 h2 => h2.1).less (by simp [Mut, Hp.foot]))).add (hx.less (by simp [Mut, Hp.foot]))).alloc_cst #[.int .i64 kind, .string tab, .slice rA rn rc, .slice qA qn qc, .slice sA sn sc, .slice hA hn hc, .string text] 97).alloc_cst #[.string snm, .slice cA cn cc] 49
 rw [World.size_alloc] at K0
 obtain ⟨gx, hgx⟩ : ∃ g, g = w.heap.size := ⟨_, rfl⟩
 rw [← hgx] at K0
 obtain ⟨gs, hgs⟩ : ∃ g, g = gx + 1 := ⟨_, rfl⟩
 rw [← hgs] at K0
 clear hx hg hs hf ht hfb htb
 go_enter Tryz.func212, Tryz.ntmps212
 go_upto_region 1 with fail
 rw [← hgx]
 try rw [← hgs]
 have HGX := hid (And.intro hgx hgs)
 clear hgx hgs
 generalize World.alloc _ _ = w1 at K0 ⊢
 have F0 := K0.facts
 simp only [factsL, cellsF, Nat.reduceAdd, zf, zl] at F0
 go_wp2_with fail
 clear F0
 go_loopw [24] (fun iv wr => ∃ j : Nat, j ≤ rn ∧ iv = .int .i64 j ∧ Hold None_ none w wr [.cst gs 49 #[.string snm, .slice cA cn cc], .cst gx 97 #[.int .i64 kind, .string tab, .slice rA rn rc, .slice qA qn qc, .slice sA sn sc, .slice hA hn hc, .string text], .ro (AcIn d ⟨kind, tab, ⟨rA, rn, rc, rl⟩, ⟨qA, qn, qc, ql⟩, ⟨sA, sn, sc, sl⟩, ⟨hA, hn, hc, hl⟩, text⟩), .ro (SlR 4 cA cn (colCells cl)), .ro (FrsIn ⟨fA, fn, fc, fl⟩), .ro (TesIn tA tn tl)]) (fun iv _ => rn - (intOf iv).toNat)
 case atStart => exact ⟨0, by omega, rfl, K0⟩
 case round =>
  clear K0
  obtain ⟨j, hj, rfl, H⟩ := hrel
  by_cases hlt : j < rn
  ·obtain ⟨⟨eA, en, ec, el⟩, hr⟩ := get_anyG HRN.out hlt
   obtain ⟨b, o, rfl, -, hc9, hin9⟩ := SlP.In.at_ (s := ⟨rA, rn, rc, rl⟩) (k := 1) (cel := fun r : SlP Ex => [r.v]) (P := fun r w => r.In 10 Ex.cells (ExIn d) w) (H.ro 2 rfl).now.1 (by omega) (fun _ => rfl) hr
   have q0 := hc9 0 _ (by omega) rfl
   simp only [Nat.add_zero, Nat.mul_one, SlP.v] at q0
   have hml := List.mem_of_getElem? hr
   have HEL := hid (show el.length = en from ExsIn.len (show ExsIn d eA en el _ from hin9))
   have h8 : en ≤ 8 := by have := (HRG.out _ hml).2; simp only at this; have := HEL.out; omega
   have K1 := H.add (S := ExsIn d eA en el) ((H.ro 2 rfl).imp fun w2 h2 => h2.1.2 _ hml)
   clear hc9 hin9 hr H
   have F1 := K1.facts
   simp only [factsL, cellsF, Nat.reduceAdd, zf, zl] at F1
   obtain ⟨z, hz⟩ : ∃ z : Bool, (en == cn) = z := ⟨_, rfl⟩
   cases z
   ·have hzi : ((en : Int) != (cn : Int)) = true := by simp at hz ⊢; omega
    clear hz
    go_wp2_with fail
    go_ret
    exact ⟨_, rfl, K1.below⟩
   ·have hzi : ((en : Int) != (cn : Int)) = false := by simp at hz ⊢; omega
    have HEC := hid (show en = cn by simpa using hz)
    clear hz
    go_wp2_with fail
    clear F1 q0
    go_loopw [36] (fun iv wr => ∃ k : Nat, k ≤ en ∧ iv = .int .i64 k ∧ Hold None_ none w wr [.ro (ExsIn d eA en el), .cst gs 49 #[.string snm, .slice cA cn cc], .cst gx 97 #[.int .i64 kind, .string tab, .slice (some ⟨b, o, none⟩) rn rc, .slice qA qn qc, .slice sA sn sc, .slice hA hn hc, .string text], .ro (AcIn d ⟨kind, tab, ⟨some ⟨b, o, none⟩, rn, rc, rl⟩, ⟨qA, qn, qc, ql⟩, ⟨sA, sn, sc, sl⟩, ⟨hA, hn, hc, hl⟩, text⟩), .ro (SlR 4 cA cn (colCells cl)), .ro (FrsIn ⟨fA, fn, fc, fl⟩), .ro (TesIn tA tn tl)]) (fun iv _ => en - (intOf iv).toNat)
    case atStart => exact ⟨0, by omega, rfl, K1⟩
    case round =>
     clear K1
     obtain ⟨k, hk, rfl, H⟩ := hrel
     by_cases hlt2 : k < en
     ·obtain ⟨y, hy⟩ := get_anyG HEL.out hlt2
      obtain ⟨qb, qo, rfl, hb, hc, -⟩ := (H.ro 0 rfl).now.at_ hy
      have hm := List.mem_of_getElem? hy
      have x0 := hc 0 _ (by omega) rfl
      have x1 := hc 1 _ (by omega) rfl
      have x2 := hc 2 _ (by omega) rfl
      have x3 := hc 3 _ (by omega) rfl
      have x4 := hc 4 _ (by omega) rfl
      have x5 := hc 5 _ (by omega) rfl
      have x6 := hc 6 _ (by omega) rfl
      have x7 := hc 7 _ (by omega) rfl
      have x8 := hc 8 _ (by omega) rfl
      have x9 := hc 9 _ (by omega) rfl
      simp only [Nat.add_zero] at x0 x1 x2 x3 x4 x5 x6 x7 x8 x9
      clear hc hy
      have hkc : k < cn := by rw [← HEC.out]; exact hlt2
      obtain ⟨⟨xnm, xty, xnn, xkey⟩, hcx⟩ := get_col HCL.out hkc
      obtain ⟨b2, o2, rfl, hb2, -, -, -, -⟩ := (RdC.of_sl (H.ro 4 rfl).now).at_ hcx
      have HTYC := hid (show ∀ wv : World, SlR 4 (some ⟨b2, o2, none⟩) cn (colCells cl) wv → wv.cell? ⟨b2, o2 + k * 4 + 1, none⟩ = some (.int .i64 xty) from fun wv h => by
       obtain ⟨b3, o3, e3, -, -, h1, -, -⟩ := (RdC.of_sl h).at_ hcx
       obtain ⟨rfl, rfl⟩ := addr_eqC e3
       exact h1)
      clear hcx
      have K3 := H.alloc_cst #[.int .i64 y.kind, .int .i64 y.op, .bool y.nt, .int .i64 y.v.k, .int .i64 y.v.i, .string y.v.s, .string y.tab, .string y.nm, .slice y.A y.n y.c, .slice y.B y.m y.d] 126
      have F3 := K3.facts
      simp only [factsL, cellsF, Nat.reduceAdd, zf, zl] at F3
      clear H
      go_wp2_with fail
      refine (ty_all d y fA fn fc fl tA tn tc tl _ (((K3.ro 1 rfl).imp fun w2 h2 => h2.2 y hm).less zn) ((HRG.out _ hml).1 y hm) ((K3.ro 6 rfl).less zn) ((K3.ro 7 rfl).less zn) ⟨by have := HFB.out.1; omega, HFB.out.2⟩ HTB.out).mono ?_
      rintro e w4 ⟨t, cd, rfl, b4⟩
      have K4 := K3.call b4
      clear K3 F3 b4 x0 x1 x2 x3 x4 x5 x6 x7 x8 x9
      have F4 := K4.facts
      simp only [factsL, cellsF, Nat.reduceAdd, zf, zl] at F4
      have y1 := HTYC.out _ (K4.ro 5 rfl).now
      have hki : (k : Int) < (cn : Int) := by omega
      obtain ⟨z, hz⟩ : ∃ z : Bool, (cd != 0) = z := ⟨_, rfl⟩
      cases z
      ·go_wp2_with fail
       refine (rassign_ret _ _ _).mono ?_
       rintro e w5 ⟨r, rfl, b5⟩
       have K5 := K4.call b5
       clear K4 F4 b5 y1
       cases r
       ·go_wp2_with fail
        go_ret
        exact ⟨_, rfl, K5.below⟩
       ·go_wp2_with fail
        go_roundw
        case rel => exact ⟨k + 1, by omega, by go_num, K5.drop (List.sublist_cons_self _ _)⟩
        case measure => simp [intOf]; omega
      ·go_wp2_with fail
       go_ret
       exact ⟨_, rfl, K4.below⟩
     ·obtain rfl : en = k := by omega
      go_wp2_with fail
      go_roundw
      case rel => exact ⟨j + 1, by omega, by go_num, H.drop (List.sublist_cons_self _ _)⟩
      case measure => simp [intOf]; omega
  ·obtain rfl : rn = j := by omega
   have F0 := H.facts
   simp only [factsL, cellsF, Nat.reduceAdd, zf, zl] at F0
   go_wp2_with fail
   clear F0
   go_loopw [65] (fun iv wr => ∃ j : Nat, j ≤ qn ∧ iv = .int .i64 j ∧ Hold None_ none w wr [.cst gs 49 #[.string snm, .slice cA cn cc], .cst gx 97 #[.int .i64 kind, .string tab, .slice rA rn rc, .slice qA qn qc, .slice sA sn sc, .slice hA hn hc, .string text], .ro (AcIn d ⟨kind, tab, ⟨rA, rn, rc, rl⟩, ⟨qA, qn, qc, ql⟩, ⟨sA, sn, sc, sl⟩, ⟨hA, hn, hc, hl⟩, text⟩), .ro (SlR 4 cA cn (colCells cl)), .ro (FrsIn ⟨fA, fn, fc, fl⟩), .ro (TesIn tA tn tl)]) (fun iv _ => qn - (intOf iv).toNat)
   case atStart => exact ⟨0, by omega, rfl, H⟩
   case round =>
    clear H
    obtain ⟨j, hj, rfl, H⟩ := hrel
    by_cases hlt : j < qn
    ·obtain ⟨⟨star, iA, inn, ic, il, src, wA, wn, wc, wl⟩, hq⟩ := get_anyG HQN.out hlt
     obtain ⟨b9, o9, rfl, -, hc9, hin9⟩ := SlP.In.at_ (s := ⟨qA, qn, qc, ql⟩) (k := 4) (cel := Qu.cells) (P := QuIn d) (H.ro 2 rfl).now.2.1 (by omega) (fun _ => rfl) hq
     have q0 := hc9 0 _ (by omega) rfl
     have q1 := hc9 1 _ (by omega) rfl
     have q2 := hc9 2 _ (by omega) rfl
     have q3 := hc9 3 _ (by omega) rfl
     simp only [Nat.add_zero] at q0 q1 q2 q3
     have hmq := List.mem_of_getElem? hq
     clear hc9 hin9 hq
     have K1 := H.alloc_cst #[.bool star, .slice iA inn ic, .string src, .slice wA wn wc] 273
     have F1 := K1.facts
     simp only [factsL, cellsF, Nat.reduceAdd, zf, zl] at F1
     clear H
     go_wp2_with fail
     refine (types_ret d (Mut None_ _) _ K1.mutLt ⟨star, iA, inn, ic, il, src, wA, wn, wc, wl⟩ fA fn fc fl tA tn tc tl ((K1.ro 3 rfl).imp fun w2 h2 => h2.2.1.2 _ hmq) (HQG.out _ hmq) (K1.ro 5 rfl) (K1.ro 6 rfl) HFB.out HTB.out).mono ?_
     rintro e w4 ⟨yA, yn, yc, yl, cd, rfl, hyn, ry, b4⟩
     have K4 := (K1.call b4).add ry
     clear K1 F1 b4 ry q0 q1 q2 q3
     have F4 := K4.facts
     simp only [factsL, cellsF, Nat.reduceAdd, zf, zl] at F4
     obtain ⟨z, hz⟩ : ∃ z : Bool, (cd != 0) = z := ⟨_, rfl⟩
     cases z
     ·obtain ⟨z2, hz2⟩ : ∃ z : Bool, (yn == cn) = z := ⟨_, rfl⟩
      cases z2
      ·have hzi : ((yn : Int) != (cn : Int)) = true := by simp at hz2 ⊢; omega
       clear hz2
       go_wp2_with fail
       go_ret
       exact ⟨_, rfl, K4.below⟩
      ·have hzi : ((yn : Int) != (cn : Int)) = false := by simp at hz2 ⊢; omega
       have HEC := hid (show yn = cn by simpa using hz2)
       clear hz2
       go_wp2_with fail
       clear F4
       go_loopw [87] (fun iv wr => ∃ k : Nat, k ≤ yn ∧ iv = .int .i64 k ∧ Hold None_ none w wr [.ro (SlR 1 yA yn (tyC yl)), .cst gs 49 #[.string snm, .slice cA cn cc], .cst gx 97 #[.int .i64 kind, .string tab, .slice rA rn rc, .slice (some ⟨b9, o9, none⟩) qn qc, .slice sA sn sc, .slice hA hn hc, .string text], .ro (AcIn d ⟨kind, tab, ⟨rA, rn, rc, rl⟩, ⟨some ⟨b9, o9, none⟩, qn, qc, ql⟩, ⟨sA, sn, sc, sl⟩, ⟨hA, hn, hc, hl⟩, text⟩), .ro (SlR 4 cA cn (colCells cl)), .ro (FrsIn ⟨fA, fn, fc, fl⟩), .ro (TesIn tA tn tl)]) (fun iv _ => yn - (intOf iv).toNat)
       case atStart => exact ⟨0, by omega, rfl, K4.pick [0, 2, 3, 4, 5, 6, 7] (by decide) rfl⟩
       case round =>
        clear K4
        obtain ⟨k, hk, rfl, H⟩ := hrel
        by_cases hlt2 : k < yn
        ·obtain ⟨b3, o3, e3, -, hc3⟩ := (show Rd _ _ 1 yA yn (tyC yl) from (H.ro 0 rfl).now).2 (by omega)
         subst e3
         have hyl : yl.length = yn := by
          have := (show Rd _ _ 1 (some ⟨b3, o3, none⟩) yn (tyC yl) from (H.ro 0 rfl).now).1
          rw [tyC_len] at this
          omega
         have y0 := hc3 k (.int .i64 (yl[k]'(by omega))) (by simp [tyC, List.getElem?_eq_getElem (show k < yl.length by omega)])
         generalize yl[k]'(by omega) = t at y0
         have hkc : k < cn := by rw [← HEC.out]; exact hlt2
         obtain ⟨⟨xnm, xty, xnn, xkey⟩, hcx⟩ := get_col HCL.out hkc
         obtain ⟨b2, o2, rfl, hb2, -, y1, -, -⟩ := (RdC.of_sl (H.ro 4 rfl).now).at_ hcx
         simp only at y1
         have hki : (k : Int) < (cn : Int) := by omega
         clear hc3 hyl hcx
         have F4 := H.facts
         simp only [factsL, cellsF, Nat.reduceAdd, zf, zl] at F4
         go_wp2_with fail
         refine (rassign_ret _ _ _).mono ?_
         rintro e w5 ⟨r, rfl, b5⟩
         have K5 := H.call b5
         clear H F4 b5 y0 y1
         cases r
         ·go_wp2_with fail
          go_ret
          exact ⟨_, rfl, K5.below⟩
         ·go_wp2_with fail
          go_roundw
          case rel => exact ⟨k + 1, by omega, by go_num, K5⟩
          case measure => simp [intOf]; omega
        ·obtain rfl : yn = k := by omega
         go_wp2_with fail
         go_roundw
         case rel => exact ⟨j + 1, by omega, by go_num, H.drop (List.sublist_cons_self _ _)⟩
         case measure => simp [intOf]; omega
     ·go_wp2_with fail
      go_ret
      exact ⟨_, rfl, K4.below⟩
    ·obtain rfl : qn = j := by omega
     go_wp2_with fail
     go_ret
     exact ⟨_, rfl, H.below⟩
set_option maxHeartbeats 16000000 in
set_option maxRecDepth 100000 in
theorem rdmlCheck_ret (d : Nat) (a : Ac) (fA : Option Addr) (fn fc : Nat) (fl : List Fr) (tA : Option Addr) (tn tc : Nat) (tl : List Te) (w : World) (hx : Ro w None_ (AcIn d a)) (hg : AcGd d a) (hf : Ro w None_ (FrsIn ⟨fA, fn, fc, fl⟩)) (ht : Ro w None_ (TesIn tA tn tl)) (hfb : FB (d + 1) fn fl) (htb : TBd tn tl) : Calls Tryz.prog 167 #[.agg #[.int .i64 a.kind, .string a.tab, .slice a.rows.A a.rows.n a.rows.c, .slice a.qs.A a.qs.n a.qs.c, .slice a.sets.A a.sets.n a.sets.c, .slice a.wh.A a.wh.n a.wh.c, .string a.text], .slice fA fn fc, .slice tA tn tc] w fun e w' => CodeRet w e w' := by
 obtain ⟨kind, tab, ⟨rA, rn, rc, rl⟩, ⟨qA, qn, qc, ql⟩, ⟨sA, sn, sc, sl⟩, ⟨hA, hn, hc, hl⟩, text⟩ := a
 have HSL := hid (show sl.length = sn from SlP.In.len (s := ⟨sA, sn, sc, sl⟩) (k := 11) (cel := Se.cells) (P := SeIn d) hx.now.2.2.1 (by omega) (fun _ => rfl))
 have hsn8 : sn ≤ 8 := by have h : sl.length ≤ 8 := hg.s.2.1; have := HSL.out; omega
 have HG := hid hg
 have HFB := hid hfb
 have HTB := hid htb
 have hfn : fn ≤ 1000 := by have := hfb.1; omega
 have K0 := ((((Hold.start None_ w zn).add (ht.less (by simp [Mut]))).add (hf.less (by simp [Mut, Hp.foot]))).add (hx.less (by simp [Mut, Hp.foot]))).alloc_cst #[.int .i64 kind, .string tab, .slice rA rn rc, .slice qA qn qc, .slice sA sn sc, .slice hA hn hc, .string text] 97
 obtain ⟨gx, hgx⟩ : ∃ g, g = w.heap.size := ⟨_, rfl⟩
 rw [← hgx] at K0
 clear hx hg hf ht hfb htb
 go_enter Tryz.func167, Tryz.ntmps167
 go_upto_region 1 with fail
 rw [← hgx]
 have HGX := hid hgx
 clear hgx
 generalize World.alloc _ _ = w1 at K0 ⊢
 have F0 := K0.facts
 simp only [factsL, cellsF, Nat.reduceAdd, zf, zl] at F0
 go_wp2_with fail
 clear F0
 refine (rsound_ret d ⟨kind, tab, ⟨rA, rn, rc, rl⟩, ⟨qA, qn, qc, ql⟩, ⟨sA, sn, sc, sl⟩, ⟨hA, hn, hc, hl⟩, text⟩ _ ((K0.ro 1 rfl).less zn) HG.out).mono ?_
 rintro e w2 ⟨r, rfl, b2⟩
 have K1 := K0.call b2
 clear K0 b2
 have F1 := K1.facts
 simp only [factsL, cellsF, Nat.reduceAdd, zf, zl] at F1
 cases r
 ·go_wp2_with fail
  go_ret
  exact ⟨_, rfl, K1.below⟩
 ·go_wp2_with fail
  clear F1
  refine (rsource_ret (Mut None_ _) _ K1.mutLt tA tn tc tl tab (K1.ro 3 rfl) HTB.out.1 HTB.out.2).mono ?_
  rintro e w3 ⟨⟨snm, ⟨cA, cn, cc, cl⟩⟩, ok, rfl, hcn, hsc, rs, b3⟩
  have hcn : cn ≤ 1000 := hcn
  have K2 := ((K1.call b3).add (rs.imp (S' := SlR 4 cA cn (colCells cl)) fun w2 h2 => h2.1)).alloc_cst #[.string snm, .slice cA cn cc] 49
  have HCL := hid (show cl.length = cn from (RdC.of_sl (show SlR 4 cA cn (colCells cl) _ from rs.now.1)).len)
  obtain ⟨gs, hgs⟩ : ∃ g, g = w3.heap.size := ⟨_, rfl⟩
  rw [← hgs] at K2
  have RS := hid rs
  clear K1 b3 rs
  have F2 := K2.facts
  simp only [factsL, cellsF, Nat.reduceAdd, zf, zl] at F2
  rw [hgs] at F2
  cases ok
  ·have HB := hid K2.below
   go_wp2_with fail
   go_ret
   exact ⟨_, rfl, HB.out⟩
  ·obtain ⟨d1, hd1⟩ : ∃ z : Bool, (kind == 1) = z := ⟨_, rfl⟩
   go_upto_region 6 with fail
   rw [← hgs] at F2 ⊢
   have HGS := hid hgs
   have KS := hid (K2.add (S := SmIn ⟨snm, ⟨cA, cn, cc, cl⟩⟩) ((K2.ro 1 rfl).imp fun w2 h2 => ⟨h2, fun _ _ => trivial⟩))
   clear hgs RS K2
   generalize World.alloc _ _ = w4 at KS F2 ⊢
   have K2 := KS.out
   clear KS
   cases d1
   ·go_wp2_with fail
    clear F2 hd1
    refine (rinside_ret (Mut None_ _) _ K2.mutLt fA fn fc fl ⟨snm, ⟨cA, cn, cc, cl⟩⟩ (K2.ro 5 rfl) (K2.ro 0 rfl) hfn).mono ?_
    rintro e w5 ⟨IA, ic, rfl, ri, b5⟩
    have K3 := ((K2.call b5).add ri)
    clear K2 ri b5
    have HIB := hid (show FB d (fn + 1) (fl ++ [(⟨snm, false, ⟨cA, cn, cc, cl⟩, SlP.nil⟩ : Fr)]) from ⟨by have := HFB.out.1; omega, fun f hf => by
     rcases List.mem_append.1 hf with hf | hf
     ·exact HFB.out.2 f hf
     ·simp only [List.mem_cons, List.not_mem_nil, or_false] at hf
      subst hf
      exact hcn⟩)
    have F3 := K3.facts
    simp only [factsL, cellsF, Nat.reduceAdd, zf, zl] at F3
    go_wp2_with fail
    clear F3
    go_loopw [41] (fun iv wr => ∃ j : Nat, j ≤ sn ∧ iv = .int .i64 j ∧ Hold None_ none w wr [.ro (FrsIn ⟨IA, fn + 1, ic, fl ++ [⟨snm, false, ⟨cA, cn, cc, cl⟩, SlP.nil⟩]⟩), .cst gs 49 #[.string snm, .slice cA cn cc], .ro (SlR 4 cA cn (colCells cl)), .cst gx 97 #[.int .i64 kind, .string tab, .slice rA rn rc, .slice qA qn qc, .slice sA sn sc, .slice hA hn hc, .string text], .ro (AcIn d ⟨kind, tab, ⟨rA, rn, rc, rl⟩, ⟨qA, qn, qc, ql⟩, ⟨sA, sn, sc, sl⟩, ⟨hA, hn, hc, hl⟩, text⟩), .ro (TesIn tA tn tl)]) (fun iv _ => sn - (intOf iv).toNat)
    case atStart => exact ⟨0, by omega, rfl, K3.pick [0, 2, 3, 4, 5, 7] (by decide) rfl⟩
    case round =>
     clear K3
     obtain ⟨j, hj, rfl, H⟩ := hrel
     by_cases hlt : j < sn
     ·obtain ⟨⟨zc, y⟩, hz⟩ := get_anyG HSL.out hlt
      obtain ⟨qb, qo, rfl, hb, hc, -⟩ := SlP.In.at_ (s := ⟨sA, sn, sc, sl⟩) (k := 11) (cel := Se.cells) (P := SeIn d) (H.ro 4 rfl).now.2.2.1 (by omega) (fun _ => rfl) hz
      have hm := List.mem_of_getElem? hz
      have x0 := hc 0 _ (by omega) rfl
      have x1 := hc 1 _ (by omega) rfl
      have x2 := hc 2 _ (by omega) rfl
      have x3 := hc 3 _ (by omega) rfl
      have x4 := hc 4 _ (by omega) rfl
      have x5 := hc 5 _ (by omega) rfl
      have x6 := hc 6 _ (by omega) rfl
      have x7 := hc 7 _ (by omega) rfl
      have x8 := hc 8 _ (by omega) rfl
      have x9 := hc 9 _ (by omega) rfl
      have x10 := hc 10 _ (by omega) rfl
      simp only [Nat.add_zero] at x0 x1 x2 x3 x4 x5 x6 x7 x8 x9 x10
      clear hc hz
      have K3 := H.alloc_cst #[.string zc, .int .i64 y.kind, .int .i64 y.op, .bool y.nt, .int .i64 y.v.k, .int .i64 y.v.i, .string y.v.s, .string y.tab, .string y.nm, .slice y.A y.n y.c, .slice y.B y.m y.d] 128
      obtain ⟨gz, hgz⟩ : ∃ g, g = wr.heap.size := ⟨_, rfl⟩
      rw [← hgz] at K3
      clear H
      go_upto_region 12 with fail
      rw [← hgz]
      have HGZ := hid hgz
      clear hgz x0 x1 x2 x3 x4 x5 x6 x7 x8 x9 x10
      generalize World.alloc _ _ = w6 at K3 ⊢
      have F3 := K3.facts
      simp only [factsL, cellsF, Nat.reduceAdd, zf, zl] at F3
      go_wp2_with fail
      clear F3
      refine (rfind_any (Mut None_ _) _ K3.mutLt snm cA cn cc cl zc (K3.ro 3 rfl) (by omega)).mono ?_
      rintro e w7 ⟨rfl, b7⟩
      have K4 := K3.call b7
      clear K3 b7
      have F4 := K4.facts
      simp only [factsL, cellsF, Nat.reduceAdd, zf, zl] at F4
      have hfl := find_lt (named zc) cl
      rw [HCL.out] at hfl
      obtain ⟨kf, hkf⟩ : ∃ z : Int, findB (named zc) cl = z := ⟨_, rfl⟩
      rw [hkf] at hfl ⊢
      clear hkf
      by_cases hneg : kf < 0
      ·clear hfl
       go_wp2_with fail
       go_ret
       exact ⟨_, rfl, K4.below⟩
      ·obtain ⟨kk, rfl⟩ : ∃ k : Nat, kf = (k : Int) := ⟨kf.toNat, by omega⟩
       have hkk : kk < cn := by have := hfl (by omega); omega
       have hneg' : ¬ ((kk : Int) < 0) := by omega
       have hki : (kk : Int) < (cn : Int) := by omega
       clear hfl hneg
       go_wp2_with fail
       clear F4
       refine (ty_all d y IA (fn + 1) ic (fl ++ [⟨snm, false, ⟨cA, cn, cc, cl⟩, SlP.nil⟩]) tA tn tc tl _ (((K4.ro 5 rfl).imp fun w2 h2 => h2.2.2.1.2 _ hm).less zn) (HG.out.s.2.2 _ hm) ((K4.ro 1 rfl).less zn) ((K4.ro 6 rfl).less zn) HIB.out HTB.out).mono ?_
       rintro e w8 ⟨t, cd, rfl, b8⟩
       have K5 := K4.call b8
       clear K4 b8
       have F5 := K5.facts
       simp only [factsL, cellsF, Nat.reduceAdd, zf, zl] at F5
       obtain ⟨⟨xnm, xty, xnn, xkey⟩, hcx⟩ := get_col HCL.out hkk
       obtain ⟨b2, o2, rfl, hb2, -, y1, -, -⟩ := (RdC.of_sl (K5.ro 3 rfl).now).at_ hcx
       simp only at y1
       clear hcx
       obtain ⟨z, hz⟩ : ∃ z : Bool, (cd != 0) = z := ⟨_, rfl⟩
       cases z
       ·go_wp2_with fail
        refine (rassign_ret _ _ _).mono ?_
        rintro e w9 ⟨r, rfl, b9⟩
        have K6 := K5.call b9
        clear K5 F5 b9 y1
        cases r
        ·go_wp2_with fail
         go_ret
         exact ⟨_, rfl, K6.below⟩
        ·go_wp2_with fail
         go_roundw
         case rel => exact ⟨j + 1, by omega, by go_num, K6.drop (List.sublist_cons_self _ _)⟩
         case measure => simp [intOf]; omega
       ·go_wp2_with fail
        go_ret
        exact ⟨_, rfl, K5.below⟩
     ·obtain rfl : sn = j := by omega
      have F4 := H.facts
      simp only [factsL, cellsF, Nat.reduceAdd, zf, zl] at F4
      go_wp2_with fail
      clear F4
      refine (co_all d hA hn hc hl IA (fn + 1) ic (fl ++ [⟨snm, false, ⟨cA, cn, cc, cl⟩, SlP.nil⟩]) tA tn tc tl _ (((H.ro 4 rfl).imp fun w2 h2 => (show ExsIn d hA hn hl w2 from h2.2.2.2)).less zn) HG.out.h.2.2 ((H.ro 0 rfl).less zn) ((H.ro 5 rfl).less zn) HIB.out HTB.out).mono ?_
      rintro e w4 ⟨cd, rfl, b4⟩
      have K4 := H.call b4
      clear H b4
      go_wp2_with fail
      go_ret
      exact ⟨_, rfl, K4.below⟩
   ·go_wp2_with fail
    clear F2 hd1
    refine (rcheckInsert_ret d ⟨kind, tab, ⟨rA, rn, rc, rl⟩, ⟨qA, qn, qc, ql⟩, ⟨sA, sn, sc, sl⟩, ⟨hA, hn, hc, hl⟩, text⟩ ⟨snm, ⟨cA, cn, cc, cl⟩⟩ fA fn fc fl tA tn tc tl _ ((K2.ro 4 rfl).less zn) HG.out ((K2.ro 0 rfl).less zn) ((K2.ro 5 rfl).less zn) ((K2.ro 6 rfl).less zn) hcn HFB.out HTB.out).mono ?_
    rintro e w5 ⟨cd, rfl, b5⟩
    have K3 := K2.call b5
    clear K2 b5
    go_wp2_with fail
    go_ret
    exact ⟨_, rfl, K3.below⟩
end Go.Proofs.YtnbbllkbefagmaaGreatDoor

namespace Go.Proofs.YtnbbllkbefagmaaGreatDoor
open Go.RowKit
set_option linter.unusedVariables false
set_option linter.unusedSimpArgs false
/-- What ValidTrigger answers: each SET has one assignment. -/
def TrigRet (al : List Ac) (w : World) (e : Ending) (w' : World) : Prop := ∃ b : Bool, e = .returned (.bool b) ∧ Below w.heap.size w w' ∧ (b = true → ∀ a ∈ al, a.kind = 5 → a.sets.n = 1)
set_option maxHeartbeats 16000000 in
set_option maxRecDepth 100000 in
theorem vtrig_ret (d : Nat) (t : Tg) (w : World) (hx : Ro w None_ (TgIn d t)) (hg : TgGd d t) : Calls Tryz.prog 102 #[t.val] w fun e w' => TrigRet t.acts.l w e w' := by
 obtain ⟨tn, tt, tb, te, ⟨oA, on, oc, ol⟩, tch, ⟨pA, pn, pc, pl⟩, ⟨qA, qn, qc, ql⟩, ⟨rA, rn, rc, rl⟩, ⟨kA, kn, kc, kl⟩, ⟨aA, an, ac, al⟩⟩ := t
 have he : 1 ≤ te ∧ te ≤ 3 := hg.e
 have HON := hid (show on ≤ 1000 ∧ on ≤ oc from by
  have h : ol.length = on := SlP.In.len (s := ⟨oA, on, oc, ol⟩) (k := 1) (cel := strc) (P := fun _ _ => True) hx.now.1 (by omega) (fun _ => rfl)
  have h2 : ol.length ≤ 8 := hg.o.2.1
  exact ⟨by omega, hg.o.1.1⟩)
 have HPN := hid (show pn ≤ 1000 ∧ pn ≤ pc from by
  have h : pl.length = pn := SlP.In.len (s := ⟨pA, pn, pc, pl⟩) (k := 1) (cel := strc) (P := fun _ _ => True) hx.now.2.1 (by omega) (fun _ => rfl)
  have h2 : pl.length ≤ 8 := hg.p.2.1
  exact ⟨by omega, hg.p.1.1⟩)
 have HQN := hid (show qn ≤ 1000 ∧ qn ≤ qc from by
  have h : ql.length = qn := SlP.In.len (s := ⟨qA, qn, qc, ql⟩) (k := 1) (cel := strc) (P := fun _ _ => True) hx.now.2.2.1 (by omega) (fun _ => rfl)
  have h2 : ql.length ≤ 8 := hg.f.2.1
  exact ⟨by omega, hg.f.1.1⟩)
 have HRL := hid (show rl.length = rn from SlP.In.len (s := ⟨rA, rn, rc, rl⟩) (k := 4) (cel := Rk.cells) (P := fun _ _ => True) hx.now.2.2.2.1 (by omega) (fun _ => rfl))
 have hrn : rn ≤ 1 := by have h2 : rl.length ≤ 1 := hg.r.2.1; have := HRL.out; omega
 have hkn : kn ≤ 1 := by
  have h : kl.length = kn := ExsIn.len (show ExsIn d kA kn kl w from hx.now.2.2.2.2.1)
  have h2 : kl.length ≤ 1 := hg.h.2.1
  omega
 have HAL := hid (show al.length = an from SlP.In.len (s := ⟨aA, an, ac, al⟩) (k := 7) (cel := Ac.cells) (P := AcIn d) hx.now.2.2.2.2.2 (by omega) (fun _ => rfl))
 have han : an ≤ 4 := by have h2 : al.length ≤ 4 := hg.a.2.1; have := HAL.out; omega
 have HG := hid hg
 have K0 := ((Hold.start None_ w zn).add (hx.less (by simp [Mut]))).alloc_cst #[.string tn, .string tt, .bool tb, .int .i64 te, .slice oA on oc, .bool tch, .slice pA pn pc, .slice qA qn qc, .slice rA rn rc, .slice kA kn kc, .slice aA an ac] 40
 obtain ⟨gx, hgx⟩ : ∃ g, g = w.heap.size := ⟨_, rfl⟩
 rw [← hgx] at K0
 clear hx hg
 simp only [Tg.val]
 go_enter Tryz.func102, Tryz.ntmps102
 go_upto_region 1 with fail
 rw [← hgx]
 have HGX := hid hgx
 clear hgx
 generalize World.alloc _ _ = w1 at K0 ⊢
 have F0 := K0.facts
 simp only [factsL, cellsF, Nat.reduceAdd, zf, zl] at F0
 go_cut [38] from 8 to 38 (fun v wx => ∃ bb : Bool, v = .bool bb ∧ Hold None_ none w wx [.cst gx 40 #[.string tn, .string tt, .bool tb, .int .i64 te, .slice oA on oc, .bool tch, .slice pA pn pc, .slice qA qn qc, .slice rA rn rc, .slice kA kn kc, .slice aA an ac], .ro (TgIn d ⟨tn, tt, tb, te, ⟨oA, on, oc, ol⟩, tch, ⟨pA, pn, pc, pl⟩, ⟨qA, qn, qc, ql⟩, ⟨rA, rn, rc, rl⟩, ⟨kA, kn, kc, kl⟩, ⟨aA, an, ac, al⟩⟩)])
 case first =>
  obtain ⟨c2, h2⟩ : ∃ z : Bool, (te != 2) = z := ⟨_, rfl⟩
  obtain ⟨cs, hcs⟩ : ∃ z : Bool, decide ((0 : Int) < (on : Int)) = z := ⟨_, rfl⟩
  have hcs2 : decide (0 < on) = cs := by rw [← hcs]; simp
  have e1 : decide (te < 1) = false := by simp; omega
  have e3 : decide (3 < te) = false := by simp; omega
  clear he
  go_wp2_with (go_at_call 160; go_must (refine (rvalidname_ret _ _).mono ?_); rintro e w1 ⟨r, rfl, b1⟩; replace K0 := K0.call b1; replace F0 := K0.facts; simp only [factsL, cellsF, Nat.reduceAdd, zf, zl] at F0; clear b1)
  all_goals (go_meet; exact ⟨_, rfl, K0⟩)
 case rest =>
  obtain ⟨bb, rfl, K1⟩ := hcut
  clear K0 F0
  have K0 := K1
  clear K1
  have F0 := K0.facts
  simp only [factsL, cellsF, Nat.reduceAdd, zf, zl] at F0
  cases bb
  ·have HW := hid (fun (wv : World) (h : Hold None_ none w wv [.cst gx 40 #[.string tn, .string tt, .bool tb, .int .i64 te, .slice oA on oc, .bool tch, .slice pA pn pc, .slice qA qn qc, .slice rA rn rc, .slice kA kn kc, .slice aA an ac], .ro (TgIn d ⟨tn, tt, tb, te, ⟨oA, on, oc, ol⟩, tch, ⟨pA, pn, pc, pl⟩, ⟨qA, qn, qc, ql⟩, ⟨rA, rn, rc, rl⟩, ⟨kA, kn, kc, kl⟩, ⟨aA, an, ac, al⟩⟩)]) => va_all d kA kn kc kl wv (((h.ro 1 rfl).imp fun w2 h2 => (show ExsIn d kA kn kl w2 from h2.2.2.2.2.1)).less zn) HG.out.h.2.2 (by omega))
   have HO := hid (fun (wv : World) (h : Hold None_ none w wv [.cst gx 40 #[.string tn, .string tt, .bool tb, .int .i64 te, .slice oA on oc, .bool tch, .slice pA pn pc, .slice qA qn qc, .slice rA rn rc, .slice kA kn kc, .slice aA an ac], .ro (TgIn d ⟨tn, tt, tb, te, ⟨oA, on, oc, ol⟩, tch, ⟨pA, pn, pc, pl⟩, ⟨qA, qn, qc, ql⟩, ⟨rA, rn, rc, rl⟩, ⟨kA, kn, kc, kl⟩, ⟨aA, an, ac, al⟩⟩)]) => names_ret ⟨oA, on, oc, ol⟩ wv (((h.ro 1 rfl).imp fun w2 h2 => h2.1).less zn) HON.out.1 HON.out.2)
   have HP := hid (fun (wv : World) (h : Hold None_ none w wv [.cst gx 40 #[.string tn, .string tt, .bool tb, .int .i64 te, .slice oA on oc, .bool tch, .slice pA pn pc, .slice qA qn qc, .slice rA rn rc, .slice kA kn kc, .slice aA an ac], .ro (TgIn d ⟨tn, tt, tb, te, ⟨oA, on, oc, ol⟩, tch, ⟨pA, pn, pc, pl⟩, ⟨qA, qn, qc, ql⟩, ⟨rA, rn, rc, rl⟩, ⟨kA, kn, kc, kl⟩, ⟨aA, an, ac, al⟩⟩)]) => names_ret ⟨pA, pn, pc, pl⟩ wv (((h.ro 1 rfl).imp fun w2 h2 => h2.2.1).less zn) HPN.out.1 HPN.out.2)
   have HQ := hid (fun (wv : World) (h : Hold None_ none w wv [.cst gx 40 #[.string tn, .string tt, .bool tb, .int .i64 te, .slice oA on oc, .bool tch, .slice pA pn pc, .slice qA qn qc, .slice rA rn rc, .slice kA kn kc, .slice aA an ac], .ro (TgIn d ⟨tn, tt, tb, te, ⟨oA, on, oc, ol⟩, tch, ⟨pA, pn, pc, pl⟩, ⟨qA, qn, qc, ql⟩, ⟨rA, rn, rc, rl⟩, ⟨kA, kn, kc, kl⟩, ⟨aA, an, ac, al⟩⟩)]) => names_ret ⟨qA, qn, qc, ql⟩ wv (((h.ro 1 rfl).imp fun w2 h2 => h2.2.2.1).less zn) HQN.out.1 HQN.out.2)
   go_upto_region 3 with fail
   go_cut [82] from 39 to 82 (fun v wx => ∃ bb : Bool, v = .bool bb ∧ Hold None_ none w wx [.cst gx 40 #[.string tn, .string tt, .bool tb, .int .i64 te, .slice oA on oc, .bool tch, .slice pA pn pc, .slice qA qn qc, .slice rA rn rc, .slice kA kn kc, .slice aA an ac], .ro (TgIn d ⟨tn, tt, tb, te, ⟨oA, on, oc, ol⟩, tch, ⟨pA, pn, pc, pl⟩, ⟨qA, qn, qc, ql⟩, ⟨rA, rn, rc, rl⟩, ⟨kA, kn, kc, kl⟩, ⟨aA, an, ac, al⟩⟩)])
   case first =>
    obtain ⟨cs, hcs⟩ : ∃ z : Bool, decide ((0 : Int) < (rn : Int)) = z := ⟨_, rfl⟩
    have hcs2 : decide (0 < rn) = cs := by rw [← hcs]; simp
    have e1 : decide ((1 : Int) < (rn : Int)) = false := by simp; omega
    have e12 : decide (1 < rn) = false := by simp; omega
    have e2 : decide ((1 : Int) < (kn : Int)) = false := by simp; omega
    have e22 : decide (1 < kn) = false := by simp; omega
    clear he hrn hkn
    cases tb <;> go_wp2_with (first
     | (go_at_call 162; go_must (refine (HW.out _ K0).mono ?_); rintro e w1 ⟨r, rfl, b1⟩; replace K0 := K0.call b1; replace F0 := K0.facts; simp only [factsL, cellsF, Nat.reduceAdd, zf, zl] at F0; clear b1)
     | (go_at_call 161; go_must (first | with_reducible refine (HO.out _ K0).mono ?_ | with_reducible refine (HP.out _ K0).mono ?_ | with_reducible refine (HQ.out _ K0).mono ?_); rintro e w1 ⟨r, rfl, b1⟩; replace K0 := K0.call b1; replace F0 := K0.facts; simp only [factsL, cellsF, Nat.reduceAdd, zf, zl] at F0; clear b1))
    all_goals (go_meet; exact ⟨_, rfl, K0⟩)
   case rest =>
    obtain ⟨bb, rfl, K1⟩ := hcut
    clear K0 F0 HW HO HP HQ
    have K0 := K1
    clear K1
    have F0 := K0.facts
    simp only [factsL, cellsF, Nat.reduceAdd, zf, zl] at F0
    cases bb
    ·go_wp2_with fail
     clear F0
     go_loopw [86] (fun iv wr => ∃ j : Nat, j ≤ rn ∧ iv = .int .i64 j ∧ Hold None_ none w wr [.cst gx 40 #[.string tn, .string tt, .bool tb, .int .i64 te, .slice oA on oc, .bool tch, .slice pA pn pc, .slice qA qn qc, .slice rA rn rc, .slice kA kn kc, .slice aA an ac], .ro (TgIn d ⟨tn, tt, tb, te, ⟨oA, on, oc, ol⟩, tch, ⟨pA, pn, pc, pl⟩, ⟨qA, qn, qc, ql⟩, ⟨rA, rn, rc, rl⟩, ⟨kA, kn, kc, kl⟩, ⟨aA, an, ac, al⟩⟩)]) (fun iv _ => rn - (intOf iv).toNat)
     case atStart => exact ⟨0, by omega, rfl, K0⟩
     case round =>
      clear K0
      obtain ⟨j, hj, rfl, H⟩ := hrel
      by_cases hlt : j < rn
      ·obtain ⟨⟨xt, xc, xlo, xhi⟩, hr⟩ := get_anyG HRL.out hlt
       obtain ⟨b, o, rfl, -, hc9, -⟩ := SlP.In.at_ (s := ⟨rA, rn, rc, rl⟩) (k := 4) (cel := Rk.cells) (P := fun _ _ => True) (H.ro 1 rfl).now.2.2.2.1 (by omega) (fun _ => rfl) hr
       have q0 := hc9 0 _ (by omega) rfl
       have q1 := hc9 1 _ (by omega) rfl
       have q2 := hc9 2 _ (by omega) rfl
       have q3 := hc9 3 _ (by omega) rfl
       simp only [Nat.add_zero] at q0 q1 q2 q3
       clear hc9 hr
       have K0 := H.alloc_cst #[.string xt, .string xc, .int .i64 xlo, .int .i64 xhi] 85
       obtain ⟨gk, hgk⟩ : ∃ g, g = wr.heap.size := ⟨_, rfl⟩
       rw [← hgk] at K0
       clear H
       go_upto_region 8 with fail
       rw [← hgk]
       have HGK := hid hgk
       clear hgk q0 q1 q2 q3
       generalize World.alloc _ _ = w1 at K0 ⊢
       have F0 := K0.facts
       simp only [factsL, cellsF, Nat.reduceAdd, zf, zl] at F0
       go_cut [109] from 90 to 109 (fun v wx => ∃ bb : Bool, v = .bool bb ∧ Hold None_ none w wx [.cst gk 85 #[.string xt, .string xc, .int .i64 xlo, .int .i64 xhi], .cst gx 40 #[.string tn, .string tt, .bool tb, .int .i64 te, .slice oA on oc, .bool tch, .slice pA pn pc, .slice qA qn qc, .slice (some ⟨b, o, none⟩) rn rc, .slice kA kn kc, .slice aA an ac], .ro (TgIn d ⟨tn, tt, tb, te, ⟨oA, on, oc, ol⟩, tch, ⟨pA, pn, pc, pl⟩, ⟨qA, qn, qc, ql⟩, ⟨some ⟨b, o, none⟩, rn, rc, rl⟩, ⟨kA, kn, kc, kl⟩, ⟨aA, an, ac, al⟩⟩)])
       case first =>
        obtain ⟨d1, hd1⟩ : ∃ z : Bool, (xlo == -9223372036854775808) = z := ⟨_, rfl⟩
        obtain ⟨d2, hd2⟩ : ∃ z : Bool, (xhi == -9223372036854775808) = z := ⟨_, rfl⟩
        go_wp2_with (go_at_call 160; go_must (refine (rvalidname_ret _ _).mono ?_); rintro e w1 ⟨r, rfl, b1⟩; replace K0 := K0.call b1; replace F0 := K0.facts; simp only [factsL, cellsF, Nat.reduceAdd, zf, zl] at F0; clear b1)
        all_goals (go_meet; exact ⟨_, rfl, K0⟩)
       case rest =>
        obtain ⟨bb, rfl, K1⟩ := hcut
        clear K0 F0
        cases bb
        ·go_wp2_with fail
         go_roundw
         case rel => exact ⟨j + 1, by omega, by go_num, K1.drop (List.sublist_cons_self _ _)⟩
         case measure => simp [intOf]; omega
        ·go_wp2_with fail
         go_ret
         exact ⟨_, rfl, K1.below, fun h => (nomatch h)⟩
      ·obtain rfl : rn = j := by omega
       have F0 := H.facts
       simp only [factsL, cellsF, Nat.reduceAdd, zf, zl] at F0
       go_wp2_with fail
       clear F0
       go_loopw [114] (fun iv wr => ∃ j : Nat, j ≤ an ∧ iv = .int .i64 j ∧ (∀ i a, i < j → al[i]? = some a → a.kind = 5 → a.sets.n = 1) ∧ Hold None_ none w wr [.cst gx 40 #[.string tn, .string tt, .bool tb, .int .i64 te, .slice oA on oc, .bool tch, .slice pA pn pc, .slice qA qn qc, .slice rA rn rc, .slice kA kn kc, .slice aA an ac], .ro (TgIn d ⟨tn, tt, tb, te, ⟨oA, on, oc, ol⟩, tch, ⟨pA, pn, pc, pl⟩, ⟨qA, qn, qc, ql⟩, ⟨rA, rn, rc, rl⟩, ⟨kA, kn, kc, kl⟩, ⟨aA, an, ac, al⟩⟩)]) (fun iv _ => an - (intOf iv).toNat)
       case atStart => exact ⟨0, by omega, rfl, fun i a h => absurd h (by omega), H⟩
       case round =>
        clear H
        obtain ⟨j, hj, rfl, hpre, H⟩ := hrel
        have HPRE := hid hpre
        clear hpre
        by_cases hlt : j < an
        ·obtain ⟨x, hr⟩ := get_anyG HAL.out hlt
         obtain ⟨b, o, rfl, -, hc9, -⟩ := SlP.In.at_ (s := ⟨aA, an, ac, al⟩) (k := 7) (cel := Ac.cells) (P := AcIn d) (H.ro 1 rfl).now.2.2.2.2.2 (by omega) (fun _ => rfl) hr
         have q0 := hc9 0 _ (by omega) rfl
         have q1 := hc9 1 _ (by omega) rfl
         have q2 := hc9 2 _ (by omega) rfl
         have q3 := hc9 3 _ (by omega) rfl
         have q4 := hc9 4 _ (by omega) rfl
         have q5 := hc9 5 _ (by omega) rfl
         have q6 := hc9 6 _ (by omega) rfl
         simp only [Nat.add_zero, SlP.v] at q0 q1 q2 q3 q4 q5 q6
         have hmx := List.mem_of_getElem? hr
         have HXR := hid hr
         clear hc9 hr
         have K0 := (H.alloc_cst #[.int .i64 x.kind, .string x.tab, .slice x.rows.A x.rows.n x.rows.c, .slice x.qs.A x.qs.n x.qs.c, .slice x.sets.A x.sets.n x.sets.c, .slice x.wh.A x.wh.n x.wh.c, .string x.text] 97)
         obtain ⟨gk, hgk⟩ : ∃ g, g = wr.heap.size := ⟨_, rfl⟩
         rw [← hgk] at K0
         clear H
         obtain ⟨d5, hd5⟩ : ∃ z : Bool, (x.kind == 5) = z := ⟨_, rfl⟩
         go_upto_region 15 with fail
         rw [← hgk]
         have HGK := hid hgk
         clear hgk q0 q1 q2 q3 q4 q5 q6 hd5
         generalize World.alloc _ _ = w1 at K0 ⊢
         have F0 := K0.facts
         simp only [factsL, cellsF, Nat.reduceAdd, zf, zl] at F0
         go_cut [154] from 121 to 154 (fun v wx => ∃ bb : Bool, v = .bool bb ∧ (bb = false → x.kind = 5 → x.sets.n = 1) ∧ Hold None_ none w wx [.cst gk 97 #[.int .i64 x.kind, .string x.tab, .slice x.rows.A x.rows.n x.rows.c, .slice x.qs.A x.qs.n x.qs.c, .slice x.sets.A x.sets.n x.sets.c, .slice x.wh.A x.wh.n x.wh.c, .string x.text], .cst gx 40 #[.string tn, .string tt, .bool tb, .int .i64 te, .slice oA on oc, .bool tch, .slice pA pn pc, .slice qA qn qc, .slice rA rn rc, .slice kA kn kc, .slice (some ⟨b, o, none⟩) an ac], .ro (TgIn d ⟨tn, tt, tb, te, ⟨oA, on, oc, ol⟩, tch, ⟨pA, pn, pc, pl⟩, ⟨qA, qn, qc, ql⟩, ⟨rA, rn, rc, rl⟩, ⟨kA, kn, kc, kl⟩, ⟨some ⟨b, o, none⟩, an, ac, al⟩⟩)])
         case first =>
          obtain ⟨d4, hd4⟩ : ∃ z : Bool, (x.kind != 4) = z := ⟨_, rfl⟩
          obtain ⟨d3, hd3⟩ : ∃ z : Bool, (te == 3) = z := ⟨_, rfl⟩
          cases tb <;> cases tch <;> cases d5 <;> go_wp2_with (go_at_call 163; go_must (refine (vaction_ret d x _ (((K0.ro 2 rfl).imp fun w2 h2 => h2.2.2.2.2.2.2 x hmx).less zn) (HG.out.a.2.2 x hmx)).mono ?_); rintro e w1 ⟨r, rfl, b1, hr5⟩; (have HR5 := hid hr5); clear hr5; replace K0 := K0.call b1; replace F0 := K0.facts; simp only [factsL, cellsF, Nat.reduceAdd, zf, zl] at F0; clear b1)
          all_goals (go_meet; exact ⟨_, rfl, by first | (intro h; exact absurd h (by decide)) | (intro _; exact HR5.out (by first | rfl | assumption)) | (intro h; exact HR5.out (by simpa using h)), K0⟩)
         case rest =>
          obtain ⟨bb, rfl, hb5, K1⟩ := hcut
          have HB5 := hid hb5
          clear K0 F0 hb5
          cases bb
          ·go_wp2_with fail
           go_roundw
           case rel => exact ⟨j + 1, by omega, by go_num, fun i a hi ha => by
            rcases Nat.lt_or_ge i j with h1 | h1
            ·exact HPRE.out i a h1 ha
            ·obtain rfl : i = j := by omega
             rw [HXR.out] at ha
             obtain rfl := Option.some.inj ha
             exact HB5.out rfl, K1.drop (List.sublist_cons_self _ _)⟩
           case measure => simp [intOf]; omega
          ·go_wp2_with fail
           go_ret
           exact ⟨_, rfl, K1.below, fun h => (nomatch h)⟩
        ·obtain rfl : an = j := by omega
         have HB := hid H.below
         have F0 := H.facts
         simp only [factsL, cellsF, Nat.reduceAdd, zf, zl] at F0
         go_wp2_with fail
         all_goals (go_ret; exact ⟨_, rfl, HB.out, fun _ a ha => by
          obtain ⟨i, hi⟩ := List.mem_iff_getElem?.1 ha
          exact HPRE.out i a (by rw [← HAL.out]; exact (List.getElem?_eq_some_iff.1 hi).1) hi⟩)
    ·go_wp2_with fail
     go_ret
     exact ⟨_, rfl, K0.below, fun h => (nomatch h)⟩
  ·go_wp2_with fail
   go_ret
   exact ⟨_, rfl, K0.below, fun h => (nomatch h)⟩
end Go.Proofs.YtnbbllkbefagmaaGreatDoor

namespace Go.Proofs.YtnbbllkbefagmaaGreatDoor
open Go.RowKit
set_option linter.unusedVariables false
set_option linter.unusedSimpArgs false
end Go.Proofs.YtnbbllkbefagmaaGreatDoor

namespace Go.Proofs.YtnbbllkbefagmaaGreatDoor
open Go.RowKit
set_option linter.unusedVariables false
set_option linter.unusedSimpArgs false

end Go.Proofs.YtnbbllkbefagmaaGreatDoor

namespace Go.Proofs.YtnbbllkbefagmaaGreatDoor
open Go.RowKit Go.Maps
set_option linter.unusedVariables false
set_option linter.unusedSimpArgs false

section
variable {nm : ByteArray} {cs : List Col} {nx : Int} {rs : List Row} {ins : List (List Vl)} {dels : List Int} {us : List Upd}
end
end Go.Proofs.YtnbbllkbefagmaaGreatDoor

namespace Go.Proofs.YtnbbllkbefagmaaGreatDoor
open Go.RowKit
set_option linter.unusedVariables false
set_option linter.unusedSimpArgs false

end Go.Proofs.YtnbbllkbefagmaaGreatDoor

namespace Go.Proofs.YtnbbllkbefagmaaGreatDoor
open Go.RowKit
set_option linter.unusedVariables false
set_option linter.unusedSimpArgs false

end Go.Proofs.YtnbbllkbefagmaaGreatDoor

namespace Go.Proofs.YtnbbllkbefagmaaGreatDoor
open Go.RowKit
set_option linter.unusedVariables false
set_option linter.unusedSimpArgs false

end Go.Proofs.YtnbbllkbefagmaaGreatDoor

namespace Go.Proofs.YtnbbllkbefagmaaGreatDoor
open Go.RowKit
set_option linter.unusedVariables false
set_option linter.unusedSimpArgs false

end Go.Proofs.YtnbbllkbefagmaaGreatDoor

namespace Go.Proofs.YtnbbllkbefagmaaGreatDoor
open Go.RowKit
set_option linter.unusedVariables false
set_option linter.unusedSimpArgs false

end Go.Proofs.YtnbbllkbefagmaaGreatDoor

namespace Go.Proofs.YtnbbllkbefagmaaGreatDoor
open Go.RowKit
set_option linter.unusedVariables false
set_option linter.unusedSimpArgs false

end Go.Proofs.YtnbbllkbefagmaaGreatDoor

namespace Go.Proofs.YtnbbllkbefagmaaGreatDoor
open Go.RowKit
set_option linter.unusedVariables false
set_option linter.unusedSimpArgs false

end Go.Proofs.YtnbbllkbefagmaaGreatDoor

namespace Go.Proofs.YtnbbllkbefagmaaGreatDoor
open Go.RowKit
set_option linter.unusedVariables false
set_option linter.unusedSimpArgs false

end Go.Proofs.YtnbbllkbefagmaaGreatDoor

namespace Go.Proofs.YtnbbllkbefagmaaGreatDoor
open Go.RowKit
set_option linter.unusedVariables false
set_option linter.unusedSimpArgs false

end Go.Proofs.YtnbbllkbefagmaaGreatDoor

namespace Go.Proofs.YtnbbllkbefagmaaGreatDoor
open Go.RowKit
set_option linter.unusedVariables false
set_option linter.unusedSimpArgs false

/-- A difference: the table's name, the rows that came, those that left, the updates. -/
structure Dl where
 nm : ByteArray
 ins : List Row
 del : List Row
 upd : List Upd
deriving DecidableEq
/-- the rows of l that rs does not have -/
def offR (rs l : List Row) : List Row := l.filter fun r => (getR rs r.1).isNone
/-- the rows of l that rs has with other values -/
def turnR (rs l : List Row) : List Upd := l.filterMap fun r => match getR rs r.1 with
 | some o => if o = r.2 then none else some (r.1, o, r.2)
 | none => none
theorem offR_hit {rs l : List Row} {j : Nat} {r : Row} (hr : l[j]? = some r) (h : getR rs r.1 = none) : offR rs (l.take (j + 1)) = offR rs (l.take j) ++ [r] := by
 unfold offR
 rw [List.take_add_one, hr, Option.toList_some, List.filter_append]
 simp [List.filter_cons, h]
theorem offR_miss {rs l : List Row} {j : Nat} {r : Row} {v : List Vl} (hr : l[j]? = some r) (h : getR rs r.1 = some v) : offR rs (l.take (j + 1)) = offR rs (l.take j) := by
 unfold offR
 rw [List.take_add_one, hr, Option.toList_some, List.filter_append]
 simp [List.filter_cons, h]
theorem turnR_none {rs l : List Row} {j : Nat} {r : Row} (hr : l[j]? = some r) (h : getR rs r.1 = none) : turnR rs (l.take (j + 1)) = turnR rs (l.take j) := by
 unfold turnR
 rw [List.take_add_one, hr, Option.toList_some, List.filterMap_append]
 simp [h]
theorem turnR_same {rs l : List Row} {j : Nat} {r : Row} (hr : l[j]? = some r) (h : getR rs r.1 = some r.2) : turnR rs (l.take (j + 1)) = turnR rs (l.take j) := by
 unfold turnR
 rw [List.take_add_one, hr, Option.toList_some, List.filterMap_append]
 simp [h]
theorem turnR_turn {rs l : List Row} {j : Nat} {r : Row} {o : List Vl} (hr : l[j]? = some r) (h : getR rs r.1 = some o) (hne : o ≠ r.2) : turnR rs (l.take (j + 1)) = turnR rs (l.take j) ++ [(r.1, o, r.2)] := by
 unfold turnR
 rw [List.take_add_one, hr, Option.toList_some, List.filterMap_append]
 simp [h, hne]
theorem getR_of_mem : ∀ {rs : List Row} {r : Row}, (rs.map (·.1)).Pairwise (· < ·) → r ∈ rs → getR rs r.1 = some r.2
 | x :: rs, r, ha, hr => by
  rw [List.map_cons, List.pairwise_cons] at ha
  rcases List.mem_cons.1 hr with rfl | hr
  ·simp [getR]
  ·have h1 := ha.1 r.1 (List.mem_map_of_mem hr)
   have h2 := getR_of_mem ha.2 hr
   unfold getR at h2 ⊢
   rw [List.find?_cons, show (x.1 == r.1) = false by rw [beq_eq_false_iff_ne]; omega]
   exact h2
/-- the merge's state: the rows of a ahead of p lie below all rows of b from j on, the others above all rows of b ahead of j -/
structure Mg (a b : List Row) (j p : Nat) : Prop where
 aasc : (a.map (·.1)).Pairwise (· < ·)
 basc : (b.map (·.1)).Pairwise (· < ·)
 low : ∀ x ∈ a.take p, ∀ y ∈ b.drop j, x.1 < y.1
 up : ∀ x ∈ a.drop p, ∀ y ∈ b.take j, y.1 < x.1
theorem asc_at {l : List Row} (h : (l.map (·.1)).Pairwise (· < ·)) {i j : Nat} {x y : Row} (hx : l[i]? = some x) (hy : l[j]? = some y) (hij : i < j) : x.1 < y.1 := by
 rw [List.pairwise_iff_getElem] at h
 obtain ⟨hi, rfl⟩ := List.getElem?_eq_some_iff.1 hx
 obtain ⟨hj, rfl⟩ := List.getElem?_eq_some_iff.1 hy
 have := h i j (by simpa using hi) (by simpa using hj) hij
 simpa using this
theorem mem_drop_at {α : Type} {l : List α} {k : Nat} {x : α} (h : x ∈ l.drop k) : ∃ i, k ≤ i ∧ l[i]? = some x := by
 obtain ⟨i, hi⟩ := List.getElem?_of_mem h
 rw [List.getElem?_drop] at hi
 exact ⟨k + i, by omega, hi⟩
theorem mem_take_at {α : Type} {l : List α} {k : Nat} {x : α} (h : x ∈ l.take k) : ∃ i, i < k ∧ l[i]? = some x := by
 obtain ⟨i, hi⟩ := List.getElem?_of_mem h
 rw [List.getElem?_take] at hi
 split at hi
 ·exact ⟨i, by assumption, hi⟩
 ·cases hi
theorem mem_of_drop_at {α : Type} {l : List α} {k i : Nat} {x : α} (hk : k ≤ i) (h : l[i]? = some x) : x ∈ l.drop k := List.mem_of_getElem? (i := i - k) (by rw [List.getElem?_drop, show k + (i - k) = i by omega]; exact h)
theorem mem_of_take_at {α : Type} {l : List α} {k i : Nat} {x : α} (hk : i < k) (h : l[i]? = some x) : x ∈ l.take k := List.mem_of_getElem? (i := i) (by rw [List.getElem?_take, if_pos hk]; exact h)
theorem Mg.zero {a b : List Row} (ha : (a.map (·.1)).Pairwise (· < ·)) (hb : (b.map (·.1)).Pairwise (· < ·)) : Mg a b 0 0 := ⟨ha, hb, fun x hx => by simp at hx, fun x _ y hy => by simp at hy⟩
/-- a row of a that b lacks -/
theorem Mg.left {a b : List Row} {j p : Nat} (h : Mg a b j p) {x r : Row} (hx : a[p]? = some x) (hr : b[j]? = some r) (hlt : x.1 < r.1) : Mg a b j (p + 1) ∧ getR b x.1 = none := by
 refine ⟨⟨h.aasc, h.basc, fun z hz y hy => ?_, fun z hz y hy => ?_⟩, getR_none fun y hy e => ?_⟩
 ·obtain ⟨i, hi, hzi⟩ := mem_take_at hz
  rcases Nat.lt_or_ge i p with hip | hip
  ·exact h.low z (mem_of_take_at hip hzi) y hy
  ·obtain rfl : i = p := by omega
   rw [hx] at hzi; injection hzi with hzi; subst hzi
   obtain ⟨k, hk, hyk⟩ := mem_drop_at hy
   rcases Nat.eq_or_lt_of_le hk with e | e
   ·subst e; rw [hr] at hyk; injection hyk with hyk; subst hyk; exact hlt
   ·have := asc_at h.basc hr hyk e; omega
 ·obtain ⟨i, hi, hzi⟩ := mem_drop_at hz
  exact h.up z (mem_of_drop_at (by omega) hzi) y hy
 ·obtain ⟨k, hk⟩ := List.getElem?_of_mem hy
  rcases Nat.lt_or_ge k j with hkj | hkj
  ·have := h.up x (mem_of_drop_at (Nat.le_refl _) hx) y (mem_of_take_at hkj hk); omega
  ·rcases Nat.eq_or_lt_of_le hkj with e2 | e2
   ·subst e2; rw [hr] at hk; injection hk with hk; subst hk; omega
   ·have := asc_at h.basc hr hk e2; omega
/-- a row of both -/
theorem Mg.both {a b : List Row} {j p : Nat} (h : Mg a b j p) {x r : Row} (hx : a[p]? = some x) (hr : b[j]? = some r) (he : x.1 = r.1) : Mg a b (j + 1) (p + 1) ∧ getR b x.1 = some r.2 ∧ getR a r.1 = some x.2 := by
 refine ⟨⟨h.aasc, h.basc, fun z hz y hy => ?_, fun z hz y hy => ?_⟩, ?_, ?_⟩
 ·obtain ⟨i, hi, hzi⟩ := mem_take_at hz
  obtain ⟨k, hk, hyk⟩ := mem_drop_at hy
  have h1 := asc_at h.basc hr hyk (by omega)
  rcases Nat.lt_or_ge i p with hip | hip
  ·have := asc_at h.aasc hzi hx hip; omega
  ·obtain rfl : i = p := by omega
   rw [hx] at hzi; injection hzi with hzi; subst hzi; omega
 ·obtain ⟨i, hi, hzi⟩ := mem_drop_at hz
  obtain ⟨k, hk, hyk⟩ := mem_take_at hy
  have h1 := asc_at h.aasc hx hzi (by omega)
  rcases Nat.lt_or_ge k j with hkj | hkj
  ·have := asc_at h.basc hyk hr hkj; omega
  ·obtain rfl : k = j := by omega
   rw [hr] at hyk; injection hyk with hyk; subst hyk; omega
 ·rw [he]; exact getR_of_mem h.basc (List.mem_of_getElem? hr)
 ·rw [← he]; exact getR_of_mem h.aasc (List.mem_of_getElem? hx)
/-- a row of b that a lacks -/
theorem Mg.right {a b : List Row} {j p : Nat} (h : Mg a b j p) {r : Row} (hr : b[j]? = some r) (hp : ∀ x, a[p]? = some x → r.1 < x.1) : Mg a b (j + 1) p ∧ getR a r.1 = none := by
 have hup : ∀ i z, p ≤ i → a[i]? = some z → r.1 < z.1 := fun i z hi hz => by
  rcases Nat.eq_or_lt_of_le hi with e | e
  ·subst e; exact hp z hz
  ·have hl : p < a.length := by have := (List.getElem?_eq_some_iff.1 hz).1; omega
   have h1 := hp _ (List.getElem?_eq_getElem hl)
   have h2 := asc_at h.aasc (List.getElem?_eq_getElem hl) hz e
   omega
 refine ⟨⟨h.aasc, h.basc, fun z hz y hy => ?_, fun z hz y hy => ?_⟩, getR_none fun y hy e => ?_⟩
 ·obtain ⟨k, hk, hyk⟩ := mem_drop_at hy
  exact h.low z hz y (mem_of_drop_at (by omega) hyk)
 ·obtain ⟨i, hi, hzi⟩ := mem_drop_at hz
  obtain ⟨k, hk, hyk⟩ := mem_take_at hy
  have h1 := hup i z hi hzi
  rcases Nat.lt_or_ge k j with hkj | hkj
  ·have := asc_at h.basc hyk hr hkj; omega
  ·obtain rfl : k = j := by omega
   rw [hr] at hyk; injection hyk with hyk; subst hyk; omega
 ·obtain ⟨i, hi⟩ := List.getElem?_of_mem hy
  rcases Nat.lt_or_ge i p with hip | hip
  ·have := h.low y (mem_of_take_at hip hi) r (mem_of_drop_at (Nat.le_refl _) hr); omega
  ·have := hup i y hip hi; omega
/-- what is left of a, b lacks -/
theorem Mg.last {a b : List Row} {j p : Nat} (h : Mg a b j p) (hj : b.length ≤ j) {i : Nat} {x : Row} (hi : p ≤ i) (hx : a[i]? = some x) : getR b x.1 = none := getR_none fun y hy e => by
 obtain ⟨k, hk⟩ := List.getElem?_of_mem hy
 have := (List.getElem?_eq_some_iff.1 hk).1
 have := h.up x (mem_of_drop_at hi hx) y (mem_of_take_at (by omega) hk)
 omega
/-- the state of the merge: j rows of b and p rows of a are done -/
structure BSt (a b : Tb) (j p : Nat) (li ld : List Rw) (lu : List Pr) : Prop where
 va : tabB a.nm a.cs a.nx a.rs = true
 vb : tabB b.nm b.cs b.nx b.rs = true
 eq : a.nm = b.nm ∧ a.cs = b.cs
 nx : a.nx ≤ b.nx
 mg : Mg a.rs b.rs j p
 ins : li.map Rw.row = offR a.rs (b.rs.take j)
 del : ld.map Rw.row = offR b.rs (a.rs.take p)
 upd : lu.map Pr.upd = turnR a.rs (b.rs.take j)
 new : ∀ r ∈ b.rs.take j, (getR a.rs r.1).isSome = true ∨ a.nx ≤ r.1
 ok1 : ∀ r ∈ li, r.ok
 ok2 : ∀ r ∈ ld, r.ok
 ok3 : ∀ p ∈ lu, p.ok
theorem tabB_asc {t : Tb} (h : tabB t.nm t.cs t.nx t.rs = true) : (t.rs.map (·.1)).Pairwise (· < ·) := (okR_asc (tabB_ok h).2.2.2.2.1).1
theorem BSt.zero {a b : Tb} (va : tabB a.nm a.cs a.nx a.rs = true) (vb : tabB b.nm b.cs b.nx b.rs = true) (eq : a.nm = b.nm ∧ a.cs = b.cs) (nx : a.nx ≤ b.nx) : BSt a b 0 0 [] [] [] :=
 ⟨va, vb, eq, nx, Mg.zero (tabB_asc va) (tabB_asc vb), rfl, rfl, rfl, fun r hr => by simp at hr, fun r hr => (nomatch hr), fun r hr => (nomatch hr), fun r hr => (nomatch hr)⟩
theorem okSnoc {α : Type} {P : α → Prop} {l : List α} {x : α} (h : ∀ r ∈ l, P r) (k : P x) : ∀ r ∈ l ++ [x], P r := fun r hr => by
 rcases List.mem_append.1 hr with hr | hr
 ·exact h r hr
 ·simp at hr; subst hr; exact k
theorem all_take {P : Row → Prop} {l : List Row} {j : Nat} {r : Row} (h : ∀ x ∈ l.take j, P x) (hr : l[j]? = some r) (k : P r) : ∀ x ∈ l.take (j + 1), P x := by
 rw [List.take_add_one, hr, Option.toList_some]
 exact okSnoc h k
section
variable {a b : Tb} {j p : Nat} {li ld : List Rw} {lu : List Pr}
theorem BSt.left (h : BSt a b j p li ld lu) {x r : Row} (hx : a.rs[p]? = some x) (hr : b.rs[j]? = some r) (hlt : x.1 < r.1) {y : Rw} (hy : y.row = x) (hk : y.ok) : BSt a b j (p + 1) li (ld ++ [y]) lu := by
 obtain ⟨h1, h2⟩ := h.mg.left hx hr hlt
 exact ⟨h.va, h.vb, h.eq, h.nx, h1, h.ins, by rw [List.map_append, h.del, offR_hit hx h2, ← hy]; rfl, h.upd, h.new, h.ok1, okSnoc h.ok2 hk, h.ok3⟩
theorem BSt.same (h : BSt a b j p li ld lu) {x r : Row} (hx : a.rs[p]? = some x) (hr : b.rs[j]? = some r) (he : x.1 = r.1) (hv : x.2 = r.2) : BSt a b (j + 1) (p + 1) li ld lu := by
 obtain ⟨h1, h2, h3⟩ := h.mg.both hx hr he
 exact ⟨h.va, h.vb, h.eq, h.nx, h1, by rw [h.ins, offR_miss hr h3], by rw [h.del, offR_miss hx h2], by rw [h.upd, turnR_same hr (by rw [h3, hv])], all_take h.new hr (.inl (by rw [h3]; rfl)), h.ok1, h.ok2, h.ok3⟩
theorem BSt.turn (h : BSt a b j p li ld lu) {x r : Row} (hx : a.rs[p]? = some x) (hr : b.rs[j]? = some r) (he : x.1 = r.1) (hv : x.2 ≠ r.2) {q : Pr} (hq : q.upd = (r.1, x.2, r.2)) (hk : q.ok) : BSt a b (j + 1) (p + 1) li ld (lu ++ [q]) := by
 obtain ⟨h1, h2, h3⟩ := h.mg.both hx hr he
 exact ⟨h.va, h.vb, h.eq, h.nx, h1, by rw [h.ins, offR_miss hr h3], by rw [h.del, offR_miss hx h2], by rw [List.map_append, h.upd, turnR_turn hr h3 hv, ← hq]; rfl, all_take h.new hr (.inl (by rw [h3]; rfl)), h.ok1, h.ok2, okSnoc h.ok3 hk⟩
theorem BSt.right (h : BSt a b j p li ld lu) {r : Row} (hr : b.rs[j]? = some r) (hp : ∀ x, a.rs[p]? = some x → r.1 < x.1) (hn : a.nx ≤ r.1) {y : Rw} (hy : y.row = r) (hk : y.ok) : BSt a b (j + 1) p (li ++ [y]) ld lu := by
 obtain ⟨h1, h2⟩ := h.mg.right hr hp
 exact ⟨h.va, h.vb, h.eq, h.nx, h1, by rw [List.map_append, h.ins, offR_hit hr h2, ← hy]; rfl, h.del, by rw [h.upd, turnR_none hr h2], all_take h.new hr (.inr hn), okSnoc h.ok1 hk, h.ok2, h.ok3⟩
theorem BSt.tail (h : BSt a b j p li ld lu) (hj : b.rs.length ≤ j) {x : Row} (hx : a.rs[p]? = some x) {y : Rw} (hy : y.row = x) (hk : y.ok) : BSt a b j (p + 1) li (ld ++ [y]) lu := by
 have h2 := h.mg.last hj (Nat.le_refl _) hx
 refine ⟨h.va, h.vb, h.eq, h.nx, ⟨h.mg.aasc, h.mg.basc, fun z _ y hy => ?_, fun z hz y hy => ?_⟩, h.ins, by rw [List.map_append, h.del, offR_hit hx h2, ← hy]; rfl, h.upd, h.new, h.ok1, okSnoc h.ok2 hk, h.ok3⟩
 ·rw [List.drop_of_length_le hj] at hy; cases hy
 ·obtain ⟨i, hi, hzi⟩ := mem_drop_at hz
  exact h.mg.up z (mem_of_drop_at (by omega) hzi) y hy
end
/-- the state of the reference's loops: j rows of b, then p rows of a are done -/
structure RSt (a b : Tb) (j p : Nat) (li ld : List Rw) (lu : List Pr) : Prop where
 va : tabB a.nm a.cs a.nx a.rs = true
 vb : tabB b.nm b.cs b.nx b.rs = true
 eq : a.nm = b.nm ∧ a.cs = b.cs
 nx : a.nx ≤ b.nx
 ins : li.map Rw.row = offR a.rs (b.rs.take j)
 del : ld.map Rw.row = offR b.rs (a.rs.take p)
 upd : lu.map Pr.upd = turnR a.rs (b.rs.take j)
 new : ∀ r ∈ b.rs.take j, (getR a.rs r.1).isSome = true ∨ a.nx ≤ r.1
 ok1 : ∀ r ∈ li, r.ok
 ok2 : ∀ r ∈ ld, r.ok
 ok3 : ∀ p ∈ lu, p.ok
theorem RSt.zero {a b : Tb} (va : tabB a.nm a.cs a.nx a.rs = true) (vb : tabB b.nm b.cs b.nx b.rs = true) (eq : a.nm = b.nm ∧ a.cs = b.cs) (nx : a.nx ≤ b.nx) : RSt a b 0 0 [] [] [] :=
 ⟨va, vb, eq, nx, rfl, rfl, rfl, fun r hr => by simp at hr, fun r hr => (nomatch hr), fun r hr => (nomatch hr), fun r hr => (nomatch hr)⟩
section
variable {a b : Tb} {j p : Nat} {li ld : List Rw} {lu : List Pr}
theorem RSt.same (h : RSt a b j p li ld lu) {r : Row} {o : List Vl} (hr : b.rs[j]? = some r) (h2 : getR a.rs r.1 = some o) (ho : o = r.2) : RSt a b (j + 1) p li ld lu := by
 subst ho
 exact ⟨h.va, h.vb, h.eq, h.nx, by rw [h.ins, offR_miss hr h2], h.del, by rw [h.upd, turnR_same hr h2], all_take h.new hr (.inl (by rw [h2]; rfl)), h.ok1, h.ok2, h.ok3⟩
theorem RSt.turn (h : RSt a b j p li ld lu) {r : Row} {o : List Vl} (hr : b.rs[j]? = some r) (h2 : getR a.rs r.1 = some o) (ho : o ≠ r.2) {q : Pr} (hq : q.upd = (r.1, o, r.2)) (hk : q.ok) : RSt a b (j + 1) p li ld (lu ++ [q]) :=
 ⟨h.va, h.vb, h.eq, h.nx, by rw [h.ins, offR_miss hr h2], h.del, by rw [List.map_append, h.upd, turnR_turn hr h2 ho, ← hq]; rfl, all_take h.new hr (.inl (by rw [h2]; rfl)), h.ok1, h.ok2, okSnoc h.ok3 hk⟩
theorem RSt.left (h : RSt a b j p li ld lu) {x : Row} (hx : a.rs[p]? = some x) (h2 : getR b.rs x.1 = none) {y : Rw} (hy : y.row = x) (hk : y.ok) : RSt a b j (p + 1) li (ld ++ [y]) lu :=
 ⟨h.va, h.vb, h.eq, h.nx, h.ins, by rw [List.map_append, h.del, offR_hit hx h2, ← hy]; rfl, h.upd, h.new, h.ok1, okSnoc h.ok2 hk, h.ok3⟩
theorem RSt.keep (h : RSt a b j p li ld lu) {x : Row} {v : List Vl} (hx : a.rs[p]? = some x) (h2 : getR b.rs x.1 = some v) : RSt a b j (p + 1) li ld lu :=
 ⟨h.va, h.vb, h.eq, h.nx, h.ins, by rw [h.del, offR_miss hx h2], h.upd, h.new, h.ok1, h.ok2, h.ok3⟩
end
end Go.Proofs.YtnbbllkbefagmaaGreatDoor

namespace Go.Proofs.YtnbbllkbefagmaaGreatDoor
open Go.RowKit
set_option linter.unusedVariables false
set_option linter.unusedSimpArgs false

/-- the second table is the first one some changes later -/
def LaterOk (t t' : Tb) : Prop := t'.nm = t.nm ∧ t'.cs = t.cs ∧ t.nx ≤ t'.nx ∧ ∀ r ∈ t'.rs, (getR t.rs r.1).isSome = true ∨ t.nx ≤ r.1
theorem getR_isSome {rs : List Row} {id : Int} (h : id ∈ rs.map (·.1)) : (getR rs id).isSome = true := by
 unfold getR
 rw [Option.isSome_map, List.find?_isSome]
 obtain ⟨x, hx, rfl⟩ := List.mem_map.1 h
 exact ⟨x, hx, by simp⟩
theorem LaterOk.refl (t : Tb) : LaterOk t t := ⟨rfl, rfl, Int.le_refl _, fun r hr => .inl (getR_isSome (List.mem_map_of_mem (f := fun x : Row => x.1) hr))⟩
theorem LaterOk.trans {a b c : Tb} (h : LaterOk a b) (k : LaterOk b c) : LaterOk a c := by
 obtain ⟨h1, h2, h3, h4⟩ := h
 obtain ⟨k1, k2, k3, k4⟩ := k
 refine ⟨k1.trans h1, k2.trans h2, by omega, fun r hr => ?_⟩
 rcases k4 r hr with h5 | h5
 ·obtain ⟨x, hx, he⟩ := List.mem_map.1 (getR_some h5)
  rcases h4 x hx with h6 | h6
  ·exact .inl (by rw [← he]; exact h6)
  ·exact .inr (by rw [← he]; exact h6)
 ·exact .inr (by omega)
theorem ApOk.later {nm : ByteArray} {cs : List Col} {nx : Int} {rs : List Row} {ins : List (List Vl)} {dels : List Int} {us : List Upd} {T : Tb} (h : ApOk nm cs nx rs ins dels us T) : LaterOk ⟨nm, cs, nx, rs⟩ T := by
 rw [h.tb]
 refine ⟨rfl, rfl, by show nx ≤ nx + (ins.length : Int); omega, fun r hr => ?_⟩
 rcases List.mem_append.1 hr with hr | hr
 ·obtain ⟨y, hy, rfl⟩ := List.mem_map.1 hr
  have h1 : getR rs y.1 |>.isSome := getR_isSome (List.mem_map_of_mem (f := fun x : Row => x.1) (List.mem_filter.1 hy).1)
  exact .inl h1
 ·right
  unfold insR at hr
  obtain ⟨p, hp, rfl⟩ := List.mem_map.1 hr
  show nx ≤ nx + _
  omega
end Go.Proofs.YtnbbllkbefagmaaGreatDoor

namespace Go.Proofs.YtnbbllkbefagmaaGreatDoor
open Go.RowKit
set_option linter.unusedVariables false
set_option linter.unusedSimpArgs false
set_option linter.unusedSectionVars false

section
variable {a b : Tb} (ha : tabB a.nm a.cs a.nx a.rs = true) (hb : tabB b.nm b.cs b.nx b.rs = true) (hl : LaterOk a b)
include ha hb hl
end
end Go.Proofs.YtnbbllkbefagmaaGreatDoor

namespace Go.Proofs.YtnbbllkbefagmaaGreatDoor
open Go.RowKit
set_option linter.unusedVariables false
set_option linter.unusedSimpArgs false

/-- An entry: the table's name, its next number of before, the numbers that came, the rows that left, the rows of before that turned. -/
structure Ud where
 nm : ByteArray
 nx : Int
 ins : List Int
 del : List Row
 upd : List Row
deriving DecidableEq
section
variable {a b : Tb} (ha : (a.rs.map (·.1)).Pairwise (· < ·)) (hb : (b.rs.map (·.1)).Pairwise (· < ·))
include ha hb
omit ha hb in
omit ha hb in
end
end Go.Proofs.YtnbbllkbefagmaaGreatDoor

namespace Go.Proofs.YtnbbllkbefagmaaGreatDoor
open Go.RowKit
set_option linter.unusedVariables false
set_option linter.unusedSimpArgs false

structure Ue where
 nm : ByteArray
 nx : Int
 I : Option Addr
 ni : Nat
 ci : Nat
 D : Option Addr
 nd : Nat
 cd : Nat
 U : Option Addr
 nu : Nat
 cu : Nat
 li : List Int
 ld : List Rw
 lu : List Rw
def Ue.cells (x : Ue) : List Value := [.string x.nm, .int .i64 x.nx, .slice x.I x.ni x.ci, .slice x.D x.nd x.cd, .slice x.U x.nu x.cu]
def Ue.val (x : Ue) : Value := .agg #[.string x.nm, .int .i64 x.nx, .slice x.I x.ni x.ci, .slice x.D x.nd x.cd, .slice x.U x.nu x.cu]
def UeIn (x : Ue) (w : World) : Prop := IsIn x.I x.ni x.li w ∧ RwsIn x.D x.nd x.ld w ∧ RwsIn x.U x.nu x.lu w
/-- an entry within limits: lists of at most N, rows of at most K values -/
structure Ue.good (x : Ue) (N K : Nat) : Prop where
 i : x.ni ≤ N
 d : x.nd ≤ N
 u : x.nu ≤ N
 ci : x.ni ≤ x.ci ∧ x.ci ≤ 9223372036854775807
 cd : x.nd ≤ x.cd ∧ x.cd ≤ 9223372036854775807
 cu : x.nu ≤ x.cu ∧ x.cu ≤ 9223372036854775807
 li : ∀ n ∈ x.li, I64 n
 ld : ∀ r ∈ x.ld, r.ok ∧ r.n ≤ K
 lu : ∀ r ∈ x.lu, r.ok ∧ r.n ≤ K
def ueCells (l : List Ue) : List Value := l.flatMap Ue.cells
theorem ueCells_len (l : List Ue) : (ueCells l).length = l.length * 5 := flat_len _ 5 (fun _ => rfl) l
def UesIn (A : Option Addr) (n : Nat) (l : List Ue) (w : World) : Prop := SlR 5 A n (ueCells l) w ∧ ∀ x ∈ l, UeIn x w
theorem UesIn.len {w : World} {A : Option Addr} {n : Nat} {l : List Ue} (h : UesIn A n l w) : l.length = n := by
 have := (show Rd w w.heap.size 5 A n (ueCells l) from h.1).1
 rw [ueCells_len] at this
 omega
theorem UesIn.at_ {w : World} {A : Option Addr} {n : Nat} {l : List Ue} (h : UesIn A n l w) {k : Nat} {x : Ue} (hx : l[k]? = some x) :
  ∃ b o, A = some ⟨b, o, none⟩ ∧ b < w.heap.size ∧ w.cell? ⟨b, o + k * 5, none⟩ = some (.string x.nm) ∧ w.cell? ⟨b, o + k * 5 + 1, none⟩ = some (.int .i64 x.nx) ∧ w.cell? ⟨b, o + k * 5 + 2, none⟩ = some (.slice x.I x.ni x.ci) ∧ w.cell? ⟨b, o + k * 5 + 3, none⟩ = some (.slice x.D x.nd x.cd) ∧ w.cell? ⟨b, o + k * 5 + 4, none⟩ = some (.slice x.U x.nu x.cu) ∧ UeIn x w := by
 have hk : k < n := by rw [← h.len]; exact (List.getElem?_eq_some_iff.1 hx).1
 obtain ⟨b, o, e, hb, hc⟩ := (show Rd w w.heap.size 5 A n (ueCells l) from h.1).2 (by omega)
 exact ⟨b, o, e, hb, hc _ _ (flat_get Ue.cells 5 (fun _ => rfl) l k 0 x (by omega) hx), hc _ _ (flat_get Ue.cells 5 (fun _ => rfl) l k 1 x (by omega) hx), hc _ _ (flat_get Ue.cells 5 (fun _ => rfl) l k 2 x (by omega) hx), hc _ _ (flat_get Ue.cells 5 (fun _ => rfl) l k 3 x (by omega) hx), hc _ _ (flat_get Ue.cells 5 (fun _ => rfl) l k 4 x (by omega) hx), h.2 x (List.mem_of_getElem? hx)⟩
theorem teCells_snoc (l : List Te) (x : Te) : teCells (l ++ [x]) = teCells l ++ x.cells := by simp [teCells]
end Go.Proofs.YtnbbllkbefagmaaGreatDoor

namespace Go.Proofs.YtnbbllkbefagmaaGreatDoor
open Go.RowKit
set_option linter.unusedVariables false
set_option linter.unusedSimpArgs false

end Go.Proofs.YtnbbllkbefagmaaGreatDoor

namespace Go.Proofs.YtnbbllkbefagmaaGreatDoor
open Go.RowKit
set_option linter.unusedVariables false
set_option linter.unusedSimpArgs false

end Go.Proofs.YtnbbllkbefagmaaGreatDoor

namespace Go.Proofs.YtnbbllkbefagmaaGreatDoor
open Go.RowKit
set_option linter.unusedVariables false
set_option linter.unusedSimpArgs false

theorem Tryz.elTe : ElemT Tryz.prog 29 67 4 72 (.agg #[.string ⟨#[]⟩, .slice none 0 0, .int .i64 0, .slice none 0 0]) := ⟨Tryz.underlying29, by kernel_rfl, rfl, by omega⟩
end Go.Proofs.YtnbbllkbefagmaaGreatDoor

namespace Go.Proofs.YtnbbllkbefagmaaGreatDoor
open Go.RowKit
set_option linter.unusedVariables false
set_option linter.unusedSimpArgs false
def AllRet (w : World) (M : Nat → Prop) (n : Nat) (l : List Te) (e : Ending) (w' : World) : Prop := ∃ (C : Option Addr) (c : Nat), e = .returned (.slice C n c) ∧ Ro w' M (TesIn C n l) ∧ Below w.heap.size w w'
set_option maxHeartbeats 8000000 in
set_option maxRecDepth 100000 in
theorem rall_ret (M : Nat → Prop) (w : World) (hM : ∀ b, M b → b < w.heap.size) (A : Option Addr) (n c : Nat) (l : List Te) (B : Option Addr) (m d : Nat) (k : List Te) (hD : Ro w M (TesIn A n l)) (hE : Ro w M (TesIn B m k)) (hn : n ≤ 1000) (hm : m ≤ 1000) : Calls Tryz.prog 79 #[.slice A n c, .slice B m d] w fun e w' => AllRet w M (n + m) (l ++ k) e w' := by
 have K0 := (((Hold.start M w hM).add (hE.less (by simp [Mut]))).add (hD.less (by simp [Mut, Hp.foot]))).nil 67 4
 have HA := hid (show SlR 4 A n (teCells l) _ from (K0.ro 1 rfl).now.1)
 clear hD hE
 go_enter Tryz.func79, Tryz.ntmps79
 go_wp2_with (at_builtin; first | (refine wpList_appAllH K0 0 rfl Tryz.elTe HA.out rfl (.const (.slice none 0 0)) (.tmp 5) rfl rfl rfl (one_tes l) (by omega) (by omega) ?_; intro C1 cap1 wA hcA hmA KB; simp only [Nat.zero_add] at hcA ⊢; simp only [Nat.zero_add, List.nil_append, List.set_cons_zero, List.set_cons_succ] at KB; (have HB := hid (show SlR 4 B m (teCells k) _ from (KB.ro 2 rfl).now.1))) | (refine wpList_appAllH KB 0 rfl Tryz.elTe HB.out rfl (.tmp 6) (.tmp 7) rfl rfl rfl (one_tes k) (by omega) (by omega) ?_; intro C2 cap2 wB hcB hmB KE; simp only [zl] at KE))
 have KZ := KE.sealRow 0 rfl
 simp only [zl] at KZ
 have hR : Ro _ _ (TesIn C2 (n + m) (l ++ k)) := ((KZ.ro 0 rfl).and ((KZ.ro 1 rfl).and (KZ.ro 2 rfl))).imp fun w2 h2 => ⟨by
   have h3 := h2.1
   rw [show teCells l ++ teCells k = teCells (l ++ k) by simp [teCells]] at h3
   exact h3, fun x hx => by
   rcases List.mem_append.1 hx with hx | hx
   ·exact h2.2.1.2 x hx
   ·exact h2.2.2.2 x hx⟩
 have HR := hid (hR.less zm)
 have HZ := hid KZ.below
 clear KZ KE hR KB K0
 go_ret
 exact ⟨_, _, rfl, HR.out, HZ.out⟩
def FindIx (cn : Nat) (u : Value) (w : World) : Prop := ∃ k : Int, u = .int .i64 k ∧ (0 ≤ k → k < cn)
set_option maxHeartbeats 16000000 in
set_option maxRecDepth 100000 in
theorem rcheckAct_ret (d : Nat) (a : Ac) (s : Sm) (fA : Option Addr) (fn fc : Nat) (fl : List Fr) (tA : Option Addr) (tn tc : Nat) (tl : List Te) (w : World) (hx : Ro w None_ (AcIn d a)) (hg : AcGd d a) (h5 : a.kind = 5 → a.sets.n = 1) (hs : Ro w None_ (SmIn s)) (hf : Ro w None_ (FrsIn ⟨fA, fn, fc, fl⟩)) (ht : Ro w None_ (TesIn tA tn tl)) (hsn : s.cols.n ≤ 1000) (hfb : FB (d + 1) fn fl) (htb : TBd tn tl) : Calls Tryz.prog 104 #[.agg #[.int .i64 a.kind, .string a.tab, .slice a.rows.A a.rows.n a.rows.c, .slice a.qs.A a.qs.n a.qs.c, .slice a.sets.A a.sets.n a.sets.c, .slice a.wh.A a.wh.n a.wh.c, .string a.text], .agg #[.string s.nm, .slice s.cols.A s.cols.n s.cols.c], .slice fA fn fc, .slice tA tn tc] w fun e w' => CodeRet w e w' := by
 obtain ⟨kind, tab, ⟨rA, rn, rc, rl⟩, ⟨qA, qn, qc, ql⟩, ⟨sA, sn, sc, sl⟩, ⟨hA, hn, hc, hl⟩, text⟩ := a
 obtain ⟨snm, ⟨cA, cn, cc, cl⟩⟩ := s
 have hcn : cn ≤ 1000 := hsn
 have HSL := hid (show sl.length = sn from SlP.In.len (s := ⟨sA, sn, sc, sl⟩) (k := 11) (cel := Se.cells) (P := SeIn d) hx.now.2.2.1 (by omega) (fun _ => rfl))
 have HG := hid hg
 have H5 := hid h5
 have HFB := hid hfb
 have HTB := hid htb
 have HCL := hid (show cl.length = cn from (RdC.of_sl (show SlR 4 cA cn (colCells cl) _ from hs.now.1)).len)
 have K0 := ((((((Hold.start None_ w zn).add (ht.less (by simp [Mut]))).add (hf.less (by simp [Mut, Hp.foot]))).add ((hs.imp (S' := SlR 4 cA cn (colCells cl)) fun w2 h2 => h2.1).less (by simp [Mut, Hp.foot]))).add (hx.less (by simp [Mut, Hp.foot]))).alloc_cst #[.int .i64 kind, .string tab, .slice rA rn rc, .slice qA qn qc, .slice sA sn sc, .slice hA hn hc, .string text] 97).alloc_cst #[.string snm, .slice cA cn cc] 49
 rw [World.size_alloc] at K0
 obtain ⟨gx, hgx⟩ : ∃ g, g = w.heap.size := ⟨_, rfl⟩
 rw [← hgx] at K0
 obtain ⟨gs, hgs⟩ : ∃ g, g = gx + 1 := ⟨_, rfl⟩
 rw [← hgs] at K0
 clear hx hg hs hf ht hfb htb h5
 go_enter Tryz.func104, Tryz.ntmps104
 go_upto_region 1 with fail
 rw [← hgx]
 try rw [← hgs]
 have HGX := hid (And.intro hgx hgs)
 clear hgx hgs
 generalize World.alloc _ _ = w1 at K0 ⊢
 have F0 := K0.facts
 simp only [factsL, cellsF, Nat.reduceAdd, zf, zl] at F0
 obtain ⟨d4, hd4⟩ : ∃ z : Bool, (kind == 4) = z := ⟨_, rfl⟩
 cases d4
 ·obtain ⟨d5, hd5⟩ : ∃ z : Bool, (kind == 5) = z := ⟨_, rfl⟩
  cases d5
  ·go_wp2_with fail
   clear F0 hd4 hd5
   refine (rdmlCheck_ret d ⟨kind, tab, ⟨rA, rn, rc, rl⟩, ⟨qA, qn, qc, ql⟩, ⟨sA, sn, sc, sl⟩, ⟨hA, hn, hc, hl⟩, text⟩ fA fn fc fl tA tn tc tl _ ((K0.ro 2 rfl).less zn) HG.out ((K0.ro 4 rfl).less zn) ((K0.ro 5 rfl).less zn) HFB.out HTB.out).mono ?_
   rintro e w5 ⟨cd, rfl, b5⟩
   have K3 := K0.call b5
   clear K0 b5
   go_wp2_with fail
   go_ret
   exact ⟨_, rfl, K3.below⟩
  ·have hk5 : kind = 5 := by simpa using hd5
   obtain rfl : sn = 1 := H5.out hk5
   have HK5 := hid hk5
   clear hk5
   obtain ⟨⟨zc, y⟩, hz⟩ := get_anyG HSL.out (show 0 < 1 by omega)
   obtain ⟨qb, qo, rfl, -, -, -⟩ := SlP.In.at_ (s := ⟨sA, 1, sc, sl⟩) (k := 11) (cel := Se.cells) (P := SeIn d) (K0.ro 2 rfl).now.2.2.1 (by omega) (fun _ => rfl) hz
   have HAT := hid (show ∀ wv : World, AcIn d ⟨kind, tab, ⟨rA, rn, rc, rl⟩, ⟨qA, qn, qc, ql⟩, ⟨some ⟨qb, qo, none⟩, 1, sc, sl⟩, ⟨hA, hn, hc, hl⟩, text⟩ wv → ∀ j u, j < 11 → (Se.cells ⟨zc, y⟩)[j]? = some u → wv.cell? ⟨qb, qo + j, none⟩ = some u from fun wv h j u hj hu => by
    obtain ⟨b', o', e', -, hc', -⟩ := SlP.In.at_ (s := ⟨some ⟨qb, qo, none⟩, 1, sc, sl⟩) (k := 11) (cel := Se.cells) (P := SeIn d) h.2.2.1 (by omega) (fun _ => rfl) hz
    obtain ⟨rfl, rfl⟩ := addr_eqC (show some (⟨qb, qo, none⟩ : Addr) = some ⟨b', o', none⟩ from e')
    simpa using hc' j u hj hu)
   have hm := List.mem_of_getElem? hz
   clear hz
   obtain ⟨KM, hKM, K6⟩ := K0.name
   have H1 : ∀ wv : World, Hold None_ none w wv KM → Blk wv gs 49 #[.string snm, .slice cA cn cc] := fun wv h => by rw [hKM] at h; exact h.cst_ 0 rfl
   have H2 : ∀ wv : World, Hold None_ none w wv KM → Blk wv gx 97 #[.int .i64 kind, .string tab, .slice rA rn rc, .slice qA qn qc, .slice (some ⟨qb, qo, none⟩) 1 sc, .slice hA hn hc, .string text] := fun wv h => by rw [hKM] at h; exact h.cst_ 1 rfl
   have H3 : ∀ wv : World, Hold None_ none w wv KM → wv.cell? ⟨qb, qo, none⟩ = some (.string zc) := fun wv h => by rw [hKM] at h; exact HAT.out wv (h.ro 2 rfl).now 0 _ (by omega) rfl
   have H4 : ∀ wv : World, Hold None_ none w wv KM → Ro wv (Mut None_ KM) (SlR 4 cA cn (colCells cl)) := fun wv h => by rw [hKM] at h ⊢; exact h.ro 3 rfl
   have HH1 := hid H1
   have HH2 := hid H2
   have HH3 := hid H3
   have HH4 := hid H4
   have HKM := hid hKM
   clear hKM H1 H2 H3 H4 K0
   go_wp2_with fail
   clear F0
   refine wp_region_any (by kernel_rfl) ?_
   refine wpAny_hold 7 54 (KM) (spL [(24, FindIx cn)]) (by kernel_rfl) (by kernel_rfl) (by kernel_rfl) rfl ?_ (K6.drew) ?_
   ·exact stays_cons (fun _ _ _ _ h => h) (stays_nil _)
   simp only [zd, Act.put, List.getElem_toArray, List.getElem_cons_zero, List.getElem_cons_succ, zl]
   refine dw_val rfl rfl rfl ?_; apply Exists.intro; refine ⟨fun wv HC => ?_, ?_⟩
   ·obtain q0 := (HH1.out _ HC).cell 0; obtain q1 := (HH1.out _ HC).cell 1; go_simp <;> rfl
   simp only [Act.put, zl]
   refine dw_val rfl rfl rfl ?_; apply Exists.intro; refine ⟨fun wv HC => ?_, ?_⟩
   · go_simp <;> rfl
   simp only [Act.put, zl]
   refine dw_val rfl rfl rfl ?_; apply Exists.intro; refine ⟨fun wv HC => ?_, ?_⟩
   ·obtain q4 := (HH2.out _ HC).cell 4; go_simp <;> rfl
   simp only [Act.put, zl]
   refine dw_val rfl rfl rfl ?_; apply Exists.intro; refine ⟨fun wv HC => ?_, ?_⟩
   · go_simp <;> rfl
   simp only [Act.put, zl]
   refine dw_val rfl rfl rfl ?_; apply Exists.intro; refine ⟨fun wv HC => ?_, ?_⟩
   · go_simp <;> rfl
   simp only [Act.put, zl]
   refine dw_val rfl rfl rfl ?_; apply Exists.intro; refine ⟨fun wv HC => ?_, ?_⟩
   ·have q0 := HH3.out _ HC; go_simp <;> rfl
   simp only [Act.put, zl]
   refine dw_callR 24 (FindIx cn) (f := 53) (args := #[.agg #[.string snm, .slice cA cn cc], .string zc]) rfl rfl rfl rfl (fun wv => ?_) (fun wv HC hrm hD => ?_) ?_
   ·go_simp <;> rfl
   ·refine (rfind_any (Mut None_ KM) wv HC.mutLt snm cA cn cc cl zc (HH4.out _ HC) (by omega)).mono ?_
    rintro e w5 ⟨rfl, b5⟩
    exact ⟨_, rfl, ⟨_, rfl, fun h => by have := find_lt (named zc) cl h; rw [HCL.out] at this; exact this⟩, HC.call b5, RM.below b5⟩
   rintro u wx HCx ⟨kf, rfl, hkf⟩
   clear HCx
   simp only [Act.put, zl]
   refine rel_nil ?_
   rintro wx3 HX
   rintro _hrm HGW
   clear HGW _hrm
   rw [HKM.out] at HX
   clear HH1 HH2 HH3 HH4 HKM K6
   have HKF := hid hkf
   clear hkf
   have F4 := HX.facts
   simp only [factsL, cellsF, Nat.reduceAdd, zf, zl] at F4
   by_cases hneg : kf < 0
   ·go_wp2_with fail
    go_ret
    exact ⟨_, rfl, HX.below⟩
   ·obtain ⟨kk, rfl⟩ : ∃ k : Nat, kf = (k : Int) := ⟨kf.toNat, by omega⟩
    have hkk : kk < cn := by have := HKF.out (by omega); omega
    have hneg' : ¬ ((kk : Int) < 0) := by omega
    have hki : (kk : Int) < (cn : Int) := by omega
    have x1 := HAT.out _ (HX.ro 2 rfl).now 1 _ (by omega) rfl
    have x2 := HAT.out _ (HX.ro 2 rfl).now 2 _ (by omega) rfl
    have x3 := HAT.out _ (HX.ro 2 rfl).now 3 _ (by omega) rfl
    have x4 := HAT.out _ (HX.ro 2 rfl).now 4 _ (by omega) rfl
    have x5 := HAT.out _ (HX.ro 2 rfl).now 5 _ (by omega) rfl
    have x6 := HAT.out _ (HX.ro 2 rfl).now 6 _ (by omega) rfl
    have x7 := HAT.out _ (HX.ro 2 rfl).now 7 _ (by omega) rfl
    have x8 := HAT.out _ (HX.ro 2 rfl).now 8 _ (by omega) rfl
    have x9 := HAT.out _ (HX.ro 2 rfl).now 9 _ (by omega) rfl
    have x10 := HAT.out _ (HX.ro 2 rfl).now 10 _ (by omega) rfl
    clear hneg
    go_wp2_with fail
    clear F4 x1 x2 x3 x4 x5 x6 x7 x8 x9 x10
    refine (ty_all d y fA fn fc fl tA tn tc tl _ (((HX.ro 2 rfl).imp fun w2 h2 => h2.2.2.1.2 _ hm).less zn) (HG.out.s.2.2 _ hm) ((HX.ro 4 rfl).less zn) ((HX.ro 5 rfl).less zn) ⟨by have := HFB.out.1; omega, HFB.out.2⟩ HTB.out).mono ?_
    rintro e w8 ⟨t, cd, rfl, b8⟩
    have K5 := HX.call b8
    clear HX b8
    have F5 := K5.facts
    simp only [factsL, cellsF, Nat.reduceAdd, zf, zl] at F5
    obtain ⟨⟨xnm, xty, xnn, xkey⟩, hcx⟩ := get_col HCL.out hkk
    obtain ⟨b2, o2, rfl, hb2, -, y1, -, -⟩ := (RdC.of_sl (K5.ro 3 rfl).now).at_ hcx
    simp only at y1
    clear hcx
    obtain ⟨z, hz⟩ : ∃ z : Bool, (cd != 0) = z := ⟨_, rfl⟩
    cases z
    ·go_wp2_with fail
     refine (rassign_ret _ _ _).mono ?_
     rintro e w9 ⟨r, rfl, b9⟩
     have K6 := K5.call b9
     clear K5 F5 b9 y1
     cases r
     ·go_wp2_with fail
      go_ret
      exact ⟨_, rfl, K6.below⟩
     ·go_wp2_with fail
      go_ret
      exact ⟨_, rfl, K6.below⟩
    ·go_wp2_with fail
     go_ret
     exact ⟨_, rfl, K5.below⟩
 ·go_wp2_with fail
  go_ret
  exact ⟨_, rfl, K0.below⟩
end Go.Proofs.YtnbbllkbefagmaaGreatDoor

namespace Go.Proofs.YtnbbllkbefagmaaGreatDoor
open Go.RowKit
set_option linter.unusedVariables false
set_option linter.unusedSimpArgs false
set_option maxHeartbeats 16000000 in
set_option maxRecDepth 100000 in
theorem rtrgCheck_ret (d : Nat) (hd : d ≤ 100) (t : Tg) (A : Option Addr) (n c : Nat) (l : List Te) (w : World) (hx : Ro w None_ (TgIn d t)) (hg : TgGd d t) (ht : Ro w None_ (TesIn A n l)) (hn : n ≤ 900) (hc : ∀ x ∈ l, 1 ≤ x.n ∧ x.n ≤ 1000) : Calls Tryz.prog 44 #[t.val, .slice A n c] w fun e w' => CodeRet w e w' := by
 obtain ⟨tn, tt, tb, te, ⟨oA, on, oc, ol⟩, tch, ⟨pA, pn, pc, pl⟩, ⟨qA, qn, qc, ql⟩, ⟨rA, rn, rc, rl⟩, ⟨kA, kn, kc, kl⟩, ⟨aA, an, ac, al⟩⟩ := t
 have HOL := hid (show ol.length = on from SlP.In.len (s := ⟨oA, on, oc, ol⟩) (k := 1) (cel := strc) (P := fun _ _ => True) hx.now.1 (by omega) (fun _ => rfl))
 have hon : on ≤ 8 := by have h2 : ol.length ≤ 8 := hg.o.2.1; have := HOL.out; omega
 have HRL := hid (show rl.length = rn from SlP.In.len (s := ⟨rA, rn, rc, rl⟩) (k := 4) (cel := Rk.cells) (P := fun _ _ => True) hx.now.2.2.2.1 (by omega) (fun _ => rfl))
 have hrn : rn ≤ 1 := by have h2 : rl.length ≤ 1 := hg.r.2.1; have := HRL.out; omega
 have HAL := hid (show al.length = an from SlP.In.len (s := ⟨aA, an, ac, al⟩) (k := 7) (cel := Ac.cells) (P := AcIn d) hx.now.2.2.2.2.2 (by omega) (fun _ => rfl))
 have han : an ≤ 4 := by have h2 : al.length ≤ 4 := hg.a.2.1; have := HAL.out; omega
 have HG := hid hg
 have HC := hid hc
 have HD := hid hd
 have HTB := hid (show n ≤ 1000 ∧ ∀ x ∈ l, x.n ≤ 1000 from ⟨by omega, fun x hx => (hc x hx).2⟩)
 have K0 := (((Hold.start None_ w zn).add (ht.less (by simp [Mut]))).add (hx.less (by simp [Mut, Hp.foot]))).alloc_cst #[.string tn, .string tt, .bool tb, .int .i64 te, .slice oA on oc, .bool tch, .slice pA pn pc, .slice qA qn qc, .slice rA rn rc, .slice kA kn kc, .slice aA an ac] 40
 obtain ⟨gx, hgx⟩ : ∃ g, g = w.heap.size := ⟨_, rfl⟩
 rw [← hgx] at K0
 clear hx hg ht hc
 simp only [Tg.val]
 go_enter Tryz.func44, Tryz.ntmps44
 go_upto_region 1 with fail
 rw [← hgx]
 have HGX := hid hgx
 clear hgx
 generalize World.alloc _ _ = w1 at K0 ⊢
 have F0 := K0.facts
 simp only [factsL, cellsF, Nat.reduceAdd, zf, zl] at F0
 go_wp2_with fail
 clear F0
 refine (vtrig_ret d ⟨tn, tt, tb, te, ⟨oA, on, oc, ol⟩, tch, ⟨pA, pn, pc, pl⟩, ⟨qA, qn, qc, ql⟩, ⟨rA, rn, rc, rl⟩, ⟨kA, kn, kc, kl⟩, ⟨aA, an, ac, al⟩⟩ _ ((K0.ro 1 rfl).less zn) HG.out).mono ?_
 rintro e w2 ⟨vb, rfl, b2, hv5⟩
 have HV5 := hid hv5
 have K1 := K0.call b2
 clear K0 b2 hv5
 have F1 := K1.facts
 simp only [factsL, cellsF, Nat.reduceAdd, zf, zl] at F1
 cases vb
 ·go_wp2_with fail
  go_ret
  exact ⟨_, rfl, K1.below⟩
 ·go_wp2_with fail
  clear F1
  refine (rsource_ret (Mut None_ _) _ K1.mutLt A n c l tt (K1.ro 2 rfl) HTB.out.1 HTB.out.2).mono ?_
  rintro e w3 ⟨⟨snm, ⟨cA, cn, cc, cl⟩⟩, ok, rfl, hcn, hok, rs, b3⟩
  have hcn : cn ≤ 1000 := hcn
  have HOK := hid (show ok = true → 1 ≤ cn from fun h => by
   obtain ⟨x, hx, hxe⟩ := hok h
   have h1 := (HC.out x hx).1
   have h2 : x.n = cn := hxe
   omega)
  have KS := hid (((K1.call b3).add rs).alloc_cst #[.string snm, .slice cA cn cc] 49)
  obtain ⟨gs, hgs⟩ : ∃ g, g = w3.heap.size := ⟨_, rfl⟩
  have K2 := KS.out
  rw [← hgs] at K2
  clear K1 b3 rs hok KS
  have F2 := K2.facts
  simp only [factsL, cellsF, Nat.reduceAdd, zf, zl] at F2
  rw [hgs] at F2
  cases ok
  ·have HB := hid K2.below
   go_wp2_with fail
   go_ret
   exact ⟨_, rfl, HB.out⟩
  ·have h1cn : 1 ≤ cn := HOK.out rfl
   go_upto_region 4 with fail
   rw [← hgs]
   have HGS := hid hgs
   clear hgs F2
   generalize World.alloc _ _ = w4 at K2 ⊢
   have F2 := K2.facts
   simp only [factsL, cellsF, Nat.reduceAdd, zf, zl] at F2
   go_wp2_with fail
   clear F2
   go_loopw [35] (fun iv wr => ∃ j : Nat, j ≤ on ∧ iv = .int .i64 j ∧ Hold None_ none w wr [.cst gs 49 #[.string snm, .slice cA cn cc], .ro (SmIn ⟨snm, ⟨cA, cn, cc, cl⟩⟩), .cst gx 40 #[.string tn, .string tt, .bool tb, .int .i64 te, .slice oA on oc, .bool tch, .slice pA pn pc, .slice qA qn qc, .slice rA rn rc, .slice kA kn kc, .slice aA an ac], .ro (TgIn d ⟨tn, tt, tb, te, ⟨oA, on, oc, ol⟩, tch, ⟨pA, pn, pc, pl⟩, ⟨qA, qn, qc, ql⟩, ⟨rA, rn, rc, rl⟩, ⟨kA, kn, kc, kl⟩, ⟨aA, an, ac, al⟩⟩), .ro (TesIn A n l)]) (fun iv _ => on - (intOf iv).toNat)
   case atStart => exact ⟨0, by omega, rfl, K2⟩
   case round =>
    clear K2
    obtain ⟨j, hj, rfl, H⟩ := hrel
    by_cases hlt : j < on
    ·obtain ⟨nmx, hr⟩ := get_anyG HOL.out hlt
     obtain ⟨b, o, rfl, -, hc9, -⟩ := SlP.In.at_ (s := ⟨oA, on, oc, ol⟩) (k := 1) (cel := strc) (P := fun _ _ => True) (H.ro 3 rfl).now.1 (by omega) (fun _ => rfl) hr
     have q0 := hc9 0 _ (by omega) rfl
     simp only [Nat.add_zero, Nat.mul_one] at q0
     clear hc9 hr
     have F3 := H.facts
     simp only [factsL, cellsF, Nat.reduceAdd, zf, zl] at F3
     go_wp2_with fail
     clear F3
     refine (rfind_any (Mut None_ _) _ H.mutLt snm cA cn cc cl nmx ((H.ro 1 rfl).imp fun w2 h2 => h2.1) (by omega)).mono ?_
     rintro e w7 ⟨rfl, b7⟩
     have K4 := H.call b7
     clear H b7 q0
     obtain ⟨kf, hkf⟩ : ∃ z : Int, findB (named nmx) cl = z := ⟨_, rfl⟩
     rw [hkf]
     clear hkf
     by_cases hneg : kf < 0
     ·go_wp2_with fail
      go_ret
      exact ⟨_, rfl, K4.below⟩
     ·go_wp2_with fail
      go_roundw
      case rel => exact ⟨j + 1, by omega, by go_num, K4⟩
      case measure => simp [intOf]; omega
    ·obtain rfl : on = j := by omega
     have F3 := H.facts
     simp only [factsL, cellsF, Nat.reduceAdd, zf, zl] at F3
     go_wp2_with fail
     clear F3
     go_loopw [47] (fun iv wr => ∃ j : Nat, j ≤ rn ∧ iv = .int .i64 j ∧ Hold None_ none w wr [.cst gs 49 #[.string snm, .slice cA cn cc], .ro (SmIn ⟨snm, ⟨cA, cn, cc, cl⟩⟩), .cst gx 40 #[.string tn, .string tt, .bool tb, .int .i64 te, .slice oA on oc, .bool tch, .slice pA pn pc, .slice qA qn qc, .slice rA rn rc, .slice kA kn kc, .slice aA an ac], .ro (TgIn d ⟨tn, tt, tb, te, ⟨oA, on, oc, ol⟩, tch, ⟨pA, pn, pc, pl⟩, ⟨qA, qn, qc, ql⟩, ⟨rA, rn, rc, rl⟩, ⟨kA, kn, kc, kl⟩, ⟨aA, an, ac, al⟩⟩), .ro (TesIn A n l)]) (fun iv _ => rn - (intOf iv).toNat)
     case atStart => exact ⟨0, by omega, rfl, H⟩
     case round =>
      clear H
      obtain ⟨j, hj, rfl, H⟩ := hrel
      by_cases hlt : j < rn
      ·obtain ⟨⟨xt, xc, xlo, xhi⟩, hr⟩ := get_anyG HRL.out hlt
       obtain ⟨b, o, rfl, -, hc9, -⟩ := SlP.In.at_ (s := ⟨rA, rn, rc, rl⟩) (k := 4) (cel := Rk.cells) (P := fun _ _ => True) (H.ro 3 rfl).now.2.2.2.1 (by omega) (fun _ => rfl) hr
       have q0 := hc9 0 _ (by omega) rfl
       have q1 := hc9 1 _ (by omega) rfl
       have q2 := hc9 2 _ (by omega) rfl
       have q3 := hc9 3 _ (by omega) rfl
       simp only [Nat.add_zero] at q0 q1 q2 q3
       clear hc9 hr
       have K3 := H.alloc_cst #[.string xt, .string xc, .int .i64 xlo, .int .i64 xhi] 85
       have F3 := K3.facts
       simp only [factsL, cellsF, Nat.reduceAdd, zf, zl] at F3
       clear H
       go_wp2_with fail
       clear F3 q0 q1 q2 q3
       refine (rsource_ret (Mut None_ _) _ K3.mutLt A n c l xt (K3.ro 5 rfl) HTB.out.1 HTB.out.2).mono ?_
       rintro e w5 ⟨⟨unm, ⟨uA, un, uc, ul⟩⟩, ok, rfl, hun, -, ru, b5⟩
       have hun : un ≤ 1000 := hun
       have HUL := hid (show ul.length = un from (RdC.of_sl (show SlR 4 uA un (colCells ul) _ from ru.now.1)).len)
       have K4 := (((K3.call b5).add (ru.imp (S' := SlR 4 uA un (colCells ul)) fun w2 h2 => h2.1)).alloc_cst #[.string unm, .slice uA un uc] 49)
       clear K3 b5 ru
       have F4 := K4.facts
       simp only [factsL, cellsF, Nat.reduceAdd, zf, zl] at F4
       go_wp2_with fail
       clear F4
       refine (rfind_any (Mut None_ _) _ K4.mutLt unm uA un uc ul xc (K4.ro 1 rfl) (by omega)).mono ?_
       rintro e w7 ⟨rfl, b7⟩
       have K5 := K4.call b7
       clear K4 b7
       have F5 := K5.facts
       simp only [factsL, cellsF, Nat.reduceAdd, zf, zl] at F5
       have hfl := find_lt (named xc) ul
       rw [HUL.out] at hfl
       obtain ⟨kf, hkf⟩ : ∃ z : Int, findB (named xc) ul = z := ⟨_, rfl⟩
       rw [hkf] at hfl ⊢
       clear hkf
       cases ok
       ·clear hfl
        go_wp2_with fail
        go_ret
        exact ⟨_, rfl, K5.below⟩
       ·by_cases hneg : kf < 0
        ·clear hfl
         go_wp2_with fail
         go_ret
         exact ⟨_, rfl, K5.below⟩
        ·obtain ⟨kk, rfl⟩ : ∃ k : Nat, kf = (k : Int) := ⟨kf.toNat, by omega⟩
         have hkk : kk < un := by have := hfl (by omega); omega
         have hneg' : ¬ ((kk : Int) < 0) := by omega
         have hki : (kk : Int) < (un : Int) := by omega
         obtain ⟨⟨xnm, xty, xnn, xkey⟩, hcx⟩ := get_col HUL.out hkk
         obtain ⟨b2, o2, rfl, hb2, -, y1, -, -⟩ := (RdC.of_sl (K5.ro 1 rfl).now).at_ hcx
         simp only at y1
         clear hcx hfl hneg
         obtain ⟨z, hz⟩ : ∃ z : Bool, (xty != 1) = z := ⟨_, rfl⟩
         cases z
         ·go_wp2_with fail
          go_roundw
          case rel => exact ⟨j + 1, by omega, by go_num, K5.pick [3, 4, 5, 6, 7] (by decide) rfl⟩
          case measure => simp [intOf]; omega
         ·go_wp2_with fail
          go_ret
          exact ⟨_, rfl, K5.below⟩
      ·obtain rfl : rn = j := by omega
       have F3 := H.facts
       simp only [factsL, cellsF, Nat.reduceAdd, zf, zl] at F3
       go_wp2_with fail
       clear F3
       refine (frames_nil (Mut None_ _) _ H.mutLt ⟨tn, tt, tb, te, ⟨oA, on, oc, ol⟩, tch, ⟨pA, pn, pc, pl⟩, ⟨qA, qn, qc, ql⟩, ⟨rA, rn, rc, rl⟩, ⟨kA, kn, kc, kl⟩, ⟨aA, an, ac, al⟩⟩ ⟨snm, ⟨cA, cn, cc, cl⟩⟩ (H.ro 1 rfl) hcn).mono ?_
       rintro e w5 ⟨⟨fA, fn, fc, fl⟩, rfl, hfc, hf2, hfl, rf, b5⟩
       have hf2 : fn ≤ 2 := hf2
       have HFL := hid (show ∀ f ∈ fl, f.cols.n = cn from hfl)
       have K4 := (H.call b5).add rf
       clear H b5 rf hfc hfl
       have F4 := K4.facts
       simp only [factsL, cellsF, Nat.reduceAdd, zf, zl] at F4
       try simp only [SlP.v]
       go_wp2_with fail
       clear F4
       refine (transitions_nil (Mut None_ _) _ K4.mutLt ⟨tn, tt, tb, te, ⟨oA, on, oc, ol⟩, tch, ⟨pA, pn, pc, pl⟩, ⟨qA, qn, qc, ql⟩, ⟨rA, rn, rc, rl⟩, ⟨kA, kn, kc, kl⟩, ⟨aA, an, ac, al⟩⟩ ⟨snm, ⟨cA, cn, cc, cl⟩⟩ (K4.ro 2 rfl) ⟨h1cn, hcn⟩).mono ?_
       rintro e w6 ⟨xA, xc, xl, rfl, hx2, hxc, hxc2, hxo, rx, b6⟩
       obtain ⟨xn, hxn⟩ : ∃ k, k = xl.length := ⟨_, rfl⟩
       rw [← hxn] at rx hx2 hxc ⊢
       have HXN := hid hxn
       have HXO := hid hxo
       have K5 := (K4.call b6).add rx
       clear K4 b6 rx hxn hxo
       have F5 := K5.facts
       simp only [factsL, cellsF, Nat.reduceAdd, zf, zl] at F5
       go_wp2_with fail
       clear F5
       refine (rall_ret (Mut None_ _) _ K5.mutLt A n c l xA xn xc xl (K5.ro 6 rfl) (K5.ro 0 rfl) (by omega) (by omega)).mono ?_
       rintro e w7 ⟨TA, tcap, rfl, rt, b7⟩
       obtain ⟨m, hm⟩ : ∃ k, k = n + xn := ⟨_, rfl⟩
       have hmi : ((n : Int) + (xn : Int)) = (m : Int) := by omega
       rw [← hm] at rt ⊢
       have HM := hid hm
       have K6 : Hold None_ none w _ [.ro (TesIn TA m (l ++ xl)), .ro (FrsIn ⟨fA, fn, fc, fl⟩), .cst gs 49 #[.string snm, .slice cA cn cc], .ro (SmIn ⟨snm, ⟨cA, cn, cc, cl⟩⟩), .cst gx 40 #[.string tn, .string tt, .bool tb, .int .i64 te, .slice oA on oc, .bool tch, .slice pA pn pc, .slice qA qn qc, .slice rA rn rc, .slice kA kn kc, .slice aA an ac], .ro (TgIn d ⟨tn, tt, tb, te, ⟨oA, on, oc, ol⟩, tch, ⟨pA, pn, pc, pl⟩, ⟨qA, qn, qc, ql⟩, ⟨rA, rn, rc, rl⟩, ⟨kA, kn, kc, kl⟩, ⟨aA, an, ac, al⟩⟩)] := ((K5.call b7).add rt).pick [0, 2, 3, 4, 5, 6] (by decide) rfl
       clear K5 b7 rt hm hmi
       have HTA := hid (show TBd m (l ++ xl) from ⟨by have := HM.out; omega, fun x hx => by
        rcases List.mem_append.1 hx with hx | hx
        ·exact (HC.out x hx).2
        ·have h1 : x.n = cn := (HXO.out x hx).n
         omega⟩)
       have HFB := hid (show FB (d + 1) fn fl from ⟨by have := HD.out; omega, fun f hf => by rw [HFL.out f hf]; exact hcn⟩)
       have F6 := K6.facts
       simp only [factsL, cellsF, Nat.reduceAdd, zf, zl] at F6
       go_wp2_with fail
       clear F6
       refine (co_all d kA kn kc kl fA fn fc fl TA m tcap (l ++ xl) _ (((K6.ro 5 rfl).imp fun w2 h2 => (show ExsIn d kA kn kl w2 from h2.2.2.2.2.1)).less zn) HG.out.h.2.2 ((K6.ro 1 rfl).less zn) ((K6.ro 0 rfl).less zn) ⟨by have := HFB.out.1; omega, HFB.out.2⟩ HTA.out).mono ?_
       rintro e w8 ⟨cd, rfl, b8⟩
       have K7 := K6.call b8
       clear K6 b8
       have F7 := K7.facts
       simp only [factsL, cellsF, Nat.reduceAdd, zf, zl] at F7
       obtain ⟨z, hz⟩ : ∃ z : Bool, (cd != 0) = z := ⟨_, rfl⟩
       cases z
       ·go_wp2_with fail
        clear F7
        go_loopw [96] (fun iv wr => ∃ j : Nat, j ≤ an ∧ iv = .int .i64 j ∧ Hold None_ none w wr [.ro (TesIn TA m (l ++ xl)), .ro (FrsIn ⟨fA, fn, fc, fl⟩), .cst gs 49 #[.string snm, .slice cA cn cc], .ro (SmIn ⟨snm, ⟨cA, cn, cc, cl⟩⟩), .cst gx 40 #[.string tn, .string tt, .bool tb, .int .i64 te, .slice oA on oc, .bool tch, .slice pA pn pc, .slice qA qn qc, .slice rA rn rc, .slice kA kn kc, .slice aA an ac], .ro (TgIn d ⟨tn, tt, tb, te, ⟨oA, on, oc, ol⟩, tch, ⟨pA, pn, pc, pl⟩, ⟨qA, qn, qc, ql⟩, ⟨rA, rn, rc, rl⟩, ⟨kA, kn, kc, kl⟩, ⟨aA, an, ac, al⟩⟩)]) (fun iv _ => an - (intOf iv).toNat)
        case atStart => exact ⟨0, by omega, rfl, K7⟩
        case round =>
         clear K7
         obtain ⟨j, hj, rfl, H⟩ := hrel
         by_cases hlt : j < an
         ·obtain ⟨x, hr⟩ := get_anyG HAL.out hlt
          obtain ⟨b, o, rfl, -, hc9, -⟩ := SlP.In.at_ (s := ⟨aA, an, ac, al⟩) (k := 7) (cel := Ac.cells) (P := AcIn d) (H.ro 5 rfl).now.2.2.2.2.2 (by omega) (fun _ => rfl) hr
          have q0 := hc9 0 _ (by omega) rfl
          have q1 := hc9 1 _ (by omega) rfl
          have q2 := hc9 2 _ (by omega) rfl
          have q3 := hc9 3 _ (by omega) rfl
          have q4 := hc9 4 _ (by omega) rfl
          have q5 := hc9 5 _ (by omega) rfl
          have q6 := hc9 6 _ (by omega) rfl
          simp only [Nat.add_zero, SlP.v] at q0 q1 q2 q3 q4 q5 q6
          have hmx := List.mem_of_getElem? hr
          clear hc9 hr
          have K3 := (H.alloc_cst #[.int .i64 x.kind, .string x.tab, .slice x.rows.A x.rows.n x.rows.c, .slice x.qs.A x.qs.n x.qs.c, .slice x.sets.A x.sets.n x.sets.c, .slice x.wh.A x.wh.n x.wh.c, .string x.text] 97)
          have F3 := K3.facts
          simp only [factsL, cellsF, Nat.reduceAdd, zf, zl] at F3
          clear H
          go_wp2_with fail
          clear F3 q0 q1 q2 q3 q4 q5 q6
          refine (rcheckAct_ret d x ⟨snm, ⟨cA, cn, cc, cl⟩⟩ fA fn fc fl TA m tcap (l ++ xl) _ (((K3.ro 6 rfl).imp fun w2 h2 => h2.2.2.2.2.2.2 x hmx).less zn) (HG.out.a.2.2 x hmx) (HV5.out (by first | rfl | trivial) x hmx) ((K3.ro 4 rfl).less zn) ((K3.ro 2 rfl).less zn) ((K3.ro 1 rfl).less zn) hcn HFB.out HTA.out).mono ?_
          rintro e w9 ⟨cd2, rfl, b9⟩
          have K4 := K3.call b9
          clear K3 b9
          obtain ⟨z, hz⟩ : ∃ z : Bool, (cd2 != 0) = z := ⟨_, rfl⟩
          cases z
          ·go_wp2_with fail
           go_roundw
           case rel => exact ⟨j + 1, by omega, by go_num, K4.drop (List.sublist_cons_self _ _)⟩
           case measure => simp [intOf]; omega
          ·go_wp2_with fail
           go_ret
           exact ⟨_, rfl, K4.below⟩
         ·obtain rfl : an = j := by omega
          go_wp2_with fail
          go_ret
          exact ⟨_, rfl, H.below⟩
       ·go_wp2_with fail
        go_ret
        exact ⟨_, rfl, K7.below⟩
end Go.Proofs.YtnbbllkbefagmaaGreatDoor

namespace Go.Proofs.YtnbbllkbefagmaaGreatDoor
open Go.RowKit
set_option linter.unusedVariables false
set_option linter.unusedSimpArgs false

def nm3 (k : Nat) : ByteArray := if k = 0 then nmLog else if k = 1 then nmT else nmU
def cs3 (k : Nat) : List Col := if k = 0 then logCols else if k = 1 then tCols else uCols
/-- the first tables of a store drawn -/
structure Sto3 (N k : Nat) (outs : List Te) : Prop where
 len : outs.length = k
 ok : ∀ x ∈ outs, x.ok ∧ VTab x.tb ∧ x.tb.rs.length ≤ N
 at_ : ∀ (j : Nat) (x : Te), outs[j]? = some x → x.tb.nm = nm3 j ∧ x.tb.cs = cs3 j
theorem Sto3.zero (N : Nat) : Sto3 N 0 [] := ⟨rfl, fun x hx => (nomatch hx), fun j x h => by simp at h⟩
theorem Sto3.next {N k : Nat} {outs : List Te} {y : Te} (h : Sto3 N k outs) (h1 : y.ok) (h2 : VTab y.tb) (h3 : y.tb.rs.length ≤ N) (h4 : y.tb.nm = nm3 k) (h5 : y.tb.cs = cs3 k) : Sto3 N (k + 1) (outs ++ [y]) := by
 refine ⟨by simp [h.len], fun x hx => ?_, fun j x hx => ?_⟩
 ·rcases List.mem_append.1 hx with hx | hx
  ·exact h.ok x hx
  ·simp at hx; subst hx; exact ⟨h1, h2, h3⟩
 ·rw [List.getElem?_append] at hx
  split at hx
  ·exact h.at_ j x hx
  ·rename_i hj
   have hk := h.len
   obtain rfl : j = k := by
    have := (List.getElem?_eq_some_iff.1 hx).1
    simp at this; omega
   rw [hk] at hx
   simp at hx
   subst hx
   exact ⟨h4, h5⟩
end Go.Proofs.YtnbbllkbefagmaaGreatDoor

namespace Go.Proofs.YtnbbllkbefagmaaGreatDoor
open Go.RowKit
set_option linter.unusedVariables false
set_option linter.unusedSimpArgs false
theorem SOK0 : SchOk nmLog logCols := schOk_of (by decide +kernel)
theorem SOK1 : SchOk nmT tCols := schOk_of (by decide +kernel)
theorem SOK2 : SchOk nmU uCols := schOk_of (by decide +kernel)
def TesOf (l : List Te) (w : World) : Prop := ∀ x ∈ l, TeIn x w
def TabsRet (w : World) (M : Nat → Prop) (e : Ending) (w' : World) : Prop := ∃ (A : Option Addr) (c : Nat) (l : List Te), e = .returned (.slice A 3 c) ∧ (∀ x ∈ l, 1 ≤ x.n ∧ x.n ≤ 4) ∧ Ro w' M (TesIn A 3 l) ∧ Below w.heap.size w w'
set_option maxHeartbeats 8000000 in
set_option maxRecDepth 100000 in
theorem tablesOf_any (M : Nat → Prop) (w : World) (hM : ∀ b, M b → b < w.heap.size) : Calls Tryz.prog 45 #[.slice none 0 0] w fun e w' => TabsRet w M e w' := by
 have K0 := Hold.start M w hM
 go_enter Tryz.func45, Tryz.ntmps45
 go_wp2_with fail
 refine (schemas_any _ _ K0.mutLt).mono ?_
 rintro e w1 ⟨g, g0, g1, g2, nl, nt, nu, hnl, hnt, hnu, rfl, b1, r0, r1, r2, r3⟩
 have HNL := hid (And.intro hnl (And.intro hnt hnu))
 have K1 := ((((((K0.call b1).add r3).add (r2.less (by simp [Mut, Hp.foot]))).add (r1.less (by simp [Mut, Hp.foot]))).add (r0.less (by simp [Mut, Hp.foot]))).add (S := TesOf []) (fun w2 _ _ x hx => (nomatch hx))).nil 67 4
 clear K0 b1 r0 r1 r2 r3 hnl hnt hnu
 go_wp2_with fail
 go_loopw [3, 14] (fun ov iv wr => ∃ (k cap : Nat) (O : Option Addr) (outs : List Te), k ≤ 3 ∧ outs.length = k ∧ iv = .int .i64 k ∧ ov = .slice O k cap ∧ Hid (∀ x ∈ outs, 1 ≤ x.n ∧ x.n ≤ 4) ∧ Hold M none w wr [.own 67 4 (.slice O k cap) k (teCells outs), .ro (TesOf outs), .ro (fun w => w.heap[g]? = some (.cells #[.string nl, .slice (some ⟨g0, 0, none⟩) 2 2, .string nt, .slice (some ⟨g1, 0, none⟩) 4 4, .string nu, .slice (some ⟨g2, 0, none⟩) 3 3] 49 (0, 0))), .ro (ColsIn (some ⟨g0, 0, none⟩) 2 logCols), .ro (ColsIn (some ⟨g1, 0, none⟩) 4 tCols), .ro (ColsIn (some ⟨g2, 0, none⟩) 3 uCols)]) (fun _ iv _ => 3 - (intOf iv).toNat)
 case atStart => exact ⟨0, 0, none, [], by omega, rfl, rfl, rfl, hid (fun x hx => (nomatch hx)), K1⟩
 case round =>
  clear K1
  obtain ⟨k, cap, O, outs, hk, hol, rfl, rfl, HS, H⟩ := hrel
  by_cases hlt : k < 3
  ·have hd : decide ((k : Int) < 3) = true := by simp; omega
   have hblk := (H.ro 2 rfl).now
   have hgl := Blk.lt hblk
   obtain rfl | rfl | rfl : k = 0 ∨ k = 1 ∨ k = 2 := by omega
   ·have c0 := cell_of_row _ _ 0 _ _ _ hblk
    have c1 := cell_of_row _ _ 1 _ _ _ hblk
    clear hblk
    have K1 := H.alloc_cst #[.string nl, .slice (some ⟨g0, 0, none⟩) 2 2] 49
    have F1 := K1.facts
    simp only [factsL, cellsF, Nat.reduceAdd, zf, zl] at F1
    clear H
    go_wp2_with fail
    clear F1
    refine (rtnew_any (Mut M _) _ K1.mutLt nl (some ⟨g0, 0, none⟩) 2 2 logCols (K1.ro 4 rfl) (by omega) (by rw [HNL.out.1]; exact (SOK0).nm) (SOK0).cs).mono ?_
    intro e w5 hr
    have hs : schemaB nl logCols = true := by rw [HNL.out.1]; exact (SOK0).val
    unfold NewRet at hr
    rw [if_pos hs] at hr
    obtain ⟨yA, yn, yc, rfl, hyn, hyc, hyc2, ry, b5⟩ := hr
    replace hyn : yn = 2 := hyn
    have HYN := hid hyn
    have K2 := (((K1.call b5).add ry).alloc_cst #[.string nl, .slice yA yn yc, .int .i64 1, .slice none 0 0] 67)
    clear K1 hs hyn ry b5
    have F2 := K2.facts
    simp only [factsL, cellsF, Nat.reduceAdd, zf, zl] at F2
    go_wp2_with (at_builtin; go_must (refine wpList_appH K2 3 rfl Tryz.elTe #[.string nl, .slice yA yn yc, .int .i64 1, .slice none 0 0] rfl (.tmp 23) (.tmp 25) rfl rfl (w5.heap.size + 1) (by first | rfl | simp) rfl rfl (by intro u hu; simp at hu; rcases hu with rfl | rfl | rfl | rfl <;> rfl) (by omega) (by omega) ?_); intro g9 cap9 w9 hc9 hm9 KB; simp only [zl] at KB)
    have e9 : teCells outs ++ (#[.string nl, .slice yA yn yc, .int .i64 1, .slice none 0 0] : Array Value).toList = teCells (outs ++ [⟨nl, yA, yn, yc, logCols, 1, none, 0, 0, []⟩]) := (teCells_snoc outs ⟨nl, yA, yn, yc, logCols, 1, none, 0, 0, []⟩).symm
    rw [e9] at KB
    have hR : Ro _ _ (TesOf (outs ++ [⟨nl, yA, yn, yc, logCols, 1, none, 0, 0, []⟩])) := ((KB.ro 4 rfl).and (KB.ro 1 rfl)).imp fun w2 h2 x hx => by
     rcases List.mem_append.1 hx with hx | hx
     ·exact h2.1 x hx
     ·simp only [List.mem_cons, List.not_mem_nil, or_false] at hx
      subst hx
      exact ⟨h2.2, slr_nil 5 w2, fun _ hx => (nomatch hx)⟩
    have KC := (KB.swapRo 4 rfl hR).drop (List.Sublist.cons _ (List.Sublist.cons _ (List.sublist_cons_self _ _)))
    have HS2 := hid (show ∀ x ∈ outs ++ [(⟨nl, yA, yn, yc, logCols, 1, none, 0, 0, []⟩ : Te)], 1 ≤ x.n ∧ x.n ≤ 4 from fun x hx => by
     rcases List.mem_append.1 hx with hx | hx
     ·exact HS.out x hx
     ·simp only [List.mem_cons, List.not_mem_nil, or_false] at hx
      subst hx
      have := HYN.out
      simp only
      omega)
    go_roundw
    case rel => exact ⟨1, cap9, _, _, by omega, by simp [hol], by go_num, by first | rfl | trivial, HS2, KC⟩
    case measure => simp [intOf]
   ·have c0 := cell_of_row _ _ 2 _ _ _ hblk
    have c1 := cell_of_row _ _ 3 _ _ _ hblk
    clear hblk
    have K1 := H.alloc_cst #[.string nt, .slice (some ⟨g1, 0, none⟩) 4 4] 49
    have F1 := K1.facts
    simp only [factsL, cellsF, Nat.reduceAdd, zf, zl] at F1
    clear H
    go_wp2_with fail
    clear F1
    refine (rtnew_any (Mut M _) _ K1.mutLt nt (some ⟨g1, 0, none⟩) 4 4 tCols (K1.ro 5 rfl) (by omega) (by rw [HNL.out.2.1]; exact (SOK1).nm) (SOK1).cs).mono ?_
    intro e w5 hr
    have hs : schemaB nt tCols = true := by rw [HNL.out.2.1]; exact (SOK1).val
    unfold NewRet at hr
    rw [if_pos hs] at hr
    obtain ⟨yA, yn, yc, rfl, hyn, hyc, hyc2, ry, b5⟩ := hr
    replace hyn : yn = 4 := hyn
    have HYN := hid hyn
    have K2 := (((K1.call b5).add ry).alloc_cst #[.string nt, .slice yA yn yc, .int .i64 1, .slice none 0 0] 67)
    clear K1 hs hyn ry b5
    have F2 := K2.facts
    simp only [factsL, cellsF, Nat.reduceAdd, zf, zl] at F2
    go_wp2_with (at_builtin; go_must (refine wpList_appH K2 3 rfl Tryz.elTe #[.string nt, .slice yA yn yc, .int .i64 1, .slice none 0 0] rfl (.tmp 23) (.tmp 25) rfl rfl (w5.heap.size + 1) (by first | rfl | simp) rfl rfl (by intro u hu; simp at hu; rcases hu with rfl | rfl | rfl | rfl <;> rfl) (by omega) (by omega) ?_); intro g9 cap9 w9 hc9 hm9 KB; simp only [zl] at KB)
    have e9 : teCells outs ++ (#[.string nt, .slice yA yn yc, .int .i64 1, .slice none 0 0] : Array Value).toList = teCells (outs ++ [⟨nt, yA, yn, yc, tCols, 1, none, 0, 0, []⟩]) := (teCells_snoc outs ⟨nt, yA, yn, yc, tCols, 1, none, 0, 0, []⟩).symm
    rw [e9] at KB
    have hR : Ro _ _ (TesOf (outs ++ [⟨nt, yA, yn, yc, tCols, 1, none, 0, 0, []⟩])) := ((KB.ro 4 rfl).and (KB.ro 1 rfl)).imp fun w2 h2 x hx => by
     rcases List.mem_append.1 hx with hx | hx
     ·exact h2.1 x hx
     ·simp only [List.mem_cons, List.not_mem_nil, or_false] at hx
      subst hx
      exact ⟨h2.2, slr_nil 5 w2, fun _ hx => (nomatch hx)⟩
    have KC := (KB.swapRo 4 rfl hR).drop (List.Sublist.cons _ (List.Sublist.cons _ (List.sublist_cons_self _ _)))
    have HS2 := hid (show ∀ x ∈ outs ++ [(⟨nt, yA, yn, yc, tCols, 1, none, 0, 0, []⟩ : Te)], 1 ≤ x.n ∧ x.n ≤ 4 from fun x hx => by
     rcases List.mem_append.1 hx with hx | hx
     ·exact HS.out x hx
     ·simp only [List.mem_cons, List.not_mem_nil, or_false] at hx
      subst hx
      have := HYN.out
      simp only
      omega)
    go_roundw
    case rel => exact ⟨2, cap9, _, _, by omega, by simp [hol], by go_num, by first | rfl | trivial, HS2, KC⟩
    case measure => simp [intOf]
   ·have c0 := cell_of_row _ _ 4 _ _ _ hblk
    have c1 := cell_of_row _ _ 5 _ _ _ hblk
    clear hblk
    have K1 := H.alloc_cst #[.string nu, .slice (some ⟨g2, 0, none⟩) 3 3] 49
    have F1 := K1.facts
    simp only [factsL, cellsF, Nat.reduceAdd, zf, zl] at F1
    clear H
    go_wp2_with fail
    clear F1
    refine (rtnew_any (Mut M _) _ K1.mutLt nu (some ⟨g2, 0, none⟩) 3 3 uCols (K1.ro 6 rfl) (by omega) (by rw [HNL.out.2.2]; exact (SOK2).nm) (SOK2).cs).mono ?_
    intro e w5 hr
    have hs : schemaB nu uCols = true := by rw [HNL.out.2.2]; exact (SOK2).val
    unfold NewRet at hr
    rw [if_pos hs] at hr
    obtain ⟨yA, yn, yc, rfl, hyn, hyc, hyc2, ry, b5⟩ := hr
    replace hyn : yn = 3 := hyn
    have HYN := hid hyn
    have K2 := (((K1.call b5).add ry).alloc_cst #[.string nu, .slice yA yn yc, .int .i64 1, .slice none 0 0] 67)
    clear K1 hs hyn ry b5
    have F2 := K2.facts
    simp only [factsL, cellsF, Nat.reduceAdd, zf, zl] at F2
    go_wp2_with (at_builtin; go_must (refine wpList_appH K2 3 rfl Tryz.elTe #[.string nu, .slice yA yn yc, .int .i64 1, .slice none 0 0] rfl (.tmp 23) (.tmp 25) rfl rfl (w5.heap.size + 1) (by first | rfl | simp) rfl rfl (by intro u hu; simp at hu; rcases hu with rfl | rfl | rfl | rfl <;> rfl) (by omega) (by omega) ?_); intro g9 cap9 w9 hc9 hm9 KB; simp only [zl] at KB)
    have e9 : teCells outs ++ (#[.string nu, .slice yA yn yc, .int .i64 1, .slice none 0 0] : Array Value).toList = teCells (outs ++ [⟨nu, yA, yn, yc, uCols, 1, none, 0, 0, []⟩]) := (teCells_snoc outs ⟨nu, yA, yn, yc, uCols, 1, none, 0, 0, []⟩).symm
    rw [e9] at KB
    have hR : Ro _ _ (TesOf (outs ++ [⟨nu, yA, yn, yc, uCols, 1, none, 0, 0, []⟩])) := ((KB.ro 4 rfl).and (KB.ro 1 rfl)).imp fun w2 h2 x hx => by
     rcases List.mem_append.1 hx with hx | hx
     ·exact h2.1 x hx
     ·simp only [List.mem_cons, List.not_mem_nil, or_false] at hx
      subst hx
      exact ⟨h2.2, slr_nil 5 w2, fun _ hx => (nomatch hx)⟩
    have KC := (KB.swapRo 4 rfl hR).drop (List.Sublist.cons _ (List.Sublist.cons _ (List.sublist_cons_self _ _)))
    have HS2 := hid (show ∀ x ∈ outs ++ [(⟨nu, yA, yn, yc, uCols, 1, none, 0, 0, []⟩ : Te)], 1 ≤ x.n ∧ x.n ≤ 4 from fun x hx => by
     rcases List.mem_append.1 hx with hx | hx
     ·exact HS.out x hx
     ·simp only [List.mem_cons, List.not_mem_nil, or_false] at hx
      subst hx
      have := HYN.out
      simp only
      omega)
    go_roundw
    case rel => exact ⟨3, cap9, _, _, by omega, by simp [hol], by go_num, by first | rfl | trivial, HS2, KC⟩
    case measure => simp [intOf]
  ·obtain rfl : k = 3 := by omega
   have KZ := H.sealRow 0 rfl
   simp only [zl] at KZ
   have hR : Ro _ _ (TesIn O 3 outs) := ((KZ.ro 0 rfl).and (KZ.ro 1 rfl)).imp fun w2 h2 => ⟨h2.1, h2.2⟩
   have HR := hid (hR.less zm)
   have HB := hid KZ.below
   clear KZ H hR hol
   go_wp2_with fail
   go_ret
   exact ⟨O, cap, outs, rfl, HS.out, HR.out, HB.out⟩
end Go.Proofs.YtnbbllkbefagmaaGreatDoor

namespace Go.Proofs.YtnbbllkbefagmaaGreatDoor
open Go.RowKit
set_option linter.unusedVariables false
set_option linter.unusedSimpArgs false

structure Lk where
 a : ByteArray
 b : ByteArray
def Lk.cells (x : Lk) : List Value := [.string x.a, .string x.b]
def lkCells (l : List Lk) : List Value := l.flatMap Lk.cells
theorem lkCells_len (l : List Lk) : (lkCells l).length = l.length * 2 := flat_len _ 2 (fun _ => rfl) l
/-- is the link from a to b? -/
def lkB (a b : ByteArray) (x : Lk) : Bool := x.a.toList == a.toList && x.b.toList == b.toList
def precB (l : List Lk) (a b : ByteArray) : Bool := l.any (lkB a b)
/-- The slice with address A and n elements reads as the links l. -/
def LksIn (A : Option Addr) (n : Nat) (l : List Lk) : World → Prop := SlR 2 A n (lkCells l)
theorem LksIn.len {w : World} {A : Option Addr} {n : Nat} {l : List Lk} (h : LksIn A n l w) : l.length = n := by
 have := (show Rd w w.heap.size 2 A n (lkCells l) from h).1
 rw [lkCells_len] at this
 omega
theorem LksIn.at_ {w : World} {A : Option Addr} {n : Nat} {l : List Lk} (h : LksIn A n l w) {k : Nat} {x : Lk} (hx : l[k]? = some x) :
  ∃ b o, A = some ⟨b, o, none⟩ ∧ b < w.heap.size ∧ w.cell? ⟨b, o + k * 2, none⟩ = some (.string x.a) ∧ w.cell? ⟨b, o + k * 2 + 1, none⟩ = some (.string x.b) := by
 have hk : k < n := by rw [← h.len]; exact (List.getElem?_eq_some_iff.1 hx).1
 obtain ⟨b, o, e, hb, hc⟩ := (show Rd w w.heap.size 2 A n (lkCells l) from h).2 (by omega)
 exact ⟨b, o, e, hb, hc _ _ (flat_get Lk.cells 2 (fun _ => rfl) l k 0 x (by omega) hx), hc _ _ (flat_get Lk.cells 2 (fun _ => rfl) l k 1 x (by omega) hx)⟩
theorem any_drop {α : Type} {p : α → Bool} {l : List α} {k : Nat} {x : α} (h : l.any p = (l.drop k).any p) (hx : l[k]? = some x) (hp : p x = false) : l.any p = (l.drop (k + 1)).any p := by
 obtain ⟨hk, rfl⟩ := List.getElem?_eq_some_iff.1 hx
 rw [h, List.drop_eq_getElem_cons hk, List.any_cons, hp, Bool.false_or]
theorem any_hit {α : Type} {p : α → Bool} {l : List α} {k : Nat} {x : α} (hx : l[k]? = some x) (hp : p x = true) : l.any p = true := by
 rw [List.any_eq_true]; exact ⟨x, List.mem_of_getElem? hx, hp⟩
theorem any_end {α : Type} {p : α → Bool} {l : List α} {k : Nat} (h : l.any p = (l.drop k).any p) (hk : l.length ≤ k) : l.any p = false := by
 rw [h, List.drop_of_length_le hk]; rfl

set_option maxHeartbeats 2000000 in
theorem rprec_any (M : Nat → Prop) (w : World) (hM : ∀ b, M b → b < w.heap.size) (A : Option Addr) (n c : Nat) (l : List Lk) (a b : ByteArray) (hD : Ro w M (LksIn A n l)) (hn : n ≤ 9223372036854775807) :
  Calls Tryz.prog 170 #[.slice A n c, .string a, .string b] w fun e w' => e = .returned (.bool (precB l a b)) ∧ Below w.heap.size w w' := by
 have HL := hid hD.now.len
 have K0 := (Hold.start M w hM).add (hD.less (by simp [Mut]))
 go_enter Tryz.func170, Tryz.ntmps170
 go_wp2_with fail
 go_loopw [11] (fun i wr => ∃ k : Nat, k ≤ n ∧ i = .int .i64 k ∧ l.any (lkB a b) = (l.drop k).any (lkB a b) ∧ Hold M none w wr [.ro (LksIn A n l)]) (fun i _ => n - (intOf i).toNat)
 case atStart => exact ⟨0, by omega, rfl, rfl, K0⟩
 case round =>
  obtain ⟨k, hk, rfl, hf, H⟩ := hrel
  have HF := hid hf; clear hf
  by_cases hlt : k < n
  ·obtain ⟨x, hx⟩ := get_of HL.out hlt
   obtain ⟨g, o, rfl, hb, c0, c1⟩ := (H.ro 0 rfl).now.at_ hx
   have HX := hid hx; clear hx
   have K1 := H.alloc_cst #[.string x.a, .string x.b] 190
   cases h1 : (x.a.toList == a.toList)
   ·have HB := hid (show lkB a b x = false by simp only [lkB, h1, Bool.false_and])
    go_wp2_with fail
    go_roundw
    case rel => exact ⟨k + 1, by omega, by go_num, any_drop HF.out HX.out HB.out, K1.drop (List.sublist_cons_self _ _)⟩
    case measure => simp [intOf]; omega
   ·cases h2 : (x.b.toList == b.toList)
    ·have HB := hid (show lkB a b x = false by simp only [lkB, h2, Bool.and_false])
     go_wp2_with fail
     go_roundw
     case rel => exact ⟨k + 1, by omega, by go_num, any_drop HF.out HX.out HB.out, K1.drop (List.sublist_cons_self _ _)⟩
     case measure => simp [intOf]; omega
    ·have HB := hid (show lkB a b x = true by simp only [lkB, h1, h2, Bool.and_true])
     go_wp2_with fail
     go_ret
     exact ⟨by rw [show precB l a b = true from any_hit HX.out HB.out] <;> rfl, K1.below⟩
  ·go_wp2_with fail
   go_ret
   exact ⟨by rw [show precB l a b = false from any_end HF.out (by rw [HL.out]; omega)] <;> rfl, H.below⟩

end Go.Proofs.YtnbbllkbefagmaaGreatDoor

namespace Go.Proofs.YtnbbllkbefagmaaGreatDoor
open Go.RowKit
set_option linter.unusedVariables false
set_option linter.unusedSimpArgs false

def befB (x y : Lk) : Bool := Op.bytesLess x.a.toList y.a.toList || (x.a.toList == y.a.toList && Op.bytesLess x.b.toList y.b.toList)
def lkEq (x y : Lk) : Bool := x.a.toList == y.a.toList && x.b.toList == y.b.toList
theorem Tryz.elLink : ElemT Tryz.prog 26 190 2 32 (.agg #[.string ⟨#[]⟩, .string ⟨#[]⟩]) := ⟨Tryz.underlying26, by kernel_rfl, rfl, by omega⟩
theorem one_lk (a b : ByteArray) : ∀ u ∈ (#[Value.string a, Value.string b]).toList, u.oneCell' = true := by intro u hu; simp at hu; rcases hu with rfl | rfl <;> rfl
theorem lkCells_snoc (l : List Lk) (x : Lk) : lkCells l ++ (#[Value.string x.a, Value.string x.b]).toList = lkCells (l ++ [x]) := by simp [lkCells, Lk.cells]

set_option maxHeartbeats 1000000 in
theorem before_any (x y : Lk) (w : World) :
  Calls Tryz.prog 169 #[.agg #[.string x.a, .string x.b], .agg #[.string y.a, .string y.b]] w fun e w' => e = .returned (.bool (befB x y)) ∧ Below w.heap.size w w' := by
 obtain ⟨xa, xb⟩ := x
 obtain ⟨ya, yb⟩ := y
 cases h1 : Op.bytesLess xa.toList ya.toList <;> cases h2 : (xa.toList == ya.toList) <;> cases h3 : Op.bytesLess xb.toList yb.toList
 all_goals
  go_enter Tryz.func169, Tryz.ntmps169
  go_wp2_with fail
  go_ret
  exact ⟨by simp only [befB, h1, h2, h3] <;> rfl, ext2 _ _ _⟩

def insStep (x : Lk) (s : List Lk × Bool) (y : Lk) : List Lk × Bool := ((if s.2 || befB y x then s.1 else s.1 ++ [x]) ++ (if lkEq y x then [] else [y]), s.2 || !befB y x)
def insS (x : Lk) (l : List Lk) (k : Nat) : List Lk × Bool := (l.take k).foldl (insStep x) ([], false)
def insL (x : Lk) (l : List Lk) : List Lk := if (insS x l l.length).2 then (insS x l l.length).1 else (insS x l l.length).1 ++ [x]
theorem insS_succ (x : Lk) {l : List Lk} {k : Nat} {y : Lk} (hy : l[k]? = some y) : insS x l (k + 1) = insStep x (insS x l k) y := by
 obtain ⟨hk, rfl⟩ := List.getElem?_eq_some_iff.1 hy
 unfold insS
 rw [List.take_succ_eq_append_getElem hk, List.foldl_append]
 rfl
theorem insS_le (x : Lk) (l : List Lk) : ∀ k, (insS x l k).1.length ≤ 2 * k
 | 0 => by simp [insS]
 | k + 1 => by
  by_cases h : k < l.length
  ·rw [insS_succ x (List.getElem?_eq_getElem h)]
   have := insS_le x l k
   unfold insStep
   split <;> split <;> simp <;> omega
  ·have : insS x l (k + 1) = insS x l k := by unfold insS; rw [List.take_of_length_le (by omega), List.take_of_length_le (by omega)]
   rw [this]; have := insS_le x l k; omega

/-- A list of links handed back, in memory that nobody writes. -/
def LksRet (w : World) (M : Nat → Prop) (l : List Lk) (e : Ending) (w' : World) : Prop :=
 ∃ (A : Option Addr) (n c : Nat), e = .returned (.slice A n c) ∧ n = l.length ∧ n ≤ c ∧ c ≤ 9223372036854775807 ∧ Ro w' M (LksIn A n l) ∧ Below w.heap.size w w'

set_option maxHeartbeats 4000000 in
theorem insert_any (M : Nat → Prop) (w : World) (hM : ∀ b, M b → b < w.heap.size) (A : Option Addr) (n c : Nat) (l : List Lk) (x : Lk) (hD : Ro w M (LksIn A n l)) (hn : n ≤ 1000000) :
  Calls Tryz.prog 107 #[.slice A n c, .agg #[.string x.a, .string x.b]] w fun e w' => LksRet w M (insL x l) e w' := by
 have HL := hid hD.now.len
 have K0 := ((((Hold.start M w hM).add (hD.less (by simp [Mut]))).nil 190 2)).alloc_cst #[.string x.a, .string x.b] 190
 go_enter Tryz.func107, Tryz.ntmps107
 go_wp2_with fail
 go_loopw [5, 6, 11] (fun out d i wr => ∃ (k cap q : Nat) (C : Option Addr) (o : List Lk) (dn : Bool), k ≤ n ∧ i = .int .i64 k ∧ out = .slice C q cap ∧ d = .bool dn ∧ Hid (q = o.length) ∧ Hid (insS x l k = (o, dn)) ∧
  Hold M none w wr [.cst w.heap.size 190 #[.string x.a, .string x.b], .own 190 2 (.slice C q cap) q (lkCells o), .ro (LksIn A n l)]) (fun _ _ i _ => n - (intOf i).toNat)
 case atStart => exact ⟨0, 0, 0, none, [], false, by omega, rfl, rfl, rfl, hid rfl, hid rfl, K0⟩
 case round =>
  obtain ⟨k, cap, q, C, o, dn, hk, rfl, rfl, rfl, HQ, HS, H⟩ := hrel
  have hqk : q ≤ 2 * k := by have := insS_le x l k; rw [HS.out] at this; have := HQ.out; simp at *; omega
  by_cases hlt : k < n
  ·have hd : decide ((k : Int) < (n : Int)) = true := by simp; omega
   obtain ⟨y, hy⟩ := get_of HL.out hlt
   obtain ⟨g, oo, rfl, hb, c0, c1⟩ := (H.ro 2 rfl).now.at_ hy
   have HN := hid (insS_succ x hy); clear hy
   have F := H.facts
   simp only [World.size_alloc, World.size_drew, factsL, cellsF, Nat.reduceAdd, List.toList_toArray, and_true, true_and] at F
   have K1 := H.alloc_cst #[.string y.a, .string y.b] 190
   have F1 := K1.facts
   simp only [World.size_alloc, World.size_drew, factsL, cellsF, Nat.reduceAdd, List.toList_toArray, and_true, true_and] at F1
   cases h1 : (y.a.toList == x.a.toList) <;> cases h2 : (y.b.toList == x.b.toList)
   all_goals
    have heq : lkEq y x = (y.a.toList == x.a.toList && y.b.toList == x.b.toList) := rfl
    rw [h1, h2] at heq
    simp only [Bool.and_true, Bool.and_false, Bool.and_self] at heq
    have HE := hid heq
    clear heq
    cases dn
    ·cases hbf : befB y x
     all_goals
      have HBF := hid hbf
      go_wp2_with fail
      refine (before_any y x _).mono ?_
      rintro e wb ⟨rfl, bb⟩
      rw [HBF.out]
      have KB := K1.call bb
      clear bb F F1
      have FB := KB.facts
      simp only [factsL, cellsF, Nat.reduceAdd, zf, zl] at FB
      clear hbf
      first
       | (go_wp2_with (first
         | (at_builtin; refine wpList_appH KB 2 rfl Tryz.elLink #[.string x.a, .string x.b] rfl (.tmp 23) (.tmp 25) rfl rfl wb.heap.size rfl rfl rfl (one_lk _ _) (by omega) (by omega) ?_; intro g2 cap2 w2 hc2 hm2 K2; (have F2 := K2.facts); simp only [World.size_alloc, World.size_drew, factsL, cellsF, Nat.reduceAdd, List.toList_toArray, List.set_cons_zero, List.set_cons_succ, and_true, true_and] at F2)
         | (at_builtin; refine wpList_appH KB 2 rfl Tryz.elLink #[.string y.a, .string y.b] rfl (.tmp 30) (.tmp 32) rfl rfl wb.heap.size rfl rfl rfl (one_lk _ _) (by omega) (by omega) ?_; intro g3 cap3 w3 hc3 hm3 K3)
         | (at_builtin; refine wpList_appH K2 2 rfl Tryz.elLink #[.string y.a, .string y.b] rfl (.tmp 30) (.tmp 32) rfl rfl w2.heap.size rfl rfl rfl (one_lk _ _) (by omega) (by omega) ?_; intro g3 cap3 w3 hc3 hm3 K3)))
      go_roundw
      case measure => simp [intOf]; omega
      case rel =>
       first
        | (refine ⟨k + 1, _, _, _, o ++ [x] ++ [y], true, by omega, by go_num, rfl, rfl, hid (by simp [HQ.out]), hid (by rw [HN.out, HS.out]; simp [insStep, HBF.out, HE.out]), ?_⟩; rw [← lkCells_snoc, ← lkCells_snoc]; exact K3.drop (List.sublist_cons_self _ _))
        | (refine ⟨k + 1, _, _, _, o ++ [x], true, by omega, by go_num, rfl, rfl, hid (by simp [HQ.out]), hid (by rw [HN.out, HS.out]; simp [insStep, HBF.out, HE.out]), ?_⟩; rw [← lkCells_snoc]; exact K2.drop (List.sublist_cons_self _ _))
        | (refine ⟨k + 1, _, _, _, o ++ [y], false, by omega, by go_num, rfl, rfl, hid (by simp [HQ.out]), hid (by rw [HN.out, HS.out]; simp [insStep, HBF.out, HE.out]), ?_⟩; rw [← lkCells_snoc]; exact K3.drop (List.sublist_cons_self _ _))
        | (refine ⟨k + 1, _, _, _, o, false, by omega, by go_num, rfl, rfl, hid (by simp [HQ.out]), hid (by rw [HN.out, HS.out]; simp [insStep, HBF.out, HE.out]), ?_⟩; exact KB.drop (List.sublist_cons_self _ _))
    ·go_wp2_with (at_builtin; refine wpList_appH K1 2 rfl Tryz.elLink #[.string y.a, .string y.b] rfl (.tmp 30) (.tmp 32) rfl rfl (wr.heap.size + 1) (by simp) rfl rfl (one_lk _ _) (by omega) (by omega) ?_; intro g3 cap3 w3 hc3 hm3 K3)
     go_roundw
     case measure => simp [intOf]; omega
     case rel =>
      first
       | (refine ⟨k + 1, _, _, _, o ++ [y], true, by omega, by go_num, rfl, rfl, hid (by simp [HQ.out]), hid (by rw [HN.out, HS.out]; simp [insStep, HE.out]), ?_⟩; rw [← lkCells_snoc]; exact K3.drop (List.sublist_cons_self _ _))
       | (refine ⟨k + 1, _, _, _, o, true, by omega, by go_num, rfl, rfl, hid (by simp [HQ.out]), hid (by rw [HN.out, HS.out]; simp [insStep, HE.out]), ?_⟩; exact K1.drop (List.sublist_cons_self _ _))
  ·obtain rfl : k = n := by omega
   have HI : Hid (insL x l = if dn then o else o ++ [x]) := by unfold Hid insL; rw [HL.out, HS.out]
   have F := H.facts
   simp only [World.size_alloc, World.size_drew, factsL, cellsF, Nat.reduceAdd, List.toList_toArray, and_true, true_and] at F
   have hcap := own_caps (H.get 1 rfl)
   cases dn
   ·go_wp2_with (at_builtin; refine wpList_appH H 1 rfl Tryz.elLink #[.string x.a, .string x.b] rfl (.tmp 37) (.tmp 39) rfl rfl wr.heap.size rfl rfl rfl (one_lk _ _) (by omega) (by omega) ?_; intro g3 cap3 w3 hc3 hm3 K3)
    have KS := K3.sealRow 1 rfl
    go_ret
    have e : insL x l = o ++ [x] := HI.out
    exact ⟨_, _, _, rfl, by rw [e, HQ.out]; simp, hc3, hm3, by rw [e]; unfold LksIn; rw [← lkCells_snoc]; exact KS.roOut 1 rfl, KS.below⟩
   ·have KS := H.sealRow 1 rfl
    go_wp2_with fail
    go_ret
    have e : insL x l = o := HI.out
    exact ⟨_, _, _, rfl, by rw [e]; exact HQ.out, hcap.1, hcap.2.1, by rw [e]; exact KS.roOut 1 rfl, KS.below⟩
end Go.Proofs.YtnbbllkbefagmaaGreatDoor

namespace Go.Proofs.YtnbbllkbefagmaaGreatDoor
open Go.RowKit
set_option linter.unusedVariables false
set_option linter.unusedSimpArgs false

def lkAt (l : List Lk) (i : Nat) : Lk := l.getD i ⟨⟨#[]⟩, ⟨#[]⟩⟩
theorem lkAt_of {l : List Lk} {i : Nat} {x : Lk} (h : l[i]? = some x) : lkAt l i = x := by simp [lkAt, List.getD, h]
/-- the link x follows on y, or the link that it asks is there -/
def trB (l : List Lk) (x y : Lk) : Bool := !(x.b.toList == y.a.toList) || precB l x.a y.b
def okAt (l : List Lk) (i : Nat) : Bool := !((lkAt l i).a.toList == (lkAt l i).b.toList) && (i == 0 || befB (lkAt l (i - 1)) (lkAt l i)) && l.all (trB l (lkAt l i))
def validLk (l : List Lk) : Bool := (List.range l.length).all (okAt l)
theorem all_succ {p : Nat → Bool} {k : Nat} (h : (List.range k).all p = true) (hp : p k = true) : (List.range (k + 1)).all p = true := by
 rw [List.range_succ, List.all_append, h]; simpa using hp
theorem all_no {p : Nat → Bool} {k n : Nat} (hk : k < n) (hp : p k = false) : (List.range n).all p = false := by
 rw [List.all_eq_false]; exact ⟨k, by simpa using hk, by simp [hp]⟩
theorem take_all {α : Type} {p : α → Bool} {l : List α} {k : Nat} {x : α} (h : (l.take k).all p = true) (hx : l[k]? = some x) (hp : p x = true) : (l.take (k + 1)).all p = true := by
 obtain ⟨hk, rfl⟩ := List.getElem?_eq_some_iff.1 hx
 rw [List.take_succ_eq_append_getElem hk, List.all_append, h]; simpa using hp
theorem all_miss {α : Type} {p : α → Bool} {l : List α} {k : Nat} {x : α} (hx : l[k]? = some x) (hp : p x = false) : l.all p = false := by
 rw [List.all_eq_false]; exact ⟨x, List.mem_of_getElem? hx, by simp [hp]⟩

set_option maxHeartbeats 4000000 in
set_option maxRecDepth 100000 in
theorem rvalidLk_any (M : Nat → Prop) (w : World) (hM : ∀ b, M b → b < w.heap.size) (A : Option Addr) (n c : Nat) (l : List Lk) (hD : Ro w M (LksIn A n l)) (hn : n ≤ 1000000) :
  Calls Tryz.prog 106 #[.slice A n c] w fun e w' => e = .returned (.bool (validLk l)) ∧ Below w.heap.size w w' := by
 have HL := hid hD.now.len
 have K0 := (Hold.start M w hM).add (hD.less (by simp [Mut]))
 go_enter Tryz.func106, Tryz.ntmps106
 go_wp2_with fail
 go_loopw [9] (fun i wr => ∃ (k : Nat), k ≤ n ∧ i = .int .i64 k ∧ Hid ((List.range k).all (okAt l) = true) ∧ Hold M none w wr [.ro (LksIn A n l)]) (fun i _ => n - (intOf i).toNat)
 case atStart => exact ⟨0, by omega, rfl, hid rfl, K0⟩
 case round =>
  obtain ⟨k, hk, rfl, HV, H⟩ := hrel
  obtain ⟨wo, rfl⟩ : ∃ wo : World, wo = wr := ⟨_, rfl⟩
  by_cases hlt : k < n
  ·have hd : decide ((k : Int) < (n : Int)) = true := by simp; omega
   obtain ⟨x, hx⟩ := get_of HL.out hlt
   obtain ⟨g, o, rfl, hb, c0, c1⟩ := (H.ro 0 rfl).now.at_ hx
   have HX := hid (lkAt_of hx); clear hx
   have K1 := H.alloc_cst #[.string x.a, .string x.b] 190
   have F1 := K1.facts
   simp only [World.size_alloc, World.size_drew, factsL, cellsF, Nat.reduceAdd, List.toList_toArray, and_true, true_and] at F1
   have HB0 := hid (And.intro c0 c1)
   cases hs : (x.a.toList == x.b.toList)
   ·by_cases hk0 : k = 0
    ·have hkd : decide (0 < k) = false := by simp; omega
     have HK0 := hid hk0
     have HSF := hid hs
     clear hk0
     go_wp2_with fail
     go_quiet (fail)
     go_wp2_with fail
     go_loopw [35] (fun j wq => ∃ p : Nat, p ≤ n ∧ j = .int .i64 p ∧ Hid ((l.take p).all (trB l x) = true) ∧ Hold M none w wq [.cst wo.heap.size 190 #[.string x.a, .string x.b], .ro (LksIn (some ⟨g, o, none⟩) n l)]) (fun j _ => n - (intOf j).toNat)
     case atStart => exact ⟨0, by omega, rfl, hid rfl, K1.drewN _⟩
     case round =>
      obtain ⟨p, hp, rfl, HP, H2⟩ := hrel
      by_cases hlt2 : p < n
      ·have hd2 : decide ((p : Int) < (n : Int)) = true := by simp; omega
       obtain ⟨y, hy⟩ := get_of HL.out hlt2
       obtain ⟨g', o', ho', hb', e0, e1⟩ := (H2.ro 1 rfl).now.at_ hy
       obtain ⟨rfl, rfl⟩ : g = g' ∧ o = o' := by injection ho' with ho'; injection ho' with a1 a2; exact ⟨a1, a2⟩
       clear ho'
       have HY := hid hy; clear hy
       have K2 := H2.alloc_cst #[.string y.a, .string y.b] 190
       have F2 := H2.facts
       simp only [World.size_alloc, World.size_drew, factsL, cellsF, Nat.reduceAdd, List.toList_toArray, and_true, true_and] at F2
       cases h4 : (x.b.toList == y.a.toList)
       ·have HT := hid (show trB l x y = true by simp only [trB, h4]; rfl)
        go_wp2_with fail
        go_roundw
        case rel => exact ⟨p + 1, by omega, by go_num, hid (take_all HP.out HY.out HT.out), K2.drop (List.sublist_cons_self _ _)⟩
        case measure => simp [intOf]; omega
       ·cases hpr : precB l x.a y.b
        ·have HT := hid (show trB l x y = false by simp only [trB, h4, hpr]; rfl)
         go_wp2_with (go_at_call 170; refine (rprec_any (Mut M _) _ K2.mutLt _ n c l x.a y.b (K2.ro 2 rfl) (by omega)).mono ?_; rintro e w5 ⟨rfl, b5⟩; have K5 := K2.call b5; rw [hpr])
         go_ret
         exact ⟨by rw [show validLk l = false from all_no (k := k) (by rw [HL.out]; exact hlt) (by unfold okAt; rw [HX.out, all_miss HY.out HT.out]; simp)] <;> rfl, K5.below⟩
        ·have HT := hid (show trB l x y = true by simp only [trB, h4, hpr]; rfl)
         go_wp2_with (go_at_call 170; refine (rprec_any (Mut M _) _ K2.mutLt _ n c l x.a y.b (K2.ro 2 rfl) (by omega)).mono ?_; rintro e w5 ⟨rfl, b5⟩; have K5 := K2.call b5; rw [hpr])
         go_roundw
         case rel => exact ⟨p + 1, by omega, by go_num, hid (take_all HP.out HY.out HT.out), K5.drop (List.sublist_cons_self _ _)⟩
         case measure => simp [intOf]; omega
      ·obtain rfl : n = p := by omega
       have HPA := HP.out
       rw [List.take_of_length_le (by rw [HL.out]; omega)] at HPA
       have HPB := hid HPA; clear HPA
       go_wp2_with fail
       go_roundw
       case rel => exact ⟨k + 1, by omega, by go_num, hid (all_succ HV.out (by unfold okAt; rw [HX.out, HPB.out, HSF.out]; simp [HK0.out])), H2.drop (List.sublist_cons_self _ _)⟩
       case measure => simp [intOf]; omega
    ·obtain ⟨k, rfl⟩ : ∃ m, k = m + 1 := ⟨k - 1, by omega⟩
     have HSF := hid hs
     have hw : IntKind.i64.wrap (k : Int) = (k : Int) := IntWalk.i64_in _ (by omega)
     have i0 : (0 : Int) ≤ (k : Int) := by omega
     have i1 : (k : Int) < (n : Int) := by omega
     have hkd : decide ((0 : Int) < (k : Int) + 1) = true := by simp
     clear hk0
     obtain ⟨z, hz⟩ := get_of HL.out (show k < n by omega)
     obtain ⟨g', o', ho', hb', e0, e1⟩ := (K1.ro 1 rfl).now.at_ hz
     obtain ⟨rfl, rfl⟩ : g = g' ∧ o = o' := by injection ho' with ho'; injection ho' with a1 a2; exact ⟨a1, a2⟩
     clear ho'
     have HZ := hid (lkAt_of hz); clear hz
     cases hbf : befB z x
     ·have HBF := hid hbf
      go_wp2_with fail
      generalize wo.alloc (.cells #[.string x.a, .string x.b] 190) = w1 at *
      go_still_tail 15, (by kernel_rfl)
      change wpList _ _ _ _ _ (World.drew _)
      go_wp2_with (go_at_call 169; refine (before_any z x _).mono ?_; rintro e w5 ⟨rfl, b5⟩; have K5 := K1.drew.call b5; rw [HBF.out])
      go_wp2_with fail
      go_ret
      exact ⟨by rw [show validLk l = false from all_no (k := (k + 1)) (by rw [HL.out]; exact hlt) (by unfold okAt; rw [HX.out]; simp only [HBF.out, lkAt_of, Nat.add_sub_cancel, HZ.out]; simp)] <;> rfl, by first | exact (K5).below | exact (K5).drew.below | exact ((K5).drewN _).below⟩
     ·have HBF := hid hbf
      go_wp2_with fail
      generalize wo.alloc (.cells #[.string x.a, .string x.b] 190) = w1 at *
      go_still_tail 15, (by kernel_rfl)
      change wpList _ _ _ _ _ (World.drew _)
      go_wp2_with (go_at_call 169; refine (before_any z x _).mono ?_; rintro e w5 ⟨rfl, b5⟩; have K5 := K1.drew.call b5; rw [HBF.out])
      go_loopw [35] (fun j wq => ∃ p : Nat, p ≤ n ∧ j = .int .i64 p ∧ Hid ((l.take p).all (trB l x) = true) ∧ Hold M none w wq [.cst wo.heap.size 190 #[.string x.a, .string x.b], .ro (LksIn (some ⟨g, o, none⟩) n l)]) (fun j _ => n - (intOf j).toNat)
      case atStart => exact ⟨0, by omega, rfl, hid rfl, K5⟩
      case round =>
       obtain ⟨p, hp, rfl, HP, H2⟩ := hrel
       by_cases hlt2 : p < n
       ·have hd2 : decide ((p : Int) < (n : Int)) = true := by simp; omega
        obtain ⟨y, hy⟩ := get_of HL.out hlt2
        obtain ⟨g', o', ho', hb', e0, e1⟩ := (H2.ro 1 rfl).now.at_ hy
        obtain ⟨rfl, rfl⟩ : g = g' ∧ o = o' := by injection ho' with ho'; injection ho' with a1 a2; exact ⟨a1, a2⟩
        clear ho'
        have HY := hid hy; clear hy
        have K2 := H2.alloc_cst #[.string y.a, .string y.b] 190
        have F2 := H2.facts
        simp only [World.size_alloc, World.size_drew, factsL, cellsF, Nat.reduceAdd, List.toList_toArray, and_true, true_and] at F2
        cases h4 : (x.b.toList == y.a.toList)
        ·have HT := hid (show trB l x y = true by simp only [trB, h4]; rfl)
         go_wp2_with fail
         go_roundw
         case rel => exact ⟨p + 1, by omega, by go_num, hid (take_all HP.out HY.out HT.out), K2.drop (List.sublist_cons_self _ _)⟩
         case measure => simp [intOf]; omega
        ·cases hpr : precB l x.a y.b
         ·have HT := hid (show trB l x y = false by simp only [trB, h4, hpr]; rfl)
          go_wp2_with (go_at_call 170; refine (rprec_any (Mut M _) _ K2.mutLt _ n c l x.a y.b (K2.ro 2 rfl) (by omega)).mono ?_; rintro e w5 ⟨rfl, b5⟩; have K5 := K2.call b5; rw [hpr])
          go_ret
          exact ⟨by rw [show validLk l = false from all_no (k := (k + 1)) (by rw [HL.out]; exact hlt) (by unfold okAt; rw [HX.out, all_miss HY.out HT.out]; simp)] <;> rfl, K5.below⟩
         ·have HT := hid (show trB l x y = true by simp only [trB, h4, hpr]; rfl)
          go_wp2_with (go_at_call 170; refine (rprec_any (Mut M _) _ K2.mutLt _ n c l x.a y.b (K2.ro 2 rfl) (by omega)).mono ?_; rintro e w5 ⟨rfl, b5⟩; have K5 := K2.call b5; rw [hpr])
          go_roundw
          case rel => exact ⟨p + 1, by omega, by go_num, hid (take_all HP.out HY.out HT.out), K5.drop (List.sublist_cons_self _ _)⟩
          case measure => simp [intOf]; omega
       ·obtain rfl : n = p := by omega
        have HPA := HP.out
        rw [List.take_of_length_le (by rw [HL.out]; omega)] at HPA
        have HPB := hid HPA; clear HPA
        go_wp2_with fail
        go_roundw
        case rel => exact ⟨(k + 1) + 1, by omega, by go_num, hid (all_succ HV.out (by unfold okAt; rw [HX.out, HPB.out, HSF.out]; simp [HZ.out, HBF.out])), H2.drop (List.sublist_cons_self _ _)⟩
        case measure => simp [intOf]; omega
   ·have HS := hid hs
    go_wp2_with fail
    go_quiet (fail)
    go_wp2_with fail
    go_ret
    exact ⟨by rw [show validLk l = false from all_no (k := k) (by rw [HL.out]; exact hlt) (by unfold okAt; rw [HX.out]; simp only [HS.out]; simp)] <;> rfl, by first | exact (K1).below | exact (K1).drew.below | exact ((K1).drewN _).below⟩
  ·obtain rfl : k = n := by omega
   go_wp2_with fail
   go_ret
   exact ⟨by rw [show validLk l = true from by unfold validLk; rw [HL.out]; exact HV.out] <;> rfl, H.below⟩
end Go.Proofs.YtnbbllkbefagmaaGreatDoor

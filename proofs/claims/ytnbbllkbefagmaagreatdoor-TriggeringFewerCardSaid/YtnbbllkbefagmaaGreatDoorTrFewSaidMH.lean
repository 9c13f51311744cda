/- TrCl: a list of triggers without one of them (slices of slices, Clone, append). -/
import Derived.Test.YtnbbllkbefagmaaGreatDoorTrFewSaidMA
import Derived.Test.YtnbbllkbefagmaaGreatDoorTrFewSaidMG
import Derived.Deep.CutRange
import Derived.Deep.LoopGhost
import Derived.Test.YtnbbllkbefagmaaGreatDoorTrFewSaidMB
import Derived.Deep.DeepCutAuto
import Derived.IntWalk
import Derived.Test.YtnbbllkbefagmaaGreatDoorTrFewSaidMC
import Derived.StillTailTactics
import Derived.Shelf.SlGeneric
import Derived.Shelf.SlSortCmp.NoneTotal
import Derived.Shelf.SlSortCmp.WholeK
import Derived.Shelf.SortM.Plain
import Derived.Shelf.SortM.SortNone
import Derived.Shelf.SlicesG.CompactS
import Derived.Ground.SlsfProg
import Derived.Ground.SlgmProg
import Derived.Ground.SlgnProg
import Derived.Test.YtnbbllkbefagmaaGreatDoorProg
import Derived.Shelf.SlSortCmp.QuietGrown
import Derived.Shelf.SlSortCmp.InsertionK
import Derived.Test.YtnbbllkbefagmaaGreatDoorTrFewSaidMD
import Derived.Deep.RegionHeld3
namespace Go.Proofs.YtnbbllkbefagmaaGreatDoor
open Go.RowKit
set_option linter.unusedVariables false
set_option linter.unusedSimpArgs false
theorem contS_has (l : List ByteArray) (c : ByteArray) : contS l c = hasB l c := by
 unfold contS; exact Bool.eq_iff_iff.2 (decide_eq_true_iff.trans hasB_iff.symm)
/-- what the closure over the assigned columns has in memory -/
def AsIn (g : Nat) (A : Option Addr) (n c : Nat) (l : List ByteArray) (w : World) : Prop := w.heap[g]? = some (.cells #[.slice A n c] 35 (0, 0)) ∧ StrsIn A n l w
set_option maxHeartbeats 4000000 in
theorem appc_any (w : World) (g : Nat) (A : Option Addr) (n c : Nat) (l : List ByteArray) (s : ByteArray) (hx : AsIn g A n c l w) (hn : n ≤ 1000000) : Calls Tryz.prog 213 #[.string s, .pointer (some ⟨g, 0, none⟩)] w fun e w' => e = .returned (.bool (hasB l s)) ∧ w = w' := by
 obtain ⟨q1, q2⟩ := hx
 have s0 := cell_of_row _ _ 0 _ _ _ q1
 clear q1
 have HQ := hid q2
 clear q2
 go_enter Tryz.func213, Tryz.ntmps213
 go_wp2_with fail
 refine (scont_any w A n c l s HQ.out (by omega)).mono ?_
 rintro e w1 ⟨rfl, rfl⟩
 go_wp2_with fail
 go_ret
 exact ⟨by rw [contS_has] <;> rfl, rfl⟩
theorem app_skip {p : Tg → Bool} {ts outs : List Tg} {j : Nat} {x : Tg} (h : outs.map kTg = ((ts.take j).filter p).map kTg) (hx : ts[j]? = some x) (hp : p x = false) : outs.map kTg = ((ts.take (j + 1)).filter p).map kTg := by
 rw [take_nx hx, List.filter_append, h]; simp [hp]
theorem app_next {p : Tg → Bool} {ts outs : List Tg} {j : Nat} {x y : Tg} (h : outs.map kTg = ((ts.take j).filter p).map kTg) (hx : ts[j]? = some x) (hp : p x = true) (hy : kTg y = kTg x) : (outs ++ [y]).map kTg = ((ts.take (j + 1)).filter p).map kTg := by
 rw [take_nx hx, List.filter_append, List.map_append, List.map_append, h]; simp [hp, hy]
def AppRet (w : World) (M : Nat → Prop) (l : List Tg) (e : Ending) (w' : World) : Prop := ∃ (A : Option Addr) (n c : Nat) (k : List Tg), e = .returned (.slice A n c) ∧ n ≤ 8 ∧ k.map kTg = l.map kTg ∧ (∀ y ∈ k, TgGd 5 y) ∧ Ro w' M (TgsIn 5 A n k) ∧ Below w.heap.size w w'
set_option maxHeartbeats 16000000 in
set_option maxRecDepth 100000 in
theorem applic_any (M : Nat → Prop) (w : World) (hM : ∀ b, M b → b < w.heap.size) (A : Option Addr) (n c : Nat) (ts : List Tg) (tab : ByteArray) (B : Option Addr) (m q : Nat) (sl : List ByteArray) (hT : Ro w M (TgsIn 5 A n ts)) (hS : Ro w None_ (StrsIn B m sl)) (hn : n ≤ 8) (hm : m ≤ 1000000) (hG : ∀ t ∈ ts, TgEd t) : Calls Tryz.prog 176 #[.slice A n c, .string tab, .int .i64 2, .slice B m q, .bool true] w fun e w' => AppRet w M (ts.filter (appT tab sl)) e w' := by
 have HL := hid hT.now.len
 have HG := hid hG
 have HS := hid hS
 have K0 := ((((Hold.start M w hM).add (hT.less (by simp [Mut]))).alloc_cst #[.slice B m q] 35).add (S := TgsOf 5 []) (fun w2 _ _ x hx => (nomatch hx))).nil 40 11
 clear hT hS hG
 obtain ⟨g8, hg8⟩ : ∃ g, g = w.heap.size := ⟨_, rfl⟩
 rw [← hg8] at K0
 go_enter Tryz.func176, Tryz.ntmps176
 go_upto_region 1 with fail
 rw [← hg8]
 have HG8 := hid hg8
 clear hg8
 generalize World.alloc _ _ = w1 at K0 ⊢
 go_wp2_with fail
 go_loopw [11, 17] (fun ov iv wr => ∃ (j k cap : Nat) (O : Option Addr) (outs : List Tg), j ≤ n ∧ k ≤ j ∧ iv = .int .i64 j ∧ ov = .slice O k cap ∧ Hid (outs.map kTg = ((ts.take j).filter (appT tab sl)).map kTg ∧ ∀ y ∈ outs, TgGd 5 y) ∧ Hold M none w wr [.own 40 11 (.slice O k cap) k (tgCells outs), .ro (TgsOf 5 outs), .cst g8 35 #[.slice B m q], .ro (TgsIn 5 A n ts)]) (fun _ iv _ => n - (intOf iv).toNat)
 case atStart => exact ⟨0, 0, 0, none, [], by omega, by omega, rfl, rfl, hid ⟨rfl, fun y hy => (nomatch hy)⟩, K0⟩
 case round =>
  clear K0
  obtain ⟨j, k, cap, O, outs, hj, hkj, rfl, rfl, HO, H⟩ := hrel
  by_cases hlt : j < n
  ·have j0 : (0 : Int) ≤ (j : Int) := by omega
   have j1 : (j : Int) < (n : Int) := by omega
   obtain ⟨⟨tn, tt, tb, te, ⟨oA, on, oc, ol⟩, tch, ⟨pA, pn, pc, pl⟩, ⟨qA, qn, qc, ql⟩, ⟨rA, rn, rc, rl⟩, ⟨kA, kn, kc, kl⟩, ⟨aA, an, ac, al⟩⟩, hx⟩ := get_of HL.out hlt
   obtain ⟨b, o, rfl, hb, hc, -⟩ := (H.ro 3 rfl).now.at_ hx
   have x0 := hc 0 _ (by omega) rfl
   have x1 := hc 1 _ (by omega) rfl
   have x2 := hc 2 _ (by omega) rfl
   have x3 := hc 3 _ (by omega) rfl
   have x4 := hc 4 _ (by omega) rfl
   have x5 := hc 5 _ (by omega) rfl
   have x6 := hc 6 _ (by omega) rfl
   have x7 := hc 7 _ (by omega) rfl
   have x8 := hc 8 _ (by omega) rfl
   have x9 := hc 9 _ (by omega) rfl
   have x10 := hc 10 _ (by omega) rfl
   simp only [Nat.add_zero, SlP.v] at x0 x1 x2 x3 x4 x5 x6 x7 x8 x9 x10
   clear hc
   have hmx := List.mem_of_getElem? hx
   have HX := hid hx
   have HGX := hid (HG.out _ hmx)
   have K1 := (H.add (S := TgIn 5 ⟨tn, tt, tb, te, ⟨oA, on, oc, ol⟩, tch, ⟨pA, pn, pc, pl⟩, ⟨qA, qn, qc, ql⟩, ⟨rA, rn, rc, rl⟩, ⟨kA, kn, kc, kl⟩, ⟨aA, an, ac, al⟩⟩) ((H.ro 3 rfl).imp fun w2 h2 => h2.2 _ hmx)).alloc_cst #[.string tn, .string tt, .bool tb, .int .i64 te, .slice oA on oc, .bool tch, .slice pA pn pc, .slice qA qn qc, .slice rA rn rc, .slice kA kn kc, .slice aA an ac] 40
   clear H hx hmx
   obtain ⟨g9, hg9⟩ : ∃ g, g = wr.heap.size := ⟨_, rfl⟩
   rw [← hg9] at K1
   go_upto_region 5 with fail
   rw [← hg9]
   have HG9 := hid hg9
   clear hg9 x0 x1 x2 x3 x4 x5 x6 x7 x8 x9 x10
   generalize World.alloc _ _ = w4 at K1 ⊢
   have F1 := K1.facts
   simp only [factsL, cellsF, Nat.reduceAdd, zf, zl] at F1
   cases tb
   ·have HP := hid (show appT tab sl ⟨tn, tt, false, te, ⟨oA, on, oc, ol⟩, tch, ⟨pA, pn, pc, pl⟩, ⟨qA, qn, qc, ql⟩, ⟨rA, rn, rc, rl⟩, ⟨kA, kn, kc, kl⟩, ⟨aA, an, ac, al⟩⟩ = false from rfl)
    go_wp2_with fail
    go_roundw
    case rel => exact ⟨j + 1, k, cap, O, outs, by omega, by omega, by go_num, by first | rfl | trivial, hid ⟨app_skip HO.out.1 HX.out HP.out, HO.out.2⟩, K1.drop (((List.sublist_cons_self _ _).cons _))⟩
    case measure => simp [intOf]; omega
   ·by_cases htab : tt = tab
    ·have e1 : (tt.toList == tab.toList) = true := by simp [htab]
     have e2 : (tt.toList != tab.toList) = false := by simp [htab]
     by_cases hev : te = 2
     ·have e3 : (te != 2) = false := by simp [hev]
      cases tch
      ·have HP := hid (show appT tab sl ⟨tn, tt, true, te, ⟨oA, on, oc, ol⟩, false, ⟨pA, pn, pc, pl⟩, ⟨qA, qn, qc, ql⟩, ⟨rA, rn, rc, rl⟩, ⟨kA, kn, kc, kl⟩, ⟨aA, an, ac, al⟩⟩ = false from by simp [appT])
       clear htab hev
       go_wp2_with fail
       go_roundw
       case rel => exact ⟨j + 1, k, cap, O, outs, by omega, by omega, by go_num, by first | rfl | trivial, hid ⟨app_skip HO.out.1 HX.out HP.out, HO.out.2⟩, K1.drop (((List.sublist_cons_self _ _).cons _))⟩
       case measure => simp [intOf]; omega
      ·have HGG := hid (HGX.out.b rfl)
       have HOL := hid (show ol.length = on from SlP.In.len (s := ⟨oA, on, oc, ol⟩) (k := 1) (cel := strc) (P := fun _ _ => True) (K1.ro 1 rfl).now.1 (by omega) (fun _ => rfl))
       have hon : on ≤ 8 := by have h2 : ol.length ≤ 8 := HGX.out.c; have := HOL.out; omega
       have HPP := hid (show appT tab sl ⟨tn, tt, true, te, ⟨oA, on, oc, ol⟩, true, ⟨pA, pn, pc, pl⟩, ⟨qA, qn, qc, ql⟩, ⟨rA, rn, rc, rl⟩, ⟨kA, kn, kc, kl⟩, ⟨aA, an, ac, al⟩⟩ = (decide (ol = []) || ol.any fun s => hasB sl s) from by simp [appT, htab, hev])
       clear htab hev
       have hc1 : StrsIn oA on ol w4 ∧ AsIn g8 B m q sl w4 := ⟨strsIn_of (K1.ro 1 rfl).now.1.1, K1.cst_ 4 rfl, HS.out w4 K1.below.size (fun b hb _ => K1.below.block b hb)⟩
       go_wp2_with fail
       refine (scf_any _ 213 _ (hasB sl) (fun _ _ => rfl) (fun s => appc_any _ g8 B m q sl s hc1.2 hm) oA on oc ol hc1.1 (by omega)).mono ?_
       rintro e w5 ⟨rfl, rfl⟩
       clear hc1
       obtain ⟨z, hz⟩ : ∃ z : Bool, (ol.any fun s => hasB sl s) = z := ⟨_, rfl⟩
       rw [hz]
       have HZ := hid hz
       clear hz
       have hon0 : ((on : Int) == 0) = decide (ol = []) := by
        rw [Bool.eq_iff_iff, beq_iff_eq, decide_eq_true_iff, ← List.length_eq_zero_iff, HOL.out]; omega
       obtain ⟨y, hy⟩ : ∃ y : Bool, decide (ol = []) = y := ⟨_, rfl⟩
       rw [hy] at hon0
       have HY := hid hy
       clear hy
       go_upto_region 7 with fail
       go_cut [56] from 46 to 56 (fun v wx => v = .bool (y || z) ∧ wx = w4)
       case first =>
        cases y
        ·go_wp2_with fail
         go_meet
         exact ⟨by first | rfl | simp, rfl⟩
        ·go_wp2_with fail
         go_meet
         exact ⟨by first | rfl | simp, rfl⟩
       case rest =>
        obtain ⟨rfl, rfl⟩ := hcut
        clear hon0
        rw [HY.out, HZ.out] at HPP
        clear HY HZ
        generalize (y || z) = yz at *
        cases yz
        ·clear hon
         go_wp2_with fail
         go_roundw
         case rel => exact ⟨j + 1, k, cap, O, outs, by omega, by omega, by go_num, by first | rfl | trivial, hid ⟨app_skip HO.out.1 HX.out HPP.out, HO.out.2⟩, K1.drop (((List.sublist_cons_self _ _).cons _))⟩
         case measure => simp [intOf]; omega
        ·go_wp2_with fail
         refine (deepTrig_any 5 (Mut M _) _ K1.mutLt ⟨tn, tt, true, te, ⟨oA, on, oc, ol⟩, true, ⟨pA, pn, pc, pl⟩, ⟨qA, qn, qc, ql⟩, ⟨rA, rn, rc, rl⟩, ⟨kA, kn, kc, kl⟩, ⟨aA, an, ac, al⟩⟩ (K1.ro 1 rfl) HGG.out).mono ?_
         rintro e w5 ⟨⟨yn, yt, yb, ye, ⟨yoA, yon, yoc, yol⟩, ych, ⟨ypA, ypn, ypc, ypl⟩, ⟨yqA, yqn, yqc, yql⟩, ⟨yrA, yrn, yrc, yrl⟩, ⟨ykA, ykn, ykc, ykl⟩, ⟨yaA, yan, yac, yal⟩⟩, rfl, hyg, hcp, ry, b5⟩
         have HYG := hid hyg
         have HYK := hid hcp.k
         have K2 := (K1.call b5).add ry
         clear K1 F1 hyg hcp ry b5
         rw [show Tg.val ⟨yn, yt, yb, ye, ⟨yoA, yon, yoc, yol⟩, ych, ⟨ypA, ypn, ypc, ypl⟩, ⟨yqA, yqn, yqc, yql⟩, ⟨yrA, yrn, yrc, yrl⟩, ⟨ykA, ykn, ykc, ykl⟩, ⟨yaA, yan, yac, yal⟩⟩ = .agg #[.string yn, .string yt, .bool yb, .int .i64 ye, .slice yoA yon yoc, .bool ych, .slice ypA ypn ypc, .slice yqA yqn yqc, .slice yrA yrn yrc, .slice ykA ykn ykc, .slice yaA yan yac] from rfl]
         have F2 := K2.facts
         simp only [factsL, cellsF, Nat.reduceAdd, zf, zl] at F2
         go_wp2_with (at_builtin; go_must (refine wpList_appH K2 3 rfl Tryz.elTgD #[.string yn, .string yt, .bool yb, .int .i64 ye, .slice yoA yon yoc, .bool ych, .slice ypA ypn ypc, .slice yqA yqn yqc, .slice yrA yrn yrc, .slice ykA ykn ykc, .slice yaA yan yac] rfl (.tmp 57) (.tmp 60) rfl rfl _ (by first | rfl | simp) rfl rfl (by intro u hu; simp at hu; rcases hu with rfl | rfl | rfl | rfl | rfl | rfl | rfl | rfl | rfl | rfl | rfl <;> rfl) (by omega) (by omega) ?_); intro gA capA wA hcA hmA KB; simp only [zl] at KB)
         rw [show tgCells outs ++ (#[.string yn, .string yt, .bool yb, .int .i64 ye, .slice yoA yon yoc, .bool ych, .slice ypA ypn ypc, .slice yqA yqn yqc, .slice yrA yrn yrc, .slice ykA ykn ykc, .slice yaA yan yac] : Array Value).toList = tgCells (outs ++ [⟨yn, yt, yb, ye, ⟨yoA, yon, yoc, yol⟩, ych, ⟨ypA, ypn, ypc, ypl⟩, ⟨yqA, yqn, yqc, yql⟩, ⟨yrA, yrn, yrc, yrl⟩, ⟨ykA, ykn, ykc, ykl⟩, ⟨yaA, yan, yac, yal⟩⟩]) from (tgCells_snoc outs ⟨yn, yt, yb, ye, ⟨yoA, yon, yoc, yol⟩, ych, ⟨ypA, ypn, ypc, ypl⟩, ⟨yqA, yqn, yqc, yql⟩, ⟨yrA, yrn, yrc, yrl⟩, ⟨ykA, ykn, ykc, ykl⟩, ⟨yaA, yan, yac, yal⟩⟩).symm] at KB
         have hR : Ro _ _ (TgsOf 5 (outs ++ [⟨yn, yt, yb, ye, ⟨yoA, yon, yoc, yol⟩, ych, ⟨ypA, ypn, ypc, ypl⟩, ⟨yqA, yqn, yqc, yql⟩, ⟨yrA, yrn, yrc, yrl⟩, ⟨ykA, ykn, ykc, ykl⟩, ⟨yaA, yan, yac, yal⟩⟩])) := ((KB.ro 4 rfl).and (KB.ro 0 rfl)).imp fun w2 h2 y hy => by
          rcases List.mem_append.1 hy with hy | hy
          ·exact h2.1 y hy
          ·simp only [List.mem_cons, List.not_mem_nil, or_false] at hy
           subst hy
           exact h2.2
         have KC := (KB.swapRo 4 rfl hR).pick [3, 4, 5, 6] (by decide) rfl
         simp only [List.set_cons_zero, List.set_cons_succ, List.filterMap_cons, List.filterMap_nil, List.getElem?_cons_zero, List.getElem?_cons_succ] at KC
         go_roundw
         case rel => exact ⟨j + 1, k + 1, capA, _, outs ++ [⟨yn, yt, yb, ye, ⟨yoA, yon, yoc, yol⟩, ych, ⟨ypA, ypn, ypc, ypl⟩, ⟨yqA, yqn, yqc, yql⟩, ⟨yrA, yrn, yrc, yrl⟩, ⟨ykA, ykn, ykc, ykl⟩, ⟨yaA, yan, yac, yal⟩⟩], by omega, by omega, by go_num, by first | rfl | trivial, hid ⟨app_next HO.out.1 HX.out HPP.out HYK.out, fun y hy => by
          rcases List.mem_append.1 hy with hy | hy
          ·exact HO.out.2 y hy
          ·simp only [List.mem_cons, List.not_mem_nil, or_false] at hy
           subst hy
           exact HYG.out⟩, KC⟩
         case measure => simp [intOf]; omega
     ·have e3 : (te != 2) = true := by simp [hev]
      have HP := hid (show appT tab sl ⟨tn, tt, true, te, ⟨oA, on, oc, ol⟩, tch, ⟨pA, pn, pc, pl⟩, ⟨qA, qn, qc, ql⟩, ⟨rA, rn, rc, rl⟩, ⟨kA, kn, kc, kl⟩, ⟨aA, an, ac, al⟩⟩ = false from by simp [appT, hev])
      clear htab hev
      go_wp2_with fail
      go_roundw
      case rel => exact ⟨j + 1, k, cap, O, outs, by omega, by omega, by go_num, by first | rfl | trivial, hid ⟨app_skip HO.out.1 HX.out HP.out, HO.out.2⟩, K1.drop (((List.sublist_cons_self _ _).cons _))⟩
      case measure => simp [intOf]; omega
    ·have e1 : (tt.toList == tab.toList) = false := by rw [beq_eq_false_iff_ne]; exact fun h => htab (bytesEq h)
     have e2 : (tt.toList != tab.toList) = true := by rw [bne_iff_ne]; exact fun h => htab (bytesEq h)
     have HP := hid (show appT tab sl ⟨tn, tt, true, te, ⟨oA, on, oc, ol⟩, tch, ⟨pA, pn, pc, pl⟩, ⟨qA, qn, qc, ql⟩, ⟨rA, rn, rc, rl⟩, ⟨kA, kn, kc, kl⟩, ⟨aA, an, ac, al⟩⟩ = false from by simp [appT, htab])
     clear htab
     go_wp2_with fail
     go_roundw
     case rel => exact ⟨j + 1, k, cap, O, outs, by omega, by omega, by go_num, by first | rfl | trivial, hid ⟨app_skip HO.out.1 HX.out HP.out, HO.out.2⟩, K1.drop (((List.sublist_cons_self _ _).cons _))⟩
     case measure => simp [intOf]; omega
  ·obtain rfl : n = j := by omega
   go_wp2_with fail
   go_ret
   have KZ := H.sealRow 0 rfl
   simp only [List.set_cons_zero] at KZ
   have hR : Ro _ _ (TgsIn 5 O k outs) := ((KZ.ro 0 rfl).and (KZ.ro 1 rfl)).imp fun w2 h2 => ⟨h2.1, h2.2⟩
   exact ⟨O, k, cap, outs, rfl, by omega, by
    have h := HO.out.1
    rwa [List.take_of_length_le (by rw [HL.out]; exact Nat.le_refl _)] at h, HO.out.2, hR.less (fun b hb => .inl hb), KZ.below⟩
end Go.Proofs.YtnbbllkbefagmaaGreatDoor

namespace Go.Proofs.YtnbbllkbefagmaaGreatDoor
open Go.RowKit
set_option linter.unusedVariables false
set_option linter.unusedSimpArgs false

end Go.Proofs.YtnbbllkbefagmaaGreatDoor

namespace Go.Proofs.YtnbbllkbefagmaaGreatDoor
open Go.RowKit
set_option linter.unusedVariables false
set_option linter.unusedSimpArgs false

def Se.val (s : Se) : Value := .agg #[.string s.col, .int .i64 s.e.kind, .int .i64 s.e.op, .bool s.e.nt, .int .i64 s.e.v.k, .int .i64 s.e.v.i, .string s.e.v.s, .string s.e.tab, .string s.e.nm, .slice s.e.A s.e.n s.e.c, .slice s.e.B s.e.m s.e.d]
end Go.Proofs.YtnbbllkbefagmaaGreatDoor

namespace Go.Proofs.YtnbbllkbefagmaaGreatDoor
open Go.RowKit
set_option linter.unusedVariables false
set_option linter.unusedSimpArgs false

def SesIn (d : Nat) (A : Option Addr) (n : Nat) (l : List Se) (w : World) : Prop := SlR 11 A n (l.flatMap Se.cells) w ∧ ∀ x ∈ l, SeIn d x w
theorem SesIn.of {d : Nat} {s : SlP Se} {w : World} (h : s.In 11 Se.cells (SeIn d) w) : SesIn d s.A s.n s.l w := h
theorem SesIn.len {d : Nat} {A : Option Addr} {n : Nat} {l : List Se} {w : World} (h : SesIn d A n l w) : l.length = n := SlP.In.len (s := ⟨A, n, 0, l⟩) (k := 11) (cel := Se.cells) (P := SeIn d) h (by omega) (fun _ => rfl)
theorem SesIn.at_ {d : Nat} {w : World} {A : Option Addr} {n : Nat} {l : List Se} (h : SesIn d A n l w) {k : Nat} {x : Se} (hx : l[k]? = some x) :
  ∃ b o, A = some ⟨b, o, none⟩ ∧ b < w.heap.size ∧ (∀ j u, j < 11 → x.cells[j]? = some u → w.cell? ⟨b, o + k * 11 + j, none⟩ = some u) ∧ SeIn d x w := SlP.In.at_ (s := ⟨A, n, 0, l⟩) (k := 11) (cel := Se.cells) (P := SeIn d) h (by omega) (fun _ => rfl) hx
theorem get_any {α : Type} {l : List α} {n k : Nat} (h : l.length = n) (hk : k < n) : ∃ c, l[k]? = some c := ⟨l[k]'(by omega), List.getElem?_eq_getElem _⟩
end Go.Proofs.YtnbbllkbefagmaaGreatDoor

namespace Go.Proofs.YtnbbllkbefagmaaGreatDoor
open Go.RowKit
set_option linter.unusedVariables false
set_option linter.unusedSimpArgs false

end Go.Proofs.YtnbbllkbefagmaaGreatDoor

namespace Go.Proofs.YtnbbllkbefagmaaGreatDoor
open Go.RowKit
set_option linter.unusedVariables false
set_option linter.unusedSimpArgs false

end Go.Proofs.YtnbbllkbefagmaaGreatDoor

namespace Go.Proofs.YtnbbllkbefagmaaGreatDoor
open Go.RowKit
set_option linter.unusedVariables false
set_option linter.unusedSimpArgs false

def Rk.val (r : Rk) : Value := .agg #[.string r.tab, .string r.col, .int .i64 r.lo, .int .i64 r.hi]
def AcsIn (d : Nat) (A : Option Addr) (n : Nat) (l : List Ac) (w : World) : Prop := SlR 7 A n (l.flatMap Ac.cells) w ∧ ∀ x ∈ l, AcIn d x w
theorem AcsIn.len {d : Nat} {A : Option Addr} {n : Nat} {l : List Ac} {w : World} (h : AcsIn d A n l w) : l.length = n := SlP.In.len (s := ⟨A, n, 0, l⟩) (k := 7) (cel := Ac.cells) (P := AcIn d) h (by omega) (fun _ => rfl)
theorem AcsIn.at_ {d : Nat} {w : World} {A : Option Addr} {n : Nat} {l : List Ac} (h : AcsIn d A n l w) {k : Nat} {x : Ac} (hx : l[k]? = some x) :
  ∃ b o, A = some ⟨b, o, none⟩ ∧ b < w.heap.size ∧ (∀ j u, j < 7 → x.cells[j]? = some u → w.cell? ⟨b, o + k * 7 + j, none⟩ = some u) ∧ AcIn d x w := SlP.In.at_ (s := ⟨A, n, 0, l⟩) (k := 7) (cel := Ac.cells) (P := AcIn d) h (by omega) (fun _ => rfl) hx
end Go.Proofs.YtnbbllkbefagmaaGreatDoor

namespace Go.Proofs.YtnbbllkbefagmaaGreatDoor
open Go.RowKit
set_option linter.unusedVariables false
set_option linter.unusedSimpArgs false

/-- how many expressions a tree holds -/
def exW : Nat → Ex → Nat
 | 0, _ => 1
 | d + 1, e => 1 + (e.args.map (exW d)).sum + (e.sub.map fun q => 1 + (q.items.map (exW d)).sum + (q.wh.map (exW d)).sum).sum
def exsW (d : Nat) (l : List Ex) : Nat := (l.map (exW d)).sum
def quW (d : Nat) (q : Qu) : Nat := 1 + exsW d q.items + exsW d q.wh
def qusW (d : Nat) (l : List Qu) : Nat := (l.map (quW d)).sum
theorem exW_succ (d : Nat) (e : Ex) : exW (d + 1) e = 1 + exsW d e.args + qusW d e.sub := rfl
theorem exW_pos (d : Nat) (e : Ex) : 1 ≤ exW d e := by
 cases d with
 | zero => exact Nat.le_refl _
 | succ d => rw [exW_succ]; omega
theorem len_sum {α : Type} {f : α → Nat} (h : ∀ x, 1 ≤ f x) : ∀ l : List α, l.length ≤ (l.map f).sum
 | [] => Nat.le_refl _
 | x :: l => by have := len_sum h l; have := h x; simp only [List.length_cons, List.map_cons, List.sum_cons]; omega
theorem exsW_len (d : Nat) (l : List Ex) : l.length ≤ exsW d l := len_sum (exW_pos d) l
theorem qusW_len (d : Nat) (l : List Qu) : l.length ≤ qusW d l := len_sum (fun q => by unfold quW; omega) l
theorem sum_take {α : Type} {f : α → Nat} {l : List α} {k : Nat} {x : α} (hx : l[k]? = some x) : ((l.take (k + 1)).map f).sum = ((l.take k).map f).sum + f x := by
 rw [List.take_add_one, hx]; simp
theorem sum_take_le {α : Type} {f : α → Nat} (l : List α) (k : Nat) : ((l.take k).map f).sum ≤ (l.map f).sum := by
 have h : ((l.take k ++ l.drop k).map f).sum = (l.map f).sum := by rw [List.take_append_drop]
 rw [List.map_append, List.sum_append] at h
 omega
def QusIn (d : Nat) (A : Option Addr) (n : Nat) (l : List Qu) (w : World) : Prop := SlR 4 A n (quCells l) w ∧ ∀ q ∈ l, QuIn d q w
theorem QusIn.len {d : Nat} {A : Option Addr} {n : Nat} {l : List Qu} {w : World} (h : QusIn d A n l w) : l.length = n := SlP.In.len (s := ⟨A, n, 0, l⟩) (k := 4) (cel := Qu.cells) (P := QuIn d) h (by omega) (fun _ => rfl)
theorem QusIn.at_ {d : Nat} {w : World} {A : Option Addr} {n : Nat} {l : List Qu} (h : QusIn d A n l w) {k : Nat} {x : Qu} (hx : l[k]? = some x) :
  ∃ b o, A = some ⟨b, o, none⟩ ∧ b < w.heap.size ∧ (∀ j u, j < 4 → x.cells[j]? = some u → w.cell? ⟨b, o + k * 4 + j, none⟩ = some u) ∧ QuIn d x w := SlP.In.at_ (s := ⟨A, n, 0, l⟩) (k := 4) (cel := Qu.cells) (P := QuIn d) h (by omega) (fun _ => rfl) hx
/-- the names that were collected so far, at most k, in the block g -/
def NmSt (M : Nat → Prop) (row : Option Nat) (w0 w : World) (g k : Nat) (L : List Hp) : Prop :=
 ∃ (B : Option Addr) (m c : Nat) (xs : List ByteArray), m ≤ k ∧ Hold M row w0 w (.blk g 35 #[.slice B m c] :: .own 9 1 (.slice B m c) m (strsCells xs) :: L)
section
variable {M : Nat → Prop} {row : Option Nat} {w0 w : World} {g k : Nat} {L : List Hp}
theorem NmSt.le (h : NmSt M row w0 w g k L) {k' : Nat} (hk : k ≤ k') : NmSt M row w0 w g k' L := by
 obtain ⟨B, m, c, xs, hm, K⟩ := h
 exact ⟨B, m, c, xs, by omega, K⟩
theorem NmSt.addRo (h : NmSt M row w0 w g k L) (i : Nat) {S S' : World → Prop} (hi : L[i]? = some (.ro S)) (hs : ∀ w, S w → S' w) : NmSt M row w0 w g k (.ro S' :: L) := by
 obtain ⟨B, m, c, xs, hm, K⟩ := h
 exact ⟨B, m, c, xs, hm, (K.add ((K.ro (i + 2) (by simpa using hi)).imp hs)).sinkN 2⟩
theorem NmSt.cst (h : NmSt M row w0 w g k L) (cs : Array Value) (t : TypeId) : NmSt M row w0 (w.alloc (.cells cs t)) g k (.cst w.heap.size t cs :: L) := by
 obtain ⟨B, m, c, xs, hm, K⟩ := h
 exact ⟨B, m, c, xs, hm, (K.alloc_cst cs t).sinkN 2⟩
theorem NmSt.drop (h : NmSt M row w0 w g k L) {L' : List Hp} (hL : List.Sublist L' L) : NmSt M row w0 w g k L' := by
 obtain ⟨B, m, c, xs, hm, K⟩ := h
 exact ⟨B, m, c, xs, hm, K.drop (hL.cons_cons _ |>.cons_cons _)⟩
theorem NmSt.factsL (h : NmSt M row w0 w g k L) : factsL w L := by
 obtain ⟨B, m, c, xs, hm, K⟩ := h
 exact (K.drop (L' := L) (List.Sublist.cons _ (List.Sublist.cons _ (List.Sublist.refl _)))).facts
theorem NmSt.ro (h : NmSt M row w0 w g k L) (i : Nat) {S : World → Prop} (hi : L[i]? = some (.ro S)) : S w := by
 obtain ⟨B, m, c, xs, hm, K⟩ := h
 exact (K.ro (i + 2) (by simpa using hi)).now
end
abbrev rowV (g : Nat) : Value := .func (.func 193) #[] #[.pointer (some ⟨g, 0, none⟩)]
set_option maxRecDepth 100000 in
set_option maxHeartbeats 2000000 in
theorem rowc_any {M : Nat → Prop} {row : Option Nat} {w0 w : World} {g k : Nat} {L : List Hp} (h : NmSt M row w0 w g k L) (e : Ex) (hk : k < 4398046511104) : Calls Tryz.prog 193 #[e.val, .pointer (some ⟨g, 0, none⟩)] w fun r w' => r = .returned (.bool true) ∧ NmSt M row w0 w' g (k + 1) L := by
 obtain ⟨P, q, cap, xs, hq, K⟩ := h
 obtain ⟨ek, eop, ent, ⟨evk, evi, evs⟩, etab, enm, eA, en, ec, eargs, eB, em, ed, esub⟩ := e
 simp only [Ex.val]
 have K1 := K.alloc_cst #[.int .i64 ek, .int .i64 eop, .bool ent, .int .i64 evk, .int .i64 evi, .string evs, .string etab, .string enm, .slice eA en ec, .slice eB em ed] 126
 have F1 := (K1.drop (L' := [_, _]) (List.Sublist.cons_cons _ (List.Sublist.cons_cons _ (List.nil_sublist _)))).facts
 simp only [factsL, cellsF, Nat.reduceAdd, zf, zl] at F1
 have HCE := hid (show strsCells xs ++ (#[Value.string enm]).toList = strsCells (xs ++ [enm]) by simp [strsCells])
 by_cases h2 : ek = 2 ∧ etab = ⟨#[78, 69, 87]⟩
 ·obtain ⟨rfl, rfl⟩ := h2
  go_enter Tryz.func193, Tryz.ntmps193
  go_wp2_with (at_builtin; go_must (refine wpList_appH K1 2 rfl Tryz.elSt #[.string enm] rfl (.tmp 12) (.tmp 15) rfl rfl _ (by first | rfl | simp) rfl rfl (by intro u hu; simp at hu; rcases hu with rfl; rfl) (by omega) (by omega) ?_); intro g9 cap9 w9 hc9 hm9 KB; rw [HCE.out] at KB; simp only [zl] at KB; have FB := (KB.drop (L' := [_, _]) (List.Sublist.cons_cons _ (List.Sublist.cons_cons _ (List.nil_sublist _)))).facts; simp only [factsL, cellsF, Nat.reduceAdd, zf, zl] at FB)
  have KC := (KB.store 1 rfl 0 (.slice (some ⟨g9, 0, none⟩) (q + 1) cap9)).drop (List.sublist_cons_self _ _)
  simp only [zl] at KC
  go_ret
  exact ⟨by first | rfl | simp, _, q + 1, cap9, _, by omega, KC⟩
 ·have KC := K1.drop (List.sublist_cons_self _ _)
  by_cases h3 : ek = 2
  ·subst h3
   have h4 : (etab.toList == [78, 69, 87]) = false := by
    rw [Bool.eq_false_iff]
    intro h
    exact h2 ⟨rfl, bytesEq (by rw [ByteArray.toList_eq, ByteArray.toList_eq] at *; simpa using h)⟩
   clear h2
   go_enter Tryz.func193, Tryz.ntmps193
   go_wp2_with fail
   go_ret
   exact ⟨by first | rfl | simp, _, q, cap, _, by omega, KC⟩
  ·clear h2
   go_enter Tryz.func193, Tryz.ntmps193
   go_wp2_with fail
   all_goals first
    | (exfalso; omega)
    | (go_ret; exact ⟨by first | rfl | simp, _, q, cap, _, by omega, KC⟩)
/-- what the visit of a list of expressions does -/
def VisE (d : Nat) : Prop := ∀ (M : Nat → Prop) (row : Option Nat) (w0 w : World) (g k : Nat) (L : List Hp) (A : Option Addr) (n c : Nat) (l : List Ex), NmSt M row w0 w g k (.ro (ExsIn d A n l) :: L) → k + exsW d l ≤ 4398046511104 →
 Calls Tryz.prog 227 #[rowV g, .slice A n c] w fun r w' => r = .returned (.bool true) ∧ NmSt M row w0 w' g (k + exsW d l) (.ro (ExsIn d A n l) :: L)
def VisQ (d : Nat) : Prop := ∀ (M : Nat → Prop) (row : Option Nat) (w0 w : World) (g k : Nat) (L : List Hp) (A : Option Addr) (n c : Nat) (l : List Qu), NmSt M row w0 w g k (.ro (QusIn d A n l) :: L) → k + qusW d l ≤ 4398046511104 →
 Calls Tryz.prog 259 #[rowV g, .slice A n c] w fun r w' => r = .returned (.bool true) ∧ NmSt M row w0 w' g (k + qusW d l) (.ro (QusIn d A n l) :: L)
set_option maxRecDepth 100000 in
set_option maxHeartbeats 2000000 in
theorem visQ_of {d : Nat} (hE : VisE d) : VisQ d := by
 intro M row w0 w g k L A n c l h hk
 have HL := hid (h.ro 0 rfl).len
 have hn : n ≤ 4398046511104 := by have := qusW_len d l; have := (h.ro 0 rfl).len; omega
 have HK := hid hk
 clear hk
 go_enter Tryz.func259, Tryz.ntmps259
 go_wp2_with fail
 go_loopw [9] (fun iv wr => ∃ (j : Nat), j ≤ n ∧ iv = .int .i64 j ∧ NmSt M row w0 wr g (k + qusW d (l.take j)) (.ro (QusIn d A n l) :: L)) (fun iv _ => n - (intOf iv).toNat)
 case atStart => exact ⟨0, by omega, rfl, h⟩
 case round =>
  clear h
  obtain ⟨j, hj, rfl, H⟩ := hrel
  by_cases hlt : j < n
  ·obtain ⟨⟨st, xA, xn, xc, items, src, xB, xm, xd, wh⟩, hc⟩ := get_any HL.out hlt
   obtain ⟨b, o, rfl, hb, hcl, -⟩ := (H.ro 0 rfl).at_ hc
   have c0 := hcl 0 _ (by omega) rfl
   have c1 := hcl 1 _ (by omega) rfl
   have c2 := hcl 2 _ (by omega) rfl
   have c3 := hcl 3 _ (by omega) rfl
   simp only [Nat.add_zero] at c0
   clear hcl
   have HS := hid (show qusW d (l.take (j + 1)) = qusW d (l.take j) + (1 + exsW d items + exsW d wh) from sum_take hc)
   have HT := hid (show qusW d (l.take (j + 1)) ≤ qusW d l from sum_take_le l (j + 1))
   have HM := hid (List.mem_of_getElem? hc)
   clear hc
   have H0 := H.cst #[.bool st, .slice xA xn xc, .string src, .slice xB xm xd] 273
   have H1 := H0.addRo 1 (S' := ExsIn d xA xn items) rfl (fun w2 h2 => (h2.2 _ HM.out).1)
   have F1 := (H1.drop (L' := [_, _]) (List.Sublist.cons_cons _ (List.Sublist.cons_cons _ (List.nil_sublist _)))).factsL
   simp only [factsL, cellsF, Nat.reduceAdd, zf, zl] at F1
   clear H H0
   go_wp2_with fail
   refine (hE _ _ _ _ _ _ _ _ _ _ _ H1 (by have := HK.out; have := HS.out; have := HT.out; omega)).mono ?_
   rintro e w1 ⟨rfl, H2⟩
   have H3 := H2.addRo 2 (S' := ExsIn d xB xm wh) rfl (fun w2 h2 => (h2.2 _ HM.out).2)
   have F3 := (H3.drop (L' := [_, _, _]) (List.Sublist.cons_cons _ (List.Sublist.cons_cons _ (List.Sublist.cons_cons _ (List.nil_sublist _))))).factsL
   simp only [factsL, cellsF, Nat.reduceAdd, zf, zl] at F3
   clear H1 H2 F1 c0 c1 c2 c3
   go_wp2_with fail
   refine (hE _ _ _ _ _ _ _ _ _ _ _ H3 (by have := HK.out; have := HS.out; have := HT.out; omega)).mono ?_
   rintro e w2 ⟨rfl, H4⟩
   clear H3 F3
   go_wp2_with fail
   go_roundw
   case rel => exact ⟨j + 1, by omega, by go_num, (H4.drop (List.Sublist.cons _ (List.Sublist.cons _ (List.Sublist.cons _ (List.Sublist.refl _))))).le (by have := HS.out; omega)⟩
   case measure => simp [intOf]; omega
  ·have hjn : j = n := by omega
   rw [List.take_of_length_le (by rw [HL.out]; omega)] at H
   go_wp2_with fail
   go_ret
   exact ⟨by first | rfl | simp, H⟩
set_option maxRecDepth 100000 in
set_option maxHeartbeats 2000000 in
theorem visE_of {d : Nat} (hD : ∀ e, d = e + 1 → VisE e ∧ VisQ e) : VisE d := by
 intro M row w0 w g k L A n c l h hk
 have HL := hid (h.ro 0 rfl).len
 have hn : n ≤ 4398046511104 := by have := exsW_len d l; have := (h.ro 0 rfl).len; omega
 have HK := hid hk
 clear hk
 go_enter Tryz.func227, Tryz.ntmps227
 go_wp2_with fail
 go_loopw [9] (fun iv wr => ∃ (j : Nat), j ≤ n ∧ iv = .int .i64 j ∧ NmSt M row w0 wr g (k + exsW d (l.take j)) (.ro (ExsIn d A n l) :: L)) (fun iv _ => n - (intOf iv).toNat)
 case atStart => exact ⟨0, by omega, rfl, h⟩
 case round =>
  clear h
  obtain ⟨j, hj, rfl, H⟩ := hrel
  by_cases hlt : j < n
  ·obtain ⟨⟨xk, xop, xnt, ⟨xvk, xvi, xvs⟩, xtab, xnm, xA, xn, xc, xargs, xB, xm, xd, xsub⟩, hc⟩ := get_any HL.out hlt
   obtain ⟨b, o, rfl, hb, hcl, hin⟩ := (H.ro 0 rfl).at_ hc
   obtain _ | d := d
   ·exact hin.elim
   clear hin
   obtain ⟨hE, hQ⟩ := hD d rfl
   have c0 := hcl 0 _ (by omega) rfl
   have c1 := hcl 1 _ (by omega) rfl
   have c2 := hcl 2 _ (by omega) rfl
   have c3 := hcl 3 _ (by omega) rfl
   have c4 := hcl 4 _ (by omega) rfl
   have c5 := hcl 5 _ (by omega) rfl
   have c6 := hcl 6 _ (by omega) rfl
   have c7 := hcl 7 _ (by omega) rfl
   have c8 := hcl 8 _ (by omega) rfl
   have c9 := hcl 9 _ (by omega) rfl
   simp only [Nat.add_zero] at c0
   clear hcl
   have HS := hid (show exsW (d + 1) (l.take (j + 1)) = exsW (d + 1) (l.take j) + (1 + exsW d xargs + qusW d xsub) from sum_take hc)
   have HT := hid (show exsW (d + 1) (l.take (j + 1)) ≤ exsW (d + 1) l from sum_take_le l (j + 1))
   have HM := hid (List.mem_of_getElem? hc)
   clear hc
   have H1 := H.cst #[.int .i64 xk, .int .i64 xop, .bool xnt, .int .i64 xvk, .int .i64 xvi, .string xvs, .string xtab, .string xnm, .slice xA xn xc, .slice xB xm xd] 126
   have F1 := (H1.drop (L' := [_, _]) (List.Sublist.cons_cons _ (List.Sublist.cons_cons _ (List.nil_sublist _)))).factsL
   simp only [factsL, cellsF, Nat.reduceAdd, zf, zl] at F1
   clear H
   go_wp2_with fail
   refine (rowc_any H1 ⟨xk, xop, xnt, ⟨xvk, xvi, xvs⟩, xtab, xnm, xA, xn, xc, xargs, xB, xm, xd, xsub⟩ (by have := HK.out; have := HS.out; have := HT.out; omega)).mono ?_
   rintro e w1 ⟨rfl, H2⟩
   have H3 := H2.addRo 1 (S' := ExsIn d xA xn xargs) rfl (fun w2 h2 => (ExIn.succ.1 (h2.2 _ HM.out)).1)
   have F3 := (H3.drop (L' := [_, _]) (List.Sublist.cons_cons _ (List.Sublist.cons_cons _ (List.nil_sublist _)))).factsL
   simp only [factsL, cellsF, Nat.reduceAdd, zf, zl] at F3
   clear H1 H2 F1 c0 c1 c2 c3 c4 c5 c6 c7 c8 c9
   go_wp2_with fail
   refine (hE _ _ _ _ _ _ _ _ _ _ _ H3 (by have := HK.out; have := HS.out; have := HT.out; omega)).mono ?_
   rintro e w2 ⟨rfl, H4⟩
   have H5 := H4.addRo 2 (S' := QusIn d xB xm xsub) rfl (fun w2 h2 => (ExIn.succ.1 (h2.2 _ HM.out)).2)
   have F5 := (H5.drop (L' := [_, _, _]) (List.Sublist.cons_cons _ (List.Sublist.cons_cons _ (List.Sublist.cons_cons _ (List.nil_sublist _))))).factsL
   simp only [factsL, cellsF, Nat.reduceAdd, zf, zl] at F5
   clear H3 H4 F3
   go_wp2_with fail
   refine (hQ _ _ _ _ _ _ _ _ _ _ _ H5 (by have := HK.out; have := HS.out; have := HT.out; omega)).mono ?_
   rintro e w3 ⟨rfl, H6⟩
   clear H5 F5
   go_wp2_with fail
   go_roundw
   case rel => exact ⟨j + 1, by omega, by go_num, (H6.drop (List.Sublist.cons _ (List.Sublist.cons _ (List.Sublist.cons _ (List.Sublist.refl _))))).le (by have := HS.out; omega)⟩
   case measure => simp [intOf]; omega
  ·have hjn : j = n := by omega
   rw [List.take_of_length_le (by rw [HL.out]; omega)] at H
   go_wp2_with fail
   go_ret
   exact ⟨by first | rfl | simp, H⟩
theorem vis_any : ∀ d, VisE d ∧ VisQ d
 | 0 => have h : VisE 0 := visE_of (fun e he => by omega)
  ⟨h, visQ_of h⟩
 | d + 1 => have h : VisE (d + 1) := visE_of (fun e he => by
   obtain rfl : d = e := by omega
   exact vis_any d)
  ⟨h, visQ_of h⟩
end Go.Proofs.YtnbbllkbefagmaaGreatDoor

namespace Go.Proofs.YtnbbllkbefagmaaGreatDoor
open Go.RowKit
set_option linter.unusedVariables false
set_option linter.unusedSimpArgs false

def rrW (d : Nat) (l : List (SlP Ex)) : Nat := (l.map fun r => 1 + exsW d r.l).sum
def sesW (d : Nat) (l : List Se) : Nat := (l.map fun s => 1 + exW d s.e).sum
def acW (d : Nat) (a : Ac) : Nat := 1 + rrW d a.rows.l + sesW d a.sets.l + qusW d a.qs.l + exsW d a.wh.l
def acsW (d : Nat) (l : List Ac) : Nat := (l.map (acW d)).sum
def RrsIn (d : Nat) (A : Option Addr) (n : Nat) (l : List (SlP Ex)) (w : World) : Prop := SlR 1 A n (l.flatMap fun r => [r.v]) w ∧ ∀ r ∈ l, ExsIn d r.A r.n r.l w
theorem RrsIn.len {d : Nat} {A : Option Addr} {n : Nat} {l : List (SlP Ex)} {w : World} (h : RrsIn d A n l w) : l.length = n := SlP.In.len (s := ⟨A, n, 0, l⟩) (k := 1) (cel := fun r => [r.v]) (P := fun r w => ExsIn d r.A r.n r.l w) h (by omega) (fun _ => rfl)
theorem RrsIn.at_ {d : Nat} {w : World} {A : Option Addr} {n : Nat} {l : List (SlP Ex)} (h : RrsIn d A n l w) {k : Nat} {x : SlP Ex} (hx : l[k]? = some x) :
  ∃ b o, A = some ⟨b, o, none⟩ ∧ b < w.heap.size ∧ w.cell? ⟨b, o + k, none⟩ = some (.slice x.A x.n x.c) ∧ ExsIn d x.A x.n x.l w := by
 obtain ⟨b, o, e, hb, hc, hx⟩ := SlP.In.at_ (s := ⟨A, n, 0, l⟩) (k := 1) (cel := fun r => [r.v]) (P := fun r w => ExsIn d r.A r.n r.l w) h (by omega) (fun _ => rfl) hx
 have h0 := hc 0 _ (by omega) rfl
 simp only [Nat.mul_one, Nat.add_zero] at h0
 exact ⟨b, o, e, hb, h0, hx⟩
theorem AcIn.parts {d : Nat} {a : Ac} {w : World} (h : AcIn d a w) : RrsIn d a.rows.A a.rows.n a.rows.l w ∧ QusIn d a.qs.A a.qs.n a.qs.l w ∧ SesIn d a.sets.A a.sets.n a.sets.l w ∧ ExsIn d a.wh.A a.wh.n a.wh.l w := h
theorem rrW_len (d : Nat) (l : List (SlP Ex)) : l.length ≤ rrW d l := len_sum (fun q => by omega) l
theorem sesW_len (d : Nat) (l : List Se) : l.length ≤ sesW d l := len_sum (fun q => by omega) l
theorem NmSt.addW {M : Nat → Prop} {row : Option Nat} {w0 w : World} {g k : Nat} {L : List Hp} (h : NmSt M row w0 w g k L) {S' : World → Prop} (hs : ∀ (B : Option Addr) (m c : Nat) (xs : List ByteArray), Hold M row w0 w (.blk g 35 #[.slice B m c] :: .own 9 1 (.slice B m c) m (strsCells xs) :: L) → Ro w (Mut M (.blk g 35 #[.slice B m c] :: .own 9 1 (.slice B m c) m (strsCells xs) :: L)) S') : NmSt M row w0 w g k (.ro S' :: L) := by
 obtain ⟨B, m, c, xs, hm, K⟩ := h
 exact ⟨B, m, c, xs, hm, (K.add (hs B m c xs K)).sinkN 2⟩
set_option maxRecDepth 100000 in
set_option maxHeartbeats 4000000 in
theorem visA_any (M : Nat → Prop) (row : Option Nat) (w0 w : World) (g k : Nat) (L : List Hp) (d : Nat) (a : Ac) (h : NmSt M row w0 w g k (.ro (AcIn d a) :: L)) (hk : k + acW d a ≤ 4398046511104) :
  Calls Tryz.prog 228 #[rowV g, a.val] w fun r w' => r = .returned (.bool true) ∧ NmSt M row w0 w' g (k + acW d a) (.ro (AcIn d a) :: L) := by
 obtain ⟨hR, hQ, hS, hW⟩ := (h.ro 0 rfl).parts
 obtain ⟨ak, atab, ⟨arA, arn, arc, arl⟩, ⟨aqA, aqn, aqc, aql⟩, ⟨asA, asn, asc, asl⟩, ⟨awA, awn, awc, awl⟩, atext⟩ := a
 simp only [Ac.val, acW] at hR hQ hS hW hk ⊢
 have HLR := hid hR.len
 have HLS := hid hS.len
 have hrn : arn ≤ 4398046511104 := by have := rrW_len d arl; have := hR.len; omega
 have hsn : asn ≤ 4398046511104 := by have := sesW_len d asl; have := hS.len; omega
 clear hR hQ hS hW
 have HK := hid hk
 clear hk
 have H1 := (h.addRo 0 (S' := RrsIn d arA arn arl) rfl (fun w2 h2 => h2.parts.1)).cst #[.int .i64 ak, .string atab, .slice arA arn arc, .slice aqA aqn aqc, .slice asA asn asc, .slice awA awn awc, .string atext] 97
 have F1 := (H1.drop (L' := [_]) (List.Sublist.cons_cons _ (List.nil_sublist _))).factsL
 simp only [factsL, cellsF, Nat.reduceAdd, zf, zl] at F1
 clear h
 go_enter Tryz.func228, Tryz.ntmps228
 go_wp2_with fail
 clear F1
 go_loopw [12, 6] (fun iv _ wr => ∃ (j : Nat), j ≤ arn ∧ iv = .int .i64 j ∧ NmSt M row w0 wr g (k + rrW d (arl.take j)) (.cst w.heap.size 97 #[.int .i64 ak, .string atab, .slice arA arn arc, .slice aqA aqn aqc, .slice asA asn asc, .slice awA awn awc, .string atext] :: .ro (RrsIn d arA arn arl) :: .ro (AcIn d ⟨ak, atab, ⟨arA, arn, arc, arl⟩, ⟨aqA, aqn, aqc, aql⟩, ⟨asA, asn, asc, asl⟩, ⟨awA, awn, awc, awl⟩, atext⟩) :: L)) (fun iv _ _ => arn - (intOf iv).toNat)
 case atStart => exact ⟨0, by omega, rfl, H1⟩
 case round =>
  clear H1
  obtain ⟨j, hj, rfl, H⟩ := hrel
  by_cases hlt : j < arn
  ·obtain ⟨⟨xA, xn, xc, xl⟩, hc⟩ := get_any HLR.out hlt
   obtain ⟨b, o, rfl, hb, c0, -⟩ := (H.ro 1 rfl).at_ hc
   have HS := hid (show rrW d (arl.take (j + 1)) = rrW d (arl.take j) + (1 + exsW d xl) from sum_take hc)
   have HT := hid (show rrW d (arl.take (j + 1)) ≤ rrW d arl from sum_take_le arl (j + 1))
   have HM := hid (List.mem_of_getElem? hc)
   clear hc
   have H3 := H.addRo 1 (S' := ExsIn d xA xn xl) rfl (fun w2 h2 => h2.2 _ HM.out)
   clear H
   go_wp2_with fail
   refine ((vis_any d).1 _ _ _ _ _ _ _ _ _ _ _ H3 (by have := HK.out; have := HS.out; have := HT.out; omega)).mono ?_
   rintro e w1 ⟨rfl, H4⟩
   clear H3
   go_wp2_with fail
   go_roundw
   case rel => exact ⟨j + 1, by omega, by go_num, (H4.drop (List.sublist_cons_self _ _)).le (by have := HS.out; omega)⟩
   case measure => simp [intOf]; omega
  ·obtain rfl : arn = j := by omega
   rw [List.take_of_length_le (by rw [HLR.out]; exact Nat.le_refl _)] at H
   have H2 := ((H.addRo 2 (S' := SesIn d asA asn asl) rfl (fun w2 h2 => h2.parts.2.2.1)).drop (L' := .ro (SesIn d asA asn asl) :: .cst w.heap.size 97 #[.int .i64 ak, .string atab, .slice arA arn arc, .slice aqA aqn aqc, .slice asA asn asc, .slice awA awn awc, .string atext] :: .ro (AcIn d ⟨ak, atab, ⟨arA, arn, arc, arl⟩, ⟨aqA, aqn, aqc, aql⟩, ⟨asA, asn, asc, asl⟩, ⟨awA, awn, awc, awl⟩, atext⟩) :: L) (List.Sublist.cons_cons _ (List.Sublist.cons_cons _ (List.sublist_cons_self _ _))))
   have F2 := (H2.drop (L' := [_, _]) (List.Sublist.cons_cons _ (List.Sublist.cons_cons _ (List.nil_sublist _)))).factsL
   simp only [factsL, cellsF, Nat.reduceAdd, zf, zl] at F2
   clear H
   go_wp2_with fail
   clear F2
   go_loopw [24, 8] (fun iv _ wr => ∃ (j : Nat), j ≤ asn ∧ iv = .int .i64 j ∧ NmSt M row w0 wr g (k + rrW d arl + sesW d (asl.take j)) (.ro (SesIn d asA asn asl) :: .cst w.heap.size 97 #[.int .i64 ak, .string atab, .slice arA arn arc, .slice aqA aqn aqc, .slice asA asn asc, .slice awA awn awc, .string atext] :: .ro (AcIn d ⟨ak, atab, ⟨arA, arn, arc, arl⟩, ⟨aqA, aqn, aqc, aql⟩, ⟨asA, asn, asc, asl⟩, ⟨awA, awn, awc, awl⟩, atext⟩) :: L)) (fun iv _ _ => asn - (intOf iv).toNat)
   case atStart => exact ⟨0, by omega, rfl, H2⟩
   case round =>
    clear H2
    obtain ⟨j2, hj2, rfl, H⟩ := hrel
    by_cases hlt2 : j2 < asn
    ·obtain ⟨⟨xcol, ⟨xk, xop, xnt, ⟨xvk, xvi, xvs⟩, xtab, xnm, xA, xn, xc, xargs, xB, xm, xd, xsub⟩⟩, hc⟩ := get_any HLS.out hlt2
     obtain ⟨b, o, rfl, hb, hcl, -⟩ := (H.ro 0 rfl).at_ hc
     have c0 := hcl 0 _ (by omega) rfl
     have c1 := hcl 1 _ (by omega) rfl
     have c2 := hcl 2 _ (by omega) rfl
     have c3 := hcl 3 _ (by omega) rfl
     have c4 := hcl 4 _ (by omega) rfl
     have c5 := hcl 5 _ (by omega) rfl
     have c6 := hcl 6 _ (by omega) rfl
     have c7 := hcl 7 _ (by omega) rfl
     have c8 := hcl 8 _ (by omega) rfl
     have c9 := hcl 9 _ (by omega) rfl
     have c10 := hcl 10 _ (by omega) rfl
     simp only [Nat.add_zero] at c0
     clear hcl
     have HS := hid (show sesW d (asl.take (j2 + 1)) = sesW d (asl.take j2) + (1 + exW d ⟨xk, xop, xnt, ⟨xvk, xvi, xvs⟩, xtab, xnm, xA, xn, xc, xargs, xB, xm, xd, xsub⟩) from sum_take hc)
     have HT := hid (show sesW d (asl.take (j2 + 1)) ≤ sesW d asl from sum_take_le asl (j2 + 1))
     have HM := hid (List.mem_of_getElem? hc)
     clear hc
     have HA := (H.cst #[.string xcol, .int .i64 xk, .int .i64 xop, .bool xnt, .int .i64 xvk, .int .i64 xvi, .string xvs, .string xtab, .string xnm, .slice xA xn xc, .slice xB xm xd] 128).cst #[.int .i64 xk, .int .i64 xop, .bool xnt, .int .i64 xvk, .int .i64 xvi, .string xvs, .string xtab, .string xnm, .slice xA xn xc, .slice xB xm xd] 126
     rw [World.size_alloc] at HA
     have H3 := HA.addW (S' := ExsIn d (some ⟨wr.heap.size + 1, 0, none⟩) 1 [⟨xk, xop, xnt, ⟨xvk, xvi, xvs⟩, xtab, xnm, xA, xn, xc, xargs, xB, xm, xd, xsub⟩]) (fun B m c xs K => exs_block (l := [⟨xk, xop, xnt, ⟨xvk, xvi, xvs⟩, xtab, xnm, xA, xn, xc, xargs, xB, xm, xd, xsub⟩]) (K.get 2 rfl) rfl (fun x hx => by
      simp only [List.mem_cons, List.not_mem_nil, or_false] at hx
      subst hx
      exact (K.ro 4 rfl).imp fun w2 h2 => h2.2 _ HM.out))
     have H1 := H.cst #[.string xcol, .int .i64 xk, .int .i64 xop, .bool xnt, .int .i64 xvk, .int .i64 xvi, .string xvs, .string xtab, .string xnm, .slice xA xn xc, .slice xB xm xd] 128
     have F1 := (H1.drop (L' := [_]) (List.Sublist.cons_cons _ (List.nil_sublist _))).factsL
     simp only [factsL, cellsF, Nat.reduceAdd, zf, zl] at F1
     clear H H1 HA
     go_wp2_with fail
     refine ((vis_any d).1 _ _ _ _ _ _ _ _ _ _ _ H3 (by have := HK.out; have := HS.out; have := HT.out; simp only [exsW, List.map_cons, List.map_nil, List.sum_cons, List.sum_nil]; omega)).mono ?_
     rintro e w1 ⟨rfl, H4⟩
     clear H3 F1
     go_wp2_with fail
     go_roundw
     case rel => exact ⟨j2 + 1, by omega, by go_num, (H4.drop (List.Sublist.cons _ (List.Sublist.cons _ (List.sublist_cons_self _ _)))).le (by have := HS.out; simp only [exsW, List.map_cons, List.map_nil, List.sum_cons, List.sum_nil]; omega)⟩
     case measure => simp [intOf]; omega
    ·obtain rfl : asn = j2 := by omega
     rw [List.take_of_length_le (by rw [HLS.out]; exact Nat.le_refl _)] at H
     have H3 := H.addRo 2 (S' := QusIn d aqA aqn aql) rfl (fun w2 h2 => h2.parts.2.1)
     have F3 := (H3.drop (L' := [_, _, _]) (List.Sublist.cons_cons _ (List.Sublist.cons_cons _ (List.Sublist.cons_cons _ (List.nil_sublist _))))).factsL
     simp only [factsL, cellsF, Nat.reduceAdd, zf, zl] at F3
     clear H
     go_wp2_with fail
     refine ((vis_any d).2 _ _ _ _ _ _ _ _ _ _ _ H3 (by have := HK.out; omega)).mono ?_
     rintro e w1 ⟨rfl, H4⟩
     have H5 := H4.addRo 3 (S' := ExsIn d awA awn awl) rfl (fun w2 h2 => h2.parts.2.2.2)
     have F5 := (H5.drop (L' := [_, _, _, _]) (List.Sublist.cons_cons _ (List.Sublist.cons_cons _ (List.Sublist.cons_cons _ (List.Sublist.cons_cons _ (List.nil_sublist _)))))).factsL
     simp only [factsL, cellsF, Nat.reduceAdd, zf, zl] at F5
     clear H3 H4 F3
     go_wp2_with fail
     refine ((vis_any d).1 _ _ _ _ _ _ _ _ _ _ _ H5 (by have := HK.out; omega)).mono ?_
     rintro e w2 ⟨rfl, H6⟩
     clear H5 F5
     go_wp2_with fail
     go_ret
     exact ⟨by first | rfl | simp, (H6.drop (List.Sublist.cons _ (List.Sublist.cons _ (List.Sublist.cons _ (List.sublist_cons_self _ _))))).le (by omega)⟩
end Go.Proofs.YtnbbllkbefagmaaGreatDoor

namespace Go.Proofs
open Go.Shelf
def Tryz.sortStr_ren : Go.Shelf.Ren := ⟨fun | 6 => 177 | 8 => 216 | 9 => 215 | 19 => 250 | 20 => 251 | 21 => 241 | 22 => 242 | 23 => 243 | 24 => 244 | 25 => 245 | 26 => 246 | 27 => 247 | 28 => 248 | 29 => 249 | 36 => 269 | 31 => 270 | 32 => 271 | 37 => 272 | 38 => 273 | 39 => 274 | 41 => 282 | n => n, fun | 27 => 35 | 29 => 9 | 3 => 3 | 32 => 287 | 26 => 35 | 0 => 0 | 44 => 319 | 46 => 159 | 4 => 4 | 36 => 312 | 35 => 311 | 41 => 261 | 5 => 5 | 9 => 9 | 53 => 334 | 57 => 338 | 63 => 349 | 64 => 350 | n => n, fun | n => n⟩
theorem Tryz.sortStr : Go.Proofs.SlLaysM.n6 Tryz.prog Tryz.sortStr_ren := {
 mixed := by kernel_rfl
 f6 := ⟨Tryz.f177.name, by decide, Tryz.func177.trans (congrArg some (by kernel_rfl))⟩
 f8 := Tryz.func216.trans (congrArg some (by kernel_rfl))
 f9 := ⟨Tryz.f215.name, by decide, Tryz.func215.trans (congrArg some (by kernel_rfl))⟩
 f19 := Tryz.func250.trans (congrArg some (by kernel_rfl))
 f20 := Tryz.func251.trans (congrArg some (by kernel_rfl))
 f21 := ⟨Tryz.f241.name, by decide, Tryz.func241.trans (congrArg some (by kernel_rfl))⟩
 f22 := ⟨Tryz.f242.name, by decide, Tryz.func242.trans (congrArg some (by kernel_rfl))⟩
 f23 := ⟨Tryz.f243.name, by decide, Tryz.func243.trans (congrArg some (by kernel_rfl))⟩
 f24 := ⟨Tryz.f244.name, by decide, Tryz.func244.trans (congrArg some (by kernel_rfl))⟩
 f25 := ⟨Tryz.f245.name, by decide, Tryz.func245.trans (congrArg some (by kernel_rfl))⟩
 f26 := ⟨Tryz.f246.name, by decide, Tryz.func246.trans (congrArg some (by kernel_rfl))⟩
 f27 := ⟨Tryz.f247.name, by decide, Tryz.func247.trans (congrArg some (by kernel_rfl))⟩
 f28 := ⟨Tryz.f248.name, by decide, Tryz.func248.trans (congrArg some (by kernel_rfl))⟩
 f29 := ⟨Tryz.f249.name, by decide, Tryz.func249.trans (congrArg some (by kernel_rfl))⟩
 f31 := Tryz.func270.trans (congrArg some (by kernel_rfl))
 f32 := Tryz.func271.trans (congrArg some (by kernel_rfl))
 f36 := ⟨Tryz.f269.name, by decide, Tryz.func269.trans (congrArg some (by kernel_rfl))⟩
 f37 := ⟨Tryz.f272.name, by decide, Tryz.func272.trans (congrArg some (by kernel_rfl))⟩
 f38 := ⟨Tryz.f273.name, by decide, Tryz.func273.trans (congrArg some (by kernel_rfl))⟩
 f39 := ⟨Tryz.f274.name, by decide, Tryz.func274.trans (congrArg some (by kernel_rfl))⟩
 f41 := ⟨Tryz.f282.name, by decide, Tryz.func282.trans (congrArg some (by kernel_rfl))⟩
 t0 := Tryz.underlying0
 a0 := Tryz.isAgg0
 z0 := Tryz.sizeOf0
 v0 := Tryz.zeroValue0
 t3 := Tryz.underlying3
 a3 := Tryz.isAgg3
 z3 := Tryz.sizeOf3
 v3 := Tryz.zeroValue3
 t4 := Tryz.underlying4
 a4 := Tryz.isAgg4
 z4 := Tryz.sizeOf4
 v4 := Tryz.zeroValue4
 t5 := Tryz.underlying5
 a5 := Tryz.isAgg5
 z5 := Tryz.sizeOf5
 v5 := Tryz.zeroValue5
 t9 := Tryz.underlying9
 a9 := Tryz.isAgg9
 z9 := Tryz.sizeOf9
 v9 := Tryz.zeroValue9
 t26 := Tryz.underlying35
 a26 := Tryz.isAgg35
 z26 := Tryz.sizeOf35
 v26 := Tryz.zeroValue35
 t27 := Tryz.underlying35
 a27 := Tryz.isAgg35
 z27 := Tryz.sizeOf35
 v27 := Tryz.zeroValue35
 t29 := Tryz.underlying9
 a29 := Tryz.isAgg9
 z29 := Tryz.sizeOf9
 v29 := Tryz.zeroValue9
 t32 := Tryz.underlying287
 a32 := Tryz.isAgg287
 z32 := Tryz.sizeOf287
 v32 := Tryz.zeroValue287
 t35 := Tryz.underlying311
 a35 := Tryz.isAgg311
 z35 := Tryz.sizeOf311
 v35 := Tryz.zeroValue311
 t36 := Tryz.underlying312
 a36 := Tryz.isAgg312
 z36 := Tryz.sizeOf312
 v36 := Tryz.zeroValue312
 t41 := Tryz.underlying261
 a41 := Tryz.isAgg261
 z41 := Tryz.sizeOf261
 v41 := Tryz.zeroValue261
 t44 := Tryz.underlying319
 a44 := Tryz.isAgg319
 z44 := Tryz.sizeOf319
 v44 := Tryz.zeroValue319
 t46 := Tryz.underlying159
 a46 := Tryz.isAgg159
 z46 := Tryz.sizeOf159
 v46 := Tryz.zeroValue159
 t53 := Tryz.underlying334
 a53 := Tryz.isAgg334
 z53 := Tryz.sizeOf334
 v53 := Tryz.zeroValue334
 t57 := Tryz.underlying338
 a57 := Tryz.isAgg338
 z57 := Tryz.sizeOf338
 v57 := Tryz.zeroValue338
 t63 := Tryz.underlying349
 a63 := Tryz.isAgg349
 z63 := Tryz.sizeOf349
 v63 := Tryz.zeroValue349
 t64 := Tryz.underlying350
 a64 := Tryz.isAgg350
 z64 := Tryz.sizeOf350
 v64 := Tryz.zeroValue350 }
def Tryz.compStr_ren : Go.Shelf.Ren := ⟨fun | 44 => 178 | n => n, fun | 25 => 35 | 26 => 9 | 3 => 3 | 4 => 4 | 0 => 0 | n => n, fun | n => n⟩
theorem Tryz.compStr : Go.Proofs.SlLaysN.n44 Tryz.prog Tryz.compStr_ren := {
 mixed := by kernel_rfl
 f44 := ⟨Tryz.f178.name, by decide, Tryz.func178.trans (congrArg some (by kernel_rfl))⟩
 t0 := Tryz.underlying0
 a0 := Tryz.isAgg0
 z0 := Tryz.sizeOf0
 v0 := Tryz.zeroValue0
 t3 := Tryz.underlying3
 a3 := Tryz.isAgg3
 z3 := Tryz.sizeOf3
 v3 := Tryz.zeroValue3
 t4 := Tryz.underlying4
 a4 := Tryz.isAgg4
 z4 := Tryz.sizeOf4
 v4 := Tryz.zeroValue4
 t25 := Tryz.underlying35
 a25 := Tryz.isAgg35
 z25 := Tryz.sizeOf35
 v25 := Tryz.zeroValue35
 t26 := Tryz.underlying9
 a26 := Tryz.isAgg9
 z26 := Tryz.sizeOf9
 v26 := Tryz.zeroValue9
 i26 := by kernel_rfl }
end Go.Proofs

namespace Go.Proofs.YtnbbllkbefagmaaGreatDoor
open Go.RowKit Go.Sort
set_option linter.unusedVariables false

/-- from w to w' nothing but draws and new blocks -/
def Gr (w w' : World) : Prop := ∃ (q : Nat) (os : Array Obj), w' = grow (w.drewN q) os
theorem Gr.refl (w : World) : Gr w w := ⟨0, #[], by rw [grow_empty]; rfl⟩
theorem Gr.trans {a b c : World} (h : Gr a b) (k : Gr b c) : Gr a c := by
 obtain ⟨q, os, rfl⟩ := h
 obtain ⟨q2, os2, rfl⟩ := k
 exact ⟨q + q2, os ++ os2, by show grow (grow ((a.drewN q).drewN q2) os) os2 = _; rw [grow_grow, World.drewN_drewN]⟩
theorem Gr.alloc (w : World) (o : Obj) : Gr w (w.alloc o) := ⟨0, #[o], by rw [alloc_eq_grow]; rfl⟩
theorem Gr.drew (w : World) : Gr w w.drew := ⟨1, #[], by rw [grow_empty]; rfl⟩
theorem Gr.drewN (w : World) (n : Nat) : Gr w (w.drewN n) := ⟨n, #[], by rw [grow_empty]⟩
theorem Gr.size {w w' : World} (h : Gr w w') : w.heap.size ≤ w'.heap.size := by
 obtain ⟨q, os, rfl⟩ := h
 rw [size_grow]
 exact Nat.le_add_right _ _
theorem Gr.block {w w' : World} (h : Gr w w') {k : Nat} (hk : k < w.heap.size) : w'.heap[k]? = w.heap[k]? := by
 obtain ⟨q, os, rfl⟩ := h
 exact heap_grow_old (w.drewN q) os hk
theorem Gr.below {w w' : World} (h : Gr w w') : Below w.heap.size w w' := by
 have h1 := h.size
 have h2 := fun k (hk : k < w.heap.size) => h.block hk
 obtain ⟨q, os, rfl⟩ := h
 exact ⟨rfl, rfl, rfl, h1, h2⟩
theorem Gr.ro {w w' : World} {M : Nat → Prop} {S : World → Prop} (h : Gr w w') (hs : Ro w M S) : Ro w' M S := hs.below h.below
end Go.Proofs.YtnbbllkbefagmaaGreatDoor

namespace Go.Proofs.YtnbbllkbefagmaaGreatDoor
open Go.RowKit Go.Sort
set_option linter.unusedVariables false
set_option linter.unusedSimpArgs false

theorem sortWd_heap {α : Type} [Inhabited α] (enc : α → Value) (w : World) (g m : Nat) (d : Array α) (os : Array Obj) {b : Nat} (hb : b < w.heap.size) (hne : b ≠ g) : (sortWorld enc w g 0 m d os).heap[b]? = w.heap[b]? := by
 show ((w.heap.modify g _) ++ os)[b]? = _
 rw [Array.getElem?_append, if_pos (by simpa using hb), Array.getElem?_modify, if_neg (fun e => hne e.symm)]
theorem sortWd_size {α : Type} [Inhabited α] (enc : α → Value) (w : World) (g m : Nat) (d : Array α) (os : Array Obj) : w.heap.size ≤ (sortWorld enc w g 0 m d os).heap.size := by
 show _ ≤ ((w.heap.modify g _) ++ os).size
 simp
theorem sortWd_at {α : Type} [Inhabited α] (enc : α → Value) (w : World) (g m : Nat) (d : Array α) (os : Array Obj) {cs : Array Value} {t : TypeId} (h : w.heap[g]? = some (.cells cs t (0, 0))) : (sortWorld enc w g 0 m d os).heap[g]? = some (.cells (Go.Sort.putCells enc 0 d cs) t (0, 0)) := by
 have hb : g < w.heap.size := (Array.getElem?_eq_some_iff.1 h).1
 show ((w.heap.modify g _) ++ os)[g]? = _
 rw [Array.getElem?_append, if_pos (by simpa using hb), Array.getElem?_modify, if_pos rfl, h]
 rfl
section
variable {α : Type} [Inhabited α] (enc : α → List Value) (k : Nat) (hk : ∀ x, (enc x).length = k)
include hk
end
end Go.Proofs.YtnbbllkbefagmaaGreatDoor

namespace Go.Proofs.YtnbbllkbefagmaaGreatDoor
open Go.RowKit Go.Sort
set_option linter.unusedVariables false
set_option linter.unusedSimpArgs false

/-- an own row of one-cell elements behind the sort -/
theorem own_sort1 {α : Type} [Inhabited α] (enc : α → Value) {w : World} {base : Nat} {e : TypeId} {g q cap : Nat} {xs : List Value} (ho : w.ownsRow base e 1 (.slice (some ⟨g, 0, none⟩) q cap) q xs) {d' : Array α} (hs : d'.size = q) (m : Nat) (os : Array Obj) : (sortWorld enc w g 0 m d' os).ownsRow base e 1 (.slice (some ⟨g, 0, none⟩) q cap) q (d'.toList.map enc) := by
 have hl : (d'.toList.map enc).length = q * 1 := by simp [hs]
 obtain ⟨hlen2, ⟨hv0, _⟩ | ⟨g', cap', cur, hveq, hbase, hcell, hqc, hcm, hcs, htk⟩⟩ := ho
 ·cases hv0
 ·injection hveq with e1 e2 e3
  injection e1 with e1
  injection e1 with e1
  subst e1; subst e3
  refine ⟨hl, .inr ⟨g, cap, _, rfl, hbase, sortWd_at enc w g m d' os hcell, hqc, hcm, ?_, ?_⟩⟩
  ·rw [← hcs]
   show (cur.mapIdx _).size = _
   simp
  ·refine List.ext_getElem? fun j => ?_
   by_cases hj : j < q
   ·have hj2 : j < d'.size := by omega
    have hr : (d'.toList.map enc)[j]? = some (enc d'[j]!) := by
     rw [List.getElem?_map, Array.getElem?_toList, Array.getElem?_eq_getElem hj2, getElem!_pos d' j hj2]; rfl
    rw [List.getElem?_take, if_pos (by omega), hr]
    have hjc : j < cur.size := by rw [hcs]; omega
    show ((cur.mapIdx fun i x => if 0 ≤ i ∧ i < 0 + d'.size then enc d'[i - 0]! else x).toList)[j]? = _
    rw [Array.getElem?_toList, Array.getElem?_mapIdx, Array.getElem?_eq_getElem hjc]
    simp only [Option.map_some, Nat.zero_add, Nat.sub_zero, Nat.zero_le, true_and]
    rw [if_pos hj2]
   ·rw [List.getElem?_eq_none (by rw [List.length_take]; omega), List.getElem?_eq_none (by rw [hl]; omega)]
theorem Hold.sort1 {α : Type} [Inhabited α] (enc : α → Value) {M : Nat → Prop} {row : Option Nat} {w0 w : World} {L : List Hp} (K : Hold M row w0 w L) (i : Nat) {e : TypeId} {g q cap : Nat} {xs : List Value} (hi : L[i]? = some (.own e 1 (.slice (some ⟨g, 0, none⟩) q cap) q xs)) {d' : Array α} (hs : d'.size = q) (m : Nat) (os : Array Obj) : Hold M row w0 (sortWorld enc w g 0 m d' os) (L.set i (.own e 1 (.slice (some ⟨g, 0, none⟩) q cap) q (d'.toList.map enc))) := by
 have hg : g < w.heap.size := (K.fresh _ (List.mem_of_getElem? hi) g rfl).2
 exact K.append (w' := sortWorld enc w g 0 m d' os) i hi (own_sort1 enc (K.get i hi) hs m os) ⟨rfl, rfl, rfl, sortWd_size enc w g m d' os, fun b hb hne => sortWd_heap enc w g m d' os hb fun e => hne (by rw [e]; rfl)⟩ (.inl rfl) (Nat.lt_of_lt_of_le hg (sortWd_size enc w g m d' os))
def bytesOf (s : ByteArray) : List UInt8 := s.data.toList
def strOf (z : List UInt8) : ByteArray := ⟨z.toArray⟩
theorem strOf_bytesOf (s : ByteArray) : strOf (bytesOf s) = s := by simp [strOf, bytesOf]
theorem strs_enc (ss : List ByteArray) : (ss.map bytesOf).map encStr = strsCells ss := by
 unfold strsCells
 rw [List.map_map]
 refine List.map_congr_left fun s _ => ?_
 show Value.string (strOf (bytesOf s)) = _
 rw [strOf_bytesOf]
theorem enc_strs (zs : List (List UInt8)) : zs.map encStr = strsCells (zs.map strOf) := by
 unfold strsCells
 rw [List.map_map]; rfl
theorem strs_back (ss : List ByteArray) : (ss.map bytesOf).map strOf = ss := by
 rw [List.map_map]
 conv => rhs; rw [← List.map_id ss]
 exact List.map_congr_left fun s _ => strOf_bytesOf s
theorem holds_strs {w : World} {base : Nat} {e : TypeId} {g q cap : Nat} {ss : List ByteArray} (ho : w.ownsRow base e 1 (.slice (some ⟨g, 0, none⟩) q cap) q (strsCells ss)) : Holds encStr w g 0 (ss.map bytesOf).toArray := fun j hj => by
 have hl : ss.length = q := by have := ho.1; simpa [strsCells] using this
 have hj2 : j < q := by simpa [hl] using hj
 rw [Nat.zero_add]
 refine ⟨(ho.cellAt j (by omega)).trans ?_, ho.frozenAt j⟩
 have hx : (ss.map bytesOf).toArray[j]! = (ss.map bytesOf)[j]'(by simpa using hj) := by rw [getElem!_pos (ss.map bytesOf).toArray j hj]; simp
 rw [← strs_enc, List.getElem?_map, hx, List.getElem?_eq_getElem (by simpa using hj)]
 rfl
theorem sortstr_any {M : Nat → Prop} {row : Option Nat} {w0 w : World} {L : List Hp} (K : Hold M row w0 w L) (i : Nat) {e : TypeId} {g q cap : Nat} {ss : List ByteArray} (hi : L[i]? = some (.own e 1 (.slice (some ⟨g, 0, none⟩) q cap) q (strsCells ss))) (hq : q < 4611686018427387904) :
  Calls Tryz.prog 177 #[.slice (some ⟨g, 0, none⟩) q cap] w fun e' w' => e' = .returned (.tuple #[]) ∧ ∃ ss' : List ByteArray, ss'.Perm ss ∧ Hold M row w0 w' (L.set i (.own e 1 (.slice (some ⟨g, 0, none⟩) q cap) q (strsCells ss'))) := by
 have ho := K.get i hi
 have hg : g < w.heap.size := (K.fresh _ (List.mem_of_getElem? hi) g rfl).2
 have hl : ss.length = q := by have := ho.1; simpa [strsCells] using this
 have hc := AnyM.slices_Sort_string Tryz.sortStr g 0 cap (ss.map bytesOf) w (holds_strs ho) hg (by rw [List.length_map, hl]; exact hq)
 rw [List.length_map, hl] at hc
 refine Calls.mono (show Calls Tryz.prog 177 _ w _ from hc) ?_
 rintro e' w' ⟨rfl, n, os, rfl⟩
 refine ⟨rfl, ((ss.map bytesOf).mergeSort fun x y => decide (x ≤ y)).map strOf, ?_, ?_⟩
 ·have := (List.mergeSort_perm (ss.map bytesOf) fun x y => decide (x ≤ y)).map strOf
  rwa [strs_back] at this
 ·rw [← enc_strs]
  exact K.sort1 encStr i hi (d' := ((ss.map bytesOf).mergeSort fun x y => decide (x ≤ y)).toArray) (by simp [hl]) n os
theorem compact_has {α : Type} [Inhabited α] [DecidableEq α] (d : Array α) (m : Nat) : ∀ j, j < m → d[j]! ∈ Lib.compactUpTo d m
 | 0, h => List.mem_map.2 ⟨0, List.mem_filter.2 ⟨List.mem_range.2 h, by simp [Lib.keeps]⟩, rfl⟩
 | j + 1, h => by
  by_cases hk : Lib.keeps d (j + 1) = true
  ·exact List.mem_map.2 ⟨j + 1, List.mem_filter.2 ⟨List.mem_range.2 h, hk⟩, rfl⟩
  ·have he : d[j + 1]! = d[j]! := by simpa [Lib.keeps] using hk
   rw [he]
   exact compact_has d m j (by omega)
theorem compact_mem {α : Type} [Inhabited α] [DecidableEq α] (zs : List α) (z : α) : z ∈ Lib.compact zs ↔ z ∈ zs := by
 constructor
 ·intro h
  obtain ⟨j, hj, rfl⟩ := List.mem_map.1 h
  have hj2 := List.mem_range.1 (List.mem_filter.1 hj).1
  rw [getElem!_pos _ _ (by simpa using hj2)]
  simp
 ·intro h
  obtain ⟨j, hj, rfl⟩ := List.getElem_of_mem h
  have := compact_has zs.toArray zs.length j hj
  rwa [getElem!_pos _ _ (by simpa using hj)] at this
theorem compstr_any {M : Nat → Prop} {row : Option Nat} {w0 w : World} {L : List Hp} (K : Hold M row w0 w L) (i : Nat) {e : TypeId} {g q cap : Nat} {ss : List ByteArray} (hi : L[i]? = some (.own e 1 (.slice (some ⟨g, 0, none⟩) q cap) q (strsCells ss))) (hq : q ≤ 9223372036854775807) :
  Calls Tryz.prog 178 #[.slice (some ⟨g, 0, none⟩) q cap] w fun e' w' => ∃ (q' : Nat) (ss' : List ByteArray), e' = .returned (.slice (some ⟨g, 0, none⟩) q' cap) ∧ q' ≤ q ∧ (∀ s, s ∈ ss' ↔ s ∈ ss) ∧ Hold M row w0 w' (L.set i (.own e 1 (.slice (some ⟨g, 0, none⟩) q' cap) q' (strsCells ss'))) := by
 have ho := K.get i hi
 have hl : ss.length = q := by have := ho.1; simpa [strsCells] using this
 have hcap := own_caps ho
 have hc := AnyG.slices_Compact_string Tryz.compStr g 0 cap (ss.map bytesOf) w (holds_strs ho) (by rw [List.length_map, hl]; exact hq) (by rw [List.length_map, hl]; exact hcap.1)
 rw [List.length_map, hl] at hc
 refine Calls.mono (show Calls Tryz.prog 178 _ w _ from hc) ?_
 rintro e' w' ⟨rfl, n, rfl⟩
 have hle : (Lib.compact (ss.map bytesOf)).length ≤ q := by
  have h1 : (Lib.compact (ss.map bytesOf)).length ≤ (ss.map bytesOf).length := by
   unfold Lib.compact Lib.compactUpTo
   rw [List.length_map]
   exact Nat.le_trans (List.length_filter_le _ _) (by simp)
  rwa [List.length_map, hl] at h1
 refine ⟨_, (Lib.compact (ss.map bytesOf)).map strOf, rfl, hle, fun s => ?_, ?_⟩
 ·rw [List.mem_map]
  constructor
  ·rintro ⟨z, hz, rfl⟩
   obtain ⟨x, hx, rfl⟩ := List.mem_map.1 ((compact_mem _ _).1 hz)
   rwa [strOf_bytesOf]
  ·intro hs
   exact ⟨bytesOf s, (compact_mem _ _).2 (List.mem_map_of_mem hs), strOf_bytesOf s⟩
 ·have K1 := K.sort1 encStr i hi (d' := (Lib.compact (ss.map bytesOf) ++ List.replicate (q - (Lib.compact (ss.map bytesOf)).length) []).toArray) (by simp; omega) n #[]
  have hi2 : (L.set i (.own e 1 (.slice (some ⟨g, 0, none⟩) q cap) q ((Lib.compact (ss.map bytesOf) ++ List.replicate (q - (Lib.compact (ss.map bytesOf)).length) []).toArray.toList.map encStr)))[i]? = some (.own e 1 (.slice (some ⟨g, 0, none⟩) q cap) q ((Lib.compact (ss.map bytesOf) ++ List.replicate (q - (Lib.compact (ss.map bytesOf)).length) []).toArray.toList.map encStr)) := List.getElem?_set_self (List.getElem?_eq_some_iff.1 hi).1
  have K2 := K1.cutRow i (n := (Lib.compact (ss.map bytesOf)).length) hi2 hle
  rw [List.set_set, List.map_append, Nat.mul_one, List.take_left' (by simp), enc_strs] at K2
  have e : sortWorld encStr w g 0 n (Lib.compact (ss.map bytesOf) ++ List.replicate (q - (Lib.compact (ss.map bytesOf)).length) []).toArray #[] = putRow encStr (Sort.ahead w n) g 0 (Lib.compact (ss.map bytesOf) ++ List.replicate (q - (Lib.compact (ss.map bytesOf)).length) []).toArray := grow_empty _
  rw [e] at K2
  exact K2
end Go.Proofs.YtnbbllkbefagmaaGreatDoor

namespace Go.Proofs.YtnbbllkbefagmaaGreatDoor
open Go.RowKit
set_option linter.unusedVariables false
set_option linter.unusedSimpArgs false

set_option maxHeartbeats 2000000 in
theorem ins_nil (w : World) : Calls Tryz.prog 241 #[.slice none 0 0, .int .i64 0, .int .i64 0] w fun e w' => e = .returned (.tuple #[]) ∧ Below w.heap.size w w' := by
 go_enter Tryz.func241, Tryz.ntmps241
 go_wp2_with fail
 go_loopw [6] (fun i wr => i = .int .i64 1 ∧ wr = w) (fun _ _ => 0)
 case atStart => exact ⟨rfl, rfl⟩
 case round =>
  obtain ⟨rfl, rfl⟩ := hrel
  go_wp2_with fail
  exact bodyPost_end (v := .tuple #[]) (by simp [results, Tryz.results241, go_sem]) rfl ⟨rfl, Below.refl _ _⟩
set_option maxHeartbeats 2000000 in
theorem len64_zero (w : World) : Calls Tryz.prog 251 #[.int .u64 0] w fun e w' => e = .returned (.int .i64 0) ∧ Below w.heap.size w w' := by
 go_enter Tryz.func251, Tryz.ntmps251
 go_wp2_with fail
 go_ret
 exact ⟨by first | rfl | (simp; rw [show Lib.len8 0 = 0 from by kernel_rfl]; kernel_rfl), Below.refl _ _⟩
set_option maxHeartbeats 2000000 in
theorem len_zero (w : World) : Calls Tryz.prog 216 #[.int .u64 0] w fun e w' => e = .returned (.int .i64 0) ∧ Below w.heap.size w w' := by
 go_enter Tryz.func216, Tryz.ntmps216
 go_wp2_with fail
 refine (len64_zero w).mono ?_
 rintro e w1 ⟨rfl, b1⟩
 go_wp2_with fail
 go_ret
 exact ⟨rfl, b1⟩
set_option maxHeartbeats 2000000 in
theorem pdq_nil (w : World) : Calls Tryz.prog 215 #[.slice none 0 0, .int .i64 0, .int .i64 0, .int .i64 0] w fun e w' => e = .returned (.tuple #[]) ∧ Below w.heap.size w w' := by
 go_enter Tryz.func215, Tryz.ntmps215
 go_wp2_with fail
 go_loopw [1, 2, 3] (fun x y z wr => x = .int .i64 0 ∧ y = .int .i64 0 ∧ z = .int .i64 0 ∧ wr = w) (fun _ _ _ _ => 0)
 case atStart => exact ⟨rfl, rfl, rfl, rfl⟩
 case round =>
  obtain ⟨rfl, rfl, rfl, rfl⟩ := hrel
  go_wp2_with fail
  refine (ins_nil wr).mono ?_
  rintro e w1 ⟨rfl, b1⟩
  go_wp2_with fail
  exact bodyPost_ret (v := .tuple #[]) (by simp [results, Tryz.results215, go_sem]) rfl ⟨rfl, b1⟩
set_option maxHeartbeats 2000000 in
theorem sort_nil (w : World) : Calls Tryz.prog 177 #[.slice none 0 0] w fun e w' => e = .returned (.tuple #[]) ∧ Below w.heap.size w w' := by
 go_enter Tryz.func177, Tryz.ntmps177
 go_wp2_with fail
 refine (len_zero w).mono ?_
 rintro e w1 ⟨rfl, b1⟩
 go_wp2_with fail
 refine (pdq_nil w1).mono ?_
 rintro e w2 ⟨rfl, b2⟩
 go_wp2_with fail
 exact bodyPost_end (v := .tuple #[]) (by simp [results, Tryz.results177, go_sem]) rfl ⟨rfl, b1.trans (b2.mono b1.size)⟩
set_option maxHeartbeats 2000000 in
theorem comp_nil (w : World) : Calls Tryz.prog 178 #[.slice none 0 0] w fun e w' => e = .returned (.slice none 0 0) ∧ Below w.heap.size w w' := by
 go_enter Tryz.func178, Tryz.ntmps178
 go_wp2_with fail
 go_ret
 exact ⟨rfl, Below.refl _ _⟩
end Go.Proofs.YtnbbllkbefagmaaGreatDoor

namespace Go.Proofs.YtnbbllkbefagmaaGreatDoor
open Go.RowKit
set_option linter.unusedVariables false
set_option linter.unusedSimpArgs false

/-- the assignments of a trigger's actions that set -/
def setsOf (l : List Ac) : List Se := l.flatMap fun a => if a.kind = 5 then a.sets.l else []
theorem setsOf_cols (t : Tg) : (setsOf t.acts.l).map Se.col = setCols t := by
 unfold setsOf setCols
 generalize t.acts.l = l
 induction l with
 | nil => rfl
 | cons a l ih =>
  rw [List.flatMap_cons, List.flatMap_cons, List.map_append, ih]
  split <;> rfl
theorem setsOf_take {l : List Ac} {k : Nat} {x : Ac} (hx : l[k]? = some x) : setsOf (l.take (k + 1)) = setsOf (l.take k) ++ (if x.kind = 5 then x.sets.l else []) := by
 unfold setsOf
 rw [List.take_add_one, hx]
 simp
theorem setsOf_le {l : List Ac} (k : Nat) : (setsOf (l.take k)).length ≤ (setsOf l).length := by
 have h : setsOf (l.take k ++ l.drop k) = setsOf (l.take k) ++ setsOf (l.drop k) := by unfold setsOf; exact List.flatMap_append ..
 rw [List.take_append_drop] at h
 rw [h, List.length_append]
 omega
theorem setsOf_in {l : List Ac} {d : Nat} {w : World} (h : ∀ a ∈ l, AcIn d a w) : ∀ s ∈ setsOf l, SeIn d s w := fun s hs => by
 unfold setsOf at hs
 rw [List.mem_flatMap] at hs
 obtain ⟨a, ha, hs⟩ := hs
 split at hs
 ·exact (h a ha).parts.2.2.1.2 s hs
 ·exact nomatch hs
theorem one_ses (l : List Se) : ∀ u ∈ l.flatMap Se.cells, u.oneCell' = true := fun u hu => by
 rw [List.mem_flatMap] at hu
 obtain ⟨x, _, hx⟩ := hu
 unfold Se.cells at hx
 rcases List.mem_cons.1 hx with rfl | hx
 ·rfl
 ·exact one_ex x.e u hx
theorem Tryz.elSe : ElemT Tryz.prog 95 128 11 152 (.agg #[.string ⟨#[]⟩, .int .i64 0, .int .i64 0, .bool false, .int .i64 0, .int .i64 0, .string ⟨#[]⟩, .string ⟨#[]⟩, .string ⟨#[]⟩, .slice none 0 0, .slice none 0 0]) := ⟨Tryz.underlying95, by kernel_rfl, rfl, by omega⟩
set_option maxRecDepth 100000 in
set_option maxHeartbeats 4000000 in
theorem fsets_any (M : Nat → Prop) (w : World) (hM : ∀ b, M b → b < w.heap.size) (t : Tg) (d : Nat) (ha : Ro w M (AcsIn d t.acts.A t.acts.n t.acts.l)) (hn : t.acts.n ≤ 9223372036854775807) (hs : (setsOf t.acts.l).length ≤ 549755813888) :
  Calls Tryz.prog 196 #[t.val] w fun e w' => ∃ (A : Option Addr) (n c : Nat), e = .returned (.slice A n c) ∧ n ≤ 549755813888 ∧ Ro w' M (SesIn d A n (setsOf t.acts.l)) ∧ Below w.heap.size w w' := by
 obtain ⟨tname, ttab, tbef, tev, ⟨cA, cn, cc, cl⟩, teach, ⟨pA, pn, pc, pl⟩, ⟨fA, fn, fc, fl⟩, ⟨kA, kn, kc, kl⟩, ⟨oA, on, oc, ol⟩, ⟨uA, un, uc, ul⟩⟩ := t
 simp only [Tg.val] at ha hn hs ⊢
 have HL := hid ha.now.len
 have HS := hid hs
 have K0 := ((Hold.start M w hM).add (ha.less (by simp [Mut]))).alloc_cst #[.string tname, .string ttab, .bool tbef, .int .i64 tev, .slice cA cn cc, .bool teach, .slice pA pn pc, .slice fA fn fc, .slice kA kn kc, .slice oA on oc, .slice uA un uc] 40
 have KN := K0.nil 128 11
 have F0 := K0.facts
 simp only [factsL, cellsF, Nat.reduceAdd, zf, zl] at F0
 clear ha hs
 go_enter Tryz.func196, Tryz.ntmps196
 go_wp2_with fail
 clear F0 K0
 go_loopw [3, 9] (fun ov iv wr => ∃ (k q cap : Nat) (O : Option Addr), k ≤ un ∧ iv = .int .i64 k ∧ ov = .slice O q cap ∧ Hid (q = (setsOf (ul.take k)).length) ∧ Hold M none w wr [.own 128 11 (.slice O q cap) q ((setsOf (ul.take k)).flatMap Se.cells), .cst w.heap.size 40 #[.string tname, .string ttab, .bool tbef, .int .i64 tev, .slice cA cn cc, .bool teach, .slice pA pn pc, .slice fA fn fc, .slice kA kn kc, .slice oA on oc, .slice uA un uc], .ro (AcsIn d uA un ul)]) (fun _ i _ => un - (intOf i).toNat)
 case atStart => exact ⟨0, 0, 0, none, by omega, rfl, rfl, hid rfl, KN⟩
 case round =>
  clear KN
  obtain ⟨k, q, cap, O, hk, rfl, rfl, HQ, H⟩ := hrel
  by_cases hlt : k < un
  ·obtain ⟨⟨ak, atab, ⟨arA, arn, arc, arl⟩, ⟨aqA, aqn, aqc, aql⟩, ⟨asA, asn, asc, asl⟩, ⟨awA, awn, awc, awl⟩, atext⟩, hc⟩ := get_any HL.out hlt
   obtain ⟨b, o, rfl, hb, hcl, -⟩ := (H.ro 2 rfl).now.at_ hc
   have c0 := hcl 0 _ (by omega) rfl
   have c1 := hcl 1 _ (by omega) rfl
   have c2 := hcl 2 _ (by omega) rfl
   have c3 := hcl 3 _ (by omega) rfl
   have c4 := hcl 4 _ (by omega) rfl
   have c5 := hcl 5 _ (by omega) rfl
   have c6 := hcl 6 _ (by omega) rfl
   simp only [Nat.add_zero] at c0
   clear hcl
   simp only [SlP.v] at c2 c3 c4 c5
   have HT := hid (setsOf_take hc)
   have HTL := hid (setsOf_le (l := ul) (k + 1))
   have HM := hid (List.mem_of_getElem? hc)
   clear hc
   have K1 := H.alloc_cst #[.int .i64 ak, .string atab, .slice arA arn arc, .slice aqA aqn aqc, .slice asA asn asc, .slice awA awn awc, .string atext] 97
   have F1 := K1.facts
   simp only [factsL, cellsF, Nat.reduceAdd, zf, zl] at F1
   clear H
   by_cases h5 : ak = 5
   ·subst h5
    have hS := ((K1.ro 3 rfl).now.2 _ HM.out).parts.2.2.1
    simp only at hS
    have hlen := hS.len
    have e1 : (setsOf (ul.take (k + 1))).length = q + asn := by
     rw [HT.out, List.length_append, HQ.out]; simp [hlen]
    have e2 : (setsOf (ul.take k)).flatMap Se.cells ++ asl.flatMap Se.cells = (setsOf (ul.take (k + 1))).flatMap Se.cells := by
     rw [HT.out, List.flatMap_append]; simp
    have hqs : q + asn ≤ 549755813888 := by have := HTL.out; have := HS.out; omega
    have HE1 := hid e1
    have HE2 := hid e2
    have HSR := hid hS.1
    clear e1 e2 hlen hS
    go_wp2_with (at_builtin; go_must (refine wpList_appAllH K1 1 rfl Tryz.elSe HSR.out rfl (.tmp 16) (.tmp 18) rfl rfl rfl (one_ses _) (by omega) (by omega) ?_); intro C9 cap9 w9 hc9 hm9 KB; rw [HE2.out] at KB; simp only [zl] at KB)
    go_roundw
    case rel => exact ⟨k + 1, q + asn, cap9, _, by omega, by go_num, by first | rfl | trivial, hid HE1.out.symm, KB.drop (List.sublist_cons_self _ _)⟩
    case measure => simp [intOf]; omega
   ·have e1 : setsOf (ul.take (k + 1)) = setsOf (ul.take k) := by rw [HT.out]; simp [h5]
    go_wp2_with fail
    all_goals first
     | (exfalso; omega)
     | skip
    go_roundw
    case rel => exact ⟨k + 1, q, cap, O, by omega, by go_num, by first | rfl | trivial, hid (by rw [e1]; exact HQ.out), by rw [e1]; exact K1.drop (List.sublist_cons_self _ _)⟩
    case measure => simp [intOf]; omega
  ·obtain rfl : un = k := by omega
   rw [List.take_of_length_le (by rw [HL.out]; exact Nat.le_refl _)] at H HQ
   have K1 := H.sealRow 0 rfl
   simp only [List.set_cons_zero] at K1
   have F := H.facts
   simp only [factsL, cellsF, Nat.reduceAdd, zf, zl] at F
   have hq : q ≤ 549755813888 := by have := HQ.out; have := HS.out; omega
   go_wp2_with fail
   go_ret
   refine ⟨O, q, cap, by first | rfl | simp, hq, ?_, H.below⟩
   have R1 := K1.ro 0 rfl
   have R2 := K1.ro 2 rfl
   exact ((R1.and R2).imp fun w2 h2 => ⟨h2.1, setsOf_in h2.2.2⟩).less fun b hb => .inl hb
set_option maxRecDepth 100000 in
set_option maxHeartbeats 2000000 in
theorem visit_any (M : Nat → Prop) (row : Option Nat) (w0 w : World) (g k : Nat) (L : List Hp) (d : Nat) (a : Ac) (h : NmSt M row w0 w g k (.ro (AcIn d a) :: L)) (hk : k + acW d a ≤ 4398046511104) :
  Calls Tryz.prog 195 #[a.val, rowV g] w fun r w' => (∃ b, r = .returned (.bool b)) ∧ NmSt M row w0 w' g (k + acW d a) (.ro (AcIn d a) :: L) := by
 have hce := fun (w : World) (L : List Hp) (h : NmSt M row w0 w g k (.ro (AcIn d a) :: L)) => visA_any M row w0 w g k L d a h hk
 have H1 := h.cst #[.int .i64 a.kind, .string a.tab, .slice a.rows.A a.rows.n a.rows.c, .slice a.qs.A a.qs.n a.qs.c, .slice a.sets.A a.sets.n a.sets.c, .slice a.wh.A a.wh.n a.wh.c, .string a.text] 97
 have F1 := (H1.drop (L' := [_]) (List.Sublist.cons_cons _ (List.nil_sublist _))).factsL
 simp only [factsL, cellsF, Nat.reduceAdd, zf, zl] at F1
 obtain ⟨P, m, c, xs, hm, K⟩ := H1
 have H2 : NmSt M row w0 _ g k (.ro (AcIn d a) :: .cst w.heap.size 97 #[.int .i64 a.kind, .string a.tab, .slice a.rows.A a.rows.n a.rows.c, .slice a.qs.A a.qs.n a.qs.c, .slice a.sets.A a.sets.n a.sets.c, .slice a.wh.A a.wh.n a.wh.c, .string a.text] :: L) := ⟨P, m, c, xs, hm, K.perm (((List.Perm.swap _ _ _).cons _).cons _)⟩
 simp only [Ac.val] at hce ⊢
 have HCE := hid hce
 clear hce K
 go_enter Tryz.func195, Tryz.ntmps195
 go_wp2_with fail
 refine (HCE.out _ _ H2).mono ?_
 rintro e w1 ⟨rfl, H3⟩
 go_wp2_with fail
 go_ret
 exact ⟨⟨true, by first | rfl | simp⟩, H3.drop (List.Sublist.cons_cons _ (List.sublist_cons_self _ _))⟩
set_option maxRecDepth 100000 in
set_option maxHeartbeats 2000000 in
theorem visitAll_any (M : Nat → Prop) (row : Option Nat) (w0 w : World) (g k : Nat) (L : List Hp) (d : Nat) (A : Option Addr) (n c : Nat) (l : List Ex) (h : NmSt M row w0 w g k (.ro (ExsIn d A n l) :: L)) (hk : k + exsW d l ≤ 4398046511104) :
  Calls Tryz.prog 194 #[.slice A n c, rowV g] w fun r w' => (∃ b, r = .returned (.bool b)) ∧ NmSt M row w0 w' g (k + exsW d l) (.ro (ExsIn d A n l) :: L) := by
 go_enter Tryz.func194, Tryz.ntmps194
 go_wp2_with fail
 refine ((vis_any d).1 _ _ _ _ _ _ _ _ _ _ _ h hk).mono ?_
 rintro e w1 ⟨rfl, H3⟩
 go_wp2_with fail
 go_ret
 exact ⟨⟨true, by first | rfl | simp⟩, H3⟩
end Go.Proofs.YtnbbllkbefagmaaGreatDoor

namespace Go.Proofs.YtnbbllkbefagmaaGreatDoor
open Go.RowKit
set_option linter.unusedVariables false
set_option linter.unusedSimpArgs false

theorem set_sameR {α : Type} {L : List α} {i : Nat} {x : α} (h : L[i]? = some x) : L.set i x = L := by
 apply List.ext_getElem?
 intro j
 rw [List.getElem?_set]
 split
 ·subst i; split
  ·exact h.symm
  ·rw [List.getElem?_eq_none (by omega)]
 ·rfl
theorem sortS_any {M : Nat → Prop} {row : Option Nat} {w0 w : World} {L : List Hp} (K : Hold M row w0 w L) (i : Nat) {e : TypeId} {A : Option Addr} {q cap : Nat} {ss : List ByteArray} (hi : L[i]? = some (.own e 1 (.slice A q cap) q (strsCells ss))) (hq : q < 4611686018427387904) :
  Calls Tryz.prog 177 #[.slice A q cap] w fun e' w' => e' = .returned (.tuple #[]) ∧ ∃ ss' : List ByteArray, ss'.Perm ss ∧ Hold M row w0 w' (L.set i (.own e 1 (.slice A q cap) q (strsCells ss'))) := by
 rcases own_addr (show w.ownsRow w0.heap.size e 1 (.slice A q cap) q (strsCells ss) from K.get i hi) with ⟨rfl, rfl, rfl⟩ | ⟨g, rfl, _⟩
 ·refine (sort_nil w).mono ?_
  rintro e' w' ⟨rfl, b⟩
  exact ⟨rfl, ss, List.Perm.refl _, by rw [set_sameR hi]; exact K.call b⟩
 ·exact sortstr_any K i hi hq
theorem compS_any {M : Nat → Prop} {row : Option Nat} {w0 w : World} {L : List Hp} (K : Hold M row w0 w L) (i : Nat) {e : TypeId} {A : Option Addr} {q cap : Nat} {ss : List ByteArray} (hi : L[i]? = some (.own e 1 (.slice A q cap) q (strsCells ss))) (hq : q ≤ 9223372036854775807) :
  Calls Tryz.prog 178 #[.slice A q cap] w fun e' w' => ∃ (q' : Nat) (ss' : List ByteArray), e' = .returned (.slice A q' cap) ∧ q' ≤ q ∧ (∀ s, s ∈ ss' ↔ s ∈ ss) ∧ Hold M row w0 w' (L.set i (.own e 1 (.slice A q' cap) q' (strsCells ss'))) := by
 rcases own_addr (show w.ownsRow w0.heap.size e 1 (.slice A q cap) q (strsCells ss) from K.get i hi) with ⟨rfl, rfl, rfl⟩ | ⟨g, rfl, _⟩
 ·refine (comp_nil w).mono ?_
  rintro e' w' ⟨rfl, b⟩
  exact ⟨0, ss, rfl, Nat.le_refl _, fun s => Iff.rfl, by rw [set_sameR hi]; exact K.call b⟩
 ·exact compstr_any K i hi hq
theorem NmSt.call {M : Nat → Prop} {row : Option Nat} {w0 w w' : World} {g k : Nat} {L : List Hp} (h : NmSt M row w0 w g k L) (b : Below w.heap.size w w') : NmSt M row w0 w' g k L := by
 obtain ⟨B, m, c, xs, hm, K⟩ := h
 exact ⟨B, m, c, xs, hm, K.call b⟩
def tgW (d : Nat) (t : Tg) : Nat := exsW d t.cond.l + acsW d t.acts.l
theorem TgIn.parts {d : Nat} {t : Tg} {w : World} (h : TgIn d t w) : ExsIn d t.cond.A t.cond.n t.cond.l w ∧ AcsIn d t.acts.A t.acts.n t.acts.l w := ⟨h.2.2.2.2.1, h.2.2.2.2.2⟩
set_option maxRecDepth 100000 in
set_option maxHeartbeats 4000000 in
theorem row0_any (w : World) (t : Tg) (h : ¬ (t.before = true ∧ t.each = true)) :
  Calls Tryz.prog 143 #[t.val] w fun e w' => e = .returned (.tuple #[.slice none 0 0, .slice none 0 0]) ∧ Below w.heap.size w w' := by
 obtain ⟨tname, ttab, tbef, tev, ⟨cA, cn, cc, cl⟩, teach, ⟨pA, pn, pc, pl⟩, ⟨fA, fn, fc, fl⟩, ⟨kA, kn, kc, kl⟩, ⟨oA, on, oc, ol⟩, ⟨uA, un, uc, ul⟩⟩ := t
 simp only [Tg.val] at h ⊢
 have K0 := (Hold.begin_ w).alloc_cst #[.string tname, .string ttab, .bool tbef, .int .i64 tev, .slice cA cn cc, .bool teach, .slice pA pn pc, .slice fA fn fc, .slice kA kn kc, .slice oA on oc, .slice uA un uc] 40
 have F0 := K0.facts
 simp only [factsL, cellsF, Nat.reduceAdd, zf, zl] at F0
 have HB := hid K0.below
 clear K0
 go_enter Tryz.func143, Tryz.ntmps143
 cases tbef <;> cases teach
 all_goals first
  | (exfalso; exact h ⟨rfl, rfl⟩)
  | (clear h; go_wp2_with fail; refine bodyPost_ret (results_tmp2 rfl _ _ _) rfl ?_; exact ⟨rfl, HB.out⟩)
set_option maxRecDepth 100000 in
set_option maxHeartbeats 8000000 in
theorem row1_any (M : Nat → Prop) (w : World) (hM : ∀ b, M b → b < w.heap.size) (t : Tg) (d : Nat) (ha : Ro w M (TgIn d t)) (hn : t.acts.n ≤ 9223372036854775807) (hs : (setsOf t.acts.l).length ≤ 549755813888) (hw : tgW d t ≤ 4398046511104) (hb : t.before = true) (he : t.each = true) :
  Calls Tryz.prog 143 #[t.val] w fun e w' => ∃ (B C : Option Addr) (m c k c2 : Nat) (xs : List ByteArray), e = .returned (.tuple #[.slice B m c, .slice C k c2]) ∧ k ≤ 549755813888 ∧ Ro w' M (StrsIn C k xs) ∧ (∀ s, s ∈ xs ↔ s ∈ setCols t) ∧ Below w.heap.size w w' := by
 obtain ⟨hC, hA⟩ := ha.now.parts
 have HSC := hid (setsOf_cols t)
 generalize setCols t = SC at *
 obtain ⟨tname, ttab, tbef, tev, ⟨cA, cn, cc, cl⟩, teach, ⟨pA, pn, pc, pl⟩, ⟨fA, fn, fc, fl⟩, ⟨kA, kn, kc, kl⟩, ⟨oA, on, oc, ol⟩, ⟨uA, un, uc, ul⟩⟩ := t
 simp only [Tg.val, tgW] at hb he hn hs hw hC hA HSC ⊢
 subst hb
 subst he
 have HL := hid hA.len
 have HW := hid hw
 have HS := hid hs
 clear hC hA hw hs
 have K0 := ((Hold.start M w hM).add (ha.less (by simp [Mut]))).alloc_cst #[.string tname, .string ttab, .bool true, .int .i64 tev, .slice cA cn cc, .bool true, .slice pA pn pc, .slice fA fn fc, .slice kA kn kc, .slice oA on oc, .slice uA un uc] 40
 have K1 := (K0.alloc #[.slice none 0 0] 35).nil 9 1
 simp only [World.size_alloc] at K1
 have H0 : NmSt M none w _ (w.heap.size + 1) 0 [.cst w.heap.size 40 #[.string tname, .string ttab, .bool true, .int .i64 tev, .slice cA cn cc, .bool true, .slice pA pn pc, .slice fA fn fc, .slice kA kn kc, .slice oA on oc, .slice uA un uc], .ro (TgIn d ⟨tname, ttab, true, tev, ⟨cA, cn, cc, cl⟩, true, ⟨pA, pn, pc, pl⟩, ⟨fA, fn, fc, fl⟩, ⟨kA, kn, kc, kl⟩, ⟨oA, on, oc, ol⟩, ⟨uA, un, uc, ul⟩⟩)] := ⟨none, 0, 0, [], Nat.le_refl _, K1.perm (List.Perm.swap _ _ _)⟩
 have H1 := H0.addRo 1 (S' := ExsIn d oA on ol) rfl (fun w2 h2 => h2.parts.1)
 have F1 := K1.facts
 simp only [factsL, cellsF, Nat.reduceAdd, zf, zl] at F1
 clear ha K0 K1 H0
 obtain ⟨g, hg⟩ : ∃ g, g = w.heap.size + 1 := ⟨_, rfl⟩
 go_enter Tryz.func143, Tryz.ntmps143
 go_wp2_with fail
 rw [← hg] at H1 ⊢
 have HG := hid hg
 clear hg
 refine (visitAll_any _ _ _ _ _ _ _ _ _ _ _ _ H1 (by have := HW.out; omega)).mono ?_
 rintro e w1 ⟨⟨vb, rfl⟩, H2⟩
 have H3 := H2.addRo 2 (S' := AcsIn d uA un ul) rfl (fun w2 h2 => h2.parts.2)
 have H4 := H3.drop (L' := [.ro (AcsIn d uA un ul), .cst w.heap.size 40 #[.string tname, .string ttab, .bool true, .int .i64 tev, .slice cA cn cc, .bool true, .slice pA pn pc, .slice fA fn fc, .slice kA kn kc, .slice oA on oc, .slice uA un uc], .ro (TgIn d ⟨tname, ttab, true, tev, ⟨cA, cn, cc, cl⟩, true, ⟨pA, pn, pc, pl⟩, ⟨fA, fn, fc, fl⟩, ⟨kA, kn, kc, kl⟩, ⟨oA, on, oc, ol⟩, ⟨uA, un, uc, ul⟩⟩)]) (List.Sublist.cons_cons _ (List.Sublist.cons _ (List.Sublist.refl _)))
 clear H1 H2 H3 F1
 have F4 := (H4.drop (L' := [_, _, _]) (List.Sublist.cons_cons _ (List.Sublist.cons_cons _ (List.Sublist.cons_cons _ (List.nil_sublist _))))).factsL
 simp only [factsL, cellsF, Nat.reduceAdd, zf, zl] at F4
 go_wp2_with fail
 clear F4
 go_loopw [27] (fun iv wr => ∃ (j : Nat), j ≤ un ∧ iv = .int .i64 j ∧ NmSt M none w wr g (0 + exsW d ol + acsW d (ul.take j)) [.ro (AcsIn d uA un ul), .cst w.heap.size 40 #[.string tname, .string ttab, .bool true, .int .i64 tev, .slice cA cn cc, .bool true, .slice pA pn pc, .slice fA fn fc, .slice kA kn kc, .slice oA on oc, .slice uA un uc], .ro (TgIn d ⟨tname, ttab, true, tev, ⟨cA, cn, cc, cl⟩, true, ⟨pA, pn, pc, pl⟩, ⟨fA, fn, fc, fl⟩, ⟨kA, kn, kc, kl⟩, ⟨oA, on, oc, ol⟩, ⟨uA, un, uc, ul⟩⟩)]) (fun iv _ => un - (intOf iv).toNat)
 case atStart => exact ⟨0, by omega, rfl, H4⟩
 case round =>
  clear H4
  obtain ⟨j, hj, rfl, H⟩ := hrel
  by_cases hlt : j < un
  ·obtain ⟨⟨ak, atab, ⟨arA, arn, arc, arl⟩, ⟨aqA, aqn, aqc, aql⟩, ⟨asA, asn, asc, asl⟩, ⟨awA, awn, awc, awl⟩, atext⟩, hc⟩ := get_any HL.out hlt
   obtain ⟨b, o, rfl, hb, hcl, -⟩ := (H.ro 0 rfl).at_ hc
   have c0 := hcl 0 _ (by omega) rfl
   have c1 := hcl 1 _ (by omega) rfl
   have c2 := hcl 2 _ (by omega) rfl
   have c3 := hcl 3 _ (by omega) rfl
   have c4 := hcl 4 _ (by omega) rfl
   have c5 := hcl 5 _ (by omega) rfl
   have c6 := hcl 6 _ (by omega) rfl
   simp only [Nat.add_zero] at c0
   clear hcl
   simp only [SlP.v] at c2 c3 c4 c5
   have HSS := hid (show acsW d (ul.take (j + 1)) = acsW d (ul.take j) + acW d ⟨ak, atab, ⟨arA, arn, arc, arl⟩, ⟨aqA, aqn, aqc, aql⟩, ⟨asA, asn, asc, asl⟩, ⟨awA, awn, awc, awl⟩, atext⟩ from sum_take hc)
   have HT := hid (show acsW d (ul.take (j + 1)) ≤ acsW d ul from sum_take_le ul (j + 1))
   have HM := hid (List.mem_of_getElem? hc)
   clear hc
   have H1 := H.cst #[.int .i64 ak, .string atab, .slice arA arn arc, .slice aqA aqn aqc, .slice asA asn asc, .slice awA awn awc, .string atext] 97
   have H5 := H1.addRo 1 (S' := AcIn d ⟨ak, atab, ⟨arA, arn, arc, arl⟩, ⟨aqA, aqn, aqc, aql⟩, ⟨asA, asn, asc, asl⟩, ⟨awA, awn, awc, awl⟩, atext⟩) rfl (fun w2 h2 => h2.2 _ HM.out)
   have F5 := (H5.drop (L' := [_, _]) (List.Sublist.cons_cons _ (List.Sublist.cons_cons _ (List.nil_sublist _)))).factsL
   simp only [factsL, cellsF, Nat.reduceAdd, zf, zl] at F5
   clear H H1
   have hce := visit_any _ _ _ _ _ _ _ _ ⟨ak, atab, ⟨arA, arn, arc, arl⟩, ⟨aqA, aqn, aqc, aql⟩, ⟨asA, asn, asc, asl⟩, ⟨awA, awn, awc, awl⟩, atext⟩ H5 (by have := HW.out; have := HSS.out; have := HT.out; omega)
   simp only [Ac.val] at hce
   go_wp2_with fail
   refine hce.mono ?_
   rintro e w2 ⟨⟨vb2, rfl⟩, H6⟩
   clear H5 F5 hce
   go_wp2_with fail
   go_roundw
   case rel => exact ⟨j + 1, by omega, by go_num, (H6.drop (List.Sublist.cons _ (List.Sublist.cons _ (List.Sublist.refl _)))).le (by have := HSS.out; omega)⟩
   case measure => simp [intOf]; omega
  ·obtain rfl : un = j := by omega
   rw [List.take_of_length_le (by rw [HL.out]; exact Nat.le_refl _)] at H
   obtain ⟨B, m, c, xs, hm, K2⟩ := H
   have HMM := hid hm
   clear hm
   have F2 := K2.facts
   simp only [factsL, cellsF, Nat.reduceAdd, zf, zl] at F2
   have hce := fsets_any _ _ K2.mutLt ⟨tname, ttab, true, tev, ⟨cA, cn, cc, cl⟩, true, ⟨pA, pn, pc, pl⟩, ⟨fA, fn, fc, fl⟩, ⟨kA, kn, kc, kl⟩, ⟨oA, on, oc, ol⟩, ⟨uA, un, uc, ul⟩⟩ d (K2.ro 2 rfl) hn HS.out
   simp only [Tg.val] at hce
   go_wp2_with fail
   refine hce.mono ?_
   rintro e w3 ⟨A3, n3, c3, rfl, hn3, r3, b3⟩
   have K3 := ((K2.call b3).add r3).nil 9 1
   clear K2 F2 hce b3 r3
   have HSO := hid (show (setsOf ul).map Se.col = SC from HSC.out)
   try simp only at K3
   generalize setsOf ul = SS at *
   have HL3 := hid (K3.ro 1 rfl).now.len
   have HML : m ≤ 4398046511104 := by have := HMM.out; have := HW.out; omega
   go_wp2_with fail
   go_loopw [5, 38] (fun ov iv wr => ∃ (k cap : Nat) (O : Option Addr), k ≤ n3 ∧ iv = .int .i64 k ∧ ov = .slice O k cap ∧ Hold M none w wr [.own 9 1 (.slice O k cap) k (strsCells ((SS.take k).map Se.col)), .ro (SesIn d A3 n3 SS), .blk g 35 #[.slice B m c], .own 9 1 (.slice B m c) m (strsCells xs), .ro (AcsIn d uA un ul), .cst w.heap.size 40 #[.string tname, .string ttab, .bool true, .int .i64 tev, .slice cA cn cc, .bool true, .slice pA pn pc, .slice fA fn fc, .slice kA kn kc, .slice oA on oc, .slice uA un uc], .ro (TgIn d ⟨tname, ttab, true, tev, ⟨cA, cn, cc, cl⟩, true, ⟨pA, pn, pc, pl⟩, ⟨fA, fn, fc, fl⟩, ⟨kA, kn, kc, kl⟩, ⟨oA, on, oc, ol⟩, ⟨uA, un, uc, ul⟩⟩)]) (fun _ i _ => n3 - (intOf i).toNat)
   case atStart => exact ⟨0, 0, none, by omega, rfl, rfl, K3⟩
   case round =>
    clear K3
    obtain ⟨k, cap, O, hk, rfl, rfl, H⟩ := hrel
    by_cases hlt3 : k < n3
    ·obtain ⟨⟨xcol, ⟨xk, xop, xnt, ⟨xvk, xvi, xvs⟩, xtab, xnm, xA, xn, xc, xargs, xB, xm, xd, xsub⟩⟩, hc⟩ := get_any HL3.out hlt3
     obtain ⟨b, o, rfl, hb, hcl, -⟩ := (H.ro 1 rfl).now.at_ hc
     have c0 := hcl 0 _ (by omega) rfl
     have c1 := hcl 1 _ (by omega) rfl
     have c2 := hcl 2 _ (by omega) rfl
     have c3 := hcl 3 _ (by omega) rfl
     have c4 := hcl 4 _ (by omega) rfl
     have c5 := hcl 5 _ (by omega) rfl
     have c6 := hcl 6 _ (by omega) rfl
     have c7 := hcl 7 _ (by omega) rfl
     have c8 := hcl 8 _ (by omega) rfl
     have c9 := hcl 9 _ (by omega) rfl
     have c10 := hcl 10 _ (by omega) rfl
     simp only [Nat.add_zero] at c0
     clear hcl
     have HCE := hid (show strsCells ((SS.take k).map Se.col) ++ (#[Value.string xcol]).toList = strsCells ((SS.take (k + 1)).map Se.col) by rw [List.take_add_one, hc]; simp [strsCells])
     clear hc
     have K1 := H.alloc_cst #[.string xcol, .int .i64 xk, .int .i64 xop, .bool xnt, .int .i64 xvk, .int .i64 xvi, .string xvs, .string xtab, .string xnm, .slice xA xn xc, .slice xB xm xd] 128
     have F1 := K1.facts
     simp only [factsL, cellsF, Nat.reduceAdd, zf, zl] at F1
     clear H
     go_wp2_with (at_builtin; go_must (refine wpList_appH K1 1 rfl Tryz.elSt #[.string xcol] rfl (.tmp 42) (.tmp 45) rfl rfl _ (by first | rfl | simp) rfl rfl (by intro u hu; simp at hu; rcases hu with rfl; rfl) (by omega) (by omega) ?_); intro g9 cap9 w9 hc9 hm9 KB; rw [HCE.out] at KB; simp only [zl] at KB)
     go_roundw
     case rel => exact ⟨k + 1, cap9, _, by omega, by go_num, by first | rfl | trivial, KB.drop (List.sublist_cons_self _ _)⟩
     case measure => simp [intOf]; omega
    ·obtain rfl : n3 = k := by omega
     rw [List.take_of_length_le (by rw [HL3.out]; exact Nat.le_refl _), HSO.out] at H
     have F := H.facts
     simp only [factsL, cellsF, Nat.reduceAdd, zf, zl] at F
     go_wp2_with fail
     refine (sortS_any H 3 rfl (by omega)).mono ?_
     rintro e w4 ⟨rfl, ys, hys, K4⟩
     simp only [zl] at K4
     clear H F
     have F4 := K4.facts
     simp only [factsL, cellsF, Nat.reduceAdd, zf, zl] at F4
     go_wp2_with fail
     refine (sortS_any K4 0 rfl (by omega)).mono ?_
     rintro e w5 ⟨rfl, zs, hzs, K5⟩
     simp only [zl] at K5
     clear K4 F4
     have F5 := K5.facts
     simp only [factsL, cellsF, Nat.reduceAdd, zf, zl] at F5
     have HZ := hid (fun s : ByteArray => hzs.mem_iff (a := s))
     clear hzs hys
     go_wp2_with fail
     refine (compS_any K5 3 rfl (by omega)).mono ?_
     rintro e w6 ⟨q6, ys6, rfl, hq6, -, K6⟩
     simp only [zl] at K6
     clear K5 F5
     go_wp2_with fail
     refine (compS_any K6 0 rfl (by omega)).mono ?_
     rintro e w7 ⟨q7, zs7, rfl, hq7, hz7, K7⟩
     simp only [zl] at K7
     have HZ7 := hid hz7
     clear K6 hz7
     go_wp2_with fail
     refine bodyPost_ret (results_tmp2 rfl _ _ _) rfl ?_
     have K8 := K7.sealRow 0 rfl
     simp only [List.set_cons_zero] at K8
     exact ⟨_, _, _, _, _, _, zs7, rfl, by omega, (K8.ro 0 rfl).less (fun b hb => .inl hb), fun s => (HZ7.out s).trans (HZ.out s), K7.below⟩
end Go.Proofs.YtnbbllkbefagmaaGreatDoor

namespace Go.Proofs.YtnbbllkbefagmaaGreatDoor
open Go.RowKit
set_option linter.unusedVariables false
set_option linter.unusedSimpArgs false

/-- a trigger within the limits that the contracts ask -/
structure TgFit (d : Nat) (t : Tg) : Prop where
 n : t.acts.n ≤ 4611686018427387904
 s : (setsOf t.acts.l).length ≤ 549755813888
 w : tgW d t ≤ 4398046511104
 a : ∀ a ∈ t.acts.l, a.sets.n ≤ 1000000 ∧ a.wh.n ≤ 9223372036854775807
 r : t.rank.n ≤ 9223372036854775807
def RowR (w : World) (M : Nat → Prop) (t : Tg) (e : Ending) (w' : World) : Prop := ∃ (B C : Option Addr) (m c k c2 : Nat) (xs : List ByteArray), e = .returned (.tuple #[.slice B m c, .slice C k c2]) ∧ k ≤ 549755813888 ∧ Ro w' M (StrsIn C k xs) ∧ (∀ s, s ∈ xs ↔ (t.before = true ∧ t.each = true ∧ s ∈ setCols t)) ∧ Below w.heap.size w w'
theorem row_any (M : Nat → Prop) (w : World) (hM : ∀ b, M b → b < w.heap.size) (t : Tg) (d : Nat) (ha : Ro w M (TgIn d t)) (h : TgFit d t) : Calls Tryz.prog 143 #[t.val] w fun e w' => RowR w M t e w' := by
 by_cases hb : t.before = true ∧ t.each = true
 ·refine (row1_any M w hM t d ha (by have := h.n; omega) h.s h.w hb.1 hb.2).mono ?_
  rintro e w' ⟨B, C, m, c, k, c2, xs, h1, h2, h3, h4, h5⟩
  exact ⟨B, C, m, c, k, c2, xs, h1, h2, h3, fun s => by rw [h4]; simp [hb.1, hb.2], h5⟩
 ·refine (row0_any w t hb).mono ?_
  rintro e w' ⟨h1, h2⟩
  exact ⟨none, none, 0, 0, 0, 0, [], h1, by omega, fun _ _ _ => slr_nil 1 _, fun s => ⟨fun hh => (nomatch hh), fun hh => absurd ⟨hh.1, hh.2.1⟩ hb⟩, h2⟩
end Go.Proofs.YtnbbllkbefagmaaGreatDoor

namespace Go.Proofs.YtnbbllkbefagmaaGreatDoor
open Go.RowKit
set_option linter.unusedVariables false
set_option linter.unusedSimpArgs false
def bW : Nat → Nat
 | 0 => 1
 | d + 1 => 2 + 12 * bW d
theorem sum_leW {α : Type} {f : α → Nat} {b k : Nat} {l : List α} (h : ∀ x ∈ l, f x ≤ b) (hk : l.length ≤ k) : (l.map f).sum ≤ k * b := by
 have h1 : (l.map f).sum ≤ l.length * b := by
  clear hk
  induction l with
  | nil => simp
  | cons x l ih =>
   have h2 := h x (List.mem_cons_self ..)
   have h3 := ih fun y hy => h y (List.mem_cons_of_mem _ hy)
   rw [List.map_cons, List.sum_cons, List.length_cons, Nat.succ_mul]
   omega
 exact Nat.le_trans h1 (Nat.mul_le_mul_right _ hk)
theorem exW_gd : ∀ {d : Nat} {e : Ex}, ExGd d e → exW d e ≤ bW d
 | 0, _, h => h.elim
 | d + 1, e, ⟨_, h4, h2, h3⟩ => by
  rw [exW_succ]
  have a1 : exsW d e.args ≤ 3 * bW d := sum_leW (fun x hx => exW_gd (h2 x hx)) h4.2.1
  have a2 : qusW d e.sub ≤ 1 * (1 + 9 * bW d) := sum_leW (fun q hq => by
   have b1 : exsW d q.items ≤ 8 * bW d := sum_leW (fun x hx => exW_gd ((h3 q hq).2.2.1 x hx)) (h3 q hq).2.1.1
   have b2 : exsW d q.wh ≤ 1 * bW d := sum_leW (fun x hx => exW_gd ((h3 q hq).2.2.2 x hx)) (h3 q hq).2.1.2
   unfold quW
   omega) h4.2.2
  unfold bW
  omega
theorem acW_gd {d : Nat} {a : Ac} (h : AcGd d a) : acW d a ≤ 18 + 82 * bW d := by
 have a1 : rrW d a.rows.l ≤ 8 * (1 + 8 * bW d) := sum_leW (fun r hr => by
  have b1 : exsW d r.l ≤ 8 * bW d := sum_leW (fun x hx => exW_gd ((h.r.2.2 r hr).2.2 x hx)) (h.r.2.2 r hr).2.1
  omega) h.r.2.1
 have a2 : sesW d a.sets.l ≤ 8 * (1 + bW d) := sum_leW (fun s hs => by
  have := exW_gd (h.s.2.2 s hs)
  omega) h.s.2.1
 have a3 : qusW d a.qs.l ≤ 1 * (1 + 9 * bW d) := sum_leW (fun q hq => by
  have b1 : exsW d q.items ≤ 8 * bW d := sum_leW (fun x hx => exW_gd ((h.q.2.2 q hq).2.2.1 x hx)) (h.q.2.2 q hq).2.1.1
  have b2 : exsW d q.wh ≤ 1 * bW d := sum_leW (fun x hx => exW_gd ((h.q.2.2 q hq).2.2.2 x hx)) (h.q.2.2 q hq).2.1.2
  unfold quW
  omega) h.q.2.1
 have a4 : exsW d a.wh.l ≤ 1 * bW d := sum_leW (fun x hx => exW_gd (h.h.2.2 x hx)) h.h.2.1
 unfold acW
 omega
theorem tgW_gd {d : Nat} {t : Tg} (h : TgGd d t) : tgW d t ≤ 72 + 329 * bW d := by
 have a1 : exsW d t.cond.l ≤ 1 * bW d := sum_leW (fun x hx => exW_gd (h.h.2.2 x hx)) h.h.2.1
 have a2 : acsW d t.acts.l ≤ 4 * (18 + 82 * bW d) := sum_leW (fun a ha => acW_gd (h.a.2.2 a ha)) h.a.2.1
 unfold tgW
 omega
theorem setsOf_gd {d : Nat} : ∀ {l : List Ac}, (∀ a ∈ l, AcGd d a) → (setsOf l).length ≤ l.length * 8
 | [], _ => Nat.zero_le _
 | a :: l, h => by
  have ih := setsOf_gd (l := l) fun x hx => h x (List.mem_cons_of_mem _ hx)
  have h1 := (h a (List.mem_cons_self ..)).s.2.1
  unfold setsOf at *
  rw [List.flatMap_cons, List.length_append, List.length_cons]
  split
  ·omega
  ·simp only [List.length_nil]; omega
theorem AcIn.lens {d : Nat} {a : Ac} {w : World} (h : AcIn d a w) : a.sets.l.length = a.sets.n ∧ a.wh.l.length = a.wh.n :=
 ⟨SlP.In.len h.2.2.1 (by omega) (fun _ => rfl), SlP.In.len h.2.2.2 (by omega) (fun _ => rfl)⟩
theorem fit_gd {t : Tg} {w : World} (hi : TgIn 5 t w) (h : TgGd 5 t) : TgFit 5 t := by
 have n1 : t.acts.l.length = t.acts.n := SlP.In.len hi.2.2.2.2.2 (by omega) (fun _ => rfl)
 have n2 : t.rank.l.length = t.rank.n := SlP.In.len hi.2.2.2.1 (by omega) (fun _ => rfl)
 have h1 := h.a.2.1
 have h2 := h.r.2.1
 have h3 := setsOf_gd h.a.2.2
 have h4 := tgW_gd h
 have h5 : bW 5 = 294074 := rfl
 refine ⟨by omega, by omega, by rw [h5] at h4; omega, fun a ha => ?_, by omega⟩
 have m1 := ((hi.2.2.2.2.2).2 a ha).lens
 have m2 := (h.a.2.2 a ha).s.2.1
 have m3 := (h.a.2.2 a ha).h.2.1
 omega
end Go.Proofs.YtnbbllkbefagmaaGreatDoor

namespace Go.Proofs.YtnbbllkbefagmaaGreatDoor
open Go.RowKit
set_option linter.unusedVariables false
set_option linter.unusedSimpArgs false

set_option maxRecDepth 100000 in
set_option maxHeartbeats 2000000 in
theorem assigned_any (M : Nat → Prop) (w : World) (hM : ∀ b, M b → b < w.heap.size) (a : Ac) (d : Nat) (ha : Ro w M (AcIn d a)) (hn : a.sets.n ≤ 1000000) : Calls Tryz.prog 175 #[a.val] w fun e w' => OwnStrs w (assignedA a) e w' := by
 have hD : Ro w M (SesIn d a.sets.A a.sets.n a.sets.l) := ha.imp fun w2 h2 => h2.2.2.1
 obtain ⟨ak, atab, ⟨arA, arn, arc, arl⟩, ⟨aqA, aqn, aqc, aql⟩, ⟨asA, asn, asc, asl⟩, ⟨awA, awn, awc, awl⟩, atext⟩ := a
 simp only [Ac.val, assignedA] at hD hn ⊢
 clear ha
 by_cases hk : ak = 2
 ·subst hk
  rw [if_pos rfl]
  have HL := hid hD.now.len
  have K0 := (((Hold.start M w hM).add (hD.less (by simp [Mut]))).alloc_cst #[.int .i64 2, .string atab, .slice arA arn arc, .slice aqA aqn aqc, .slice asA asn asc, .slice awA awn awc, .string atext] 97)
  have KN := K0.nil 9 1
  have F0 := K0.facts
  simp only [factsL, cellsF, Nat.reduceAdd, zf, zl] at F0
  go_enter Tryz.func175, Tryz.ntmps175
  go_wp2_with fail
  clear F0 K0
  go_loopw [3, 12] (fun ov iv wr => ∃ (k cap : Nat) (O : Option Addr), k ≤ asn ∧ iv = .int .i64 k ∧ ov = .slice O k cap ∧ Hold M none w wr [.own 9 1 (.slice O k cap) k (strsCells ((asl.take k).map Se.col)), .cst w.heap.size 97 #[.int .i64 2, .string atab, .slice arA arn arc, .slice aqA aqn aqc, .slice asA asn asc, .slice awA awn awc, .string atext], .ro (SesIn d asA asn asl)]) (fun _ i _ => asn - (intOf i).toNat)
  case atStart => exact ⟨0, 0, none, by omega, rfl, rfl, KN⟩
  case round =>
   clear KN
   obtain ⟨k, cap, O, hk, rfl, rfl, H⟩ := hrel
   by_cases hlt : k < asn
   ·obtain ⟨⟨xcol, ⟨xk, xop, xnt, ⟨xvk, xvi, xvs⟩, xtab, xnm, xA, xn, xc, xargs, xB, xm, xd, xsub⟩⟩, hc⟩ := get_any HL.out hlt
    obtain ⟨b, o, rfl, hb, hcl, -⟩ := (H.ro 2 rfl).now.at_ hc
    have c0 := hcl 0 _ (by omega) rfl
    have c1 := hcl 1 _ (by omega) rfl
    have c2 := hcl 2 _ (by omega) rfl
    have c3 := hcl 3 _ (by omega) rfl
    have c4 := hcl 4 _ (by omega) rfl
    have c5 := hcl 5 _ (by omega) rfl
    have c6 := hcl 6 _ (by omega) rfl
    have c7 := hcl 7 _ (by omega) rfl
    have c8 := hcl 8 _ (by omega) rfl
    have c9 := hcl 9 _ (by omega) rfl
    have c10 := hcl 10 _ (by omega) rfl
    simp only [Nat.add_zero] at c0
    clear hcl
    have HCE := hid (show strsCells ((asl.take k).map Se.col) ++ (#[Value.string xcol]).toList = strsCells ((asl.take (k + 1)).map Se.col) by rw [List.take_add_one, hc]; simp [strsCells])
    clear hc
    have K1 := H.alloc_cst #[.string xcol, .int .i64 xk, .int .i64 xop, .bool xnt, .int .i64 xvk, .int .i64 xvi, .string xvs, .string xtab, .string xnm, .slice xA xn xc, .slice xB xm xd] 128
    have F1 := K1.facts
    simp only [factsL, cellsF, Nat.reduceAdd, zf, zl] at F1
    clear H
    go_wp2_with (at_builtin; go_must (refine wpList_appH K1 1 rfl Tryz.elSt #[.string xcol] rfl (.tmp 16) (.tmp 19) rfl rfl _ (by first | rfl | simp) rfl rfl (by intro u hu; simp at hu; rcases hu with rfl; rfl) (by omega) (by omega) ?_); intro g9 cap9 w9 hc9 hm9 KB; rw [HCE.out] at KB; simp only [zl] at KB)
    go_roundw
    case rel => exact ⟨k + 1, cap9, _, by omega, by go_num, by first | rfl | trivial, KB.drop (List.sublist_cons_self _ _)⟩
    case measure => simp [intOf]; omega
   ·obtain rfl : asn = k := by omega
    rw [List.take_of_length_le (by rw [HL.out]; exact Nat.le_refl _)] at H
    have F := H.facts
    simp only [factsL, cellsF, Nat.reduceAdd, zf, zl] at F
    go_wp2_with fail
    go_ret
    exact ⟨O, asn, cap, by first | rfl | simp, by rw [List.length_map]; exact HL.out.symm, H.get 0 rfl, H.below⟩
 ·rw [if_neg hk]
  have K0 := (Hold.begin_ w).alloc_cst #[.int .i64 ak, .string atab, .slice arA arn arc, .slice aqA aqn aqc, .slice asA asn asc, .slice awA awn awc, .string atext] 97
  have F0 := K0.facts
  simp only [factsL, cellsF, Nat.reduceAdd, zf, zl] at F0
  have HB := hid K0.below
  clear K0
  go_enter Tryz.func175, Tryz.ntmps175
  go_wp2_with fail
  all_goals first
   | (exfalso; omega)
   | (go_ret; exact ⟨none, 0, 0, rfl, rfl, World.ownsRow_nil _ _ _ _, HB.out⟩)
end Go.Proofs.YtnbbllkbefagmaaGreatDoor

namespace Go.Proofs.YtnbbllkbefagmaaGreatDoor
open Go.RowKit
set_option linter.unusedVariables false
set_option linter.unusedSimpArgs false
theorem chg_mem {l ts : List Tg} {a : Ac} (h : l.map kTg = (ts.filter (appT a.tab (assignedA a))).map kTg) (s : ByteArray) : (s ∈ assignedA a ∨ ∃ y ∈ l, y.before = true ∧ y.each = true ∧ s ∈ setCols y) ↔ chgT ts a s = true := by
 unfold chgT
 rw [Bool.or_eq_true, hasB_iff, List.any_eq_true]
 refine or_congr Iff.rfl ⟨?_, ?_⟩
 ·rintro ⟨y, hy, h1, h2, h3⟩
  have h4 : kTg y ∈ (ts.filter (appT a.tab (assignedA a))).map kTg := by rw [← h]; exact List.mem_map_of_mem hy
  obtain ⟨t, ht, e⟩ := List.mem_map.1 h4
  obtain ⟨h5, h6⟩ := List.mem_filter.1 ht
  have e3 : setCols t = setCols y := congrArg (fun x => x.2.2) e
  exact ⟨t, h5, by rw [h6, e3, Bool.true_and, hasB_iff]; exact h3⟩
 ·rintro ⟨t, ht, hx⟩
  rw [Bool.and_eq_true, hasB_iff] at hx
  have h4 : kTg t ∈ l.map kTg := by rw [h]; exact List.mem_map_of_mem (List.mem_filter.2 ⟨ht, hx.1⟩)
  obtain ⟨y, hy, e⟩ := List.mem_map.1 h4
  have e1 : y.before = t.before := congrArg (fun x => x.1) e
  have e2 : y.each = t.each := congrArg (fun x => x.2.1) e
  have e3 : setCols y = setCols t := congrArg (fun x => x.2.2) e
  have ha := hx.1
  unfold appT at ha
  simp only [Bool.and_eq_true] at ha
  exact ⟨y, hy, by rw [e1]; exact ha.1.1.1.1, by rw [e2]; exact ha.1.2, by rw [e3]; exact hx.2⟩
theorem chg_step {l : List Tg} {j : Nat} {y : Tg} {sa xs zs : List ByteArray} (h : ∀ s, s ∈ xs ↔ s ∈ sa ∨ ∃ y ∈ l.take j, y.before = true ∧ y.each = true ∧ s ∈ setCols y) (hy : l[j]? = some y) (hz : ∀ s, s ∈ zs ↔ (y.before = true ∧ y.each = true ∧ s ∈ setCols y)) : ∀ s, s ∈ xs ++ zs ↔ s ∈ sa ∨ ∃ y ∈ l.take (j + 1), y.before = true ∧ y.each = true ∧ s ∈ setCols y := by
 intro s
 rw [List.mem_append, h, hz, take_nx hy, or_assoc]
 refine or_congr Iff.rfl ⟨?_, ?_⟩
 ·rintro (⟨x, hx, h1⟩ | h1)
  ·exact ⟨x, List.mem_append.2 (.inl hx), h1⟩
  ·exact ⟨y, List.mem_append.2 (.inr (List.mem_singleton.2 rfl)), h1⟩
 ·rintro ⟨x, hx, h1⟩
  rcases List.mem_append.1 hx with hx | hx
  ·exact .inl ⟨x, hx, h1⟩
  ·rw [List.mem_singleton] at hx; subst hx; exact .inr h1
def ChgR (w : World) (M : Nat → Prop) (ts : List Tg) (a : Ac) (e : Ending) (w' : World) : Prop := ∃ (B : Option Addr) (m q : Nat) (xs : List ByteArray), e = .returned (.slice B m q) ∧ m ≤ 9223372036854775807 ∧ Ro w' M (StrsIn B m xs) ∧ (∀ s, s ∈ xs ↔ chgT ts a s = true) ∧ Below w.heap.size w w'
set_option maxHeartbeats 8000000 in
set_option maxRecDepth 100000 in
theorem changed_any (M : Nat → Prop) (w : World) (hM : ∀ b, M b → b < w.heap.size) (a : Ac) (A : Option Addr) (n c : Nat) (ts : List Tg) (ha : Ro w M (AcIn 5 a)) (hT : Ro w M (TgsIn 5 A n ts)) (hn : n ≤ 8) (hG : ∀ t ∈ ts, TgEd t) (hs : a.sets.l.length ≤ 8) : Calls Tryz.prog 116 #[a.val, .slice A n c] w fun e w' => ChgR w M ts a e w' := by
 have HG := hid hG
 have hsn : a.sets.n ≤ 8 := by have := ha.now.lens.1; omega
 have HAL := hid (show (assignedA a).length ≤ 8 from by unfold assignedA; split <;> simp; exact hs)
 have HCM := hid (fun l h => chg_mem (l := l) (ts := ts) (a := a) h)
 obtain ⟨ak, atab, ⟨arA, arn, arc, arl⟩, ⟨aqA, aqn, aqc, aql⟩, ⟨asA, asn, asc, asl⟩, ⟨awA, awn, awc, awl⟩, atext⟩ := a
 have K0 := (((Hold.start M w hM).add (hT.less (by simp [Mut]))).add (ha.less (by simp [Mut, Hp.foot]))).alloc_cst #[.int .i64 ak, .string atab, .slice arA arn arc, .slice aqA aqn aqc, .slice asA asn asc, .slice awA awn awc, .string atext] 97
 clear hT ha hG
 obtain ⟨g2, hg2⟩ : ∃ g, g = w.heap.size := ⟨_, rfl⟩
 rw [← hg2] at K0
 have hc2 := assigned_any (Mut M _) _ K0.mutLt ⟨ak, atab, ⟨arA, arn, arc, arl⟩, ⟨aqA, aqn, aqc, aql⟩, ⟨asA, asn, asc, asl⟩, ⟨awA, awn, awc, awl⟩, atext⟩ 5 (K0.ro 1 rfl) (by simp only at hsn ⊢; omega)
 simp only [Ac.val] at hc2 ⊢
 go_enter Tryz.func116, Tryz.ntmps116
 go_upto_region 1 with fail
 rw [← hg2]
 have HG2 := hid hg2
 clear hg2
 generalize World.alloc _ _ = w1 at K0 hc2 ⊢
 have F0 := K0.facts
 simp only [factsL, cellsF, Nat.reduceAdd, zf, zl] at F0
 go_wp2_with fail
 refine hc2.mono ?_
 rintro e w2 ⟨A1, n1, c1, rfl, hl1, ho1, b1⟩
 have HL1 := hid hl1
 have K1 := K0.callOwn b1 ho1
 have hS := ((K1.sealRow 0 rfl).ro 0 rfl).less (M' := None_) zn
 generalize hSA : assignedA ⟨ak, atab, ⟨arA, arn, arc, arl⟩, ⟨aqA, aqn, aqc, aql⟩, ⟨asA, asn, asc, asl⟩, ⟨awA, awn, awc, awl⟩, atext⟩ = SA at *
 clear K0 F0 hl1 ho1 b1 hc2
 have HSA := hid hSA
 clear hSA
 have F1 := K1.facts
 simp only [factsL, cellsF, Nat.reduceAdd, zf, zl] at F1
 go_wp2_with fail
 refine (applic_any (Mut M _) _ K1.mutLt A n c ts atab A1 n1 c1 SA (K1.ro 3 rfl) hS hn (by have := HAL.out; have := HL1.out; omega) HG.out).mono ?_
 rintro e w3 ⟨A2, n2, c2, l2, rfl, hn2, hk2, hg2, r2, b2⟩
 have HK2 := hid hk2
 have HG2 := hid hg2
 have HL2 := hid r2.now.len
 have K2 := ((K1.call b2).add r2).pick [1, 0] (by decide) rfl
 simp only [List.filterMap_cons, List.filterMap_nil, List.getElem?_cons_zero, List.getElem?_cons_succ] at K2
 clear K1 F1 hS hk2 hg2 r2 b2
 go_wp2_with fail
 go_loopw [5, 18] (fun ov iv wr => ∃ (j k cap : Nat) (O : Option Addr) (xs : List ByteArray), j ≤ n2 ∧ k ≤ 1000000 + j * 549755813888 ∧ iv = .int .i64 j ∧ ov = .slice O k cap ∧ Hid (∀ s, s ∈ xs ↔ s ∈ SA ∨ ∃ y ∈ l2.take j, y.before = true ∧ y.each = true ∧ s ∈ setCols y) ∧ Hold M none w wr [.own 9 1 (.slice O k cap) k (strsCells xs), .ro (TgsIn 5 A2 n2 l2)]) (fun _ iv _ => n2 - (intOf iv).toNat)
 case atStart => exact ⟨0, n1, c1, A1, SA, by omega, by have := HAL.out; have := HL1.out; omega, rfl, rfl, hid (fun s => ⟨fun h => .inl h, fun h => h.elim id fun ⟨y, hy, _⟩ => (nomatch hy)⟩), K2⟩
 case round =>
  clear K2
  obtain ⟨j, k, cap, O, xs, hj, hkj, rfl, rfl, HO, H⟩ := hrel
  by_cases hlt : j < n2
  ·have j0 : (0 : Int) ≤ (j : Int) := by omega
   have j1 : (j : Int) < (n2 : Int) := by omega
   obtain ⟨⟨tn, tt, tb, te, ⟨oA, on, oc, ol⟩, tch, ⟨pA, pn, pc, pl⟩, ⟨qA, qn, qc, ql⟩, ⟨rA, rn, rc, rl⟩, ⟨kA, kn, kc, kl⟩, ⟨aA, an, ac, al⟩⟩, hx⟩ := get_of HL2.out hlt
   obtain ⟨b, o, rfl, hb, hc, -⟩ := (H.ro 1 rfl).now.at_ hx
   have x0 := hc 0 _ (by omega) rfl
   have x1 := hc 1 _ (by omega) rfl
   have x2 := hc 2 _ (by omega) rfl
   have x3 := hc 3 _ (by omega) rfl
   have x4 := hc 4 _ (by omega) rfl
   have x5 := hc 5 _ (by omega) rfl
   have x6 := hc 6 _ (by omega) rfl
   have x7 := hc 7 _ (by omega) rfl
   have x8 := hc 8 _ (by omega) rfl
   have x9 := hc 9 _ (by omega) rfl
   have x10 := hc 10 _ (by omega) rfl
   simp only [Nat.add_zero, SlP.v] at x0 x1 x2 x3 x4 x5 x6 x7 x8 x9 x10
   clear hc
   have hmx := List.mem_of_getElem? hx
   have HX := hid hx
   have K1 := (H.add (S := TgIn 5 ⟨tn, tt, tb, te, ⟨oA, on, oc, ol⟩, tch, ⟨pA, pn, pc, pl⟩, ⟨qA, qn, qc, ql⟩, ⟨rA, rn, rc, rl⟩, ⟨kA, kn, kc, kl⟩, ⟨aA, an, ac, al⟩⟩) ((H.ro 1 rfl).imp fun w2 h2 => h2.2 _ hmx)).alloc_cst #[.string tn, .string tt, .bool tb, .int .i64 te, .slice oA on oc, .bool tch, .slice pA pn pc, .slice qA qn qc, .slice rA rn rc, .slice kA kn kc, .slice aA an ac] 40
   have HFIT := hid (fit_gd (K1.ro 1 rfl).now (HG2.out _ hmx))
   clear H hx hmx
   obtain ⟨g9, hg9⟩ : ∃ g, g = wr.heap.size := ⟨_, rfl⟩
   rw [← hg9] at K1
   go_upto_region 5 with fail
   rw [← hg9]
   have HG9 := hid hg9
   clear hg9 x0 x1 x2 x3 x4 x5 x6 x7 x8 x9 x10
   generalize World.alloc _ _ = w4 at K1 ⊢
   have F1 := K1.facts
   simp only [factsL, cellsF, Nat.reduceAdd, zf, zl] at F1
   have hr := row_any (Mut M _) _ K1.mutLt ⟨tn, tt, tb, te, ⟨oA, on, oc, ol⟩, tch, ⟨pA, pn, pc, pl⟩, ⟨qA, qn, qc, ql⟩, ⟨rA, rn, rc, rl⟩, ⟨kA, kn, kc, kl⟩, ⟨aA, an, ac, al⟩⟩ 5 (K1.ro 1 rfl) HFIT.out
   simp only [Tg.val] at hr
   go_wp2_with fail
   refine hr.mono ?_
   rintro e w5 ⟨RB, RC, rm, rmc, rk, rkc, zs, rfl, hrk, rz, hzs, b5⟩
   have HZS := hid hzs
   have K2 := ((K1.call b5).add rz)
   clear K1 F1 hr hzs rz b5
   have hrr := hid (show SlR 1 RC rk (strsCells zs) w5 from (K2.ro 0 rfl).now)
   have h1 := hid (one_strs zs)
   go_wp2_with (at_builtin; go_must (refine wpList_appAllH K2 3 rfl Tryz.elSt hrr.out rfl (.tmp 27) (.tmp 28) rfl rfl rfl h1.out (by omega) (by omega) ?_); intro C' cap' w6 hc1 hm1 K3)
   rw [show strsCells xs ++ strsCells zs = strsCells (xs ++ zs) from by simp [strsCells]] at K3
   simp only [zl] at K3
   have K4 := K3.pick [3, 4] (by decide) rfl
   simp only [List.filterMap_cons, List.filterMap_nil, List.getElem?_cons_zero, List.getElem?_cons_succ] at K4
   clear K2 K3
   go_roundw
   case rel => exact ⟨j + 1, k + rk, cap', C', xs ++ zs, by omega, by omega, by go_num, by first | rfl | trivial, hid (chg_step HO.out HX.out HZS.out), K4⟩
   case measure => simp [intOf]; omega
  ·obtain rfl : n2 = j := by omega
   have h := HO.out
   rw [List.take_of_length_le (by rw [HL2.out]; exact Nat.le_refl _)] at h
   have HF := hid h
   clear h
   go_wp2_with fail
   refine (sortS_any H 0 rfl (by omega)).mono ?_
   rintro e w4 ⟨rfl, ys, hys, K4⟩
   simp only [List.set_cons_zero] at K4
   have HY := hid (fun s : ByteArray => hys.mem_iff (a := s))
   clear H hys
   go_wp2_with fail
   refine (compS_any K4 0 rfl (by omega)).mono ?_
   rintro e w5 ⟨q5, zs, rfl, hq5, hz5, K5⟩
   simp only [List.set_cons_zero] at K5
   have HZ := hid hz5
   have K6 := K5.sealRow 0 rfl
   simp only [List.set_cons_zero] at K6
   clear K4 K5 hz5
   go_wp2_with fail
   go_ret
   exact ⟨O, q5, cap, zs, rfl, by omega, (K6.ro 0 rfl).less (fun b hb => .inl hb), fun s => (HZ.out s).trans ((HY.out s).trans ((HF.out s).trans (HCM.out l2 HK2.out s))), K6.below⟩
end Go.Proofs.YtnbbllkbefagmaaGreatDoor

namespace Go.Proofs.YtnbbllkbefagmaaGreatDoor
open Go.RowKit
set_option linter.unusedVariables false
set_option linter.unusedSimpArgs false
def AcsR (A : Option Addr) (n : Nat) (l : List Ac) (w : World) : Prop := SlR 7 A n (l.flatMap Ac.cells) w ∧ ∀ a ∈ l, AcIn 5 a w
theorem AcsR.len {A : Option Addr} {n : Nat} {l : List Ac} {w : World} (h : AcsR A n l w) : l.length = n := SlP.In.len (s := ⟨A, n, 0, l⟩) (k := 7) (cel := Ac.cells) (P := AcIn 5) h (by omega) (fun _ => rfl)
theorem AcsR.at_ {w : World} {A : Option Addr} {n : Nat} {l : List Ac} (h : AcsR A n l w) {k : Nat} {x : Ac} (hx : l[k]? = some x) :
  ∃ b o, A = some ⟨b, o, none⟩ ∧ b < w.heap.size ∧ (∀ j u, j < 7 → x.cells[j]? = some u → w.cell? ⟨b, o + k * 7 + j, none⟩ = some u) ∧ AcIn 5 x w := SlP.In.at_ (s := ⟨A, n, 0, l⟩) (k := 7) (cel := Ac.cells) (P := AcIn 5) h (by omega) (fun _ => rfl) hx
theorem Tryz.elEf : ElemT Tryz.prog 129 132 3 48 (.agg #[.string ⟨#[]⟩, .int .i64 0, .slice none 0 0]) := ⟨Tryz.underlying129, by kernel_rfl, rfl, by omega⟩
def EffR (w : World) (M : Nat → Prop) (ts : List Tg) (t : Tg) (e : Ending) (w' : World) : Prop := ∃ (A : Option Addr) (n c : Nat) (l : List Ef), e = .returned (.slice A n c) ∧ n ≤ 4 ∧ (∀ u, l.any (efC u) = (!t.before && t.acts.l.any (causeA ts u))) ∧ (t.before = false → l.length = (t.acts.l.filter dmlB).length) ∧ (∀ x ∈ l, x.cols.n ≤ 9223372036854775807) ∧ Ro w' M (EfsIn A n l) ∧ Below w.heap.size w w'
/-- the slot of the columns that an update may change -/
def ChgC (M : Nat → Prop) (ts : List Tg) (a : Ac) (u : Value) (w : World) : Prop := ∃ (B : Option Addr) (m q : Nat) (xs : List ByteArray), u = .slice B m q ∧ m ≤ 9223372036854775807 ∧ (∀ s, s ∈ xs ↔ chgT ts a s = true) ∧ Ro w M (StrsIn B m xs)
theorem ChgC.mono {M : Nat → Prop} {ts : List Tg} {a : Ac} (u : Value) (w w' : World) (hr : RM M w w') (h : ChgC M ts a u w) : ChgC M ts a u w' := by
 obtain ⟨B, m, q, xs, h1, h2, h3, h4⟩ := h
 exact ⟨B, m, q, xs, h1, h2, h3, hr.ro h4⟩
/-- the slot of an update's effect -/
def EfC1 (M : Nat → Prop) (ts : List Tg) (a : Ac) (u : Value) (w : World) : Prop := ∃ (B : Option Addr) (m q : Nat) (xs : List ByteArray), u = .agg #[.string a.tab, .int .i64 2, .slice B m q] ∧ m ≤ 9223372036854775807 ∧ (∀ s, s ∈ xs ↔ chgT ts a s = true) ∧ Ro w M (StrsIn B m xs)
theorem EfC1.mono {M : Nat → Prop} {ts : List Tg} {a : Ac} (u : Value) (w w' : World) (hr : RM M w w') (h : EfC1 M ts a u w) : EfC1 M ts a u w' := by
 obtain ⟨B, m, q, xs, h1, h2, h3, h4⟩ := h
 exact ⟨B, m, q, xs, h1, h2, h3, hr.ro h4⟩
def EfOne (M : Nat → Prop) (ts : List Tg) (a : Ac) (u : Value) (w : World) : Prop := ∃ (g : Nat) (B : Option Addr) (m q : Nat) (xs : List ByteArray), u = .slice (some ⟨g, 0, none⟩) 1 1 ∧ m ≤ 9223372036854775807 ∧ (∀ s, s ∈ xs ↔ chgT ts a s = true) ∧ Ro w M (SlR 3 (some ⟨g, 0, none⟩) 1 [.string a.tab, .int .i64 2, .slice B m q]) ∧ Ro w M (StrsIn B m xs)
theorem EfOne.mono {M : Nat → Prop} {ts : List Tg} {a : Ac} (u : Value) (w w' : World) (hr : RM M w w') (h : EfOne M ts a u w) : EfOne M ts a u w' := by
 obtain ⟨g, B, m, q, xs, h1, h2, h3, h4, h5⟩ := h
 exact ⟨g, B, m, q, xs, h1, h2, h3, hr.ro h4, hr.ro h5⟩
set_option maxHeartbeats 16000000 in
set_option maxRecDepth 100000 in
theorem effects_any (M : Nat → Prop) (w : World) (hM : ∀ b, M b → b < w.heap.size) (t : Tg) (A : Option Addr) (n c : Nat) (ts : List Tg) (ht : Ro w M (TgIn 5 t)) (hT : Ro w M (TgsIn 5 A n ts)) (hn : n ≤ 8) (hG : ∀ t ∈ ts, TgEd t) (hg : TgEd t) : Calls Tryz.prog 57 #[t.val, .slice A n c] w fun e w' => EffR w M ts t e w' := by
 have HG := hid hG
 have HGT := hid hg
 have HAC := hid (show Ro w M (AcsR t.acts.A t.acts.n t.acts.l) from ht.imp fun w2 h2 => h2.2.2.2.2.2)
 clear hG hg ht
 obtain ⟨tn, tt, tb, te, ⟨oA, on, oc, ol⟩, tch, ⟨pA, pn, pc, pl⟩, ⟨qA, qn, qc, ql⟩, ⟨rA, rn, rc, rl⟩, ⟨kA, kn, kc, kl⟩, ⟨aA, an, ac, al⟩⟩ := t
 dsimp only at HAC
 have HL := hid HAC.out.now.len
 have han : an ≤ 4 := by have h2 : al.length ≤ 4 := HGT.out.a; have := HL.out; omega
 have K0 := (((Hold.start M w hM).add (hT.less (by simp [Mut]))).add (HAC.out.less (by simp [Mut, Hp.foot]))).alloc_cst #[.string tn, .string tt, .bool tb, .int .i64 te, .slice oA on oc, .bool tch, .slice pA pn pc, .slice qA qn qc, .slice rA rn rc, .slice kA kn kc, .slice aA an ac] 40
 clear hT HAC
 obtain ⟨g2, hg2⟩ : ∃ g, g = w.heap.size := ⟨_, rfl⟩
 rw [← hg2] at K0
 simp only [Tg.val]
 go_enter Tryz.func57, Tryz.ntmps57
 go_upto_region 1 with fail
 rw [← hg2]
 have HG2 := hid hg2
 clear hg2
 generalize World.alloc _ _ = w1 at K0 ⊢
 have F0 := K0.facts
 simp only [factsL, cellsF, Nat.reduceAdd, zf, zl] at F0
 cases tb
 ·have K1 := (K0.add (S := EfsOf []) (fun w2 _ _ x hx => (nomatch hx))).nil 132 3
  clear K0
  go_wp2_with fail
  clear F0
  go_loopw [5, 13] (fun ov iv wr => ∃ (j k cap : Nat) (O : Option Addr) (outs : List Ef), j ≤ an ∧ k ≤ j ∧ iv = .int .i64 j ∧ ov = .slice O k cap ∧ Hid (EfsFor ts (al.take j) outs ∧ ∀ x ∈ outs, x.cols.n ≤ 9223372036854775807) ∧ Hold M none w wr [.own 132 3 (.slice O k cap) k (efCells outs), .ro (EfsOf outs), .cst g2 40 #[.string tn, .string tt, .bool false, .int .i64 te, .slice oA on oc, .bool tch, .slice pA pn pc, .slice qA qn qc, .slice rA rn rc, .slice kA kn kc, .slice aA an ac], .ro (AcsR aA an al), .ro (TgsIn 5 A n ts)]) (fun _ iv _ => an - (intOf iv).toNat)
  case atStart => exact ⟨0, 0, 0, none, [], by omega, by omega, rfl, rfl, hid ⟨efs_nil ts, fun x hx => (nomatch hx)⟩, K1⟩
  case round =>
   clear K1
   obtain ⟨j, k, cap, O, outs, hj, hkj, rfl, rfl, HO, H⟩ := hrel
   by_cases hlt : j < an
   ·have j0 : (0 : Int) ≤ (j : Int) := by omega
    have j1 : (j : Int) < (an : Int) := by omega
    obtain ⟨⟨xk, xtab, ⟨arA, arn, arc, arl⟩, ⟨aqA, aqn, aqc, aql⟩, ⟨asA, asn, asc, asl⟩, ⟨awA, awn, awc, awl⟩, xtext⟩, hx⟩ := get_of HL.out hlt
    obtain ⟨b, o, rfl, hb, hc, -⟩ := (H.ro 3 rfl).now.at_ hx
    have x0 := hc 0 _ (by omega) rfl
    have x1 := hc 1 _ (by omega) rfl
    have x2 := hc 2 _ (by omega) rfl
    have x3 := hc 3 _ (by omega) rfl
    have x4 := hc 4 _ (by omega) rfl
    have x5 := hc 5 _ (by omega) rfl
    have x6 := hc 6 _ (by omega) rfl
    simp only [Nat.add_zero, SlP.v] at x0 x1 x2 x3 x4 x5 x6
    clear hc
    have hmx := List.mem_of_getElem? hx
    have HX := hid hx
    have hsl := hid (HGT.out.s _ hmx)
    have K1 := (H.add (S := AcIn 5 ⟨xk, xtab, ⟨arA, arn, arc, arl⟩, ⟨aqA, aqn, aqc, aql⟩, ⟨asA, asn, asc, asl⟩, ⟨awA, awn, awc, awl⟩, xtext⟩) ((H.ro 3 rfl).imp fun w2 h2 => h2.2 _ hmx)).alloc_cst #[.int .i64 xk, .string xtab, .slice arA arn arc, .slice aqA aqn aqc, .slice asA asn asc, .slice awA awn awc, .string xtext] 97
    clear H hx hmx
    obtain ⟨g7, hg7⟩ : ∃ g, g = wr.heap.size := ⟨_, rfl⟩
    rw [← hg7] at K1
    go_upto_region 7 with fail
    rw [← hg7]
    have HG7 := hid hg7
    clear hg7 x0 x1 x2 x3 x4 x5 x6
    generalize World.alloc _ _ = w4 at K1 ⊢
    have F1 := K1.facts
    simp only [factsL, cellsF, Nat.reduceAdd, zf, zl] at F1
    by_cases h1 : xk = 1 ∨ xk = 3
    ·have HKK := hid h1
     rcases h1 with h1 | h1
     ·have b1 : (xk == 1) = true := by simp [h1]
      clear h1
      have HEA := hid (show EfA ts ⟨xk, xtab, ⟨arA, arn, arc, arl⟩, ⟨aqA, aqn, aqc, aql⟩, ⟨asA, asn, asc, asl⟩, ⟨awA, awn, awc, awl⟩, xtext⟩ ⟨xtab, xk, SlP.nil⟩ from ⟨rfl, rfl, .inl ⟨HKK.out, rfl⟩⟩)
      go_wp2_with (at_builtin; go_must (refine wpList_appH K1 2 rfl Tryz.elEf #[.string xtab, .int .i64 xk, .slice none 0 0] rfl (.tmp 22) (.tmp 28) rfl rfl _ (by first | rfl | simp) rfl rfl (by intro u hu; simp at hu; rcases hu with rfl | rfl | rfl <;> rfl) (by omega) (by omega) ?_); intro gA capA wA hcA hmA KB; simp only [zl] at KB)
      rw [show efCells outs ++ (#[.string xtab, .int .i64 xk, .slice none 0 0] : Array Value).toList = efCells (outs ++ [⟨xtab, xk, SlP.nil⟩]) from (efCells_snoc outs ⟨xtab, xk, SlP.nil⟩).symm] at KB
      have hR : Ro _ _ (EfsOf (outs ++ [⟨xtab, xk, SlP.nil⟩])) := (KB.ro 3 rfl).imp fun w2 h2 y hy => by
       rcases List.mem_append.1 hy with hy | hy
       ·exact h2 y hy
       ·simp only [List.mem_cons, List.not_mem_nil, or_false] at hy
        subst hy
        exact slr_nil 1 w2
      have KC := (KB.swapRo 3 rfl hR).pick [2, 3, 4, 5, 6] (by decide) rfl
      simp only [List.set_cons_zero, List.set_cons_succ, List.filterMap_cons, List.filterMap_nil, List.getElem?_cons_zero, List.getElem?_cons_succ] at KC
      go_roundw
      case rel => exact ⟨j + 1, k + 1, capA, _, outs ++ [⟨xtab, xk, SlP.nil⟩], by omega, by omega, by go_num, by first | rfl | trivial, hid ⟨efs_next HO.out.1 HX.out HEA.out, fun y hy => by
       rcases List.mem_append.1 hy with hy | hy
       ·exact HO.out.2 y hy
       ·simp only [List.mem_cons, List.not_mem_nil, or_false] at hy
        subst hy
        simp [SlP.nil]⟩, KC⟩
      case measure => simp [intOf]; omega
     ·have b1 : (xk == 1) = false := by simp [h1]
      have b3 : (xk == 3) = true := by simp [h1]
      clear h1
      have HEA := hid (show EfA ts ⟨xk, xtab, ⟨arA, arn, arc, arl⟩, ⟨aqA, aqn, aqc, aql⟩, ⟨asA, asn, asc, asl⟩, ⟨awA, awn, awc, awl⟩, xtext⟩ ⟨xtab, xk, SlP.nil⟩ from ⟨rfl, rfl, .inl ⟨HKK.out, rfl⟩⟩)
      go_wp2_with (at_builtin; go_must (refine wpList_appH K1 2 rfl Tryz.elEf #[.string xtab, .int .i64 xk, .slice none 0 0] rfl (.tmp 22) (.tmp 28) rfl rfl _ (by first | rfl | simp) rfl rfl (by intro u hu; simp at hu; rcases hu with rfl | rfl | rfl <;> rfl) (by omega) (by omega) ?_); intro gA capA wA hcA hmA KB; simp only [zl] at KB)
      rw [show efCells outs ++ (#[.string xtab, .int .i64 xk, .slice none 0 0] : Array Value).toList = efCells (outs ++ [⟨xtab, xk, SlP.nil⟩]) from (efCells_snoc outs ⟨xtab, xk, SlP.nil⟩).symm] at KB
      have hR : Ro _ _ (EfsOf (outs ++ [⟨xtab, xk, SlP.nil⟩])) := (KB.ro 3 rfl).imp fun w2 h2 y hy => by
       rcases List.mem_append.1 hy with hy | hy
       ·exact h2 y hy
       ·simp only [List.mem_cons, List.not_mem_nil, or_false] at hy
        subst hy
        exact slr_nil 1 w2
      have KC := (KB.swapRo 3 rfl hR).pick [2, 3, 4, 5, 6] (by decide) rfl
      simp only [List.set_cons_zero, List.set_cons_succ, List.filterMap_cons, List.filterMap_nil, List.getElem?_cons_zero, List.getElem?_cons_succ] at KC
      go_roundw
      case rel => exact ⟨j + 1, k + 1, capA, _, outs ++ [⟨xtab, xk, SlP.nil⟩], by omega, by omega, by go_num, by first | rfl | trivial, hid ⟨efs_next HO.out.1 HX.out HEA.out, fun y hy => by
       rcases List.mem_append.1 hy with hy | hy
       ·exact HO.out.2 y hy
       ·simp only [List.mem_cons, List.not_mem_nil, or_false] at hy
        subst hy
        simp [SlP.nil]⟩, KC⟩
      case measure => simp [intOf]; omega
    ·have b1 : (xk == 1) = false := by simp; omega
     have b3 : (xk == 3) = false := by simp; omega
     by_cases h2 : xk = 2
     ·clear b1 b3 h1
      subst h2
      have HEA := hid (fun B m q xs (h : ∀ s, s ∈ xs ↔ chgT ts ⟨2, xtab, ⟨arA, arn, arc, arl⟩, ⟨aqA, aqn, aqc, aql⟩, ⟨asA, asn, asc, asl⟩, ⟨awA, awn, awc, awl⟩, xtext⟩ s = true) => show EfA ts ⟨2, xtab, ⟨arA, arn, arc, arl⟩, ⟨aqA, aqn, aqc, aql⟩, ⟨asA, asn, asc, asl⟩, ⟨awA, awn, awc, awl⟩, xtext⟩ ⟨xtab, 2, ⟨B, m, q, xs⟩⟩ from ⟨rfl, rfl, .inr ⟨rfl, h⟩⟩)
      obtain ⟨KM, hKM, K6⟩ := K1.name
      have H1 : ∀ wv : World, Hold M none w wv KM → Blk wv g7 97 #[.int .i64 2, .string xtab, .slice arA arn arc, .slice aqA aqn aqc, .slice asA asn asc, .slice awA awn awc, .string xtext] := fun wv h => by rw [hKM] at h; exact h.cst_ 0 rfl
      have H2 : ∀ wv : World, Hold M none w wv KM → Ro wv (Mut M KM) (AcIn 5 ⟨2, xtab, ⟨arA, arn, arc, arl⟩, ⟨aqA, aqn, aqc, aql⟩, ⟨asA, asn, asc, asl⟩, ⟨awA, awn, awc, awl⟩, xtext⟩) := fun wv h => by rw [hKM] at h ⊢; exact h.ro 1 rfl
      have H3 : ∀ wv : World, Hold M none w wv KM → Ro wv (Mut M KM) (TgsIn 5 A n ts) := fun wv h => by rw [hKM] at h ⊢; exact h.ro 6 rfl
      have HH1 := hid H1
      have HH2 := hid H2
      have HH3 := hid H3
      have HKM := hid hKM
      clear hKM H1 H2 H3 K1
      go_upto_region 12 with fail
      clear F1
      refine wp_region_any (by kernel_rfl) ?_
      refine wpAny_hold 8 43 (KM) (spL [(37, ChgC (Mut M KM) ts ⟨2, xtab, ⟨arA, arn, arc, arl⟩, ⟨aqA, aqn, aqc, aql⟩, ⟨asA, asn, asc, asl⟩, ⟨awA, awn, awc, awl⟩, xtext⟩), (38, EfC1 (Mut M KM) ts ⟨2, xtab, ⟨arA, arn, arc, arl⟩, ⟨aqA, aqn, aqc, aql⟩, ⟨asA, asn, asc, asl⟩, ⟨awA, awn, awc, awl⟩, xtext⟩), (39, EfOne (Mut M KM) ts ⟨2, xtab, ⟨arA, arn, arc, arl⟩, ⟨aqA, aqn, aqc, aql⟩, ⟨asA, asn, asc, asl⟩, ⟨awA, awn, awc, awl⟩, xtext⟩)]) (by kernel_rfl) (by kernel_rfl) (by kernel_rfl) rfl ?_ (K6.drew) ?_
      ·exact stays_cons ChgC.mono (stays_cons EfC1.mono (stays_cons EfOne.mono (stays_nil _)))
      simp only [zd, Act.put, List.getElem_toArray, List.getElem_cons_zero, List.getElem_cons_succ, zl]
      refine dw_val rfl rfl rfl ?_; apply Exists.intro; refine ⟨fun wv HC => ?_, ?_⟩
      · go_simp <;> rfl
      simp only [Act.put, zl]
      refine dw_val rfl rfl rfl ?_; apply Exists.intro; refine ⟨fun wv HC => ?_, ?_⟩
      · go_simp <;> rfl
      simp only [Act.put, zl]
      refine dw_val rfl rfl rfl ?_; apply Exists.intro; refine ⟨fun wv HC => ?_, ?_⟩
      ·have q1 := (HH1.out _ HC).cell 1; go_simp <;> rfl
      simp only [Act.put, zl]
      refine dw_val rfl rfl rfl ?_; apply Exists.intro; refine ⟨fun wv HC => ?_, ?_⟩
      ·obtain q0 := (HH1.out _ HC).cell 0; obtain q1 := (HH1.out _ HC).cell 1; obtain q2 := (HH1.out _ HC).cell 2; obtain q3 := (HH1.out _ HC).cell 3; obtain q4 := (HH1.out _ HC).cell 4; obtain q5 := (HH1.out _ HC).cell 5; obtain q6 := (HH1.out _ HC).cell 6; go_simp <;> rfl
      simp only [Act.put, zl]
      refine dw_val rfl rfl rfl ?_; apply Exists.intro; refine ⟨fun wv HC => ?_, ?_⟩
      · go_simp <;> rfl
      simp only [Act.put, zl]
      refine dw_callR 37 (ChgC (Mut M KM) ts ⟨2, xtab, ⟨arA, arn, arc, arl⟩, ⟨aqA, aqn, aqc, aql⟩, ⟨asA, asn, asc, asl⟩, ⟨awA, awn, awc, awl⟩, xtext⟩) (f := 116) (args := #[.agg #[.int .i64 2, .string xtab, .slice arA arn arc, .slice aqA aqn aqc, .slice asA asn asc, .slice awA awn awc, .string xtext], .slice A n c]) rfl rfl rfl rfl (fun wv => ?_) (fun wv HC hrm hD => ?_) ?_
      ·go_simp <;> rfl
      ·refine (changed_any (Mut M KM) wv HC.mutLt ⟨2, xtab, ⟨arA, arn, arc, arl⟩, ⟨aqA, aqn, aqc, aql⟩, ⟨asA, asn, asc, asl⟩, ⟨awA, awn, awc, awl⟩, xtext⟩ A n c ts (HH2.out _ HC) (HH3.out _ HC) hn HG.out hsl.out).mono ?_
       rintro e w5 ⟨B, m, q, xs, rfl, hm, rx, hxs, b5⟩
       exact ⟨_, rfl, ⟨B, m, q, xs, rfl, hm, hxs, rx⟩, HC.call b5, RM.below b5⟩
      rintro u wx HCx ⟨B, m, q, xs, rfl, -, -, -⟩
      clear HCx xs
      simp only [Act.put, zl]
      refine dw_valC 38 (EfC1 (Mut M KM) ts ⟨2, xtab, ⟨arA, arn, arc, arl⟩, ⟨aqA, aqn, aqc, aql⟩, ⟨asA, asn, asc, asl⟩, ⟨awA, awn, awc, awl⟩, xtext⟩) rfl rfl rfl rfl (.agg #[.string xtab, .int .i64 2, .slice B m q]) (fun wv HC => ?_) (fun wv HC hD => ?_) ?_
      ·go_simp <;> rfl
      ·have ha : ChgC (Mut M KM) ts ⟨2, xtab, ⟨arA, arn, arc, arl⟩, ⟨aqA, aqn, aqc, aql⟩, ⟨asA, asn, asc, asl⟩, ⟨awA, awn, awc, awl⟩, xtext⟩ (.slice B m q) wv := deps_at hD 5 rfl (by kernel_rfl) rfl rfl
       obtain ⟨B', m', q', xs, e', hm, hxs, rx⟩ := ha
       obtain ⟨rfl, rfl, rfl⟩ : B = B' ∧ m = m' ∧ q = q' := by injection e' with e1 e2 e3; exact ⟨e1, e2, e3⟩
       exact ⟨B, m, q, xs, rfl, hm, hxs, rx⟩
      simp only [Act.put, zl]
      refine dw_new #[.string xtab, .int .i64 2, .slice B m q] 132 39 (EfOne (Mut M KM) ts ⟨2, xtab, ⟨arA, arn, arc, arl⟩, ⟨aqA, aqn, aqc, aql⟩, ⟨asA, asn, asc, asl⟩, ⟨awA, awn, awc, awl⟩, xtext⟩) (fun g => .slice (some ⟨g, 0, none⟩) 1 1) rfl rfl rfl rfl (fun wv => ?_) (fun wv HC hrm hD hro => ?_) ?_
      ·go_simp <;> rfl
      ·have h1 : EfC1 (Mut M KM) ts ⟨2, xtab, ⟨arA, arn, arc, arl⟩, ⟨aqA, aqn, aqc, aql⟩, ⟨asA, asn, asc, asl⟩, ⟨awA, awn, awc, awl⟩, xtext⟩ (.agg #[.string xtab, .int .i64 2, .slice B m q]) wv := deps_at hD 6 rfl (by kernel_rfl) rfl rfl
       obtain ⟨B', m', q', xs, e', hm, hxs, rx⟩ := h1
       obtain ⟨rfl, rfl, rfl⟩ : B = B' ∧ m = m' ∧ q = q' := by
        injection e' with e'
        have h2 := congrArg (fun a : Array Value => a[2]?) e'
        simp only [List.getElem?_toArray, List.getElem?_cons_zero, List.getElem?_cons_succ, Option.some.injEq, Value.slice.injEq] at h2
        exact h2
       exact ⟨_, B, m, q, xs, rfl, hm, hxs, ro_block (hro _ HC.mutLt) rfl, (RM.alloc (Mut M KM) wv _).ro rx⟩
      rintro g39 wg HCg h39
      simp only [Act.put, zl]
      clear HCg h39
      refine rel_nil ?_
      rintro wx3 HX3
      rintro _hrm HGW
      have h1 : EfOne (Mut M KM) ts ⟨2, xtab, ⟨arA, arn, arc, arl⟩, ⟨aqA, aqn, aqc, aql⟩, ⟨asA, asn, asc, asl⟩, ⟨awA, awn, awc, awl⟩, xtext⟩ (.slice (some ⟨g39, 0, none⟩) 1 1) wx3 := (GW_on (d := 39) rfl).1 (HGW 7 _ rfl (by omega))
      clear HGW _hrm
      obtain ⟨g', B2, m2, q2, xs, e', hm, hxs, rG, rx⟩ := h1
      obtain rfl : g39 = g' := by injection e' with e'; injection e' with e'; injection e'
      have K7 := HX3.add rx
      have HG9 := hid rG.now
      have HXS := hid hxs
      rw [HKM.out] at K7
      clear HX3 rG rx HH1 HH2 HH3 HKM K6 e' hxs
      have F7 := K7.facts
      simp only [factsL, cellsF, Nat.reduceAdd, zf, zl] at F7
      go_wp2_with (at_builtin; go_must (refine wpList_appAllH K7 3 rfl Tryz.elEf HG9.out rfl (.tmp 32) (.tmp 39) rfl rfl rfl (by intro u hu; simp at hu; rcases hu with rfl | rfl | rfl <;> rfl) (by omega) (by omega) ?_); intro G1 gc1 wB hcB hmB KE; simp only [zl] at KE)
      rw [show efCells outs ++ [.string xtab, .int .i64 2, .slice B2 m2 q2] = efCells (outs ++ [⟨xtab, 2, ⟨B2, m2, q2, xs⟩⟩]) from (efCells_snoc outs ⟨xtab, 2, ⟨B2, m2, q2, xs⟩⟩).symm] at KE
      have hR : Ro _ _ (EfsOf (outs ++ [⟨xtab, 2, ⟨B2, m2, q2, xs⟩⟩])) := ((KE.ro 4 rfl).and (KE.ro 0 rfl)).imp fun w2 h2 y hy => by
       rcases List.mem_append.1 hy with hy | hy
       ·exact h2.1 y hy
       ·simp only [List.mem_cons, List.not_mem_nil, or_false] at hy
        subst hy
        exact h2.2
      have KC := (KE.swapRo 4 rfl hR).pick [3, 4, 5, 6, 7] (by decide) rfl
      simp only [List.set_cons_zero, List.set_cons_succ, List.filterMap_cons, List.filterMap_nil, List.getElem?_cons_zero, List.getElem?_cons_succ] at KC
      go_roundw
      case rel => exact ⟨j + 1, k + 1, gc1, G1, outs ++ [⟨xtab, 2, ⟨B2, m2, q2, xs⟩⟩], by omega, by omega, by go_num, by first | rfl | trivial, hid ⟨efs_next HO.out.1 HX.out (HEA.out B2 m2 q2 xs HXS.out), fun y hy => by
       rcases List.mem_append.1 hy with hy | hy
       ·exact HO.out.2 y hy
       ·simp only [List.mem_cons, List.not_mem_nil, or_false] at hy
        subst hy
        exact hm⟩, KC⟩
      case measure => simp [intOf]; omega
     ·have b2 : (xk == 2) = false := by simp; omega
      have HSK := hid (show EfsFor ts (al.take (j + 1)) outs from efs_skip HO.out.1 HX.out (by simp only; omega) (by simp only; omega) (by simp only; omega))
      clear h1 h2
      go_wp2_with fail
      go_roundw
      case rel => exact ⟨j + 1, k, cap, O, outs, by omega, by omega, by go_num, by first | rfl | trivial, hid ⟨HSK.out, HO.out.2⟩, K1.drop ((List.sublist_cons_self _ _).cons _)⟩
      case measure => simp [intOf]; omega
   ·obtain rfl : an = j := by omega
    have h := HO.out.1
    rw [List.take_of_length_le (by rw [HL.out]; exact Nat.le_refl _)] at h
    have HF := hid h
    clear h
    go_wp2_with fail
    go_ret
    have KZ := H.sealRow 0 rfl
    simp only [List.set_cons_zero] at KZ
    have hR : Ro _ _ (EfsIn O k outs) := ((KZ.ro 0 rfl).and (KZ.ro 1 rfl)).imp fun w2 h2 => ⟨h2.1, h2.2⟩
    exact ⟨O, k, cap, outs, rfl, by omega, fun u => by rw [HF.out.2 u]; rfl, fun _ => HF.out.1, HO.out.2, hR.less (fun b hb => .inl hb), KZ.below⟩
 ·have HB := hid K0.below
  clear K0
  go_wp2_with fail
  go_ret
  exact ⟨none, 0, 0, [], rfl, by omega, fun u => rfl, fun h => absurd h (by simp), fun x hx => (nomatch hx), fun w2 _ _ => ⟨slr_nil 3 w2, fun x hx => (nomatch hx)⟩, HB.out⟩
end Go.Proofs.YtnbbllkbefagmaaGreatDoor

namespace Go.Proofs.YtnbbllkbefagmaaGreatDoor
open Go.RowKit
set_option linter.unusedVariables false
set_option linter.unusedSimpArgs false
def Ef.val (x : Ef) : Value := .agg #[.string x.tab, .int .i64 x.ev, .slice x.cols.A x.cols.n x.cols.c]
set_option maxHeartbeats 4000000 in
theorem csc_any (w : World) (g : Nat) (x : Ef) (s : ByteArray) (q1 : w.heap[g]? = some (.cells #[.string x.tab, .int .i64 x.ev, .slice x.cols.A x.cols.n x.cols.c] 132 (0, 0))) (hx : EfIn x w) (hn : x.cols.n ≤ 9223372036854775807) : Calls Tryz.prog 118 #[.string s, .pointer (some ⟨g, 0, none⟩)] w fun e w' => e = .returned (.bool (hasB x.cols.l s)) ∧ w = w' := by
 have s0 := cell_of_row _ _ 2 _ _ _ q1
 clear q1
 go_enter Tryz.func118, Tryz.ntmps118
 go_wp2_with fail
 refine (scont_any w x.cols.A x.cols.n x.cols.c x.cols.l s hx hn).mono ?_
 rintro e w1 ⟨rfl, rfl⟩
 go_wp2_with fail
 go_ret
 exact ⟨by rw [contS_has] <;> rfl, rfl⟩
set_option maxHeartbeats 8000000 in
set_option maxRecDepth 100000 in
theorem causes_any (M : Nat → Prop) (w : World) (hM : ∀ b, M b → b < w.heap.size) (x : Ef) (u : Tg) (hx : Ro w M (EfIn x)) (hu : Ro w M (TgIn 5 u)) (hxn : x.cols.n ≤ 9223372036854775807) (hcl : u.cols.l.length ≤ 8) : Calls Tryz.prog 58 #[x.val, u.val] w fun e w' => e = .returned (.bool (efC u x)) ∧ Below w.heap.size w w' := by
 have HOL := hid (show u.cols.l.length = u.cols.n from SlP.In.len hu.now.1 (by omega) (fun _ => rfl))
 have HCO := hid (show Ro w M (StrsIn u.cols.A u.cols.n u.cols.l) from hu.imp fun w2 h2 => strsIn_of h2.1.1)
 obtain ⟨tn, tt, tb, te, ⟨oA, on, oc, ol⟩, tch, ⟨pA, pn, pc, pl⟩, ⟨qA, qn, qc, ql⟩, ⟨rA, rn, rc, rl⟩, ⟨kA, kn, kc, kl⟩, ⟨aA, an, ac, al⟩⟩ := u
 dsimp only at hcl HOL HCO
 have hon : on ≤ 8 := by have := HOL.out; omega
 obtain ⟨xt, xe, ⟨cA, cn, cc, cl⟩⟩ := x
 have K0 := (((((Hold.start M w hM).add (hx.less (by simp [Mut]))).add (HCO.out.less (by simp [Mut, Hp.foot]))).alloc_cst #[.string xt, .int .i64 xe, .slice cA cn cc] 132).alloc_cst #[.string tn, .string tt, .bool tb, .int .i64 te, .slice oA on oc, .bool tch, .slice pA pn pc, .slice qA qn qc, .slice rA rn rc, .slice kA kn kc, .slice aA an ac] 40)
 rw [World.size_alloc] at K0
 clear hx hu HCO
 obtain ⟨g2, hg2⟩ : ∃ g, g = w.heap.size := ⟨_, rfl⟩
 rw [← hg2] at K0
 obtain ⟨g3, hg3⟩ : ∃ g, g = g2 + 1 := ⟨_, rfl⟩
 rw [← hg3] at K0
 simp only [Ef.val, Tg.val]
 go_enter Tryz.func58, Tryz.ntmps58
 go_upto_region 1 with fail
 rw [← hg2]
 try rw [← hg3]
 have HG2 := hid (And.intro hg2 hg3)
 clear hg2 hg3
 generalize World.alloc _ _ = w1 at K0 ⊢
 have F0 := K0.facts
 simp only [factsL, cellsF, Nat.reduceAdd, zf, zl] at F0
 have HB := hid K0.below
 cases tb
 ·by_cases htab : xt = tt
  ·have e1 : (xt.toList == tt.toList) = true := by simp [htab]
   have e2 : (xt.toList != tt.toList) = false := by simp [htab]
   by_cases hev : xe = te
   ·have e3 : (xe != te) = false := by simp [hev]
    have HE := hid (show efC ⟨tn, tt, false, te, ⟨oA, on, oc, ol⟩, tch, ⟨pA, pn, pc, pl⟩, ⟨qA, qn, qc, ql⟩, ⟨rA, rn, rc, rl⟩, ⟨kA, kn, kc, kl⟩, ⟨aA, an, ac, al⟩⟩ ⟨xt, xe, ⟨cA, cn, cc, cl⟩⟩ = (decide (ol = []) || ol.any fun s => hasB cl s) from by simp [efC, htab, hev])
    have hc1 : StrsIn oA on ol w1 ∧ w1.heap[g2]? = some (.cells #[.string xt, .int .i64 xe, .slice cA cn cc] 132 (0, 0)) ∧ EfIn ⟨xt, xe, ⟨cA, cn, cc, cl⟩⟩ w1 := ⟨(K0.ro 2 rfl).now, K0.cst_ 1 rfl, (K0.ro 3 rfl).now⟩
    have HC1 := hid hc1
    have hce := scf_any w1 118 (.pointer (some ⟨g2, 0, none⟩)) (fun s => hasB cl s) (fun _ _ => rfl) (fun s => csc_any w1 g2 ⟨xt, xe, ⟨cA, cn, cc, cl⟩⟩ s hc1.2.1 hc1.2.2 hxn) oA on oc ol hc1.1 (by omega)
    have HCE := hid hce
    clear htab hev hce hc1 K0
    by_cases h0 : on = 0
    ·have e4 : ((on : Int) == 0) = true := by simp [h0]
     have HN := hid (show decide (ol = []) = true from decide_eq_true (List.eq_nil_of_length_eq_zero (by rw [HOL.out, h0])))
     clear h0
     go_wp2_with fail
     go_ret
     exact ⟨by rw [HE.out, HN.out] <;> rfl, HB.out⟩
    ·have e4 : ((on : Int) == 0) = false := by simp; omega
     have HN := hid (show decide (ol = []) = false from decide_eq_false (fun h => h0 (by rw [← HOL.out, h]; rfl)))
     clear h0
     go_wp2_with (go_at_call 117; go_must (refine HCE.out.mono ?_); rintro e w5 ⟨rfl, rfl⟩)
     go_ret
     exact ⟨by rw [HE.out, HN.out] <;> rfl, HB.out⟩
   ·have e3 : (xe != te) = true := by simp [hev]
    have HE := hid (show efC ⟨tn, tt, false, te, ⟨oA, on, oc, ol⟩, tch, ⟨pA, pn, pc, pl⟩, ⟨qA, qn, qc, ql⟩, ⟨rA, rn, rc, rl⟩, ⟨kA, kn, kc, kl⟩, ⟨aA, an, ac, al⟩⟩ ⟨xt, xe, ⟨cA, cn, cc, cl⟩⟩ = false from by simp [efC, hev])
    clear htab hev K0
    go_wp2_with fail
    go_ret
    exact ⟨by rw [HE.out] <;> rfl, HB.out⟩
  ·have e1 : (xt.toList == tt.toList) = false := by rw [beq_eq_false_iff_ne]; exact fun h => htab (bytesEq h)
   have e2 : (xt.toList != tt.toList) = true := by rw [bne_iff_ne]; exact fun h => htab (bytesEq h)
   have HE := hid (show efC ⟨tn, tt, false, te, ⟨oA, on, oc, ol⟩, tch, ⟨pA, pn, pc, pl⟩, ⟨qA, qn, qc, ql⟩, ⟨rA, rn, rc, rl⟩, ⟨kA, kn, kc, kl⟩, ⟨aA, an, ac, al⟩⟩ ⟨xt, xe, ⟨cA, cn, cc, cl⟩⟩ = false from by simp [efC, htab])
   clear htab K0
   go_wp2_with fail
   go_ret
   exact ⟨by rw [HE.out] <;> rfl, HB.out⟩
 ·have HE := hid (show efC ⟨tn, tt, true, te, ⟨oA, on, oc, ol⟩, tch, ⟨pA, pn, pc, pl⟩, ⟨qA, qn, qc, ql⟩, ⟨rA, rn, rc, rl⟩, ⟨kA, kn, kc, kl⟩, ⟨aA, an, ac, al⟩⟩ ⟨xt, xe, ⟨cA, cn, cc, cl⟩⟩ = false from rfl)
  clear K0
  go_wp2_with fail
  go_ret
  exact ⟨by rw [HE.out] <;> rfl, HB.out⟩
end Go.Proofs.YtnbbllkbefagmaaGreatDoor

namespace Go.Proofs.YtnbbllkbefagmaaGreatDoor
open Go.RowKit
set_option linter.unusedVariables false
set_option linter.unusedSimpArgs false
def EdgR (w : World) (M : Nat → Prop) (ts : List Tg) (e : Ending) (w' : World) : Prop := ∃ (B : Option Addr) (m q : Nat), e = .returned (.slice B m q) ∧ m ≤ 64 ∧ Ro w' M (EdsIn B m ((edgesT ts).map edI)) ∧ Below w.heap.size w w'
theorem edCells_snocN (l : List Ed) (i k : Nat) : edCells l ++ (#[.int .i64 i, .int .i64 k] : Array Value).toList = edCells (l ++ [⟨i, k⟩]) := by simp [edCells, Ed.cells]
set_option maxHeartbeats 16000000 in
set_option maxRecDepth 100000 in
theorem edges_any (M : Nat → Prop) (w : World) (hM : ∀ b, M b → b < w.heap.size) (A : Option Addr) (n c : Nat) (ts : List Tg) (hT : Ro w M (TgsIn 5 A n ts)) (hn : n ≤ 8) (hG : ∀ t ∈ ts, TgEd t) : Calls Tryz.prog 19 #[.slice A n c] w fun e w' => EdgR w M ts e w' := by
 have HL := hid hT.now.len
 have HG := hid hG
 have K0 : Hold M none w w [.own 61 2 (.slice none 0 0) 0 (edCells (edgT ts 0 0)), .ro (TgsIn 5 A n ts)] := ((Hold.start M w hM).add (hT.less (by simp [Mut]))).nil 61 2
 clear hT hG
 go_enter Tryz.func19, Tryz.ntmps19
 go_wp2_with fail
 go_loopg [3, 13] n (fun gh ov iv wr => ∃ (i q cc : Nat) (O : Option Addr), ov = .slice O q cc ∧ i + gh = n ∧ iv = .int .i64 i ∧ q ≤ i * 8 ∧ Hold M none w wr [.own 61 2 (.slice O q cc) q (edCells (edgT ts i 0)), .ro (TgsIn 5 A n ts)])
 case atStart => exact ⟨0, 0, 0, none, rfl, by omega, rfl, by omega, K0⟩
 case round =>
  clear K0
  obtain ⟨i, q, cc, O, rfl, hi, rfl, hq, H⟩ := hrel
  cases gk with
  | succ go =>
   have hin : i < n := by omega
   have i0 : (0 : Int) ≤ (i : Int) := by omega
   have i1 : (i : Int) < (n : Int) := by omega
   obtain ⟨⟨tn, tt, tb, te, ⟨toA, ton, toc, tol⟩, tch, ⟨tpA, tpn, tpc, tpl⟩, ⟨tqA, tqn, tqc, tql⟩, ⟨trA, trn, trc, trl⟩, ⟨tkA, tkn, tkc, tkl⟩, ⟨taA, tan, tac, tal⟩⟩, hx⟩ := get_of HL.out hin
   obtain ⟨b, o, rfl, hb, hc, -⟩ := (H.ro 1 rfl).now.at_ hx
   have x0 := hc 0 _ (by omega) rfl
   have x1 := hc 1 _ (by omega) rfl
   have x2 := hc 2 _ (by omega) rfl
   have x3 := hc 3 _ (by omega) rfl
   have x4 := hc 4 _ (by omega) rfl
   have x5 := hc 5 _ (by omega) rfl
   have x6 := hc 6 _ (by omega) rfl
   have x7 := hc 7 _ (by omega) rfl
   have x8 := hc 8 _ (by omega) rfl
   have x9 := hc 9 _ (by omega) rfl
   have x10 := hc 10 _ (by omega) rfl
   simp only [Nat.add_zero, SlP.v] at x0 x1 x2 x3 x4 x5 x6 x7 x8 x9 x10
   clear hc
   have hmx := List.mem_of_getElem? hx
   have HX := hid hx
   have K1 := (H.add (S := TgIn 5 ⟨tn, tt, tb, te, ⟨toA, ton, toc, tol⟩, tch, ⟨tpA, tpn, tpc, tpl⟩, ⟨tqA, tqn, tqc, tql⟩, ⟨trA, trn, trc, trl⟩, ⟨tkA, tkn, tkc, tkl⟩, ⟨taA, tan, tac, tal⟩⟩) ((H.ro 1 rfl).imp fun w2 h2 => h2.2 _ hmx)).alloc_cst #[.string tn, .string tt, .bool tb, .int .i64 te, .slice toA ton toc, .bool tch, .slice tpA tpn tpc, .slice tqA tqn tqc, .slice trA trn trc, .slice tkA tkn tkc, .slice taA tan tac] 40
   have HGX := hid (HG.out _ hmx)
   clear H hx hmx
   obtain ⟨g5, hg5⟩ : ∃ g, g = wr.heap.size := ⟨_, rfl⟩
   rw [← hg5] at K1
   go_upto_region 5 with fail
   rw [← hg5]
   have HG5 := hid hg5
   clear hg5 x0 x1 x2 x3 x4 x5 x6 x7 x8 x9 x10
   generalize World.alloc _ _ = w4 at K1 ⊢
   have F1 := K1.facts
   simp only [factsL, cellsF, Nat.reduceAdd, zf, zl] at F1
   have hef := effects_any (Mut M _) _ K1.mutLt ⟨tn, tt, tb, te, ⟨toA, ton, toc, tol⟩, tch, ⟨tpA, tpn, tpc, tpl⟩, ⟨tqA, tqn, tqc, tql⟩, ⟨trA, trn, trc, trl⟩, ⟨tkA, tkn, tkc, tkl⟩, ⟨taA, tan, tac, tal⟩⟩ (some ⟨b, o, none⟩) n c ts (K1.ro 1 rfl) (K1.ro 3 rfl) hn HG.out HGX.out
   simp only [Tg.val] at hef
   go_wp2
   go_step3
   go_wp2_with fail
   refine hef.mono ?_
   rintro e w5 ⟨EA, en, ec, el, rfl, hen, hany, -, hcb, re, b5⟩
   have HAN := hid hany
   have HCB := hid hcb
   have HEL := hid re.now.len
   have K2 := ((K1.call b5).add re).pick [3, 4, 0] (by decide) rfl
   simp only [List.filterMap_cons, List.filterMap_nil, List.getElem?_cons_zero, List.getElem?_cons_succ] at K2
   clear K1 F1 hef hany hcb re b5
   go_wp2
   go_step3
   go_wp2
   go_loopg [3, 23] n (fun gh ov kv wq => ∃ (k q cc : Nat) (O : Option Addr), ov = .slice O q cc ∧ k + gh = n ∧ kv = .int .i64 k ∧ q ≤ i * 8 + k ∧ Hold M none w wq [.own 61 2 (.slice O q cc) q (edCells (edgT ts i k)), .ro (TgsIn 5 (some ⟨b, o, none⟩) n ts), .ro (EfsIn EA en el)])
   case atStart => exact ⟨0, q, cc, O, rfl, by omega, rfl, by omega, K2⟩
   case round =>
    clear K2
    obtain ⟨k, q, cc, O, rfl, hk, rfl, hq2, H⟩ := hrel
    cases gk with
    | succ gm =>
     have hkn : k < n := by omega
     have k0 : (0 : Int) ≤ (k : Int) := by omega
     have k1 : (k : Int) < (n : Int) := by omega
     obtain ⟨⟨un, ut, ub, ue, ⟨uoA, uon, uoc, uol⟩, uch, ⟨upA, upn, upc, upl⟩, ⟨uqA, uqn, uqc, uql⟩, ⟨urA, urn, urc, url⟩, ⟨ukA, ukn, ukc, ukl⟩, ⟨uaA, uan, uac, ual⟩⟩, hy⟩ := get_of HL.out hkn
     obtain ⟨b', o', e', hb', hc, -⟩ := (H.ro 1 rfl).now.at_ hy
     obtain ⟨rfl, rfl⟩ : b = b' ∧ o = o' := by injection e' with e'; injection e' with a1 a2; exact ⟨a1, a2⟩
     have y0 := hc 0 _ (by omega) rfl
     have y1 := hc 1 _ (by omega) rfl
     have y2 := hc 2 _ (by omega) rfl
     have y3 := hc 3 _ (by omega) rfl
     have y4 := hc 4 _ (by omega) rfl
     have y5 := hc 5 _ (by omega) rfl
     have y6 := hc 6 _ (by omega) rfl
     have y7 := hc 7 _ (by omega) rfl
     have y8 := hc 8 _ (by omega) rfl
     have y9 := hc 9 _ (by omega) rfl
     have y10 := hc 10 _ (by omega) rfl
     simp only [Nat.add_zero, SlP.v] at y0 y1 y2 y3 y4 y5 y6 y7 y8 y9 y10
     clear hc e'
     have hmy := List.mem_of_getElem? hy
     have HY := hid hy
     have HCL := hid (HG.out _ hmy).c
     have K3 := (H.add (S := TgIn 5 ⟨un, ut, ub, ue, ⟨uoA, uon, uoc, uol⟩, uch, ⟨upA, upn, upc, upl⟩, ⟨uqA, uqn, uqc, uql⟩, ⟨urA, urn, urc, url⟩, ⟨ukA, ukn, ukc, ukl⟩, ⟨uaA, uan, uac, ual⟩⟩) ((H.ro 1 rfl).imp fun w2 h2 => h2.2 _ hmy)).alloc_cst #[.string un, .string ut, .bool ub, .int .i64 ue, .slice uoA uon uoc, .bool uch, .slice upA upn upc, .slice uqA uqn uqc, .slice urA urn urc, .slice ukA ukn ukc, .slice uaA uan uac] 40
     have HED := hid (show edgeI ts i k = el.any (efC ⟨un, ut, ub, ue, ⟨uoA, uon, uoc, uol⟩, uch, ⟨upA, upn, upc, upl⟩, ⟨uqA, uqn, uqc, uql⟩, ⟨urA, urn, urc, url⟩, ⟨ukA, ukn, ukc, ukl⟩, ⟨uaA, uan, uac, ual⟩⟩) from (edge_at HX.out HY.out).trans (HAN.out _).symm)
     clear H hy hmy
     obtain ⟨g8, hg8⟩ : ∃ g, g = wr.heap.size := ⟨_, rfl⟩
     rw [← hg8] at K3
     go_upto_region 9 with fail
     rw [← hg8]
     have HG8 := hid hg8
     clear hg8 y0 y1 y2 y3 y4 y5 y6 y7 y8 y9 y10
     generalize World.alloc _ _ = w6 at K3 ⊢
     go_wp2_with fail
     go_loopg [3, 30] en (fun gh ov jv wq => ∃ j : Nat, ov = .slice O q cc ∧ j + gh = en ∧ jv = .int .i64 j ∧ Hid ((el.take j).any (efC ⟨un, ut, ub, ue, ⟨uoA, uon, uoc, uol⟩, uch, ⟨upA, upn, upc, upl⟩, ⟨uqA, uqn, uqc, uql⟩, ⟨urA, urn, urc, url⟩, ⟨ukA, ukn, ukc, ukl⟩, ⟨uaA, uan, uac, ual⟩⟩) = false) ∧ Hold M none w wq [.cst g8 40 #[.string un, .string ut, .bool ub, .int .i64 ue, .slice uoA uon uoc, .bool uch, .slice upA upn upc, .slice uqA uqn uqc, .slice urA urn urc, .slice ukA ukn ukc, .slice uaA uan uac], .ro (TgIn 5 ⟨un, ut, ub, ue, ⟨uoA, uon, uoc, uol⟩, uch, ⟨upA, upn, upc, upl⟩, ⟨uqA, uqn, uqc, uql⟩, ⟨urA, urn, urc, url⟩, ⟨ukA, ukn, ukc, ukl⟩, ⟨uaA, uan, uac, ual⟩⟩), .own 61 2 (.slice O q cc) q (edCells (edgT ts i k)), .ro (TgsIn 5 (some ⟨b, o, none⟩) n ts), .ro (EfsIn EA en el)])
     case atStart => exact ⟨0, rfl, by omega, rfl, hid rfl, K3⟩
     case round =>
      clear K3
      obtain ⟨j, rfl, hj, rfl, HP, H⟩ := hrel
      cases gk with
      | succ gj =>
       have hjn : j < en := by omega
       have j0 : (0 : Int) ≤ (j : Int) := by omega
       have j1 : (j : Int) < (en : Int) := by omega
       obtain ⟨⟨xt, xe, ⟨cA, cn, cc2, cl⟩⟩, hz⟩ := get_of HEL.out hjn
       obtain ⟨bE, oE, rfl, hbE, z0, z1, z2⟩ := (H.ro 4 rfl).now.at_ hz
       have hmz := List.mem_of_getElem? hz
       have HZ := hid hz
       have hcn := HCB.out _ hmz
       have K4 := (H.add (S := EfIn ⟨xt, xe, ⟨cA, cn, cc2, cl⟩⟩) ((H.ro 4 rfl).imp fun w2 h2 => h2.2 _ hmz)).alloc_cst #[.string xt, .int .i64 xe, .slice cA cn cc2] 132
       clear H hz hmz
       obtain ⟨g10, hg10⟩ : ∃ g, g = wr.heap.size := ⟨_, rfl⟩
       rw [← hg10] at K4
       go_upto_region 12 with fail
       rw [← hg10]
       have HG10 := hid hg10
       clear hg10 z0 z1 z2
       generalize World.alloc _ _ = w7 at K4 ⊢
       have F4 := K4.facts
       simp only [factsL, cellsF, Nat.reduceAdd, zf, zl] at F4
       have hca := causes_any (Mut M _) _ K4.mutLt ⟨xt, xe, ⟨cA, cn, cc2, cl⟩⟩ ⟨un, ut, ub, ue, ⟨uoA, uon, uoc, uol⟩, uch, ⟨upA, upn, upc, upl⟩, ⟨uqA, uqn, uqc, uql⟩, ⟨urA, urn, urc, url⟩, ⟨ukA, ukn, ukc, ukl⟩, ⟨uaA, uan, uac, ual⟩⟩ (K4.ro 1 rfl) (K4.ro 3 rfl) hcn HCL.out
       simp only [Ef.val, Tg.val] at hca
       go_wp2_with fail
       refine hca.mono ?_
       rintro e w8 ⟨rfl, b8⟩
       have K5 := K4.call b8
       clear K4 F4 hca b8
       obtain ⟨z, hz⟩ : ∃ z : Bool, efC ⟨un, ut, ub, ue, ⟨uoA, uon, uoc, uol⟩, uch, ⟨upA, upn, upc, upl⟩, ⟨uqA, uqn, uqc, uql⟩, ⟨urA, urn, urc, url⟩, ⟨ukA, ukn, ukc, ukl⟩, ⟨uaA, uan, uac, ual⟩⟩ ⟨xt, xe, ⟨cA, cn, cc2, cl⟩⟩ = z := ⟨_, rfl⟩
       rw [hz]
       have HZZ := hid hz
       clear hz
       cases z
       ·go_wp2_with fail
        go_roundg gj
        case measure => omega
        case rel => exact ⟨j + 1, rfl, by omega, by go_num, hid (by rw [take_nx HZ.out, List.any_append, HP.out]; simp [HZZ.out]), K5.drop ((List.sublist_cons_self _ _).cons _)⟩
       ·have HYES := hid (edgT_yes (show edgeI ts i k = true from HED.out.trans (List.any_eq_true.2 ⟨_, List.mem_of_getElem? HZ.out, HZZ.out⟩)))
        go_wp2_with (at_builtin; go_must (refine wpList_appH K5 4 rfl Tryz.elEd #[.int .i64 i, .int .i64 k] rfl (.tmp 37) (.tmp 41) rfl rfl _ (by first | rfl | simp) rfl rfl (by intro u hu; simp at hu; rcases hu with rfl | rfl <;> rfl) (by omega) (by omega) ?_); intro gA capA wA hcA hmA KB; simp only [zl] at KB)
        rw [edCells_snocN, ← HYES.out] at KB
        have KC := KB.pick [4, 5, 6] (by decide) rfl
        simp only [List.filterMap_cons, List.filterMap_nil, List.getElem?_cons_zero, List.getElem?_cons_succ] at KC
        go_roundg gm
        case measure => omega
        case rel => exact ⟨k + 1, q + 1, capA, _, by first | rfl | trivial, by omega, by go_num, by omega, KC⟩
      | zero =>
       obtain rfl : j = en := by omega
       have h := HP.out
       rw [List.take_of_length_le (by rw [HEL.out]; exact Nat.le_refl _)] at h
       have HNO := hid (edgT_no (show edgeI ts i k = false from HED.out.trans h))
       clear h
       have KC := H.drop ((List.sublist_cons_self _ _).cons _)
       rw [← HNO.out] at KC
       go_wp2_with fail
       go_roundg gm
       case measure => omega
       case rel => exact ⟨k + 1, q, cc, O, rfl, by omega, by go_num, by omega, KC⟩
    | zero =>
     obtain rfl : k = n := by omega
     have HRW := hid (show edgT ts i k = edgT ts (i + 1) 0 from by rw [← HL.out]; exact edgT_row ts i)
     have KC := H.drop (L' := [_, _]) (List.Sublist.cons_cons _ (List.Sublist.cons_cons _ (List.nil_sublist _)))
     rw [HRW.out] at KC
     clear H
     go_wp2_with fail
     rw [Exit.noGoto_normal]
     go_wp2_with fail
     go_roundg go
     case measure => omega
     case rel => exact ⟨i + 1, q, cc, O, rfl, by omega, by go_num, by omega, KC⟩
  | zero =>
   obtain rfl : i = n := by omega
   have HEN := hid (show edgT ts i 0 = (edgesT ts).map edI from by rw [← HL.out]; exact edgT_end ts)
   rw [HEN.out] at H
   go_wp2_with fail
   go_ret
   have KZ := H.sealRow 0 rfl
   simp only [List.set_cons_zero] at KZ
   exact ⟨O, q, cc, rfl, by omega, (KZ.ro 0 rfl).less (fun b hb => .inl hb), KZ.below⟩
end Go.Proofs.YtnbbllkbefagmaaGreatDoor

namespace Go.Proofs.YtnbbllkbefagmaaGreatDoor
open Go.RowKit
set_option linter.unusedVariables false
set_option linter.unusedSimpArgs false

theorem beqE_no {xs ys : List Ed} {k : Nat} {x y : Ed} (hx : xs[k]? = some x) (hy : ys[k]? = some y) (h : x ≠ y) : decide (xs = ys) = false := by
 rw [decide_eq_false_iff_not]
 rintro rfl
 rw [hx] at hy
 exact h (by injection hy)
set_option maxHeartbeats 4000000 in
set_option maxRecDepth 100000 in
theorem eqEds_any (w : World) (A : Option Addr) (n c : Nat) (xs : List Ed) (B : Option Addr) (m d : Nat) (ys : List Ed) (hD : EdsIn A n xs w) (hE : EdsIn B m ys w) (hn : n ≤ 1000000) :
  Calls Tryz.prog 21 #[.slice A n c, .slice B m d] w fun e w' => e = .returned (.bool (decide (xs = ys))) ∧ ∃ q, w' = w.drewN q := by
 have HL := hid hD.len
 have HK := hid hE.len
 by_cases hnm : n = m
 ·subst hnm
  have hb : ((n : Int) != (n : Int)) = false := by simp
  go_enter Tryz.func21, Tryz.ntmps21
  go_wp2_with fail
  go_loopw [13] (fun i wr => ∃ (k q : Nat), k ≤ n ∧ i = .int .i64 k ∧ wr = w.drewN q ∧ Hid (xs.take k = ys.take k)) (fun i _ => n - (intOf i).toNat)
  case atStart => exact ⟨0, 0, by omega, rfl, rfl, hid (by simp)⟩
  case round =>
   obtain ⟨k, q, hk, rfl, rfl, HTK⟩ := hrel
   by_cases hlt : k < n
   ·have hd : decide ((k : Int) < (n : Int)) = true := by simp; omega
    have i0 : (0 : Int) ≤ (k : Int) := by omega
    have i1 : (k : Int) < (n : Int) := by omega
    obtain ⟨x, hx⟩ := get_of HL.out hlt
    obtain ⟨y, hy⟩ := get_of HK.out hlt
    obtain ⟨g, o, rfl, hbx, x0, x1⟩ := hD.at_ hx
    obtain ⟨g', o', rfl, hby, y0, y1⟩ := hE.at_ hy
    have HX := hid hx; have HY := hid hy; clear hx hy
    by_cases hf : x.f = y.f
    ·by_cases ht : x.t = y.t
     ·have e1 : (x.f == y.f) = true := by simpa using hf
      have e2 : (x.t == y.t) = true := by simpa using ht
      have HXY := hid (show x = y by cases x; cases y; simp_all)
      clear hf ht
      go_wp2_with fail
      go_quiet (fail)
      go_wp2_with fail
      go_roundw
      case rel => exact ⟨k + 1, q + nq, by omega, by go_num, by first | rfl | exact World.drewN_drewN .., hid (take_eq_succ HX.out HY.out HTK.out HXY.out)⟩
      case measure => simp [intOf]; omega
     ·have e1 : (x.f == y.f) = true := by simpa using hf
      have e2 : (x.t == y.t) = false := by simpa using ht
      have HN := hid (beqE_no HX.out HY.out (by intro h; exact ht (by rw [h])))
      clear hf ht
      go_wp2_with fail
      go_quiet (fail)
      go_wp2_with fail
      go_ret
      exact ⟨by rw [HN.out] <;> rfl, q + nq, World.drewN_drewN ..⟩
    ·have e1 : (x.f == y.f) = false := by simpa using hf
     have HN := hid (beqE_no HX.out HY.out (by intro h; exact hf (by rw [h])))
     clear hf
     go_wp2_with fail
     go_quiet (fail)
     go_wp2_with fail
     go_ret
     exact ⟨by rw [HN.out] <;> rfl, q + nq, World.drewN_drewN ..⟩
   ·obtain rfl : n = k := by omega
    have hd : decide ((n : Int) < (n : Int)) = false := by simp
    have HE := hid (show decide (xs = ys) = true by
     have h := HTK.out
     rw [List.take_of_length_le (by rw [HL.out]; exact Nat.le_refl _), List.take_of_length_le (by rw [HK.out]; exact Nat.le_refl _)] at h
     simp [h])
    go_wp2_with fail
    go_ret
    exact ⟨by rw [HE.out] <;> rfl, q, rfl⟩
 ·have hb : ((n : Int) != (m : Int)) = true := by simp; omega
  have HB := hid (show decide (xs = ys) = false by
   rw [decide_eq_false_iff_not]; rintro rfl; have := HL.out; have := HK.out; omega)
  go_enter Tryz.func21, Tryz.ntmps21
  go_wp2_with fail
  go_ret
  exact ⟨by rw [HB.out] <;> rfl, 0, rfl⟩
end Go.Proofs.YtnbbllkbefagmaaGreatDoor

namespace Go.Proofs.YtnbbllkbefagmaaGreatDoor
open Go.RowKit
set_option linter.unusedVariables false
set_option linter.unusedSimpArgs false
def zE27 : Ex := ⟨0, 0, false, ⟨0, 0, ⟨#[]⟩⟩, ⟨#[]⟩, ⟨#[]⟩, none, 0, 0, [], none, 0, 0, []⟩
def ac1 : Ac := ⟨1, ⟨#[117]⟩, SlP.nil, SlP.nil, SlP.nil, SlP.nil, ⟨#[]⟩⟩
def ac2 (g : Nat) : Ac := ⟨2, ⟨#[116]⟩, SlP.nil, SlP.nil, ⟨some ⟨g, 0, none⟩, 1, 1, [⟨⟨#[110]⟩, zE27⟩]⟩, SlP.nil, ⟨#[]⟩⟩
def tga (g h : Nat) : Tg := ⟨⟨#[97]⟩, ⟨#[116]⟩, false, 1, SlP.nil, false, SlP.nil, SlP.nil, SlP.nil, SlP.nil, ⟨some ⟨h, 0, none⟩, 2, 2, [ac1, ac2 g]⟩⟩
def tgb : Tg := ⟨⟨#[98]⟩, ⟨#[117]⟩, false, 1, SlP.nil, false, SlP.nil, SlP.nil, SlP.nil, SlP.nil, SlP.nil⟩
def tgc (g : Nat) : Tg := ⟨⟨#[99]⟩, ⟨#[116]⟩, false, 2, ⟨some ⟨g, 0, none⟩, 1, 1, [⟨#[98]⟩]⟩, false, SlP.nil, SlP.nil, SlP.nil, SlP.nil, SlP.nil⟩
theorem edges27 (g h k : Nat) : (edgesT [tga g h, tgb, tgc k]).map edI = [⟨0, 1⟩] := by kernel_rfl
theorem effs27 (g h : Nat) : ((tga g h).acts.l.filter dmlB).length = 2 := by kernel_rfl
theorem ed27 (g h k : Nat) : ∀ x ∈ [tga g h, tgb, tgc k], TgEd x := fun x hx => by
 simp only [List.mem_cons, List.not_mem_nil, or_false] at hx
 rcases hx with rfl | rfl | rfl
 ·exact ⟨(fun h => nomatch h), by simp [tga, SlP.nil], by simp [tga], fun a ha => by
   simp only [tga, List.mem_cons, List.not_mem_nil, or_false] at ha
   rcases ha with rfl | rfl <;> simp [ac1, ac2, SlP.nil]⟩
 ·exact ⟨(fun h => nomatch h), by simp [tgb, SlP.nil], by simp [tgb, SlP.nil], fun a ha => (nomatch ha)⟩
 ·exact ⟨(fun h => nomatch h), by simp [tgc], by simp [tgc, SlP.nil], fun a ha => (nomatch ha)⟩
theorem zE27_in (w : World) : ExIn 5 zE27 w := ExIn.le (d := 1) ⟨slr_nil 10 w, fun a ha => (nomatch ha), slr_nil 4 w, fun q hq => (nomatch hq)⟩ (by omega)
theorem tga_in {g h : Nat} {w : World} (h1 : SlR 11 (some ⟨g, 0, none⟩) 1 [.string ⟨#[110]⟩, .int .i64 0, .int .i64 0, .bool false, .int .i64 0, .int .i64 0, .string ⟨#[]⟩, .string ⟨#[]⟩, .string ⟨#[]⟩, .slice none 0 0, .slice none 0 0] w) (h2 : SlR 7 (some ⟨h, 0, none⟩) 2 (ac1.cells ++ (ac2 g).cells) w) : TgIn 5 (tga g h) w := by
 refine ⟨SlP.nil_in _ _ _ w, SlP.nil_in _ _ _ w, SlP.nil_in _ _ _ w, SlP.nil_in _ _ _ w, SlP.nil_in _ _ _ w, h2, fun x hx => ?_⟩
 simp only [tga, List.mem_cons, List.not_mem_nil, or_false] at hx
 rcases hx with rfl | rfl
 ·exact ⟨SlP.nil_in _ _ _ w, SlP.nil_in _ _ _ w, SlP.nil_in _ _ _ w, SlP.nil_in _ _ _ w⟩
 ·refine ⟨SlP.nil_in _ _ _ w, SlP.nil_in _ _ _ w, ⟨h1, fun s hs => ?_⟩, SlP.nil_in _ _ _ w⟩
  simp only [ac2, List.mem_cons, List.not_mem_nil, or_false] at hs
  subst hs
  exact zE27_in w
set_option maxHeartbeats 8000000 in
set_option maxRecDepth 100000 in
theorem known27 (w : World) : Calls Tryz.prog 16 #[] w fun e w' => e = .returned (.bool true) ∧ Below w.heap.size w w' := by
 have K1 := (((Hold.begin_ w).alloc_cst #[.string ⟨#[110]⟩, .int .i64 0, .int .i64 0, .bool false, .int .i64 0, .int .i64 0, .string ⟨#[]⟩, .string ⟨#[]⟩, .string ⟨#[]⟩, .slice none 0 0, .slice none 0 0] 128).alloc_cst #[.int .i64 1, .string ⟨#[117]⟩, .slice none 0 0, .slice none 0 0, .slice none 0 0, .slice none 0 0, .string ⟨#[]⟩, .int .i64 2, .string ⟨#[116]⟩, .slice none 0 0, .slice none 0 0, .slice (some ⟨w.heap.size, 0, none⟩) 1 1, .slice none 0 0, .string ⟨#[]⟩] 97).alloc_cst #[.string ⟨#[97]⟩, .string ⟨#[116]⟩, .bool false, .int .i64 1, .slice none 0 0, .bool false, .slice none 0 0, .slice none 0 0, .slice none 0 0, .slice none 0 0, .slice (some ⟨w.heap.size + 1, 0, none⟩) 2 2] 40
 simp only [World.size_alloc] at K1
 have K2 := K1.alloc_cst #[.string ⟨#[98]⟩, .string ⟨#[117]⟩, .bool false, .int .i64 1, .slice none 0 0, .bool false, .slice none 0 0, .slice none 0 0, .slice none 0 0, .slice none 0 0, .slice none 0 0] 40
 simp only [World.size_alloc] at K2
 have K3 := (K2.alloc_cst #[.string ⟨#[98]⟩] 9).alloc_cst #[.string ⟨#[99]⟩, .string ⟨#[116]⟩, .bool false, .int .i64 2, .slice (some ⟨w.heap.size + 1 + 1 + 1 + 1, 0, none⟩) 1 1, .bool false, .slice none 0 0, .slice none 0 0, .slice none 0 0, .slice none 0 0, .slice none 0 0] 40
 simp only [World.size_alloc] at K3
 have K4 := K3.alloc_cst #[.string ⟨#[97]⟩, .string ⟨#[116]⟩, .bool false, .int .i64 1, .slice none 0 0, .bool false, .slice none 0 0, .slice none 0 0, .slice none 0 0, .slice none 0 0, .slice (some ⟨w.heap.size + 1, 0, none⟩) 2 2, .string ⟨#[98]⟩, .string ⟨#[117]⟩, .bool false, .int .i64 1, .slice none 0 0, .bool false, .slice none 0 0, .slice none 0 0, .slice none 0 0, .slice none 0 0, .slice none 0 0, .string ⟨#[99]⟩, .string ⟨#[116]⟩, .bool false, .int .i64 2, .slice (some ⟨w.heap.size + 1 + 1 + 1 + 1, 0, none⟩) 1 1, .bool false, .slice none 0 0, .slice none 0 0, .slice none 0 0, .slice none 0 0, .slice none 0 0] 40
 simp only [World.size_alloc] at K4
 go_enter Tryz.func16, Tryz.ntmps16
 have h1 : Ro _ _ (TgIn 5 (tga w.heap.size (w.heap.size + 1))) := ((show Ro _ _ (SlR 11 (some ⟨w.heap.size, 0, none⟩) 1 (Se.cells ⟨⟨#[110]⟩, zE27⟩)) from ro_block (K4.get 6 rfl) rfl).and (show Ro _ _ (SlR 7 (some ⟨w.heap.size + 1, 0, none⟩) 2 (ac1.cells ++ (ac2 w.heap.size).cells)) from ro_block (K4.get 5 rfl) rfl)).imp fun w3 h3 => tga_in h3.1 h3.2
 have hT : Ro _ _ (TgsIn 5 (some ⟨w.heap.size + 1 + 1 + 1 + 1 + 1 + 1, 0, none⟩) 3 [tga w.heap.size (w.heap.size + 1), tgb, tgc (w.heap.size + 1 + 1 + 1 + 1)]) := ((show Ro _ _ (SlR 11 (some ⟨w.heap.size + 1 + 1 + 1 + 1 + 1 + 1, 0, none⟩) 3 (tgCells [tga w.heap.size (w.heap.size + 1), tgb, tgc (w.heap.size + 1 + 1 + 1 + 1)])) from ro_block (K4.get 0 rfl) rfl).and (h1.and (show Ro _ _ (SlR 1 (some ⟨w.heap.size + 1 + 1 + 1 + 1, 0, none⟩) 1 (strc ⟨#[98]⟩)) from ro_block (K4.get 2 rfl) rfl))).imp fun w3 h3 => ⟨h3.1, fun x hx => by
  simp only [List.mem_cons, List.not_mem_nil, or_false] at hx
  rcases hx with rfl | rfl | rfl
  ·exact h3.2.1
  ·exact ⟨SlP.nil_in _ _ _ w3, SlP.nil_in _ _ _ w3, SlP.nil_in _ _ _ w3, SlP.nil_in _ _ _ w3, SlP.nil_in _ _ _ w3, SlP.nil_in _ _ _ w3⟩
  ·exact ⟨⟨h3.2.2, fun _ _ => trivial⟩, SlP.nil_in _ _ _ w3, SlP.nil_in _ _ _ w3, SlP.nil_in _ _ _ w3, SlP.nil_in _ _ _ w3, SlP.nil_in _ _ _ w3⟩⟩
 have HC1 := hid (edges_any (Mut None_ _) _ K4.mutLt _ 3 3 _ hT (by omega) (ed27 _ _ _))
 have HC2 := hid h1
 have F1 := K1.facts
 simp only [factsL, cellsF, Nat.reduceAdd, zf, zl] at F1
 have F2 := K2.facts
 simp only [factsL, cellsF, Nat.reduceAdd, zf, zl] at F2
 have F3 := K3.facts
 simp only [factsL, cellsF, Nat.reduceAdd, zf, zl] at F3
 clear K1 K2 K3 h1 hT
 go_wp2_with fail
 clear F1 F2 F3
 refine HC1.out.mono ?_
 rintro e w1 ⟨B, m, q, rfl, hm, rE, b1⟩
 rw [edges27] at rE
 obtain rfl : m = 1 := rE.now.len.symm
 have K5 := ((K4.call b1).add (rE)).add ((HC2.out).below b1 |>.less (by simp [mut_cons, Hp.foot]))
 have K6 := K5.alloc_cst #[.int .i64 0, .int .i64 1] 61
 have F5 := K5.facts
 simp only [factsL, cellsF, Nat.reduceAdd, zf, zl] at F5
 clear K4 b1 rE HC1 HC2
 have HE := hid (eqEds_any _ B 1 q [⟨0, 1⟩] (some ⟨w1.heap.size, 0, none⟩) 1 1 [⟨0, 1⟩] (K6.ro 2 rfl).now (ro_block (K6.get 0 rfl) rfl : Ro _ _ (EdsIn (some ⟨w1.heap.size, 0, none⟩) 1 [⟨0, 1⟩])).now (by omega))
 go_wp2_with fail
 refine HE.out.mono ?_
 rintro e w2 ⟨rfl, nq, rfl⟩
 have K7 := K6.drewN nq
 have F7 := K7.facts
 simp only [factsL, cellsF, Nat.reduceAdd, zf, zl] at F7
 clear K5 K6 F5 HE
 have hef := effects_any (Mut None_ _) _ K7.mutLt (tga w.heap.size (w.heap.size + 1)) none 0 0 [] (K7.ro 1 rfl) (fun w3 _ _ => ⟨slr_nil 11 w3, fun _ hx => (nomatch hx)⟩) (by omega) (fun _ hx => (nomatch hx)) (ed27 w.heap.size (w.heap.size + 1) 0 _ (List.mem_cons_self ..))
 go_wp2_with fail
 refine hef.mono ?_
 rintro e w3 ⟨EA, en, ec, el, rfl, -, -, hel, -, re, b3⟩
 obtain rfl : en = 2 := (re.now.len.symm.trans (hel rfl)).trans (effs27 _ _)
 have HB := hid (K7.call b3).below
 clear K7 F7 hef hel re b3
 go_wp2_with fail
 go_ret
 exact ⟨rfl, HB.out⟩
end Go.Proofs.YtnbbllkbefagmaaGreatDoor

namespace Go.Proofs.YtnbbllkbefagmaaGreatDoor
open Go.RowKit
set_option linter.unusedVariables false
set_option linter.unusedSimpArgs false
theorem mem_stepE {xs : List Ed} {x y : Ed} {j : Nat} (h : decide (x ∈ xs.take j) = false) (hy : xs[j]? = some y) (hn : ¬ x = y) : decide (x ∈ xs.take (j + 1)) = false := by
 rw [decide_eq_false_iff_not] at *
 rw [List.take_add_one, hy, List.mem_append]
 rintro (h1 | h1)
 ·exact h h1
 ·simp at h1; exact hn h1
theorem mem_hitE {xs : List Ed} {x y : Ed} {j : Nat} (hy : xs[j]? = some y) (he : x = y) : decide (x ∈ xs) = true := decide_eq_true (he ▸ List.mem_of_getElem? hy)
set_option maxHeartbeats 4000000 in
set_option maxRecDepth 100000 in
theorem eix_any (w : World) (A : Option Addr) (n c : Nat) (xs : List Ed) (f t : Int) (hD : Ro w None_ (EdsIn A n xs)) (hn : n ≤ 1000000) :
  Calls Tryz.prog 59 #[.slice A n c, .agg #[.int .i64 f, .int .i64 t]] w fun e w' => (∃ r : Int, e = .returned (.int .i64 r) ∧ decide (r ≥ 0) = decide ((⟨f, t⟩ : Ed) ∈ xs)) ∧ Below w.heap.size w w' := by
 have HL := hid hD.now.len
 have K0 := ((Hold.start None_ w zn).add (hD.less (by simp [Mut]))).alloc_cst #[.int .i64 f, .int .i64 t] 61
 clear hD
 obtain ⟨g, hg⟩ : ∃ g, g = w.heap.size := ⟨_, rfl⟩
 rw [← hg] at K0
 go_enter Tryz.func59, Tryz.ntmps59
 go_upto_region 1 with fail
 rw [← hg]
 have HGG := hid hg
 clear hg
 generalize World.alloc _ _ = w1 at K0 ⊢
 go_wp2_with fail
 go_loopw [8] (fun i wr => ∃ k : Nat, k ≤ n ∧ i = .int .i64 k ∧ Hid (decide ((⟨f, t⟩ : Ed) ∈ xs.take k) = false) ∧ Hold None_ none w wr [.cst g 61 #[.int .i64 f, .int .i64 t], .ro (EdsIn A n xs)]) (fun i _ => n - (intOf i).toNat)
 case atStart => exact ⟨0, by omega, rfl, hid (by simp), K0⟩
 case round =>
  clear K0
  obtain ⟨k, hk, rfl, HP, H⟩ := hrel
  by_cases hlt : k < n
  ·have i0 : (0 : Int) ≤ (k : Int) := by omega
   have i1 : (k : Int) < (n : Int) := by omega
   obtain ⟨⟨yf, yt⟩, hy⟩ := get_of HL.out hlt
   obtain ⟨b, o, rfl, hb, y0, y1⟩ := (H.ro 1 rfl).now.at_ hy
   dsimp only at y0 y1
   have HY := hid hy
   clear hy
   have F := H.facts
   simp only [factsL, cellsF, Nat.reduceAdd, zf, zl] at F
   by_cases hf : f = yf
   ·by_cases ht : t = yt
    ·have e1 : (f == yf) = true := by simpa using hf
     have e2 : (t == yt) = true := by simpa using ht
     have HH := hid (mem_hitE (x := ⟨f, t⟩) HY.out (by rw [hf, ht]))
     clear hf ht
     go_wp2_with fail
     go_quiet (fail)
     go_wp2_with fail
     go_ret
     exact ⟨⟨k, rfl, by rw [HH.out]; simp⟩, (H.drewN nq).below⟩
    ·have e1 : (f == yf) = true := by simpa using hf
     have e2 : (t == yt) = false := by simpa using ht
     have HN := hid (mem_stepE (x := ⟨f, t⟩) HP.out HY.out (by intro h; injection h with h1 h2; exact ht h2))
     clear hf ht
     go_wp2_with fail
     go_quiet (fail)
     go_wp2_with fail
     go_roundw
     case rel => exact ⟨k + 1, by omega, by go_num, HN, H.drewN nq⟩
     case measure => simp [intOf]; omega
   ·have e1 : (f == yf) = false := by simpa using hf
    have HN := hid (mem_stepE (x := ⟨f, t⟩) HP.out HY.out (by intro h; injection h with h1 h2; exact hf h1))
    clear hf
    go_wp2_with fail
    go_quiet (fail)
    go_wp2_with fail
    go_roundw
    case rel => exact ⟨k + 1, by omega, by go_num, HN, H.drewN nq⟩
    case measure => simp [intOf]; omega
  ·obtain rfl : n = k := by omega
   have h := HP.out
   rw [List.take_of_length_le (by rw [HL.out]; exact Nat.le_refl _)] at h
   have HN := hid h
   clear h
   go_wp2_with fail
   go_ret
   exact ⟨⟨-1, rfl, by rw [HN.out]; rfl⟩, H.below⟩
set_option maxHeartbeats 4000000 in
theorem ect_any (w : World) (A : Option Addr) (n c : Nat) (xs : List Ed) (f t : Int) (hD : Ro w None_ (EdsIn A n xs)) (hn : n ≤ 1000000) :
  Calls Tryz.prog 20 #[.slice A n c, .agg #[.int .i64 f, .int .i64 t]] w fun e w' => e = .returned (.bool (decide ((⟨f, t⟩ : Ed) ∈ xs))) ∧ Below w.heap.size w w' := by
 have K0 := ((Hold.start None_ w zn).add (hD.less (by simp [Mut]))).alloc_cst #[.int .i64 f, .int .i64 t] 61
 have F0 := K0.facts
 simp only [factsL, cellsF, Nat.reduceAdd, zf, zl] at F0
 go_enter Tryz.func20, Tryz.ntmps20
 go_wp2_with fail
 refine (eix_any _ A n c xs f t ((K0.ro 1 rfl).less zn) hn).mono ?_
 rintro e w1 ⟨⟨r, rfl, hr⟩, b1⟩
 have HR := hid hr
 have HB := hid (K0.call b1).below
 clear hr b1 K0 F0
 go_wp2_with fail
 go_ret
 exact ⟨by rw [← HR.out] <;> rfl, HB.out⟩
end Go.Proofs.YtnbbllkbefagmaaGreatDoor

namespace Go.Proofs.YtnbbllkbefagmaaGreatDoor
open Go.RowKit
set_option linter.unusedVariables false
set_option linter.unusedSimpArgs false
theorem slr_take {k : Nat} {A : Option Addr} {n j : Nat} {xs : List Value} {w : World} (h : SlR k A n xs w) (hj : j ≤ n) : SlR k A j (xs.take (j * k)) w := by
 have h : Rd w w.heap.size k A n xs := h
 refine ⟨by rw [List.length_take, h.1]; exact Nat.min_eq_left (Nat.mul_le_mul_right _ hj), fun h0 => ?_⟩
 obtain ⟨b, o, e, hb, hc⟩ := h.2 (by omega)
 refine ⟨b, o, e, hb, fun i u hu => hc i u ?_⟩
 rw [List.getElem?_take] at hu
 split at hu
 ·exact hu
 ·cases hu
theorem slr_drop {k b o n j : Nat} {xs : List Value} {w : World} (h : SlR k (some ⟨b, o, none⟩) n xs w) (hj : j ≤ n) : SlR k (some ⟨b, o + j * k, none⟩) (n - j) (xs.drop (j * k)) w := by
 have h : Rd w w.heap.size k (some ⟨b, o, none⟩) n xs := h
 refine ⟨by rw [List.length_drop, h.1, Nat.sub_mul], fun h0 => ?_⟩
 obtain ⟨b', o', e, hb, hc⟩ := h.2 (by omega)
 obtain ⟨rfl, rfl⟩ : b = b' ∧ o = o' := by injection e with e; injection e with a1 a2; exact ⟨a1, a2⟩
 refine ⟨b, o + j * k, rfl, hb, fun i u hu => ?_⟩
 rw [Nat.add_assoc]
 exact hc _ u (by rwa [List.getElem?_drop] at hu)
theorem flat_takeK {α : Type} (f : α → List Value) (k : Nat) (hf : ∀ x, (f x).length = k) : ∀ (l : List α) (j : Nat), (l.flatMap f).take (j * k) = (l.take j).flatMap f
 | [], j => by simp
 | x :: l, 0 => by simp
 | x :: l, j + 1 => by
  rw [List.flatMap_cons, List.take_succ_cons, List.flatMap_cons, ← flat_takeK f k hf l j, Nat.succ_mul, List.take_append, hf x, Nat.add_sub_cancel, List.take_of_length_le (by rw [hf x]; omega)]
theorem flat_dropK {α : Type} (f : α → List Value) (k : Nat) (hf : ∀ x, (f x).length = k) : ∀ (l : List α) (j : Nat), (l.flatMap f).drop (j * k) = (l.drop j).flatMap f
 | [], j => by simp
 | x :: l, 0 => by simp
 | x :: l, j + 1 => by
  rw [List.flatMap_cons, List.drop_succ_cons, ← flat_dropK f k hf l j, Nat.succ_mul, List.drop_append, hf x, Nat.add_sub_cancel, List.drop_of_length_le (by rw [hf x]; omega), List.nil_append]
theorem tgs_take {A : Option Addr} {n j : Nat} {l : List Tg} {w : World} (h : SlR 11 A n (tgCells l) w) (hj : j ≤ n) : SlR 11 A j (tgCells (l.take j)) w := by
 have := slr_take h hj
 rwa [tgCells, flat_takeK Tg.cells 11 (fun _ => rfl)] at this
theorem tgs_drop {b o n j : Nat} {l : List Tg} {w : World} (h : SlR 11 (some ⟨b, o, none⟩) n (tgCells l) w) (hj : j ≤ n) : SlR 11 (some ⟨b, o + j * 11, none⟩) (n - j) (tgCells (l.drop j)) w := by
 have := slr_drop h hj
 rwa [tgCells, flat_dropK Tg.cells 11 (fun _ => rfl)] at this
def OwnTgs (w : World) (l : List Tg) (e : Ending) (w' : World) : Prop :=
 ∃ (A : Option Addr) (n c : Nat), e = .returned (.slice A n c) ∧ n = l.length ∧ w'.ownsRow w.heap.size 40 11 (.slice A n c) n (tgCells l) ∧ Below w.heap.size w w'
set_option maxHeartbeats 4000000 in
set_option maxRecDepth 100000 in
theorem cloneTgO_any (w : World) (A : Option Addr) (n c : Nat) (l : List Tg) (hD : SlR 11 A n (tgCells l) w) (hl : l.length = n) (hn : n ≤ 1000) :
  Calls Tryz.prog 18 #[.slice A n c] w fun e w' => OwnTgs w l e w' := by
 have hq : ∀ (w : World) (a : Option Addr) (n c : Nat), (binOp .eql 25 (.slice a n c) (.slice none 0 0)).run Tryz.prog w = .ok (.bool a.isNone) w := fun w a n c => Go.Lib.run_eql_slice_nil w _ _ a n c 0 0 Tryz.underlying25
 rcases A with _ | a
 ·have h0 : n = 0 := by
   rcases Nat.eq_zero_or_pos n with h | h
   ·exact h
   ·obtain ⟨_, _, e, _⟩ := (show Rd w w.heap.size 11 none n (tgCells l) from hD).2 h; cases e
  subst h0
  obtain rfl : l = [] := List.length_eq_zero_iff.1 hl
  go_enter Tryz.func18, Tryz.ntmps18
  go_wp2_with fail
  go_ret
  exact ⟨none, 0, 0, rfl, rfl, World.ownsRow_nil _ _ _ _, Below.refl _ _⟩
 ·have K0 := (Hold.start None_ w (fun b hb => hb.elim)).add (show Ro w _ (SlR 11 (some a) n (tgCells l)) from Rd.ro hD (Nat.le_refl _) (by simp [Mut, None_]))
  have K1 := K0.alloc_own #[] 40 11 0 (by unfold maxLen; omega) rfl
  have hr := hid (show SlR 11 (some a) n (tgCells l) _ from (K1.ro 1 rfl).now)
  have h1 := hid (one_tgs l)
  have HL := hid hl
  clear hl
  go_enter Tryz.func18, Tryz.ntmps18
  go_wp2_with (at_builtin; go_must (refine wpList_appAllH K1 0 rfl Tryz.elTgD hr.out rfl (.tmp 5) (.tmp 6) rfl rfl rfl h1.out (by omega) (by omega) ?_); intro C' cap' w2 hc1 hm1 K2)
  go_ret
  have hb := K2.below
  have ho := K2.get 0 rfl
  simp only [Nat.zero_add, List.nil_append] at ho
  exact ⟨C', n, cap', by first | rfl | simp, HL.out.symm, ho, hb⟩
end Go.Proofs.YtnbbllkbefagmaaGreatDoor

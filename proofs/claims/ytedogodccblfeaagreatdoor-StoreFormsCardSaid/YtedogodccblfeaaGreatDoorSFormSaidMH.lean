/- SFormSaid: Valid, Find, Put and Bags return what the chapter says, for all stores, names and tables. No further conditions. -/
import Derived.Test.YtedogodccblfeaaGreatDoorSFormSaidMG
import Derived.Test.YtedogodccblfeaaGreatDoorSFormSaidME
import Derived.Test.YtedogodccblfeaaGreatDoorSFormSaidMD
import Derived.Shelf.SlSortCmp.InsertionK
import Derived.Sort.LotA
import Derived.Test.YtedogodccblfeaaGreatDoorProg
import Derived.Test.YtedogodccblfeaaGreatDoorSFormSaidMA
import Derived.Shelf.SlSortCmp.NoneTotal
import Derived.Test.YtedogodccblfeaaGreatDoorSFormSaidMB
import Derived.Laws.EntriesVeiled
import Derived.Deep.RegionHeld3
import Derived.IntWalk
import Derived.Deep.DeepCutAuto
import Derived.Test.YtedogodccblfeaaGreatDoorSFormSaidMF
import Derived.Deep.Slices
import Derived.Deep.Fields
import Derived.ChangeSame
import Derived.Lib.SmallJoins
import Derived.Test.YtedogodccblfeaaGreatDoorSFormSaidMC
import Derived.Test.YtedogodccblfeaaGreatDoorCards
import Derived.Test.YtedogodccblfeaaGreatDoorTie
namespace Go.Proofs.YtedogodccblfeaaGreatDoor
open Go.RowKit
set_option linter.unusedVariables false
set_option linter.unusedSimpArgs false

theorem results_tmp3 {fn : Func} {t u v : Tmp} (h : fn.results = #[.tmp t, .tmp u, .tmp v]) (tmps : Array Value) (P : Program) (w : World) :
    (results fn tmps).run P w = .ok (.tuple #[tmps.getD t undef, tmps.getD u undef, tmps.getD v undef]) w := by
  simp [results, h]
def NumsRet (w : World) (M : Nat → Prop) (xs ys : List Int) (e : Ending) (w' : World) : Prop := ∃ (A : Option Addr) (n c : Nat) (B : Option Addr) (m d : Nat), e = .returned (.tuple #[.slice A n c, .slice B m d, .bool true]) ∧ n = xs.length ∧ m = ys.length ∧ Ro w' M (IsIn A n xs) ∧ Ro w' M (IsIn B m ys) ∧ Below w.heap.size w w'
set_option maxHeartbeats 8000000 in
set_option maxRecDepth 100000 in
theorem snums_any (M : Nat → Prop) (w : World) (hM : ∀ b, M b → b < w.heap.size) (x : Ue) (N K : Nat) (hN : N ≤ 1000000) (hg : x.good N K) (rx : Ro w M (UeIn x)) (hnd : (x.li ++ x.lu.map Rw.id ++ x.ld.map Rw.id).Nodup) :
    Calls Tryz.prog 128 #[.agg #[.string x.nm, .int .i64 x.nx, .slice x.I x.ni x.ci, .slice x.D x.nd x.cd, .slice x.U x.nu x.cu]] w fun e w' => NumsRet w M (x.li ++ x.lu.map Rw.id) (x.ld.map Rw.id) e w' := by
  obtain ⟨xnm, xnx, xI, xni, xci, xD, xnd, xcd, xU, xnu, xcu, li, ld, lu⟩ := x
  dsimp only at hnd ⊢
  have HG := hid hg
  have HND := hid hnd
  have hni : xni ≤ 1000000 := Nat.le_trans hg.i hN
  have hnx : xnd ≤ 1000000 := Nat.le_trans hg.d hN
  have hnu : xnu ≤ 1000000 := Nat.le_trans hg.u hN
  have hcd := hg.cd
  have hcu := hg.cu
  dsimp only at hcd hcu
  have HI64 := hid (show ∀ z ∈ li ++ lu.map Rw.id ++ ld.map Rw.id, I64 z from fun z hz => by
    rcases List.mem_append.1 hz with hz | hz
    · rcases List.mem_append.1 hz with hz | hz
      · exact hg.li z hz
      · obtain ⟨r, hr, rfl⟩ := List.mem_map.1 hz; exact (hg.lu r hr).1.id
    · obtain ⟨r, hr, rfl⟩ := List.mem_map.1 hz; exact (hg.ld r hr).1.id)
  have HLI := hid (show li.length = xni from rx.now.1.len)
  have HLD := hid (show ld.length = xnd from rx.now.2.1.len)
  have HLU := hid (show lu.length = xnu from rx.now.2.2.len)
  have K0 := ((((Hold.start M w hM).add (show Ro w _ (IsIn xI xni li) from (rx.imp fun w h => h.1).less (by simp [Mut]))).add (show Ro w _ (RwsIn xD xnd ld) from (rx.imp fun w h => h.2.1).less (by simp [Mut, Hp.foot]))).add (show Ro w _ (RwsIn xU xnu lu) from (rx.imp fun w h => h.2.2).less (by simp [Mut, Hp.foot]))).alloc_cst #[.string xnm, .int .i64 xnx, .slice xI xni xci, .slice xD xnd xcd, .slice xU xnu xcu] 129
  obtain ⟨gx, hgx⟩ : ∃ g, g = w.heap.size := ⟨_, rfl⟩
  rw [← hgx] at K0
  clear rx hg hnd
  have hmm := @run_makeMap Tryz.prog
  have F0 := K0.facts
  simp only [World.size_alloc, World.size_drew, factsL, cellsF, Nat.reduceAdd, List.toList_toArray, List.set_cons_zero, List.set_cons_succ, List.setIfInBounds_toArray, and_true, true_and] at F0
  go_enter Tryz.func128, Tryz.ntmps128
  rw [hgx] at F0
  go_wp2_with fail
  rw [← hgx] at F0 ⊢
  have HGX := hid hgx
  clear hgx
  refine (scloneI_any _ xI xni xci li (K0.ro 3 rfl).now (by omega)).mono ?_
  rintro e w1 ⟨O0, q0, cap0, rfl, hq0, ho, hb⟩
  have K1 := K0.callOwn hb ho
  have hq1 : q0 = xni := by rw [hq0, HLI.out]
  obtain rfl : xni = q0 := hq1.symm
  clear K0 F0 hb ho hq0 hq1
  have F1 := K1.facts
  simp only [World.size_alloc, World.size_drew, factsL, cellsF, Nat.reduceAdd, List.toList_toArray, List.set_cons_zero, List.set_cons_succ, List.setIfInBounds_toArray, and_true, true_and] at F1
  go_wp2_with fail
  clear F1
  go_loopw [2, 18] (fun ov iv wr => ∃ (k q cap : Nat) (O : Option Addr), k ≤ xnu ∧ q = xni + k ∧ iv = .int .i64 k ∧ ov = .slice O q cap ∧ Hold M none w wr [.own 3 1 (.slice O q cap) q (iCells (li ++ (lu.take k).map Rw.id)), .cst gx 129 #[.string xnm, .int .i64 xnx, .slice xI xni xci, .slice xD xnd xcd, .slice xU xnu xcu], .ro (RwsIn xU xnu lu), .ro (RwsIn xD xnd ld), .ro (IsIn xI xni li)]) (fun _ iv _ => xnu - (intOf iv).toNat)
  case atStart => exact ⟨0, xni, cap0, O0, by omega, by omega, rfl, rfl, by simpa using K1⟩
  case round =>
    clear K1
    obtain ⟨k, q, cap, O, hk, hq, rfl, rfl, H⟩ := hrel
    have hqb : q ≤ 3000000 := by omega
    have HQ := hid hq
    clear hq
    by_cases hlt : k < xnu
    · have hd : decide ((k : Int) < (xnu : Int)) = true := by simp; omega
      have j0 : (0 : Int) ≤ (k : Int) := by omega
      have j1 : (k : Int) < (xnu : Int) := by omega
      obtain ⟨r, hx⟩ := get_of HLU.out hlt
      obtain ⟨g, o, rfl, hb, c0, c1, -⟩ := (H.ro 2 rfl).now.at_ hx
      have HCE := hid (show iCells (li ++ (lu.take k).map Rw.id) ++ (#[Value.int .i64 r.id]).toList = iCells (li ++ (lu.take (k + 1)).map Rw.id) by rw [List.take_add_one, hx]; simp [iCells])
      clear hx
      have K1 := H.alloc_cst #[.int .i64 r.id, .slice r.A r.n r.c] 119
      have FA := K1.facts
      simp only [World.size_alloc, World.size_drew, factsL, cellsF, Nat.reduceAdd, List.toList_toArray, List.set_cons_zero, List.set_cons_succ, List.setIfInBounds_toArray, and_true, true_and] at FA
      clear H
      go_wp2_with (at_builtin; go_must (refine wpList_appH K1 1 rfl Tryz.elIntC #[.int .i64 r.id] rfl (.tmp 22) (.tmp 25) rfl rfl _ (by first | rfl | simp) rfl rfl (by intro u hu; simp at hu; rcases hu with rfl; rfl) (by omega) (by omega) ?_); intro g9 cap9 w9 hc9 hm9 KB; rw [HCE.out] at KB; simp only [List.set_cons_zero, List.set_cons_succ] at KB)
      go_roundw
      case rel => exact ⟨k + 1, q + 1, cap9, _, by omega, by (have := HQ.out; omega), by go_num, by first | rfl | trivial, KB.drop (List.sublist_cons_self _ _)⟩
      case measure => simp [intOf]; omega
    · obtain rfl : xnu = k := by omega
      have hd : decide ((xnu : Int) < (xnu : Int)) = false := by simp
      rw [List.take_of_length_le (by rw [HLU.out]; exact Nat.le_refl _)] at H
      have KS := H.sealRow 0 rfl
      simp only [List.set_cons_zero] at KS
      have KT : Hold M none w wr [.ro (IsIn O q (li ++ lu.map Rw.id)), .cst gx 129 #[.string xnm, .int .i64 xnx, .slice xI xni xci, .slice xD xnd xcd, .slice xU xnu xcu], .ro (RwsIn xU xnu lu), .ro (RwsIn xD xnd ld), .ro (IsIn xI xni li)] := KS
      have K2 := KT.nil 3 1
      clear H KS KT
      have F2 := K2.facts
      simp only [World.size_alloc, World.size_drew, factsL, cellsF, Nat.reduceAdd, List.toList_toArray, List.set_cons_zero, List.set_cons_succ, List.setIfInBounds_toArray, and_true, true_and] at F2
      go_wp2_with fail
      clear F2
      go_loopw [3, 31] (fun ov iv wr => ∃ (k cap2 : Nat) (O2 : Option Addr), k ≤ xnd ∧ iv = .int .i64 k ∧ ov = .slice O2 k cap2 ∧ Hold M none w wr [.own 3 1 (.slice O2 k cap2) k (iCells ((ld.take k).map Rw.id)), .ro (IsIn O q (li ++ lu.map Rw.id)), .cst gx 129 #[.string xnm, .int .i64 xnx, .slice xI xni xci, .slice xD xnd xcd, .slice xU xnu xcu], .ro (RwsIn xU xnu lu), .ro (RwsIn xD xnd ld), .ro (IsIn xI xni li)]) (fun _ iv _ => xnd - (intOf iv).toNat)
      case atStart => exact ⟨0, 0, none, by omega, rfl, rfl, K2⟩
      case round =>
        clear K2
        obtain ⟨k, cap2, O2, hk, rfl, rfl, H⟩ := hrel
        by_cases hlt : k < xnd
        · have hd : decide ((k : Int) < (xnd : Int)) = true := by simp; omega
          have j0 : (0 : Int) ≤ (k : Int) := by omega
          have j1 : (k : Int) < (xnd : Int) := by omega
          obtain ⟨r, hx⟩ := get_of HLD.out hlt
          obtain ⟨g, o, rfl, hb, c0, c1, -⟩ := (H.ro 4 rfl).now.at_ hx
          have HCE := hid (show iCells ((ld.take k).map Rw.id) ++ (#[Value.int .i64 r.id]).toList = iCells ((ld.take (k + 1)).map Rw.id) by rw [List.take_add_one, hx]; simp [iCells])
          clear hx
          have K1 := H.alloc_cst #[.int .i64 r.id, .slice r.A r.n r.c] 119
          have FA := K1.facts
          simp only [World.size_alloc, World.size_drew, factsL, cellsF, Nat.reduceAdd, List.toList_toArray, List.set_cons_zero, List.set_cons_succ, List.setIfInBounds_toArray, and_true, true_and] at FA
          clear H
          go_wp2_with (at_builtin; go_must (refine wpList_appH K1 1 rfl Tryz.elIntC #[.int .i64 r.id] rfl (.tmp 35) (.tmp 38) rfl rfl _ (by first | rfl | simp) rfl rfl (by intro u hu; simp at hu; rcases hu with rfl; rfl) (by omega) (by omega) ?_); intro g9 cap9 w9 hc9 hm9 KB; rw [HCE.out] at KB; simp only [List.set_cons_zero, List.set_cons_succ] at KB)
          go_roundw
          case rel => exact ⟨k + 1, cap9, _, by omega, by go_num, by first | rfl | trivial, KB.drop (List.sublist_cons_self _ _)⟩
          case measure => simp [intOf]; omega
        · obtain rfl : xnd = k := by omega
          have hd : decide ((xnd : Int) < (xnd : Int)) = false := by simp
          rw [List.take_of_length_le (by rw [HLD.out]; exact Nat.le_refl _)] at H
          have KS := H.sealRow 0 rfl
          simp only [List.set_cons_zero] at KS
          have KT : Hold M none w wr [.ro (IsIn O2 xnd (ld.map Rw.id)), .ro (IsIn O q (li ++ lu.map Rw.id)), .cst gx 129 #[.string xnm, .int .i64 xnx, .slice xI xni xci, .slice xD xnd xcd, .slice xU xnu xcu], .ro (RwsIn xU xnu lu), .ro (RwsIn xD xnd ld), .ro (IsIn xI xni li)] := KS
          have KM := Hold.mset KT 4 intFam
          rw [show (fun _ : Int => False) = (fun z => z ∈ ([] : List Int)) by funext z; simp] at KM
          obtain ⟨gm, hgm⟩ : ∃ gm, gm = wr.heap.size := ⟨_, rfl⟩
          rw [← hgm] at KM
          have KN := KM.alloc_cst #[.slice O q cap, .slice O2 xnd cap2] 22
          obtain ⟨gn, hgn⟩ : ∃ gn, gn = gm + 1 := ⟨_, rfl⟩
          rw [World.size_alloc, ← hgm, ← hgn] at KN
          clear H KS KT KM
          go_wp2_with fail
          rw [← hgm, ← hgn]
          have HGM := hid (And.intro hgm hgn)
          clear hgm hgn
          have hG : Ro _ _ (SlR 1 (some ⟨gn, 0, none⟩) 2 [.slice O q cap, .slice O2 xnd cap2]) := ro_block (KN.get 0 rfl) rfl
          refine (catI_any _ _ KN.mutLt gn O q cap (li ++ lu.map Rw.id) O2 xnd cap2 (ld.map Rw.id) hG (KN.ro 3 rfl) (KN.ro 2 rfl) (by omega) (by omega)).mono ?_
          rintro e w3 ⟨O3, q3, cap3, rfl, hq3, ho3, hb3⟩
          have hcap3 := own_caps ho3
          have KP := (KN.callOwn hb3 ho3).sealRow 0 rfl
          simp only [List.set_cons_zero] at KP
          have KQ : Hold M none w w3 (.ro (IsIn O3 q3 (li ++ lu.map Rw.id ++ ld.map Rw.id)) :: .cst gn 22 #[.slice O q cap, .slice O2 xnd cap2] :: .ob gm (MSet 4 intFam gm 0 (fun z => z ∈ ([] : List Int))) :: [.ro (IsIn O2 xnd (ld.map Rw.id)), .ro (IsIn O q (li ++ lu.map Rw.id)), .cst gx 129 #[.string xnm, .int .i64 xnx, .slice xI xni xci, .slice xD xnd xcd, .slice xU xnu xcu], .ro (RwsIn xU xnu lu), .ro (RwsIn xD xnd ld), .ro (IsIn xI xni li)]) := KP
          have KR := KQ.drop (show List.Sublist [.ro (IsIn O3 q3 (li ++ lu.map Rw.id ++ ld.map Rw.id)), .ob gm (MSet 4 intFam gm 0 (fun z => z ∈ ([] : List Int))), .ro (IsIn O2 xnd (ld.map Rw.id)), .ro (IsIn O q (li ++ lu.map Rw.id)), .cst gx 129 #[.string xnm, .int .i64 xnx, .slice xI xni xci, .slice xD xnd xcd, .slice xU xnu xcu], .ro (RwsIn xU xnu lu), .ro (RwsIn xD xnd ld), .ro (IsIn xI xni li)] _ from .cons_cons _ (.cons _ (List.Sublist.refl _)))
          obtain ⟨al, hal⟩ : ∃ al, al = li ++ lu.map Rw.id ++ ld.map Rw.id := ⟨_, rfl⟩
          rw [← hal] at KR hq3
          have HAL := hid hal
          have hq9 : q3 ≤ 10000000 := by rw [hq3, hal, List.length_append, List.length_append, List.length_map, List.length_map, HLI.out, HLU.out, HLD.out]; omega
          have HQ3 := hid hq3
          clear KN KP KQ hb3 ho3 hG hal hq3
          go_wp2_with fail
          go_loopw [2, 3, 47] (fun av bv iv wr => ∃ (k : Nat), k ≤ q3 ∧ av = .slice O q cap ∧ bv = .slice O2 xnd cap2 ∧ iv = .int .i64 k ∧ Hold M none w wr [.ro (IsIn O3 q3 al), .ob gm (MSet 4 intFam gm k (fun z => z ∈ al.take k)), .ro (IsIn O2 xnd (ld.map Rw.id)), .ro (IsIn O q (li ++ lu.map Rw.id)), .cst gx 129 #[.string xnm, .int .i64 xnx, .slice xI xni xci, .slice xD xnd xcd, .slice xU xnu xcu], .ro (RwsIn xU xnu lu), .ro (RwsIn xD xnd ld), .ro (IsIn xI xni li)]) (fun _ _ iv _ => q3 - (intOf iv).toNat)
          case atStart => exact ⟨0, by omega, rfl, rfl, rfl, KR⟩
          case round =>
            clear KR
            obtain ⟨k, hk, rfl, rfl, rfl, H⟩ := hrel
            by_cases hlt : k < q3
            · have hd : decide ((k : Int) < (q3 : Int)) = true := by simp; omega
              have j0 : (0 : Int) ≤ (k : Int) := by omega
              have j1 : (k : Int) < (q3 : Int) := by omega
              obtain ⟨b, o, rfl, hb, hcc⟩ := (H.ro 0 rfl).now.cells (by omega)
              have hkl : k < al.length := by rw [← HQ3.out]; exact hlt
              have hx : al[k]? = some (al.getD k 0) := by simp [List.getD, hkl]
              have ck := hcc k hkl
              clear hcc
              generalize al.getD k 0 = z at *
              have hzi : I64 z := HI64.out z (by rw [← HAL.out]; exact List.mem_of_getElem? hx)
              have hzn : z ∉ al.take k := fun hm => by
                obtain ⟨i, hi, he⟩ := List.getElem_of_mem hm
                have hi2 : i < k := by rw [List.length_take] at hi; omega
                have nd : al.Nodup := by rw [HAL.out]; exact HND.out
                have h1 : al[i]? = some z := by rw [← he, List.getElem_take]; exact List.getElem?_eq_getElem (by omega)
                have h2 := (List.getElem?_inj (by omega : i < al.length) nd).1 (h1.trans hx.symm)
                omega
              have HS := hid (show (fun y => y = z ∨ y ∈ al.take k) = (fun y => y ∈ al.take (k + 1)) by
                funext y
                rw [List.take_add_one, hx]
                simp [or_comm])
              have HZN := hid hzn
              clear hx hzn
              go_wp2_with first
                | (at_lookup; go_must (refine wpList_look H 1 rfl Tryz.setI rfl (.tmp 51) (.tmp 52) rfl rfl z rfl hzi ?_); intro cb hcb; obtain rfl : cb = false := (by cases cb; rfl; exact absurd (hcb.1 rfl) HZN.out); clear hcb)
                | (at_mapUpdate; go_must (refine wpList_put H 1 rfl Tryz.setI rfl (.tmp 54) (.tmp 55) _ rfl rfl z rfl rfl hzi (by unfold maxLen; omega) ?_); intro w5 K5)
              rw [HS.out] at K5
              simp only [List.set_cons_zero, List.set_cons_succ] at K5
              go_roundw
              case rel => exact ⟨k + 1, by omega, rfl, rfl, by go_num, K5⟩
              case measure => simp [intOf]; omega
            · obtain rfl : q3 = k := by omega
              have hd : decide ((q3 : Int) < (q3 : Int)) = false := by simp
              have r1 := H.roOut 3 rfl
              have r2 := H.roOut 2 rfl
              have HB := hid H.below
              have HL1 := hid (r1.now.len)
              have HL2 := hid (r2.now.len)
              clear H
              go_wp2_with fail
              (try simp only [Exit.inBlock, Exit.then])
              refine bodyPost_ret (results_tmp3 rfl _ _ _) rfl ?_
              exact ⟨O, q, cap, O2, xnd, cap2, rfl, HL1.out.symm, HL2.out.symm, r1, r2, HB.out⟩
end Go.Proofs.YtedogodccblfeaaGreatDoor

namespace Go.Proofs
open Go.Shelf
def Tryz.insRw_ren : Go.Shelf.Ren := ⟨fun | 20 => 221 | n => n, fun | 22 => 41 | 24 => 119 | 25 => 200 | 3 => 3 | 0 => 0 | 4 => 4 | n => n, fun | n => n⟩
theorem Tryz.insRw : Go.Proofs.SlLaysF0.n20 Tryz.prog Tryz.insRw_ren := {
  mixed := by kernel_rfl
  f20 := ⟨Tryz.f221.name, by decide, Tryz.func221.trans (congrArg some (by kernel_rfl))⟩
  t0 := Tryz.underlying0
  a0 := Tryz.isAgg0
  z0 := Tryz.sizeOf0
  v0 := Tryz.zeroValue0
  t3 := Tryz.underlying3
  a3 := Tryz.isAgg3
  z3 := Tryz.sizeOf3
  v3 := Tryz.zeroValue3
  t4 := Tryz.underlying4
  a4 := Tryz.isAgg4
  z4 := Tryz.sizeOf4
  v4 := Tryz.zeroValue4
  t22 := Tryz.underlying41
  a22 := Tryz.isAgg41
  z22 := Tryz.sizeOf41
  v22 := Tryz.zeroValue41
  t25 := Tryz.underlying200
  a25 := Tryz.isAgg200
  z25 := Tryz.sizeOf200
  v25 := Tryz.zeroValue200 }
end Go.Proofs

namespace Go.Proofs.YtedogodccblfeaaGreatDoor
open Go.RowKit Go.Sort
set_option linter.unusedVariables false
set_option linter.unusedSimpArgs false

theorem sortWd_heap {α : Type} [Inhabited α] (enc : α → Value) (w : World) (g m : Nat) (d : Array α) (os : Array Obj) {b : Nat} (hb : b < w.heap.size) (hne : b ≠ g) : (sortWorld enc w g 0 m d os).heap[b]? = w.heap[b]? := by
  show ((w.heap.modify g _) ++ os)[b]? = _
  rw [Array.getElem?_append, if_pos (by simpa using hb), Array.getElem?_modify, if_neg (fun e => hne e.symm)]
theorem sortWd_size {α : Type} [Inhabited α] (enc : α → Value) (w : World) (g m : Nat) (d : Array α) (os : Array Obj) : w.heap.size ≤ (sortWorld enc w g 0 m d os).heap.size := by
  show _ ≤ ((w.heap.modify g _) ++ os).size
  simp
theorem sortWd_at {α : Type} [Inhabited α] (enc : α → Value) (w : World) (g m : Nat) (d : Array α) (os : Array Obj) {cs : Array Value} {t : TypeId} (h : w.heap[g]? = some (.cells cs t (0, 0))) : (sortWorld enc w g 0 m d os).heap[g]? = some (.cells (Go.Sort.putCells enc 0 d cs) t (0, 0)) := by
  have hb : g < w.heap.size := (Array.getElem?_eq_some_iff.1 h).1
  show ((w.heap.modify g _) ++ os)[g]? = _
  rw [Array.getElem?_append, if_pos (by simpa using hb), Array.getElem?_modify, if_pos rfl, h]
  rfl
section
variable {α : Type} [Inhabited α] (enc : α → List Value) (k : Nat) (hk : ∀ x, (enc x).length = k)
include hk
theorem flatK_cell (d : Array α) {t : Nat} (ht : t < d.size * k) : (flatK enc k d)[t]! = (d.toList.flatMap enc)[t]?.getD default ∧ t < (d.toList.flatMap enc).length := by
  have hl : (d.toList.flatMap enc).length = d.size * k := by rw [flat_len enc k hk]; simp
  have k0 : 0 < k := by
    rcases Nat.eq_zero_or_pos k with h | h
    · subst h; simp at ht
    · exact h
  have h1 : t / k < d.size := Nat.div_lt_of_lt_mul (by rw [Nat.mul_comm]; exact ht)
  have h2 : t % k < k := Nat.mod_lt _ k0
  refine ⟨?_, by rw [hl]; exact ht⟩
  rw [get_flatK _ _ _ _ ht]
  have hx : d.toList[t / k]? = some d[t / k] := by rw [Array.getElem?_toList, Array.getElem?_eq_getElem h1]
  have h3 := flat_get enc k hk d.toList (t / k) (t % k) _ h2 hx
  rw [show t / k * k + t % k = t by rw [Nat.mul_comm]; exact Nat.div_add_mod t k] at h3
  rw [h3, getElem!_pos d _ h1]
  rw [getElem!_pos _ _ (by rw [hk]; exact h2), List.getElem?_eq_getElem (by rw [hk]; exact h2)]
  rfl
theorem flatK_at (d : Array α) {t : Nat} (ht : t < d.size * k) : (d.toList.flatMap enc)[t]? = some (flatK enc k d)[t]! := by
  obtain ⟨h1, h2⟩ := flatK_cell enc k hk d ht
  rw [h1, List.getElem?_eq_getElem h2]; rfl
theorem holdsK_own {w : World} {base : Nat} {e : TypeId} {g q cap : Nat} {d : Array α} (hs : d.size = q) (ho : w.ownsRow base e k (.slice (some ⟨g, 0, none⟩) q cap) q (d.toList.flatMap enc)) : HoldsK enc k w g 0 d := fun j hj => by
  rw [size_flatK] at hj
  rw [Nat.zero_add]
  refine ⟨(ho.cellAt j (by rw [← hs]; exact hj)).trans (flatK_at enc k hk d hj), ho.frozenAt j⟩
/-- an own row behind the sort -/
theorem own_sortK {w : World} {base : Nat} {e : TypeId} {g q cap : Nat} {xs : List Value} (ho : w.ownsRow base e k (.slice (some ⟨g, 0, none⟩) q cap) q xs) {d' : Array α} (hs : d'.size = q) (m : Nat) (os : Array Obj) : (sortWorldK enc k w g 0 m d' os).ownsRow base e k (.slice (some ⟨g, 0, none⟩) q cap) q (d'.toList.flatMap enc) := by
  have hl : (d'.toList.flatMap enc).length = q * k := by rw [flat_len enc k hk]; simp [hs]
  obtain ⟨hlen2, ⟨hv0, _⟩ | ⟨g', cap', cur, hveq, hbase, hcell, hqc, hcm, hcs, htk⟩⟩ := ho
  · cases hv0
  · injection hveq with e1 e2 e3
    injection e1 with e1
    injection e1 with e1
    subst e1; subst e3
    have hle : q * k ≤ cap * k := Nat.mul_le_mul_right _ hqc
    refine ⟨hl, .inr ⟨g, cap, _, rfl, hbase, sortWd_at id w g m (flatK enc k d') os hcell, hqc, hcm, ?_, ?_⟩⟩
    · rw [← hcs]
      show (cur.mapIdx _).size = _
      simp
    · refine List.ext_getElem? fun j => ?_
      by_cases hj : j < q * k
      · rw [List.getElem?_take, if_pos hj, flatK_at enc k hk d' (by rw [hs]; exact hj)]
        have hjc : j < cur.size := by rw [hcs]; omega
        show ((cur.mapIdx fun i x => if 0 ≤ i ∧ i < 0 + (flatK enc k d').size then id (flatK enc k d')[i - 0]! else x).toList)[j]? = _
        rw [Array.getElem?_toList, Array.getElem?_mapIdx, Array.getElem?_eq_getElem hjc]
        simp only [Option.map_some, Nat.zero_add, Nat.sub_zero, Nat.zero_le, true_and, size_flatK]
        rw [if_pos (by rw [hs]; exact hj)]
        rfl
      · rw [List.getElem?_eq_none (by rw [List.length_take]; omega), List.getElem?_eq_none (by rw [hl]; omega)]
theorem Hold.sortK {M : Nat → Prop} {row : Option Nat} {w0 w : World} {L : List Hp} (K : Hold M row w0 w L) (i : Nat) {e : TypeId} {g q cap : Nat} {xs : List Value} (hi : L[i]? = some (.own e k (.slice (some ⟨g, 0, none⟩) q cap) q xs)) {d' : Array α} (hs : d'.size = q) (m : Nat) (os : Array Obj) : Hold M row w0 (sortWorldK enc k w g 0 m d' os) (L.set i (.own e k (.slice (some ⟨g, 0, none⟩) q cap) q (d'.toList.flatMap enc))) := by
  have hg : g < w.heap.size := (K.fresh _ (List.mem_of_getElem? hi) g rfl).2
  exact K.append (w' := sortWorldK enc k w g 0 m d' os) i hi (own_sortK enc k hk (K.get i hi) hs m os) ⟨rfl, rfl, rfl, sortWd_size id w g m (flatK enc k d') os, fun b hb hne => sortWd_heap id w g m (flatK enc k d') os hb fun e => hne (by rw [e]; rfl)⟩ (.inl rfl) (Nat.lt_of_lt_of_le hg (sortWd_size id w g m (flatK enc k d') os))
end
end Go.Proofs.YtedogodccblfeaaGreatDoor

namespace Go.Proofs.YtedogodccblfeaaGreatDoor
open Go.RowKit Go.Sort
set_option linter.unusedVariables false
set_option linter.unusedSimpArgs false

instance rwInh : Inhabited Rw := ⟨⟨0, none, 0, 0, []⟩⟩
def cmpR (x y : Rw) : Int := cmpI x.id y.id
theorem cmpR_lt {x y : Rw} : cmpR x y < 0 ↔ x.id < y.id := by
  unfold cmpR cmpI
  split
  · simp [*]
  · split
    · constructor <;> intro h <;> omega
    · constructor <;> intro h <;> omega
theorem swoR : SWO (ltOf cmpR) where
  irrefl x := by unfold ltOf; rw [decide_eq_false_iff_not, cmpR_lt]; omega
  trans x y z h1 h2 := by unfold ltOf at *; rw [decide_eq_true_iff, cmpR_lt] at *; omega
  ntrans x y z h1 h2 := by unfold ltOf at *; rw [decide_eq_false_iff_not, cmpR_lt] at *; omega
set_option maxHeartbeats 2000000 in
theorem ucmp_gr (x y : Rw) (w : World) :
    Calls Tryz.prog 135 #[.agg #[.int .i64 x.id, .slice x.A x.n x.c], .agg #[.int .i64 y.id, .slice y.A y.n y.c]] w fun e w' => e = .returned (.int .i64 (cmpR x y)) ∧ Gr w w' := by
  have K0 := ((Hold.begin_ w).alloc_cst #[.int .i64 x.id, .slice x.A x.n x.c] 119).alloc_cst #[.int .i64 y.id, .slice y.A y.n y.c] 119
  have F0 := K0.facts
  simp only [World.size_alloc, World.size_drew, factsL, cellsF, Nat.reduceAdd, List.toList_toArray, List.set_cons_zero, List.set_cons_succ, List.setIfInBounds_toArray, and_true, true_and] at F0
  go_enter Tryz.func135, Tryz.ntmps135
  go_wp2_with fail
  refine (cmp_int x.id y.id _).mono ?_
  rintro e w3 ⟨rfl, rfl⟩
  go_wp2_with fail
  go_ret
  exact ⟨rfl, (Gr.alloc _ _).trans (Gr.alloc _ _)⟩
abbrev ucmpV : Value := .func (.func 135) #[] #[]
set_option maxHeartbeats 4000000 in
set_option maxRecDepth 100000 in
theorem stable_any (w : World) (A : Option Addr) (q cap : Nat) (hq : q ≤ 19) (Q : World → Prop) (hins : Calls Tryz.prog 221 #[.slice A q cap, .int .i64 0, .int .i64 q, ucmpV] w fun e w' => e = .returned (.tuple #[]) ∧ Q w') :
    Calls Tryz.prog 191 #[.slice A q cap, .int .i64 q, ucmpV] w fun e w' => e = .returned (.tuple #[]) ∧ Q w' := by
  have HI := hid hins
  clear hins
  have h1 : decide ((20 : Int) ≤ (q : Int)) = false := by rw [decide_eq_false_iff_not]; omega
  have h2 : decide ((20 : Int) < (q : Int)) = false := by rw [decide_eq_false_iff_not]; omega
  go_enter Tryz.func191, Tryz.ntmps191
  go_wp2_with fail
  go_loopw [7, 8] (fun av bv wr => av = .int .i64 0 ∧ bv = .int .i64 20 ∧ wr = w) (fun _ _ _ => 0)
  case atStart => exact ⟨rfl, rfl, rfl⟩
  case round =>
    obtain ⟨rfl, rfl, rfl⟩ := hrel
    go_wp2_with fail
    refine HI.out.mono ?_
    rintro e w2 ⟨rfl, hQ⟩
    have HQ := hid hQ
    clear hQ
    go_wp2_with fail
    go_loopw [6, 7, 8] (fun cv av bv wr => cv = .int .i64 20 ∧ wr = w2) (fun _ _ _ _ => 0)
    case atStart => exact ⟨rfl, rfl⟩
    case round =>
      obtain ⟨rfl, rfl⟩ := hrel
      go_wp2_with fail
      go_end0
      exact ⟨rfl, HQ.out⟩
theorem sortrw_any {M : Nat → Prop} {row : Option Nat} {w0 w : World} {L : List Hp} (K : Hold M row w0 w L) (i : Nat) {e : TypeId} {A : Option Addr} {q cap : Nat} {lo : List Rw} (hi : L[i]? = some (.own e 2 (.slice A q cap) q (rwCells lo))) (hq : q ≤ 19) :
    Calls Tryz.prog 134 #[.slice A q cap, ucmpV] w fun e' w' => e' = .returned (.tuple #[]) ∧ ∃ lo' : List Rw, lo'.Perm lo ∧ (lo'.map Rw.id).Pairwise (· ≤ ·) ∧ Hold M row w0 w' (L.set i (.own e 2 (.slice A q cap) q (rwCells lo'))) := by
  have ho : w.ownsRow w0.heap.size e 2 (.slice A q cap) q (rwCells lo) := K.get i hi
  have hl : lo.length = q := by have := ho.1; rw [rwCells_len] at this; omega
  have hst : Calls Tryz.prog 191 #[.slice A q cap, .int .i64 q, ucmpV] w fun e' w' => e' = .returned (.tuple #[]) ∧ ∃ lo' : List Rw, lo'.Perm lo ∧ (lo'.map Rw.id).Pairwise (· ≤ ·) ∧ Hold M row w0 w' (L.set i (.own e 2 (.slice A q cap) q (rwCells lo'))) := by
    refine stable_any w A q cap hq _ ?_
    rcases own_addr ho with ⟨rfl, rfl, rfl⟩ | ⟨g, rfl, hgb⟩
    · have hcon := AnyF.insertionSortCmpFunc_none Tryz.insRw none 0 ucmpV w
      change Calls Tryz.prog 221 _ _ _ at hcon
      refine hcon.mono ?_
      rintro e' w' ⟨rfl, rfl⟩
      obtain rfl : lo = [] := List.length_eq_zero_iff.1 hl
      refine ⟨rfl, [], List.Perm.refl _, by simp, ?_⟩
      rw [show L.set i (.own e 2 (.slice none 0 0) 0 (rwCells [])) = L from by
        apply List.ext_getElem?
        intro j
        rw [List.getElem?_set]
        split
        · subst i; split
          · exact hi.symm
          · rw [List.getElem?_eq_none (by omega)]
        · rfl]
      exact K
    · have hg : g < w.heap.size := (K.fresh _ (List.mem_of_getElem? hi) g rfl).2
      have hcmp : CmpLays Tryz.prog 135 #[] Rw.cells 2 cmpR g 0 lo.toArray.size w := fun m os dk hs x y => (ucmp_gr x y _).mono fun e' w' h => h
      have hcon := AnyQ.insertionSortCmpFunc Tryz.insRw 2 Tryz.isAgg119 Tryz.sizeOf119 Rw.cells (fun _ => rfl) (fun x v hv => by simp [Rw.cells] at hv; rcases hv with rfl | rfl <;> rfl) cmpR 135 #[] g 0 cap 0 q lo.toArray w (enters_of Tryz.func135 (by kernel_rfl) rfl) hcmp (holdsK_own Rw.cells 2 (fun _ => rfl) (d := lo.toArray) (by simpa using hl) ho) hg (Nat.zero_le _) (by simpa using Nat.le_of_eq hl.symm) (by simpa [hl] using (show q < 4611686018427387904 by omega))
      rw [show lo.toArray.size = q by simpa using hl] at hcon
      change Calls Tryz.prog 221 _ _ _ at hcon
      obtain ⟨⟨p1, p2, p3⟩, hs⟩ := insertionSort_holds (lt := ltOf cmpR) swoR lo.toArray 0 q (Nat.zero_le _) (by simpa using Nat.le_of_eq hl.symm)
      refine hcon.mono ?_
      rintro e' w' ⟨rfl, n, os, rfl⟩
      obtain ⟨d', hd'⟩ : ∃ d', d' = insertionSort (ltOf cmpR) lo.toArray 0 q := ⟨_, rfl⟩
      rw [← hd'] at p1 p2 p3 hs ⊢
      have p1 : d'.size = q := by simpa [hl] using p1
      have hall : d'.extract 0 q = d' := by rw [← p1]; simp
      have hall2 : lo.toArray.extract 0 q = lo.toArray := by rw [← hl]; simp
      rw [hall, hall2] at p3
      refine ⟨rfl, d'.toList, by simpa using p3, ?_, ?_⟩
      · rw [List.pairwise_map, List.pairwise_iff_getElem]
        intro a b ha hb hab
        have h1 := hs a b (Nat.zero_le _) hab (by simpa [p1] using hb)
        unfold ltOf at h1
        rw [decide_eq_false_iff_not, cmpR_lt] at h1
        rw [getElem!_pos d' a (by simpa using ha), getElem!_pos d' b (by simpa using hb)] at h1
        simpa using h1
      · exact K.sortK Rw.cells 2 (fun _ => rfl) i hi p1 n os
  have HST := hid hst
  clear hst K ho hi
  go_enter Tryz.func134, Tryz.ntmps134
  go_wp2_with fail
  refine HST.out.mono ?_
  rintro e' w' ⟨rfl, hr⟩
  have HR := hid hr
  clear hr HST
  go_wp2_with fail
  go_end0
  exact ⟨rfl, HR.out⟩
end Go.Proofs.YtedogodccblfeaaGreatDoor

namespace Go.Proofs.YtedogodccblfeaaGreatDoor
open Go.RowKit
set_option linter.unusedVariables false
set_option linter.unusedSimpArgs false

theorem ro_blkN {w : World} {g : Nat} {t : TypeId} {cs : Array Value} (h : w.heap[g]? = some (.cells cs t (0, 0))) : Ro w None_ (fun w => w.heap[g]? = some (.cells cs t (0, 0))) := fun w2 h1 h2 => (h2 g (Blk.lt (t := t) (cs := cs) h) (fun hm => hm.elim)).trans h
def UndoRet (w : World) (M : Nat → Prop) (t : Tb) (e : Ending) (w' : World) : Prop := ∃ x : Te, e = .returned (.tuple #[x.val, .bool true]) ∧ x.tb = t ∧ x.ok ∧ Ro w' M (TeIn x) ∧ Below w.heap.size w w'
set_option maxHeartbeats 16000000 in
set_option maxRecDepth 100000 in
theorem sundoT_any (M : Nat → Prop) (w : World) (hM : ∀ b, M b → b < w.heap.size) (x : Te) (u : Ue) (N K : Nat) (rs : List Row) (hN : N ≤ 1000000) (hx : x.ok) (hxm : x.m ≤ 1000000) (hg : u.good N K) (rx : Ro w M (TeIn x)) (ru : Ro w M (UeIn u)) (hok : UndOk x.l u.li u.ld u.lu rs) :
    Calls Tryz.prog 66 #[.agg #[.string x.nm, .slice x.A x.n x.c, .int .i64 x.nx, .slice x.B x.m x.d], .agg #[.string u.nm, .int .i64 u.nx, .slice u.I u.ni u.ci, .slice u.D u.nd u.cd, .slice u.U u.nu u.cu]] w fun e w' => UndoRet w M ⟨x.nm, x.cs, u.nx, rs⟩ e w' := by
  obtain ⟨xnm, xA, xn, xc, cs, xnx, xB, xm, xd, l⟩ := x
  obtain ⟨unm, unx, uI, uni, uci, uD, und, ucd, uU, unu, ucu, li, ld, lu⟩ := u
  dsimp only at hok hxm ⊢
  have HOK := hid hok
  have HG := hid hg
  have HX := hid hx
  have hni : uni ≤ 1000000 := Nat.le_trans hg.i hN
  have hnd : und ≤ 1000000 := Nat.le_trans hg.d hN
  have hnu : unu ≤ 1000000 := Nat.le_trans hg.u hN
  have hcd := hg.cd
  have hcu := hg.cu
  have hci := hg.ci
  have hxd := hx.md
  have hxd2 := hx.d
  dsimp only at hcd hcu hci hxd hxd2
  have HLI := hid (show li.length = uni from ru.now.1.len)
  have HLD := hid (show ld.length = und from ru.now.2.1.len)
  have HLU := hid (show lu.length = unu from ru.now.2.2.len)
  have HLL := hid (show l.length = xm from rx.now.2.len)
  have K0 := (((((Hold.start M w hM).add (show Ro w _ (ColsIn xA xn cs) from (rx.imp fun w h => h.1).less (by simp [Mut]))).add (show Ro w _ (RwsIn xB xm l) from (rx.imp fun w h => h.2).less (by simp [Mut, Hp.foot]))).add (show Ro w _ (IsIn uI uni li) from (ru.imp fun w h => h.1).less (by simp [Mut, Hp.foot]))).add (show Ro w _ (RwsIn uD und ld) from (ru.imp fun w h => h.2.1).less (by simp [Mut, Hp.foot]))).add (show Ro w _ (RwsIn uU unu lu) from (ru.imp fun w h => h.2.2).less (by simp [Mut, Hp.foot]))
  clear rx ru hok hg hx hN
  obtain ⟨gt, hgt⟩ : ∃ g, g = w.heap.size := ⟨_, rfl⟩
  obtain ⟨gu, hgu⟩ : ∃ g, g = gt + 1 := ⟨_, rfl⟩
  obtain ⟨gz, hgz⟩ : ∃ g, g = gu + 1 := ⟨_, rfl⟩
  obtain ⟨gf, hgf⟩ : ∃ g, g = gz + 1 := ⟨_, rfl⟩
  have K1 := (((K0.alloc #[.string xnm, .slice xA xn xc, .int .i64 xnx, .slice xB xm xd] 58).alloc_cst #[.string unm, .int .i64 unx, .slice uI uni uci, .slice uD und ucd, .slice uU unu ucu] 129).alloc #[.string ⟨#[]⟩, .slice none 0 0, .int .i64 0, .slice none 0 0] 58).alloc_cst #[hasV w.heap.size] 141
  simp only [World.size_alloc] at K1
  rw [← hgt, ← hgu, ← hgz, ← hgf] at K1
  clear K0
  have F1 := K1.facts
  simp only [World.size_alloc, World.size_drew, factsL, cellsF, Nat.reduceAdd, List.toList_toArray, List.set_cons_zero, List.set_cons_succ, List.setIfInBounds_toArray, and_true, true_and] at F1
  rw [hgf, hgz, hgu, hgt] at F1
  go_enter Tryz.func66, Tryz.ntmps66
  go_wp2_with fail
  rw [← hgt, ← hgu, ← hgz, ← hgf] at F1 ⊢
  have HGS := hid (And.intro hgt (And.intro hgu (And.intro hgz hgf)))
  clear hgt hgu hgz hgf
  refine (snums_any _ _ K1.mutLt ⟨unm, unx, uI, uni, uci, uD, und, ucd, uU, unu, ucu, li, ld, lu⟩ 1000000 K (by omega) ⟨hni, hnd, hnu, HG.out.ci, HG.out.cd, HG.out.cu, HG.out.li, HG.out.ld, HG.out.lu⟩ ((K1.ro 6 rfl).and ((K1.ro 5 rfl).and (K1.ro 4 rfl))) HOK.out.nd).mono ?_
  rintro e w1 ⟨A7, n7, c7, B8, n8, c8, rfl, h7, h8, r7, r8, b1⟩
  have K2 := ((K1.call b1).add r7).add (r8.less (by simp [Mut, Hp.foot]))
  have hn7 : n7 ≤ 3000000 := by rw [h7, List.length_append, List.length_map, HLI.out, HLU.out]; omega
  have hn8 : n8 ≤ 3000000 := by rw [h8, List.length_map, HLD.out]; omega
  clear K1 F1 r7 r8 b1 h7 h8
  have F2 := K2.facts
  simp only [World.size_alloc, World.size_drew, factsL, cellsF, Nat.reduceAdd, List.toList_toArray, List.set_cons_zero, List.set_cons_succ, List.setIfInBounds_toArray, and_true, true_and] at F2
  go_wp2_with fail
  refine (unever_any _ B8 n8 c8 (ld.map Rw.id) ⟨xnm, xA, xn, xc, cs, xnx, xB, xm, xd, l⟩ gt (ro_blkN (K2.blk_ 5 rfl)) ((K2.ro 9 rfl).less (fun b hb => hb.elim)) (by show xm ≤ _; omega) ((K2.ro 0 rfl).less (fun b hb => hb.elim)) (by omega) HOK.out.out).mono ?_
  rintro e w2 ⟨rfl, b2⟩
  have K3 := K2.call b2
  clear K2 F2 b2
  have F3 := K3.facts
  simp only [World.size_alloc, World.size_drew, factsL, cellsF, Nat.reduceAdd, List.toList_toArray, List.set_cons_zero, List.set_cons_succ, List.setIfInBounds_toArray, and_true, true_and] at F3
  go_wp2_with fail
  refine (uall_any _ A7 n7 c7 (li ++ lu.map Rw.id) ⟨xnm, xA, xn, xc, cs, xnx, xB, xm, xd, l⟩ gt gf 141 ((K3.get 2 rfl : Ro _ _ _).less (fun b hb => hb.elim)) (ro_blkN (K3.blk_ 5 rfl)) ((K3.ro 9 rfl).less (fun b hb => hb.elim)) (by show xm ≤ _; omega) ((K3.ro 1 rfl).less (fun b hb => hb.elim)) (by omega) HOK.out.inn).mono ?_
  rintro e w3 ⟨rfl, b3⟩
  have K4 := ((K3.call b3).drop (.cons _ (.cons _ (List.sublist_cons_self _ _)))).nil 119 2
  clear K3 F3 b3
  have F4 := K4.facts
  simp only [World.size_alloc, World.size_drew, factsL, cellsF, Nat.reduceAdd, List.toList_toArray, List.set_cons_zero, List.set_cons_succ, List.setIfInBounds_toArray, and_true, true_and] at F4
  go_wp2_with fail
  clear F4
  go_loopw [10, 37] (fun ov iv wr => ∃ (k q cap : Nat) (O : Option Addr), k ≤ xm ∧ q ≤ k ∧ iv = .int .i64 k ∧ ov = .slice O q cap ∧ Hold M none w wr [.own 119 2 (.slice O q cap) q (rwCells (leftW li lu (l.take k))), .blk gz 58 #[.string ⟨#[]⟩, .slice none 0 0, .int .i64 0, .slice none 0 0], .cst gu 129 #[.string unm, .int .i64 unx, .slice uI uni uci, .slice uD und ucd, .slice uU unu ucu], .blk gt 58 #[.string xnm, .slice xA xn xc, .int .i64 xnx, .slice xB xm xd], .ro (RwsIn uU unu lu), .ro (RwsIn uD und ld), .ro (IsIn uI uni li), .ro (RwsIn xB xm l), .ro (ColsIn xA xn cs)]) (fun _ iv _ => xm - (intOf iv).toNat)
  case atStart => exact ⟨0, 0, 0, none, by omega, by omega, rfl, rfl, K4⟩
  case round =>
    clear K4
    obtain ⟨k, q, cap, O, hk, hq, rfl, rfl, H⟩ := hrel
    by_cases hlt : k < xm
    · have hd : decide ((k : Int) < (xm : Int)) = true := by simp; omega
      have i0 : (0 : Int) ≤ (k : Int) := by omega
      have i1 : (k : Int) < (xm : Int) := by omega
      obtain ⟨r, hr⟩ := get_of HLL.out hlt
      obtain ⟨b, o, rfl, hb, c0, c1, -⟩ := (H.ro 7 rfl).now.at_ hr
      have HR := hid hr
      clear hr
      obtain ⟨gr, hgr⟩ : ∃ g, g = wr.heap.size := ⟨_, rfl⟩
      have K1 := H.alloc #[.int .i64 r.id, .slice r.A r.n r.c] 119
      rw [← hgr] at K1
      have FA := K1.facts
      simp only [World.size_alloc, World.size_drew, factsL, cellsF, Nat.reduceAdd, List.toList_toArray, List.set_cons_zero, List.set_cons_succ, List.setIfInBounds_toArray, and_true, true_and] at FA
      rw [hgr] at FA
      clear H
      go_wp2_with fail
      rw [← hgr] at FA ⊢
      have HGR := hid hgr
      clear hgr c0 c1
      refine (kcont_any _ uI uni uci li r.id (K1.ro 7 rfl).now (by omega)).mono ?_
      rintro e w4 ⟨rfl, rfl⟩
      cases hc : li.contains r.id
      · have HC := hid hc
        clear hc
        go_wp2_with fail
        refine (uturnI_any _ uU unu ucu lu gr r.id r.A r.n r.c 119 (ro_blkN (K1.blk_ 0 rfl)) ((K1.ro 5 rfl).less (fun b hb => hb.elim)) (by omega)).mono ?_
        rintro e w5 ⟨⟨ri, rfl, hri⟩, b5⟩
        have K5 := K1.call b5
        clear K1 FA b5
        have FB := K5.facts
        simp only [World.size_alloc, World.size_drew, factsL, cellsF, Nat.reduceAdd, List.toList_toArray, List.set_cons_zero, List.set_cons_succ, List.setIfInBounds_toArray, and_true, true_and] at FB
        rcases hri with ⟨kk, z, hz, hze, hzl, rfl⟩ | ⟨rfl, hno⟩
        · have h0 : decide ((kk : Int) ≥ 0) = true := by simp
          have hkk : kk < unu := by rw [← HLU.out]; exact (List.getElem?_eq_some_iff.1 hz).1
          have j0 : (0 : Int) ≤ (kk : Int) := by omega
          have j1 : (kk : Int) < (unu : Int) := by omega
          obtain ⟨b6, o6, rfl, hb6, d0, d1, -⟩ := (K5.ro 5 rfl).now.at_ hz
          have HT := hid (show rwCells (leftW li lu (l.take k)) ++ (#[Value.int .i64 z.id, .slice z.A z.n z.c]).toList = rwCells (leftW li lu (l.take (k + 1))) by
            rw [leftW_take HR.out, HC.out, if_neg (by simp), pickW_some hz hze hzl]; simp [rwCells, Rw.cells])
          clear hz hze hzl
          have K6 := (K5.store 0 rfl 0 (.int .i64 z.id)).store 0 rfl 1 (.slice z.A z.n z.c)
          simp only [List.set_cons_zero, List.set_cons_succ, List.setIfInBounds_toArray] at K6
          have N5 := K5.nes
          simp only [World.size_alloc, nesL, neF, List.set_cons_zero, List.set_cons_succ, and_true, true_and] at N5
          go_wp2_with (at_builtin; go_must (refine wpList_appH K6 1 rfl Tryz.elRw #[.int .i64 z.id, .slice z.A z.n z.c] rfl (.tmp 57) (.tmp 59) rfl rfl _ (by first | rfl | simp) rfl rfl (by intro u hu; simp at hu; rcases hu with rfl | rfl <;> rfl) (by omega) (by omega) ?_); intro g9 cap9 w9 hc9 hm9 KB; rw [HT.out] at KB; simp only [List.set_cons_zero, List.set_cons_succ] at KB)
          go_roundw
          case rel => exact ⟨k + 1, q + 1, cap9, _, by omega, by omega, by go_num, by first | rfl | trivial, KB.drop (List.sublist_cons_self _ _)⟩
          case measure => simp [intOf]; omega
        · have h0 : decide ((-1 : Int) ≥ 0) = false := by decide
          have HT := hid (show rwCells (leftW li lu (l.take k)) ++ (#[Value.int .i64 r.id, .slice r.A r.n r.c]).toList = rwCells (leftW li lu (l.take (k + 1))) by
            rw [leftW_take HR.out, HC.out, if_neg (by simp), pickW_none hno]; simp [rwCells, Rw.cells])
          clear hno
          go_wp2_with (at_builtin; go_must (refine wpList_appH K5 1 rfl Tryz.elRw #[.int .i64 r.id, .slice r.A r.n r.c] rfl (.tmp 57) (.tmp 59) rfl rfl _ (by first | rfl | simp) rfl rfl (by intro u hu; simp at hu; rcases hu with rfl | rfl <;> rfl) (by omega) (by omega) ?_); intro g9 cap9 w9 hc9 hm9 KB; rw [HT.out] at KB; simp only [List.set_cons_zero, List.set_cons_succ] at KB)
          go_roundw
          case rel => exact ⟨k + 1, q + 1, cap9, _, by omega, by omega, by go_num, by first | rfl | trivial, KB.drop (List.sublist_cons_self _ _)⟩
          case measure => simp [intOf]; omega
      · have HT := hid (show leftW li lu (l.take k) = leftW li lu (l.take (k + 1)) by rw [leftW_take HR.out, hc, if_pos rfl]; simp)
        clear hc
        go_wp2_with fail
        go_roundw
        case rel => exact ⟨k + 1, q, cap, O, by omega, by omega, by go_num, by first | rfl | trivial, by rw [← HT.out]; exact K1.drop (List.sublist_cons_self _ _)⟩
        case measure => simp [intOf]; omega
    · obtain rfl : xm = k := by omega
      have hd : decide ((xm : Int) < (xm : Int)) = false := by simp
      rw [List.take_of_length_le (by rw [HLL.out]; exact Nat.le_refl _)] at H
      have hqd := hid (show q + und = (leftW li lu l ++ ld).length by
        have := (H.get 0 rfl).1
        rw [rwCells_len] at this
        rw [List.length_append, HLD.out]; omega)
      have hq19 : q + und ≤ 19 := by rw [hqd.out]; exact HOK.out.len
      have F6 := H.facts
      simp only [World.size_alloc, World.size_drew, factsL, cellsF, Nat.reduceAdd, List.toList_toArray, List.set_cons_zero, List.set_cons_succ, List.setIfInBounds_toArray, and_true, true_and] at F6
      have hrd := hid (show SlR 2 uD und (rwCells ld) wr from (H.ro 5 rfl).now.1)
      have e9 : rwCells (leftW li lu l) ++ rwCells ld = rwCells (leftW li lu l ++ ld) := by simp [rwCells]
      have HE9 := hid e9
      clear e9
      go_wp2_with (at_builtin; go_must (refine wpList_appAllH H 0 rfl Tryz.elRw hrd.out rfl (.tmp 62) (.tmp 64) rfl rfl rfl (one_rws _) (by omega) (by omega) ?_); intro C' cap' w6 hc6 hm6 KB; rw [HE9.out] at KB; simp only [List.set_cons_zero, List.set_cons_succ] at KB; (have FB := KB.facts); simp only [World.size_alloc, World.size_drew, factsL, cellsF, Nat.reduceAdd, List.toList_toArray, List.set_cons_zero, List.set_cons_succ, List.setIfInBounds_toArray, and_true, true_and] at FB)
      have KC := KB.store 3 rfl 3 (.slice C' (q + und) cap')
      simp only [List.set_cons_zero, List.set_cons_succ, List.setIfInBounds_toArray] at KC
      refine (sortrw_any KC 0 rfl hq19).mono ?_
      rintro e w7 ⟨rfl, lo, hp, hs, K7⟩
      simp only [List.set_cons_zero] at K7
      have HP := hid (And.intro hp (HOK.out.fin lo hp hs))
      clear KB KC FB F6 H hp hs hrd
      have hcap := own_caps (K7.get 0 rfl)
      have K8 := K7.sealRow 0 rfl
      simp only [List.set_cons_zero] at K8
      have F := K8.facts
      simp only [World.size_alloc, World.size_drew, factsL, cellsF, Nat.reduceAdd, List.toList_toArray, List.set_cons_zero, List.set_cons_succ, List.setIfInBounds_toArray, and_true, true_and] at F
      have NE := K8.nes
      simp only [World.size_alloc, nesL, neF, List.set_cons_zero, List.set_cons_succ, and_true, true_and] at NE
      have KN := ((((K8.store 3 rfl 2 (.int .i64 unx)).store 1 rfl 0 (.string xnm)).store 1 rfl 1 (.slice xA xn xc)).store 1 rfl 2 (.int .i64 unx)).store 1 rfl 3 (.slice C' (q + und) cap')
      have hmem : ∀ r ∈ lo, r ∈ l ∨ r ∈ lu ∨ r ∈ ld := fun r hr => by
        rcases List.mem_append.1 (HP.out.1.mem_iff.1 hr) with h | h
        · rcases leftW_mem h with h | h
          · exact .inl h
          · exact .inr (.inl h)
        · exact .inr (.inr h)
      have HME := hid hmem
      clear hmem
      have rV := ((KN.roOut 4 rfl).and ((KN.roOut 5 rfl).and (KN.roOut 7 rfl))).imp (S' := ValsIn lo) fun w2 h2 r hr => by
        rcases HME.out r hr with h | h | h
        · exact h2.2.2.2 r h
        · exact h2.1.2 r h
        · exact h2.2.1.2 r h
      have r0 := (KN.roOut 8 rfl).and ((KN.roOut 0 rfl).and rV)
      go_wp2_with fail
      exact bodyPost_ret (v := .tuple #[.agg #[.string xnm, .slice xA xn xc, .int .i64 unx, .slice C' (q + und) cap'], .bool true]) (by simp [results, Tryz.results66, go_sem, F, NE]) rfl
        ⟨⟨xnm, xA, xn, xc, cs, unx, C', q + und, cap', lo⟩, rfl, by simp only [Te.tb, HP.out.2], ⟨HX.out.nc, HX.out.c, hcap.1, hcap.2.1, fun r hr => by
          rcases HME.out r hr with h | h | h
          · exact HX.out.l r h
          · exact (HG.out.lu r h).1
          · exact (HG.out.ld r h).1⟩, r0, KN.below⟩
end Go.Proofs.YtedogodccblfeaaGreatDoor

namespace Go.Proofs.YtedogodccblfeaaGreatDoor
open Go.RowKit
set_option linter.unusedVariables false
set_option linter.unusedSimpArgs false

/-- the answer of undo in a slot -/
def UndSl (M : Nat → Prop) (t : Tb) (u : Value) (w : World) : Prop := ∃ y : Te, u = .tuple #[y.val, .bool true] ∧ y.tb = t ∧ y.ok ∧ Ro w M (TeIn y)
theorem undSl_mono {M : Nat → Prop} {t : Tb} (u : Value) (w w' : World) (hr : RM M w w') (h : UndSl M t u w) : UndSl M t u w' := by
  obtain ⟨y, h1, h2, h3, h4⟩ := h
  exact ⟨y, h1, h2, h3, hr.ro h4⟩
def TesSl (M : Nat → Prop) (ts : List Tb) (u : Value) (w : World) : Prop := ∃ (A : Option Addr) (n c : Nat) (l : List Te), u = .slice A n c ∧ n ≤ c ∧ c ≤ 9223372036854775807 ∧ l.map Te.tb = ts ∧ (∀ x ∈ l, x.ok) ∧ Ro w M (TesIn A n l)
theorem tesSl_mono {M : Nat → Prop} {ts : List Tb} (u : Value) (w w' : World) (hr : RM M w w') (h : TesSl M ts u w) : TesSl M ts u w' := by
  obtain ⟨A, n, c, l, h1, h2, h3, h4, h5, h6⟩ := h
  exact ⟨A, n, c, l, h1, h2, h3, h4, h5, hr.ro h6⟩
def UesSl (M : Nat → Prop) (N K : Nat) (us : List Ud) (u : Value) (w : World) : Prop := ∃ (A : Option Addr) (n c : Nat) (l : List Ue), u = .slice A n c ∧ n ≤ c ∧ c ≤ 9223372036854775807 ∧ l.map Ue.ud = us ∧ (∀ x ∈ l, x.good N K) ∧ Ro w M (UesIn A n l)
theorem uesSl_mono {M : Nat → Prop} {N K : Nat} {us : List Ud} (u : Value) (w w' : World) (hr : RM M w w') (h : UesSl M N K us u w) : UesSl M N K us u w' := by
  obtain ⟨A, n, c, l, h1, h2, h3, h4, h5, h6⟩ := h
  exact ⟨A, n, c, l, h1, h2, h3, h4, h5, hr.ro h6⟩
/-- what Rollback hands back -/
def RollRet (w : World) (M : Nat → Prop) (N K : Nat) (ts : List Tb) (us : List Ud) (e : Ending) (w' : World) : Prop := ∃ (A : Option Addr) (n c : Nat) (l : List Te) (B : Option Addr) (m d : Nat) (g : List Ue), e = .returned (.tuple #[.slice A n c, .slice B m d, .bool true]) ∧
  (n ≤ c ∧ c ≤ 9223372036854775807 ∧ l.map Te.tb = ts ∧ (∀ x ∈ l, x.ok) ∧ Ro w' M (TesIn A n l)) ∧ (m ≤ d ∧ d ≤ 9223372036854775807 ∧ g.map Ue.ud = us ∧ (∀ x ∈ g, x.good N K) ∧ Ro w' M (UesIn B m g)) ∧ Below w.heap.size w w'
set_option maxHeartbeats 16000000 in
set_option maxRecDepth 100000 in
theorem srollA (M : Nat → Prop) (w : World) (hM : ∀ b, M b → b < w.heap.size) (A : Option Addr) (n c : Nat) (l : List Te) (lb lo m d : Nat) (lg : List Ue) (tq N K : Nat) (S0 : List Tb) (hn0 : 0 < n) (hn : n ≤ 1000) (hto : tq ≤ m) (hm : m ≤ 1000000) (hN : N ≤ 1000000) (hK : K ≤ 4398046511104)
    (hl : Ro w M (TesIn A n l)) (hmd : m ≤ d) (hdm : d ≤ 9223372036854775807) (hlg : Ro w M (UesIn (some ⟨lb, lo, none⟩) m lg)) (hok : ∀ x ∈ l, x.ok ∧ VTab x.tb) (hg : ∀ u ∈ lg, u.good N K) (hv1 : storB (l.map Te.tb) = true) (hv2 : storB S0 = true) (hb : BackR ((lg.drop tq).reverse.map Ue.ud) (l.map Te.tb) S0) :
    Calls Tryz.prog 20 #[.slice A n c, .slice (some ⟨lb, lo, none⟩) m d, .int .i64 tq] w fun e w' => RollRet w M N K S0 ((lg.take tq).map Ue.ud) e w' := by
  have HNK := hid hN
  have HLG := hid (And.intro hg hK)
  have HV2 := hid hv2
  have HOK := hid hok
  have HLL := hid hl.now.len
  have HLM := hid (show lg.length = m from hlg.now.len)
  have K0 := ((Hold.start M w hM).add (hlg.less (by simp [Mut]))).add (hl.less (by simp [Mut, Hp.foot]))
  have HBK := hid hb
  have g1 : decide ((tq : Int) < 0) = false := by rw [decide_eq_false_iff_not]; omega
  have g2 : decide ((tq : Int) > (m : Int)) = false := by rw [decide_eq_false_iff_not]; omega
  have g3 : ¬ m < tq := by omega
  clear hl hlg hok hg hv2 hb
  go_enter Tryz.func20, Tryz.ntmps20
  go_wp2_with fail
  refine (stvalid_any _ _ K0.mutLt A n c l (K0.ro 0 rfl) (fun x hx => ⟨(HOK.out x hx).1, (HOK.out x hx).2.tbm⟩) (by omega)).mono ?_
  rw [hv1]
  rintro e w1 ⟨rfl, b1⟩
  have K1 := K0.call b1
  clear K0 b1 hv1
  go_wp2_with fail
  have HLI := hid (show ∀ x ∈ l, TeLim x from fun x hx => by
    obtain ⟨a, b, c⟩ := VTab.lim (HOK.out x hx).1 ((K1.ro 0 rfl).now.2 x hx) (HOK.out x hx).2
    exact ⟨by omega, by omega, fun r hr => ⟨(c r hr).1, by have := (c r hr).2; omega⟩⟩)
  refine (copiesO_any _ _ K1.mutLt A n c l HLI.out (K1.ro 0 rfl) (by omega)).mono ?_
  rintro e w2 ⟨A9, n9, c9, l9, rfl, hl9, hk9, ho9, hr9, b2⟩
  have hn9 : n9 = n := by
    have a := ho9.1; rw [teCells_len] at a
    have b := congrArg List.length hl9; rw [List.length_map, List.length_map, HLL.out] at b
    omega
  obtain rfl : n = n9 := hn9.symm
  rcases own_addr ho9 with ⟨-, h0, -⟩ | ⟨g, rfl, -⟩
  · omega
  have K2 := ((K1.callOwn b2 ho9).add (hr9.less (by intro b hb; rcases mut_cons.1 hb with h | h; exact .inr ⟨_, List.mem_singleton_self _, h⟩; exact .inl h))).drop (.cons_cons _ (.cons_cons _ (List.sublist_cons_self _ _)))
  have HO9 := hid (show BackR (((lg.drop tq).take (m - tq)).reverse.map Ue.ud) (l9.map Te.tb) S0 ∧ (∀ x ∈ l9, x.ok ∧ VTab x.tb) ∧ l9.length = n from by
    refine ⟨?_, fun x hx => ⟨hk9 x hx, ?_⟩, ?_⟩
    · rw [hl9, List.take_of_length_le (by rw [List.length_drop, HLM.out]; exact Nat.le_refl _)]; exact HBK.out
    · have h1 : x.tb ∈ l9.map Te.tb := List.mem_map_of_mem hx
      rw [hl9] at h1
      obtain ⟨z, hz, e⟩ := List.mem_map.1 h1
      rw [← e]; exact (HOK.out z hz).2
    · have b := congrArg List.length hl9; rw [List.length_map, List.length_map, HLL.out] at b; exact b)
  have s0 : IntKind.i64.wrap ((m : Int) - 1) = (((tq + (m - tq) : Nat) : Int) - 1) := by rw [IntKind.wrap_i64]; omega
  clear K1 hn9 hl9 hk9 ho9 hr9 b2 HLI
  go_wp2_with fail
  go_loopw [10] (fun iv wr => ∃ (r : Nat) (outs : List Te), tq + r ≤ m ∧ iv = .int .i64 (((tq + r : Nat) : Int) - 1) ∧ Hid (BackR (((lg.drop tq).take r).reverse.map Ue.ud) (outs.map Te.tb) S0 ∧ (∀ x ∈ outs, x.ok ∧ VTab x.tb) ∧ outs.length = n) ∧ Hold M none w wr [.ro (TeVals outs), .own 58 4 (.slice (some ⟨g, 0, none⟩) n c9) n (teCells outs), .ro (UesIn (some ⟨lb, lo, none⟩) m lg)]) (fun iv _ => (intOf iv + 1).toNat - tq)
  case atStart => exact ⟨m - tq, l9, by omega, by first | rfl | exact congrArg _ s0 | (congr 1; omega), HO9, K2⟩
  case round =>
    clear K2 HO9 s0 HBK
    obtain ⟨r, outs, hr, rfl, HS, H⟩ := hrel
    rcases r with _ | r
    · skip
      have hd : decide ((tq : Int) - 1 ≥ (tq : Int)) = false := by rw [decide_eq_false_iff_not]; omega
      have hd5 : ¬ ((tq : Int) ≤ (tq : Int) - 1) := by omega
      rw [show (((tq + 0 : Nat) : Int) - 1) = (tq : Int) - 1 from rfl]
      have HS0 := hid (show outs.map Te.tb = S0 from HS.out.1)
      have HSO := hid HS.out.2
      have hcap := own_caps (H.get 1 rfl)
      have KS := H.sealRow 1 rfl
      simp only [List.set_cons_zero, List.set_cons_succ] at KS
      have KT := (KS.add ((KS.ro 1 rfl).and (KS.ro 0 rfl) : Ro wr _ (TesIn (some ⟨g, 0, none⟩) n outs))).drop (.cons_cons _ (.cons _ (List.sublist_cons_self _ _)))
      clear H KS HS
      go_wp2_with fail
      refine (stvalid_any _ _ KT.mutLt (some ⟨g, 0, none⟩) n c9 outs (KT.ro 0 rfl) (fun x hx => ⟨(HSO.out.1 x hx).1, (HSO.out.1 x hx).2.tbm⟩) (by omega)).mono ?_
      rw [HS0.out, HV2.out]
      rintro e w3 ⟨rfl, b3⟩
      have K5 := KT.call b3
      clear KT b3
      have HLI := hid (show ∀ x ∈ outs, TeLim x from fun x hx => by
        obtain ⟨a, b, c⟩ := VTab.lim (HSO.out.1 x hx).1 ((K5.ro 0 rfl).now.2 x hx) (HSO.out.1 x hx).2
        exact ⟨by omega, by omega, fun r hr => ⟨(c r hr).1, by have := (c r hr).2; omega⟩⟩)
      have j0 : (0 : Int) ≤ (tq : Int) := by omega
      have j1 : (tq : Int) ≤ (d : Int) := by omega
      go_wp2_with fail
      refine wp_region_any (by kernel_rfl) ?_
      refine wpAny_holdC 6 73 ([.ro (TesIn (some ⟨g, 0, none⟩) n outs), .ro (UesIn (some ⟨lb, lo, none⟩) m lg)]) (spL [(68, TesSl (Mut M [.ro (TesIn (some ⟨g, 0, none⟩) n outs), .ro (UesIn (some ⟨lb, lo, none⟩) m lg)]) S0), (72, UesSl (Mut M [.ro (TesIn (some ⟨g, 0, none⟩) n outs), .ro (UesIn (some ⟨lb, lo, none⟩) m lg)]) N K ((lg.take tq).map Ue.ud))]) (by kernel_rfl) (by kernel_rfl) (by kernel_rfl) rfl ?_ (K5.drew) ?_
      · exact stays_cons tesSl_mono (stays_cons uesSl_mono (stays_nil _))
      simp only [List.take_succ_cons, List.take_zero, List.drop_succ_cons, List.drop_zero, Act.put, List.getElem_toArray, List.getElem_cons_zero, List.getElem_cons_succ, List.setIfInBounds_toArray, List.set_cons_succ, List.set_cons_zero]
      repeat (first | (refine dw_skip rfl rfl rfl ?_; simp only [Act.put, List.setIfInBounds_toArray, List.set_cons_succ, List.set_cons_zero]) | (refine dw_val rfl rfl rfl ?_; apply Exists.intro; refine ⟨fun wv HC => ?_, ?_⟩; (focus ( go_simp <;> rfl; done)); simp only [Act.put, List.setIfInBounds_toArray, List.set_cons_succ, List.set_cons_zero]))
      refine dw_callR 68 (TesSl (Mut M [.ro (TesIn (some ⟨g, 0, none⟩) n outs), .ro (UesIn (some ⟨lb, lo, none⟩) m lg)]) S0) (f := 65) (args := #[.slice (some ⟨g, 0, none⟩) n c9]) rfl rfl rfl rfl (fun wv => ?_) (fun wv HC hrm hD => ?_) ?_
      · go_simp <;> rfl
      · refine (copies_any _ wv HC.mutLt (some ⟨g, 0, none⟩) n c9 outs HLI.out (HC.ro 0 rfl) (by omega)).mono ?_
        rintro e w5 ⟨A5, n5, c5, l5, rfl, h1, h2, h3, h4, r5, b5⟩
        exact ⟨_, rfl, ⟨A5, n5, c5, l5, rfl, h1, h2, h3.trans HS0.out, h4, r5⟩, HC.call b5, RM.below b5⟩
      rintro u_ wx HCx ⟨A5, n5, c5, l5, rfl, -, -, -, -, -⟩
      clear HCx
      simp only [Act.put, List.setIfInBounds_toArray, List.set_cons_succ, List.set_cons_zero]
      repeat (first | (refine dw_skip rfl rfl rfl ?_; simp only [Act.put, List.setIfInBounds_toArray, List.set_cons_succ, List.set_cons_zero]) | (refine dw_val rfl rfl rfl ?_; apply Exists.intro; refine ⟨fun wv HC => ?_, ?_⟩; (focus ( go_simp <;> rfl; done)); simp only [Act.put, List.setIfInBounds_toArray, List.set_cons_succ, List.set_cons_zero]))
      refine dw_callR 72 (UesSl (Mut M [.ro (TesIn (some ⟨g, 0, none⟩) n outs), .ro (UesIn (some ⟨lb, lo, none⟩) m lg)]) N K ((lg.take tq).map Ue.ud)) (f := 67) (args := #[.slice (some ⟨lb, lo, none⟩) tq d]) rfl rfl rfl rfl (fun wv => ?_) (fun wv HC hrm hD => ?_) ?_
      · go_simp <;> rfl
      · refine (scopylog_any _ wv HC.mutLt (some ⟨lb, lo, none⟩) tq d N K HNK.out HLG.out.2 (lg.take tq) (fun x hx => HLG.out.1 x (List.mem_of_mem_take hx)) ((HC.ro 1 rfl).imp fun w2 h2 => uesIn_take h2 (by omega)) (by omega)).mono ?_
        intro e w5 h
        obtain ⟨A5, n5, c5, l5, rfl, h1, h2, h3, h4, r5, b5⟩ := h.ret HC.mutLt
        exact ⟨_, rfl, ⟨A5, n5, c5, l5, rfl, h1, h2, h3, h4, r5⟩, HC.call b5, RM.below b5⟩
      rintro u_ wx HCx ⟨A6, n6, c6, l6, rfl, -, -, -, -, -⟩
      clear HCx
      simp only [Act.put, List.setIfInBounds_toArray, List.set_cons_succ, List.set_cons_zero]
      refine rel_nil ?_
      rintro wx HX _hrm HG
      simp only [List.length_cons, List.length_nil, Nat.reduceAdd, Nat.reduceSub]
      have hu1 : TesSl (Mut M [.ro (TesIn (some ⟨g, 0, none⟩) n outs), .ro (UesIn (some ⟨lb, lo, none⟩) m lg)]) S0 (.slice A5 n5 c5) wx := (GW_on (d := 68) rfl).1 (HG 1 _ rfl (by omega))
      have hu2 : UesSl (Mut M [.ro (TesIn (some ⟨g, 0, none⟩) n outs), .ro (UesIn (some ⟨lb, lo, none⟩) m lg)]) N K ((lg.take tq).map Ue.ud) (.slice A6 n6 c6) wx := (GW_on (d := 72) rfl).1 (HG 5 _ rfl (by omega))
      clear HG _hrm
      obtain ⟨A7, n7, c7, l7, e7, p1, p2, p3, p4, r7⟩ := hu1
      obtain ⟨A8, n8, c8, l8, e8, t1, t2, t3, t4, r8⟩ := hu2
      injection e7 with q1 q2 q3
      injection e8 with q4 q5 q6
      subst q1 q2 q3 q4 q5 q6
      refine wpAny_take (i := 6) (v := .slice A5 n5 c5) rfl (by kernel_rfl) (by kernel_rfl) (by kernel_rfl) (fun _ _ _ h => h) (Or.inl ⟨by rfl, fun w => ?_⟩) ?_
      · go_simp
      simp only [Act.put, List.getElem_toArray, List.getElem_cons_zero, List.getElem_cons_succ, List.setIfInBounds_toArray, List.set_cons_succ, List.set_cons_zero]
      refine wpAny_take (i := 7) (v := .slice A6 n6 c6) rfl (by kernel_rfl) (by kernel_rfl) (by kernel_rfl) (fun _ _ _ h => h) (Or.inl ⟨by rfl, fun w => ?_⟩) ?_
      · go_simp
      simp only [Act.put, List.getElem_toArray, List.getElem_cons_zero, List.getElem_cons_succ, List.setIfInBounds_toArray, List.set_cons_succ, List.set_cons_zero]
      refine wpAny_take (i := 8) (v := .bool true) rfl (by kernel_rfl) (by kernel_rfl) (by kernel_rfl) (fun _ _ _ h => h) (Or.inl ⟨by rfl, fun w => ?_⟩) ?_
      · go_simp
      simp only [Act.put, List.getElem_toArray, List.getElem_cons_zero, List.getElem_cons_succ, List.setIfInBounds_toArray, List.set_cons_succ, List.set_cons_zero]
      refine wpAny_done (by kernel_rfl) ?_ _
      have HB := HX.below
      have ra := r7.less (M' := M) fun b hb => .inl hb
      have rb := r8.less (M' := M) fun b hb => .inl hb
      go_wp2_with fail
      (try simp only [Exit.inBlock, Exit.then])
      refine bodyPost_ret (results_tmp3 rfl _ _ _) rfl ?_
      exact ⟨A5, n5, c5, l7, A6, n6, c6, l8, rfl, ⟨p1, p2, p3, p4, ra⟩, ⟨t1, t2, t3, t4, rb⟩, HB⟩
    · rw [show (((tq + (r + 1) : Nat) : Int) - 1) = ((tq + r : Nat) : Int) by omega]
      obtain ⟨p, hp⟩ : ∃ p, p = tq + r := ⟨_, rfl⟩
      rw [← hp]
      have hd : decide ((p : Int) ≥ (tq : Int)) = true := by rw [decide_eq_true_iff]; omega
      have hd3 : tq ≤ p := by omega
      have hd4 : p < m := by omega
      have i0 : (0 : Int) ≤ (p : Int) := by omega
      have i1 : (p : Int) < (m : Int) := by omega
      obtain ⟨u, hu⟩ := get_of HLM.out (show p < m by omega)
      have HU := hid hu
      have hb := HS.out.1
      rw [back_next (hp ▸ hu)] at hb
      obtain ⟨k, a, b', hk, hf, hst, hbk⟩ := hb
      obtain ⟨x, hx, rfl⟩ : ∃ x, outs[k]? = some x ∧ x.tb = b' := by
        rw [List.getElem?_map] at hk
        cases h : outs[k]? with
        | none => rw [h] at hk; cases hk
        | some x => rw [h] at hk; exact ⟨x, rfl, by simpa using hk⟩
      have HXK := hid hx
      have HXO := hid (HS.out.2.1 x (List.mem_of_getElem? hx))
      have HBK := hid hbk
      have HST := hid hst
      have HO := hid HS.out.2
      have hkn : k < n := by rw [← HS.out.2.2]; exact (List.getElem?_eq_some_iff.1 hx).1
      have HXM := hid (show x.m ≤ 1000000 from by
        have := (VTab.lim HXO.out.1 ((H.ro 0 rfl).now x (List.mem_of_getElem? hx)) HXO.out.2).2.1; omega)
      have HTA := hid (show (⟨x.nm, x.cs, u.nx, a.rs⟩ : Tb) = a from by
        have h1 := hst.later.1
        have h2 := hst.later.2.1
        have h3 : u.nx = a.nx := congrArg Ud.nx hst.rec_
        cases a
        simp only [Te.tb] at h1 h2 h3 ⊢
        rw [h1, h2, h3])
      obtain ⟨lb2, lo2, hA2, hb2, d0, -⟩ := (H.ro 2 rfl).now.at_ hu
      injection hA2 with hA2
      injection hA2 with e1 e2
      subst e1 e2
      clear hu hx hbk hst hk HS
      have hr9 : tq + r ≤ m := by omega
      clear hr
      have HP := hid hp
      clear hp
      go_wp2_with fail
      refine (stfind_any None_ _ (fun b hb => hb.elim) (some ⟨g, 0, none⟩) n c9 outs u.nm (show Ro wr None_ (TesIn (some ⟨g, 0, none⟩) n outs) from fun w2 a b => ⟨Rd.of_own (own_RM (M := None_) (fun b hb => hb.elim) ⟨a, b⟩ (H.get 1 rfl)), ((H.ro 0 rfl).less (fun b hb => hb.elim)) w2 a b⟩) (by omega)).mono ?_
      rw [show findS (outs.map Te.tb) u.nm = (k : Int) from hf]
      rintro e w1 ⟨rfl, b1⟩
      have K1 := H.call b1
      have hk0 : decide ((k : Int) < 0) = false := by rw [decide_eq_false_iff_not]; omega
      have k0 : (0 : Int) ≤ (k : Int) := by omega
      have k1 : (k : Int) < (n : Int) := by omega
      clear H b1 hf d0
      go_wp2_with fail
      obtain ⟨KL, hKL, KN⟩ := K1.name
      have HF : Hid (∀ wv, Hold M none w wv KL → wv.cell? ⟨g, k * 4, none⟩ = some (.string x.nm) ∧ wv.cell? ⟨g, k * 4 + 1, none⟩ = some (.slice x.A x.n x.c) ∧ wv.cell? ⟨g, k * 4 + 2, none⟩ = some (.int .i64 x.nx) ∧ wv.cell? ⟨g, k * 4 + 3, none⟩ = some (.slice x.B x.m x.d) ∧ g < wv.heap.size ∧
          wv.cell? ⟨lb, lo + p * 5, none⟩ = some (.string u.nm) ∧ wv.cell? ⟨lb, lo + p * 5 + 1, none⟩ = some (.int .i64 u.nx) ∧ wv.cell? ⟨lb, lo + p * 5 + 2, none⟩ = some (.slice u.I u.ni u.ci) ∧ wv.cell? ⟨lb, lo + p * 5 + 3, none⟩ = some (.slice u.D u.nd u.cd) ∧ wv.cell? ⟨lb, lo + p * 5 + 4, none⟩ = some (.slice u.U u.nu u.cu) ∧ lb < wv.heap.size) := hid fun wv HC => by
        rw [hKL] at HC
        have ho := HC.get 1 rfl
        obtain ⟨b1, o1, e, hb, d0, d1, d2, d3, d4, -⟩ := (HC.ro 2 rfl).now.at_ HU.out
        injection e with e
        injection e with e1 e2
        subst e1 e2
        exact ⟨(ho.cellAt _ (by omega)).trans (flat_get Te.cells 4 (fun _ => rfl) outs k 0 x (by omega) HXK.out), (ho.cellAt _ (by omega)).trans (flat_get Te.cells 4 (fun _ => rfl) outs k 1 x (by omega) HXK.out), (ho.cellAt _ (by omega)).trans (flat_get Te.cells 4 (fun _ => rfl) outs k 2 x (by omega) HXK.out), (ho.cellAt _ (by omega)).trans (flat_get Te.cells 4 (fun _ => rfl) outs k 3 x (by omega) HXK.out), (ho.lt g rfl).2, d0, d1, d2, d3, d4, hb⟩
      have HX : Hid (∀ wv, Hold M none w wv KL → Ro wv (Mut M KL) (TeIn x) ∧ Ro wv (Mut M KL) (UeIn u)) := hid fun wv HC => by
        rw [hKL] at HC ⊢
        exact ⟨(HC.ro 0 rfl).imp fun w2 h2 => h2 x (List.mem_of_getElem? HXK.out), (HC.ro 2 rfl).imp fun w2 h2 => h2.2 u (List.mem_of_getElem? HU.out)⟩
      have HKL := hid hKL
      clear hKL K1
      obtain ⟨Hb, hHb⟩ : ∃ Hb, Hb = w1.drew.heap.size := ⟨_, rfl⟩
      have HHb := hid hHb
      clear hHb
      refine wp_region_any (by kernel_rfl) ?_
      refine wpAny_holdE [11] 13 73 (KL) (spL [(55, UndSl (Mut M KL) a), (46, UndSl (Mut M KL) a), (12, NewSlot (Mut M KL) Hb 58 #[.string ⟨#[]⟩, .slice none 0 0, .int .i64 0, .slice none 0 0])]) (by kernel_rfl) (fun _ d _ _ _ h => by cases d <;> exact h) (by kernel_rfl) (by kernel_rfl) rfl ?_ (KN.drew) ?_
      · exact stays_cons undSl_mono (stays_cons undSl_mono (stays_cons newSlot_mono (stays_nil _)))
      simp only [List.take_succ_cons, List.take_zero, List.drop_succ_cons, List.drop_zero, Act.put, List.getElem_toArray, List.getElem_cons_zero, List.getElem_cons_succ, List.setIfInBounds_toArray, List.set_cons_succ, List.set_cons_zero]
      repeat (first | (refine dw_skip rfl rfl rfl ?_; simp only [Act.put, List.setIfInBounds_toArray, List.set_cons_succ, List.set_cons_zero]) | (refine dw_val rfl rfl rfl ?_; apply Exists.intro; refine ⟨fun wv HC => ?_, ?_⟩; (focus (obtain ⟨f0, f1, f2, f3, f4, d0, d1, d2, d3, d4, d5⟩ := HF.out _ HC; go_simp <;> rfl; done)); simp only [Act.put, List.setIfInBounds_toArray, List.set_cons_succ, List.set_cons_zero]))
      refine dw_callR 55 (UndSl (Mut M KL) a) (f := 66) (args := #[.agg #[.string x.nm, .slice x.A x.n x.c, .int .i64 x.nx, .slice x.B x.m x.d], .agg #[.string u.nm, .int .i64 u.nx, .slice u.I u.ni u.ci, .slice u.D u.nd u.cd, .slice u.U u.nu u.cu]]) rfl rfl rfl rfl (fun wv => ?_) (fun wv HC hrm hD => ?_) ?_
      · go_simp <;> rfl
      · refine (sundoT_any _ wv HC.mutLt x u N K a.rs HNK.out HXO.out.1 HXM.out (HLG.out.1 u (List.mem_of_getElem? HU.out)) (HX.out _ HC).1 (HX.out _ HC).2 (undOk_of HST.out)).mono ?_
        rintro e w5 ⟨y, rfl, hy, hyo, ry, b5⟩
        exact ⟨_, rfl, ⟨y, rfl, hy.trans HTA.out, hyo, ry⟩, HC.call b5, RM.below b5⟩
      rintro u_ wx HCx ⟨y, rfl, -, -, -⟩
      clear HCx
      simp only [Act.put, List.setIfInBounds_toArray, List.set_cons_succ, List.set_cons_zero]
      have hyv : y.val = .agg #[.string y.nm, .slice y.A y.n y.c, .int .i64 y.nx, .slice y.B y.m y.d] := rfl
      rw [hyv]
      clear hyv
      refine dw_valC 46 (UndSl (Mut M KL) a) rfl rfl rfl rfl (.tuple #[.agg #[.string y.nm, .slice y.A y.n y.c, .int .i64 y.nx, .slice y.B y.m y.d], .bool true]) (fun wv HC => ?_) (fun wv HC hD => ?_) ?_
      · go_simp <;> rfl
      · exact deps_at hD 8 rfl (by kernel_rfl) rfl rfl
      simp only [Act.put, List.setIfInBounds_toArray, List.set_cons_succ, List.set_cons_zero]
      refine dw_val rfl rfl rfl ?_; apply Exists.intro; refine ⟨fun wv HC => ?_, ?_⟩
      ·  go_simp <;> rfl
      simp only [Act.put, List.setIfInBounds_toArray, List.set_cons_succ, List.set_cons_zero]
      refine dw_val rfl rfl rfl ?_; apply Exists.intro; refine ⟨fun wv HC => ?_, ?_⟩
      ·  go_simp <;> rfl
      simp only [Act.put, List.setIfInBounds_toArray, List.set_cons_succ, List.set_cons_zero]
      refine dw_new #[.string ⟨#[]⟩, .slice none 0 0, .int .i64 0, .slice none 0 0] 58 12 (NewSlot (Mut M KL) Hb 58 #[.string ⟨#[]⟩, .slice none 0 0, .int .i64 0, .slice none 0 0]) (fun g => .pointer (some ⟨g, 0, none⟩)) rfl rfl rfl rfl (fun wv => ?_) (fun wv HC hrm hD hro => ?_) ?_
      · go_simp <;> rfl
      · exact ⟨_, rfl, by have := hrm.1; rw [HHb.out]; exact this, hro _ HC.mutLt⟩
      rintro gb wg HCg hsl
      simp only [Act.put, List.setIfInBounds_toArray, List.set_cons_succ, List.set_cons_zero]
      clear hsl HCg
      refine rel_nil ?_
      rintro wxb HY
      rintro _hrm HGW
      have hap : UndSl (Mut M KL) a (.tuple #[.agg #[.string y.nm, .slice y.A y.n y.c, .int .i64 y.nx, .slice y.B y.m y.d], .bool true]) wxb := (GW_on (d := 46) rfl).1 (HGW 9 _ rfl (by omega))
      have hns : NewSlot (Mut M KL) Hb 58 #[.string ⟨#[]⟩, .slice none 0 0, .int .i64 0, .slice none 0 0] (.pointer (some ⟨gb, 0, none⟩)) wxb := (GW_on (d := 12) rfl).1 (HGW 12 _ rfl (by omega))
      clear HGW
      obtain ⟨g7, hg7, hgH, hgB⟩ := hns
      obtain rfl : gb = g7 := by injection hg7 with hg7; injection hg7 with hg7; injection hg7
      clear hg7
      rw [HHb.out] at hgH
      have HB := Hold.addFreshBlk KN.drew HY _hrm hgH hgB.now
      obtain ⟨y2, e2, hy, hyo, ry⟩ := hap
      have ev : Value.agg #[.string y.nm, .slice y.A y.n y.c, .int .i64 y.nx, .slice y.B y.m y.d] = .agg #[.string y2.nm, .slice y2.A y2.n y2.c, .int .i64 y2.nx, .slice y2.B y2.m y2.d] := by
        have h := e2
        simp only [Te.val, Value.tuple.injEq, Array.mk.injEq, List.cons.injEq, and_true] at h
        exact h
      rw [ev]
      have rY : Ro wxb (Mut M (.blk gb 58 #[.string ⟨#[]⟩, .slice none 0 0, .int .i64 0, .slice none 0 0] :: KL)) (TeIn y2) := (te_apart ry (by rw [hy]; exact HST.out.va) hgB.now).less fun b hb => (mut_cons.1 hb).elim (fun hf => Or.inl (by have hf : some gb = some b := hf; injection hf with hf; exact hf.symm)) Or.inr
      have K3 := HB.add rY
      rw [HKL.out] at K3
      have HY2 := hid (And.intro hy hyo)
      clear ev e2 hy hyo ry hgB hgH HY _hrm HHb KN HF HX HKL HB rY
      have FB := K3.facts
      simp only [World.size_alloc, World.size_drew, factsL, cellsF, Nat.reduceAdd, List.toList_toArray, List.set_cons_zero, List.set_cons_succ, List.setIfInBounds_toArray, and_true, true_and] at FB
      have K4 := (((K3.store 1 rfl 0 (.string y2.nm)).store 1 rfl 1 (.slice y2.A y2.n y2.c)).store 1 rfl 2 (.int .i64 y2.nx)).store 1 rfl 3 (.slice y2.B y2.m y2.d)
      simp only [List.set_cons_zero, List.set_cons_succ, List.setIfInBounds_toArray] at K4
      obtain ⟨V9, hV9⟩ : ∃ v, v = Value.slice (some ⟨g, 0, none⟩) n c9 := ⟨_, rfl⟩
      rw [← hV9]
      have HV9 := hid hV9
      clear hV9
      go_wp2_with fail
      rw [HV9.out]
      clear HV9 FB
      generalize World.setCell _ _ _ = w12 at K4 ⊢
      have FC := K4.facts
      simp only [World.size_alloc, World.size_drew, factsL, cellsF, Nat.reduceAdd, List.toList_toArray, List.set_cons_zero, List.set_cons_succ, List.setIfInBounds_toArray, and_true, true_and] at FC
      have ho := K4.get 3 rfl
      have q0 : _ = some (Value.string x.nm) := (ho.cellAt (k * 4) (by omega)).trans (flat_get Te.cells 4 (fun _ => rfl) outs k 0 x (by omega) HXK.out)
      have q1 : _ = some (Value.slice x.A x.n x.c) := (ho.cellAt (k * 4 + 1) (by omega)).trans (flat_get Te.cells 4 (fun _ => rfl) outs k 1 x (by omega) HXK.out)
      have q2 : _ = some (Value.int .i64 x.nx) := (ho.cellAt (k * 4 + 2) (by omega)).trans (flat_get Te.cells 4 (fun _ => rfl) outs k 2 x (by omega) HXK.out)
      have q3 : _ = some (Value.slice x.B x.m x.d) := (ho.cellAt (k * 4 + 3) (by omega)).trans (flat_get Te.cells 4 (fun _ => rfl) outs k 3 x (by omega) HXK.out)
      have z0 := ho.frozenAt (k * 4)
      have z1 := ho.frozenAt (k * 4 + 1)
      have z2 := ho.frozenAt (k * 4 + 2)
      have z3 := ho.frozenAt (k * 4 + 3)
      have gl := (ho.lt g rfl).2
      have gne := K4.apart_ 1 3 rfl rfl (by omega) rfl rfl
      clear ho
      have KA1 := K4.put_ 3 rfl (k * 4) (.string y2.nm)
      have KA2 := KA1.put_ 3 rfl (k * 4 + 1) (.slice y2.A y2.n y2.c)
      have KA3 := KA2.put_ 3 rfl (k * 4 + 2) (.int .i64 y2.nx)
      have K5 := KA3.put_ 3 rfl (k * 4 + 3) (.slice y2.B y2.m y2.d)
      simp only [List.set_cons_zero, List.set_cons_succ, List.setIfInBounds_toArray] at KA1
      simp only [List.set_cons_zero, List.set_cons_succ, List.setIfInBounds_toArray] at KA2
      simp only [List.set_cons_zero, List.set_cons_succ, List.setIfInBounds_toArray] at KA3
      simp only [List.set_cons_zero, List.set_cons_succ, List.setIfInBounds_toArray] at K5
      have e1 : _ = some (Value.slice x.A x.n x.c) := ((KA1.get 3 rfl).cellAt (k * 4 + 1) (by omega)).trans ((List.getElem?_set_ne (by omega)).trans (flat_get Te.cells 4 (fun _ => rfl) outs k 1 x (by omega) HXK.out))
      have e2 : _ = some (Value.int .i64 x.nx) := ((KA2.get 3 rfl).cellAt (k * 4 + 2) (by omega)).trans ((List.getElem?_set_ne (by omega)).trans ((List.getElem?_set_ne (by omega)).trans (flat_get Te.cells 4 (fun _ => rfl) outs k 2 x (by omega) HXK.out)))
      have e3 : _ = some (Value.slice x.B x.m x.d) := ((KA3.get 3 rfl).cellAt (k * 4 + 3) (by omega)).trans ((List.getElem?_set_ne (by omega)).trans ((List.getElem?_set_ne (by omega)).trans ((List.getElem?_set_ne (by omega)).trans (flat_get Te.cells 4 (fun _ => rfl) outs k 3 x (by omega) HXK.out))))
      have y1 := (KA1.get 3 rfl).frozenAt (k * 4 + 1)
      have y2_ := (KA2.get 3 rfl).frozenAt (k * 4 + 2)
      have y3 := (KA3.get 3 rfl).frozenAt (k * 4 + 3)
      clear KA1 KA2 KA3
      rw [teCells_set y2 HXK.out] at K5
      have K6 := (K5.swapRo 2 rfl (teVals_set (k := k) (K5.ro 2 rfl) (K5.ro 0 rfl))).drop (.cons _ (List.sublist_cons_self _ _))
      simp only [List.set_cons_zero, List.set_cons_succ, List.setIfInBounds_toArray] at K6
      go_wp2_with fail
      iterate 4 (try simp only [Result.andThen_ok, e1, y1, e2, y2_, e3, y3, Bool.false_eq_true, if_false])
      go_wp2_with fail
      go_roundw
      case rel => exact ⟨r, outs.set k y2, by omega, by (rw [← HP.out] <;> first | rfl | go_num), hid ⟨by rw [List.map_set, HY2.out.1]; exact HBK.out, fun z hz => by
        rcases List.mem_or_eq_of_mem_set hz with hz | rfl
        · exact HO.out.1 z hz
        · exact ⟨HY2.out.2, by rw [HY2.out.1]; exact HST.out.va⟩, by rw [List.length_set]; exact HO.out.2⟩, K6⟩
      case measure => (have hp3 := HP.out; simp [intOf]; omega)
end Go.Proofs.YtedogodccblfeaaGreatDoor

namespace Go.Proofs.YtedogodccblfeaaGreatDoor
open Go.RowKit
set_option linter.unusedVariables false
set_option linter.unusedSimpArgs false

theorem teIn_of {w : World} {M : Nat → Prop} {A : Option Addr} {n : Nat} {cs : List Col} {B : Option Addr} {m : Nat} {l : List Rw} (nm : ByteArray) (c : Nat) (nx : Int) (d : Nat) (h : Ro w M (ColsIn A n cs)) (k : Ro w M (RwsIn B m l)) : Ro w M (TeIn ⟨nm, A, n, c, cs, nx, B, m, d, l⟩) := h.and k
theorem k9_findS (lc : List Col) : findS [⟨nmLog, lc, 1, []⟩] ⟨#[108, 111, 103]⟩ = 0 := by
  have e : nmLog = ⟨#[108, 111, 103]⟩ := by rfl
  rw [e]; unfold findS findB; rw [findFrom, if_pos (by simp)]; rfl
set_option maxHeartbeats 8000000 in
set_option maxRecDepth 100000 in
theorem known9 : Gives 23 #[] (.bool true) := by
  intro w
  have K0 := Hold.begin_ w
  go_enter Tryz.func23, Tryz.ntmps23
  go_wp2_with fail
  refine (schema_log _ _ K0.mutLt).mono ?_
  rintro e w1 ⟨A, n, c, rfl, h1, h2, r1, b1⟩
  have K1 := (K0.call b1).add r1
  clear K0 r1 b1
  have HBT := hid k9_bet
  have HST := hid k9_step
  have HBK := hid k9_back
  have HSA := hid k9_stoa
  have HSB := hid k9_stob
  have HVA := hid k9_va
  have HVB := hid k9_vb
  unfold k9a k9b at *
  generalize hU : nmLog = nl at *
  generalize hC : logCols = lc at *
  have HU := hid hU
  have HC := hid hC
  clear hU hC
  have hn2 : lc.length = n := cols_n (K1.ro 0 rfl).now
  have K2 := ((((K1.alloc_cst #[.string nl, .slice A n c] 49).alloc_cst #[.string nl, .slice A n c, .int .i64 1, .slice none 0 0] 58).alloc_cst #[.int .i64 0, .int .i64 0, .string ⟨#[]⟩, .int .i64 0, .int .i64 0, .string ⟨#[]⟩] 117).alloc_cst #[.int .i64 1, .slice (some ⟨w1.heap.size + 1 + 1, 0, none⟩) 2 2] 119).alloc_cst #[.string nl, .slice A n c, .int .i64 2, .slice (some ⟨w1.heap.size + 1 + 1 + 1, 0, none⟩) 1 1] 58
  simp only [World.size_alloc] at K2
  have F2 := K2.facts
  simp only [World.size_alloc, World.size_drew, factsL, cellsF, Nat.reduceAdd, List.toList_toArray, List.set_cons_zero, List.set_cons_succ, List.setIfInBounds_toArray, and_true, true_and] at F2
  go_wp2_with fail
  obtain ⟨g0, hg0⟩ : ∃ g, g = w1.heap.size := ⟨_, rfl⟩
  rw [← hg0] at K2 ⊢
  have HG0 := hid hg0
  clear hg0
  have q1 : Ro _ _ (VlsIn (some ⟨g0 + 1 + 1, 0, none⟩) 2 [vNil, vNil]) := ro_block (t := 117) (cs := #[.int .i64 0, .int .i64 0, .string ⟨#[]⟩, .int .i64 0, .int .i64 0, .string ⟨#[]⟩]) (K2.get 2 rfl) rfl
  have q2 : Ro _ _ (SlR 2 (some ⟨g0 + 1 + 1 + 1, 0, none⟩) 1 (rwCells [⟨1, some ⟨g0 + 1 + 1, 0, none⟩, 2, 2, [vNil, vNil]⟩])) := ro_block (t := 119) (cs := #[.int .i64 1, .slice (some ⟨g0 + 1 + 1, 0, none⟩) 2 2]) (K2.get 1 rfl) rfl
  have q3 : Ro _ _ (RwsIn (some ⟨g0 + 1 + 1 + 1, 0, none⟩) 1 [⟨1, some ⟨g0 + 1 + 1, 0, none⟩, 2, 2, [vNil, vNil]⟩]) := q2.and (fun w2 h1 h2 r hr => by
    simp only [List.mem_cons, List.not_mem_nil, or_false] at hr
    subst hr
    exact q1 w2 h1 h2)
  have tb : Ro _ _ (TeIn ⟨nl, A, n, c, lc, 2, some ⟨g0 + 1 + 1 + 1, 0, none⟩, 1, 1, [⟨1, some ⟨g0 + 1 + 1, 0, none⟩, 2, 2, [vNil, vNil]⟩]⟩) := teIn_of nl c 2 1 (K2.ro 5 rfl) q3
  have ta : Ro _ _ (TeIn ⟨nl, A, n, c, lc, 1, none, 0, 0, []⟩) := teIn_of nl c 1 0 (K2.ro 5 rfl) (fun _ _ _ => ⟨Rd.none_, fun r hr => nomatch hr⟩)
  have oa : Te.ok ⟨nl, A, n, c, lc, 1, none, 0, 0, []⟩ := ⟨h1, by show c ≤ _; omega, Nat.le_refl _, by show (0 : Nat) ≤ _; omega, fun r hr => nomatch hr⟩
  have ob : Te.ok ⟨nl, A, n, c, lc, 2, some ⟨g0 + 1 + 1 + 1, 0, none⟩, 1, 1, [⟨1, some ⟨g0 + 1 + 1, 0, none⟩, 2, 2, [vNil, vNil]⟩]⟩ := ⟨h1, by show c ≤ _; omega, Nat.le_refl _, by show (1 : Nat) ≤ _; omega, fun r hr => by
    simp only [List.mem_cons, List.not_mem_nil, or_false] at hr
    subst hr
    exact ⟨by show I64 1; unfold I64; omega, by simp, by simp, fun v hv => by
      simp only [List.mem_cons, List.not_mem_nil, or_false] at hv
      rcases hv with rfl | rfl <;> exact vNil_ok⟩⟩
  have HOA := hid oa
  have HOB := hid ob
  have K3 := (K2.add tb).add (ta.less (by simp [Mut, Hp.foot]))
  refine (record_any _ _ K3.mutLt none 0 0 10 10 [] ⟨nl, A, n, c, lc, 1, none, 0, 0, []⟩ ⟨nl, A, n, c, lc, 2, some ⟨g0 + 1 + 1 + 1, 0, none⟩, 1, 1, [⟨1, some ⟨g0 + 1 + 1, 0, none⟩, 2, 2, [vNil, vNil]⟩]⟩ k9d oa ob (K3.ro 0 rfl) (K3.ro 1 rfl) HVA.out.tbm HVB.out.tbm (fun _ _ _ => ⟨Rd.none_, fun r hr => nomatch hr⟩) (fun u hu => nomatch hu) (by omega) (by omega) (by omega) HBT.out (by decide) (by decide) (by decide) (by decide) (by decide) (by decide)).mono ?_
  rintro e w2 ⟨A5, n5, c5, l5, rfl, h3, h4, h5, h6, r5, b2⟩
  have K4 := (K3.call b2).add r5
  have HL5 := hid h5
  have HG5 := hid h6
  have hn5 : n5 = 1 := by have a := r5.now.len; have b := congrArg List.length h5; rw [List.length_map] at b; simp at b; omega
  subst hn5
  have hx5 : ∃ u, l5[0]? = some u := get_of r5.now.len (by omega)
  obtain ⟨u5, hu5⟩ := hx5
  obtain ⟨b5, o5, rfl, -⟩ := r5.now.at_ hu5
  clear K2 K3 q1 q2 q3 tb ta oa ob F2 h5 h6 r5 b2 hu5
  have F4 := K4.facts
  simp only [World.size_alloc, World.size_drew, factsL, cellsF, Nat.reduceAdd, List.toList_toArray, List.set_cons_zero, List.set_cons_succ, List.setIfInBounds_toArray, and_true, true_and] at F4
  go_wp2_with fail
  have K5 := K4.alloc_cst #[.string nl, .slice A n c, .int .i64 2, .slice (some ⟨g0 + 1 + 1 + 1, 0, none⟩) 1 1] 58
  have rb : Ro _ _ (TesIn (some ⟨w2.heap.size, 0, none⟩) [(⟨nl, A, n, c, lc, 2, some ⟨g0 + 1 + 1 + 1, 0, none⟩, 1, 1, [⟨1, some ⟨g0 + 1 + 1, 0, none⟩, 2, 2, [vNil, vNil]⟩]⟩ : Te)].length _) := tes_block (K5.get 0 rfl) rfl (fun x hx => by simp only [List.mem_singleton] at hx; subst hx; exact K5.ro 3 rfl)
  refine (srollA _ _ K5.mutLt (some ⟨w2.heap.size, 0, none⟩) 1 1 [⟨nl, A, n, c, lc, 2, some ⟨g0 + 1 + 1 + 1, 0, none⟩, 1, 1, [⟨1, some ⟨g0 + 1 + 1, 0, none⟩, 2, 2, [vNil, vNil]⟩]⟩] b5 o5 1 c5 l5 0 10 10 [⟨nl, lc, 1, []⟩] (by omega) (by omega) (by omega) (by omega) (by omega) (by omega) rb h3 h4 (K5.ro 1 rfl) (fun x hx => by simp only [List.mem_singleton] at hx; subst hx; exact ⟨HOB.out, HVB.out⟩) HG5.out HSB.out HSA.out (by rw [List.drop_zero, List.map_reverse, HL5.out]; exact HBK.out)).mono ?_
  rintro e w3 ⟨A6, n6, c6, l6, B6, m6, d6, g6, rfl, ⟨p1, p2, p3, p4, p5⟩, ⟨q1, q2, q3, q4, q5⟩, b3⟩
  have K6 := (K5.call b3).add p5
  have HL6 := hid p3
  have HO6 := hid p4
  have hm6 : m6 = 0 := by have a := q5.now.len; have b := congrArg List.length q3; simp only [List.length_map, List.length_take, Nat.zero_min] at b; omega
  subst hm6
  clear K4 K5 rb p3 p4 p5 q3 q4 q5 b3 F4
  have F6 := K6.facts
  simp only [World.size_alloc, World.size_drew, factsL, cellsF, Nat.reduceAdd, List.toList_toArray, List.set_cons_zero, List.set_cons_succ, List.setIfInBounds_toArray, and_true, true_and] at F6
  go_wp2_with fail
  have K7 := K6.alloc_cst #[.string nl, .slice A n c, .int .i64 1, .slice none 0 0] 58
  have ra : Ro _ _ (TesIn (some ⟨w3.heap.size, 0, none⟩) [(⟨nl, A, n, c, lc, 1, none, 0, 0, []⟩ : Te)].length _) := tes_block (K7.get 0 rfl) rfl (fun x hx => by simp only [List.mem_singleton] at hx; subst hx; exact K7.ro 4 rfl)
  have hn6 : n6 = 1 := by have a := (K7.ro 1 rfl).now.len; have b := congrArg List.length HL6.out; rw [List.length_map] at b; simp at b; omega
  subst hn6
  have hv6 : ∀ x ∈ l6, VTab x.tb := fun x hx => by
    have h := List.mem_map_of_mem (f := Te.tb) hx
    rw [HL6.out, List.mem_singleton] at h
    rw [h]; exact HVA.out
  have hl6 : ∀ r ∈ l6, r.n ≤ 4398046511104 ∧ r.m ≤ 4398046511104 ∧ ∀ q ∈ r.l, q.n ≤ 4398046511104 := fun r hr => by
    obtain ⟨a, b, c⟩ := VTab.lim (HO6.out r hr) ((K7.ro 1 rfl).now.2 r hr) (hv6 r hr)
    exact ⟨by omega, by omega, fun q hq => by have := (c q hq).2; omega⟩
  refine (sameTables_any _ _ K7.mutLt A6 1 c6 l6 (some ⟨w3.heap.size, 0, none⟩) 1 1 [⟨nl, A, n, c, lc, 1, none, 0, 0, []⟩] (K7.ro 1 rfl) ra (by omega) hl6 (fun r hr => by simp only [List.mem_singleton] at hr; subst hr; exact ⟨by show n ≤ _; omega, by show (0 : Nat) ≤ _; omega, fun q hq => nomatch hq⟩)).mono ?_
  rw [show decide (l6.map Te.tb = [(⟨nl, A, n, c, lc, 1, none, 0, 0, []⟩ : Te)].map Te.tb) = true from by rw [HL6.out]; simp [Te.tb]]
  rintro e w4 ⟨rfl, b4⟩
  have K8 := K7.call b4
  have HF := hid (show findS (l6.map Te.tb) ⟨#[108, 111, 103]⟩ = 0 from by rw [HL6.out, ← HU.out]; exact k9_findS lc)
  clear K6 K7 ra hv6 hl6 b4 F6
  go_wp2_with fail
  refine (stfind_any _ _ K8.mutLt A6 1 c6 l6 ⟨#[108, 111, 103]⟩ (K8.ro 1 rfl) (by omega)).mono ?_
  rw [HF.out]
  rintro e w5 ⟨rfl, b5_⟩
  have K9 := K8.call b5_
  clear K8 b5_
  go_wp2_with fail
  go_ret
  exact ⟨rfl, K9.below⟩
end Go.Proofs.YtedogodccblfeaaGreatDoor

namespace Go.Proofs.YtedogodccblfeaaGreatDoor
open Go.RowKit
set_option linter.unusedVariables false
set_option linter.unusedSimpArgs false

/-- a list of tables in memory -/
structure Lt where
  A : Option Addr
  n : Nat
  c : Nat
  l : List Te
def Lt.val (x : Lt) : Value := .slice x.A x.n x.c
def LtsIn (xs : List Lt) (w : World) : Prop := ∀ x ∈ xs, TesIn x.A x.n x.l w
structure Lt.ok (x : Lt) : Prop where
  nc : x.n ≤ x.c
  c : x.c ≤ 9223372036854775807
  n : x.n ≤ 1000
  l : ∀ z ∈ x.l, z.ok ∧ TbM z.tb
theorem ltsIn_nil (w : World) (M : Nat → Prop) : Ro w M (LtsIn []) := fun _ _ _ r hr => nomatch hr
theorem ltsIn_cons {w : World} {M : Nat → Prop} {x : Lt} {xs : List Lt} (h : Ro w M (TesIn x.A x.n x.l)) (k : Ro w M (LtsIn xs)) : Ro w M (LtsIn (x :: xs)) := fun w2 h1 h2 z hz => by
  rcases List.mem_cons.1 hz with rfl | hz
  · exact h w2 h1 h2
  · exact k w2 h1 h2 z hz
theorem tesIn_take {w : World} {b o n : Nat} {l : List Te} (h : TesIn (some ⟨b, o, none⟩) n l w) {k : Nat} (hk : k ≤ n) : TesIn (some ⟨b, o, none⟩) k (l.take k) w := by
  have hl := h.len
  refine ⟨?_, fun x hx => h.2 x (List.mem_of_mem_take hx)⟩
  have h1 : Rd w w.heap.size 4 (some ⟨b, o, none⟩) n (teCells l) := h.1
  refine ⟨by rw [teCells_len, List.length_take, Nat.min_eq_left (by omega)], fun h0 => ?_⟩
  obtain ⟨b', o', e, hb, hc⟩ := h1.2 (by omega)
  refine ⟨b', o', e, hb, fun j u hu => hc j u ?_⟩
  have e2 : teCells l = teCells (l.take k) ++ teCells (l.drop k) := by
    unfold teCells; rw [← List.flatMap_append, List.take_append_drop]
  rw [e2, List.getElem?_append_left (List.getElem?_eq_some_iff.1 hu).1]
  exact hu
end Go.Proofs.YtedogodccblfeaaGreatDoor

namespace Go.Proofs.YtedogodccblfeaaGreatDoor
open Go.RowKit
set_option linter.unusedVariables false
set_option linter.unusedSimpArgs false

/-- The columns that a draw makes: names three places apart, at most one key, which is not null. -/
def DrawnCols (key : Nat) (l : List Col) : Prop := ∀ j c, l[j]? = some c → c.name = nm_ ((j * 3 + key) % 8) ∧ 1 ≤ c.ty ∧ c.ty ≤ 3 ∧ (c.key = true → j = key ∧ c.nn = true)

/-- A schema drawn: valid, its columns in memory that nobody writes. -/
def DrawnSch (w : World) (T : Nat) (M : Nat → Prop) (e : Ending) (w' : World) : Prop :=
  ∃ (nm : ByteArray) (A : Option Addr) (n c : Nat) (l : List Col), e = .returned (.agg #[.string nm, .slice A n c]) ∧ schemaB nm l = true ∧ nm.size ≤ 12 ∧ (∀ x ∈ l, x.name.size ≤ 12) ∧ n ≤ 5 ∧ n ≤ c ∧ c ≤ 9223372036854775807 ∧ Ro w' M (SlR 4 A n (colCells l)) ∧ Tp w' T ∧ w.grownBy w' (some T)

theorem findFrom_some {α : Type} (p : α → Bool) : ∀ (l : List α) (k f : Nat), findFrom p k l = (f : Int) → ∃ x, l[f - k]? = some x ∧ p x = true ∧ k ≤ f
  | [], k, f, h => by rw [findFrom] at h; omega
  | c :: r, k, f, h => by
    rw [findFrom] at h
    split at h
    · rename_i hp
      obtain rfl : k = f := by omega
      exact ⟨c, by simp, hp, Nat.le_refl _⟩
    · obtain ⟨x, h1, h2, h3⟩ := findFrom_some p r (k + 1) f h
      refine ⟨x, ?_, h2, by omega⟩
      rw [show f - k = (f - (k + 1)) + 1 from by omega]
      simpa using h1
theorem find_some_of {α : Type} {p : α → Bool} {l : List α} {f : Nat} (h : findB p l = (f : Int)) : ∃ x, l[f]? = some x ∧ p x = true := by
  obtain ⟨x, h1, h2, _⟩ := findFrom_some p l 0 f h
  exact ⟨x, by simpa using h1, h2⟩
theorem drawnCols_snoc {key : Nat} {l : List Col} {c : Col} (h : DrawnCols key l) (h1 : c.name = nm_ ((l.length * 3 + key) % 8)) (h2 : 1 ≤ c.ty) (h3 : c.ty ≤ 3) (h4 : c.key = true → l.length = key ∧ c.nn = true) : DrawnCols key (l ++ [c]) := by
  intro j x hx
  rcases Nat.lt_or_ge j l.length with hlt | hge
  · rw [List.getElem?_append_left hlt] at hx; exact h j x hx
  · rw [List.getElem?_append_right hge] at hx
    have : j - l.length = 0 := by
      have := (List.getElem?_eq_some_iff.1 hx).1; simp at this; omega
    rw [this] at hx
    simp only [List.getElem?_cons_zero, Option.some.injEq] at hx
    subst hx
    obtain rfl : j = l.length := by omega
    exact ⟨h1, h2, h3, h4⟩
theorem find_first {l : List Col} {key : Nat} (h : DrawnCols key l) (hl : l.length ≤ 5) {j : Nat} {c : Col} (hc : l[j]? = some c) : findB (named c.name) l = (j : Int) := by
  obtain ⟨f0, f1⟩ := find_le (l := l) (named_self c) hc
  obtain ⟨f, hf⟩ := Int.eq_ofNat_of_zero_le f0
  have hj := (List.getElem?_eq_some_iff.1 hc).1
  have hex : ∃ x, l[f]? = some x ∧ named c.name x = true := by
    have := find_some_of (p := named c.name) (l := l) (f := f) hf
    exact this
  obtain ⟨x, hx, hn⟩ := hex
  obtain ⟨e1, _⟩ := h f x hx
  obtain ⟨e2, _⟩ := h j c hc
  rw [hf]
  by_cases hne : f = j
  · rw [hne]
  · exfalso
    unfold named at hn
    rw [e1, e2] at hn
    have hfl := (List.getElem?_eq_some_iff.1 hx).1
    rw [nm_ne _ (Nat.mod_lt _ (by omega)) _ (Nat.mod_lt _ (by omega)) (by omega)] at hn
    cases hn
theorem okFrom_all {α : Type} {t : Nat → α → Bool} : ∀ (l : List α) (k : Nat), (∀ j c, l[j]? = some c → t (k + j) c = true) → okFrom t k l = true
  | [], _, _ => rfl
  | c :: r, k, h => by
    rw [okFrom, show t k c = true from h 0 c rfl, Bool.true_and]
    exact okFrom_all r (k + 1) fun j x hx => by rw [show k + 1 + j = k + (j + 1) from by omega]; exact h (j + 1) x (by simpa using hx)
theorem keys_one {key : Nat} : ∀ (l : List Col) (k : Nat), (∀ j c, l[j]? = some c → c.key = true → k + j = key) → (l.filter Col.key).length ≤ 1 ∧ (key < k → (l.filter Col.key).length = 0)
  | [], _, _ => by simp
  | c :: r, k, h => by
    obtain ⟨h1, h2⟩ := keys_one (key := key) r (k + 1) fun j x hx hk => by have := h (j + 1) x (by simpa using hx) hk; omega
    have h0 := h 0 c rfl
    cases hk : c.key
    · simp only [List.filter_cons, hk, Bool.false_eq_true, if_false]
      exact ⟨h1, fun hlt => h2 (by omega)⟩
    · have := h0 hk
      simp only [List.filter_cons, hk, if_true, List.length_cons]
      have := h2 (by omega)
      exact ⟨by omega, fun hlt => by omega⟩
theorem drawn_valid {key : Nat} {l : List Col} {j : Nat} (h : DrawnCols key l) (hl : l.length ≤ 5) (h1 : 1 ≤ l.length) (hj : j < 8) : schemaB (nm_ j) l = true := by
  have hk := (keys_one (key := key) l 0 (fun i c hc hk => by have := ((h i c hc).2.2.2 hk).1; omega)).1
  have ho : okFrom (colOk l) 0 l = true := okFrom_all l 0 fun i c hc => by
    obtain ⟨e1, e2, e3, e4⟩ := h i c hc
    rw [Nat.zero_add]
    unfold colOk
    rw [find_first h hl hc, e1, (nm_ok _ (Nat.mod_lt _ (by omega))).1]
    cases hkey : c.key
    · simp [e2, e3]
    · simp [e2, e3, (e4 hkey).2]
  unfold schemaB
  rw [(nm_ok j hj).1, ho]
  simp [h1, hk]; omega

theorem two_of {w : World} {a b : Nat} {t : TypeId} {x0 x1 : Value} {s : ByteArray} {j : Nat} (ha : Blk w a t #[x0, x1]) (hn : w.cell? ⟨b, j, none⟩ = some (.string s)) : w.cell? ⟨a, 1, none⟩ = some x1 ∧ w.cell? ⟨b, j, none⟩ = some (.string s) := ⟨ha.cell 1, hn⟩
theorem Tryz.infoCol : (Tryz.prog.info? 147).map (fun i => (i.zero, i.size, i.bytes)) = some (some (.agg #[.string ⟨#[]⟩, .int .i64 0, .bool false, .bool false]), 4, 32) := by kernel_rfl

set_option maxHeartbeats 8000000 in
theorem anyschema_any (M : Nat → Prop) (T : Nat) (w : World) (hM : ∀ b, M b → b < w.heap.size) (ht : Tp w T) (hMT : ∀ b, M b → T ≤ b) (hw : Nms w) (hT : 1 < T) :
    Calls Tryz.prog 31 #[.pointer (some ⟨T, 0, none⟩)] w fun e w' => DrawnSch w T M e w' := by
  have hMn : ¬ Mut M [.tp T] 1 := by
    rintro (h | ⟨k, hk, hf⟩)
    · have := hMT _ h; omega
    · simp only [List.mem_singleton] at hk; subst hk; injection hf with hf; omega
  have K0 := ((Hold.startT M w T hM ht hMT).add (hw.ro hMn)).alloc #[.string ⟨#[]⟩, .slice none 0 0] 49
  clear hw hMn
  go_enter Tryz.func31, Tryz.ntmps31
  go_wp2_with fail
  refine (name_any T _ (K0.tp_ 2 rfl) (K0.ro 1 rfl).now hT).mono ?_
  rintro e w1 ⟨jn, hjn, rfl, t1, g1⟩
  have K1 := (Hold.callT K0 2 rfl g1 t1).alloc #[.string (nm_ jn), .slice none 0 0] 49
  clear g1 t1
  go_wp2_with fail
  refine (next_any T 4 _ (K1.tp_ 3 rfl) (by omega) (by omega)).mono ?_
  rintro e w2 ⟨key, rfl, hk0, hk1, t2, g2⟩
  have K2 := Hold.callT K1 3 rfl g2 t2
  clear g2 t2
  obtain ⟨key, rfl⟩ := Int.eq_ofNat_of_zero_le hk0
  go_wp2_with fail
  refine (next_any T 5 _ (K2.tp_ 3 rfl) (by omega) (by omega)).mono ?_
  rintro e w3 ⟨num, rfl, hn0, hn1, t3, g3⟩
  have K3 := Hold.callT K2 3 rfl g3 t3
  clear g3 t3
  obtain ⟨num, rfl⟩ := Int.eq_ofNat_of_zero_le hn0
  have K4 := K3.nil 147 4
  clear K3 K2 K1 K0
  go_wp2_with fail
  go_loopw [5] (fun i wr => ∃ (j cap : Nat) (A : Option Addr) (l : List Col), j ≤ num + 1 ∧ i = .int .i64 ((num : Int) + 1 - j) ∧ l.length = j ∧ DrawnCols key l ∧ j ≤ cap ∧
    Hold M (some T) w wr [.own 147 4 (.slice A j cap) j (colCells l), .blk w1.heap.size 49 #[.string (nm_ jn), .slice A j cap], .blk w.heap.size 49 #[.string ⟨#[]⟩, .slice none 0 0], .ro Nms, .tp T]) (fun i _ => (intOf i).toNat)
  case atStart => exact ⟨0, 0, none, [], by omega, by go_num, rfl, (fun j c h => by simp at h), by omega, K4⟩
  case round =>
    obtain ⟨j, cap, A, l, hj, rfl, hl, hd, hcap, H⟩ := hrel
    have HL := hid hl; clear hl
    have HD := hid hd; clear hd
    have F := H.facts
    simp only [World.size_alloc, factsL, cellsF, List.toList_toArray, Nat.reduceAdd, and_true, true_and] at F
    by_cases hlt : j < num + 1
    · obtain ⟨q, hq⟩ : ∃ q, q = (j * 3 + key) % 8 := ⟨_, rfl⟩
      have hq8 : q < 8 := by omega
      have s1 : IntKind.i64.wrap ((j : Int) * 3) = (j : Int) * 3 := IntWalk.i64_in _ (by omega)
      have s2 : IntKind.i64.wrap ((j : Int) * 3 + (key : Int)) = (j : Int) * 3 + (key : Int) := IntWalk.i64_in _ (by omega)
      have s3 : ((j : Int) * 3 + (key : Int)).tmod 8 = (q : Int) := by rw [Int.tmod_eq_emod_of_nonneg (by omega)]; omega
      have s4 : IntKind.i64.wrap (q : Int) = (q : Int) := IntWalk.i64_in _ (by omega)
      have HQ := hid hq; clear hq
      have q0 : (0 : Int) ≤ (q : Int) := by omega
      have q8 : (q : Int) < 8 := by omega
      go_wp2_with fail
      go_cut [6] (fun s6 wx => ∃ (g : Nat) (r : Int) (bb : Bool), s6 = .pointer (some ⟨g, 0, none⟩) ∧ 0 ≤ r ∧ r < 3 ∧
        Hold M (some T) w wx [.blk g 147 #[.string (nm_ q), .int .i64 (1 + r), .bool bb, .bool false], .own 147 4 (.slice A j cap) j (colCells l), .blk w1.heap.size 49 #[.string (nm_ jn), .slice A j cap], .blk w.heap.size 49 #[.string ⟨#[]⟩, .slice none 0 0], .ro Nms, .tp T])
      case first =>
        go_region_held3 (fun w' => w'.cell? ⟨w1.heap.size, 1, none⟩ = some (.slice A j cap) ∧ w'.cell? ⟨1, q, none⟩ = some (.string (nm_ q)))
          (first | (have hk_ := two_of (H.drew.blk_ 1 rfl) ((H.drew.ro 3 rfl).now q hq8); with_reducible exact hk_) | (have hk_ := two_of (((H.alloc #[.string ⟨#[]⟩, .int .i64 0, .bool false, .bool false] 147).drew).blk_ 2 rfl) ((((H.alloc #[.string ⟨#[]⟩, .int .i64 0, .bool false, .bool false] 147).drew).ro 4 rfl).now q hq8); with_reducible exact hk_) | (have hk_ := two_of ((H.drew.alloc #[.string ⟨#[]⟩, .int .i64 0, .bool false, .bool false] 147).blk_ 2 rfl) (((H.drew.alloc #[.string ⟨#[]⟩, .int .i64 0, .bool false, .bool false] 147).ro 4 rfl).now q hq8); with_reducible exact hk_) | (have hk_ := two_of (K5.blk_ 1 rfl) ((K5.ro 3 rfl).now q hq8); with_reducible exact hk_) | (have hk_ := two_of (K5.blk_ 2 rfl) ((K5.ro 4 rfl).now q hq8); with_reducible exact hk_) | (have hk_ := two_of ((K5.alloc #[.string ⟨#[]⟩, .int .i64 0, .bool false, .bool false] 147).blk_ 2 rfl) (((K5.alloc #[.string ⟨#[]⟩, .int .i64 0, .bool false, .bool false] 147).ro 4 rfl).now q hq8); with_reducible exact hk_) | (have hk_ := two_of (K6.blk_ 1 rfl) ((K6.ro 3 rfl).now q hq8); with_reducible exact hk_) | (have hk_ := two_of (K6.blk_ 2 rfl) ((K6.ro 4 rfl).now q hq8); with_reducible exact hk_) | (have hk_ := two_of ((K6.alloc #[.string ⟨#[]⟩, .int .i64 0, .bool false, .bool false] 147).blk_ 2 rfl) (((K6.alloc #[.string ⟨#[]⟩, .int .i64 0, .bool false, .bool false] 147).ro 4 rfl).now q hq8); with_reducible exact hk_) | (have hk_ := two_of ((K6.alloc #[.string (nm_ q), .int .i64 (1 + r), .bool bb, .bool false] 147).blk_ 2 rfl) (((K6.alloc #[.string (nm_ q), .int .i64 (1 + r), .bool bb, .bool false] 147).ro 4 rfl).now q hq8); with_reducible exact hk_) | (have hk_ := two_of (((((K6.store 0 rfl 0 (.string (nm_ q))).store 0 rfl 1 (.int .i64 (1 + r))).store 0 rfl 2 (.bool bb)).store 0 rfl 3 (.bool false)).blk_ 2 rfl) ((((((K6.store 0 rfl 0 (.string (nm_ q))).store 0 rfl 1 (.int .i64 (1 + r))).store 0 rfl 2 (.bool bb)).store 0 rfl 3 (.bool false)).ro 4 rfl).now q hq8); with_reducible exact hk_))
          (first
            | (have ht_ := H.drew.tp_ 4 rfl; go_at_call 43; ((with_reducible refine (next_any T 3 _ ht_ (by omega) (by omega)).mono ?_); clear ht_; rintro e w5 ⟨r, rfl, hr0, hr1, t5, g5⟩; have K5 := Hold.callT H.drew 4 rfl g5 t5; have hw5 : IntKind.i64.wrap (1 + r) = 1 + r := IntWalk.i64_in _ (by omega)))
            | (have ht_ := ((H.alloc #[.string ⟨#[]⟩, .int .i64 0, .bool false, .bool false] 147).drew).tp_ 5 rfl; go_at_call 43; ((with_reducible refine (next_any T 3 _ ht_ (by omega) (by omega)).mono ?_); clear ht_; rintro e w5 ⟨r, rfl, hr0, hr1, t5, g5⟩; have K5 := Hold.callT ((H.alloc #[.string ⟨#[]⟩, .int .i64 0, .bool false, .bool false] 147).drew) 5 rfl g5 t5; have hw5 : IntKind.i64.wrap (1 + r) = 1 + r := IntWalk.i64_in _ (by omega)))
            | (have ht_ := (H.drew.alloc #[.string ⟨#[]⟩, .int .i64 0, .bool false, .bool false] 147).tp_ 5 rfl; go_at_call 43; ((with_reducible refine (next_any T 3 _ ht_ (by omega) (by omega)).mono ?_); clear ht_; rintro e w5 ⟨r, rfl, hr0, hr1, t5, g5⟩; have K5 := Hold.callT (H.drew.alloc #[.string ⟨#[]⟩, .int .i64 0, .bool false, .bool false] 147) 5 rfl g5 t5; have hw5 : IntKind.i64.wrap (1 + r) = 1 + r := IntWalk.i64_in _ (by omega)))
            | (have ht_ := K5.tp_ 4 rfl; go_at_call 79; ((with_reducible refine (bool_any T 3 _ ht_ (by omega) (by omega)).mono ?_); clear ht_; rintro e w6 ⟨bb, rfl, t6, g6⟩; have K6 := Hold.callT K5 4 rfl g6 t6; have F6 := K6.facts; simp only [World.size_alloc, World.size_drew, factsL, cellsF, Nat.reduceAdd, List.toList_toArray, List.set_cons_zero, List.set_cons_succ, List.setIfInBounds_toArray, and_true, true_and] at F6))
            | (have ht_ := K5.tp_ 5 rfl; go_at_call 79; ((with_reducible refine (bool_any T 3 _ ht_ (by omega) (by omega)).mono ?_); clear ht_; rintro e w6 ⟨bb, rfl, t6, g6⟩; have K6 := Hold.callT K5 5 rfl g6 t6; have F6 := K6.facts; simp only [World.size_alloc, World.size_drew, factsL, cellsF, Nat.reduceAdd, List.toList_toArray, List.set_cons_zero, List.set_cons_succ, List.setIfInBounds_toArray, and_true, true_and] at F6))
            | (have ht_ := (K5.alloc #[.string ⟨#[]⟩, .int .i64 0, .bool false, .bool false] 147).tp_ 5 rfl; go_at_call 79; ((with_reducible refine (bool_any T 3 _ ht_ (by omega) (by omega)).mono ?_); clear ht_; rintro e w6 ⟨bb, rfl, t6, g6⟩; have K6 := Hold.callT (K5.alloc #[.string ⟨#[]⟩, .int .i64 0, .bool false, .bool false] 147) 5 rfl g6 t6; have F6 := K6.facts; simp only [World.size_alloc, World.size_drew, factsL, cellsF, Nat.reduceAdd, List.toList_toArray, List.set_cons_zero, List.set_cons_succ, List.setIfInBounds_toArray, and_true, true_and] at F6)))
        all_goals
          go_wp2_with fail
          go_meet
          first
            | exact ⟨_, r, bb, rfl, hr0, hr1, K6.alloc #[.string (nm_ q), .int .i64 (1 + r), .bool bb, .bool false] 147⟩
            | exact ⟨_, r, bb, rfl, hr0, hr1, (((K6.store 0 rfl 0 (.string (nm_ q))).store 0 rfl 1 (.int .i64 (1 + r))).store 0 rfl 2 (.bool bb)).store 0 rfl 3 (.bool false)⟩
      case rest =>
        obtain ⟨g, r, bb, rfl, hr0, hr1, K⟩ := hcut
        clear s1 s2 s3 s4 F H
        have NK := K.nes
        simp only [World.size_alloc, nesL, neF, and_true, true_and] at NK
        have FK := K.facts
        simp only [World.size_alloc, World.size_drew, factsL, cellsF, Nat.reduceAdd, List.toList_toArray, List.set_cons_zero, List.set_cons_succ, List.setIfInBounds_toArray, and_true, true_and] at FK
        by_cases hkj : key = j
        · have hkb : ((key : Int) == (j : Int)) = true := by simp; omega
          have HKJ := hid hkj; clear hkj
          have KP := ((K.store 0 rfl 3 (.bool true)).store 0 rfl 2 (.bool true))
          have HOWN := hid (KP.get 1 rfl)
          have HB := hid KP.grow.size
          go_wp2_with (at_builtin; go_must (refine wpList_app2 ((wc.setCell ⟨g, 3, none⟩ (.bool true)).setCell ⟨g, 2, none⟩ (.bool true)) #[.string (nm_ q), .int .i64 (1 + r), .bool true, .bool true] rfl (.tmp 42) (.tmp 44) 47 rfl w.heap.size 147 4 32 _ Tryz.underlying47 Tryz.infoCol rfl (by omega) (.slice A j cap) j (colCells l) rfl HOWN.out wc.heap.size (by simp) rfl rfl (by intro u hu; simp at hu; rcases hu with rfl | rfl | rfl | rfl <;> rfl) (by omega) (by omega) HB.out ?_); intro g' cap' w' ho hg hdj hl'; have hcap' := hid ho.2; have KA := Hold.append (KP.alloc_cst #[.string (nm_ q), .int .i64 (1 + r), .bool true, .bool true] 147) 2 rfl ho hg hdj hl'; have FA := KA.facts; simp only [World.size_alloc, World.size_drew, factsL, cellsF, Nat.reduceAdd, List.toList_toArray, List.set_cons_zero, List.set_cons_succ, List.setIfInBounds_toArray, and_true, true_and] at FA; clear FK)
          have KB := KA.store 3 rfl 1 (.slice (some ⟨g', 0, none⟩) (j + 1) cap')
          go_roundw
          case rel =>
            have e : colCells l ++ (#[.string (nm_ q), .int .i64 (1 + r), .bool true, .bool true] : Array Value).toList = colCells (l ++ [⟨nm_ q, 1 + r, true, true⟩]) := by simp [colCells, Col.cells]
            have hcc : j + 1 ≤ cap' := by
              rcases hcap'.out with ⟨h, _⟩ | ⟨g2, c2, cur, hv, _, _, hle, _⟩
              · cases h
              · have h3 := (Value.slice.inj hv).2.2; omega
            refine ⟨j + 1, cap', some ⟨g', 0, none⟩, l ++ [⟨nm_ q, 1 + r, true, true⟩], by omega, by go_num, by rw [List.length_append, HL.out]; rfl, drawnCols_snoc HD.out (by rw [HL.out, ← HQ.out]) (by show (1 : Int) ≤ 1 + r; omega) (by show 1 + r ≤ (3 : Int); omega) ?_, hcc, ?_⟩
            · intro _; exact ⟨by rw [HL.out, HKJ.out], rfl⟩
            · rw [← e]
              exact KB.drop (List.Sublist.cons _ (List.sublist_cons_self _ _))
          case measure => simp [intOf]; omega
        · have hkb : ((key : Int) == (j : Int)) = false := by simp; omega
          clear hkj
          have KP := K
          have HOWN := hid (KP.get 1 rfl)
          have HB := hid KP.grow.size
          go_wp2_with (at_builtin; go_must (refine wpList_app2 wc #[.string (nm_ q), .int .i64 (1 + r), .bool bb, .bool false] rfl (.tmp 42) (.tmp 44) 47 rfl w.heap.size 147 4 32 _ Tryz.underlying47 Tryz.infoCol rfl (by omega) (.slice A j cap) j (colCells l) rfl HOWN.out wc.heap.size (by simp) rfl rfl (by intro u hu; simp at hu; rcases hu with rfl | rfl | rfl | rfl <;> rfl) (by omega) (by omega) HB.out ?_); intro g' cap' w' ho hg hdj hl'; have hcap' := hid ho.2; have KA := Hold.append (KP.alloc_cst #[.string (nm_ q), .int .i64 (1 + r), .bool bb, .bool false] 147) 2 rfl ho hg hdj hl'; have FA := KA.facts; simp only [World.size_alloc, World.size_drew, factsL, cellsF, Nat.reduceAdd, List.toList_toArray, List.set_cons_zero, List.set_cons_succ, List.setIfInBounds_toArray, and_true, true_and] at FA; clear FK)
          have KB := KA.store 3 rfl 1 (.slice (some ⟨g', 0, none⟩) (j + 1) cap')
          go_roundw
          case rel =>
            have e : colCells l ++ (#[.string (nm_ q), .int .i64 (1 + r), .bool bb, .bool false] : Array Value).toList = colCells (l ++ [⟨nm_ q, 1 + r, bb, false⟩]) := by simp [colCells, Col.cells]
            have hcc : j + 1 ≤ cap' := by
              rcases hcap'.out with ⟨h, _⟩ | ⟨g2, c2, cur, hv, _, _, hle, _⟩
              · cases h
              · have h3 := (Value.slice.inj hv).2.2; omega
            refine ⟨j + 1, cap', some ⟨g', 0, none⟩, l ++ [⟨nm_ q, 1 + r, bb, false⟩], by omega, by go_num, by rw [List.length_append, HL.out]; rfl, drawnCols_snoc HD.out (by rw [HL.out, ← HQ.out]) (by show (1 : Int) ≤ 1 + r; omega) (by show 1 + r ≤ (3 : Int); omega) ?_, hcc, ?_⟩
            · intro h; cases h
            · rw [← e]
              exact KB.drop (List.Sublist.cons _ (List.sublist_cons_self _ _))
          case measure => simp [intOf]; omega
    · obtain rfl : j = num + 1 := by omega
      have hc63 : cap ≤ 9223372036854775807 := by
        rcases (H.get 0 rfl).2 with ⟨h, _⟩ | ⟨g2, c2, cur, hv, _, _, hle, hm, _⟩
        · injection h with _ h2 h3; omega
        · have h3 := (Value.slice.inj hv).2.2; unfold maxLen at hm; omega
      have HV := hid (drawn_valid HD.out (by rw [HL.out]; omega) (by rw [HL.out]; omega) hjn)
      have HN := hid (show ∀ x ∈ l, x.name.size ≤ 12 from fun x hx => by
        obtain ⟨i, hi⟩ := List.getElem?_of_mem hx
        rw [(HD.out i x hi).1]
        exact (nm_ok _ (Nat.mod_lt _ (by omega))).2)
      have KF := ((H.sealRow 0 rfl).store 2 rfl 0 (.string (nm_ jn))).store 2 rfl 1 (.slice A (num + 1) cap)
      go_wp2_with fail
      refine bodyPost_ret (v := .agg #[.string (nm_ jn), .slice A (num + 1) cap]) (by simp [results, Tryz.results31, go_sem, F]) rfl ⟨nm_ jn, A, num + 1, cap, l, rfl, HV.out, (nm_ok jn hjn).2, HN.out, by omega, by omega, hc63, KF.roOut 0 rfl, KF.tp_ 4 rfl, KF.grow⟩
end Go.Proofs.YtedogodccblfeaaGreatDoor

namespace Go.Proofs.YtedogodccblfeaaGreatDoor
open Go.RowKit
set_option linter.unusedVariables false
set_option linter.unusedSimpArgs false

/-- a table within the limits of all that StoreForms calls -/
def TeAll (z : Te) : Prop := z.ok ∧ TeLim z ∧ TbM z.tb
theorem teAll_tbl {z : Te} {w : World} (h : z.ok) (ht : TbL z.tb) (hw : TeIn z w) : TeAll z := by
  have q1 : z.cs.length = z.n := cols_n hw.1
  have q2 : z.l.length = z.m := hw.2.len
  have q3 : z.tb.rs.length = z.l.length := List.length_map ..
  have q4 : z.tb.cs.length = z.cs.length := rfl
  refine ⟨h, ⟨by have := ht.2.2.1; omega, by have := ht.2.2.2.1; omega, fun r hr => ⟨h.l r hr, ?_⟩⟩, ht.tbm⟩
  have a := ht.2.2.2.2 r.row (List.mem_map_of_mem hr)
  have b : r.vs.length = r.n := (hw.2.2 r hr).len
  have c : r.row.2 = r.vs := rfl
  rw [c] at a; omega
/-- what the arguments' tables are -/
structure TeRaw (z : Te) : Prop where
  ok : z.ok
  m : TbM z.tb
  n : z.n ≤ 4398046511104
  r : ∀ r ∈ z.l, r.n ≤ 4398046511104
theorem TeRaw.all {z : Te} (h : TeRaw z) (hm : z.m ≤ 1000000) : TeAll z := ⟨h.ok, ⟨h.n, hm, fun r hr => ⟨h.ok.l r hr, h.r r hr⟩⟩, h.m⟩
theorem putC_tab {l : List Tb} {t : Tb} : ∀ x ∈ (putC l t).2, tabB x.nm x.cs x.nx x.rs = true := fun x hx => by
  unfold putC at hx
  split at hx
  · rename_i h
    rw [Bool.and_eq_true] at h
    exact storB_tab h.2 x hx
  · cases hx
theorem putC_len {l : List Tb} {t : Tb} : (putC l t).2.length ≤ 6 := by
  unfold putC
  split
  · rename_i h
    rw [Bool.and_eq_true] at h
    rcases Nat.lt_or_ge 6 (insT false t l).length with h6 | h6
    · have := storB_big h6; rw [h.2] at this; cases this
    · exact h6
  · exact Nat.zero_le _
def SpoSl (M : Nat → Prop) (u : Value) (w : World) : Prop := ∃ (A : Option Addr) (n c : Nat) (l : List Te), u = .slice A n c ∧ n ≤ c ∧ c ≤ 9223372036854775807 ∧ 3 ≤ n ∧ n ≤ 4 ∧ (∀ x ∈ l, x.ok ∧ TbL x.tb) ∧ Ro w M (TesIn A n l)
theorem spoSl_mono {M : Nat → Prop} (u : Value) (w w' : World) (hr : RM M w w') (h : SpoSl M u w) : SpoSl M u w' := by
  obtain ⟨A, n, c, l, h1, h2, h3, h4, h5, h6, h7⟩ := h
  exact ⟨A, n, c, l, h1, h2, h3, h4, h5, h6, hr.ro h7⟩
def Lit5 (M : Nat → Prop) (ty : TypeId) (C : Value → Array Value) (u : Value) (w : World) : Prop := ∃ (g : Nat) (s : Value), u = .slice (some ⟨g, 0, none⟩) 5 5 ∧ Ro w M (fun w => w.heap[g]? = some (.cells (C s) ty (0, 0))) ∧ SpoSl M s w
theorem lit5_mono {M : Nat → Prop} {ty : TypeId} {C : Value → Array Value} (u : Value) (w w' : World) (hr : RM M w w') (h : Lit5 M ty C u w) : Lit5 M ty C u w' := by
  obtain ⟨g, s, h1, h2, h3⟩ := h
  exact ⟨g, s, h1, hr.ro h2, spoSl_mono _ _ _ hr h3⟩
def SpTe (M : Nat → Prop) (u : Value) (w : World) : Prop := ∃ q : Te, u = q.val ∧ q.ok ∧ TbL q.tb ∧ Ro w M (TeIn q)
theorem spTe_mono {M : Nat → Prop} (u : Value) (w w' : World) (hr : RM M w w') (h : SpTe M u w) : SpTe M u w' := by
  obtain ⟨q, h1, h2, h3, h4⟩ := h
  exact ⟨q, h1, h2, h3, hr.ro h4⟩
def Lit4 (M : Nat → Prop) (ty : TypeId) (x y z : Te) (u : Value) (w : World) : Prop := ∃ (g : Nat) (q : Te), u = .slice (some ⟨g, 0, none⟩) 4 4 ∧ Ro w M (fun w => w.heap[g]? = some (.cells #[.string x.nm, .slice x.A x.n x.c, .int .i64 x.nx, .slice x.B x.m x.d, .string y.nm, .slice y.A y.n y.c, .int .i64 y.nx, .slice y.B y.m y.d, .string z.nm, .slice z.A z.n z.c, .int .i64 z.nx, .slice z.B z.m z.d, .string q.nm, .slice q.A q.n q.c, .int .i64 q.nx, .slice q.B q.m q.d] ty (0, 0))) ∧ q.ok ∧ TbL q.tb ∧ Ro w M (TeIn q)
theorem lit4_mono {M : Nat → Prop} {ty : TypeId} {x y z : Te} (u : Value) (w w' : World) (hr : RM M w w') (h : Lit4 M ty x y z u w) : Lit4 M ty x y z u w' := by
  obtain ⟨g, q, h1, h2, h3, h4, h5⟩ := h
  exact ⟨g, q, h1, hr.ro h2, h3, h4, hr.ro h5⟩
theorem te_lim {z : Te} {w : World} (h : z.ok) (hm : TbM z.tb) (hc : z.tb.cs.length ≤ 6) (hw : TeIn z w) : z.n ≤ 4398046511104 ∧ z.m ≤ 4398046511104 ∧ ∀ r ∈ z.l, r.n ≤ 4398046511104 := by
  have q1 : z.cs.length = z.n := cols_n hw.1
  have q2 : z.l.length = z.m := hw.2.len
  have q3 : z.tb.rs.length = z.l.length := List.length_map ..
  have q4 : z.tb.cs.length = z.cs.length := rfl
  refine ⟨by omega, by have := hm.rs; omega, fun r hr => ?_⟩
  have a := hm.row r.row (List.mem_map_of_mem hr)
  have b : r.vs.length = r.n := (hw.2.2 r hr).len
  have c : r.row.2 = r.vs := rfl
  rw [c] at a; omega
set_option maxHeartbeats 32000000 in
set_option maxRecDepth 100000 in
theorem sforms_walk (rA : Option Addr) (rn rc : Nat) (rl : List Te) (x : Te) (nmq : ByteArray) (A : Option Addr) (n c : Nat) (zs : List Int) (w : World) (hr0 : Ro w None_ (TesIn rA rn rl)) (hx : Ro w None_ (TeIn x)) (okr : ∀ z ∈ rl, TeRaw z) (okx : TeRaw x) (hrc : rn ≤ rc) (hrm : rc ≤ 9223372036854775807)
    (hr : Rd w w.heap.size 1 A n (zs.map (Value.int .i64))) (hz : Ints zs) (hn : n ≤ c) (hc : c ≤ 9223372036854775807) (hw : Wds w) (hm : Nms w) :
    Calls Tryz.prog 7 #[.slice rA rn rc, .agg #[.string x.nm, .slice x.A x.n x.c, .int .i64 x.nx, .slice x.B x.m x.d], .string nmq, .slice A n c] w fun e w' => e = .returned (.bool true) ∧ Below w.heap.size w w' := by
  have hwl := hw.lt
  have hml := hm.lt
  have HR0 := hid (And.intro hrc (And.intro hrm okr))
  have HX0 := hid okx
  have HLR := hid hr0.now.len
  have wd0 := hw.ro2 (M := None_) (fun h => h)
  have nm0 := hm.ro (M := None_) (fun h => h)
  have hrz := (Rd.ro hr (Nat.le_refl _) (fun b _ h => h) : Ro w None_ (SlR 1 A n (zs.map (Value.int .i64))))
  have K0 := (((((Hold.begin_ w).add (hrz.less (by simp [Mut, None_]))).add (wd0.less (by simp [Mut, None_, Hp.foot]))).add (nm0.less (by simp [Mut, None_, Hp.foot]))).add (hr0.less (by simp [Mut, None_, Hp.foot]))).add (hx.less (by simp [Mut, None_, Hp.foot])) |>.alloc_cst #[.string x.nm, .slice x.A x.n x.c, .int .i64 x.nx, .slice x.B x.m x.d] 58
  obtain ⟨bx, hbx⟩ : ∃ g, g = w.heap.size := ⟨_, rfl⟩
  rw [← hbx] at K0
  have F0 := K0.facts
  simp only [World.size_alloc, World.size_drew, factsL, cellsF, Nat.reduceAdd, List.toList_toArray, List.set_cons_zero, List.set_cons_succ, List.setIfInBounds_toArray, and_true, true_and] at F0
  clear hr0 hx okr okx hw hm hr wd0 nm0 hrz hrc hrm
  by_cases h8 : 8 < rn
  · have d1 : decide ((rn : Int) > 8) = true := by simp; omega
    have d2 : (8 : Int) < (rn : Int) := by omega
    go_enter Tryz.func7, Tryz.ntmps7
    go_wp2_with fail
    refine (known9 _).mono ?_
    rintro e w8 ⟨rfl, b8⟩
    have HB := hid (K0.call b8).below
    clear K0 b8 F0
    go_wp2_with fail
    (try simp only [Exit.inBlock, Exit.then])
    first | (go_ret; exact ⟨rfl, HB.out⟩) | exact bodyPost_ret (v := .bool true) (by simp [results, Tryz.results7, go_sem]) rfl ⟨rfl, HB.out⟩
  have d1 : decide ((rn : Int) > 8) = false := by simp; omega
  have d2 : ¬ (8 : Int) < (rn : Int) := by omega
  by_cases h30 : 30 < x.m
  · have d3 : decide ((x.m : Int) > 30) = true := by simp; omega
    have d4 : (30 : Int) < (x.m : Int) := by omega
    go_enter Tryz.func7, Tryz.ntmps7
    go_wp2_with fail
    refine (known9 _).mono ?_
    rintro e w8 ⟨rfl, b8⟩
    have HB := hid (K0.call b8).below
    clear K0 b8 F0
    go_wp2_with fail
    (try simp only [Exit.inBlock, Exit.then])
    first | (go_ret; exact ⟨rfl, HB.out⟩) | exact bodyPost_ret (v := .bool true) (by simp [results, Tryz.results7, go_sem]) rfl ⟨rfl, HB.out⟩
  have d3 : decide ((x.m : Int) > 30) = false := by simp; omega
  have d4 : ¬ (30 : Int) < (x.m : Int) := by omega
  have HXA := hid (HX0.out.all (by omega))
  go_enter Tryz.func7, Tryz.ntmps7
  go_wp2_with fail
  rw [← hbx]
  have HBX := hid hbx
  clear hbx F0
  generalize World.alloc w _ = w1 at K0 ⊢
  go_loopw [8, 38] (fun r8 iv wr => ∃ (k : Nat), k ≤ rn ∧ r8 = .bool false ∧ iv = .int .i64 k ∧ Hid (∀ (j : Nat) (z : Te), j < k → rl[j]? = some z → z.m ≤ 20) ∧ Hold None_ none w wr [.cst bx 58 #[.string x.nm, .slice x.A x.n x.c, .int .i64 x.nx, .slice x.B x.m x.d], .ro (TeIn x), .ro (TesIn rA rn rl), .ro Nms, .ro Wds, .ro (SlR 1 A n (zs.map (Value.int .i64)))]) (fun _ iv _ => rn - (intOf iv).toNat)
  case atStart => exact ⟨0, by omega, rfl, rfl, hid (fun j z h => absurd h (by omega)), K0⟩
  case round =>
    clear K0
    obtain ⟨k, hk, rfl, rfl, HM20, H⟩ := hrel
    by_cases hlt : k < rn
    · have hd : decide ((k : Int) < (rn : Int)) = true := by simp; omega
      have i0 : (0 : Int) ≤ (k : Int) := by omega
      have i1 : (k : Int) < (rn : Int) := by omega
      obtain ⟨z, hz⟩ := get_of HLR.out hlt
      obtain ⟨b, o, rfl, hb, f0, f1, f2, f3, -⟩ := (H.ro 2 rfl).now.at_ hz
      have HZ := hid hz
      clear hz
      have K1 := H.alloc_cst #[.string z.nm, .slice z.A z.n z.c, .int .i64 z.nx, .slice z.B z.m z.d] 58
      have FA := K1.facts
      simp only [World.size_alloc, World.size_drew, factsL, cellsF, Nat.reduceAdd, List.toList_toArray, List.set_cons_zero, List.set_cons_succ, List.setIfInBounds_toArray, and_true, true_and] at FA
      clear H
      by_cases hm : 20 < z.m
      · have d1 : decide ((z.m : Int) > 20) = true := by simp; omega
        have d2 : (20 : Int) < (z.m : Int) := by omega
        go_wp2_with fail
        refine (known9 _).mono ?_
        rintro e w8 ⟨rfl, b8⟩
        have HB := hid (K1.call b8).below
        clear K1 b8 FA
        go_wp2_with fail
        (try simp only [Exit.inBlock, Exit.then])
        first | (go_ret; exact ⟨rfl, HB.out⟩) | exact bodyPost_ret (v := .bool true) (by simp [results, Tryz.results7, go_sem]) rfl ⟨rfl, HB.out⟩
      · have d1 : decide ((z.m : Int) > 20) = false := by simp; omega
        have d2 : ¬ (20 : Int) < (z.m : Int) := by omega
        have HM2 := hid (show ∀ (j : Nat) (z : Te), j < k + 1 → rl[j]? = some z → z.m ≤ 20 from fun j z9 hj h => by
          rcases Nat.lt_or_ge j k with h1 | h1
          · exact HM20.out j z9 h1 h
          · obtain rfl : j = k := by omega
            have e := HZ.out
            rw [h] at e
            injection e with e
            subst e; omega)
        have K2 := K1.drop (List.sublist_cons_self _ _)
        go_wp2_with fail
        go_roundw
        case rel => exact ⟨k + 1, by omega, rfl, by first | rfl | go_num, HM2, K2⟩
        case measure => simp [intOf] <;> omega
    · obtain rfl : rn = k := by omega
      have hd : decide ((rn : Int) < (rn : Int)) = false := by simp
      have HRA := hid (show ∀ z ∈ rl, TeAll z from fun z hz => by
        obtain ⟨j, hj⟩ := List.getElem?_of_mem hz
        have hjl := (List.getElem?_eq_some_iff.1 hj).1
        exact (HR0.out.2.2 z hz).all (by have := HM20.out j z (by have := HLR.out; omega) hj; omega))
      go_wp2_with fail
      have hrz : Rd _ _ 1 A n (zs.map (Value.int .i64)) := (H.ro 5 rfl).now
      refine (new_any A n c zs _ hrz hz hn hc).mono ?_
      rintro e w1 ⟨T, rfl, hT, t1, b1⟩
      have hT1 : 2 < T := by have := (H.ro 4 rfl).now.lt; omega
      have hT2 : 1 < T := by have := (H.ro 3 rfl).now.lt; omega
      have K1 := Hold.newTape (H.drop (L' := [_, _, _, _, _]) (.cons_cons _ (.cons_cons _ (.cons_cons _ (.cons_cons _ (.cons_cons _ (List.sublist_cons_self _ _))))))) b1 t1 hT (by simp [Mut, None_, Hp.foot])
      have K2 := K1.perm (L' := [.cst bx 58 #[.string x.nm, .slice x.A x.n x.c, .int .i64 x.nx, .slice x.B x.m x.d], .ro (TeIn x), .ro (TesIn rA rn rl), .ro Nms, .ro Wds, .tp T]) (List.perm_append_comm (l₁ := [_]) (l₂ := [_, _, _, _, _]))
      clear K1 H t1 b1 hT hrz
      go_wp2_with fail
      refine (tstore_any (Mut None_ _) T _ K2.mutLt (K2.tp_ 5 rfl) (K2.get 5 rfl).2 4 (by omega) ((K2.ro 4 rfl).less (mut_tp (i := 5) rfl)) hT1).mono ?_
      rintro e w2 ⟨A0, c0, l, rfl, hc1, hc2, hS, r0, t2, g2⟩
      obtain ⟨l0, hl0⟩ := get_of (show l.length = 3 from r0.now.len) (show 0 < 3 by omega)
      obtain ⟨lb, lo, rfl, -⟩ := r0.now.at_ hl0
      clear hl0 l0
      have K3 := (Hold.callT K2 5 rfl g2 t2).add r0
      have HS := hid hS
      have HC0 := hid (And.intro hc1 hc2)
      have HLA := hid (show ∀ z ∈ l, TeAll z from fun z hz => teAll_tbl (hS.ok z hz).1 (hS.ok z hz).2.1.tbl (r0.now.2 z hz))
      clear K2 t2 g2 r0 hS hc1 hc2
      go_wp2_with fail
      refine (anyschema_any (Mut None_ _) T _ K3.mutLt (K3.tp_ 6 rfl) (K3.get 6 rfl).2 (K3.ro 4 rfl).now hT2).mono ?_
      rintro e w3 ⟨nm7, A7, n7, c7, l7, rfl, hsb, hnm7, hcs7, hn7, hc71, hc72, r7, t7, g7⟩
      have K4 := (Hold.callT K3 6 rfl g7 t7).add r7
      have HSY := hid (schemaB_says hsb)
      have HSB := hid (And.intro hsb (And.intro hnm7 hcs7))
      clear K3 t7 g7 r7 hsb hnm7 hcs7
      go_wp2_with fail
      refine (tof_any (Mut None_ _) T _ K4.mutLt (K4.tp_ 7 rfl) (K4.get 7 rfl).2 nm7 A7 n7 c7 l7 3 ((K4.ro 0 rfl).less (mut_tp (i := 7) rfl)) ((K4.ro 6 rfl).less (mut_tp (i := 7) rfl)) hT1 (by omega) hc71 hc72 HSY.out.1 HSB.out.1 HSY.out.2.1 (by omega)).mono ?_
      rintro e w4 ⟨v, nx8, rs8, rfl, hta, htv, hrl, t8, g8⟩
      obtain ⟨y, rfl, hy2, hyo, ry⟩ := tb_te hta
      have HYA := hid (show TeAll y from teAll_tbl hyo (by
        have q1 := HSB.out.2.1
        have q2 := HSB.out.2.2
        have q7 := HSY.out.2.2.2
        have q8 := tabB_cols htv
        have q9 := (tabB_rows htv).1
        rw [hy2]
        refine ⟨by show nm7.size ≤ maxLen; unfold maxLen; omega, fun x hx => by have := q2 x hx; unfold maxLen; omega, by show l7.length ≤ _; omega, by show rs8.length ≤ _; omega, fun r hr => ?_⟩
        have := tabB_row htv hr
        omega) ry.now)
      have hyv : y.val = .agg #[.string y.nm, .slice y.A y.n y.c, .int .i64 y.nx, .slice y.B y.m y.d] := rfl
      rw [hyv]
      clear hyv
      have K5 := ((Hold.callT K4 7 rfl g8 t8).add ry).alloc_cst #[.string y.nm, .slice y.A y.n y.c, .int .i64 y.nx, .slice y.B y.m y.d] 58
      obtain ⟨by_, hby⟩ : ∃ g, g = w4.heap.size := ⟨_, rfl⟩
      rw [← hby] at K5
      clear K4 t8 g8 hta htv hrl hy2 hyo ry hc71 hc72 hn7
      go_wp2_with fail
      rw [← hby]
      have HBY := hid hby
      clear hby
      refine (tname_any (Mut None_ _) T _ K5.mutLt (K5.tp_ 9 rfl) (K5.get 9 rfl).2).mono ?_
      rintro e w5 ⟨s5, rfl, hs5, t5, g5⟩
      have K6 := Hold.callT K5 9 rfl g5 t5
      have HSO := hid (schOk_name hs5)
      clear K5 t5 g5 hs5
      go_wp2_with fail
      refine (schema_any (Mut None_ _) _ K6.mutLt s5).mono ?_
      rintro e w6 ⟨A6, n6, c6, rfl, hc61, hc62, r6, b6⟩
      have K7 := (K6.call b6).add r6
      clear K6 b6 r6
      go_wp2_with fail
      refine (tof_slot (Mut None_ _) T _ K7.mutLt (K7.tp_ 10 rfl) (K7.get 10 rfl).2 _ A6 n6 c6 _ 3 ((K7.ro 0 rfl).less (mut_tp (i := 10) rfl)) hc61 (by omega) HSO.out ((K7.ro 9 rfl).less (mut_tp (i := 10) rfl)) hT1 (by omega)).mono ?_
      rintro e w7 ⟨v, tz, rfl, hta, htv, -, -, hrl, t7, g7⟩
      obtain ⟨z, rfl, rfl, hzo, rz⟩ := tb_te hta
      have HZV := hid (And.intro hzo htv)
      have HZA := hid (show TeAll z from teAll_tbl hzo htv.tbl rz.now)
      have hzv : z.val = .agg #[.string z.nm, .slice z.A z.n z.c, .int .i64 z.nx, .slice z.B z.m z.d] := rfl
      rw [hzv]
      clear hzv
      have K8 := ((Hold.callT K7 10 rfl g7 t7).add rz).alloc_cst #[.string z.nm, .slice z.A z.n z.c, .int .i64 z.nx, .slice z.B z.m z.d] 58
      obtain ⟨bz, hbz⟩ : ∃ g, g = w7.heap.size := ⟨_, rfl⟩
      rw [← hbz] at K8
      have K9 := (K8.drop (L' := [_, _, _, _, .ro (TesIn (some ⟨lb, lo, none⟩) 3 l), _, _, .ro (TesIn rA rn rl), .ro Wds, .tp T]) (.cons_cons _ (.cons_cons _ (.cons _ (.cons_cons _ (.cons_cons _ (.cons _ (.cons_cons _ (.cons_cons _ (.cons_cons _ (.cons_cons _ (.cons _ (.cons_cons _ (List.Sublist.refl _))))))))))))))
      clear K7 K8 t7 g7 hta htv hrl hzo rz hc61 hc62
      go_wp2_with fail
      rw [← hbz]
      have HBZ := hid hbz
      clear hbz
      generalize World.alloc w7 _ = w8 at K9 ⊢
      have hc01 : (1 : Int) ≤ (c0 : Int) := by have := HC0.out.1; omega
      obtain ⟨KL, hKL, KN⟩ := K9.name
      have HX : Hid (∀ wv, Hold None_ none w wv KL → Ro wv (Mut None_ KL) (TesIn (some ⟨lb, lo, none⟩) 3 l) ∧ Tp wv T ∧ (∀ b, Mut None_ KL b → T ≤ b) ∧ Ro wv (Mut None_ KL) Wds) := hid fun wv HC => by
        rw [hKL] at HC ⊢
        exact ⟨HC.ro 4 rfl, HC.tp_ 9 rfl, (HC.get 9 rfl).2, HC.ro 8 rfl⟩
      have HTP := hid (show KL[9]? = some (.tp T) by rw [hKL]; rfl)
      have HKL := hid hKL
      clear hKL K9
      refine wp_region_any (by kernel_rfl) ?_
      refine wpAny_hold 10 160 (KL) (spL [(65, SpoSl (Mut None_ KL)), (68, Lit5 (Mut None_ KL) 29 (fun s => #[.slice rA rn rc, .slice (some ⟨lb, lo, none⟩) 3 c0, s, .slice (some ⟨lb, lo, none⟩) 1 c0, .slice none 0 0]))]) (by kernel_rfl) (by kernel_rfl) (by kernel_rfl) rfl ?_ (KN.drew) ?_
      · exact stays_cons spoSl_mono (stays_cons lit5_mono (stays_nil _))
      simp only [List.take_succ_cons, List.take_zero, List.drop_succ_cons, List.drop_zero, Act.put, List.getElem_toArray, List.getElem_cons_zero, List.getElem_cons_succ, List.setIfInBounds_toArray, List.set_cons_succ, List.set_cons_zero]
      repeat (first | (refine dw_skip rfl rfl rfl ?_; simp only [Act.put, List.setIfInBounds_toArray, List.set_cons_succ, List.set_cons_zero]) | (refine dw_val rfl rfl rfl ?_; apply Exists.intro; refine ⟨fun wv HC => ?_, ?_⟩; (focus ( go_simp <;> rfl; done)); simp only [Act.put, List.setIfInBounds_toArray, List.set_cons_succ, List.set_cons_zero]))
      refine dw_callR 65 (SpoSl (Mut None_ KL)) (f := 26) (args := #[.pointer (some ⟨T, 0, none⟩), .slice (some ⟨lb, lo, none⟩) 3 c0]) rfl rfl rfl rfl (fun wv => ?_) (fun wv HC hrm hD => ?_) ?_
      · go_simp <;> rfl
      · obtain ⟨x1, x2, x3, x4⟩ := HX.out _ HC
        refine (sspoil9_any (Mut None_ KL) T wv HC.mutLt x2 x3 _ c0 l HC0.out.1 HC0.out.2 (x1.less (mut_tp (i := 9) HTP.out)) (fun x hx => ⟨(HS.out.ok x hx).1, (HS.out.ok x hx).2.1⟩) (x4.less (mut_tp (i := 9) HTP.out)) hT1).mono ?_
        rintro e w5 ⟨A5, n5, c5, l5, rfl, s1, s2, s3, s4, s5, r5, t5, g5'⟩
        exact ⟨_, rfl, ⟨A5, n5, c5, l5, rfl, s1, s2, s3, s4, s5, r5⟩, Hold.callT HC 9 HTP.out g5' t5, RM.grown g5' (.inr ⟨_, List.mem_of_getElem? (i := 9) HTP.out, rfl⟩)⟩
      rintro u_ wx HCx ⟨sA, sn, sc, sl, rfl, -, -, -, -, -, -⟩
      clear HCx sl
      simp only [Act.put, List.setIfInBounds_toArray, List.set_cons_succ, List.set_cons_zero]
      repeat (first | (refine dw_skip rfl rfl rfl ?_; simp only [Act.put, List.setIfInBounds_toArray, List.set_cons_succ, List.set_cons_zero]) | (refine dw_val rfl rfl rfl ?_; apply Exists.intro; refine ⟨fun wv HC => ?_, ?_⟩; (focus ( go_simp <;> rfl; done)); simp only [Act.put, List.setIfInBounds_toArray, List.set_cons_succ, List.set_cons_zero]))
      refine dw_new #[.slice rA rn rc, .slice (some ⟨lb, lo, none⟩) 3 c0, .slice sA sn sc, .slice (some ⟨lb, lo, none⟩) 1 c0, .slice none 0 0] 29 68 (Lit5 (Mut None_ KL) 29 (fun s => #[.slice rA rn rc, .slice (some ⟨lb, lo, none⟩) 3 c0, s, .slice (some ⟨lb, lo, none⟩) 1 c0, .slice none 0 0])) (fun g => .slice (some ⟨g, 0, none⟩) 5 5) rfl rfl rfl rfl (fun wv => ?_) (fun wv HC hrm hD hro => ?_) ?_
      · go_simp <;> rfl
      · have hs : SpoSl (Mut None_ KL) (.slice sA sn sc) wv := deps_at hD 4 rfl (by kernel_rfl) rfl rfl
        exact ⟨_, _, rfl, hro _ HC.mutLt, spoSl_mono _ _ _ (RM.alloc _ _ _) hs⟩
      rintro g5 wg HCg hsl
      clear hsl HCg
      simp only [Act.put, List.setIfInBounds_toArray, List.set_cons_succ, List.set_cons_zero]
      repeat (first | (refine dw_skip rfl rfl rfl ?_; simp only [Act.put, List.setIfInBounds_toArray, List.set_cons_succ, List.set_cons_zero]) | (refine dw_val rfl rfl rfl ?_; apply Exists.intro; refine ⟨fun wv HC => ?_, ?_⟩; (focus ( go_simp <;> rfl; done)); simp only [Act.put, List.setIfInBounds_toArray, List.set_cons_succ, List.set_cons_zero]))
      refine rel_nil ?_
      rintro wy HY
      rintro _hrm HGW
      have hl5 : Lit5 (Mut None_ KL) 29 (fun s => #[.slice rA rn rc, .slice (some ⟨lb, lo, none⟩) 3 c0, s, .slice (some ⟨lb, lo, none⟩) 1 c0, .slice none 0 0]) (.slice (some ⟨g5, 0, none⟩) 5 5) wy := (GW_on (d := 68) rfl).1 (HGW 7 _ rfl (by omega))
      clear HGW _hrm KN HX
      obtain ⟨g9, s9, e9, hblk, A9, n9, c9, l9, rfl, s1, s2, s3, s4, s5, rs⟩ := hl5
      obtain rfl : g5 = g9 := by injection e9 with e9; injection e9 with e9; injection e9
      clear e9
      dsimp only at hblk
      have HH9 := hid (And.intro s1 s2)
      have e0 := HKL.out
      subst e0
      clear HKL HTP
      obtain ⟨xs, hxs⟩ : ∃ xs : List Lt, xs = [⟨rA, rn, rc, rl⟩, ⟨some ⟨lb, lo, none⟩, 3, c0, l⟩, ⟨A9, n9, c9, l9⟩, ⟨some ⟨lb, lo, none⟩, 1, c0, l.take 1⟩, ⟨none, 0, 0, []⟩] := ⟨_, rfl⟩
      have HXS : Hid (∀ (j : Nat) (x : Lt), xs[j]? = some x → (#[.slice rA rn rc, .slice (some ⟨lb, lo, none⟩) 3 c0, .slice A9 n9 c9, .slice (some ⟨lb, lo, none⟩) 1 c0, .slice none 0 0] : Array Value)[j]? = some (.slice x.A x.n x.c)) := hid fun j x h => by
        rw [show (#[.slice rA rn rc, .slice (some ⟨lb, lo, none⟩) 3 c0, .slice A9 n9 c9, .slice (some ⟨lb, lo, none⟩) 1 c0, .slice none 0 0] : Array Value) = (xs.map Lt.val).toArray by rw [hxs]; rfl]
        rw [List.getElem?_toArray, List.getElem?_map, h]; rfl
      have HXO : Hid (xs.length = 5 ∧ ∀ x ∈ xs, x.n ≤ 900 ∧ ∀ z ∈ x.l, TeAll z) := hid ⟨by rw [hxs]; rfl, fun x hx => by
        rw [hxs] at hx
        simp only [List.mem_cons, List.not_mem_nil, or_false] at hx
        rcases hx with rfl | rfl | rfl | rfl | rfl
        · exact ⟨by show rn ≤ 900; omega, HRA.out⟩
        · exact ⟨by show 3 ≤ 900; omega, HLA.out⟩
        · exact ⟨by show n9 ≤ 900; omega, fun z hz => teAll_tbl (s5 z hz).1 (s5 z hz).2 (rs.now.2 z hz)⟩
        · exact ⟨by show 1 ≤ 900; omega, fun z hz => HLA.out z (List.mem_of_mem_take hz)⟩
        · exact ⟨by show 0 ≤ 900; omega, fun z hz => (nomatch hz)⟩⟩
      have rX := (show ∀ Q, Ro wy Q (TesIn rA rn rl) → Ro wy Q (TesIn (some ⟨lb, lo, none⟩) 3 l) → Ro wy Q (TesIn A9 n9 l9) → Ro wy Q (LtsIn xs) from fun Q a b c => by rw [hxs]; exact ltsIn_cons a (ltsIn_cons b (ltsIn_cons c (ltsIn_cons (b.imp fun w2 h2 => tesIn_take h2 (show 1 ≤ 3 by omega)) (ltsIn_cons (tesIn_nil _ _) (ltsIn_nil _ _)))))) _ (HY.ro 7 rfl) (HY.ro 4 rfl) rs
      have K10 := ((HY.add rX).addCst (hblk.less (mut_none rfl))).drop (L' := [.cst g5 29 #[.slice rA rn rc, .slice (some ⟨lb, lo, none⟩) 3 c0, .slice A9 n9 c9, .slice (some ⟨lb, lo, none⟩) 1 c0, .slice none 0 0], .ro (LtsIn xs), .cst bz 58 #[.string z.nm, .slice z.A z.n z.c, .int .i64 z.nx, .slice z.B z.m z.d], .ro (TeIn z), .cst by_ 58 #[.string y.nm, .slice y.A y.n y.c, .int .i64 y.nx, .slice y.B y.m y.d], .ro (TeIn y), .ro (TesIn (some ⟨lb, lo, none⟩) 3 l), .cst bx 58 #[.string x.nm, .slice x.A x.n x.c, .int .i64 x.nx, .slice x.B x.m x.d], .ro (TeIn x), .ro Wds, .tp T]) (.cons_cons _ (.cons_cons _ (.cons_cons _ (.cons_cons _ (.cons_cons _ (.cons_cons _ (.cons_cons _ (.cons_cons _ (.cons_cons _ (List.sublist_cons_self _ _))))))))))
      clear HY rX hblk rs s1 s2 s3 s4 s5 hxs
      go_wp2_with fail
      go_loopw [8, 70] (fun r8 jv wr => ∃ (j : Nat), j ≤ 5 ∧ r8 = .bool false ∧ jv = .int .i64 j ∧ Hold None_ none w wr [.cst g5 29 #[.slice rA rn rc, .slice (some ⟨lb, lo, none⟩) 3 c0, .slice A9 n9 c9, .slice (some ⟨lb, lo, none⟩) 1 c0, .slice none 0 0], .ro (LtsIn xs), .cst bz 58 #[.string z.nm, .slice z.A z.n z.c, .int .i64 z.nx, .slice z.B z.m z.d], .ro (TeIn z), .cst by_ 58 #[.string y.nm, .slice y.A y.n y.c, .int .i64 y.nx, .slice y.B y.m y.d], .ro (TeIn y), .ro (TesIn (some ⟨lb, lo, none⟩) 3 l), .cst bx 58 #[.string x.nm, .slice x.A x.n x.c, .int .i64 x.nx, .slice x.B x.m x.d], .ro (TeIn x), .ro Wds, .tp T]) (fun _ jv _ => 5 - (intOf jv).toNat)
      case atStart => exact ⟨0, by omega, rfl, rfl, K10⟩
      case round =>
        clear K10 hlt hd
        obtain ⟨j, hj, rfl, rfl, H⟩ := hrel
        by_cases hlt : j < 5
        · have hd : decide ((j : Int) < 5) = true := by simp; omega
          have j0 : (0 : Int) ≤ (j : Int) := by omega
          have j1 : (j : Int) < 5 := by omega
          obtain ⟨s, hs⟩ := get_of HXO.out.1 hlt
          have HS1 := hid (List.mem_of_getElem? hs)
          have HSO2 := hid (HXO.out.2 s (List.mem_of_getElem? hs))
          have hbl := H.cst_ 0 rfl
          have cX := (cell_of_row _ _ j _ _ _ hbl).trans (HXS.out j s hs)
          have glX := Blk.lt hbl
          clear hbl hs
          obtain ⟨vb, hvb⟩ : ∃ v, v = storB (s.l.map Te.tb) := ⟨_, rfl⟩
          obtain ⟨f1, hf1⟩ : ∃ v, v = findS (s.l.map Te.tb) nmq := ⟨_, rfl⟩
          obtain ⟨f2, hf2⟩ : ∃ v, v = findS (s.l.map Te.tb) ⟨#[117]⟩ := ⟨_, rfl⟩
          have HVB := hid (And.intro hvb (And.intro hf1 hf2))
          clear hvb hf1 hf2
          have b1 : (vb != vb) = false := by cases vb <;> rfl
          have b1' : (vb == vb) = true := by cases vb <;> rfl
          have b2 : (f1 != f1) = false := by simp
          have b3 : (f2 != f2) = false := by simp
          have b2' : (f1 == f1) = true := by simp
          have b3' : (f2 == f2) = true := by simp
          go_wp2_with fail
          have hk := stvalid_any _ _ H.mutLt s.A s.n s.c s.l ((H.ro 1 rfl).imp fun w2 h2 => h2 s HS1.out) (fun z hz => ⟨(HSO2.out.2 z hz).1, (HSO2.out.2 z hz).2.2⟩) (by have := HSO2.out.1; omega)
          rw [← HVB.out.1] at hk
          refine hk.mono ?_
          clear hk
          rintro e w1 ⟨rfl, b9⟩
          have K1 := H.call b9
          clear H b9 cX glX
          go_wp2_with fail
          have hk := rstvalid_any _ _ K1.mutLt s.A s.n s.c s.l ((K1.ro 1 rfl).imp fun w2 h2 => h2 s HS1.out) (fun z hz => ⟨(HSO2.out.2 z hz).1, (HSO2.out.2 z hz).2.2⟩) (by have := HSO2.out.1; omega)
          rw [← HVB.out.1] at hk
          refine hk.mono ?_
          clear hk
          rintro e w1 ⟨rfl, b9⟩
          have K2 := K1.call b9
          clear K1 b9
          go_wp2_with fail
          have hk := stfind_any _ _ K2.mutLt s.A s.n s.c s.l nmq ((K2.ro 1 rfl).imp fun w2 h2 => h2 s HS1.out) (by have := HSO2.out.1; omega)
          rw [← HVB.out.2.1] at hk
          refine hk.mono ?_
          clear hk
          rintro e w1 ⟨rfl, b9⟩
          have K3 := K2.call b9
          clear K2 b9
          go_wp2_with fail
          have hk := rstfind_any _ _ K3.mutLt s.A s.n s.c s.l nmq ((K3.ro 1 rfl).imp fun w2 h2 => h2 s HS1.out) (by have := HSO2.out.1; omega)
          rw [← HVB.out.2.1] at hk
          refine hk.mono ?_
          clear hk
          rintro e w1 ⟨rfl, b9⟩
          have K4 := K3.call b9
          clear K3 b9
          go_wp2_with fail
          have hk := stfind_any _ _ K4.mutLt s.A s.n s.c s.l ⟨#[117]⟩ ((K4.ro 1 rfl).imp fun w2 h2 => h2 s HS1.out) (by have := HSO2.out.1; omega)
          rw [← HVB.out.2.2] at hk
          refine hk.mono ?_
          clear hk
          rintro e w1 ⟨rfl, b9⟩
          have K5 := K4.call b9
          clear K4 b9
          go_wp2_with fail
          have hk := rstfind_any _ _ K5.mutLt s.A s.n s.c s.l ⟨#[117]⟩ ((K5.ro 1 rfl).imp fun w2 h2 => h2 s HS1.out) (by have := HSO2.out.1; omega)
          rw [← HVB.out.2.2] at hk
          refine hk.mono ?_
          clear hk
          rintro e w1 ⟨rfl, b9⟩
          have K6 := K5.call b9
          clear K5 b9
          go_wp2_with fail
          clear b1 b1' b2 b2' b3 b3'
          obtain ⟨KL, hKL, KN⟩ := K6.name
          have HF : Hid (∀ wv, Hold None_ none w wv KL → (wv.cell? ⟨bx, 0, none⟩ = some (.string x.nm) ∧ wv.cell? ⟨bx, 1, none⟩ = some (.slice x.A x.n x.c) ∧ wv.cell? ⟨bx, 2, none⟩ = some (.int .i64 x.nx) ∧ wv.cell? ⟨bx, 3, none⟩ = some (.slice x.B x.m x.d) ∧ bx < wv.heap.size) ∧ (wv.cell? ⟨by_, 0, none⟩ = some (.string y.nm) ∧ wv.cell? ⟨by_, 1, none⟩ = some (.slice y.A y.n y.c) ∧ wv.cell? ⟨by_, 2, none⟩ = some (.int .i64 y.nx) ∧ wv.cell? ⟨by_, 3, none⟩ = some (.slice y.B y.m y.d) ∧ by_ < wv.heap.size) ∧ wv.cell? ⟨bz, 0, none⟩ = some (.string z.nm) ∧ wv.cell? ⟨bz, 1, none⟩ = some (.slice z.A z.n z.c) ∧ wv.cell? ⟨bz, 2, none⟩ = some (.int .i64 z.nx) ∧ wv.cell? ⟨bz, 3, none⟩ = some (.slice z.B z.m z.d) ∧ bz < wv.heap.size) := hid fun wv HC => by
            rw [hKL] at HC
            have y0 := HC.cst_ 7 rfl
            have y1 := HC.cst_ 4 rfl
            have y2 := HC.cst_ 2 rfl
            exact ⟨⟨cell_of_row _ _ 0 _ _ _ y0, cell_of_row _ _ 1 _ _ _ y0, cell_of_row _ _ 2 _ _ _ y0, cell_of_row _ _ 3 _ _ _ y0, Blk.lt y0⟩, ⟨cell_of_row _ _ 0 _ _ _ y1, cell_of_row _ _ 1 _ _ _ y1, cell_of_row _ _ 2 _ _ _ y1, cell_of_row _ _ 3 _ _ _ y1, Blk.lt y1⟩, cell_of_row _ _ 0 _ _ _ y2, cell_of_row _ _ 1 _ _ _ y2, cell_of_row _ _ 2 _ _ _ y2, cell_of_row _ _ 3 _ _ _ y2, Blk.lt y2⟩
          have HX : Hid (∀ wv, Hold None_ none w wv KL → Ro wv (Mut None_ KL) (TeIn z) ∧ Tp wv T ∧ (∀ b, Mut None_ KL b → T ≤ b) ∧ Ro wv (Mut None_ KL) Wds) := hid fun wv HC => by
            rw [hKL] at HC ⊢
            exact ⟨HC.ro 3 rfl, HC.tp_ 10 rfl, (HC.get 10 rfl).2, HC.ro 9 rfl⟩
          have HTP := hid (show KL[10]? = some (.tp T) by rw [hKL]; rfl)
          have HKL := hid hKL
          clear hKL K6
          refine wp_region_any (by kernel_rfl) ?_
          refine wpAny_hold 9 160 (KL) (spL [(100, SpTe (Mut None_ KL)), (101, Lit4 (Mut None_ KL) 58 x y z)]) (by kernel_rfl) (by kernel_rfl) (by kernel_rfl) rfl ?_ (KN.drew) ?_
          · exact stays_cons spTe_mono (stays_cons lit4_mono (stays_nil _))
          simp only [List.take_succ_cons, List.take_zero, List.drop_succ_cons, List.drop_zero, Act.put, List.getElem_toArray, List.getElem_cons_zero, List.getElem_cons_succ, List.setIfInBounds_toArray, List.set_cons_succ, List.set_cons_zero]
          repeat (first | (refine dw_skip rfl rfl rfl ?_; simp only [Act.put, List.setIfInBounds_toArray, List.set_cons_succ, List.set_cons_zero]) | (refine dw_val rfl rfl rfl ?_; apply Exists.intro; refine ⟨fun wv HC => ?_, ?_⟩; (focus (obtain ⟨⟨p0, p1, p2, p3, p4⟩, ⟨q0, q1, q2, q3, q4⟩, r0, r1, r2, r3, r4⟩ := HF.out _ HC; go_simp <;> rfl; done)); simp only [Act.put, List.setIfInBounds_toArray, List.set_cons_succ, List.set_cons_zero]))
          refine dw_callR 100 (SpTe (Mut None_ KL)) (f := 37) (args := #[.pointer (some ⟨T, 0, none⟩), .agg #[.string z.nm, .slice z.A z.n z.c, .int .i64 z.nx, .slice z.B z.m z.d]]) rfl rfl rfl rfl (fun wv => ?_) (fun wv HC hrm hD => ?_) ?_
          · go_simp <;> rfl
          · obtain ⟨x1, x2, x3, x4⟩ := HX.out _ HC
            refine (tspoil_slot (Mut None_ KL) T wv HC.mutLt x2 x3 (.agg #[.string z.nm, .slice z.A z.n z.c, .int .i64 z.nx, .slice z.B z.m z.d]) z.tb (tbAt_less (te_tb HZV.out.1 x1) (mut_tp (i := 10) HTP.out)) HZV.out.2 (x4.less (mut_tp (i := 10) HTP.out)) hT1).mono ?_
            rintro e w5 ⟨v5, t5, rfl, TT, hlm, tp5, g5'⟩
            obtain ⟨q, rfl, rfl, hqo, rq⟩ := tb_te TT
            exact ⟨_, rfl, ⟨q, rfl, hqo, hlm, rq⟩, Hold.callT HC 10 HTP.out g5' tp5, RM.grown g5' (.inr ⟨_, List.mem_of_getElem? (i := 10) HTP.out, rfl⟩)⟩
          rintro u_ wx HCx ⟨q, rfl, -, -, -⟩
          have hqv : q.val = .agg #[.string q.nm, .slice q.A q.n q.c, .int .i64 q.nx, .slice q.B q.m q.d] := rfl
          rw [hqv]
          clear hqv HCx
          simp only [Act.put, List.setIfInBounds_toArray, List.set_cons_succ, List.set_cons_zero]
          repeat (first | (refine dw_skip rfl rfl rfl ?_; simp only [Act.put, List.setIfInBounds_toArray, List.set_cons_succ, List.set_cons_zero]) | (refine dw_val rfl rfl rfl ?_; apply Exists.intro; refine ⟨fun wv HC => ?_, ?_⟩; (focus ( go_simp <;> rfl; done)); simp only [Act.put, List.setIfInBounds_toArray, List.set_cons_succ, List.set_cons_zero]))
          refine dw_new #[.string x.nm, .slice x.A x.n x.c, .int .i64 x.nx, .slice x.B x.m x.d, .string y.nm, .slice y.A y.n y.c, .int .i64 y.nx, .slice y.B y.m y.d, .string z.nm, .slice z.A z.n z.c, .int .i64 z.nx, .slice z.B z.m z.d, .string q.nm, .slice q.A q.n q.c, .int .i64 q.nx, .slice q.B q.m q.d] 58 101 (Lit4 (Mut None_ KL) 58 x y z) (fun g => .slice (some ⟨g, 0, none⟩) 4 4) rfl rfl rfl rfl (fun wv => ?_) (fun wv HC hrm hD hro => ?_) ?_
          · go_simp <;> rfl
          · have hs : SpTe (Mut None_ KL) (.agg #[.string q.nm, .slice q.A q.n q.c, .int .i64 q.nx, .slice q.B q.m q.d]) wv := deps_at hD 5 rfl (by kernel_rfl) rfl rfl
            obtain ⟨q2, e, h1, h2, h3⟩ := hs
            have e2 : (#[.string x.nm, .slice x.A x.n x.c, .int .i64 x.nx, .slice x.B x.m x.d, .string y.nm, .slice y.A y.n y.c, .int .i64 y.nx, .slice y.B y.m y.d, .string z.nm, .slice z.A z.n z.c, .int .i64 z.nx, .slice z.B z.m z.d, .string q.nm, .slice q.A q.n q.c, .int .i64 q.nx, .slice q.B q.m q.d] : Array Value) = #[.string x.nm, .slice x.A x.n x.c, .int .i64 x.nx, .slice x.B x.m x.d, .string y.nm, .slice y.A y.n y.c, .int .i64 y.nx, .slice y.B y.m y.d, .string z.nm, .slice z.A z.n z.c, .int .i64 z.nx, .slice z.B z.m z.d, .string q2.nm, .slice q2.A q2.n q2.c, .int .i64 q2.nx, .slice q2.B q2.m q2.d] := by
              injection e with e
              simp only [Array.mk.injEq, List.cons.injEq, Value.string.injEq, Value.slice.injEq, Value.int.injEq, and_true, true_and] at e
              obtain ⟨a1, ⟨a2, a3, a4⟩, a5, a6, a7, a8⟩ := e
              rw [a1, a2, a3, a4, a5, a6, a7, a8]
            refine ⟨_, q2, rfl, ?_, h1, h2, (RM.alloc _ _ _).ro h3⟩
            rw [← e2]
            exact hro _ HC.mutLt
          rintro g4 wg HCg hsl
          clear hsl HCg
          simp only [Act.put, List.setIfInBounds_toArray, List.set_cons_succ, List.set_cons_zero]
          repeat (first | (refine dw_skip rfl rfl rfl ?_; simp only [Act.put, List.setIfInBounds_toArray, List.set_cons_succ, List.set_cons_zero]) | (refine dw_val rfl rfl rfl ?_; apply Exists.intro; refine ⟨fun wv HC => ?_, ?_⟩; (focus ( go_simp <;> rfl; done)); simp only [Act.put, List.setIfInBounds_toArray, List.set_cons_succ, List.set_cons_zero]))
          refine rel_nil ?_
          rintro wy2 HY
          rintro _hrm HGW
          have hl4 : Lit4 (Mut None_ KL) 58 x y z (.slice (some ⟨g4, 0, none⟩) 4 4) wy2 := (GW_on (d := 101) rfl).1 (HGW 6 _ rfl (by omega))
          clear HGW _hrm KN HX HF
          obtain ⟨g9, q9, e9, hblk, hqo, hql, rq⟩ := hl4
          obtain rfl : g4 = g9 := by injection e9 with e9; injection e9 with e9; injection e9
          clear e9
          have e0 := HKL.out
          subst e0
          clear HKL HTP
          obtain ⟨ps, hps⟩ : ∃ ps : List Te, ps = [x, y, z, q9] := ⟨_, rfl⟩
          have HPS := hid (show ps.length = 4 ∧ ∀ p ∈ ps, TeAll p from ⟨by rw [hps]; rfl, fun p hp => by
            rw [hps] at hp
            simp only [List.mem_cons, List.not_mem_nil, or_false] at hp
            rcases hp with rfl | rfl | rfl | rfl
            · exact HXA.out
            · exact HYA.out
            · exact HZA.out
            · exact teAll_tbl hqo hql rq.now⟩)
          have rP := (show ∀ Q, Ro wy2 Q (fun w => w.heap[g4]? = some (.cells #[.string x.nm, .slice x.A x.n x.c, .int .i64 x.nx, .slice x.B x.m x.d, .string y.nm, .slice y.A y.n y.c, .int .i64 y.nx, .slice y.B y.m y.d, .string z.nm, .slice z.A z.n z.c, .int .i64 z.nx, .slice z.B z.m z.d, .string q9.nm, .slice q9.A q9.n q9.c, .int .i64 q9.nx, .slice q9.B q9.m q9.d] 58 (0, 0))) → Ro wy2 Q (TeIn x) → Ro wy2 Q (TeIn y) → Ro wy2 Q (TeIn z) → Ro wy2 Q (TeIn q9) → Ro wy2 Q (TesIn (some ⟨g4, 0, none⟩) 4 ps) from fun Q h a b c d => by
            rw [hps]
            exact tes_block (l := [x, y, z, q9]) h rfl (fun p hp => by
              simp only [List.mem_cons, List.not_mem_nil, or_false] at hp
              rcases hp with rfl | rfl | rfl | rfl
              · exact a
              · exact b
              · exact c
              · exact d)) _ hblk (HY.ro 8 rfl) (HY.ro 5 rfl) (HY.ro 3 rfl) rq
          have K7 := HY.add rP
          clear HY rP hblk hqo hql rq hps
          go_wp2_with fail
          go_loopw [8, 103] (fun r8 iv wr => ∃ (i : Nat), i ≤ 4 ∧ r8 = .bool false ∧ iv = .int .i64 i ∧ Hold None_ none w wr [.ro (TesIn (some ⟨g4, 0, none⟩) 4 ps), .cst g5 29 #[.slice rA rn rc, .slice (some ⟨lb, lo, none⟩) 3 c0, .slice A9 n9 c9, .slice (some ⟨lb, lo, none⟩) 1 c0, .slice none 0 0], .ro (LtsIn xs), .cst bz 58 #[.string z.nm, .slice z.A z.n z.c, .int .i64 z.nx, .slice z.B z.m z.d], .ro (TeIn z), .cst by_ 58 #[.string y.nm, .slice y.A y.n y.c, .int .i64 y.nx, .slice y.B y.m y.d], .ro (TeIn y), .ro (TesIn (some ⟨lb, lo, none⟩) 3 l), .cst bx 58 #[.string x.nm, .slice x.A x.n x.c, .int .i64 x.nx, .slice x.B x.m x.d], .ro (TeIn x), .ro Wds, .tp T]) (fun _ iv _ => 4 - (intOf iv).toNat)
          case atStart => exact ⟨0, by omega, rfl, rfl, K7⟩
          case round =>
            clear K7 hd hlt
            obtain ⟨i, hi, rfl, rfl, H⟩ := hrel
            by_cases hlt : i < 4
            · have hd : decide ((i : Int) < 4) = true := by simp; omega
              have i0 : (0 : Int) ≤ (i : Int) := by omega
              have i1 : (i : Int) < 4 := by omega
              obtain ⟨p, hp⟩ := get_of HPS.out.1 hlt
              have HP1 := hid (List.mem_of_getElem? hp)
              have HPA := hid (HPS.out.2 p (List.mem_of_getElem? hp))
              obtain ⟨b1, o1, e1, hb, f0, f1', f2', f3, -⟩ := (H.ro 0 rfl).now.at_ hp
              obtain ⟨rfl, rfl⟩ : g4 = b1 ∧ 0 = o1 := by injection e1 with e1; injection e1 with e1 e2; exact ⟨e1, e2⟩
              simp only [Nat.zero_add] at f0 f1' f2' f3
              clear hp e1
              have K1 := H.alloc_cst #[.string p.nm, .slice p.A p.n p.c, .int .i64 p.nx, .slice p.B p.m p.d] 58
              obtain ⟨gp, hgp⟩ : ∃ g, g = wr.heap.size := ⟨_, rfl⟩
              rw [← hgp] at K1
              have FA := K1.facts
              simp only [World.size_alloc, World.size_drew, factsL, cellsF, Nat.reduceAdd, List.toList_toArray, List.set_cons_zero, List.set_cons_succ, List.setIfInBounds_toArray, and_true, true_and] at FA
              obtain ⟨E, hE⟩ : ∃ E, E = putC (s.l.map Te.tb) p.tb := ⟨_, rfl⟩
              have HEL := hid (show E.2.length ≤ 6 ∧ ∀ t ∈ E.2, t.cs.length ≤ 6 by rw [hE]; exact ⟨putC_len, fun t ht => tabB_cols (putC_tab t ht)⟩)
              have HE := hid hE
              clear hE H
              obtain ⟨b9, ds⟩ := E
              go_wp2_with fail
              rw [← hgp]
              have HGP := hid hgp
              clear hgp FA f0 f1' f2' f3
              have hk := sput_any _ _ K1.mutLt s.A s.n s.c s.l p ((K1.ro 3 rfl).imp fun w2 h2 => h2 s HS1.out) ((K1.ro 1 rfl).imp fun w2 h2 => h2.2 p HP1.out) HSO2.out.2 HPA.out HSO2.out.1
              rw [← HE.out] at hk
              refine hk.mono ?_
              clear hk
              rintro e w1 ⟨B1, m1, c1, l1, rfl, a1, a2, a3, a4, ra, bb⟩
              have K2 := (K1.call bb).add ra
              have HA := hid (And.intro a1 (And.intro a2 (And.intro a3 a4)))
              have FA := K2.facts
              simp only [World.size_alloc, World.size_drew, factsL, cellsF, Nat.reduceAdd, List.toList_toArray, List.set_cons_zero, List.set_cons_succ, List.setIfInBounds_toArray, and_true, true_and] at FA
              clear K1 bb ra a1 a2 a3 a4
              dsimp only
              go_wp2_with fail
              have hk := srput_any _ _ K2.mutLt s.A s.n s.c s.l p ((K2.ro 4 rfl).imp fun w2 h2 => h2 s HS1.out) ((K2.ro 2 rfl).imp fun w2 h2 => h2.2 p HP1.out) HSO2.out.2 HPA.out HSO2.out.1
              rw [← HE.out] at hk
              refine hk.mono ?_
              clear hk FA
              rintro e w2 ⟨B2, m2, c2, l2, rfl, a1, a2, a3, a4, ra, bb⟩
              have K3 := (K2.call bb).add ra
              have HB := hid (And.intro a1 (And.intro a2 (And.intro a3 a4)))
              clear K2 bb ra a1 a2 a3 a4
              dsimp only
              have hbb : (b9 != b9) = false := by cases b9 <;> rfl
              have hbb2 : (b9 == b9) = true := by cases b9 <;> rfl
              go_wp2_with fail
              have hm1 : l1.length = m1 := (K3.ro 1 rfl).now.len
              have hk := sameTables_any _ _ K3.mutLt B1 m1 c1 l1 B2 m2 c2 l2 (K3.ro 1 rfl) (K3.ro 0 rfl) (by
                have a := congrArg List.length HA.out.2.2.1
                rw [List.length_map] at a
                have b := HEL.out.1
                (try dsimp only at a)
                (try dsimp only at b)
                omega) (fun r hr => te_lim (HA.out.2.2.2 r hr).1 (HA.out.2.2.2 r hr).2 (HEL.out.2 _ (by rw [← HA.out.2.2.1]; exact List.mem_map_of_mem hr)) ((K3.ro 1 rfl).now.2 r hr)) (fun r hr => te_lim (HB.out.2.2.2 r hr).1 (HB.out.2.2.2 r hr).2 (HEL.out.2 _ (by rw [← HB.out.2.2.1]; exact List.mem_map_of_mem hr)) ((K3.ro 0 rfl).now.2 r hr))
              rw [decide_eq_true (HA.out.2.2.1.trans HB.out.2.2.1.symm)] at hk
              refine hk.mono ?_
              clear hk hm1
              rintro e w3 ⟨rfl, b3⟩
              have K4 := (K3.call b3).drop (.cons _ (.cons _ (List.sublist_cons_self _ _)))
              clear K3 b3
              go_wp2_with fail
              go_roundw
              case rel => exact ⟨i + 1, by omega, rfl, by first | rfl | go_num, K4⟩
              case measure => simp [intOf] <;> omega
            · obtain rfl : i = 4 := by omega
              have hd : decide (((4 : Nat) : Int) < 4) = false := by decide
              have K1 := H.drop (List.sublist_cons_self _ _)
              clear H
              go_wp2_with fail
              refine (sbags_any _ _ K1.mutLt s.A s.n s.c s.l (fun z hz => (HSO2.out.2 z hz).2.1) ((K1.ro 1 rfl).imp fun w2 h2 => h2 s HS1.out) (by have := HSO2.out.1; omega)).mono ?_
              rintro e w1 ⟨B1, m1, c1, bs1, rfl, a1, a2, a3, a4, ra, bb⟩
              have K2 := (K1.call bb).add ra
              have HA := hid (And.intro a3 a4)
              clear K1 bb ra a1 a2 a3 a4
              go_wp2_with fail
              refine (rsbags_any _ _ K2.mutLt s.A s.n s.c s.l (fun z hz => (HSO2.out.2 z hz).2.1) ((K2.ro 2 rfl).imp fun w2 h2 => h2 s HS1.out) (by have := HSO2.out.1; omega)).mono ?_
              rintro e w2 ⟨B2, m2, c2, bs2, rfl, a1, a2, a3, a4, ra, bb⟩
              have K3 := (K2.call bb).add ra
              have HB := hid (And.intro a3 a4)
              clear K2 bb ra a1 a2 a3 a4
              have hl1 : bs1.length = m1 := by have := (show Rd _ _ 1 B1 m1 (bs1.map Bg.val) from (K3.ro 1 rfl).now.1).1; simpa using this
              have hl2 : bs2.length = m2 := by have := (show Rd _ _ 1 B2 m2 (bs2.map Bg.val) from (K3.ro 0 rfl).now.1).1; simpa using this
              have hmm : m1 = m2 := by
                have a := congrArg List.length (HA.out.1.trans HB.out.1.symm)
                rw [List.length_map, List.length_map] at a
                omega
              subst hmm
              have hmb : m1 ≤ 900 := by
                have a := congrArg List.length HA.out.1
                rw [List.length_map, List.length_map] at a
                have b : s.l.length = s.n := ((K3.ro 3 rfl).now s HS1.out).len
                have c := HSO2.out.1
                omega
              have HLB := hid (And.intro hl1 hl2)
              have b4 : ((m1 : Int) != (m1 : Int)) = false := by simp
              have b5 : ((m1 : Int) == (m1 : Int)) = true := by simp
              clear hl1 hl2
              go_wp2_with fail
              go_loopw [8, 140] (fun r8 iv wr => ∃ (i : Nat), i ≤ m1 ∧ r8 = .bool false ∧ iv = .int .i64 i ∧ Hold None_ none w wr [.ro (BgsIn B2 m1 bs2), .ro (BgsIn B1 m1 bs1), .cst g5 29 #[.slice rA rn rc, .slice (some ⟨lb, lo, none⟩) 3 c0, .slice A9 n9 c9, .slice (some ⟨lb, lo, none⟩) 1 c0, .slice none 0 0], .ro (LtsIn xs), .cst bz 58 #[.string z.nm, .slice z.A z.n z.c, .int .i64 z.nx, .slice z.B z.m z.d], .ro (TeIn z), .cst by_ 58 #[.string y.nm, .slice y.A y.n y.c, .int .i64 y.nx, .slice y.B y.m y.d], .ro (TeIn y), .ro (TesIn (some ⟨lb, lo, none⟩) 3 l), .cst bx 58 #[.string x.nm, .slice x.A x.n x.c, .int .i64 x.nx, .slice x.B x.m x.d], .ro (TeIn x), .ro Wds, .tp T]) (fun _ iv _ => m1 - (intOf iv).toNat)
              case atStart => exact ⟨0, by omega, rfl, rfl, K3⟩
              case round =>
                clear K3 hd hlt
                obtain ⟨i, hi, rfl, rfl, H⟩ := hrel
                by_cases hlt : i < m1
                · have hd : decide ((i : Int) < (m1 : Int)) = true := by simp; omega
                  have i0 : (0 : Int) ≤ (i : Int) := by omega
                  have i1 : (i : Int) < (m1 : Int) := by omega
                  obtain ⟨a, ha⟩ := get_of HLB.out.1 hlt
                  obtain ⟨b, hb⟩ := get_of HLB.out.2 hlt
                  have HA1 := hid ha
                  have HB1 := hid hb
                  have HEQ := hid (show decide (a.l.map Sl.vs = b.l.map Sl.vs) = true by
                    rw [decide_eq_true_iff]
                    have e1 : (bs1.map Bg.vs)[i]? = some a.vs := by rw [List.getElem?_map, ha]; rfl
                    have e2 : (bs2.map Bg.vs)[i]? = some b.vs := by rw [List.getElem?_map, hb]; rfl
                    rw [HA.out.1.trans HB.out.1.symm, e2] at e1
                    exact (Option.some.inj e1).symm)
                  obtain ⟨k1, o1, rfl, -, -⟩ := (show Rd _ _ 1 B1 m1 (bs1.map Bg.val) from (H.ro 1 rfl).now.1).2 (by omega)
                  obtain ⟨k2, o2, rfl, -, -⟩ := (show Rd _ _ 1 B2 m1 (bs2.map Bg.val) from (H.ro 0 rfl).now.1).2 (by omega)
                  clear ha hb
                  go_wp2_with fail
                  obtain ⟨KL, hKL, KN⟩ := H.name
                  have HF : Hid (∀ wv, Hold None_ none w wv KL → wv.cell? ⟨k1, o1 + i, none⟩ = some (.slice a.A a.n a.c) ∧ wv.cell? ⟨k2, o2 + i, none⟩ = some (.slice b.A b.n b.c) ∧ k1 < wv.heap.size ∧ k2 < wv.heap.size) := hid fun wv HC => by
                    rw [hKL] at HC
                    obtain ⟨b1, u1, e1, hb1, hc1⟩ := (show Rd _ _ 1 (some ⟨k1, o1, none⟩) m1 (bs1.map Bg.val) from (HC.ro 1 rfl).now.1).2 (by omega)
                    obtain ⟨b2, u2, e2, hb2, hc2⟩ := (show Rd _ _ 1 (some ⟨k2, o2, none⟩) m1 (bs2.map Bg.val) from (HC.ro 0 rfl).now.1).2 (by omega)
                    injection e1 with e1
                    injection e1 with e3 e4
                    subst e3 e4
                    injection e2 with e2
                    injection e2 with e3 e4
                    subst e3 e4
                    exact ⟨hc1 i _ (by rw [List.getElem?_map, HA1.out]; rfl), hc2 i _ (by rw [List.getElem?_map, HB1.out]; rfl), hb1, hb2⟩
                  have HX : Hid (∀ wv, Hold None_ none w wv KL → Ro wv (Mut None_ KL) (SlsIn a.A a.n a.l) ∧ Ro wv (Mut None_ KL) (SlsIn b.A b.n b.l)) := hid fun wv HC => by
                    rw [hKL] at HC ⊢
                    exact ⟨(HC.ro 1 rfl).imp fun w2 h2 => h2.2 a (List.mem_of_getElem? HA1.out), (HC.ro 0 rfl).imp fun w2 h2 => h2.2 b (List.mem_of_getElem? HB1.out)⟩
                  have HKL := hid hKL
                  clear hKL H
                  refine wp_region_any (by kernel_rfl) ?_
                  refine wpAny_hold 10 160 (KL) (spL [(151, IsV (.bool true))]) (by kernel_rfl) (by kernel_rfl) (by kernel_rfl) rfl ?_ (KN.drew) ?_
                  · exact stays_cons isV_mono (stays_nil _)
                  simp only [List.take_succ_cons, List.take_zero, List.drop_succ_cons, List.drop_zero, Act.put, List.getElem_toArray, List.getElem_cons_zero, List.getElem_cons_succ, List.setIfInBounds_toArray, List.set_cons_succ, List.set_cons_zero]
                  repeat (first | (refine dw_skip rfl rfl rfl ?_; simp only [Act.put, List.setIfInBounds_toArray, List.set_cons_succ, List.set_cons_zero]) | (refine dw_val rfl rfl rfl ?_; apply Exists.intro; refine ⟨fun wv HC => ?_, ?_⟩; (focus (obtain ⟨f0, f1', f2', f3⟩ := HF.out _ HC; go_simp <;> rfl; done)); simp only [Act.put, List.setIfInBounds_toArray, List.set_cons_succ, List.set_cons_zero]))
                  refine dw_callR 151 (IsV (.bool true)) (f := 42) (args := #[.slice a.A a.n a.c, .slice b.A b.n b.c]) rfl rfl rfl rfl (fun wv => ?_) (fun wv HC hrm hD => ?_) ?_
                  · go_simp <;> rfl
                  · obtain ⟨x1, x2⟩ := HX.out _ HC
                    have hak := HA.out.2 a (List.mem_of_getElem? HA1.out)
                    have hk := sametuples_any _ wv HC.mutLt a.A a.n a.c a.l b.A b.n b.c b.l x1 x2 (by have := hak.n; omega) hak.l
                    rw [HEQ.out] at hk
                    refine hk.mono ?_
                    rintro e w6 ⟨rfl, b6⟩
                    exact ⟨_, rfl, rfl, HC.call b6, RM.below b6⟩
                  rintro u_ wx HCx (rfl : u_ = _)
                  clear HCx
                  simp only [Act.put, List.setIfInBounds_toArray, List.set_cons_succ, List.set_cons_zero]
                  repeat (first | (refine dw_skip rfl rfl rfl ?_; simp only [Act.put, List.setIfInBounds_toArray, List.set_cons_succ, List.set_cons_zero]) | (refine dw_val rfl rfl rfl ?_; apply Exists.intro; refine ⟨fun wv HC => ?_, ?_⟩; (focus ( go_simp <;> rfl; done)); simp only [Act.put, List.setIfInBounds_toArray, List.set_cons_succ, List.set_cons_zero]))
                  refine rel_nil ?_
                  rintro wxb HY
                  rintro _hrm HGW
                  clear HGW _hrm KN HF HX
                  rw [HKL.out] at HY
                  clear HKL
                  clear KL
                  go_wp2_with fail
                  go_roundw
                  case rel => exact ⟨i + 1, by omega, rfl, by first | rfl | go_num, HY⟩
                  case measure => simp [intOf] <;> omega
                · obtain rfl : i = m1 := by omega
                  have hd : decide ((i : Int) < (i : Int)) = false := by simp
                  have K1 := H.drop (.cons _ (List.sublist_cons_self _ _))
                  clear H
                  go_wp2_with fail
                  go_roundw
                  case rel => exact ⟨j + 1, by omega, rfl, by first | rfl | go_num, K1⟩
                  case measure => simp [intOf] <;> omega
        · obtain rfl : j = 5 := by omega
          have hd : decide (((5 : Nat) : Int) < 5) = false := by decide
          have HVL := hid HS.out.st.stor
          go_wp2_with fail
          have hk := stvalid_any _ _ H.mutLt (some ⟨lb, lo, none⟩) 3 c0 l (H.ro 6 rfl) (fun z hz => ⟨(HLA.out z hz).1, (HLA.out z hz).2.2⟩) (by omega)
          rw [HVL.out] at hk
          refine hk.mono ?_
          clear hk
          rintro e w1 ⟨rfl, b9⟩
          have K1 := H.call b9
          clear H b9
          go_wp2_with fail
          refine (known9 _).mono ?_
          rintro e w8 ⟨rfl, b8⟩
          have HB := hid (K1.call b8).below
          clear K1 b8
          go_wp2_with fail
          (try simp only [Exit.inBlock, Exit.then])
          first | (go_ret; exact ⟨rfl, HB.out⟩) | exact bodyPost_ret (v := .bool true) (by simp [results, Tryz.results7, go_sem]) rfl ⟨rfl, HB.out⟩
end Go.Proofs.YtedogodccblfeaaGreatDoor

namespace Go.Proofs.YtedogodccblfeaaGreatDoor
open Go.Joins Go.ChangeShapes Go.WideShapes Go.ChangeAt Go.RowKit Go.Deep
set_option linter.unusedVariables false
section
variable {H : Type} {enc : TypeId × Value → H} {P : Program} {W : World}
/-- each slice and text in the data is within the reach -/
def Sz (P : Program) (t : TypeId) (d : DataW H) : Prop := ∀ n ∈ d.weights P t, n ≤ reachBytes
theorem sz_arg {ts : List TypeId} {ds : List (DataW H)} (h : (DataW.weightsEach P ts ds).all (· ≤ reachBytes) = true) {j : Nat} {t : TypeId} {d : DataW H} (ht : ts[j]? = some t) (hd : ds[j]? = some d) : Sz P t d := fun n hn => by
  have := List.all_eq_true.1 h n (DataW.weights_mem_each ht hd n hn)
  simpa using this
theorem sz_part {t : TypeId} {fs : Array Field} {ys : List (DataW H)} (ht : P.underlying t = some (.struct fs)) (h : Sz P t (.agg ys)) {j : Nat} {f : Field} {y : DataW H} (hf : fs[j]? = some f) (hy : ys[j]? = some y) : Sz P f.type y := fun n hn => by
  refine h n ?_
  simp only [DataW.weights, ht]
  exact DataW.weights_mem_each (ts := fs.toList.map (·.type)) (j := j) (by simp [hf]) hy n hn
theorem mem_weightsAll {e : TypeId} {d : DataW H} {n : Nat} (hn : n ∈ d.weights P e) : ∀ {l : List (DataW H)}, d ∈ l → n ∈ DataW.weightsAll P e l
  | x :: l, h => by
    simp only [DataW.weightsAll, List.mem_append]
    rcases List.mem_cons.1 h with rfl | h
    · exact .inl hn
    · exact .inr (mem_weightsAll hn h)
theorem sz_elem {t e : TypeId} {el sp : List (DataW H)} (ht : P.underlying t = some (.slice e)) (h : Sz P t (.slice el sp)) {d : DataW H} (hd : d ∈ el ∨ d ∈ sp) : Sz P e d := fun n hn => by
  refine h n ?_
  simp only [DataW.weights, ht, List.mem_cons, List.mem_append]
  exact .inr (hd.imp (mem_weightsAll hn) (mem_weightsAll hn))
theorem sz_slice {t e : TypeId} {el sp : List (DataW H)} (ht : P.underlying t = some (.slice e)) (h : Sz P t (.slice el sp)) : (el.length + sp.length) * P.bytesOf e ≤ reachBytes := h _ (by simp [DataW.weights, ht])
/-- the cells of a value of type t are those of some a -/
def OpensAt (enc : TypeId × Value → H) (P : Program) (W : World) (t : TypeId) {α : Type} (k : Nat) (cel : α → List Value) (Ok : α → Prop) : Prop :=
  (∀ a, (cel a).length = k) ∧ ∀ fuel cs x, DataW.trod enc P W 0 (fun _ => true) true fuel t cs = some x → Sz P t x.1 → ∃ a, Ok a ∧ cs = cel a
/-- a slice: address, length, room, elements -/
structure SlV (α : Type) where
  A : Option Addr
  n : Nat
  c : Nat
  l : List α
def SlV.cells {α : Type} (s : SlV α) : List Value := [.slice s.A s.n s.c]
structure SlV.Ok {α : Type} (W : World) (k : Nat) (cel : α → List Value) (Okx : α → Prop) (by_ : Nat) (s : SlV α) : Prop where
  rd : Rd W W.heap.size k s.A s.n (s.l.flatMap cel)
  ok : ∀ z ∈ s.l, Okx z
  nc : s.n ≤ s.c
  max : s.c ≤ maxLen
  reach : s.c * by_ ≤ 140737488351232
theorem opens_int {t : TypeId} (u : P.underlying t = some (.int .i64)) : OpensAt enc P W t 1 (fun z : Int => [.int .i64 z]) I64 := ⟨fun _ => rfl, fun fuel cs x h _ => by
  obtain ⟨k, e, _, w⟩ := DataW.trod_int u h
  exact ⟨k, i64_wf w, e⟩⟩
theorem opens_str {t : TypeId} (u : P.underlying t = some .string) : OpensAt enc P W t 1 (fun s : ByteArray => [.string s]) (fun s => s.size ≤ maxLen) := ⟨fun _ => rfl, fun fuel cs x h _ => by
  obtain ⟨s, e, _, w⟩ := DataW.trod_string u h
  exact ⟨s, w, e⟩⟩
theorem opens_bool {t : TypeId} (u : P.underlying t = some .bool) : OpensAt enc P W t 1 (fun b : Bool => [.bool b]) (fun _ => True) := ⟨fun _ => rfl, fun fuel cs x h _ => by
  obtain ⟨b, e, _⟩ := DataW.trod_bool u h
  exact ⟨b, trivial, e⟩⟩
theorem opens_struct {α : Type} {t : TypeId} {fs : Array Field} {k : Nat} {cel : α → List Value} {Ok : α → Prop} (ht : P.underlying t = some (.struct fs)) (hk : P.cellsOf t = k) (hl : ∀ a, (cel a).length = k)
    (hb : ∀ cs : List Value, cs.length = k → (∀ (j : Nat) (f : Field), fs[j]? = some f → ∃ fuel y, DataW.trod enc P W 0 (fun _ => true) true fuel f.type ((cs.drop f.offset).take (P.cellsOf f.type)) = some y ∧ Sz P f.type y.1) → ∃ a, Ok a ∧ cs = cel a) : OpensAt enc P W t k cel Ok :=
  ⟨hl, fun fuel cs x h hz => by
    obtain ⟨xs, n, hn, hx, hlen, hxl, hf⟩ := DataW.trod_struct ht h
    refine hb cs (hlen.trans hk) fun j f hj => ?_
    have hjl : j < xs.length := by rw [hxl]; exact (Array.getElem?_eq_some_iff.1 hj).1
    have hy : xs[j]? = some xs[j] := List.getElem?_eq_getElem hjl
    rw [hx] at hz
    exact ⟨n, _, (hf j f hj).trans hy, sz_part ht hz hj (by simp [hy])⟩⟩
theorem opens_slice {α : Type} (dflt : α) {t e : TypeId} {k : Nat} {cel : α → List Value} {Ok : α → Prop} {by_ : Nat} (ht : P.underlying t = some (.slice e)) (hC : P.cellsOf e = k) (hk : 0 < k) (hby : P.bytesOf e = by_) (he : OpensAt enc P W e k cel Ok) :
    OpensAt enc P W t 1 (SlV.cells (α := α)) (SlV.Ok W k cel Ok by_) := ⟨fun _ => rfl, fun fuel cs x h hz => by
  obtain ⟨hcl, hop⟩ := he
  rcases open_slice ht h with ⟨rfl, rfl⟩ | ⟨a, len, cap, m, n, D, Pl, rfl, _, hl, hm, hmm, hx, hi⟩
  · exact ⟨⟨none, 0, 0, []⟩, ⟨Rd.none_, (fun _ h => (nomatch h)), Nat.le_refl _, Nat.zero_le _, by simp⟩, rfl⟩
  · simp only [if_true] at hmm
    subst hmm
    subst hx
    have hmem : ∀ i, i < m → D i ∈ (List.range len).map D ∨ D i ∈ (List.range (m - len)).map fun j => D (len + j) := fun i hi' => by
      rcases Nat.lt_or_ge i len with h1 | h1
      · exact .inl (List.mem_map.2 ⟨i, List.mem_range.2 h1, rfl⟩)
      · exact .inr (List.mem_map.2 ⟨i - len, List.mem_range.2 (by omega), by rw [show len + (i - len) = i by omega]⟩)
    have hcol : ∀ i, i < m → ∃ z : α, Ok z ∧ ∀ j, j < k → W.cell? (a.add (i * k + j)) = (cel z)[j]? := by
      intro i hi'
      obtain ⟨cs', hc, ht'⟩ := hi i hi'
      rw [hC] at hc
      obtain ⟨_, hcl', hat⟩ := World.cells?_some hc
      obtain ⟨z, hz1, rfl⟩ := hop _ _ _ ht' (sz_elem ht hz (hmem i hi'))
      refine ⟨z, hz1, fun j hj => ?_⟩
      rw [← Go.Deep.add_add]
      exact hat j hj
    obtain ⟨F, hF⟩ : ∃ F : Nat → α, ∀ i, i < m → Ok (F i) ∧ ∀ j, j < k → W.cell? (a.add (i * k + j)) = (cel (F i))[j]? := by
      refine ⟨fun i => if h : i < m then Classical.choose (hcol i h) else dflt, fun i hi => ?_⟩
      simp only [hi, dif_pos]
      exact Classical.choose_spec (hcol i hi)
    have hre := sz_slice ht hz
    refine ⟨⟨some a, len, m, (List.range len).map F⟩, ⟨⟨by rw [flat_len cel k hcl]; simp, fun hn => ?_⟩, fun z hz => ?_, hl, hm, ?_⟩, rfl⟩
    · obtain ⟨b, off, spot⟩ := a
      have h0 : ∃ u, W.cell? ((⟨b, off, spot⟩ : Addr).add (0 * k + 0)) = some u := by
        rw [(hF 0 (Nat.lt_of_lt_of_le hn hl)).2 0 hk]
        exact ⟨_, List.getElem?_eq_getElem (by rw [hcl]; exact hk)⟩
      obtain ⟨u0, hu0⟩ := h0
      have hspot : spot = none := by simpa [Addr.add] using World.cell?_spot hu0
      subst hspot
      refine ⟨b, off, rfl, World.block_lt_of_cell? W ⟨b, off, none⟩ (by simpa [Addr.add] using hu0), fun j u hu => ?_⟩
      obtain ⟨z, hz, hzu⟩ := flat_inv cel k hk hcl _ j u hu
      have hj : j / k < len := by have := (List.getElem?_eq_some_iff.1 hz).1; simpa using this
      simp only [List.getElem?_map, List.getElem?_range hj, Option.map_some, Option.some.injEq] at hz
      subst hz
      rw [← Go.WideShapes.add_plain]
      have hjd : j = j / k * k + j % k := by rw [Nat.mul_comm]; exact (Nat.div_add_mod j k).symm
      rw [hjd, (hF (j / k) (Nat.lt_of_lt_of_le hj hl)).2 (j % k) (Nat.mod_lt _ hk)]
      exact hzu
    · simp only [List.mem_map, List.mem_range] at hz
      obtain ⟨i, hi', rfl⟩ := hz
      exact (hF i (Nat.lt_of_lt_of_le hi' hl)).1
    · have : ((List.range len).map D).length + ((List.range (m - len)).map fun j => D (len + j)).length = m := by simp; omega
      rw [this, hby] at hre
      exact hre⟩
/-- an argument's value, opened -/
theorem OpensAt.agg {α : Type} {t : TypeId} {fs : Array Field} {k : Nat} {cel : α → List Value} {Ok : α → Prop} (he : OpensAt enc P W t k cel Ok) (hs : P.underlying t = some (.struct fs)) {r : Reach} {b0 : Nat} {v : Value} {d : DataW H} {p : List MemPlace} (hok : Value.okWide P W r b0 t v) (h : DataW.Trod enc P W 0 (fun _ => true) true t v d p) (hz : Sz P t d) : ∃ a, Ok a ∧ v = .agg (cel a).toArray := by
  obtain ⟨cs, rfl, _⟩ := okWide_struct hs hok
  obtain ⟨fuel, hf⟩ := h
  obtain ⟨a, h1, h2⟩ := he.2 _ _ _ hf hz
  refine ⟨a, h1, ?_⟩
  have h3 : cs.toList = cel a := by simpa [Value.cells] using h2
  rw [← h3]
theorem OpensAt.slice {α : Type} {t e : TypeId} {k : Nat} {cel : α → List Value} {Ok : α → Prop} {by_ : Nat} (he : OpensAt enc P W t 1 (SlV.cells (α := α)) (SlV.Ok W k cel Ok by_)) (hs : P.underlying t = some (.slice e)) {r : Reach} {b0 : Nat} {v : Value} {d : DataW H} {p : List MemPlace} (hok : Value.okWide P W r b0 t v) (h : DataW.Trod enc P W 0 (fun _ => true) true t v d p) (hz : Sz P t d) : ∃ s : SlV α, SlV.Ok W k cel Ok by_ s ∧ v = .slice s.A s.n s.c := by
  obtain ⟨A, n, c, rfl⟩ := okWide_slice hs hok
  obtain ⟨fuel, hf⟩ := h
  obtain ⟨a, h1, h2⟩ := he.2 _ _ _ hf hz
  refine ⟨a, h1, ?_⟩
  have h3 : [Value.slice A n c] = [.slice a.A a.n a.c] := by simpa [Value.cells, SlV.cells] using h2
  injection h3
theorem split2 {α : Type} {cs : List α} {a b : Nat} (h : cs.length = a + b) : cs = cs.take a ++ (cs.drop a).take b := by
  rw [List.take_of_length_le (l := cs.drop a) (by simp; omega), List.take_append_drop]
theorem opens_struct2 {α α0 α1 : Type} {t : TypeId} {f0 f1 : Field} {k0 k1 : Nat} {cel : α → List Value} {Ok : α → Prop} {cel0 : α0 → List Value} {Ok0 : α0 → Prop} {cel1 : α1 → List Value} {Ok1 : α1 → Prop} (ht : P.underlying t = some (.struct #[f0, f1])) (hk : P.cellsOf t = k0 + k1) (hl : ∀ a, (cel a).length = k0 + k1)
    (o0 : f0.offset = 0) (o1 : f1.offset = k0) (c0 : P.cellsOf f0.type = k0) (c1 : P.cellsOf f1.type = k1) (h0 : OpensAt enc P W f0.type k0 cel0 Ok0) (h1 : OpensAt enc P W f1.type k1 cel1 Ok1)
    (hmk : ∀ a0 a1, Ok0 a0 → Ok1 a1 → ∃ a, Ok a ∧ cel a = cel0 a0 ++ cel1 a1) : OpensAt enc P W t (k0 + k1) cel Ok := by
  refine opens_struct ht hk hl fun cs hlen hf => ?_
  obtain ⟨u0, y0, t0, z0⟩ := hf 0 f0 rfl
  obtain ⟨a0, p0, e0⟩ := h0.2 _ _ _ t0 z0
  rw [o0, c0] at e0
  obtain ⟨u1, y1, t1, z1⟩ := hf 1 f1 rfl
  obtain ⟨a1, p1, e1⟩ := h1.2 _ _ _ t1 z1
  rw [o1, c1] at e1
  obtain ⟨a, q1, q2⟩ := hmk a0 a1 p0 p1
  refine ⟨a, q1, ?_⟩
  rw [q2, ← e0, ← e1]
  rw [List.drop_zero]; exact split2 hlen
theorem opens_struct3 {α α0 α1 α2 : Type} {t : TypeId} {f0 f1 f2 : Field} {k0 k1 k2 : Nat} {cel : α → List Value} {Ok : α → Prop} {cel0 : α0 → List Value} {Ok0 : α0 → Prop} {cel1 : α1 → List Value} {Ok1 : α1 → Prop} {cel2 : α2 → List Value} {Ok2 : α2 → Prop} (ht : P.underlying t = some (.struct #[f0, f1, f2])) (hk : P.cellsOf t = k0 + k1 + k2) (hl : ∀ a, (cel a).length = k0 + k1 + k2)
    (o0 : f0.offset = 0) (o1 : f1.offset = k0) (o2 : f2.offset = k0 + k1) (c0 : P.cellsOf f0.type = k0) (c1 : P.cellsOf f1.type = k1) (c2 : P.cellsOf f2.type = k2) (h0 : OpensAt enc P W f0.type k0 cel0 Ok0) (h1 : OpensAt enc P W f1.type k1 cel1 Ok1) (h2 : OpensAt enc P W f2.type k2 cel2 Ok2)
    (hmk : ∀ a0 a1 a2, Ok0 a0 → Ok1 a1 → Ok2 a2 → ∃ a, Ok a ∧ cel a = cel0 a0 ++ (cel1 a1 ++ (cel2 a2))) : OpensAt enc P W t (k0 + k1 + k2) cel Ok := by
  refine opens_struct ht hk hl fun cs hlen hf => ?_
  obtain ⟨u0, y0, t0, z0⟩ := hf 0 f0 rfl
  obtain ⟨a0, p0, e0⟩ := h0.2 _ _ _ t0 z0
  rw [o0, c0] at e0
  obtain ⟨u1, y1, t1, z1⟩ := hf 1 f1 rfl
  obtain ⟨a1, p1, e1⟩ := h1.2 _ _ _ t1 z1
  rw [o1, c1] at e1
  obtain ⟨u2, y2, t2, z2⟩ := hf 2 f2 rfl
  obtain ⟨a2, p2, e2⟩ := h2.2 _ _ _ t2 z2
  rw [o2, c2] at e2
  obtain ⟨a, q1, q2⟩ := hmk a0 a1 a2 p0 p1 p2
  refine ⟨a, q1, ?_⟩
  rw [q2, ← e0, ← e1, ← e2]
  rw [List.drop_zero, ← List.drop_drop]
  have g1 := split2 (cs := cs) (a := k0) (b := k1 + k2) (by omega)
  have g2 := split2 (cs := cs.drop k0) (a := k1) (b := k2) (by simp; omega)
  rw [List.take_of_length_le (l := cs.drop k0) (by simp; omega)] at g1
  rw [← g2]; exact g1
theorem opens_struct4 {α α0 α1 α2 α3 : Type} {t : TypeId} {f0 f1 f2 f3 : Field} {k0 k1 k2 k3 : Nat} {cel : α → List Value} {Ok : α → Prop} {cel0 : α0 → List Value} {Ok0 : α0 → Prop} {cel1 : α1 → List Value} {Ok1 : α1 → Prop} {cel2 : α2 → List Value} {Ok2 : α2 → Prop} {cel3 : α3 → List Value} {Ok3 : α3 → Prop} (ht : P.underlying t = some (.struct #[f0, f1, f2, f3])) (hk : P.cellsOf t = k0 + k1 + k2 + k3) (hl : ∀ a, (cel a).length = k0 + k1 + k2 + k3)
    (o0 : f0.offset = 0) (o1 : f1.offset = k0) (o2 : f2.offset = k0 + k1) (o3 : f3.offset = k0 + k1 + k2) (c0 : P.cellsOf f0.type = k0) (c1 : P.cellsOf f1.type = k1) (c2 : P.cellsOf f2.type = k2) (c3 : P.cellsOf f3.type = k3) (h0 : OpensAt enc P W f0.type k0 cel0 Ok0) (h1 : OpensAt enc P W f1.type k1 cel1 Ok1) (h2 : OpensAt enc P W f2.type k2 cel2 Ok2) (h3 : OpensAt enc P W f3.type k3 cel3 Ok3)
    (hmk : ∀ a0 a1 a2 a3, Ok0 a0 → Ok1 a1 → Ok2 a2 → Ok3 a3 → ∃ a, Ok a ∧ cel a = cel0 a0 ++ (cel1 a1 ++ (cel2 a2 ++ (cel3 a3)))) : OpensAt enc P W t (k0 + k1 + k2 + k3) cel Ok := by
  refine opens_struct ht hk hl fun cs hlen hf => ?_
  obtain ⟨u0, y0, t0, z0⟩ := hf 0 f0 rfl
  obtain ⟨a0, p0, e0⟩ := h0.2 _ _ _ t0 z0
  rw [o0, c0] at e0
  obtain ⟨u1, y1, t1, z1⟩ := hf 1 f1 rfl
  obtain ⟨a1, p1, e1⟩ := h1.2 _ _ _ t1 z1
  rw [o1, c1] at e1
  obtain ⟨u2, y2, t2, z2⟩ := hf 2 f2 rfl
  obtain ⟨a2, p2, e2⟩ := h2.2 _ _ _ t2 z2
  rw [o2, c2] at e2
  obtain ⟨u3, y3, t3, z3⟩ := hf 3 f3 rfl
  obtain ⟨a3, p3, e3⟩ := h3.2 _ _ _ t3 z3
  rw [o3, c3] at e3
  obtain ⟨a, q1, q2⟩ := hmk a0 a1 a2 a3 p0 p1 p2 p3
  refine ⟨a, q1, ?_⟩
  rw [q2, ← e0, ← e1, ← e2, ← e3]
  rw [List.drop_zero, ← List.drop_drop, ← List.drop_drop, ← List.drop_drop]
  have g1 := split2 (cs := cs) (a := k0) (b := k1 + k2 + k3) (by omega)
  have g2 := split2 (cs := cs.drop k0) (a := k1) (b := k2 + k3) (by simp; omega)
  have g3 := split2 (cs := (cs.drop k0).drop k1) (a := k2) (b := k3) (by simp; omega)
  rw [List.take_of_length_le (l := cs.drop k0) (by simp; omega)] at g1
  rw [List.take_of_length_le (l := (cs.drop k0).drop k1) (by simp; omega)] at g2
  rw [← g3, ← g2]; exact g1
end
end Go.Proofs.YtedogodccblfeaaGreatDoor

namespace Go.Proofs.YtedogodccblfeaaGreatDoor
open Go.Joins Go.ChangeShapes Go.WideShapes Go.ChangeAt Go.RowKit Go.Deep
set_option linter.unusedVariables false
section
variable {H : Type} {enc : TypeId × Value → H} {W : World}
theorem opens_vl : OpensAt enc Tryz.prog W 117 3 Vl.cells Vl.ok :=
  opens_struct3 Tryz.underlying117 (by kernel_rfl) (fun _ => rfl) rfl rfl rfl (by kernel_rfl) (by kernel_rfl) (by kernel_rfl) (opens_int Tryz.underlying3) (opens_int Tryz.underlying2) (opens_str Tryz.underlying9)
    fun a b c ha hb hc => ⟨⟨a, b, c⟩, ⟨ha, hb, hc⟩, rfl⟩
theorem opens_col : OpensAt enc Tryz.prog W 147 4 Col.cells (fun c => I64 c.ty ∧ c.name.size ≤ maxLen) :=
  opens_struct4 Tryz.underlying147 (by kernel_rfl) (fun _ => rfl) rfl rfl rfl rfl (by kernel_rfl) (by kernel_rfl) (by kernel_rfl) (by kernel_rfl) (opens_str Tryz.underlying9) (opens_int Tryz.underlying3) (opens_bool Tryz.underlying4) (opens_bool Tryz.underlying4)
    fun a b c d ha hb hc hd => ⟨⟨a, b, c, d⟩, ⟨hb, ha⟩, rfl⟩
theorem opens_vls : OpensAt enc Tryz.prog W 51 1 (SlV.cells (α := Vl)) (SlV.Ok W 3 Vl.cells Vl.ok 32) :=
  opens_slice ⟨0, 0, ⟨#[]⟩⟩ Tryz.underlying51 (by kernel_rfl) (by omega) (by kernel_rfl) opens_vl
theorem opens_cols : OpensAt enc Tryz.prog W 47 1 (SlV.cells (α := Col)) (SlV.Ok W 4 Col.cells (fun c => I64 c.ty ∧ c.name.size ≤ maxLen) 32) :=
  opens_slice ⟨⟨#[]⟩, 0, false, false⟩ Tryz.underlying47 (by kernel_rfl) (by omega) (by kernel_rfl) opens_col
theorem maxLen_le : maxLen ≤ 9223372036854775807 := by unfold maxLen; omega
/-- a row of the arguments: its values stand in memory -/
structure RwAt (W : World) (r : Rw) : Prop where
  ok : r.ok
  vs : VlsIn r.A r.n r.vs W
  n : r.n ≤ 4398046511104
theorem opens_row : OpensAt enc Tryz.prog W 119 2 Rw.cells (RwAt W) :=
  opens_struct2 Tryz.underlying119 (by kernel_rfl) (fun _ => rfl) rfl rfl (by kernel_rfl) (by kernel_rfl) (opens_int Tryz.underlying3) opens_vls
    fun a s ha hs => ⟨⟨a, s.A, s.n, s.c, s.l⟩, ⟨⟨ha, hs.nc, Nat.le_trans hs.max maxLen_le, hs.ok⟩, hs.rd, by have h1 := hs.reach; have h2 := hs.nc; show s.n ≤ _; omega⟩, rfl⟩
theorem opens_rows : OpensAt enc Tryz.prog W 41 1 (SlV.cells (α := Rw)) (SlV.Ok W 2 Rw.cells (RwAt W) 32) :=
  opens_slice ⟨0, none, 0, 0, []⟩ Tryz.underlying41 (by kernel_rfl) (by omega) (by kernel_rfl) opens_row
/-- a list without a number -/
structure SlAt (W : World) (r : Sl) : Prop where
  ok : r.ok
  vs : VlsIn r.A r.n r.vs W
  n : r.n ≤ 4398046511104
/-- an update of the arguments -/
structure PrAt (W : World) (r : Pr) : Prop where
  ok : r.ok
  old : VlsIn r.oA r.on r.old W
  new : VlsIn r.nA r.nn r.new W
  on : r.on ≤ 4398046511104
  nn : r.nn ≤ 4398046511104
/-- a table of the arguments -/
structure TbV where
  nm : ByteArray
  cs : SlV Col
  nx : Int
  rs : SlV Rw
def TbV.cells (t : TbV) : List Value := [.string t.nm, .slice t.cs.A t.cs.n t.cs.c, .int .i64 t.nx, .slice t.rs.A t.rs.n t.rs.c]
structure TbV.Ok (W : World) (t : TbV) : Prop where
  nm : t.nm.size ≤ maxLen
  nx : I64 t.nx
  cs : SlV.Ok W 4 Col.cells (fun c => I64 c.ty ∧ c.name.size ≤ maxLen) 32 t.cs
  rs : SlV.Ok W 2 Rw.cells (RwAt W) 32 t.rs
theorem opens_sch : OpensAt enc Tryz.prog W 49 2 (fun x : ByteArray × SlV Col => [.string x.1, .slice x.2.A x.2.n x.2.c]) (fun x => x.1.size ≤ maxLen ∧ SlV.Ok W 4 Col.cells (fun c => I64 c.ty ∧ c.name.size ≤ maxLen) 32 x.2) :=
  opens_struct2 Tryz.underlying49 (by kernel_rfl) (fun _ => rfl) rfl rfl (by kernel_rfl) (by kernel_rfl) (opens_str Tryz.underlying9) opens_cols
    fun a s ha hs => ⟨(a, s), ⟨ha, hs⟩, rfl⟩
theorem opens_tb : OpensAt enc Tryz.prog W 58 4 TbV.cells (TbV.Ok W) :=
  opens_struct3 Tryz.underlying58 (by kernel_rfl) (fun _ => rfl) rfl rfl rfl (by kernel_rfl) (by kernel_rfl) (by kernel_rfl) opens_sch (opens_int Tryz.underlying3) opens_rows
    fun a b c ha hb hc => ⟨⟨a.1, a.2, b, c⟩, ⟨ha.1, hb, ha.2, hc⟩, rfl⟩
/-- a change of the arguments -/
structure ChV where
  ins : SlV Sl
  dels : SlV Int
  us : SlV Pr
def ChV.cells (t : ChV) : List Value := [.slice t.ins.A t.ins.n t.ins.c, .slice t.dels.A t.dels.n t.dels.c, .slice t.us.A t.us.n t.us.c]
structure ChV.Ok (W : World) (t : ChV) : Prop where
  ins : SlV.Ok W 1 Sl.cells (SlAt W) 24 t.ins
  dels : SlV.Ok W 1 (fun z : Int => [.int .i64 z]) I64 8 t.dels
  us : SlV.Ok W 3 Pr.cells (PrAt W) 56 t.us
end
/-- what stands in the arguments stays -/
theorem ro_rows {W : World} {A : Option Addr} {n c : Nat} {l : List Rw} (h : SlV.Ok W 2 Rw.cells (RwAt W) 32 ⟨A, n, c, l⟩) {M : Nat → Prop} (hM : ∀ b, b < W.heap.size → ¬ M b) : Ro W M (RwsIn A n l) :=
  (Rd.ro h.rd (Nat.le_refl _) hM : Ro W M (SlR 2 A n (rwCells l))).and fun w2 h1 h2 r hr => (Rd.ro (h.ok r hr).vs (Nat.le_refl _) hM : Ro W M (VlsIn r.A r.n r.vs)) w2 h1 h2
theorem ro_cols {W : World} {A : Option Addr} {n c : Nat} {l : List Col} {Ok : Col → Prop} (h : SlV.Ok W 4 Col.cells Ok 32 ⟨A, n, c, l⟩) {M : Nat → Prop} (hM : ∀ b, b < W.heap.size → ¬ M b) : Ro W M (SlR 4 A n (colCells l)) :=
  (Rd.ro h.rd (Nat.le_refl _) hM : Ro W M (SlR 4 A n (colCells l)))
end Go.Proofs.YtedogodccblfeaaGreatDoor

namespace Go.Proofs.YtedogodccblfeaaGreatDoor
open Go.RowKit
set_option linter.unusedVariables false
theorem tbArg_rows {W : World} {t : TbV} (h : TbV.Ok W t) : ∀ r ∈ t.rs.l.map Rw.row, r.2.length ≤ 4398046511104 := fun r hr => by
  obtain ⟨x, hx, rfl⟩ := List.mem_map.1 hr
  have h1 := h.rs.ok x hx
  have h2 : x.vs.length = x.n := VlsIn.len h1.vs
  have h3 := h1.n
  show x.vs.length ≤ _
  omega
theorem tbArg_cs {W : World} {t : TbV} (h : TbV.Ok W t) : ∀ x ∈ t.cs.l, x.name.size ≤ maxLen := fun x hx => (h.cs.ok x hx).2
end Go.Proofs.YtedogodccblfeaaGreatDoor

namespace Go.Proofs.YtedogodccblfeaaGreatDoor
open Go.RowKit
set_option linter.unusedVariables false
theorem tbM_arg {W : World} {t : TbV} (h : TbV.Ok W t) : TbM ⟨t.nm, t.cs.l, t.nx, t.rs.l.map Rw.row⟩ := by
  refine ⟨h.nm, tbArg_cs h, ?_, tbArg_rows h⟩
  have h1 : (rwCells t.rs.l).length = t.rs.n * 2 := h.rs.rd.1
  rw [rwCells_len] at h1
  have h2 := h.rs.reach
  have h3 := h.rs.nc
  show (t.rs.l.map Rw.row).length ≤ _
  rw [List.length_map]
  omega
end Go.Proofs.YtedogodccblfeaaGreatDoor

namespace Go.Proofs.YtedogodccblfeaaGreatDoor
open Go.Joins Go.ChangeShapes Go.WideShapes Go.ChangeAt Go.RowKit Go.Deep
set_option linter.unusedVariables false
def teOf (t : TbV) : Te := ⟨t.nm, t.cs.A, t.cs.n, t.cs.c, t.cs.l, t.nx, t.rs.A, t.rs.n, t.rs.c, t.rs.l⟩
/-- a table of the arguments -/
def TeArg (W : World) (x : Te) : Prop := ∃ t : TbV, TbV.Ok W t ∧ x = teOf t
theorem TeArg.good {W : World} {x : Te} (h : TeArg W x) : x.ok ∧ TbM x.tb := by
  obtain ⟨t, h, rfl⟩ := h
  exact ⟨⟨h.cs.nc, Nat.le_trans h.cs.max maxLen_le, h.rs.nc, Nat.le_trans h.rs.max maxLen_le, fun r hr => (h.rs.ok r hr).ok⟩, tbM_arg h⟩
theorem TeArg.ro {W : World} {x : Te} (h : TeArg W x) {M : Nat → Prop} (hM : ∀ b, b < W.heap.size → ¬ M b) : Ro W M (TeIn x) := by
  obtain ⟨t, h, rfl⟩ := h
  exact (ro_cols h.cs hM).and (ro_rows h.rs hM)
section
variable {H : Type} {enc : TypeId × Value → H} {W : World}
theorem opens_te : OpensAt enc Tryz.prog W 58 4 Te.cells (TeArg W) := ⟨fun _ => rfl, fun fuel cs x h hz => by
  obtain ⟨s, hs, rfl⟩ := opens_tb.2 fuel cs x h hz
  exact ⟨teOf s, ⟨s, hs, rfl⟩, rfl⟩⟩
theorem opens_tbs : OpensAt enc Tryz.prog W 29 1 (SlV.cells (α := Te)) (SlV.Ok W 4 Te.cells (TeArg W) 72) :=
  opens_slice ⟨⟨#[]⟩, none, 0, 0, [], 0, none, 0, 0, []⟩ Tryz.underlying29 (by kernel_rfl) (by omega) (by kernel_rfl) opens_te
end
theorem ro_tes {W : World} {s : SlV Te} (h : SlV.Ok W 4 Te.cells (TeArg W) 72 s) {M : Nat → Prop} (hM : ∀ b, b < W.heap.size → ¬ M b) : Ro W M (TesIn s.A s.n s.l) :=
  (Rd.ro h.rd (Nat.le_refl _) hM : Ro W M (SlR 4 s.A s.n (teCells s.l))).and fun w2 h1 h2 x hx => (h.ok x hx).ro hM w2 h1 h2
end Go.Proofs.YtedogodccblfeaaGreatDoor

namespace Go.Proofs.YtedogodccblfeaaGreatDoor
open Go.RowKit
set_option linter.unusedVariables false
theorem TeArg.raw {W : World} {x : Te} (h : TeArg W x) : TeRaw x := by
  have g := h.good
  obtain ⟨t, h, rfl⟩ := h
  refine ⟨g.1, g.2, ?_, fun r hr => (h.rs.ok r hr).n⟩
  have h1 := h.cs.nc
  have h2 := h.cs.reach
  show t.cs.n ≤ _
  omega
theorem teArg_of {W : World} {t : TbV} (h : TbV.Ok W t) : TeArg W (teOf t) := ⟨t, h, rfl⟩
end Go.Proofs.YtedogodccblfeaaGreatDoor

namespace Go.Proofs.YtedogodccblfeaaGreatDoor
open Go.ChangeShapes Go.WideShapes Go.ChangeAt Go.RowKit
set_option linter.unusedVariables false
set_option linter.unusedSimpArgs false

namespace LawStoreForms
set_option maxRecDepth 100000 in
theorem contract (H : Type) (enc : TypeId × Value → H) (W : World) (base : Nat) (args : Array Value) (ds gs : List (DataW H)) (before : List MemPlace)
    (hval0 : ∀ (j : Nat) t v, Tryz.f7.params[j]? = some t → args[j]? = some v → Value.okWide Tryz.prog W .any base t v)
    (hsz0 : (DataW.weightsEach Tryz.prog (Tryz.f7.params.toList ++ Rows.storeFormsSpec.plain.varTypes Tryz.prog) (ds ++ gs)).all (· ≤ reachBytes) = true)
    (hW : DataW.Whole enc Tryz.prog Tryz.f7.params.toList Rows.storeFormsSpec.vars false W args.toList ds gs before) (hL : laidMetH Tryz.prog Rows.storeFormsRow.laid W) (hsh : W.ShapedOpen Tryz.prog) :
    Calls Tryz.prog 7 args W fun e W' => ∃ v, e = .returned v ∧ Rows.storeFormsSpec.post enc Tryz.prog Tryz.f7 false true false false W args v W' := by
  have hsz : (DataW.weightsEach Tryz.prog (Tryz.f7.params.toList ++ Rows.storeFormsSpec.plain.varTypes Tryz.prog) (ds ++ gs)).all (· ≤ reachBytes) = true := hsz0
  have hval : ∀ (j : Nat) t v, Tryz.f7.params[j]? = some t → args[j]? = some v → Value.okWide Tryz.prog W .any base t v := hval0
  have hW' := hW
  obtain ⟨p, q, hA0, hV, rfl, hfz, hnd⟩ := hW
  have hA : DataW.TrodAll enc Tryz.prog W 0 (fun _ => true) true Tryz.f7.params.toList args.toList ds p := hA0
  rw [Tryz.params7] at hA hval hsz
  obtain ⟨v0, vs0, d0, ds0, p0, q0, hargs, rfl, rfl, h0, r0⟩ := trodAll_cons hA
  obtain ⟨v1, vs1, d1, ds1, p1, q1, rfl, rfl, rfl, h1, r1⟩ := trodAll_cons r0
  obtain ⟨v2, vs2, d2, ds2, p2, q2, rfl, rfl, rfl, h2, r2⟩ := trodAll_cons r1
  obtain ⟨v3, vs3, d3, ds3, p3, q3, rfl, rfl, rfl, h3, r3⟩ := trodAll_cons r2
  obtain ⟨rfl, rfl, rfl⟩ := trodAll_nil r3
  obtain rfl : args = #[v0, v1, v2, v3] := by cases args; simp_all
  obtain ⟨rfl, rfl⟩ := trodVars_none hV
  obtain ⟨sl0, ok0, rfl⟩ := opens_tbs.slice Tryz.underlying29 (hval 0 29 v0 rfl rfl) h0 (sz_arg hsz (j := 0) rfl rfl)
  obtain ⟨tb1, ok1, rfl⟩ := opens_tb.agg Tryz.underlying58 (hval 1 58 v1 rfl rfl) h1 (sz_arg hsz (j := 1) rfl rfl)
  obtain ⟨s2, rfl, rfl, rfl, w2⟩ := Go.ChangeMaps.open_string Tryz.underlying9 (hval 2 9 v2 rfl rfl) h2
  have ss2 : s2.size ≤ 140737488351232 := by have h := sized_string hsz (j := 2) rfl rfl; simp only [reachBytes] at h; simpa using h
  obtain ⟨A3, n3, c3, zs3, rfl, k3, z3, l3, m3, e3⟩ := open_i64s Tryz.underlying22 Tryz.underlying3 (by kernel_rfl) (hval 3 22 v3 rfl rfl) h3
  refine (sforms_walk sl0.A sl0.n sl0.c sl0.l (teOf tb1) s2 A3 n3 c3 zs3 W (ro_tes ok0 (fun b _ h => h)) ((teArg_of ok1).ro (fun b _ h => h)) (fun x hx => (ok0.ok x hx).raw) (teArg_of ok1).raw ok0.nc (Nat.le_trans ok0.max maxLen_le) k3 z3 l3 (by unfold maxLen at m3; omega) (both_of_laid hL).1 (both_of_laid hL).2).mono fun e W' ⟨he, hb⟩ => ?_
  exact ⟨_, he, law_post rfl laidOut (by kernel_rfl) (by kernel_rfl) Tryz.underlying4 rfl hW' hb⟩

theorem laid_met (os : Os) : laidMet Tryz.prog Rows.storeFormsRow.laid ((bothWorld os).forCall (fun _ _ => 0) ⟨#[], #[.slice none 0 0, .agg #[.string ⟨#[]⟩, .slice none 0 0, .int .i64 0, .slice none 0 0], .string ⟨#[]⟩, .slice none 0 0], []⟩).memory :=
  laidMet_of_run' 16 (by kernel_rfl) (by kernel_rfl)
theorem reads (os : Os) {H : Type} (enc : TypeId × Value → H) : ∃ places, DataW.whole enc Tryz.prog ((bothWorld os).forCall (fun _ _ => 0) ⟨#[], #[.slice none 0 0, .agg #[.string ⟨#[]⟩, .slice none 0 0, .int .i64 0, .slice none 0 0], .string ⟨#[]⟩, .slice none 0 0], []⟩).memory Tryz.f7.params.toList Rows.storeFormsSpec.vars false #[.slice none 0 0, .agg #[.string ⟨#[]⟩, .slice none 0 0, .int .i64 0, .slice none 0 0], .string ⟨#[]⟩, .slice none 0 0].toList 8 = some ([.nil, .agg [.agg [.lit (.string []), .nil], .lit (.int .i64 0), .nil], .lit (.string []), .nil], [], places) :=
  ⟨[], by kernel_rfl⟩

set_option maxRecDepth 100000 in
theorem lifted (os : Os) (started : os.Started) (H : Type) (enc : TypeId × Value → H) (F : Stop.Interp) :
    ReturnsInHanded {} Tryz.checked os 7 .any ((OpenSpec.ofChange Rows.storeFormsSpec).preRow enc Tryz.prog Tryz.f7 Rows.storeFormsRow.domain false Rows.storeFormsRow.laid) (((OpenSpec.ofChange Rows.storeFormsSpec).at F).post enc Tryz.prog Tryz.f7 false true false false) := by
  obtain ⟨places, hx⟩ := reads os enc
  refine returnsInHanded_of_row (C := Tryz.checked) (s := OpenSpec.ofChange Rows.storeFormsSpec) own started (by kernel_rfl) Tryz.func7
    (witness_row_at (enc := enc) (C := Tryz.checked) false (bothWorld os) #[.slice none 0 0, .agg #[.string ⟨#[]⟩, .slice none 0 0, .int .i64 0, .slice none 0 0], .string ⟨#[]⟩, .slice none 0 0] rfl (by kernel_rfl) (by kernel_rfl) (by kernel_rfl)
      (OpenSpec.preRow_of_cond 8 hx (by kernel_rfl) (fun k hk => by cases hk) (by kernel_rfl) (laid_met os))) ?_
  intro W base args ds gs before hval hW _ _ hsz0 hL hsh _
  exact contract H enc W base args ds gs before hval hsz0 hW hL hsh

theorem said : Rows.StoreFormsSaid :=
  OpenClaim.holds_of_cond 7 Tryz.f7 rfl rfl rfl rfl rfl rfl rfl ⟨rfl, rfl, rfl, rfl, rfl⟩ rfl rfl rfl rfl rfl (by kernel_rfl) Tryz.func7 (by kernel_rfl)
    (of_decide_eq_true (by kernel_rfl)) (by unfold Func.isWrapper; first | (rw [if_pos (by decide +kernel)]; kernel_rfl) | (rw [if_neg (by decide +kernel)]; exact ⟨rfl, rfl⟩))
    (fun os started H enc _ F => by rw [OpenClaim.pre_eq_preRow]; exact lifted os started H enc F)

theorem plain (f : FuncId) (fn : Func) (hf : Tryz.pinned.checked.prog.funcNamed "triggerstore/triggerstorelaw9.StoreForms" = some f) (hfn : Tryz.pinned.checked.prog.funcs[f]? = some fn) :
    false = Tryz.pinned.checked.prog.looks [] ∧ ∀ (j : Nat) t, fn.params[j]? = some t → Tryz.pinned.checked.prog.wantsStandIn t = false := by
  obtain rfl : f = 7 := Option.some.inj ((show Tryz.prog.funcNamed "triggerstore/triggerstorelaw9.StoreForms" = some 7 by kernel_rfl).symm.trans hf) |>.symm
  obtain rfl : fn = Tryz.f7 := (Option.some.inj (Tryz.func7.symm.trans hfn)).symm
  refine ⟨by kernel_rfl, fun j t ht => ?_⟩
  rw [Tryz.params7] at ht
  have hm := Array.mem_of_getElem? ht
  simp only [List.mem_toArray, List.mem_cons, List.not_mem_nil, or_false] at hm
  rcases hm with rfl | rfl | rfl | rfl
  · exact (show Tryz.prog.wantsStandIn 29 = false by kernel_rfl)
  · exact (show Tryz.prog.wantsStandIn 58 = false by kernel_rfl)
  · exact (show Tryz.prog.wantsStandIn 9 = false by kernel_rfl)
  · exact (show Tryz.prog.wantsStandIn 22 = false by kernel_rfl)
end LawStoreForms

theorem storeForms_holds : Rows.StoreFormsCardSaid :=
  Claim7.holds_tied_plain_at .later [] _ _ _ _ LawStoreForms.said (fun _ h => by cases h) (by kernel_rfl) (fun _ h => by cases h) storeForms_row_tie rfl ⟨rfl, rfl⟩ (by kernel_rfl) rfl LawStoreForms.plain (by kernel_rfl)
#print axioms storeForms_holds
end Go.Proofs.YtedogodccblfeaaGreatDoor

/- SortRw: slices.SortStableFunc over at most 19 rows that the call owns, by their numbers. -/
import Derived.Test.YtedogodccblfeaaGreatDoorSUndSaidMF
import Derived.Test.YtedogodccblfeaaGreatDoorSUndSaidMD
import Derived.Test.YtedogodccblfeaaGreatDoorSUndSaidMB
import Derived.Test.YtedogodccblfeaaGreatDoorSUndSaidMA
import Derived.Test.YtedogodccblfeaaGreatDoorSUndSaidMC
import Derived.Test.YtedogodccblfeaaGreatDoorSUndSaidME
import Derived.StillTailTactics
import Derived.Lib.AppendZerosOnto
import Derived.Lib.SliceRun
import Derived.Shelf.SlSortCmp.InsertionK
import Derived.Sort.LotA
import Derived.Test.YtedogodccblfeaaGreatDoorProg
import Derived.Shelf.SlSortCmp.NoneTotal
namespace Go.Proofs.YtedogodccblfeaaGreatDoor
open Go.RowKit
set_option linter.unusedVariables false
set_option linter.unusedSimpArgs false

set_option maxHeartbeats 8000000 in
set_option maxRecDepth 100000 in
theorem rbetw_any (M : Nat → Prop) (w : World) (hM : ∀ b, M b → b < w.heap.size) (va vb : Value) (a b : Tb) (hTa : TbAt w M va a) (hTb : TbAt w M vb b) (hsa : a.nm.size ≤ maxLen) (hca : ∀ x ∈ a.cs, x.name.size ≤ maxLen) (hra : a.rs.length ≤ 4398046511104) (hsb : b.nm.size ≤ maxLen) (hcb : ∀ x ∈ b.cs, x.name.size ≤ maxLen) (hrb : b.rs.length ≤ 4398046511104) :
    Calls Tryz.prog 17 #[va, vb] w fun e w' => BetRet w M (betweenC a b) e w' := by
  obtain ⟨aA, an, ac, aB, am, ad, la, rfl, a1, a2, a3, a4, a5, a6, a7, a8⟩ := hTa
  obtain ⟨bA, bn, bc, bB, bm, bd, lb, rfl, b1, b2, b3, b4, b5, b6, b7, b8⟩ := hTb
  have HAL := hid (show la.length = am from a6.now.len)
  have HBL := hid (show lb.length = bm from b6.now.len)
  have HAR := hid a8
  have HBR := hid b8
  have HAO := hid a7
  have HBO := hid b7
  have HAE := hid a6.now
  have HBE := hid b6.now
  have HAC := hid (show a.cs.length = an from cols_n a5.now)
  have ham : am ≤ 4398046511104 := by have := HAL.out; have h := congrArg List.length a8; rw [List.length_map] at h; omega
  have hbm : bm ≤ 4398046511104 := by have := HBL.out; have h := congrArg List.length b8; rw [List.length_map] at h; omega
  have K0 := (((((((Hold.start M w hM).add (b6.less (by simp [Mut]))).add (b5.less (by simp [Mut, Hp.foot]))).add (a6.less (by simp [Mut, Hp.foot]))).add (a5.less (by simp [Mut, Hp.foot]))).alloc_cst #[.string a.nm, .slice aA an ac, .int .i64 a.nx, .slice aB am ad] 58).alloc_cst #[.string b.nm, .slice bA bn bc, .int .i64 b.nx, .slice bB bm bd] 58).alloc #[.string ⟨#[]⟩, .slice none 0 0, .slice none 0 0, .slice none 0 0] 44
  simp only [World.size_alloc] at K0
  have F0 := K0.facts
  simp only [World.size_alloc, World.size_drew, factsL, cellsF, Nat.reduceAdd, List.toList_toArray, List.set_cons_zero, List.set_cons_succ, List.setIfInBounds_toArray, and_true, true_and] at F0
  clear a5 a6 a7 a8 b5 b6 b7 b8
  go_enter Tryz.func17, Tryz.ntmps17
  go_wp2_with fail
  obtain ⟨g2, hg2⟩ : ∃ g, g = w.heap.size := ⟨_, rfl⟩
  obtain ⟨g3, hg3⟩ : ∃ g, g = g2 + 1 := ⟨_, rfl⟩
  obtain ⟨g4, hg4⟩ : ∃ g, g = g3 + 1 := ⟨_, rfl⟩
  rw [← hg2, ← hg3, ← hg4] at K0 ⊢
  clear F0
  generalize ((w.alloc _).alloc _).alloc _ = w1 at K0 ⊢
  have HGX := hid hg2
  clear hg2 hg3 hg4
  have hv := rtvalid_any _ _ K0.mutLt a.nm aA an ac a.cs a.nx aB am ad la (K0.ro 3 rfl) (K0.ro 4 rfl) (by omega) (by omega) HAO.out hsa hca
  rw [HAR.out] at hv
  refine hv.mono ?_
  clear hv
  rintro e w2 ⟨rfl, b1_⟩
  have K1 := K0.call b1_
  clear K0 b1_
  have F1 := K1.facts
  simp only [World.size_alloc, World.size_drew, factsL, cellsF, Nat.reduceAdd, List.toList_toArray, List.set_cons_zero, List.set_cons_succ, List.setIfInBounds_toArray, and_true, true_and] at F1
  cases hva : tabB a.nm a.cs a.nx a.rs
  · have HN := hid (betC_a (b := b) hva)
    clear hva
    have KN := (((K1.store 0 rfl 0 (.string ⟨#[]⟩)).store 0 rfl 1 (.slice none 0 0)).store 0 rfl 2 (.slice none 0 0)).store 0 rfl 3 (.slice none 0 0)
    go_wp2_with fail
    exact bodyPost_ret (v := .tuple #[.agg #[.string ⟨#[]⟩, .slice none 0 0, .slice none 0 0, .slice none 0 0], .bool false]) (by simp [results, Tryz.results17, go_sem, F1]) rfl ⟨_, by rw [HN.out], by rw [HN.out]; exact dlAt_zero, KN.below⟩
  have HVA := hid hva
  clear hva
  go_wp2_with fail
  have hv := rtvalid_any _ _ K1.mutLt b.nm bA bn bc b.cs b.nx bB bm bd lb (K1.ro 5 rfl) (K1.ro 6 rfl) (by omega) (by omega) HBO.out hsb hcb
  rw [HBR.out] at hv
  refine hv.mono ?_
  clear hv
  rintro e w3 ⟨rfl, b1_⟩
  have K2 := K1.call b1_
  clear K1 b1_ F1
  have F2 := K2.facts
  simp only [World.size_alloc, World.size_drew, factsL, cellsF, Nat.reduceAdd, List.toList_toArray, List.set_cons_zero, List.set_cons_succ, List.setIfInBounds_toArray, and_true, true_and] at F2
  cases hvb : tabB b.nm b.cs b.nx b.rs
  · have HN := hid (betC_b (a := a) hvb)
    clear hvb
    have KN := (((K2.store 0 rfl 0 (.string ⟨#[]⟩)).store 0 rfl 1 (.slice none 0 0)).store 0 rfl 2 (.slice none 0 0)).store 0 rfl 3 (.slice none 0 0)
    go_wp2_with fail
    exact bodyPost_ret (v := .tuple #[.agg #[.string ⟨#[]⟩, .slice none 0 0, .slice none 0 0, .slice none 0 0], .bool false]) (by simp [results, Tryz.results17, go_sem, F2]) rfl ⟨_, by rw [HN.out], by rw [HN.out]; exact dlAt_zero, KN.below⟩
  have HVB := hid hvb
  clear hvb hsa hca hsb hcb
  have han6 : an ≤ 6 := by have := tabB_cols HVA.out; have := HAC.out; omega
  have ham1 : am ≤ 100 := by have := (tabB_rows HVA.out).1; have h := congrArg List.length HAR.out; rw [List.length_map] at h; have := HAL.out; omega
  have hbm1 : bm ≤ 100 := by have := (tabB_rows HVB.out).1; have h := congrArg List.length HBR.out; rw [List.length_map] at h; have := HBL.out; omega
  have HSA := hid (rw_short HAE.out (by rw [HAR.out]; exact HVA.out))
  have HSB := hid (rw_short HBE.out (by rw [HBR.out]; exact HVB.out))
  clear ham hbm hra hrb
  go_wp2_with fail
  refine (rsameschema_any _ a.nm aA an ac a.cs b.nm bA bn bc b.cs (K2.ro 3 rfl).now (K2.ro 5 rfl).now (by omega)).mono ?_
  rintro e w4 ⟨rfl, b1_⟩
  have K3 := K2.call b1_
  clear K2 b1_ F2
  have F3 := K3.facts
  simp only [World.size_alloc, World.size_drew, factsL, cellsF, Nat.reduceAdd, List.toList_toArray, List.set_cons_zero, List.set_cons_succ, List.setIfInBounds_toArray, and_true, true_and] at F3
  cases hss : decide (a.nm = b.nm ∧ a.cs = b.cs)
  · have HN := hid (betC_s hss)
    clear hss
    have KN := (((K3.store 0 rfl 0 (.string ⟨#[]⟩)).store 0 rfl 1 (.slice none 0 0)).store 0 rfl 2 (.slice none 0 0)).store 0 rfl 3 (.slice none 0 0)
    go_wp2_with fail
    exact bodyPost_ret (v := .tuple #[.agg #[.string ⟨#[]⟩, .slice none 0 0, .slice none 0 0, .slice none 0 0], .bool false]) (by simp [results, Tryz.results17, go_sem, F3]) rfl ⟨_, by rw [HN.out], by rw [HN.out]; exact dlAt_zero, KN.below⟩
  have HEQ := hid (of_decide_eq_true hss)
  clear hss
  by_cases hnx : b.nx < a.nx
  · have hd : decide (b.nx < a.nx) = true := by simpa using hnx
    have HN := hid (betC_n hnx)
    clear hnx
    have KN := (((K3.store 0 rfl 0 (.string ⟨#[]⟩)).store 0 rfl 1 (.slice none 0 0)).store 0 rfl 2 (.slice none 0 0)).store 0 rfl 3 (.slice none 0 0)
    go_wp2_with fail
    exact bodyPost_ret (v := .tuple #[.agg #[.string ⟨#[]⟩, .slice none 0 0, .slice none 0 0, .slice none 0 0], .bool false]) (by simp [results, Tryz.results17, go_sem, F3]) rfl ⟨_, by rw [HN.out], by rw [HN.out]; exact dlAt_zero, KN.below⟩
  have hd : decide (b.nx < a.nx) = false := by simpa using hnx
  have HST := hid (RSt.zero HVA.out HVB.out HEQ.out (show a.nx ≤ b.nx by omega))
  clear hnx
  have K4 := K3.alloc #[.string a.nm, .slice none 0 0, .slice none 0 0, .slice none 0 0] 44
  go_wp2_with fail
  obtain ⟨g6, hg6⟩ : ∃ g, g = w4.heap.size := ⟨_, rfl⟩
  rw [← hg6] at K4 ⊢
  have HG6 := hid hg6
  clear hg6 hd F3 K3
  generalize World.alloc w4 _ = w5 at K4 ⊢
  have K6 := ((((((K4.add (show Ro _ _ (PrVals []) from fun _ _ _ r hr => nomatch hr)).add (ro_vals_nil _ _)).add (ro_vals_nil _ _)).nil 110 3).nil 119 2).nil 119 2)
  clear K4
  go_loopw [46] (fun iv wr => ∃ (j ni ci nu cu : Nat) (I U : Option Addr) (li : List Rw) (lu : List Pr), j ≤ bm ∧ iv = .int .i64 j ∧ ni ≤ j ∧ nu ≤ j ∧ Hid (RSt a b j 0 li [] lu) ∧ Hold M none w wr [.own 119 2 (.slice I ni ci) ni (rwCells li), .own 119 2 (.slice none 0 0) 0 (rwCells []), .own 110 3 (.slice U nu cu) nu (prCells lu), .ro (ValsIn li), .ro (ValsIn []), .ro (PrVals lu), .blk g6 44 #[.string a.nm, .slice I ni ci, .slice none 0 0, .slice U nu cu], .blk g4 44 #[.string ⟨#[]⟩, .slice none 0 0, .slice none 0 0, .slice none 0 0], .cst g3 58 #[.string b.nm, .slice bA bn bc, .int .i64 b.nx, .slice bB bm bd], .cst g2 58 #[.string a.nm, .slice aA an ac, .int .i64 a.nx, .slice aB am ad], .ro (ColsIn aA an a.cs), .ro (RwsIn aB am la), .ro (ColsIn bA bn b.cs), .ro (RwsIn bB bm lb)]) (fun iv _ => bm - (intOf iv).toNat)
  case atStart => exact ⟨0, 0, 0, 0, 0, none, none, [], [], by omega, rfl, by omega, by omega, HST, K6⟩
  case round =>
    clear K6 HST
    obtain ⟨j, ni, ci, nu, cu, I, U, li, lu, hj, rfl, hni, hnu, HBS, H⟩ := hrel
    by_cases hlt : j < bm
    · have hd : decide ((j : Int) < (bm : Int)) = true := by simp; omega
      have j0 : (0 : Int) ≤ (j : Int) := by omega
      have j1 : (j : Int) < (bm : Int) := by omega
      obtain ⟨r, hr⟩ := get_of HBL.out hlt
      obtain ⟨bb, bo, rfl, hbb, c0, c1, _⟩ := (H.ro 13 rfl).now.at_ hr
      have HRR := hid (show b.rs[j]? = some r.row by rw [← HBR.out, List.getElem?_map, hr]; rfl)
      have HRO := hid (HBO.out r (List.mem_of_getElem? hr))
      have hrn6 := HSB.out r (List.mem_of_getElem? hr)
      have hxr : Ro wr _ (VlsIn r.A r.n r.vs) := (H.ro 13 rfl).imp fun w2 h2 => h2.2 r (List.mem_of_getElem? hr)
      obtain ⟨rid, rA, rn, rc, rvs⟩ := r
      dsimp only at *
      clear hr
      have K1 := (H.add hxr).alloc_cst #[.int .i64 rid, .slice rA rn rc] 119
      clear H hxr
      obtain ⟨g8, hg8⟩ : ∃ g, g = wr.heap.size := ⟨_, rfl⟩
      rw [← hg8] at K1
      have F1 := K1.facts
      simp only [World.size_alloc, World.size_drew, factsL, cellsF, Nat.reduceAdd, List.toList_toArray, List.set_cons_zero, List.set_cons_succ, List.setIfInBounds_toArray, and_true, true_and] at F1
      go_wp2_with fail
      rw [← hg8]
      have HG8 := hid hg8
      clear hg8 c0 c1
      have hg := rtget_any _ _ K1.mutLt (.string a.nm) (.slice aA an ac) (.int .i64 a.nx) aB am ad la rid (K1.ro 13 rfl) (by omega) (fun r hr => by have := HSA.out r hr; omega)
      rw [HAR.out] at hg
      refine hg.mono ?_
      clear hg
      rintro e w6 ⟨Ag, ng, cg, rfl, hng, hgc1, hgc2, rg, bg⟩
      have K2 := K1.call bg
      clear K1 bg F1
      have F2 := K2.facts
      simp only [World.size_alloc, World.size_drew, factsL, cellsF, Nat.reduceAdd, List.toList_toArray, List.set_cons_zero, List.set_cons_succ, List.setIfInBounds_toArray, and_true, true_and] at F2
      cases hgt : getR a.rs rid with
      | none =>
        have HGG := hid hgt
        simp only [Option.isSome_none]
        clear rg hng hgc1 hgc2 hgt
        by_cases hrn : rid < a.nx
        · have hd3 : decide (rid < a.nx) = true := by simpa using hrn
          have HN := hid (HBS.out.bad HRR.out HGG.out hrn)
          clear hrn
          have KN := (((K2.store 9 rfl 0 (.string ⟨#[]⟩)).store 9 rfl 1 (.slice none 0 0)).store 9 rfl 2 (.slice none 0 0)).store 9 rfl 3 (.slice none 0 0)
          go_wp2_with fail
          exact bodyPost_ret (v := .tuple #[.agg #[.string ⟨#[]⟩, .slice none 0 0, .slice none 0 0, .slice none 0 0], .bool false]) (by simp [results, Tryz.results17, go_sem, F2]) rfl ⟨_, by rw [HN.out], by rw [HN.out]; exact dlAt_zero, KN.below⟩
        · have hd3 : decide (rid < a.nx) = false := by simpa using hrn
          have HRN := hid (show a.nx ≤ rid by omega)
          clear hrn
          obtain ⟨KL, hKL, KN⟩ := K2.name
          have HF : Hid (∀ wv, Hold M none w wv KL → (wv.cell? ⟨g6, 1, none⟩ = some (.slice I ni ci) ∧ g6 < wv.heap.size) ∧ wv.cell? ⟨g8, 0, none⟩ = some (.int .i64 rid) ∧ wv.cell? ⟨g8, 1, none⟩ = some (.slice rA rn rc) ∧ g8 < wv.heap.size) := hid fun wv HC => by
            rw [hKL] at HC
            have y1 := HC.blk_ 8 rfl
            have y2 := HC.cst_ 0 rfl
            exact ⟨⟨cell_of_row _ _ 1 _ _ _ y1, Blk.lt y1⟩, cell_of_row _ _ 0 _ _ _ y2, cell_of_row _ _ 1 _ _ _ y2, Blk.lt y2⟩
          have HRX : Hid (∀ wv, Hold M none w wv KL → Ro wv (Mut M KL) (VlsIn rA rn rvs)) := hid fun wv HC => by
            rw [hKL] at HC ⊢
            exact HC.ro 1 rfl
          have HKL := hid hKL
          clear hKL K2
          go_wp2_with fail
          refine wp_region_any (by kernel_rfl) ?_
          refine wpAny_hold 5 119 (KL) (spL [(72, RowSlot (Mut M KL) rid rvs), (73, RBoxSlot (Mut M KL) rid rvs)]) (by kernel_rfl) (by kernel_rfl) (by kernel_rfl) rfl ?_ (KN.drew) ?_
          · exact stays_cons rowSlot_mono (stays_cons rboxSlot_mono (stays_nil _))
          simp only [List.take_succ_cons, List.take_zero, List.drop_succ_cons, List.drop_zero, Act.put, List.getElem_toArray, List.getElem_cons_zero, List.getElem_cons_succ, List.setIfInBounds_toArray, List.set_cons_succ, List.set_cons_zero]
          refine dw_val rfl rfl rfl ?_; apply Exists.intro; refine ⟨fun wv HC => ?_, ?_⟩
          ·  go_simp <;> rfl
          simp only [Act.put, List.setIfInBounds_toArray, List.set_cons_succ, List.set_cons_zero]
          refine dw_val rfl rfl rfl ?_; apply Exists.intro; refine ⟨fun wv HC => ?_, ?_⟩
          · obtain ⟨⟨f0, f1⟩, f2, f3, f4⟩ := HF.out _ HC; go_simp <;> rfl
          simp only [Act.put, List.setIfInBounds_toArray, List.set_cons_succ, List.set_cons_zero]
          refine dw_val rfl rfl rfl ?_; apply Exists.intro; refine ⟨fun wv HC => ?_, ?_⟩
          · obtain ⟨⟨f0, f1⟩, f2, f3, f4⟩ := HF.out _ HC; go_simp <;> rfl
          simp only [Act.put, List.setIfInBounds_toArray, List.set_cons_succ, List.set_cons_zero]
          refine dw_callR 72 (RowSlot (Mut M KL) rid rvs) (f := 61) (args := #[.agg #[.int .i64 rid, .slice rA rn rc]]) rfl rfl rfl rfl (fun wv => ?_) (fun wv HC hrm hD => ?_) ?_
          · go_simp <;> rfl
          · refine (rcopyrow_any _ wv HC.mutLt rid rA rn rc rvs (HRX.out _ HC) (by omega)).mono ?_
            rintro e w5 ⟨A5, n5, c5, rfl, h50, h51, h52, h53, b5⟩
            exact ⟨_, rfl, ⟨A5, n5, c5, rfl, h50, h51, h52, h53⟩, HC.call b5, RM.below b5⟩
          rintro x_ wx HCx ⟨A5, n5, c5, rfl, -, -, -, -⟩
          clear HCx
          simp only [Act.put, List.setIfInBounds_toArray, List.set_cons_succ, List.set_cons_zero]
          refine dw_new #[.int .i64 rid, .slice A5 n5 c5] 119 73 (RBoxSlot (Mut M KL) rid rvs) (fun g => .slice (some ⟨g, 0, none⟩) 1 1) rfl rfl rfl rfl (fun wv => ?_) (fun wv HC _hrm hD hro => ?_) ?_
          · go_simp <;> rfl
          · have hsl : RowSlot (Mut M KL) rid rvs (.agg #[.int .i64 rid, .slice A5 n5 c5]) wv := deps_at hD 3 rfl (by kernel_rfl) rfl rfl
            obtain ⟨A6, n6, c6, e6, h1, h2, h3, h4⟩ := hsl
            obtain ⟨rfl, rfl, rfl⟩ : A5 = A6 ∧ n5 = n6 ∧ c5 = c6 := by
              injection e6 with e6
              simp at e6
              exact e6
            exact ⟨_, A5, n5, c5, rfl, h1, h2, h3, h4.step (by simp) (fun b hb _ => Below.heap_alloc wv _ b hb) (fun _ _ h => h), ro_block (hro _ HC.mutLt) rfl⟩
          rintro gn wg HCg hsl
          simp only [Act.put, List.setIfInBounds_toArray, List.set_cons_succ, List.set_cons_zero]
          clear hsl HCg
          refine rel_nil ?_
          rintro wx2 HX
          rintro _hrm HGW
          have hb2 : RBoxSlot (Mut M KL) rid rvs (.slice (some ⟨gn, 0, none⟩) 1 1) wx2 := (GW_on (d := 73) rfl).1 (HGW 4 _ rfl (by omega))
          clear HGW _hrm
          obtain ⟨gq, A6, n6, c6, e6, k0_, k1_, k2_, k3_, k4_⟩ := hb2
          obtain rfl : gn = gq := by injection e6 with e6; injection e6 with e6; injection e6
          clear e6
          rw [HKL.out] at HX k3_
          have k5 := hid k4_.now
          have HK0 := hid (And.intro k0_ (And.intro k1_ k2_))
          clear k4_ k0_ k1_ k2_ HF HRX KN
          have HRS := hid (show rwCells li ++ [.int .i64 rid, .slice A6 n6 c6] = rwCells (li ++ [⟨rid, A6, n6, c6, rvs⟩]) from rwCells_snoc1 _ _ _ _ _ _)
          have KA := HX.add k3_
          clear HX k3_
          have FKA := KA.facts
          simp only [World.size_alloc, World.size_drew, factsL, cellsF, Nat.reduceAdd, List.toList_toArray, List.set_cons_zero, List.set_cons_succ, List.setIfInBounds_toArray, and_true, true_and] at FKA
          go_wp2_with (at_builtin; go_must (refine wpList_appAllH KA 3 rfl Tryz.elRw k5.out rfl (.tmp 70) (.tmp 73) rfl rfl rfl (by intro z hz; simp at hz; rcases hz with rfl | rfl <;> rfl) (by omega) (by omega) ?_); intro C' cap' w6 hc6 hm6 KB; rw [HRS.out] at KB; simp only [List.set_cons_zero, List.set_cons_succ] at KB; (have F3 := KB.facts); simp only [World.size_alloc, World.size_drew, factsL, cellsF, Nat.reduceAdd, List.toList_toArray, List.set_cons_zero, List.set_cons_succ, List.setIfInBounds_toArray, and_true, true_and] at F3)
          have KD := KB.store 9 rfl 1 (.slice C' (ni + 1) cap')
          have KE := (KD.swapRo 6 rfl (vals_snoc (r := ⟨rid, A6, n6, c6, rvs⟩) (KD.ro 6 rfl) (KD.ro 0 rfl))).drop (List.sublist_cons_self _ _)
          clear KB KD FKA k5
          have HBN := hid (HBS.out.ins_ HRR.out HGG.out HRN.out (y := ⟨rid, A6, n6, c6, rvs⟩) rfl ⟨HRO.out.id, HK0.out.2.1, HK0.out.2.2, HRO.out.vs⟩)
          have KZ := KE.drop (List.Sublist.cons _ (List.sublist_cons_self _ _))
          go_roundw
          case rel => exact ⟨j + 1, ni + 1, cap', nu, cu, C', U, _, lu, by omega, by first | rfl | go_num, by omega, by omega, HBN, KZ⟩
          case measure => simp [intOf]; omega
      | some o =>
        rw [hgt] at rg hng
        simp only [Option.getD_some] at rg hng
        have HGG := hid hgt
        have HGC := hid (And.intro hng (And.intro hgc1 hgc2))
        have HGO := hid (show ∀ v ∈ o, v.ok from fun v hv => by
          have h1 := getR_out hgt
          rw [← HAR.out] at h1
          obtain ⟨z, hz, hzr⟩ := List.mem_map.1 h1
          have h2 : z.vs = o := congrArg Prod.snd hzr
          exact (HAO.out z hz).vs v (by rw [h2]; exact hv))
        simp only [Option.isSome_some]
        have hng6 : ng ≤ 9223372036854775807 := by omega
        clear hgt hng hgc1 hgc2
        have K3 := K2.add rg
        clear K2 rg F2
        have F3 := K3.facts
        simp only [World.size_alloc, World.size_drew, factsL, cellsF, Nat.reduceAdd, List.toList_toArray, List.set_cons_zero, List.set_cons_succ, List.setIfInBounds_toArray, and_true, true_and] at F3
        go_wp2_with fail
        refine (rcmprows_any _ _ K3.mutLt Ag ng cg o rA rn rc rvs (K3.ro 0 rfl) (K3.ro 2 rfl) (by omega) (by omega)).mono ?_
        rintro e w7 ⟨⟨r0, rfl, hr0⟩, b7⟩
        have K6 := K3.call b7
        clear K3 b7 F3
        have F6 := K6.facts
        simp only [World.size_alloc, World.size_drew, factsL, cellsF, Nat.reduceAdd, List.toList_toArray, List.set_cons_zero, List.set_cons_succ, List.setIfInBounds_toArray, and_true, true_and] at F6
        by_cases hov : o = rvs
        · obtain rfl : r0 = 0 := hr0.2 hov
          have HBN := hid (HBS.out.same HRR.out HGG.out hov)
          clear hr0 hov
          have KZ := K6.drop (List.Sublist.cons _ (List.Sublist.cons _ (List.sublist_cons_self _ _)))
          go_wp2_with fail
          go_roundw
          case rel => exact ⟨j + 1, ni, ci, nu, cu, I, U, li, lu, by omega, by first | rfl | go_num, by omega, by omega, HBN, KZ⟩
          case measure => simp [intOf]; omega
        · have hrz : (r0 != 0) = true := by simpa using fun h => hov (hr0.1 h)
          have HNE := hid hov
          clear hr0 hov
          obtain ⟨KL, hKL, KN⟩ := K6.name
          have HF : Hid (∀ wv, Hold M none w wv KL → (wv.cell? ⟨g6, 3, none⟩ = some (.slice U nu cu) ∧ g6 < wv.heap.size) ∧ wv.cell? ⟨g8, 0, none⟩ = some (.int .i64 rid) ∧ wv.cell? ⟨g8, 1, none⟩ = some (.slice rA rn rc) ∧ g8 < wv.heap.size) := hid fun wv HC => by
            rw [hKL] at HC
            have y1 := HC.blk_ 9 rfl
            have y2 := HC.cst_ 1 rfl
            exact ⟨⟨cell_of_row _ _ 3 _ _ _ y1, Blk.lt y1⟩, cell_of_row _ _ 0 _ _ _ y2, cell_of_row _ _ 1 _ _ _ y2, Blk.lt y2⟩
          have HRX : Hid (∀ wv, Hold M none w wv KL → Ro wv (Mut M KL) (VlsIn Ag ng o) ∧ Ro wv (Mut M KL) (VlsIn rA rn rvs)) := hid fun wv HC => by
            rw [hKL] at HC ⊢
            exact ⟨HC.ro 0 rfl, HC.ro 2 rfl⟩
          have HKL := hid hKL
          clear hKL K6
          go_wp2_with fail
          refine wp_region_any (by kernel_rfl) ?_
          refine wpAny_hold 10 119 (KL) (spL [(88, VlsSlot (Mut M KL) rvs), (89, PrSlot (Mut M KL) (rid, o, rvs)), (90, PrsSlot (Mut M KL) [(rid, o, rvs)])]) (by kernel_rfl) (by kernel_rfl) (by kernel_rfl) rfl ?_ (KN.drew) ?_
          · exact stays_cons vlsSlot_mono (stays_cons prSlot_mono (stays_cons prsSlot_mono (stays_nil _)))
          simp only [List.take_succ_cons, List.take_zero, List.drop_succ_cons, List.drop_zero, Act.put, List.getElem_toArray, List.getElem_cons_zero, List.getElem_cons_succ, List.setIfInBounds_toArray, List.set_cons_succ, List.set_cons_zero]
          refine dw_val rfl rfl rfl ?_; apply Exists.intro; refine ⟨fun wv HC => ?_, ?_⟩
          ·  go_simp <;> rfl
          simp only [Act.put, List.setIfInBounds_toArray, List.set_cons_succ, List.set_cons_zero]
          refine dw_val rfl rfl rfl ?_; apply Exists.intro; refine ⟨fun wv HC => ?_, ?_⟩
          · obtain ⟨⟨f0, f1⟩, f2, f3, f4⟩ := HF.out _ HC; go_simp <;> rfl
          simp only [Act.put, List.setIfInBounds_toArray, List.set_cons_succ, List.set_cons_zero]
          refine dw_val rfl rfl rfl ?_; apply Exists.intro; refine ⟨fun wv HC => ?_, ?_⟩
          ·  go_simp <;> rfl
          simp only [Act.put, List.setIfInBounds_toArray, List.set_cons_succ, List.set_cons_zero]
          refine dw_val rfl rfl rfl ?_; apply Exists.intro; refine ⟨fun wv HC => ?_, ?_⟩
          · obtain ⟨⟨f0, f1⟩, f2, f3, f4⟩ := HF.out _ HC; go_simp <;> rfl
          simp only [Act.put, List.setIfInBounds_toArray, List.set_cons_succ, List.set_cons_zero]
          refine dw_val rfl rfl rfl ?_; apply Exists.intro; refine ⟨fun wv HC => ?_, ?_⟩
          ·  go_simp <;> rfl
          simp only [Act.put, List.setIfInBounds_toArray, List.set_cons_succ, List.set_cons_zero]
          refine dw_val rfl rfl rfl ?_; apply Exists.intro; refine ⟨fun wv HC => ?_, ?_⟩
          ·  go_simp <;> rfl
          simp only [Act.put, List.setIfInBounds_toArray, List.set_cons_succ, List.set_cons_zero]
          refine dw_val rfl rfl rfl ?_; apply Exists.intro; refine ⟨fun wv HC => ?_, ?_⟩
          · obtain ⟨⟨f0, f1⟩, f2, f3, f4⟩ := HF.out _ HC; go_simp <;> rfl
          simp only [Act.put, List.setIfInBounds_toArray, List.set_cons_succ, List.set_cons_zero]
          refine dw_callR 88 (VlsSlot (Mut M KL) rvs) (f := 56) (args := #[.slice rA rn rc]) rfl rfl rfl rfl (fun wv => ?_) (fun wv HC hrm hD => ?_) ?_
          · go_simp <;> rfl
          · refine (copyVls_any _ wv HC.mutLt rA rn rc rvs (HRX.out _ HC).2 (by omega)).mono ?_
            rintro e w5 ⟨A5, n5, c5, rfl, h50, h51, h52, h53, b5⟩
            exact ⟨_, rfl, ⟨A5, n5, c5, rfl, h50, h51, h52, h53⟩, HC.call b5, RM.below b5⟩
          rintro x_ wx HCx ⟨A94, n94, c94, rfl, -, -, -, -⟩
          clear HCx
          simp only [Act.put, List.setIfInBounds_toArray, List.set_cons_succ, List.set_cons_zero]
          refine dw_valC 89 (PrSlot (Mut M KL) (rid, o, rvs)) rfl rfl rfl rfl (.agg #[.int .i64 rid, .slice Ag ng cg, .slice A94 n94 c94]) (fun wv HC => ?_) (fun wv HC hD => ?_) ?_
          · go_simp <;> rfl
          · have hb : VlsSlot (Mut M KL) rvs (.slice A94 n94 c94) wv := deps_at hD 7 rfl (by kernel_rfl) rfl rfl
            exact prSlot_of HRO.out.id HGO.out HRO.out.vs ⟨Ag, ng, cg, rfl, HGC.out.1, HGC.out.2.1, HGC.out.2.2, (HRX.out _ HC).1⟩ hb
          simp only [Act.put, List.setIfInBounds_toArray, List.set_cons_succ, List.set_cons_zero]
          refine dw_new #[.int .i64 rid, .slice Ag ng cg, .slice A94 n94 c94] 110 90 (PrsSlot (Mut M KL) [(rid, o, rvs)]) (fun g => .slice (some ⟨g, 0, none⟩) 1 1) rfl rfl rfl rfl (fun wv => ?_) (fun wv HC _hrm hD hro => ?_) ?_
          · go_simp <;> rfl
          · have hrr := RM.alloc (Mut M KL) wv (.cells #[.int .i64 rid, .slice Ag ng cg, .slice A94 n94 c94] 110)
            have h0 : PrSlot (Mut M KL) (rid, o, rvs) (.agg #[.int .i64 rid, .slice Ag ng cg, .slice A94 n94 c94]) wv := deps_at hD 8 rfl (by kernel_rfl) rfl rfl
            replace h0 := prSlot_mono _ _ _ hrr h0
            exact prsSlot_one (hro _ HC.mutLt) (fun i j k e1 => Value.agg.inj e1) h0
          rintro g96 wg HCg hsl
          simp only [Act.put, List.setIfInBounds_toArray, List.set_cons_succ, List.set_cons_zero]
          clear hsl HCg
          refine rel_nil ?_
          rintro wx5 HX5
          rintro _hrm HGW
          have hb2 : PrsSlot (Mut M KL) [(rid, o, rvs)] (.slice (some ⟨g96, 0, none⟩) 1 1) wx5 := (GW_on (d := 90) rfl).1 (HGW 9 _ rfl (by omega))
          clear HGW _hrm
          obtain ⟨Aq, nq, cq, pq, heq, -, -, hpm, hpok, hpr⟩ := hb2
          obtain ⟨rfl, rfl, rfl⟩ : some ⟨g96, 0, none⟩ = Aq ∧ 1 = nq ∧ 1 = cq := by injection heq with h1 h2 h3; exact ⟨h1, h2, h3⟩
          clear heq
          obtain ⟨pr, rfl, hpu⟩ : ∃ pr, pq = [pr] ∧ pr.upd = (rid, o, rvs) := by
            obtain ⟨pr, h1, h2⟩ := List.map_eq_singleton_iff.1 hpm
            exact ⟨pr, h1, h2⟩
          rw [HKL.out] at HX5 hpr
          have HPE := hid (show prCells lu ++ prCells [pr] = prCells (lu ++ [pr]) by simp [prCells])
          have KA := HX5.add (hpr.imp fun w h => (h.2 : PrVals [pr] w))
          have k5 := hid ((hpr.imp fun w h => h.1).now)
          have HBN := hid (HBS.out.turn HRR.out HGG.out HNE.out hpu (hpok pr (List.mem_singleton.2 rfl)))
          clear HX5 hpr hpm hpok hpu HF HRX KN
          have FKA := KA.facts
          simp only [World.size_alloc, World.size_drew, factsL, cellsF, Nat.reduceAdd, List.toList_toArray, List.set_cons_zero, List.set_cons_succ, List.setIfInBounds_toArray, and_true, true_and] at FKA
          go_wp2_with (at_builtin; go_must (refine wpList_appAllH KA 6 rfl Tryz.elPr k5.out rfl (.tmp 82) (.tmp 90) rfl rfl rfl (prCells_one _) (by omega) (by omega) ?_); intro C' cap' w6 hc6 hm6 KB; rw [HPE.out] at KB; simp only [List.set_cons_zero, List.set_cons_succ] at KB; (have FB := KB.facts); simp only [World.size_alloc, World.size_drew, factsL, cellsF, Nat.reduceAdd, List.toList_toArray, List.set_cons_zero, List.set_cons_succ, List.setIfInBounds_toArray, and_true, true_and] at FB)
          have KD := KB.store 10 rfl 3 (.slice C' (nu + 1) cap')
          have KZ := (KD.swapRo 9 rfl (prVals_app (KD.ro 9 rfl) (KD.ro 0 rfl))).drop (List.Sublist.cons _ (List.Sublist.cons _ (List.Sublist.cons _ (List.sublist_cons_self _ _))))
          clear KB KD FKA k5
          go_roundw
          case rel => exact ⟨j + 1, ni, ci, nu + 1, cap', I, C', li, _, by omega, by first | rfl | go_num, by omega, by omega, HBN, KZ⟩
          case measure => simp [intOf]; omega
    · obtain rfl : j = bm := by omega
      have hd : decide ((j : Int) < (j : Int)) = false := by simp
      have HBJ := hid (show b.rs.length ≤ j by rw [← HBR.out, List.length_map, HBL.out]; exact Nat.le_refl _)
      clear hlt
      have F1 := H.facts
      simp only [World.size_alloc, World.size_drew, factsL, cellsF, Nat.reduceAdd, List.toList_toArray, List.set_cons_zero, List.set_cons_succ, List.setIfInBounds_toArray, and_true, true_and] at F1
      go_wp2_with fail
      clear F1
      go_loopw [97] (fun iv wr => ∃ (k nd cd : Nat) (D : Option Addr) (ld : List Rw), k ≤ am ∧ iv = .int .i64 k ∧ nd ≤ k ∧ Hid (RSt a b j k li ld lu) ∧ Hold M none w wr [.own 119 2 (.slice I ni ci) ni (rwCells li), .own 119 2 (.slice D nd cd) nd (rwCells ld), .own 110 3 (.slice U nu cu) nu (prCells lu), .ro (ValsIn li), .ro (ValsIn ld), .ro (PrVals lu), .blk g6 44 #[.string a.nm, .slice I ni ci, .slice D nd cd, .slice U nu cu], .blk g4 44 #[.string ⟨#[]⟩, .slice none 0 0, .slice none 0 0, .slice none 0 0], .cst g3 58 #[.string b.nm, .slice bA bn bc, .int .i64 b.nx, .slice bB j bd], .cst g2 58 #[.string a.nm, .slice aA an ac, .int .i64 a.nx, .slice aB am ad], .ro (ColsIn aA an a.cs), .ro (RwsIn aB am la), .ro (ColsIn bA bn b.cs), .ro (RwsIn bB j lb)]) (fun iv _ => am - (intOf iv).toNat)
      case atStart => exact ⟨0, 0, 0, none, [], by omega, rfl, by omega, HBS, H⟩
      case round =>
        clear H HBS
        obtain ⟨k, nd, cd, D, ld, hk, rfl, hnd, HBS, H⟩ := hrel
        by_cases hlt : k < am
        · have hd5 : decide ((k : Int) < (am : Int)) = true := by simp; omega
          have k0 : (0 : Int) ≤ (k : Int) := by omega
          have k1 : (k : Int) < (am : Int) := by omega
          obtain ⟨x, hx⟩ := get_of HAL.out hlt
          have HXX := hid (show a.rs[k]? = some x.row by rw [← HAR.out, List.getElem?_map, hx]; rfl)
          have HXO := hid (HAO.out x (List.mem_of_getElem? hx))
          have hxn6 := HSA.out x (List.mem_of_getElem? hx)
          obtain ⟨bx, ox, rfl, hbx', x0, x1, _⟩ := (H.ro 11 rfl).now.at_ hx
          have hxx : Ro wr _ (VlsIn x.A x.n x.vs) := (H.ro 11 rfl).imp fun w2 h2 => h2.2 x (List.mem_of_getElem? hx)
          clear hx
          obtain ⟨xid, xA, xn, xc, xvs⟩ := x
          dsimp only at *
          have K1 := (H.add hxx).alloc_cst #[.int .i64 xid, .slice xA xn xc] 119
          clear H hxx
          obtain ⟨gx, hgx⟩ : ∃ g, g = wr.heap.size := ⟨_, rfl⟩
          rw [← hgx] at K1
          have F1 := K1.facts
          simp only [World.size_alloc, World.size_drew, factsL, cellsF, Nat.reduceAdd, List.toList_toArray, List.set_cons_zero, List.set_cons_succ, List.setIfInBounds_toArray, and_true, true_and] at F1
          go_wp2_with fail
          rw [← hgx]
          have HGX2 := hid hgx
          clear hgx x0 x1
          have hg := rtget_any _ _ K1.mutLt (.string b.nm) (.slice bA bn bc) (.int .i64 b.nx) bB j bd lb xid (K1.ro 15 rfl) (by omega) (fun r hr => by have := HSB.out r hr; omega)
          rw [HBR.out] at hg
          refine hg.mono ?_
          clear hg
          rintro e w6 ⟨Ag, ng, cg, rfl, -, -, -, -, bg⟩
          have K2 := K1.call bg
          clear K1 bg F1
          have F2 := K2.facts
          simp only [World.size_alloc, World.size_drew, factsL, cellsF, Nat.reduceAdd, List.toList_toArray, List.set_cons_zero, List.set_cons_succ, List.setIfInBounds_toArray, and_true, true_and] at F2
          cases hgt : getR b.rs xid with
          | none =>
            have HGG := hid hgt
            simp only [Option.isSome_none]
            clear hgt
            obtain ⟨KL, hKL, KN⟩ := K2.name
            have HF : Hid (∀ wv, Hold M none w wv KL → (wv.cell? ⟨g6, 2, none⟩ = some (.slice D nd cd) ∧ g6 < wv.heap.size) ∧ wv.cell? ⟨gx, 0, none⟩ = some (.int .i64 xid) ∧ wv.cell? ⟨gx, 1, none⟩ = some (.slice xA xn xc) ∧ gx < wv.heap.size) := hid fun wv HC => by
              rw [hKL] at HC
              have y1 := HC.blk_ 8 rfl
              have y2 := HC.cst_ 0 rfl
              exact ⟨⟨cell_of_row _ _ 2 _ _ _ y1, Blk.lt y1⟩, cell_of_row _ _ 0 _ _ _ y2, cell_of_row _ _ 1 _ _ _ y2, Blk.lt y2⟩
            have HRX : Hid (∀ wv, Hold M none w wv KL → Ro wv (Mut M KL) (VlsIn xA xn xvs)) := hid fun wv HC => by
              rw [hKL] at HC ⊢
              exact HC.ro 1 rfl
            have HKL := hid hKL
            clear hKL K2
            go_wp2_with fail
            refine wp_region_any (by kernel_rfl) ?_
            refine wpAny_hold 5 119 (KL) (spL [(113, RowSlot (Mut M KL) xid xvs), (114, RBoxSlot (Mut M KL) xid xvs)]) (by kernel_rfl) (by kernel_rfl) (by kernel_rfl) rfl ?_ (KN.drew) ?_
            · exact stays_cons rowSlot_mono (stays_cons rboxSlot_mono (stays_nil _))
            simp only [List.take_succ_cons, List.take_zero, List.drop_succ_cons, List.drop_zero, Act.put, List.getElem_toArray, List.getElem_cons_zero, List.getElem_cons_succ, List.setIfInBounds_toArray, List.set_cons_succ, List.set_cons_zero]
            refine dw_val rfl rfl rfl ?_; apply Exists.intro; refine ⟨fun wv HC => ?_, ?_⟩
            ·  go_simp <;> rfl
            simp only [Act.put, List.setIfInBounds_toArray, List.set_cons_succ, List.set_cons_zero]
            refine dw_val rfl rfl rfl ?_; apply Exists.intro; refine ⟨fun wv HC => ?_, ?_⟩
            · obtain ⟨⟨f0, f1⟩, f2, f3, f4⟩ := HF.out _ HC; go_simp <;> rfl
            simp only [Act.put, List.setIfInBounds_toArray, List.set_cons_succ, List.set_cons_zero]
            refine dw_val rfl rfl rfl ?_; apply Exists.intro; refine ⟨fun wv HC => ?_, ?_⟩
            · obtain ⟨⟨f0, f1⟩, f2, f3, f4⟩ := HF.out _ HC; go_simp <;> rfl
            simp only [Act.put, List.setIfInBounds_toArray, List.set_cons_succ, List.set_cons_zero]
            refine dw_callR 113 (RowSlot (Mut M KL) xid xvs) (f := 61) (args := #[.agg #[.int .i64 xid, .slice xA xn xc]]) rfl rfl rfl rfl (fun wv => ?_) (fun wv HC hrm hD => ?_) ?_
            · go_simp <;> rfl
            · refine (rcopyrow_any _ wv HC.mutLt xid xA xn xc xvs (HRX.out _ HC) (by omega)).mono ?_
              rintro e w5 ⟨A5, n5, c5, rfl, h50, h51, h52, h53, b5⟩
              exact ⟨_, rfl, ⟨A5, n5, c5, rfl, h50, h51, h52, h53⟩, HC.call b5, RM.below b5⟩
            rintro x_ wx HCx ⟨A5, n5, c5, rfl, -, -, -, -⟩
            clear HCx
            simp only [Act.put, List.setIfInBounds_toArray, List.set_cons_succ, List.set_cons_zero]
            refine dw_new #[.int .i64 xid, .slice A5 n5 c5] 119 114 (RBoxSlot (Mut M KL) xid xvs) (fun g => .slice (some ⟨g, 0, none⟩) 1 1) rfl rfl rfl rfl (fun wv => ?_) (fun wv HC _hrm hD hro => ?_) ?_
            · go_simp <;> rfl
            · have hsl : RowSlot (Mut M KL) xid xvs (.agg #[.int .i64 xid, .slice A5 n5 c5]) wv := deps_at hD 3 rfl (by kernel_rfl) rfl rfl
              obtain ⟨A6, n6, c6, e6, h1, h2, h3, h4⟩ := hsl
              obtain ⟨rfl, rfl, rfl⟩ : A5 = A6 ∧ n5 = n6 ∧ c5 = c6 := by
                injection e6 with e6
                simp at e6
                exact e6
              exact ⟨_, A5, n5, c5, rfl, h1, h2, h3, h4.step (by simp) (fun b hb _ => Below.heap_alloc wv _ b hb) (fun _ _ h => h), ro_block (hro _ HC.mutLt) rfl⟩
            rintro gn wg HCg hsl
            simp only [Act.put, List.setIfInBounds_toArray, List.set_cons_succ, List.set_cons_zero]
            clear hsl HCg
            refine rel_nil ?_
            rintro wx2 HX
            rintro _hrm HGW
            have hb2 : RBoxSlot (Mut M KL) xid xvs (.slice (some ⟨gn, 0, none⟩) 1 1) wx2 := (GW_on (d := 114) rfl).1 (HGW 4 _ rfl (by omega))
            clear HGW _hrm
            obtain ⟨gq, A6, n6, c6, e6, k0_, k1_, k2_, k3_, k4_⟩ := hb2
            obtain rfl : gn = gq := by injection e6 with e6; injection e6 with e6; injection e6
            clear e6
            rw [HKL.out] at HX k3_
            have k5 := hid k4_.now
            have HK0 := hid (And.intro k0_ (And.intro k1_ k2_))
            clear k4_ k0_ k1_ k2_ HF HRX KN
            have HRS := hid (show rwCells ld ++ [.int .i64 xid, .slice A6 n6 c6] = rwCells (ld ++ [⟨xid, A6, n6, c6, xvs⟩]) from rwCells_snoc1 _ _ _ _ _ _)
            have KA := HX.add k3_
            clear HX k3_
            have FKA := KA.facts
            simp only [World.size_alloc, World.size_drew, factsL, cellsF, Nat.reduceAdd, List.toList_toArray, List.set_cons_zero, List.set_cons_succ, List.setIfInBounds_toArray, and_true, true_and] at FKA
            go_wp2_with (at_builtin; go_must (refine wpList_appAllH KA 4 rfl Tryz.elRw k5.out rfl (.tmp 111) (.tmp 114) rfl rfl rfl (by intro z hz; simp at hz; rcases hz with rfl | rfl <;> rfl) (by omega) (by omega) ?_); intro C' cap' w6 hc6 hm6 KB; rw [HRS.out] at KB; simp only [List.set_cons_zero, List.set_cons_succ] at KB; (have F3 := KB.facts); simp only [World.size_alloc, World.size_drew, factsL, cellsF, Nat.reduceAdd, List.toList_toArray, List.set_cons_zero, List.set_cons_succ, List.setIfInBounds_toArray, and_true, true_and] at F3)
            have KD := KB.store 9 rfl 2 (.slice C' (nd + 1) cap')
            have KE := (KD.swapRo 7 rfl (vals_snoc (r := ⟨xid, A6, n6, c6, xvs⟩) (KD.ro 7 rfl) (KD.ro 0 rfl))).drop (List.sublist_cons_self _ _)
            clear KB KD FKA k5
            have HBN := hid (HBS.out.left HXX.out HGG.out (y := ⟨xid, A6, n6, c6, xvs⟩) rfl ⟨HXO.out.id, HK0.out.2.1, HK0.out.2.2, HXO.out.vs⟩)
            have KZ := KE.drop (List.Sublist.cons _ (List.sublist_cons_self _ _))
            go_roundw
            case rel => exact ⟨k + 1, nd + 1, cap', C', _, by omega, by first | rfl | go_num, by omega, HBN, KZ⟩
            case measure => simp [intOf]; omega
          | some v =>
            have HBN := hid (HBS.out.keep HXX.out hgt)
            simp only [Option.isSome_some]
            clear hgt
            have KZ := K2.drop (List.Sublist.cons _ (List.sublist_cons_self _ _))
            go_wp2_with fail
            go_roundw
            case rel => exact ⟨k + 1, nd, cd, D, ld, by omega, by first | rfl | go_num, by omega, HBN, KZ⟩
            case measure => simp [intOf]; omega
        · obtain rfl : k = am := by omega
          have hd5 : decide ((k : Int) < (k : Int)) = false := by simp
          have HFIN := hid (HBS.out.fin HBJ.out (by rw [← HAR.out, List.length_map, HAL.out]; exact Nat.le_refl _))
          have F := H.facts
          simp only [World.size_alloc, World.size_drew, factsL, cellsF, Nat.reduceAdd, List.toList_toArray, List.set_cons_zero, List.set_cons_succ, List.setIfInBounds_toArray, and_true, true_and] at F
          obtain ⟨hi1, hi2, _⟩ := own_caps (H.get 0 rfl)
          obtain ⟨hd1, hd2, _⟩ := own_caps (H.get 1 rfl)
          obtain ⟨hu1, hu2, _⟩ := own_caps (H.get 2 rfl)
          have KS := H.sealRow 0 rfl
          simp only [List.set_cons_zero, List.set_cons_succ] at KS
          have KS2 := KS.sealRow 1 rfl
          simp only [List.set_cons_zero, List.set_cons_succ] at KS2
          have KS3 := KS2.sealRow 2 rfl
          simp only [List.set_cons_zero, List.set_cons_succ] at KS3
          have KN := (((KS3.store 7 rfl 0 (.string a.nm)).store 7 rfl 1 (.slice I ni ci)).store 7 rfl 2 (.slice D nd cd)).store 7 rfl 3 (.slice U nu cu)
          have r1 := (KN.roOut 0 rfl).and (KN.roOut 3 rfl)
          have r2 := (KN.roOut 1 rfl).and (KN.roOut 4 rfl)
          have r3 := (KN.roOut 2 rfl).and (KN.roOut 5 rfl)
          have NK := H.nes
          simp only [nesL, neF, and_true, true_and] at NK
          clear KS KS2 KS3 H
          go_wp2_with fail
          exact bodyPost_ret (v := .tuple #[.agg #[.string a.nm, .slice I ni ci, .slice D nd cd, .slice U nu cu], .bool true]) (by simp [results, Tryz.results17, go_sem, F, NK]) rfl ⟨_, by rw [HFIN.out], by rw [HFIN.out]; exact ⟨I, ni, ci, D, nd, cd, U, nu, cu, li, ld, lu, rfl, ⟨hi1, hi2⟩, ⟨hd1, hd2⟩, ⟨hu1, hu2⟩, r1, r2, r3, HBS.out.ok1, HBS.out.ok2, HBS.out.ok3, rfl, rfl, rfl⟩, KN.below⟩
end Go.Proofs.YtedogodccblfeaaGreatDoor

namespace Go.Proofs.YtedogodccblfeaaGreatDoor
open Go.RowKit
set_option linter.unusedVariables false
set_option linter.unusedSimpArgs false

theorem own_apart {w : World} {M : Nat → Prop} {b0 g : Nat} (hM : ∀ b, M b → b < b0) {e : TypeId} {size n : Nat} {v : Value} {xs : List Value} (ho : w.ownsRow b0 e size v n xs) {t : TypeId} {cs : Array Value} (hg : w.heap[g]? = some (.cells cs t (0, 0))) (hte : t ≠ e) : Ro w (fun b => b = g ∨ M b) (fun w => w.ownsRow b0 e size v n xs) := fun w2 h1 h2 => by
  refine ⟨ho.1, ?_⟩
  rcases ho.2 with hn | ⟨g2, cap, cur, hv, hb, hh, rest⟩
  · exact .inl hn
  · refine .inr ⟨g2, cap, cur, hv, hb, (h2 g2 (Blk.lt (t := e) (cs := cur) hh) ?_).trans hh, rest⟩
    rintro (rfl | hm)
    · rw [hg] at hh
      injection hh with hh
      injection hh with _ hh
      exact hte hh
    · have := hM g2 hm; omega
set_option maxHeartbeats 16000000 in
set_option maxRecDepth 100000 in
theorem rcopylog_any (M : Nat → Prop) (w : World) (hM : ∀ b, M b → b < w.heap.size) (A : Option Addr) (n c : Nat) (N K : Nat) (hN : N ≤ 1000000) (hK : K ≤ 4398046511104) (l : List Ue) (hok : ∀ x ∈ l, x.good N K) (hD : Ro w M (UesIn A n l)) (hn : n ≤ 1000000) :
    Calls Tryz.prog 124 #[.slice A n c] w fun e w' => UesOwn w M N K (l.map Ue.ud) e w' := by
  have HL := hid hD.now.len
  have HOK := hid hok
  have HNK := hid (And.intro hN hK)
  clear hok hK
  have K0 := (((Hold.start M w hM).add (hD.less (by simp [Mut]))).add (ueVals_nil _ _)).nil 129 5
  clear hD
  go_enter Tryz.func124, Tryz.ntmps124
  go_wp2_with fail
  go_loopw [3, 13] (fun ov iv wr => ∃ (j cap : Nat) (O : Option Addr) (outs : List Ue), j ≤ n ∧ iv = .int .i64 j ∧ ov = .slice O j cap ∧ Hid (UeStep N K outs l j) ∧ Hold M none w wr [.own 129 5 (.slice O j cap) j (ueCells outs), .ro (UeVals outs), .ro (UesIn A n l)]) (fun _ iv _ => n - (intOf iv).toNat)
  case atStart => exact ⟨0, 0, none, [], by omega, rfl, rfl, hid ⟨rfl, fun r hr => nomatch hr⟩, K0⟩
  case round =>
    clear K0
    obtain ⟨j, cap, O, outs, hj, rfl, rfl, HO, H⟩ := hrel
    by_cases hlt : j < n
    · have hd : decide ((j : Int) < (n : Int)) = true := by simp; omega
      have i0 : (0 : Int) ≤ (j : Int) := by omega
      have i1 : (j : Int) < (n : Int) := by omega
      obtain ⟨x, hx⟩ := get_of HL.out hlt
      have hg := HOK.out x (List.mem_of_getElem? hx)
      have rX : Ro wr _ (UeIn x) := (H.ro 2 rfl).imp fun w2 h2 => h2.2 x (List.mem_of_getElem? hx)
      have h0 := (H.ro 2 rfl).now.at_ hx
      obtain ⟨xnm, xnx, xI, xni, xci, xD, xnd, xcd, xU, xnu, xcu, xli, xld, xlu⟩ := x
      obtain ⟨g, o, hA, hb, c0, c1, c2, c3, c4, -⟩ := h0
      dsimp only [UeIn] at rX c0 c1 c2 c3 c4
      have K1 := (((H.add (show Ro wr _ (IsIn xI xni xli) from rX.imp fun w h => h.1)).add (show Ro wr _ (RwsIn xD xnd xld) from (rX.imp fun w h => h.2.1).less (by simp [Mut, Hp.foot]))).add (show Ro wr _ (RwsIn xU xnu xlu) from (rX.imp fun w h => h.2.2).less (by simp [Mut, Hp.foot]))).alloc_cst #[.string xnm, .int .i64 xnx, .slice xI xni xci, .slice xD xnd xcd, .slice xU xnu xcu] 129
      have HXJ := hid hx
      have HGX := hid hg
      have HLI := hid (show xli.length = xni from rX.now.1.len)
      have HLxld := hid (show xld.length = xnd from rX.now.2.1.len)
      have HLxlu := hid (show xlu.length = xnu from rX.now.2.2.len)
      have HRxld := hid hg.ld
      have HRxlu := hid hg.lu
      dsimp only at HRxld HRxlu
      have hni : xni ≤ 1000000 := Nat.le_trans hg.i hN
      have hnd : xnd ≤ 1000000 := Nat.le_trans hg.d hN
      have hnu : xnu ≤ 1000000 := Nat.le_trans hg.u hN
      have hxci := hg.ci
      have hxcd := hg.cd
      have hxcu := hg.cu
      dsimp only at hxci hxcd hxcu
      clear hx hg rX H
      subst hA
      have F1 := K1.facts
      simp only [World.size_alloc, World.size_drew, factsL, cellsF, Nat.reduceAdd, List.toList_toArray, List.set_cons_zero, List.set_cons_succ, List.setIfInBounds_toArray, and_true, true_and] at F1
      obtain ⟨gx, hgx⟩ : ∃ g, g = wr.heap.size := ⟨_, rfl⟩
      rw [← hgx] at K1
      go_wp2_with fail
      rw [← hgx]
      have HGX2 := hid hgx
      clear hgx c0 c1 c2 c3 c4
      obtain ⟨KL, hKL, KN⟩ := K1.name
      have HFF : Hid (∀ wv, Hold M none w wv KL → wv.cell? ⟨gx, 0, none⟩ = some (.string xnm) ∧ wv.cell? ⟨gx, 1, none⟩ = some (.int .i64 xnx) ∧ wv.cell? ⟨gx, 2, none⟩ = some (.slice xI xni xci) ∧ gx < wv.heap.size) := hid fun wv HC => by
        rw [hKL] at HC
        have y0 := HC.cst_ 0 rfl
        exact ⟨cell_of_row _ _ 0 _ _ _ y0, cell_of_row _ _ 1 _ _ _ y0, cell_of_row _ _ 2 _ _ _ y0, Blk.lt y0⟩
      have HRX : Hid (∀ wv, Hold M none w wv KL → IsIn xI xni xli wv) := hid fun wv HC => by
        rw [hKL] at HC
        exact (HC.ro 3 rfl).now
      have HKL := hid hKL
      clear hKL K1 F1
      obtain ⟨Ha, hHa⟩ : ∃ Ha, Ha = (wr.alloc (.cells #[.string xnm, .int .i64 xnx, .slice xI xni xci, .slice xD xnd xcd, .slice xU xnu xcu] 129)).drew.heap.size := ⟨_, rfl⟩
      have HHa := hid hHa
      clear hHa
      refine wp_region_any (by kernel_rfl) ?_
      refine wpAny_hold 9 69 (KL) (spL [(23, OwnSl 3 1 Ha (iCells xli)), (6, NewSlot (Mut M KL) Ha 129 #[.string ⟨#[]⟩, .int .i64 0, .slice none 0 0, .slice none 0 0, .slice none 0 0])]) (by kernel_rfl) (by kernel_rfl) (by kernel_rfl) rfl ?_ (KN.drew) ?_
      · exact stays_cons (ownSl_mono (by rw [HHa.out]; exact KN.drew.mutLt)) (stays_cons newSlot_mono (stays_nil _))
      simp only [List.take_succ_cons, List.take_zero, List.drop_succ_cons, List.drop_zero, Act.put, List.getElem_toArray, List.getElem_cons_zero, List.getElem_cons_succ, List.setIfInBounds_toArray, List.set_cons_succ, List.set_cons_zero]
      repeat (first | (refine dw_skip rfl rfl rfl ?_; simp only [Act.put, List.setIfInBounds_toArray, List.set_cons_succ, List.set_cons_zero]) | (refine dw_val rfl rfl rfl ?_; apply Exists.intro; refine ⟨fun wv HC => ?_, ?_⟩; (focus (obtain ⟨f0, f1, f2, f3⟩ := HFF.out _ HC; go_simp <;> rfl; done)); simp only [Act.put, List.setIfInBounds_toArray, List.set_cons_succ, List.set_cons_zero]))
      refine dw_cloneO Tryz.elIntC 23 (OwnSl 3 1 Ha (iCells xli)) rfl rfl rfl rfl (.const (.slice none 0 0)) (.tmp 22) rfl rfl (A := xI) (m := xni) (c := xci) (ys := iCells xli) rfl (iCells_one _) (by omega) (by omega) (fun wv HC hD => HRX.out _ HC) (fun C9 c9 wv wv' HC hrm HC' q1 q2 ho => ⟨C9, xni, c9, rfl, by rw [iCells_len, HLI.out]; omega, q1, q2, own_base (by rw [HHa.out]; exact hrm.1) ho⟩) ?_
      rintro u wx HCx ⟨C9, n9, cap9, rfl, hn9, -, -, -⟩
      obtain rfl : xni = n9 := by rw [iCells_len, HLI.out] at hn9; omega
      clear HCx hn9
      simp only [Act.put, List.setIfInBounds_toArray, List.set_cons_succ, List.set_cons_zero]
      refine dw_val rfl rfl rfl ⟨.agg #[.string xnm, .int .i64 xnx, .slice C9 xni cap9, .slice none 0 0, .slice none 0 0], fun wv HC => ?_, ?_⟩
      · go_simp <;> first | rfl | kernel_rfl
      simp only [Act.put, List.setIfInBounds_toArray, List.set_cons_succ, List.set_cons_zero]
      refine dw_new #[.string ⟨#[]⟩, .int .i64 0, .slice none 0 0, .slice none 0 0, .slice none 0 0] 129 6 (NewSlot (Mut M KL) Ha 129 #[.string ⟨#[]⟩, .int .i64 0, .slice none 0 0, .slice none 0 0, .slice none 0 0]) (fun g => .pointer (some ⟨g, 0, none⟩)) rfl rfl rfl rfl (fun wv => ?_) (fun wv HC hrm hD hro => ?_) ?_
      · go_simp <;> rfl
      · exact ⟨_, rfl, by have := hrm.1; rw [HHa.out]; exact this, hro _ HC.mutLt⟩
      rintro g6 wg HCg hsl
      simp only [Act.put, List.setIfInBounds_toArray, List.set_cons_succ, List.set_cons_zero]
      clear hsl HCg
      refine rel_nil ?_
      rintro wx1 HX
      rintro hrm HGW
      have hos : OwnSl 3 1 Ha (iCells xli) (.slice C9 xni cap9) wx1 := (GW_on (d := 23) rfl).1 (HGW 6 _ rfl (by omega))
      have hns : NewSlot (Mut M KL) Ha 129 #[.string ⟨#[]⟩, .int .i64 0, .slice none 0 0, .slice none 0 0, .slice none 0 0] (.pointer (some ⟨g6, 0, none⟩)) wx1 := (GW_on (d := 6) rfl).1 (HGW 8 _ rfl (by omega))
      clear HGW
      obtain ⟨gq, hgq, hgH, hgB⟩ := hns
      obtain rfl : g6 = gq := by injection hgq with hgq; injection hgq with hgq; injection hgq
      clear hgq
      obtain ⟨A6, n6, c6, e6, -, k1, k2, k3⟩ := hos
      obtain ⟨rfl, rfl, rfl⟩ : C9 = A6 ∧ xni = n6 ∧ cap9 = c6 := by injection e6 with a b c; exact ⟨a, b, c⟩
      have rI := own_apart (M := Mut M KL) (by rw [HHa.out]; exact KN.drew.mutLt) k3 hgB.now (by decide)
      rw [HHa.out] at hgH
      have HB := Hold.addFreshBlk KN.drew HX hrm hgH hgB.now
      have K3 := HB.add (show Ro wx1 _ (IsIn C9 xni xli) from (rI.imp fun w2 h2 => Rd.of_own h2).less fun b hb => (mut_cons.1 hb).elim (fun hf => .inl (by have hf : some g6 = some b := hf; injection hf with hf; exact hf.symm)) .inr)
      rw [HKL.out] at K3
      have FB := K3.facts
      simp only [World.size_alloc, World.size_drew, factsL, cellsF, Nat.reduceAdd, List.toList_toArray, List.set_cons_zero, List.set_cons_succ, List.setIfInBounds_toArray, and_true, true_and] at FB
      have HC9 := hid (And.intro k1 k2)
      clear hgB hgH HX hrm HHa KN HFF HRX HKL HB e6 rI k1 k2 k3
      have K4 := ((((K3.store 1 rfl 0 (.string xnm)).store 1 rfl 1 (.int .i64 xnx)).store 1 rfl 2 (.slice C9 xni cap9)).store 1 rfl 3 (.slice none 0 0)).store 1 rfl 4 (.slice none 0 0)
      simp only [List.set_cons_zero, List.set_cons_succ, List.setIfInBounds_toArray] at K4
      have K9 := (K4.add (ro_vals_nil _ _)).nil 119 2
      clear K3 K4
      have F9 := K9.facts
      simp only [World.size_alloc, World.size_drew, factsL, cellsF, Nat.reduceAdd, List.toList_toArray, List.set_cons_zero, List.set_cons_succ, List.setIfInBounds_toArray, and_true, true_and] at F9
      go_wp2_with fail
      clear FB F9
      go_loopw [28] (fun iv wr => ∃ (k cap1 : Nat) (O1 : Option Addr) (rows : List Rw), k ≤ xnd ∧ iv = .int .i64 k ∧ Hid (rows.map Rw.row = (xld.take k).map Rw.row ∧ ∀ r ∈ rows, r.ok ∧ r.n ≤ K) ∧ Hold M none w wr [.own 119 2 (.slice O1 k cap1) k (rwCells rows), .ro (ValsIn rows), .ro (IsIn C9 xni xli), .blk g6 129 #[.string xnm, .int .i64 xnx, .slice C9 xni cap9, .slice O1 k cap1, .slice none 0 0], .cst gx 129 #[.string xnm, .int .i64 xnx, .slice xI xni xci, .slice xD xnd xcd, .slice xU xnu xcu], .ro (RwsIn xU xnu xlu), .ro (RwsIn xD xnd xld), .ro (IsIn xI xni xli), .own 129 5 (.slice O j cap) j (ueCells outs), .ro (UeVals outs), .ro (UesIn (some ⟨g, o, none⟩) n l)]) (fun iv _ => xnd - (intOf iv).toNat)
      case atStart => exact ⟨0, 0, none, [], by omega, rfl, hid ⟨rfl, fun r hr => nomatch hr⟩, K9⟩
      case round =>
        clear K9
        obtain ⟨k, cap1, O1, rows, hk, rfl, HW, H⟩ := hrel
        by_cases hlt : k < xnd
        · have hd : decide ((k : Int) < (xnd : Int)) = true := by simp; omega
          have j0 : (0 : Int) ≤ (k : Int) := by omega
          have j1 : (k : Int) < (xnd : Int) := by omega
          obtain ⟨x, hx⟩ := get_of HLxld.out hlt
          obtain ⟨b_, o_, rfl, hb, c0, c1, hxv⟩ := (H.ro 6 rfl).now.at_ hx
          have HXO := hid (HRxld.out x (List.mem_of_getElem? hx))
          have hxn : x.n ≤ 4398046511104 := Nat.le_trans HXO.out.2 HNK.out.2
          have HXL := hid (show x.vs.length = x.n from hxv.len)
          have HXG := hid hx
          have hxr : Ro wr _ (VlsIn x.A x.n x.vs) := (H.ro 6 rfl).imp fun w2 h2 => h2.2 x (List.mem_of_getElem? hx)
          clear hx hxv
          have K1 := (H.add hxr).alloc_cst #[.int .i64 x.id, .slice x.A x.n x.c] 119
          clear H hxr
          obtain ⟨gr, hgr⟩ : ∃ gr, gr = wr.heap.size := ⟨_, rfl⟩
          rw [← hgr] at K1
          have F1 := K1.facts
          simp only [World.size_alloc, World.size_drew, factsL, cellsF, Nat.reduceAdd, List.toList_toArray, List.set_cons_zero, List.set_cons_succ, List.setIfInBounds_toArray, and_true, true_and] at F1
          go_wp2_with fail
          rw [← hgr]
          have HGR := hid hgr
          clear hgr c0 c1 F1
          obtain ⟨KL, hKL, KN⟩ := K1.name
          have HF : Hid (∀ wv, Hold M none w wv KL → wv.cell? ⟨gr, 0, none⟩ = some (.int .i64 x.id) ∧ wv.cell? ⟨gr, 1, none⟩ = some (.slice x.A x.n x.c) ∧ gr < wv.heap.size ∧ wv.cell? ⟨g6, 3, none⟩ = some (.slice O1 k cap1) ∧ g6 < wv.heap.size) := hid fun wv HC => by
            rw [hKL] at HC
            have y0 := HC.cst_ 0 rfl
            have y1 := HC.blk_ 5 rfl
            exact ⟨cell_of_row _ _ 0 _ _ _ y0, cell_of_row _ _ 1 _ _ _ y0, Blk.lt y0, cell_of_row _ _ 3 _ _ _ y1, Blk.lt y1⟩
          have HRX : Hid (∀ wv, Hold M none w wv KL → Ro wv (Mut M KL) (VlsIn x.A x.n x.vs)) := hid fun wv HC => by
            rw [hKL] at HC ⊢
            exact HC.ro 1 rfl
          have HKL := hid hKL
          clear hKL K1
          go_wp2_with fail
          refine wp_region_any (by kernel_rfl) ?_
          refine wpAny_hold 9 69 (KL) (spL [(38, VlsSlot (Mut M KL) x.vs), (39, RowSlot (Mut M KL) x.id x.vs), (40, RBoxSlot (Mut M KL) x.id x.vs)]) (by kernel_rfl) (by kernel_rfl) (by kernel_rfl) rfl ?_ (KN.drew) ?_
          · exact stays_cons vlsSlot_mono (stays_cons rowSlot_mono (stays_cons rboxSlot_mono (stays_nil _)))
          simp only [List.take_succ_cons, List.take_zero, List.drop_succ_cons, List.drop_zero, Act.put, List.getElem_toArray, List.getElem_cons_zero, List.getElem_cons_succ, List.setIfInBounds_toArray, List.set_cons_succ, List.set_cons_zero]
          refine dw_val rfl rfl rfl ?_; apply Exists.intro; refine ⟨fun wv HC => ?_, ?_⟩
          ·  go_simp <;> rfl
          simp only [Act.put, List.setIfInBounds_toArray, List.set_cons_succ, List.set_cons_zero]
          refine dw_val rfl rfl rfl ?_; apply Exists.intro; refine ⟨fun wv HC => ?_, ?_⟩
          · obtain ⟨f0, f1, f2, f3, f4⟩ := HF.out _ HC; go_simp <;> rfl
          simp only [Act.put, List.setIfInBounds_toArray, List.set_cons_succ, List.set_cons_zero]
          refine dw_val rfl rfl rfl ?_; apply Exists.intro; refine ⟨fun wv HC => ?_, ?_⟩
          ·  go_simp <;> rfl
          simp only [Act.put, List.setIfInBounds_toArray, List.set_cons_succ, List.set_cons_zero]
          refine dw_val rfl rfl rfl ?_; apply Exists.intro; refine ⟨fun wv HC => ?_, ?_⟩
          · obtain ⟨f0, f1, f2, f3, f4⟩ := HF.out _ HC; go_simp <;> rfl
          simp only [Act.put, List.setIfInBounds_toArray, List.set_cons_succ, List.set_cons_zero]
          refine dw_val rfl rfl rfl ?_; apply Exists.intro; refine ⟨fun wv HC => ?_, ?_⟩
          ·  go_simp <;> rfl
          simp only [Act.put, List.setIfInBounds_toArray, List.set_cons_succ, List.set_cons_zero]
          refine dw_val rfl rfl rfl ?_; apply Exists.intro; refine ⟨fun wv HC => ?_, ?_⟩
          · obtain ⟨f0, f1, f2, f3, f4⟩ := HF.out _ HC; go_simp <;> rfl
          simp only [Act.put, List.setIfInBounds_toArray, List.set_cons_succ, List.set_cons_zero]
          refine dw_callR 38 (VlsSlot (Mut M KL) x.vs) (f := 56) (args := #[.slice x.A x.n x.c]) rfl rfl rfl rfl (fun wv => ?_) (fun wv HC hrm hD => ?_) ?_
          · go_simp <;> rfl
          · refine (copyVls_any _ wv HC.mutLt x.A x.n x.c x.vs (HRX.out _ HC) hxn).mono ?_
            rintro e w5 ⟨A5, n5, c5, rfl, h50, h51, h52, h53, b5⟩
            exact ⟨_, rfl, ⟨A5, n5, c5, rfl, h50, h51, h52, h53⟩, HC.call b5, RM.below b5⟩
          rintro x_ wx HCx ⟨A5, n5, c5, rfl, h50, h51, h52, h53⟩
          simp only [Act.put, List.setIfInBounds_toArray, List.set_cons_succ, List.set_cons_zero]
          have H50 := hid h50
          clear HCx h53 h50
          refine dw_valC 39 (RowSlot (Mut M KL) x.id x.vs) rfl rfl rfl rfl (.agg #[.int .i64 x.id, .slice A5 n5 c5]) (fun wv HC => ?_) (fun wv HC hD => ?_) ?_
          · go_simp <;> rfl
          · have hsl : VlsSlot (Mut M KL) x.vs (.slice A5 n5 c5) wv := deps_at hD 6 rfl (by kernel_rfl) rfl rfl
            obtain ⟨A6, n6, c6, e6, h1, h2, h3, h4⟩ := hsl
            exact ⟨A6, n6, c6, by rw [e6], h1, h2, h3, h4⟩
          simp only [Act.put, List.setIfInBounds_toArray, List.set_cons_succ, List.set_cons_zero]
          refine dw_new #[.int .i64 x.id, .slice A5 n5 c5] 119 40 (RBoxSlot (Mut M KL) x.id x.vs) (fun g => .slice (some ⟨g, 0, none⟩) 1 1) rfl rfl rfl rfl (fun wv => ?_) (fun wv HC _hrm hD hro => ?_) ?_
          · go_simp <;> rfl
          · have hsl : RowSlot (Mut M KL) x.id x.vs (.agg #[.int .i64 x.id, .slice A5 n5 c5]) wv := deps_at hD 7 rfl (by kernel_rfl) rfl rfl
            obtain ⟨A6, n6, c6, e6, h1, h2, h3, h4⟩ := hsl
            obtain ⟨rfl, rfl, rfl⟩ : A5 = A6 ∧ n5 = n6 ∧ c5 = c6 := by
              injection e6 with e6
              simp at e6
              exact e6
            exact ⟨_, A5, n5, c5, rfl, h1, h2, h3, h4.step (by simp) (fun b hb _ => Below.heap_alloc wv _ b hb) (fun _ _ h => h), ro_block (hro _ HC.mutLt) rfl⟩
          rintro g2 wg HCg hsl
          simp only [Act.put, List.setIfInBounds_toArray, List.set_cons_succ, List.set_cons_zero]
          clear hsl HCg
          refine rel_nil ?_
          rintro wx2 HX
          rintro _hrm HGW
          have hb2 : RBoxSlot (Mut M KL) x.id x.vs (.slice (some ⟨g2, 0, none⟩) 1 1) wx2 := (GW_on (d := 40) rfl).1 (HGW 8 _ rfl (by omega))
          clear HGW _hrm
          obtain ⟨g3, A6, n6, c6, e6, k0_, k1_, k2_, k3_, k4_⟩ := hb2
          obtain rfl : g2 = g3 := by injection e6 with e6; injection e6 with e6; injection e6
          clear e6
          rw [HKL.out] at HX k3_
          have k5 := hid k4_.now
          have HK0 := hid k0_
          clear k4_ k0_ HF HRX KN
          have HRS := hid (show rwCells rows ++ [.int .i64 x.id, .slice A6 n6 c6] = rwCells (rows ++ [⟨x.id, A6, n6, c6, x.vs⟩]) from rwCells_snoc1 _ _ _ _ _ _)
          have KA := HX.add k3_
          clear HX k3_
          have FKA := KA.facts
          simp only [World.size_alloc, World.size_drew, factsL, cellsF, Nat.reduceAdd, List.toList_toArray, List.set_cons_zero, List.set_cons_succ, List.setIfInBounds_toArray, and_true, true_and] at FKA
          go_wp2_with (at_builtin; go_must (refine wpList_appAllH KA 3 rfl Tryz.elRw k5.out rfl (.tmp 33) (.tmp 40) rfl rfl rfl (by intro z hz; simp at hz; rcases hz with rfl | rfl <;> rfl) (by omega) (by omega) ?_); intro C' cap' w6 hc6 hm6 KB; rw [HRS.out] at KB; simp only [List.set_cons_zero, List.set_cons_succ] at KB; (have F3 := KB.facts); simp only [World.size_alloc, World.size_drew, factsL, cellsF, Nat.reduceAdd, List.toList_toArray, List.set_cons_zero, List.set_cons_succ, List.setIfInBounds_toArray, and_true, true_and] at F3)
          have KG := KB.store 6 rfl 3 (.slice C' (k + 1) cap')
          simp only [List.set_cons_zero, List.set_cons_succ, List.setIfInBounds_toArray] at KG
          have KE := (KG.swapRo 4 rfl (vals_snoc (r := ⟨x.id, A6, n6, c6, x.vs⟩) (KG.ro 4 rfl) (KG.ro 0 rfl))).drop (List.Sublist.cons _ (List.Sublist.cons _ (List.sublist_cons_self _ _)))
          have HW2 := hid (rowsCopy_step (A := A6) HW.out HXG.out HXO.out k1_ k2_ (by rw [HK0.out, HXL.out]; exact HXO.out.2))
          go_roundw
          case rel => exact ⟨k + 1, cap', C', _, by omega, by go_num, HW2, KE⟩
          case measure => simp [intOf]; omega
        · obtain rfl : xnd = k := by omega
          have hd : decide ((xnd : Int) < (xnd : Int)) = false := by simp
          have hcap1 := own_caps (H.get 0 rfl)
          obtain ⟨rows1, hrows⟩ : ∃ r, r = rows := ⟨_, rfl⟩
          rw [← hrows] at H HW
          have HW1 := hid (show rows1.map Rw.row = xld.map Rw.row ∧ ∀ r ∈ rows1, r.ok ∧ r.n ≤ K by have h := HW.out; rwa [List.take_of_length_le (by rw [HLxld.out]; exact Nat.le_refl _)] at h)
          clear hrows HW
          have KS := H.sealRow 0 rfl
          simp only [List.set_cons_zero] at KS
          have KT := (KS.add ((KS.ro 0 rfl).and (KS.ro 1 rfl) : Ro wr _ (RwsIn O1 xnd rows1))).drop (List.Sublist.cons_cons _ (List.Sublist.cons _ (List.sublist_cons_self _ _)))
          have KU : Hold M none w wr [.ro (RwsIn O1 xnd rows1), .ro (IsIn C9 xni xli), .blk g6 129 #[.string xnm, .int .i64 xnx, .slice C9 xni cap9, .slice O1 xnd cap1, .slice none 0 0], .cst gx 129 #[.string xnm, .int .i64 xnx, .slice xI xni xci, .slice xD xnd xcd, .slice xU xnu xcu], .ro (RwsIn xU xnu xlu), .ro (RwsIn xD xnd xld), .ro (IsIn xI xni xli), .own 129 5 (.slice O j cap) j (ueCells outs), .ro (UeVals outs), .ro (UesIn (some ⟨g, o, none⟩) n l)] := KT
          clear H KS KT
          have KW := (KU.add (ro_vals_nil _ _)).nil 119 2
          have F7 := KW.facts
          simp only [World.size_alloc, World.size_drew, factsL, cellsF, Nat.reduceAdd, List.toList_toArray, List.set_cons_zero, List.set_cons_succ, List.setIfInBounds_toArray, and_true, true_and] at F7
          clear KU
          go_wp2_with fail
          clear F7
          go_loopw [47] (fun iv wr => ∃ (k cap2 : Nat) (O2 : Option Addr) (rows : List Rw), k ≤ xnu ∧ iv = .int .i64 k ∧ Hid (rows.map Rw.row = (xlu.take k).map Rw.row ∧ ∀ r ∈ rows, r.ok ∧ r.n ≤ K) ∧ Hold M none w wr [.own 119 2 (.slice O2 k cap2) k (rwCells rows), .ro (ValsIn rows), .ro (RwsIn O1 xnd rows1), .ro (IsIn C9 xni xli), .blk g6 129 #[.string xnm, .int .i64 xnx, .slice C9 xni cap9, .slice O1 xnd cap1, .slice O2 k cap2], .cst gx 129 #[.string xnm, .int .i64 xnx, .slice xI xni xci, .slice xD xnd xcd, .slice xU xnu xcu], .ro (RwsIn xU xnu xlu), .ro (RwsIn xD xnd xld), .ro (IsIn xI xni xli), .own 129 5 (.slice O j cap) j (ueCells outs), .ro (UeVals outs), .ro (UesIn (some ⟨g, o, none⟩) n l)]) (fun iv _ => xnu - (intOf iv).toNat)
          case atStart => exact ⟨0, 0, none, [], by omega, rfl, hid ⟨rfl, fun r hr => nomatch hr⟩, KW⟩
          case round =>
            clear KW
            obtain ⟨k, cap2, O2, rows, hk, rfl, HW, H⟩ := hrel
            by_cases hlt : k < xnu
            · have hd : decide ((k : Int) < (xnu : Int)) = true := by simp; omega
              have j0 : (0 : Int) ≤ (k : Int) := by omega
              have j1 : (k : Int) < (xnu : Int) := by omega
              obtain ⟨x, hx⟩ := get_of HLxlu.out hlt
              obtain ⟨b_, o_, rfl, hb, c0, c1, hxv⟩ := (H.ro 6 rfl).now.at_ hx
              have HXO := hid (HRxlu.out x (List.mem_of_getElem? hx))
              have hxn : x.n ≤ 4398046511104 := Nat.le_trans HXO.out.2 HNK.out.2
              have HXL := hid (show x.vs.length = x.n from hxv.len)
              have HXG := hid hx
              have hxr : Ro wr _ (VlsIn x.A x.n x.vs) := (H.ro 6 rfl).imp fun w2 h2 => h2.2 x (List.mem_of_getElem? hx)
              clear hx hxv
              have K1 := (H.add hxr).alloc_cst #[.int .i64 x.id, .slice x.A x.n x.c] 119
              clear H hxr
              obtain ⟨gr, hgr⟩ : ∃ gr, gr = wr.heap.size := ⟨_, rfl⟩
              rw [← hgr] at K1
              have F1 := K1.facts
              simp only [World.size_alloc, World.size_drew, factsL, cellsF, Nat.reduceAdd, List.toList_toArray, List.set_cons_zero, List.set_cons_succ, List.setIfInBounds_toArray, and_true, true_and] at F1
              go_wp2_with fail
              rw [← hgr]
              have HGR := hid hgr
              clear hgr c0 c1 F1
              obtain ⟨KL, hKL, KN⟩ := K1.name
              have HF : Hid (∀ wv, Hold M none w wv KL → wv.cell? ⟨gr, 0, none⟩ = some (.int .i64 x.id) ∧ wv.cell? ⟨gr, 1, none⟩ = some (.slice x.A x.n x.c) ∧ gr < wv.heap.size ∧ wv.cell? ⟨g6, 4, none⟩ = some (.slice O2 k cap2) ∧ g6 < wv.heap.size) := hid fun wv HC => by
                rw [hKL] at HC
                have y0 := HC.cst_ 0 rfl
                have y1 := HC.blk_ 6 rfl
                exact ⟨cell_of_row _ _ 0 _ _ _ y0, cell_of_row _ _ 1 _ _ _ y0, Blk.lt y0, cell_of_row _ _ 4 _ _ _ y1, Blk.lt y1⟩
              have HRX : Hid (∀ wv, Hold M none w wv KL → Ro wv (Mut M KL) (VlsIn x.A x.n x.vs)) := hid fun wv HC => by
                rw [hKL] at HC ⊢
                exact HC.ro 1 rfl
              have HKL := hid hKL
              clear hKL K1
              go_wp2_with fail
              refine wp_region_any (by kernel_rfl) ?_
              refine wpAny_hold 9 69 (KL) (spL [(57, VlsSlot (Mut M KL) x.vs), (58, RowSlot (Mut M KL) x.id x.vs), (59, RBoxSlot (Mut M KL) x.id x.vs)]) (by kernel_rfl) (by kernel_rfl) (by kernel_rfl) rfl ?_ (KN.drew) ?_
              · exact stays_cons vlsSlot_mono (stays_cons rowSlot_mono (stays_cons rboxSlot_mono (stays_nil _)))
              simp only [List.take_succ_cons, List.take_zero, List.drop_succ_cons, List.drop_zero, Act.put, List.getElem_toArray, List.getElem_cons_zero, List.getElem_cons_succ, List.setIfInBounds_toArray, List.set_cons_succ, List.set_cons_zero]
              refine dw_val rfl rfl rfl ?_; apply Exists.intro; refine ⟨fun wv HC => ?_, ?_⟩
              ·  go_simp <;> rfl
              simp only [Act.put, List.setIfInBounds_toArray, List.set_cons_succ, List.set_cons_zero]
              refine dw_val rfl rfl rfl ?_; apply Exists.intro; refine ⟨fun wv HC => ?_, ?_⟩
              · obtain ⟨f0, f1, f2, f3, f4⟩ := HF.out _ HC; go_simp <;> rfl
              simp only [Act.put, List.setIfInBounds_toArray, List.set_cons_succ, List.set_cons_zero]
              refine dw_val rfl rfl rfl ?_; apply Exists.intro; refine ⟨fun wv HC => ?_, ?_⟩
              ·  go_simp <;> rfl
              simp only [Act.put, List.setIfInBounds_toArray, List.set_cons_succ, List.set_cons_zero]
              refine dw_val rfl rfl rfl ?_; apply Exists.intro; refine ⟨fun wv HC => ?_, ?_⟩
              · obtain ⟨f0, f1, f2, f3, f4⟩ := HF.out _ HC; go_simp <;> rfl
              simp only [Act.put, List.setIfInBounds_toArray, List.set_cons_succ, List.set_cons_zero]
              refine dw_val rfl rfl rfl ?_; apply Exists.intro; refine ⟨fun wv HC => ?_, ?_⟩
              ·  go_simp <;> rfl
              simp only [Act.put, List.setIfInBounds_toArray, List.set_cons_succ, List.set_cons_zero]
              refine dw_val rfl rfl rfl ?_; apply Exists.intro; refine ⟨fun wv HC => ?_, ?_⟩
              · obtain ⟨f0, f1, f2, f3, f4⟩ := HF.out _ HC; go_simp <;> rfl
              simp only [Act.put, List.setIfInBounds_toArray, List.set_cons_succ, List.set_cons_zero]
              refine dw_callR 57 (VlsSlot (Mut M KL) x.vs) (f := 56) (args := #[.slice x.A x.n x.c]) rfl rfl rfl rfl (fun wv => ?_) (fun wv HC hrm hD => ?_) ?_
              · go_simp <;> rfl
              · refine (copyVls_any _ wv HC.mutLt x.A x.n x.c x.vs (HRX.out _ HC) hxn).mono ?_
                rintro e w5 ⟨A5, n5, c5, rfl, h50, h51, h52, h53, b5⟩
                exact ⟨_, rfl, ⟨A5, n5, c5, rfl, h50, h51, h52, h53⟩, HC.call b5, RM.below b5⟩
              rintro x_ wx HCx ⟨A5, n5, c5, rfl, h50, h51, h52, h53⟩
              simp only [Act.put, List.setIfInBounds_toArray, List.set_cons_succ, List.set_cons_zero]
              have H50 := hid h50
              clear HCx h53 h50
              refine dw_valC 58 (RowSlot (Mut M KL) x.id x.vs) rfl rfl rfl rfl (.agg #[.int .i64 x.id, .slice A5 n5 c5]) (fun wv HC => ?_) (fun wv HC hD => ?_) ?_
              · go_simp <;> rfl
              · have hsl : VlsSlot (Mut M KL) x.vs (.slice A5 n5 c5) wv := deps_at hD 6 rfl (by kernel_rfl) rfl rfl
                obtain ⟨A6, n6, c6, e6, h1, h2, h3, h4⟩ := hsl
                exact ⟨A6, n6, c6, by rw [e6], h1, h2, h3, h4⟩
              simp only [Act.put, List.setIfInBounds_toArray, List.set_cons_succ, List.set_cons_zero]
              refine dw_new #[.int .i64 x.id, .slice A5 n5 c5] 119 59 (RBoxSlot (Mut M KL) x.id x.vs) (fun g => .slice (some ⟨g, 0, none⟩) 1 1) rfl rfl rfl rfl (fun wv => ?_) (fun wv HC _hrm hD hro => ?_) ?_
              · go_simp <;> rfl
              · have hsl : RowSlot (Mut M KL) x.id x.vs (.agg #[.int .i64 x.id, .slice A5 n5 c5]) wv := deps_at hD 7 rfl (by kernel_rfl) rfl rfl
                obtain ⟨A6, n6, c6, e6, h1, h2, h3, h4⟩ := hsl
                obtain ⟨rfl, rfl, rfl⟩ : A5 = A6 ∧ n5 = n6 ∧ c5 = c6 := by
                  injection e6 with e6
                  simp at e6
                  exact e6
                exact ⟨_, A5, n5, c5, rfl, h1, h2, h3, h4.step (by simp) (fun b hb _ => Below.heap_alloc wv _ b hb) (fun _ _ h => h), ro_block (hro _ HC.mutLt) rfl⟩
              rintro g2 wg HCg hsl
              simp only [Act.put, List.setIfInBounds_toArray, List.set_cons_succ, List.set_cons_zero]
              clear hsl HCg
              refine rel_nil ?_
              rintro wx2 HX
              rintro _hrm HGW
              have hb2 : RBoxSlot (Mut M KL) x.id x.vs (.slice (some ⟨g2, 0, none⟩) 1 1) wx2 := (GW_on (d := 59) rfl).1 (HGW 8 _ rfl (by omega))
              clear HGW _hrm
              obtain ⟨g3, A6, n6, c6, e6, k0_, k1_, k2_, k3_, k4_⟩ := hb2
              obtain rfl : g2 = g3 := by injection e6 with e6; injection e6 with e6; injection e6
              clear e6
              rw [HKL.out] at HX k3_
              have k5 := hid k4_.now
              have HK0 := hid k0_
              clear k4_ k0_ HF HRX KN
              have HRS := hid (show rwCells rows ++ [.int .i64 x.id, .slice A6 n6 c6] = rwCells (rows ++ [⟨x.id, A6, n6, c6, x.vs⟩]) from rwCells_snoc1 _ _ _ _ _ _)
              have KA := HX.add k3_
              clear HX k3_
              have FKA := KA.facts
              simp only [World.size_alloc, World.size_drew, factsL, cellsF, Nat.reduceAdd, List.toList_toArray, List.set_cons_zero, List.set_cons_succ, List.setIfInBounds_toArray, and_true, true_and] at FKA
              go_wp2_with (at_builtin; go_must (refine wpList_appAllH KA 3 rfl Tryz.elRw k5.out rfl (.tmp 52) (.tmp 59) rfl rfl rfl (by intro z hz; simp at hz; rcases hz with rfl | rfl <;> rfl) (by omega) (by omega) ?_); intro C' cap' w6 hc6 hm6 KB; rw [HRS.out] at KB; simp only [List.set_cons_zero, List.set_cons_succ] at KB; (have F3 := KB.facts); simp only [World.size_alloc, World.size_drew, factsL, cellsF, Nat.reduceAdd, List.toList_toArray, List.set_cons_zero, List.set_cons_succ, List.setIfInBounds_toArray, and_true, true_and] at F3)
              have KG := KB.store 7 rfl 4 (.slice C' (k + 1) cap')
              simp only [List.set_cons_zero, List.set_cons_succ, List.setIfInBounds_toArray] at KG
              have KE := (KG.swapRo 4 rfl (vals_snoc (r := ⟨x.id, A6, n6, c6, x.vs⟩) (KG.ro 4 rfl) (KG.ro 0 rfl))).drop (List.Sublist.cons _ (List.Sublist.cons _ (List.sublist_cons_self _ _)))
              have HW2 := hid (rowsCopy_step (A := A6) HW.out HXG.out HXO.out k1_ k2_ (by rw [HK0.out, HXL.out]; exact HXO.out.2))
              go_roundw
              case rel => exact ⟨k + 1, cap', C', _, by omega, by go_num, HW2, KE⟩
              case measure => simp [intOf]; omega
            · obtain rfl : xnu = k := by omega
              have hd : decide ((xnu : Int) < (xnu : Int)) = false := by simp
              have hcap2 := own_caps (H.get 0 rfl)
              obtain ⟨rows2, hrows⟩ : ∃ r, r = rows := ⟨_, rfl⟩
              rw [← hrows] at H HW
              have HW2 := hid (show rows2.map Rw.row = xlu.map Rw.row ∧ ∀ r ∈ rows2, r.ok ∧ r.n ≤ K by have h := HW.out; rwa [List.take_of_length_le (by rw [HLxlu.out]; exact Nat.le_refl _)] at h)
              clear hrows HW
              have KS := H.sealRow 0 rfl
              simp only [List.set_cons_zero] at KS
              have KT := (KS.add ((KS.ro 0 rfl).and (KS.ro 1 rfl) : Ro wr _ (RwsIn O2 xnu rows2))).drop (List.Sublist.cons_cons _ (List.Sublist.cons _ (List.sublist_cons_self _ _)))
              have KV : Hold M none w wr [.ro (RwsIn O2 xnu rows2), .ro (RwsIn O1 xnd rows1), .ro (IsIn C9 xni xli), .blk g6 129 #[.string xnm, .int .i64 xnx, .slice C9 xni cap9, .slice O1 xnd cap1, .slice O2 xnu cap2], .cst gx 129 #[.string xnm, .int .i64 xnx, .slice xI xni xci, .slice xD xnd xcd, .slice xU xnu xcu], .ro (RwsIn xU xnu xlu), .ro (RwsIn xD xnd xld), .ro (IsIn xI xni xli), .own 129 5 (.slice O j cap) j (ueCells outs), .ro (UeVals outs), .ro (UesIn (some ⟨g, o, none⟩) n l)] := KT
              clear H KS KT
              have F8 := KV.facts
              simp only [World.size_alloc, World.size_drew, factsL, cellsF, Nat.reduceAdd, List.toList_toArray, List.set_cons_zero, List.set_cons_succ, List.setIfInBounds_toArray, and_true, true_and] at F8
              go_wp2_with (at_builtin; go_must (refine wpList_appH KV 8 rfl Tryz.elUe #[.string xnm, .int .i64 xnx, .slice C9 xni cap9, .slice O1 xnd cap1, .slice O2 xnu cap2] rfl (.tmp 63) (.tmp 65) rfl rfl _ (by first | rfl | simp) rfl rfl (by intro u hu; simp at hu; rcases hu with rfl | rfl | rfl | rfl | rfl <;> rfl) (by omega) (by omega) ?_); intro g9 capx w9 hc9 hm9 KB; simp only [List.set_cons_zero, List.set_cons_succ] at KB)
              have e9 : ueCells outs ++ (#[.string xnm, .int .i64 xnx, .slice C9 xni cap9, .slice O1 xnd cap1, .slice O2 xnu cap2]).toList = ueCells (outs ++ [⟨xnm, xnx, C9, xni, cap9, O1, xnd, cap1, O2, xnu, cap2, xli, rows1, rows2⟩]) := (ueCells_snoc outs ⟨xnm, xnx, C9, xni, cap9, O1, xnd, cap1, O2, xnu, cap2, xli, rows1, rows2⟩).symm
              rw [e9] at KB
              have rE : Ro w9 _ (UeIn ⟨xnm, xnx, C9, xni, cap9, O1, xnd, cap1, O2, xnu, cap2, xli, rows1, rows2⟩) := (KB.ro 2 rfl).and ((KB.ro 1 rfl).and (KB.ro 0 rfl))
              have KC := (KB.swapRo 9 rfl (ueVals_snoc (KB.ro 9 rfl) rE)).drop (.cons _ (.cons _ (.cons _ (.cons _ (.cons _ (.cons _ (.cons _ (List.sublist_cons_self _ _))))))))
              have HS2 := hid (show UeStep N K (outs ++ [⟨xnm, xnx, C9, xni, cap9, O1, xnd, cap1, O2, xnu, cap2, xli, rows1, rows2⟩]) l (j + 1) from ⟨by
                  rw [List.map_append, HO.out.1, List.take_add_one, HXJ.out, List.map_append]
                  exact congrArg _ (congrArg (fun z => [z]) (by simp only [Ue.ud, HW1.out.1, HW2.out.1])), fun z hz => by
                rcases List.mem_append.1 hz with hz | hz
                · exact HO.out.2 z hz
                · simp at hz; subst hz
                  exact ⟨HGX.out.i, HGX.out.d, HGX.out.u, HC9.out, ⟨hcap1.1, hcap1.2.1⟩, ⟨hcap2.1, hcap2.2.1⟩, HGX.out.li, HW1.out.2, HW2.out.2⟩⟩)
              go_roundw
              case rel => exact ⟨j + 1, capx, _, _, by omega, by go_num, by first | rfl | trivial, HS2, KC⟩
              case measure => simp [intOf]; omega
    · obtain rfl : n = j := by omega
      have hd : decide ((n : Int) < (n : Int)) = false := by simp
      have HW2 := hid (show outs.map Ue.ud = l.map Ue.ud by have h := HO.out.1; rwa [List.take_of_length_le (by rw [HL.out]; exact Nat.le_refl _)] at h)
      have HOW := hid (H.get 0 rfl)
      have HR := hid ((H.ro 1 rfl).less (fun b hb => mut_one hb))
      have HB := hid H.below
      clear H
      go_wp2_with fail
      go_ret
      exact ⟨O, n, cap, outs, rfl, HW2.out, HO.out.2, HOW.out, HR.out, HB.out⟩
end Go.Proofs.YtedogodccblfeaaGreatDoor

namespace Go.Proofs.YtedogodccblfeaaGreatDoor
open Go.RowKit
set_option linter.unusedVariables false
set_option linter.unusedSimpArgs false

set_option maxHeartbeats 8000000 in
set_option maxRecDepth 100000 in
theorem rrecord_any (M : Nat → Prop) (w : World) (hM : ∀ b, M b → b < w.heap.size) (A : Option Addr) (n c N K : Nat) (us : List Ue) (x y : Te) (d : Dl) (hx : x.ok) (hy : y.ok) (rx : Ro w M (TeIn x)) (ry : Ro w M (TeIn y)) (mx : TbM x.tb) (my : TbM y.tb) (hL : Ro w M (UesIn A n us)) (hok : ∀ u ∈ us, u.good N K) (hn : n ≤ 1000000) (hN : N ≤ 1000000) (hK : K ≤ 4398046511104)
    (hbt : betweenC x.tb y.tb = (true, d)) (h1 : d.ins.length ≤ N) (h2 : d.del.length ≤ N) (h3 : d.upd.length ≤ N) (h4 : ∀ r ∈ d.ins, r.2.length ≤ K) (h5 : ∀ r ∈ d.del, r.2.length ≤ K) (h6 : ∀ u ∈ d.upd, u.2.1.length ≤ K ∧ u.2.2.length ≤ K) :
    Calls Tryz.prog 64 #[.slice A n c, .agg #[.string x.nm, .slice x.A x.n x.c, .int .i64 x.nx, .slice x.B x.m x.d], .agg #[.string y.nm, .slice y.A y.n y.c, .int .i64 y.nx, .slice y.B y.m y.d]] w fun e w' => RecRet w M N K (us.map Ue.ud ++ [udOf x.nx d]) e w' := by
  have HOK := hid (And.intro hok (And.intro hN hK))
  have HML := hid hM
  have HUL := hid hL.now.len
  have K1 := ((((Hold.start M w hM).add (hL.less (by simp [Mut]))).add (rx.less (by simp [Mut, Hp.foot]))).add (ry.less (by simp [Mut, Hp.foot]))).alloc_cst #[.string x.nm, .slice x.A x.n x.c, .int .i64 x.nx, .slice x.B x.m x.d] 58 |>.alloc_cst #[.string y.nm, .slice y.A y.n y.c, .int .i64 y.nx, .slice y.B y.m y.d] 58
  rw [World.size_alloc] at K1
  clear hL rx ry hok
  have F1 := K1.facts
  simp only [World.size_alloc, World.size_drew, factsL, cellsF, Nat.reduceAdd, List.toList_toArray, List.set_cons_zero, List.set_cons_succ, List.setIfInBounds_toArray, and_true, true_and] at F1
  go_enter Tryz.func64, Tryz.ntmps64
  go_wp2_with fail
  refine (rbetw_any _ _ K1.mutLt _ _ x.tb y.tb (te_tb hx (K1.ro 3 rfl)) (te_tb hy (K1.ro 2 rfl)) mx.nm mx.cs mx.rs my.nm my.cs my.rs).mono ?_
  rintro e w2 ⟨v, rfl, hd, b2⟩
  rw [hbt] at hd ⊢
  obtain ⟨⟨znm, zI, zni, zci, zD, znd, zcd, zU, znu, zcu, zli, zld, zlu⟩, rfl, hz, hzg, rz⟩ := dl_el hd h1 h2 h3 h4 h5 h6
  dsimp only [El.val, ElIn] at rz ⊢
  have HZ := hid hz
  have HZG := hid hzg
  have K2 := (((K1.call b2).add (show Ro w2 _ (RwsIn zI zni zli) from rz.imp fun w h => h.1)).add (show Ro w2 _ (RwsIn zD znd zld) from (rz.imp fun w h => h.2.1).less (by simp [Mut, Hp.foot]))).add (show Ro w2 _ (PrsIn zU znu zlu) from (rz.imp fun w h => h.2.2).less (by simp [Mut, Hp.foot]))
  have hzi : zni ≤ 1000000 := Nat.le_trans hzg.i hN
  have hzu : znu ≤ 1000000 := Nat.le_trans hzg.u hN
  have hci := hzg.ci
  have hcd := hzg.cd
  have hcu := hzg.cu
  dsimp only at hci hcd hcu
  clear K1 F1 hd b2 hz hzg rz h1 h2 h3 h4 h5 h6 hx hy mx my hbt hN hK
  have F2 := K2.facts
  simp only [World.size_alloc, World.size_drew, factsL, cellsF, Nat.reduceAdd, List.toList_toArray, List.set_cons_zero, List.set_cons_succ, List.setIfInBounds_toArray, and_true, true_and] at F2
  obtain ⟨gd, hgd⟩ : ∃ g, g = w2.heap.size := ⟨_, rfl⟩
  obtain ⟨gu, hgu⟩ : ∃ g, g = w2.heap.size + 1 := ⟨_, rfl⟩
  have K3 := K2.alloc_cst #[.string znm, .slice zI zni zci, .slice zD znd zcd, .slice zU znu zcu] 44
  have K4 := K3.alloc #[.string znm, .int .i64 x.nx, .slice none 0 0, .slice zD znd zcd, .slice none 0 0] 129
  rw [World.size_alloc, ← hgu, ← hgd] at K4
  have KL := (K4.drop (show List.Sublist [Hp.blk gu 129 #[.string znm, .int .i64 x.nx, .slice none 0 0, .slice zD znd zcd, .slice none 0 0], .cst gd 44 #[.string znm, .slice zI zni zci, .slice zD znd zcd, .slice zU znu zcu], .ro (PrsIn zU znu zlu), .ro (RwsIn zD znd zld), .ro (RwsIn zI zni zli), .ro (UesIn A n us)] _ from .cons_cons _ (.cons_cons _ (.cons_cons _ (.cons_cons _ (.cons_cons _ (.cons _ (.cons _ (.cons _ (.cons _ (List.Sublist.refl _)))))))))))
  have K5 := KL.nil 3 1
  have F5 := K5.facts
  simp only [World.size_alloc, World.size_drew, factsL, cellsF, Nat.reduceAdd, List.toList_toArray, List.set_cons_zero, List.set_cons_succ, List.setIfInBounds_toArray, and_true, true_and] at F5
  clear K2 K3 K4 KL
  rw [hgu, hgd] at F5
  go_wp2_with fail
  rw [← hgu, ← hgd]
  have HGU := hid hgu
  have HGD := hid hgd
  have HL1 := hid (K5.ro 5 rfl).now.len
  have HL2 := hid (K5.ro 3 rfl).now.len
  clear hgu hgd F2 F5
  go_loopw [33] (fun iv wr => ∃ (k cap : Nat) (O : Option Addr), k ≤ zni ∧ iv = .int .i64 k ∧ Hold M none w wr [.own 3 1 (.slice O k cap) k (iCells ((zli.take k).map Rw.id)), .blk gu 129 #[.string znm, .int .i64 x.nx, .slice O k cap, .slice zD znd zcd, .slice none 0 0], .cst gd 44 #[.string znm, .slice zI zni zci, .slice zD znd zcd, .slice zU znu zcu], .ro (PrsIn zU znu zlu), .ro (RwsIn zD znd zld), .ro (RwsIn zI zni zli), .ro (UesIn A n us)]) (fun iv _ => zni - (intOf iv).toNat)
  case atStart => exact ⟨0, 0, none, by omega, rfl, K5⟩
  case round =>
    clear K5
    obtain ⟨k, cap, O, hk, rfl, H⟩ := hrel
    by_cases hlt : k < zni
    · have hd : decide ((k : Int) < (zni : Int)) = true := by simp; omega
      have i0 : (0 : Int) ≤ (k : Int) := by omega
      have i1 : (k : Int) < (zni : Int) := by omega
      obtain ⟨r, hx⟩ := get_of HL1.out hlt
      obtain ⟨g, o, rfl, hb, c0, c1, -⟩ := (H.ro 5 rfl).now.at_ hx
      have HCE := hid (show iCells ((zli.take k).map Rw.id) ++ (#[Value.int .i64 r.id]).toList = iCells ((zli.take (k + 1)).map Rw.id) by rw [List.take_add_one, hx]; simp [iCells])
      clear hx
      have K1 := H.alloc_cst #[.int .i64 r.id, .slice r.A r.n r.c] 119
      have FA := K1.facts
      simp only [World.size_alloc, World.size_drew, factsL, cellsF, Nat.reduceAdd, List.toList_toArray, List.set_cons_zero, List.set_cons_succ, List.setIfInBounds_toArray, and_true, true_and] at FA
      clear H
      go_wp2_with (at_builtin; go_must (refine wpList_appH K1 1 rfl Tryz.elIntC #[.int .i64 r.id] rfl (.tmp 38) (.tmp 41) rfl rfl _ (by first | rfl | simp) rfl rfl (by intro u hu; simp at hu; rcases hu with rfl; rfl) (by omega) (by omega) ?_); intro g9 cap9 w9 hc9 hm9 KB; rw [HCE.out] at KB; simp only [List.set_cons_zero, List.set_cons_succ] at KB; (have FB := KB.facts); simp only [World.size_alloc, World.size_drew, factsL, cellsF, Nat.reduceAdd, List.toList_toArray, List.set_cons_zero, List.set_cons_succ, List.setIfInBounds_toArray, and_true, true_and] at FB)
      have KC := KB.store 2 rfl 2 (.slice (some ⟨g9, 0, none⟩) (k + 1) cap9)
      simp only [List.set_cons_zero, List.set_cons_succ, List.setIfInBounds_toArray] at KC
      go_roundw
      case rel => exact ⟨k + 1, cap9, _, by omega, by go_num, KC.drop (List.sublist_cons_self _ _)⟩
      case measure => simp [intOf]; omega
    · obtain rfl : zni = k := by omega
      have hd : decide ((zni : Int) < (zni : Int)) = false := by simp
      rw [List.take_of_length_le (by rw [HL1.out]; exact Nat.le_refl _)] at H
      have hcap := own_caps (H.get 0 rfl)
      have KS := H.sealRow 0 rfl
      simp only [List.set_cons_zero] at KS
      have KT : Hold M none w wr [.ro (IsIn O zni (zli.map Rw.id)), .blk gu 129 #[.string znm, .int .i64 x.nx, .slice O zni cap, .slice zD znd zcd, .slice none 0 0], .cst gd 44 #[.string znm, .slice zI zni zci, .slice zD znd zcd, .slice zU znu zcu], .ro (PrsIn zU znu zlu), .ro (RwsIn zD znd zld), .ro (RwsIn zI zni zli), .ro (UesIn A n us)] := KS
      have K6 := KT.nil 119 2
      clear H KS KT
      have F6 := K6.facts
      simp only [World.size_alloc, World.size_drew, factsL, cellsF, Nat.reduceAdd, List.toList_toArray, List.set_cons_zero, List.set_cons_succ, List.setIfInBounds_toArray, and_true, true_and] at F6
      go_wp2_with fail
      clear F6
      go_loopw [48] (fun iv wr => ∃ (k cap2 : Nat) (O2 : Option Addr), k ≤ znu ∧ iv = .int .i64 k ∧ Hold M none w wr [.own 119 2 (.slice O2 k cap2) k (rwCells ((zlu.take k).map oldRw)), .ro (IsIn O zni (zli.map Rw.id)), .blk gu 129 #[.string znm, .int .i64 x.nx, .slice O zni cap, .slice zD znd zcd, .slice O2 k cap2], .cst gd 44 #[.string znm, .slice zI zni zci, .slice zD znd zcd, .slice zU znu zcu], .ro (PrsIn zU znu zlu), .ro (RwsIn zD znd zld), .ro (RwsIn zI zni zli), .ro (UesIn A n us)]) (fun iv _ => znu - (intOf iv).toNat)
      case atStart => exact ⟨0, 0, none, by omega, rfl, K6⟩
      case round =>
        clear K6
        obtain ⟨k, cap2, O2, hk, rfl, H⟩ := hrel
        by_cases hlt : k < znu
        · have hd : decide ((k : Int) < (znu : Int)) = true := by simp; omega
          have i0 : (0 : Int) ≤ (k : Int) := by omega
          have i1 : (k : Int) < (znu : Int) := by omega
          obtain ⟨r, hx⟩ := get_of HL2.out hlt
          obtain ⟨g, o, rfl, hb, c0, c1, c2, -⟩ := (H.ro 4 rfl).now.at_ hx
          have HCE := hid (show rwCells ((zlu.take k).map oldRw) ++ (#[Value.int .i64 r.id, .slice r.oA r.on r.oc]).toList = rwCells ((zlu.take (k + 1)).map oldRw) by rw [List.take_add_one, hx]; simp [rwCells, Rw.cells, oldRw])
          clear hx
          have K1 := H.alloc_cst #[.int .i64 r.id, .slice r.oA r.on r.oc, .slice r.nA r.nn r.nc] 110
          have FA := K1.facts
          simp only [World.size_alloc, World.size_drew, factsL, cellsF, Nat.reduceAdd, List.toList_toArray, List.set_cons_zero, List.set_cons_succ, List.setIfInBounds_toArray, and_true, true_and] at FA
          clear H
          go_wp2_with (at_builtin; go_must (refine wpList_appH K1 1 rfl Tryz.elRw #[.int .i64 r.id, .slice r.oA r.on r.oc] rfl (.tmp 53) (.tmp 59) rfl rfl _ (by first | rfl | simp) rfl rfl (by intro u hu; simp at hu; rcases hu with rfl | rfl <;> rfl) (by omega) (by omega) ?_); intro g9 cap9 w9 hc9 hm9 KB; rw [HCE.out] at KB; simp only [List.set_cons_zero, List.set_cons_succ] at KB; (have FB := KB.facts); simp only [World.size_alloc, World.size_drew, factsL, cellsF, Nat.reduceAdd, List.toList_toArray, List.set_cons_zero, List.set_cons_succ, List.setIfInBounds_toArray, and_true, true_and] at FB)
          have KC := KB.store 3 rfl 4 (.slice (some ⟨g9, 0, none⟩) (k + 1) cap9)
          simp only [List.set_cons_zero, List.set_cons_succ, List.setIfInBounds_toArray] at KC
          go_roundw
          case rel => exact ⟨k + 1, cap9, _, by omega, by go_num, KC.drop (List.sublist_cons_self _ _)⟩
          case measure => simp [intOf]; omega
        · obtain rfl : znu = k := by omega
          have hd : decide ((znu : Int) < (znu : Int)) = false := by simp
          rw [List.take_of_length_le (by rw [HL2.out]; exact Nat.le_refl _)] at H
          have hcap2 := own_caps (H.get 0 rfl)
          have KS := H.sealRow 0 rfl
          simp only [List.set_cons_zero] at KS
          have KT : Hold M none w wr [.ro (SlR 2 O2 znu (rwCells (zlu.map oldRw))), .ro (IsIn O zni (zli.map Rw.id)), .blk gu 129 #[.string znm, .int .i64 x.nx, .slice O zni cap, .slice zD znd zcd, .slice O2 znu cap2], .cst gd 44 #[.string znm, .slice zI zni zci, .slice zD znd zcd, .slice zU znu zcu], .ro (PrsIn zU znu zlu), .ro (RwsIn zD znd zld), .ro (RwsIn zI zni zli), .ro (UesIn A n us)] := KS
          clear H KS
          go_wp2_with fail
          refine wp_region_any (by kernel_rfl) ?_
          refine wpAny_hold 4 68 ([.ro (SlR 2 O2 znu (rwCells (zlu.map oldRw))), .ro (IsIn O zni (zli.map Rw.id)), .blk gu 129 #[.string znm, .int .i64 x.nx, .slice O zni cap, .slice zD znd zcd, .slice O2 znu cap2], .cst gd 44 #[.string znm, .slice zI zni zci, .slice zD znd zcd, .slice zU znu zcu], .ro (PrsIn zU znu zlu), .ro (RwsIn zD znd zld), .ro (RwsIn zI zni zli), .ro (UesIn A n us)]) (spL [(64, LogSl (Mut M [.ro (SlR 2 O2 znu (rwCells (zlu.map oldRw))), .ro (IsIn O zni (zli.map Rw.id)), .blk gu 129 #[.string znm, .int .i64 x.nx, .slice O zni cap, .slice zD znd zcd, .slice O2 znu cap2], .cst gd 44 #[.string znm, .slice zI zni zci, .slice zD znd zcd, .slice zU znu zcu], .ro (PrsIn zU znu zlu), .ro (RwsIn zD znd zld), .ro (RwsIn zI zni zli), .ro (UesIn A n us)]) wr.heap.size N K (us.map Ue.ud)), (66, UeBox (Mut M [.ro (SlR 2 O2 znu (rwCells (zlu.map oldRw))), .ro (IsIn O zni (zli.map Rw.id)), .blk gu 129 #[.string znm, .int .i64 x.nx, .slice O zni cap, .slice zD znd zcd, .slice O2 znu cap2], .cst gd 44 #[.string znm, .slice zI zni zci, .slice zD znd zcd, .slice zU znu zcu], .ro (PrsIn zU znu zlu), .ro (RwsIn zD znd zld), .ro (RwsIn zI zni zli), .ro (UesIn A n us)]) #[.string znm, .int .i64 x.nx, .slice O zni cap, .slice zD znd zcd, .slice O2 znu cap2])]) (by kernel_rfl) (by kernel_rfl) (by kernel_rfl) rfl ?_ (KT.drew) ?_
          · exact stays_cons (logSl_mono KT.mutLt) (stays_cons ueBox_mono (stays_nil _))
          simp only [List.take_succ_cons, List.take_zero, List.drop_succ_cons, List.drop_zero, Act.put, List.getElem_toArray, List.getElem_cons_zero, List.getElem_cons_succ, List.setIfInBounds_toArray, List.set_cons_succ, List.set_cons_zero]
          repeat (first | (refine dw_skip rfl rfl rfl ?_; simp only [Act.put, List.setIfInBounds_toArray, List.set_cons_succ, List.set_cons_zero]) | (refine dw_val rfl rfl rfl ?_; apply Exists.intro; refine ⟨fun wv HC => ?_, ?_⟩; (focus ( go_simp <;> rfl; done)); simp only [Act.put, List.setIfInBounds_toArray, List.set_cons_succ, List.set_cons_zero]))
          refine dw_callR 64 (LogSl (Mut M [.ro (SlR 2 O2 znu (rwCells (zlu.map oldRw))), .ro (IsIn O zni (zli.map Rw.id)), .blk gu 129 #[.string znm, .int .i64 x.nx, .slice O zni cap, .slice zD znd zcd, .slice O2 znu cap2], .cst gd 44 #[.string znm, .slice zI zni zci, .slice zD znd zcd, .slice zU znu zcu], .ro (PrsIn zU znu zlu), .ro (RwsIn zD znd zld), .ro (RwsIn zI zni zli), .ro (UesIn A n us)]) wr.heap.size N K (us.map Ue.ud)) (f := 124) (args := #[.slice A n c]) rfl rfl rfl rfl (fun wv => ?_) (fun wv HC hrm hD => ?_) ?_
          · go_simp <;> rfl
          · refine (rcopylog_any _ wv HC.mutLt A n c N K HOK.out.2.1 HOK.out.2.2 us HOK.out.1 (HC.ro 7 rfl) hn).mono ?_
            rintro e w5 ⟨A5, n5, c5, l5, rfl, h1, h2, h3, h4, b5⟩
            exact ⟨_, rfl, ⟨A5, n5, c5, l5, rfl, h1, h2, own_base (by simpa using hrm.1) h3, h4⟩, HC.call b5, RM.below b5⟩
          rintro u_ wx HCx ⟨A5, n5, c5, l5, rfl, -, -, -, -⟩
          clear HCx
          simp only [Act.put, List.setIfInBounds_toArray, List.set_cons_succ, List.set_cons_zero]
          repeat (first | (refine dw_skip rfl rfl rfl ?_; simp only [Act.put, List.setIfInBounds_toArray, List.set_cons_succ, List.set_cons_zero]) | (refine dw_val rfl rfl rfl ?_; apply Exists.intro; refine ⟨fun wv HC => ?_, ?_⟩; (focus (have f0 := cell_of_row _ _ 0 _ _ _ (HC.blk_ 2 rfl); have f1 := cell_of_row _ _ 1 _ _ _ (HC.blk_ 2 rfl); have f2 := cell_of_row _ _ 2 _ _ _ (HC.blk_ 2 rfl); have f3 := cell_of_row _ _ 3 _ _ _ (HC.blk_ 2 rfl); have f4 := cell_of_row _ _ 4 _ _ _ (HC.blk_ 2 rfl); have fl := Blk.lt (HC.blk_ 2 rfl); go_simp <;> rfl; done)); simp only [Act.put, List.setIfInBounds_toArray, List.set_cons_succ, List.set_cons_zero]))
          refine dw_new #[.string znm, .int .i64 x.nx, .slice O zni cap, .slice zD znd zcd, .slice O2 znu cap2] 129 66 (UeBox (Mut M [.ro (SlR 2 O2 znu (rwCells (zlu.map oldRw))), .ro (IsIn O zni (zli.map Rw.id)), .blk gu 129 #[.string znm, .int .i64 x.nx, .slice O zni cap, .slice zD znd zcd, .slice O2 znu cap2], .cst gd 44 #[.string znm, .slice zI zni zci, .slice zD znd zcd, .slice zU znu zcu], .ro (PrsIn zU znu zlu), .ro (RwsIn zD znd zld), .ro (RwsIn zI zni zli), .ro (UesIn A n us)]) #[.string znm, .int .i64 x.nx, .slice O zni cap, .slice zD znd zcd, .slice O2 znu cap2]) (fun g => .slice (some ⟨g, 0, none⟩) 1 1) rfl rfl rfl rfl (fun wv => ?_) (fun wv HC _hrm hD hro => ?_) ?_
          · go_simp <;> rfl
          · exact ⟨_, rfl, ro_block (hro _ HC.mutLt) rfl⟩
          rintro g2 wg HCg -
          simp only [Act.put, List.setIfInBounds_toArray, List.set_cons_succ, List.set_cons_zero]
          clear HCg
          refine rel_nil ?_
          rintro wx2 HX
          rintro hrm HGW
          have hu1 : LogSl (Mut M [.ro (SlR 2 O2 znu (rwCells (zlu.map oldRw))), .ro (IsIn O zni (zli.map Rw.id)), .blk gu 129 #[.string znm, .int .i64 x.nx, .slice O zni cap, .slice zD znd zcd, .slice O2 znu cap2], .cst gd 44 #[.string znm, .slice zI zni zci, .slice zD znd zcd, .slice zU znu zcu], .ro (PrsIn zU znu zlu), .ro (RwsIn zD znd zld), .ro (RwsIn zI zni zli), .ro (UesIn A n us)]) wr.heap.size N K (us.map Ue.ud) (.slice A5 n5 c5) wx2 := (GW_on (d := 64) rfl).1 (HGW 1 _ rfl (by omega))
          have hu2 : UeBox (Mut M [.ro (SlR 2 O2 znu (rwCells (zlu.map oldRw))), .ro (IsIn O zni (zli.map Rw.id)), .blk gu 129 #[.string znm, .int .i64 x.nx, .slice O zni cap, .slice zD znd zcd, .slice O2 znu cap2], .cst gd 44 #[.string znm, .slice zI zni zci, .slice zD znd zcd, .slice zU znu zcu], .ro (PrsIn zU znu zlu), .ro (RwsIn zD znd zld), .ro (RwsIn zI zni zli), .ro (UesIn A n us)]) #[.string znm, .int .i64 x.nx, .slice O zni cap, .slice zD znd zcd, .slice O2 znu cap2] (.slice (some ⟨g2, 0, none⟩) 1 1) wx2 := (GW_on (d := 66) rfl).1 (HGW 3 _ rfl (by omega))
          clear HGW
          obtain ⟨A6, n6, c6, l6, e6, p1, p2, p3, p4⟩ := hu1
          obtain ⟨rfl, rfl, rfl⟩ : A5 = A6 ∧ n5 = n6 ∧ c5 = c6 := by injection e6 with a b c; exact ⟨a, b, c⟩
          obtain ⟨g3, e7, p5⟩ := hu2
          obtain rfl : g2 = g3 := by injection e7 with e7; injection e7 with e7; injection e7
          have K7 := (Hold.addOwn KT.drew HX hrm (by simpa using p3)).add (p4.less (by intro b hb; rcases mut_cons.1 hb with h | h; exact .inr ⟨_, List.mem_singleton_self _, h⟩; exact .inl h))
          have HP := hid (And.intro p1 p2)
          have hn5 : n5 ≤ 1000000 := by
            have a := p3.1; rw [ueCells_len] at a
            have b := congrArg List.length p1; rw [List.length_map, List.length_map, HUL.out] at b
            omega
          have k5 := hid p5.now
          clear HX KT p1 p2 p3 p4 p5 e6 e7 hrm
          go_wp2_with (at_builtin; go_must (refine wpList_appAllH K7 1 rfl Tryz.elUe k5.out rfl (.tmp 64) (.tmp 66) rfl rfl rfl (by intro z hz; simp at hz; rcases hz with rfl | rfl | rfl | rfl | rfl <;> rfl) (by omega) (by omega) ?_); intro C' cap' w6 hc6 hm6 KB; simp only [List.set_cons_zero, List.set_cons_succ] at KB)
          have KD := KB.sealRow 1 rfl
          simp only [List.set_cons_zero, List.set_cons_succ] at KD
          have e9 : ueCells l6 ++ [.string znm, .int .i64 x.nx, .slice O zni cap, .slice zD znd zcd, .slice O2 znu cap2] = ueCells (l6 ++ [⟨znm, x.nx, O, zni, cap, zD, znd, zcd, O2, znu, cap2, zli.map Rw.id, zld, zlu.map oldRw⟩]) := (ueCells_snoc l6 ⟨znm, x.nx, O, zni, cap, zD, znd, zcd, O2, znu, cap2, zli.map Rw.id, zld, zlu.map oldRw⟩).symm
          rw [e9] at KD
          have rI := KD.roOut 3 rfl
          have rU := (KD.roOut 2 rfl).and ((KD.roOut 6 rfl).imp (S' := ValsIn (zlu.map oldRw)) fun w2 h2 r hr => by
            obtain ⟨p, hp, rfl⟩ := List.mem_map.1 hr
            exact (h2.2 p hp).1)
          have rE : Ro w6 M (UeIn ⟨znm, x.nx, O, zni, cap, zD, znd, zcd, O2, znu, cap2, zli.map Rw.id, zld, zlu.map oldRw⟩) := rI.and ((KD.roOut 7 rfl).and rU)
          have rL := (KD.roOut 1 rfl).and (ueVals_snoc (KD.roOut 0 rfl) rE)
          have HG := HZG.out
          have HB := KD.below
          go_wp2_with fail
          go_ret2
          refine ⟨C', n5 + 1, cap', _, rfl, hc6, hm6, ?_, fun u hu => ?_, rL, HB⟩
          · rw [List.map_append, HP.out.1, List.map_singleton]
            exact congrArg _ (congrArg (fun z => [z]) (by rw [← HZ.out]; simp [Ue.ud, udOf, El.dl, Rw.row, Pr.upd, oldRw, List.map_map, Function.comp_def]))
          · rcases List.mem_append.1 hu with hu | hu
            · exact HP.out.2 u hu
            · simp at hu; subst hu
              exact ⟨HG.i, HG.d, HG.u, ⟨hcap.1, hcap.2.1⟩, HG.cd, ⟨hcap2.1, hcap2.2.1⟩, fun i hi => by
                obtain ⟨r, hr, rfl⟩ := List.mem_map.1 hi; exact (HG.li r hr).1.id, HG.ld, fun r hr => by
                obtain ⟨p, hp, rfl⟩ := List.mem_map.1 hr
                obtain ⟨a, b, c⟩ := HG.lu p hp
                exact ⟨⟨a.id, a.oc, a.oc2, a.old⟩, b⟩⟩
end Go.Proofs.YtedogodccblfeaaGreatDoor

namespace Go.Proofs.YtedogodccblfeaaGreatDoor
open Go.RowKit
set_option linter.unusedVariables false
set_option linter.unusedSimpArgs false

set_option maxHeartbeats 2000000 in
set_option maxRecDepth 100000 in
theorem eqIs_any (w : World) (A : Option Addr) (n c : Nat) (xs : List Int) (B : Option Addr) (m d : Nat) (hD : IsIn A n xs w) (hE : IsIn B m xs w) (hn : n ≤ 4398046511104) :
    Calls Tryz.prog 141 #[.slice A n c, .slice B m d] w fun e w' => e = .returned (.bool true) ∧ ∃ q, w' = w.drewN q := by
  have HL := hid hD.len
  obtain rfl : n = m := by have := hE.len; have := HL.out; omega
  have hb : ((n : Int) != (n : Int)) = false := by simp
  go_enter Tryz.func141, Tryz.ntmps141
  go_wp2_with fail
  go_loopw [13] (fun i wr => ∃ (k q : Nat), k ≤ n ∧ i = .int .i64 k ∧ wr = w.drewN q) (fun i _ => n - (intOf i).toNat)
  case atStart => exact ⟨0, 0, by omega, rfl, rfl⟩
  case round =>
    obtain ⟨k, q, hk, rfl, rfl⟩ := hrel
    by_cases hlt : k < n
    · have hd : decide ((k : Int) < (n : Int)) = true := by simp; omega
      have i0 : (0 : Int) ≤ (k : Int) := by omega
      have i1 : (k : Int) < (n : Int) := by omega
      obtain ⟨b, o, rfl, hb1, hcc⟩ := hD.cells (by omega)
      obtain ⟨b', o', rfl, hb2, hce⟩ := hE.cells (by omega)
      have ck := hcc k (by rw [HL.out]; exact hlt)
      have ce := hce k (by rw [HL.out]; exact hlt)
      clear hcc hce
      generalize xs.getD k 0 = y at *
      have e1 : (y == y) = true := by simp
      have e2 : (y != y) = false := by simp
      go_wp2_with fail
      go_quiet (fail)
      go_wp2_with fail
      go_roundw
      case rel => exact ⟨k + 1, q + nq, by omega, by go_num, by first | rfl | exact World.drewN_drewN ..⟩
      case measure => simp [intOf]; omega
    · obtain rfl : n = k := by omega
      have hd : decide ((n : Int) < (n : Int)) = false := by simp
      go_wp2_with fail
      go_ret
      exact ⟨rfl, q, rfl⟩
set_option maxHeartbeats 4000000 in
set_option maxRecDepth 100000 in
theorem sameundo_any (M : Nat → Prop) (w : World) (hM : ∀ b, M b → b < w.heap.size) (x y : Ue) (N K : Nat) (hN : N ≤ 1000000) (hK : K ≤ 4398046511104) (gx : x.good N K) (rx : Ro w M (UeIn x)) (ry : Ro w M (UeIn y)) (hxy : x.ud = y.ud) :
    Calls Tryz.prog 71 #[.agg #[.string x.nm, .int .i64 x.nx, .slice x.I x.ni x.ci, .slice x.D x.nd x.cd, .slice x.U x.nu x.cu], .agg #[.string y.nm, .int .i64 y.nx, .slice y.I y.ni y.ci, .slice y.D y.nd y.cd, .slice y.U y.nu y.cu]] w fun e w' => e = .returned (.bool true) ∧ Below w.heap.size w w' := by
  have HG := hid gx
  have HXY := hid hxy
  have HNK := hid (And.intro hN hK)
  have e1 : x.nm = y.nm := congrArg Ud.nm hxy
  have e2 : x.nx = y.nx := congrArg Ud.nx hxy
  have e3 : x.li = y.li := congrArg Ud.ins hxy
  have HD := hid (show x.ld.map Rw.row = y.ld.map Rw.row from congrArg Ud.del hxy)
  have HU := hid (show x.lu.map Rw.row = y.lu.map Rw.row from congrArg Ud.upd hxy)
  have s1 : (x.nm.toList == y.nm.toList) = true := by simp [e1]
  have s2 : (x.nx == y.nx) = true := by simp [e2]
  have HI := hid e3
  clear hxy e1 e2 e3 gx hN hK
  have K0 := (((((Hold.start M w hM).add (ry.less (by simp [Mut]))).add (rx.less (by simp [Mut, Hp.foot]))).alloc #[.string x.nm, .int .i64 x.nx, .slice x.I x.ni x.ci, .slice x.D x.nd x.cd, .slice x.U x.nu x.cu] 129).alloc #[.string y.nm, .int .i64 y.nx, .slice y.I y.ni y.ci, .slice y.D y.nd y.cd, .slice y.U y.nu y.cu] 129)
  rw [World.size_alloc] at K0
  clear rx ry
  have F0 := K0.facts
  simp only [World.size_alloc, World.size_drew, factsL, cellsF, Nat.reduceAdd, List.toList_toArray, List.set_cons_zero, List.set_cons_succ, List.setIfInBounds_toArray, and_true, true_and] at F0
  go_enter Tryz.func71, Tryz.ntmps71
  go_wp2_with fail
  refine (eqIs_any _ x.I x.ni x.ci x.li y.I y.ni y.ci (K0.ro 2 rfl).now.1 (by rw [HI.out]; exact (K0.ro 3 rfl).now.1) (Nat.le_trans HG.out.i (Nat.le_trans HNK.out.1 (by omega)))).mono ?_
  rintro e w1 ⟨rfl, q, rfl⟩
  have K1 := K0.drewN q
  have F1 := K1.facts
  simp only [World.size_alloc, World.size_drew, factsL, cellsF, Nat.reduceAdd, List.toList_toArray, List.set_cons_zero, List.set_cons_succ, List.setIfInBounds_toArray, and_true, true_and] at F1
  clear K0 F0
  go_wp2_with fail
  refine (eqRws_any _ x.D x.nd x.cd x.ld y.D y.nd y.cd y.ld (K1.ro 2 rfl).now.2.1 (K1.ro 3 rfl).now.2.1 (Nat.le_trans HG.out.d (Nat.le_trans HNK.out.1 (by omega))) (fun r hr => Nat.le_trans (HG.out.ld r hr).2 HNK.out.2)).mono ?_
  rw [HD.out, decide_eq_true rfl]
  rintro e w2 ⟨rfl, b2⟩
  have K2 := K1.call b2
  have F2 := K2.facts
  simp only [World.size_alloc, World.size_drew, factsL, cellsF, Nat.reduceAdd, List.toList_toArray, List.set_cons_zero, List.set_cons_succ, List.setIfInBounds_toArray, and_true, true_and] at F2
  clear K1 F1 b2
  go_wp2_with fail
  refine (eqRws_any _ x.U x.nu x.cu x.lu y.U y.nu y.cu y.lu (K2.ro 2 rfl).now.2.2 (K2.ro 3 rfl).now.2.2 (Nat.le_trans HG.out.u (Nat.le_trans HNK.out.1 (by omega))) (fun r hr => Nat.le_trans (HG.out.lu r hr).2 HNK.out.2)).mono ?_
  rw [HU.out, decide_eq_true rfl]
  rintro e w3 ⟨rfl, b3⟩
  have K3 := K2.call b3
  clear K2 F2 b3
  go_wp2_with fail
  go_ret
  exact ⟨rfl, K3.below⟩
set_option maxHeartbeats 4000000 in
set_option maxRecDepth 100000 in
theorem eqUndos_any (M : Nat → Prop) (w : World) (hM : ∀ b, M b → b < w.heap.size) (A : Option Addr) (n c : Nat) (xs : List Ue) (B : Option Addr) (m d : Nat) (ys : List Ue) (N K : Nat) (hN : N ≤ 1000000) (hK : K ≤ 4398046511104) (hD : Ro w M (UesIn A n xs)) (hE : Ro w M (UesIn B m ys)) (hn : n ≤ 1000000) (hr : ∀ r ∈ xs, r.good N K) (hxy : xs.map Ue.ud = ys.map Ue.ud) :
    Calls Tryz.prog 70 #[.slice A n c, .slice B m d, .func (.func 71) #[] #[]] w fun e w' => e = .returned (.bool true) ∧ Below w.heap.size w w' := by
  have HL := hid hD.now.len
  have HK := hid hE.now.len
  obtain rfl : n = m := by have := HL.out; have := HK.out; have h := congrArg List.length hxy; rw [List.length_map, List.length_map] at h; omega
  have hb : ((n : Int) != (n : Int)) = false := by simp
  have HG := hid hr
  have HXY := hid hxy
  clear hr hxy
  have K0 := ((Hold.start M w hM).add (hE.less (by simp [Mut]))).add (hD.less (by simp [Mut, Hp.foot]))
  clear hD hE
  go_enter Tryz.func70, Tryz.ntmps70
  go_wp2_with fail
  go_loopw [17] (fun i wr => ∃ (k : Nat), k ≤ n ∧ i = .int .i64 k ∧ Hold M none w wr [.ro (UesIn A n xs), .ro (UesIn B n ys)]) (fun i _ => n - (intOf i).toNat)
  case atStart => exact ⟨0, by omega, rfl, K0⟩
  case round =>
    clear K0
    obtain ⟨k, hk, rfl, H⟩ := hrel
    by_cases hlt : k < n
    · have hd : decide ((k : Int) < (n : Int)) = true := by simp; omega
      have i0 : (0 : Int) ≤ (k : Int) := by omega
      have i1 : (k : Int) < (n : Int) := by omega
      obtain ⟨x, hx⟩ := get_of HL.out hlt
      obtain ⟨y, hy⟩ := get_of HK.out hlt
      have HXN := hid (HG.out x (List.mem_of_getElem? hx))
      have HXM := hid (List.mem_of_getElem? hx)
      have HYM := hid (List.mem_of_getElem? hy)
      have HE := hid (show x.ud = y.ud by
        have h := congrArg (fun l => l[k]?) HXY.out
        simpa [hx, hy] using h)
      obtain ⟨g, o, rfl, hbx, x0, x1, x2, x3, x4, -⟩ := (H.ro 0 rfl).now.at_ hx
      obtain ⟨g', o', rfl, hby, y0, y1, y2, y3, y4, -⟩ := (H.ro 1 rfl).now.at_ hy
      have K2 := (H.alloc_cst #[.string x.nm, .int .i64 x.nx, .slice x.I x.ni x.ci, .slice x.D x.nd x.cd, .slice x.U x.nu x.cu] 129).alloc_cst #[.string y.nm, .int .i64 y.nx, .slice y.I y.ni y.ci, .slice y.D y.nd y.cd, .slice y.U y.nu y.cu] 129
      clear hx hy H
      have FA := K2.facts
      simp only [World.size_alloc, World.size_drew, factsL, cellsF, Nat.reduceAdd, List.toList_toArray, List.set_cons_zero, List.set_cons_succ, List.setIfInBounds_toArray, and_true, true_and] at FA
      go_wp2_with fail
      refine (sameundo_any _ _ K2.mutLt x y N K hN hK HXN.out ((K2.ro 2 rfl).imp fun w2 h2 => h2.2 x HXM.out) ((K2.ro 3 rfl).imp fun w2 h2 => h2.2 y HYM.out) HE.out).mono ?_
      rintro e w3 ⟨rfl, b3⟩
      have K3 := (K2.call b3).drop (List.Sublist.cons _ (List.sublist_cons_self _ _))
      clear K2 FA b3
      go_wp2_with fail
      go_roundw
      case rel => exact ⟨k + 1, by omega, by go_num, K3⟩
      case measure => simp [intOf]; omega
    · obtain rfl : n = k := by omega
      have hd : decide ((n : Int) < (n : Int)) = false := by simp
      go_wp2_with fail
      go_ret
      exact ⟨rfl, H.below⟩
theorem sameLog_any (M : Nat → Prop) (w : World) (hM : ∀ b, M b → b < w.heap.size) (A : Option Addr) (n c : Nat) (xs : List Ue) (B : Option Addr) (m d : Nat) (ys : List Ue) (N K : Nat) (hN : N ≤ 1000000) (hK : K ≤ 4398046511104) (hD : Ro w M (UesIn A n xs)) (hE : Ro w M (UesIn B m ys)) (hn : n ≤ 1000000) (hr : ∀ r ∈ xs, r.good N K) (hxy : xs.map Ue.ud = ys.map Ue.ud) :
    Calls Tryz.prog 22 #[.slice A n c, .slice B m d] w fun e w' => e = .returned (.bool true) ∧ Below w.heap.size w w' := by
  have HE := hid (eqUndos_any M w hM A n c xs B m d ys N K hN hK hD hE hn hr hxy)
  clear hD hE hr
  go_enter Tryz.func22, Tryz.ntmps22
  go_wp2_with fail
  refine HE.out.mono ?_
  rintro e w1 ⟨rfl, b1⟩
  have HB := hid b1
  clear b1 HE
  go_wp2_with fail
  go_ret
  exact ⟨rfl, HB.out⟩
end Go.Proofs.YtedogodccblfeaaGreatDoor

namespace Go.Proofs.YtedogodccblfeaaGreatDoor
open Go.RowKit
set_option linter.unusedVariables false
set_option linter.unusedSimpArgs false

/-- a store handed back in a row of the call's own -/
def TesOwn (w : World) (M : Nat → Prop) (ts : List Tb) (e : Ending) (w' : World) : Prop := ∃ (A : Option Addr) (n c : Nat) (l : List Te), e = .returned (.slice A n c) ∧ l.map Te.tb = ts ∧ (∀ x ∈ l, x.ok) ∧ w'.ownsRow w.heap.size 58 4 (.slice A n c) n (teCells l) ∧ Ro w' (Mut M [.own 58 4 (.slice A n c) n (teCells l)]) (TeVals l) ∧ Below w.heap.size w w'
theorem set_app_right {α : Type} (a b : List α) (i : Nat) (v : α) : (a ++ b).set (a.length + i) v = a ++ b.set i v := by
  rw [List.set_append_right _ _ (by omega)]; congr 2; omega
theorem teCells_set : ∀ {l : List Te} {k : Nat} {x : Te} (y : Te), l[k]? = some x → ((((teCells l).set (k * 4) (.string y.nm)).set (k * 4 + 1) (.slice y.A y.n y.c)).set (k * 4 + 2) (.int .i64 y.nx)).set (k * 4 + 3) (.slice y.B y.m y.d) = teCells (l.set k y)
  | [], k, x, y, h => by simp at h
  | z :: l, 0, x, y, h => by simp [teCells, Te.cells]
  | z :: l, k + 1, x, y, h => by
    have ih := teCells_set (l := l) (k := k) (x := x) y (by simpa using h)
    have e : teCells (z :: l) = z.cells ++ teCells l := by simp [teCells]
    have hl : z.cells.length = 4 := rfl
    have c : ∀ (b : List Value) (j : Nat) (v : Value), (z.cells ++ b).set ((k + 1) * 4 + j) v = z.cells ++ b.set (k * 4 + j) v := fun b j v => by
      rw [show (k + 1) * 4 + j = z.cells.length + (k * 4 + j) by rw [hl]; omega]; exact set_app_right _ _ _ _
    have c0 : ∀ (b : List Value) (v : Value), (z.cells ++ b).set ((k + 1) * 4) v = z.cells ++ b.set (k * 4) v := fun b v => c b 0 v
    rw [e, c0, c, c, c, ih]
    simp [teCells]
theorem teVals_set {M : Nat → Prop} {w : World} {l : List Te} {k : Nat} {y : Te} (h : Ro w M (TeVals l)) (hy : Ro w M (TeIn y)) : Ro w M (TeVals (l.set k y)) := fun w2 h1 h2 x hx => by
  rcases List.mem_or_eq_of_mem_set hx with hx | rfl
  · exact h w2 h1 h2 x hx
  · exact hy w2 h1 h2
set_option maxHeartbeats 4000000 in
set_option maxRecDepth 100000 in
theorem copiesO_any (M : Nat → Prop) (w : World) (hM : ∀ b, M b → b < w.heap.size) (A : Option Addr) (n c : Nat) (l : List Te) (hok : ∀ x ∈ l, TeLim x) (hD : Ro w M (TesIn A n l)) (hn : n ≤ 1000000) :
    Calls Tryz.prog 65 #[.slice A n c] w fun e w' => TesOwn w M (l.map Te.tb) e w' := by
  have HL := hid hD.now.len
  have HOK := hid hok
  clear hok
  have K0 := (((Hold.start M w hM).add (hD.less (by simp [Mut]))).add (teVals_nil _ _)).nil 58 4
  clear hD
  go_enter Tryz.func65, Tryz.ntmps65
  go_wp2_with fail
  go_loopw [3, 8] (fun ov iv wr => ∃ (j cap : Nat) (O : Option Addr) (outs : List Te), j ≤ n ∧ iv = .int .i64 j ∧ ov = .slice O j cap ∧ Hid (TeStep outs l j) ∧ Hold M none w wr [.own 58 4 (.slice O j cap) j (teCells outs), .ro (TeVals outs), .ro (TesIn A n l)]) (fun _ iv _ => n - (intOf iv).toNat)
  case atStart => exact ⟨0, 0, none, [], by omega, rfl, rfl, hid ⟨rfl, fun r hr => nomatch hr⟩, K0⟩
  case round =>
    clear K0
    obtain ⟨j, cap, O, outs, hj, rfl, rfl, HW, H⟩ := hrel
    by_cases hlt : j < n
    · have hd : decide ((j : Int) < (n : Int)) = true := by simp; omega
      have j0 : (0 : Int) ≤ (j : Int) := by omega
      have j1 : (j : Int) < (n : Int) := by omega
      obtain ⟨x, hx⟩ := get_of HL.out hlt
      obtain ⟨g, o, rfl, hb, c0, c1, c2, c3, -⟩ := (H.ro 2 rfl).now.at_ hx
      have HXO := hid (HOK.out x (List.mem_of_getElem? hx))
      have HXM := hid (List.mem_of_getElem? hx)
      have HXG := hid hx
      clear hx
      have K1 := H.alloc_cst #[.string x.nm, .slice x.A x.n x.c, .int .i64 x.nx, .slice x.B x.m x.d] 58
      have FA := K1.facts
      simp only [World.size_alloc, World.size_drew, factsL, cellsF, Nat.reduceAdd, List.toList_toArray, List.set_cons_zero, List.set_cons_succ, List.setIfInBounds_toArray, and_true, true_and] at FA
      clear H
      go_wp2_with fail
      refine (scopied_any _ _ K1.mutLt x.nm x.A x.n x.c x.cs x.nx x.B x.m x.d 4398046511104 x.l ((K1.ro 3 rfl).imp fun w2 h2 => (h2.2 x HXM.out).1) ((K1.ro 3 rfl).imp fun w2 h2 => (h2.2 x HXM.out).2) HXO.out.1 HXO.out.2.1 (by omega) HXO.out.2.2).mono ?_
      rintro e w5 ⟨y, rfl, hy, hyo, ry, b5⟩
      have hv : y.val = .agg #[.string y.nm, .slice y.A y.n y.c, .int .i64 y.nx, .slice y.B y.m y.d] := rfl
      rw [hv]
      clear hv
      have K2 := (K1.call b5).add ry
      have HS2 := hid (show TeStep (outs ++ [y]) l (j + 1) from ⟨by rw [List.map_append, HW.out.1, List.take_add_one, HXG.out, List.map_append]; exact congrArg _ (congrArg (fun z => [z]) hy), fun z hz => by
        rcases List.mem_append.1 hz with hz | hz
        · exact HW.out.2 z hz
        · simp at hz; subst hz; exact hyo⟩)
      clear b5 ry K1 FA hy hyo
      go_wp2_with (at_builtin; go_must (refine wpList_appH K2 2 rfl Tryz.elTe #[.string y.nm, .slice y.A y.n y.c, .int .i64 y.nx, .slice y.B y.m y.d] rfl (.tmp 12) (.tmp 15) rfl rfl _ (by first | rfl | simp) rfl rfl (by intro u hu; simp at hu; rcases hu with rfl | rfl | rfl | rfl <;> rfl) (by omega) (by omega) ?_); intro g9 cap9 w9 hc9 hm9 KB; simp only [List.set_cons_zero, List.set_cons_succ] at KB)
      have e9 : teCells outs ++ (#[.string y.nm, .slice y.A y.n y.c, .int .i64 y.nx, .slice y.B y.m y.d]).toList = teCells (outs ++ [y]) := (teCells_snoc outs y).symm
      rw [e9] at KB
      have KC := (KB.swapRo 3 rfl (teVals_snoc (r := y) (KB.ro 3 rfl) (KB.ro 0 rfl))).drop (List.Sublist.cons _ (List.sublist_cons_self _ _))
      go_roundw
      case rel => exact ⟨j + 1, cap9, _, _, by omega, by go_num, by first | rfl | trivial, HS2, KC⟩
      case measure => simp [intOf]; omega
    · obtain rfl : n = j := by omega
      have hd : decide ((n : Int) < (n : Int)) = false := by simp
      have hcap := own_caps (H.get 0 rfl)
      have HW2 := hid (show outs.map Te.tb = l.map Te.tb by have h := HW.out.1; rwa [List.take_of_length_le (by rw [HL.out]; exact Nat.le_refl _)] at h)
      have HO := hid (H.get 0 rfl)
      have HR := hid ((H.ro 1 rfl).less (fun b hb => mut_one hb))
      have HB := hid H.below
      clear H hcap
      go_wp2_with fail
      go_ret
      exact ⟨O, n, cap, outs, rfl, HW2.out, HW.out.2, HO.out, HR.out, HB.out⟩
end Go.Proofs.YtedogodccblfeaaGreatDoor

namespace Go.Proofs.YtedogodccblfeaaGreatDoor
open Go.RowKit
set_option linter.unusedVariables false
set_option linter.unusedSimpArgs false

/-- a log's place: none, or a block's place -/
def LogAt (B : Option Addr) (m d : Nat) : Prop := (B = none ∧ m = 0 ∧ d = 0) ∨ ∃ lb lo : Nat, B = some ⟨lb, lo, none⟩
def StepRet (w : World) (T : Nat) (M : Nat → Prop) (N K : Nat) (S : List Tb) (us : List Ud) (e : Ending) (w' : World) : Prop := ∃ (A : Option Addr) (c : Nat) (l : List Te) (B : Option Addr) (m d : Nat) (g : List Ue), e = .returned (.tuple #[.slice A 3 c, .slice B m d, .bool true]) ∧
  (3 ≤ c ∧ c ≤ 9223372036854775807 ∧ (∀ x ∈ l, x.ok) ∧ Ro w' M (TesIn A 3 l)) ∧ (m ≤ d ∧ d ≤ 9223372036854775807 ∧ (∀ x ∈ g, x.good N K) ∧ LogAt B m d ∧ Ro w' M (UesIn B m g)) ∧ StepD S us (l.map Te.tb) (g.map Ue.ud) ∧ Tp w' T ∧ w.grownBy w' (some T)
def Chg3 (M : Nat → Prop) (u : Value) (w : World) : Prop := ∃ (ins : List (List Vl)) (dels : List Int) (us : List Upd), ChgSlot M ins dels us u w ∧ ins.length ≤ 3 ∧ dels.length ≤ 2000 ∧ us.length ≤ 2000
theorem chg3_mono {M : Nat → Prop} (u : Value) (w w' : World) (hr : RM M w w') (h : Chg3 M u w) : Chg3 M u w' := by
  obtain ⟨i, d, s, h1, h2⟩ := h
  exact ⟨i, d, s, chgSlot_mono _ _ _ hr h1, h2⟩
def RecSl (M : Nat → Prop) (N K : Nat) (us : List Ud) (u : Value) (w : World) : Prop := ∃ (A : Option Addr) (n c : Nat) (l : List Ue), u = .tuple #[.slice A n c, .bool true] ∧ n ≤ c ∧ c ≤ 9223372036854775807 ∧ l.map Ue.ud = us ∧ (∀ x ∈ l, x.good N K) ∧ Ro w M (UesIn A n l)
theorem recSl_mono {M : Nat → Prop} {N K : Nat} {us : List Ud} (u : Value) (w w' : World) (hr : RM M w w') (h : RecSl M N K us u w) : RecSl M N K us u w' := by
  obtain ⟨A, n, c, l, h1, h2, h3, h4, h5, h6⟩ := h
  exact ⟨A, n, c, l, h1, h2, h3, h4, h5, hr.ro h6⟩
set_option maxHeartbeats 16000000 in
set_option maxRecDepth 100000 in
theorem sstep_any (M : Nat → Prop) (T : Nat) (w : World) (hM : ∀ b, M b → b < w.heap.size) (ht : Tp w T) (hMT : ∀ b, M b → T ≤ b) (A : Option Addr) (c : Nat) (l : List Te) (B : Option Addr) (m d : Nat) (lg : List Ue) (N K : Nat) (hN : N ≤ 1000000) (hK : K ≤ 4398046511104) (hN1 : 25 ≤ N) (hK1 : 4 ≤ K) (hc : 3 ≤ c) (hc2 : c ≤ 9223372036854775807) (hmd : m ≤ d) (hd2 : d ≤ 9223372036854775807) (hm : m ≤ 1000) (hB : LogAt B m d)
    (hl : Ro w (Mut M [.tp T]) (TesIn A 3 l)) (hlg : Ro w (Mut M [.tp T]) (UesIn B m lg)) (hok : ∀ x ∈ l, x.ok ∧ x.tb.rs.length ≤ 19) (hst : StOk (l.map Te.tb)) (hg : ∀ u ∈ lg, u.good N K) (hW : Ro w (Mut M [.tp T]) Wds) (hw : 2 < T) :
    Calls Tryz.prog 18 #[.pointer (some ⟨T, 0, none⟩), .slice A 3 c, .slice B m d] w fun e w' => StepRet w T M N K (l.map Te.tb) (lg.map Ue.ud) e w' := by
  have HOK := hid hok
  have HST := hid hst
  have HG := hid hg
  have HNK := hid (And.intro hN (And.intro hK (And.intro hN1 hK1)))
  have HL := hid hl.now.len
  have HLG := hid hlg.now.len
  have K0 := (((Hold.startT M w T hM ht hMT).add hW).add (hlg.less (by simp [Mut, Hp.foot]))).add (hl.less (by simp [Mut, Hp.foot]))
  have K1 := K0.alloc_own #[] 58 4 0 (by unfold maxLen; omega) rfl
  have hr := hid (show SlR 4 A 3 (teCells l) _ from (K1.ro 1 rfl).now.1)
  clear hok hst hg hl hlg hW hN hK hN1 hK1 K0
  go_enter Tryz.func18, Tryz.ntmps18
  go_wp2_with (at_builtin; go_must (refine wpList_appAllH K1 0 rfl Tryz.elTe hr.out rfl (.tmp 17) (.tmp 18) rfl rfl rfl (one_tes l) (by omega) (by omega) ?_); intro C' cap' w2 hc1 hm1 K2; simp only [Nat.zero_add, List.nil_append, List.set_cons_zero] at K2)
  obtain ⟨g, rfl⟩ : ∃ g, C' = some ⟨g, 0, none⟩ := by
    rcases own_addr (K2.get 0 rfl) with ⟨-, h0, -⟩ | ⟨g, h, -⟩
    · omega
    · exact ⟨g, h⟩
  refine (next_any T 3 _ (K2.tp_ 4 rfl) (by omega) (by omega)).mono ?_
  rintro e w3 ⟨k, rfl, k0, k1, t3, g3⟩
  have K3 := Hold.callT K2 4 rfl g3 t3
  obtain ⟨k, rfl⟩ := Int.eq_ofNat_of_zero_le k0
  have hk : k < 3 := by omega
  obtain ⟨x, hx⟩ := get_of HL.out hk
  have HXK := hid hx
  have HXO := hid (HOK.out x (List.mem_of_getElem? hx))
  have HXV := hid (HST.out.at_ k x.tb (te_at hx)).2.2
  clear K1 K2 t3 g3 hx hr
  go_wp2_with fail
  obtain ⟨KL, hKL, KN⟩ := K3.name
  have HF : Hid (∀ wv, Hold M (some T) w wv KL → wv.cell? ⟨g, k * 4, none⟩ = some (.string x.nm) ∧ wv.cell? ⟨g, k * 4 + 1, none⟩ = some (.slice x.A x.n x.c) ∧ wv.cell? ⟨g, k * 4 + 2, none⟩ = some (.int .i64 x.nx) ∧ wv.cell? ⟨g, k * 4 + 3, none⟩ = some (.slice x.B x.m x.d) ∧ g < wv.heap.size) := hid fun wv HC => by
    rw [hKL] at HC
    have ho := HC.get 0 rfl
    exact ⟨(ho.cellAt _ (by omega)).trans (flat_get Te.cells 4 (fun _ => rfl) l k 0 x (by omega) HXK.out), (ho.cellAt _ (by omega)).trans (flat_get Te.cells 4 (fun _ => rfl) l k 1 x (by omega) HXK.out), (ho.cellAt _ (by omega)).trans (flat_get Te.cells 4 (fun _ => rfl) l k 2 x (by omega) HXK.out), (ho.cellAt _ (by omega)).trans (flat_get Te.cells 4 (fun _ => rfl) l k 3 x (by omega) HXK.out), (ho.lt g rfl).2⟩
  have HX : Hid (∀ wv, Hold M (some T) w wv KL → TbAt wv (Mut M KL) (.agg #[.string x.nm, .slice x.A x.n x.c, .int .i64 x.nx, .slice x.B x.m x.d]) x.tb ∧ Tp wv T ∧ (∀ b, Mut M KL b → T ≤ b) ∧ Ro wv (Mut M KL) Wds) := hid fun wv HC => by
    rw [hKL] at HC ⊢
    exact ⟨te_tb HXO.out.1 ((HC.ro 1 rfl).imp fun w2 h2 => h2.2 x (List.mem_of_getElem? HXK.out)), HC.tp_ 4 rfl, (HC.get 4 rfl).2, HC.ro 3 rfl⟩
  have HTP := hid (show KL[4]? = some (.tp T) by rw [hKL]; rfl)
  have HKL := hid hKL
  clear hKL K3
  obtain ⟨Hb, hHb⟩ : ∃ Hb, Hb = w3.drew.heap.size := ⟨_, rfl⟩
  have HHb := hid hHb
  clear hHb
  refine wp_region_any (by kernel_rfl) ?_
  refine wpAny_holdE [13] 15 76 (KL) (spL [(34, Chg3 (Mut M KL)), (35, Ap3 (Mut M KL) x.tb), (24, Ap3 (Mut M KL) x.tb), (11, NewSlot (Mut M KL) Hb 58 #[.string ⟨#[]⟩, .slice none 0 0, .int .i64 0, .slice none 0 0])]) (by kernel_rfl) (fun _ d _ _ _ h => by cases d <;> exact h) (by kernel_rfl) (by kernel_rfl) rfl ?_ (KN.drew) ?_
  · exact stays_cons chg3_mono (stays_cons ap3_mono (stays_cons ap3_mono (stays_cons newSlot_mono (stays_nil _))))
  simp only [List.take_succ_cons, List.take_zero, List.drop_succ_cons, List.drop_zero, Act.put, List.getElem_toArray, List.getElem_cons_zero, List.getElem_cons_succ, List.setIfInBounds_toArray, List.set_cons_succ, List.set_cons_zero]
  repeat (first | (refine dw_skip rfl rfl rfl ?_; simp only [Act.put, List.setIfInBounds_toArray, List.set_cons_succ, List.set_cons_zero]) | (refine dw_val rfl rfl rfl ?_; apply Exists.intro; refine ⟨fun wv HC => ?_, ?_⟩; (focus (obtain ⟨f0, f1, f2, f3, f4⟩ := HF.out _ HC; go_simp <;> rfl; done)); simp only [Act.put, List.setIfInBounds_toArray, List.set_cons_succ, List.set_cons_zero]))
  refine dw_callR 34 (Chg3 (Mut M KL)) (f := 25) (args := #[.pointer (some ⟨T, 0, none⟩), .agg #[.string x.nm, .slice x.A x.n x.c, .int .i64 x.nx, .slice x.B x.m x.d]]) rfl rfl rfl rfl (fun wv => ?_) (fun wv HC hrm hD => ?_) ?_
  · go_simp <;> rfl
  · refine (chgof_slot (Mut M KL) T wv HC.mutLt (HX.out _ HC).2.1 (HX.out _ HC).2.2.1 _ x.tb (tbAt_less (HX.out _ HC).1 (mut_tp (i := 4) HTP.out)) HXV.out ((HX.out _ HC).2.2.2.less (mut_tp (i := 4) HTP.out)) hw).mono ?_
    rintro e w5 ⟨v5, i5, d5, u5, rfl, hc5, hb1, hb2, hb3, t5, g5'⟩
    have hvr := HXV.out.rows
    exact ⟨_, rfl, ⟨i5, d5, u5, hc5, hb1, by omega, by omega⟩, Hold.callT HC 4 HTP.out g5' t5, RM.grown g5' (.inr ⟨_, List.mem_of_getElem? (i := 4) HTP.out, rfl⟩)⟩
  rintro s34 wx HCx hs34
  clear HCx hs34
  simp only [Act.put, List.setIfInBounds_toArray, List.set_cons_succ, List.set_cons_zero]
  refine dw_callR 35 (Ap3 (Mut M KL) x.tb) (f := 24) (args := #[.agg #[.string x.nm, .slice x.A x.n x.c, .int .i64 x.nx, .slice x.B x.m x.d], s34]) rfl rfl rfl rfl (fun wv => ?_) (fun wv HC hrm hD => ?_) ?_
  · go_simp <;> rfl
  · have hsl : Chg3 (Mut M KL) s34 wv := deps_at hD 9 rfl (by kernel_rfl) rfl rfl
    obtain ⟨i5, d5, u5, h5, hb1, hb2, hb3⟩ := hsl
    have hvr := HXV.out.rows
    refine (rapply_slot _ wv HC.mutLt _ _ x.tb i5 d5 u5 (HX.out _ HC).1 h5 HXV.out.sch.nm HXV.out.sch.cs (by omega) (fun r hr => by have := HXV.out.len r hr; omega) (by omega) (by omega) (by omega)).mono ?_
    rintro e w6 ⟨u6, rfl, hv6, b6⟩
    exact ⟨_, rfl, ⟨i5, d5, u5, hv6, hb1⟩, HC.call b6, RM.below b6⟩
  rintro u_ wx HCx ⟨i5, d5, u5, ⟨v5, rfl, hv5⟩, hb1⟩
  obtain ⟨y, rfl, -, -, -⟩ := tb_te hv5
  obtain ⟨e5, he5⟩ : ∃ e5, e5 = (applyC x.tb.nm x.tb.cs x.tb.nx x.tb.rs i5 d5 u5).1 := ⟨_, rfl⟩
  rw [← he5]
  clear HCx hv5 he5 hb1 i5 d5 u5
  have hyv : y.val = .agg #[.string y.nm, .slice y.A y.n y.c, .int .i64 y.nx, .slice y.B y.m y.d] := rfl
  rw [hyv]
  clear hyv
  simp only [Act.put, List.setIfInBounds_toArray, List.set_cons_succ, List.set_cons_zero]
  refine dw_valC 24 (Ap3 (Mut M KL) x.tb) rfl rfl rfl rfl (.tuple #[.agg #[.string y.nm, .slice y.A y.n y.c, .int .i64 y.nx, .slice y.B y.m y.d], .int .i64 e5]) (fun wv HC => ?_) (fun wv HC hD => ?_) ?_
  · go_simp <;> rfl
  · exact deps_at hD 10 rfl (by kernel_rfl) rfl rfl
  simp only [Act.put, List.setIfInBounds_toArray, List.set_cons_succ, List.set_cons_zero]
  refine dw_val rfl rfl rfl ?_; apply Exists.intro; refine ⟨fun wv HC => ?_, ?_⟩
  ·  go_simp <;> rfl
  simp only [Act.put, List.setIfInBounds_toArray, List.set_cons_succ, List.set_cons_zero]
  refine dw_val rfl rfl rfl ?_; apply Exists.intro; refine ⟨fun wv HC => ?_, ?_⟩
  ·  go_simp <;> rfl
  simp only [Act.put, List.setIfInBounds_toArray, List.set_cons_succ, List.set_cons_zero]
  refine dw_new #[.string ⟨#[]⟩, .slice none 0 0, .int .i64 0, .slice none 0 0] 58 11 (NewSlot (Mut M KL) Hb 58 #[.string ⟨#[]⟩, .slice none 0 0, .int .i64 0, .slice none 0 0]) (fun g => .pointer (some ⟨g, 0, none⟩)) rfl rfl rfl rfl (fun wv => ?_) (fun wv HC hrm hD hro => ?_) ?_
  · go_simp <;> rfl
  · exact ⟨_, rfl, by have := hrm.1; rw [HHb.out]; exact this, hro _ HC.mutLt⟩
  rintro gb wg HCg hsl
  simp only [Act.put, List.setIfInBounds_toArray, List.set_cons_succ, List.set_cons_zero]
  clear hsl HCg
  refine rel_nil ?_
  rintro wxb HY
  rintro _hrm HGW
  have hap : Ap3 (Mut M KL) x.tb (.tuple #[.agg #[.string y.nm, .slice y.A y.n y.c, .int .i64 y.nx, .slice y.B y.m y.d], .int .i64 e5]) wxb := (GW_on (d := 24) rfl).1 (HGW 11 _ rfl (by omega))
  have hns : NewSlot (Mut M KL) Hb 58 #[.string ⟨#[]⟩, .slice none 0 0, .int .i64 0, .slice none 0 0] (.pointer (some ⟨gb, 0, none⟩)) wxb := (GW_on (d := 11) rfl).1 (HGW 14 _ rfl (by omega))
  clear HGW
  obtain ⟨g7, hg7, hgH, hgB⟩ := hns
  obtain rfl : gb = g7 := by injection hg7 with hg7; injection hg7 with hg7; injection hg7
  clear hg7
  rw [HHb.out] at hgH
  have HB := Hold.addFreshBlk KN.drew HY _hrm hgH hgB.now
  have hgn := hgB.now
  obtain ⟨i6, d6, u6, ⟨v6, hv6, TT⟩, hi6⟩ := hap
  obtain ⟨E6, hE6⟩ : ∃ E6 : Int × Tb, E6 = applyC x.tb.nm x.tb.cs x.tb.nx x.tb.rs i6 d6 u6 := ⟨_, rfl⟩
  rw [← hE6] at hv6 TT
  obtain ⟨e6, T6⟩ := E6
  dsimp only at hv6 TT
  obtain ⟨rfl, rfl⟩ : _ = v6 ∧ e5 = e6 := by injection hv6 with hv6; simpa using hv6
  clear hv6
  obtain ⟨y2, ev, rfl, hyo, ry⟩ := tb_te TT
  have ev : Value.agg #[.string y.nm, .slice y.A y.n y.c, .int .i64 y.nx, .slice y.B y.m y.d] = .agg #[.string y2.nm, .slice y2.A y2.n y2.c, .int .i64 y2.nx, .slice y2.B y2.m y2.d] := ev
  rw [ev]
  clear ev TT hgH HY _hrm HHb KN HF HX hgB
  by_cases h0 : e5 = 0
  · subst h0
    have hap := apOk_of hE6.symm
    have HY2 := hid (show y2.ok ∧ VTab y2.tb ∧ LaterOk x.tb y2.tb ∧ y2.tb.rs.length ≤ x.tb.rs.length + 3 from ⟨hyo, hap.vtab HXV.out, hap.later, by have := hap.rows; omega⟩)
    clear hap hE6 hyo
    have K3 := HB.add ((te_apart ry HY2.out.2.1 hgn).less fun b hb => (mut_cons.1 hb).elim (fun hf => Or.inl (by have hf : some gb = some b := hf; injection hf with hf; exact hf.symm)) Or.inr)
    clear ry hgn
    rw [HKL.out] at K3
    clear HB HKL HTP
    have FB := K3.facts
    simp only [World.size_alloc, World.size_drew, factsL, cellsF, Nat.reduceAdd, List.toList_toArray, List.set_cons_zero, List.set_cons_succ, List.setIfInBounds_toArray, and_true, true_and] at FB
    have K4 := (((K3.store 1 rfl 0 (.string y2.nm)).store 1 rfl 1 (.slice y2.A y2.n y2.c)).store 1 rfl 2 (.int .i64 y2.nx)).store 1 rfl 3 (.slice y2.B y2.m y2.d)
    simp only [List.set_cons_zero, List.set_cons_succ, List.setIfInBounds_toArray] at K4
    go_wp2_with fail
    generalize World.setCell _ _ _ = w12 at K4 ⊢
    clear FB K3
    have HBT := hid (betC_later HXV.out.val HY2.out.2.1.val HY2.out.2.2.1)
    have HBS := hid (betD_small HXV.out HY2.out.2.1 (HOK.out x (List.mem_of_getElem? HXK.out)).2 (by have := (HOK.out x (List.mem_of_getElem? HXK.out)).2; have := HY2.out.2.2.2; omega) HNK.out.2.2.1 HNK.out.2.2.2)
    have KF := K4
    obtain ⟨KL, hKL, KN⟩ := KF.name
    have HF : Hid (∀ wv, Hold M (some T) w wv KL → wv.cell? ⟨g, k * 4, none⟩ = some (.string x.nm) ∧ wv.cell? ⟨g, k * 4 + 1, none⟩ = some (.slice x.A x.n x.c) ∧ wv.cell? ⟨g, k * 4 + 2, none⟩ = some (.int .i64 x.nx) ∧ wv.cell? ⟨g, k * 4 + 3, none⟩ = some (.slice x.B x.m x.d) ∧ g < wv.heap.size ∧
        wv.cell? ⟨gb, 0, none⟩ = some (.string y2.nm) ∧ wv.cell? ⟨gb, 1, none⟩ = some (.slice y2.A y2.n y2.c) ∧ wv.cell? ⟨gb, 2, none⟩ = some (.int .i64 y2.nx) ∧ wv.cell? ⟨gb, 3, none⟩ = some (.slice y2.B y2.m y2.d) ∧ gb < wv.heap.size) := hid fun wv HC => by
      rw [hKL] at HC
      have ho := HC.get 2 rfl
      have yb := HC.blk_ 1 rfl
      exact ⟨(ho.cellAt _ (by omega)).trans (flat_get Te.cells 4 (fun _ => rfl) l k 0 x (by omega) HXK.out), (ho.cellAt _ (by omega)).trans (flat_get Te.cells 4 (fun _ => rfl) l k 1 x (by omega) HXK.out), (ho.cellAt _ (by omega)).trans (flat_get Te.cells 4 (fun _ => rfl) l k 2 x (by omega) HXK.out), (ho.cellAt _ (by omega)).trans (flat_get Te.cells 4 (fun _ => rfl) l k 3 x (by omega) HXK.out), (ho.lt g rfl).2, cell_of_row _ _ 0 _ _ _ yb, cell_of_row _ _ 1 _ _ _ yb, cell_of_row _ _ 2 _ _ _ yb, cell_of_row _ _ 3 _ _ _ yb, Blk.lt yb⟩
    have HX : Hid (∀ wv, Hold M (some T) w wv KL → Ro wv (Mut M KL) (TeIn x) ∧ Ro wv (Mut M KL) (TeIn y2) ∧ Ro wv (Mut M KL) (UesIn B m lg)) := hid fun wv HC => by
      rw [hKL] at HC ⊢
      exact ⟨(HC.ro 3 rfl).imp fun w2 h2 => h2.2 x (List.mem_of_getElem? HXK.out), HC.ro 0 rfl, HC.ro 4 rfl⟩
    have HKL := hid hKL
    clear hKL KF K4
    refine wp_region_any (by kernel_rfl) ?_
    refine wpAny_hold 12 76 (KL) (spL [(49, RecSl (Mut M KL) N K (lg.map Ue.ud ++ [recD x.tb y2.tb]))]) (by kernel_rfl) (by kernel_rfl) (by kernel_rfl) rfl ?_ (KN.drew) ?_
    · exact stays_cons recSl_mono (stays_nil _)
    simp only [List.take_succ_cons, List.take_zero, List.drop_succ_cons, List.drop_zero, Act.put, List.getElem_toArray, List.getElem_cons_zero, List.getElem_cons_succ, List.setIfInBounds_toArray, List.set_cons_succ, List.set_cons_zero]
    repeat (first | (refine dw_skip rfl rfl rfl ?_; simp only [Act.put, List.setIfInBounds_toArray, List.set_cons_succ, List.set_cons_zero]) | (refine dw_val rfl rfl rfl ?_; apply Exists.intro; refine ⟨fun wv HC => ?_, ?_⟩; (focus (obtain ⟨f0, f1, f2, f3, f4, q0, q1, q2, q3, q4⟩ := HF.out _ HC; go_simp <;> rfl; done)); simp only [Act.put, List.setIfInBounds_toArray, List.set_cons_succ, List.set_cons_zero]))
    refine dw_callR 49 (RecSl (Mut M KL) N K (lg.map Ue.ud ++ [recD x.tb y2.tb])) (f := 63) (args := #[.slice B m d, .agg #[.string x.nm, .slice x.A x.n x.c, .int .i64 x.nx, .slice x.B x.m x.d], .agg #[.string y2.nm, .slice y2.A y2.n y2.c, .int .i64 y2.nx, .slice y2.B y2.m y2.d]]) rfl rfl rfl rfl (fun wv => ?_) (fun wv HC hrm hD => ?_) ?_
    · go_simp <;> rfl
    · refine (record_any _ wv HC.mutLt B m d N K lg x y2 _ HXO.out.1 HY2.out.1 (HX.out _ HC).1 (HX.out _ HC).2.1 HXV.out.tbm HY2.out.2.1.tbm (HX.out _ HC).2.2 HG.out (by omega) HNK.out.1 HNK.out.2.1 HBT.out HBS.out.1 HBS.out.2.1 HBS.out.2.2.1 HBS.out.2.2.2.1 HBS.out.2.2.2.2.1 HBS.out.2.2.2.2.2).mono ?_
      rintro e w5 ⟨A5, n5, c5, l5, rfl, h1, h2, h3, h4, r5, b5⟩
      exact ⟨_, rfl, ⟨A5, n5, c5, l5, rfl, h1, h2, h3, h4, r5⟩, HC.call b5, RM.below b5⟩
    rintro u_ wx HCx ⟨A6, n6, c6, l5, rfl, -, -, -, -, -⟩
    clear HCx l5
    simp only [Act.put, List.setIfInBounds_toArray, List.set_cons_succ, List.set_cons_zero]
    repeat (first | (refine dw_skip rfl rfl rfl ?_; simp only [Act.put, List.setIfInBounds_toArray, List.set_cons_succ, List.set_cons_zero]) | (refine dw_val rfl rfl rfl ?_; apply Exists.intro; refine ⟨fun wv HC => ?_, ?_⟩; (focus ( go_simp <;> rfl; done)); simp only [Act.put, List.setIfInBounds_toArray, List.set_cons_succ, List.set_cons_zero]))
    refine rel_nil ?_
    rintro w6 HY
    rintro _hrm HGW
    have hl6 : RecSl (Mut M KL) N K (lg.map Ue.ud ++ [recD x.tb y2.tb]) (.tuple #[.slice A6 n6 c6, .bool true]) w6 := (GW_on (d := 49) rfl).1 (HGW 6 _ rfl (by omega))
    clear HGW _hrm KN HF HX
    obtain ⟨A9, n9, c9, g6, e9, h6a, h6b, h6c, h6d, h6r⟩ := hl6
    obtain ⟨rfl, rfl, rfl⟩ : A6 = A9 ∧ n6 = n9 ∧ c6 = c9 := by
      injection e9 with e9
      simp only [Array.mk.injEq, List.cons.injEq, Value.slice.injEq, and_true, true_and] at e9
      exact e9
    clear e9
    have K6 := HY.add h6r
    rw [HKL.out] at K6
    clear HY HKL h6r
    clear KL
    go_wp2_with fail
    have KF := K6
    obtain ⟨KL, hKL, KN⟩ := KF.name
    have HF : Hid (∀ wv, Hold M (some T) w wv KL → wv.cell? ⟨g, k * 4, none⟩ = some (.string x.nm) ∧ wv.cell? ⟨g, k * 4 + 1, none⟩ = some (.slice x.A x.n x.c) ∧ wv.cell? ⟨g, k * 4 + 2, none⟩ = some (.int .i64 x.nx) ∧ wv.cell? ⟨g, k * 4 + 3, none⟩ = some (.slice x.B x.m x.d) ∧ g < wv.heap.size ∧
        wv.cell? ⟨gb, 0, none⟩ = some (.string y2.nm) ∧ wv.cell? ⟨gb, 1, none⟩ = some (.slice y2.A y2.n y2.c) ∧ wv.cell? ⟨gb, 2, none⟩ = some (.int .i64 y2.nx) ∧ wv.cell? ⟨gb, 3, none⟩ = some (.slice y2.B y2.m y2.d) ∧ gb < wv.heap.size) := hid fun wv HC => by
      rw [hKL] at HC
      have ho := HC.get 3 rfl
      have yb := HC.blk_ 2 rfl
      exact ⟨(ho.cellAt _ (by omega)).trans (flat_get Te.cells 4 (fun _ => rfl) l k 0 x (by omega) HXK.out), (ho.cellAt _ (by omega)).trans (flat_get Te.cells 4 (fun _ => rfl) l k 1 x (by omega) HXK.out), (ho.cellAt _ (by omega)).trans (flat_get Te.cells 4 (fun _ => rfl) l k 2 x (by omega) HXK.out), (ho.cellAt _ (by omega)).trans (flat_get Te.cells 4 (fun _ => rfl) l k 3 x (by omega) HXK.out), (ho.lt g rfl).2, cell_of_row _ _ 0 _ _ _ yb, cell_of_row _ _ 1 _ _ _ yb, cell_of_row _ _ 2 _ _ _ yb, cell_of_row _ _ 3 _ _ _ yb, Blk.lt yb⟩
    have HX : Hid (∀ wv, Hold M (some T) w wv KL → Ro wv (Mut M KL) (TeIn x) ∧ Ro wv (Mut M KL) (TeIn y2) ∧ Ro wv (Mut M KL) (UesIn B m lg)) := hid fun wv HC => by
      rw [hKL] at HC ⊢
      exact ⟨(HC.ro 4 rfl).imp fun w2 h2 => h2.2 x (List.mem_of_getElem? HXK.out), HC.ro 1 rfl, HC.ro 5 rfl⟩
    have HKL := hid hKL
    clear hKL KF K6
    refine wp_region_any (by kernel_rfl) ?_
    refine wpAny_hold 12 76 (KL) (spL [(59, RecSl (Mut M KL) N K (lg.map Ue.ud ++ [recD x.tb y2.tb]))]) (by kernel_rfl) (by kernel_rfl) (by kernel_rfl) rfl ?_ (KN.drew) ?_
    · exact stays_cons recSl_mono (stays_nil _)
    simp only [List.take_succ_cons, List.take_zero, List.drop_succ_cons, List.drop_zero, Act.put, List.getElem_toArray, List.getElem_cons_zero, List.getElem_cons_succ, List.setIfInBounds_toArray, List.set_cons_succ, List.set_cons_zero]
    repeat (first | (refine dw_skip rfl rfl rfl ?_; simp only [Act.put, List.setIfInBounds_toArray, List.set_cons_succ, List.set_cons_zero]) | (refine dw_val rfl rfl rfl ?_; apply Exists.intro; refine ⟨fun wv HC => ?_, ?_⟩; (focus (obtain ⟨f0, f1, f2, f3, f4, q0, q1, q2, q3, q4⟩ := HF.out _ HC; go_simp <;> rfl; done)); simp only [Act.put, List.setIfInBounds_toArray, List.set_cons_succ, List.set_cons_zero]))
    refine dw_callR 59 (RecSl (Mut M KL) N K (lg.map Ue.ud ++ [recD x.tb y2.tb])) (f := 64) (args := #[.slice B m d, .agg #[.string x.nm, .slice x.A x.n x.c, .int .i64 x.nx, .slice x.B x.m x.d], .agg #[.string y2.nm, .slice y2.A y2.n y2.c, .int .i64 y2.nx, .slice y2.B y2.m y2.d]]) rfl rfl rfl rfl (fun wv => ?_) (fun wv HC hrm hD => ?_) ?_
    · go_simp <;> rfl
    · refine (rrecord_any _ wv HC.mutLt B m d N K lg x y2 _ HXO.out.1 HY2.out.1 (HX.out _ HC).1 (HX.out _ HC).2.1 HXV.out.tbm HY2.out.2.1.tbm (HX.out _ HC).2.2 HG.out (by omega) HNK.out.1 HNK.out.2.1 HBT.out HBS.out.1 HBS.out.2.1 HBS.out.2.2.1 HBS.out.2.2.2.1 HBS.out.2.2.2.2.1 HBS.out.2.2.2.2.2).mono ?_
      rintro e w5 ⟨A5, n5, c5, l5, rfl, h1, h2, h3, h4, r5, b5⟩
      exact ⟨_, rfl, ⟨A5, n5, c5, l5, rfl, h1, h2, h3, h4, r5⟩, HC.call b5, RM.below b5⟩
    rintro u_ wx HCx ⟨A7, n7, c7, l5, rfl, -, -, -, -, -⟩
    clear HCx l5
    simp only [Act.put, List.setIfInBounds_toArray, List.set_cons_succ, List.set_cons_zero]
    repeat (first | (refine dw_skip rfl rfl rfl ?_; simp only [Act.put, List.setIfInBounds_toArray, List.set_cons_succ, List.set_cons_zero]) | (refine dw_val rfl rfl rfl ?_; apply Exists.intro; refine ⟨fun wv HC => ?_, ?_⟩; (focus ( go_simp <;> rfl; done)); simp only [Act.put, List.setIfInBounds_toArray, List.set_cons_succ, List.set_cons_zero]))
    refine rel_nil ?_
    rintro w7 HY
    rintro _hrm HGW
    have hl7 : RecSl (Mut M KL) N K (lg.map Ue.ud ++ [recD x.tb y2.tb]) (.tuple #[.slice A7 n7 c7, .bool true]) w7 := (GW_on (d := 59) rfl).1 (HGW 6 _ rfl (by omega))
    clear HGW _hrm KN HF HX
    obtain ⟨A9, n9, c9, g7, e9, h7a, h7b, h7c, h7d, h7r⟩ := hl7
    obtain ⟨rfl, rfl, rfl⟩ : A7 = A9 ∧ n7 = n9 ∧ c7 = c9 := by
      injection e9 with e9
      simp only [Array.mk.injEq, List.cons.injEq, Value.slice.injEq, and_true, true_and] at e9
      exact e9
    clear e9
    have K7 := HY.add h7r
    rw [HKL.out] at K7
    clear HY HKL h7r
    clear KL
    have FC := K7.facts
    simp only [World.size_alloc, World.size_drew, factsL, cellsF, Nat.reduceAdd, List.toList_toArray, List.set_cons_zero, List.set_cons_succ, List.setIfInBounds_toArray, and_true, true_and] at FC
    have ho := K7.get 4 rfl
    have q0 : _ = some (Value.string x.nm) := (ho.cellAt (k * 4) (by omega)).trans (flat_get Te.cells 4 (fun _ => rfl) l k 0 x (by omega) HXK.out)
    have q1 : _ = some (Value.slice x.A x.n x.c) := (ho.cellAt (k * 4 + 1) (by omega)).trans (flat_get Te.cells 4 (fun _ => rfl) l k 1 x (by omega) HXK.out)
    have q2 : _ = some (Value.int .i64 x.nx) := (ho.cellAt (k * 4 + 2) (by omega)).trans (flat_get Te.cells 4 (fun _ => rfl) l k 2 x (by omega) HXK.out)
    have q3 : _ = some (Value.slice x.B x.m x.d) := (ho.cellAt (k * 4 + 3) (by omega)).trans (flat_get Te.cells 4 (fun _ => rfl) l k 3 x (by omega) HXK.out)
    have z0 := ho.frozenAt (k * 4)
    have z1 := ho.frozenAt (k * 4 + 1)
    have z2 := ho.frozenAt (k * 4 + 2)
    have z3 := ho.frozenAt (k * 4 + 3)
    have gl := (ho.lt g rfl).2
    have gne := K7.apart_ 3 4 rfl rfl (by omega) rfl rfl
    have hcap := own_caps ho
    clear ho
    have KA1 := K7.put_ 4 rfl (k * 4) (.string y2.nm)
    have KA2 := KA1.put_ 4 rfl (k * 4 + 1) (.slice y2.A y2.n y2.c)
    have KA3 := KA2.put_ 4 rfl (k * 4 + 2) (.int .i64 y2.nx)
    have K8 := KA3.put_ 4 rfl (k * 4 + 3) (.slice y2.B y2.m y2.d)
    simp only [List.set_cons_zero, List.set_cons_succ, List.setIfInBounds_toArray] at KA1
    simp only [List.set_cons_zero, List.set_cons_succ, List.setIfInBounds_toArray] at KA2
    simp only [List.set_cons_zero, List.set_cons_succ, List.setIfInBounds_toArray] at KA3
    simp only [List.set_cons_zero, List.set_cons_succ, List.setIfInBounds_toArray] at K8
    have e1 : _ = some (Value.slice x.A x.n x.c) := ((KA1.get 4 rfl).cellAt (k * 4 + 1) (by omega)).trans ((List.getElem?_set_ne (by omega)).trans (flat_get Te.cells 4 (fun _ => rfl) l k 1 x (by omega) HXK.out))
    have e2 : _ = some (Value.int .i64 x.nx) := ((KA2.get 4 rfl).cellAt (k * 4 + 2) (by omega)).trans ((List.getElem?_set_ne (by omega)).trans ((List.getElem?_set_ne (by omega)).trans (flat_get Te.cells 4 (fun _ => rfl) l k 2 x (by omega) HXK.out)))
    have e3 : _ = some (Value.slice x.B x.m x.d) := ((KA3.get 4 rfl).cellAt (k * 4 + 3) (by omega)).trans ((List.getElem?_set_ne (by omega)).trans ((List.getElem?_set_ne (by omega)).trans ((List.getElem?_set_ne (by omega)).trans (flat_get Te.cells 4 (fun _ => rfl) l k 3 x (by omega) HXK.out))))
    have y1 := (KA1.get 4 rfl).frozenAt (k * 4 + 1)
    have y2_ := (KA2.get 4 rfl).frozenAt (k * 4 + 2)
    have y3 := (KA3.get 4 rfl).frozenAt (k * 4 + 3)
    clear KA1 KA2 KA3
    rw [teCells_set y2 HXK.out] at K8
    have K9 := (K8.add (teVals_set (k := k) ((K8.ro 5 rfl).imp fun w2 h2 => h2.2) (K8.ro 2 rfl))).sealRow 5 rfl
    simp only [List.set_cons_zero, List.set_cons_succ, List.setIfInBounds_toArray] at K9
    clear K8
    have hl6 := (K9.ro 2 rfl).now.len
    have hn6 : n6 = m + 1 := by
      have b := congrArg List.length h6c
      simp only [List.length_map, List.length_append, List.length_cons, List.length_nil] at b
      have := HLG.out
      omega
    obtain ⟨lb6, lo6, he6, -⟩ := (show Rd _ _ 5 A6 n6 (ueCells g6) from (K9.ro 2 rfl).now.1).2 (by omega)
    have rT := (K9.roOut 5 rfl).and (K9.roOut 0 rfl)
    have HLA := hid (And.intro h6a (And.intro h6b (And.intro h6c (And.intro h6d (And.intro h7c h7d)))))
    have HN6 := hid hn6
    have HE6 := hid he6
    have HCAP := hid hcap
    clear h6a h6b h6c h6d h7a h7b h7c h7d hl6 hn6 he6 rT hcap
    go_wp2_with fail
    iterate 4 (try simp only [Result.andThen_ok, e1, y1, e2, y2_, e3, y3, Bool.false_eq_true, if_false])
    go_wp2_with fail
    refine (sameLog_any _ _ K9.mutLt A6 n6 c6 g6 A7 n7 c7 g7 N K HNK.out.1 HNK.out.2.1 (K9.ro 2 rfl) (K9.ro 1 rfl) (by have := HN6.out; omega) HLA.out.2.2.2.1 (HLA.out.2.2.1.trans HLA.out.2.2.2.2.1.symm)).mono ?_
    rintro e w10 ⟨rfl, b10⟩
    have K10 := K9.call b10
    clear K9 b10 FC q0 q1 q2 q3 z0 z1 z2 z3 gl gne e1 e2 e3 y1 y2_ y3
    have rT := (K10.roOut 5 rfl).and (K10.roOut 0 rfl)
    have rL := K10.roOut 2 rfl
    have ht9 := K10.tp_ 9 rfl
    have hgr := K10.grow
    go_wp2_with fail
    (try simp only [Exit.inBlock, Exit.then])
    refine bodyPost_ret (results_tmp3 rfl _ _ _) rfl ?_
    exact ⟨some ⟨g, 0, none⟩, cap', l.set k y2, A6, n6, c6, g6, rfl, ⟨HCAP.out.1, HCAP.out.2.1, fun z hz => (List.mem_or_eq_of_mem_set hz).elim (fun h => (HOK.out z h).1) (fun h => h ▸ HY2.out.1), rT⟩, ⟨HLA.out.1, HLA.out.2.1, HLA.out.2.2.2.1, .inr ⟨_, _, HE6.out⟩, rL⟩, .inr ⟨k, x.tb, y2.tb, recD x.tb y2.tb, te_at HXK.out, ⟨rfl, HXV.out, HY2.out.2.1, HY2.out.2.2.1, (HOK.out x (List.mem_of_getElem? HXK.out)).2⟩, HY2.out.2.2.2, by rw [List.map_set], HLA.out.2.2.1⟩, ht9, hgr⟩
  · have hb0 : (e5 == 0) = false := by simpa using h0
    have hb1 : decide (e5 = 0) = false := by simpa using h0
    clear hE6 hyo ry hgn
    rw [HKL.out] at HB
    have FB := HB.facts
    simp only [World.size_alloc, World.size_drew, factsL, cellsF, Nat.reduceAdd, List.toList_toArray, List.set_cons_zero, List.set_cons_succ, List.setIfInBounds_toArray, and_true, true_and] at FB
    have K4 := (((HB.store 0 rfl 0 (.string y2.nm)).store 0 rfl 1 (.slice y2.A y2.n y2.c)).store 0 rfl 2 (.int .i64 y2.nx)).store 0 rfl 3 (.slice y2.B y2.m y2.d)
    simp only [List.set_cons_zero, List.set_cons_succ, List.setIfInBounds_toArray] at K4
    have rl := K4.roOut 2 rfl
    have rg := K4.roOut 3 rfl
    have ht9 := K4.tp_ 5 rfl
    have hgr := K4.grow
    go_wp2_with fail
    (try simp only [Exit.inBlock, Exit.then])
    refine bodyPost_ret (results_tmp3 rfl _ _ _) rfl ?_
    exact ⟨A, c, l, B, m, d, lg, rfl, ⟨hc, hc2, fun x hx => (HOK.out x hx).1, rl⟩, ⟨hmd, hd2, HG.out, hB, rg⟩, .inl ⟨rfl, rfl⟩, ht9, hgr⟩
end Go.Proofs.YtedogodccblfeaaGreatDoor

namespace Go.Proofs.YtedogodccblfeaaGreatDoor
open Go.RowKit
set_option linter.unusedVariables false
set_option linter.unusedSimpArgs false

abbrev has1V (b : Nat) : Value := .func (.func 127) #[] #[.pointer (some ⟨b, 0, none⟩)]
abbrev hasV (g : Nat) : Value := .func (.func 125) #[] #[.pointer (some ⟨g, 0, none⟩)]
abbrev notV (h : Nat) : Value := .func (.func 130) #[] #[.pointer (some ⟨h, 0, none⟩)]
abbrev turnV (b : Nat) : Value := .func (.func 133) #[] #[.pointer (some ⟨b, 0, none⟩)]
set_option maxHeartbeats 2000000 in
theorem uhas1_any (w : World) (x : Rw) (b : Nat) (id : Int) (t : TypeId) (hb : w.heap[b]? = some (.cells #[.int .i64 id] t (0, 0))) :
    Calls Tryz.prog 127 #[.agg #[.int .i64 x.id, .slice x.A x.n x.c], .pointer (some ⟨b, 0, none⟩)] w fun e w' => e = .returned (.bool (decide (x.id = id))) ∧ Below w.heap.size w w' := by
  have hbl : b < w.heap.size := Blk.lt (t := t) (cs := #[.int .i64 id]) hb
  have K0 := ((Hold.begin_ w).addCst (g := b) (t := t) (cs := #[.int .i64 id]) (fun w2 h1 h2 => (h2 b hbl (by simp [Mut, None_])).trans hb)).alloc_cst #[.int .i64 x.id, .slice x.A x.n x.c] 119
  have F0 := K0.facts
  simp only [World.size_alloc, World.size_drew, factsL, cellsF, Nat.reduceAdd, List.toList_toArray, List.set_cons_zero, List.set_cons_succ, List.setIfInBounds_toArray, and_true, true_and] at F0
  have e0 : (x.id == id) = decide (x.id = id) := by by_cases h : x.id = id <;> simp [h]
  go_enter Tryz.func127, Tryz.ntmps127
  go_wp2_with fail
  go_ret
  exact ⟨by first | rfl | simp [e0] | rw [e0], K0.below⟩
set_option maxHeartbeats 2000000 in
set_option maxRecDepth 100000 in
theorem uhasI_any (w : World) (A : Option Addr) (n c : Nat) (l : List Rw) (b : Nat) (id : Int) (t : TypeId) (hb : Ro w None_ (fun w => w.heap[b]? = some (.cells #[.int .i64 id] t (0, 0)))) (hD : Ro w None_ (RwsIn A n l)) (hn : n ≤ 4611686018427387904) :
    Calls Tryz.prog 132 #[.slice A n c, has1V b] w fun e w' => (∃ r : Int, e = .returned (.int .i64 r) ∧ ((∃ (k : Nat) (x : Rw), l[k]? = some x ∧ decide (x.id = id) = true ∧ (∀ (j : Nat) (x : Rw), j < k → l[j]? = some x → decide (x.id = id) = false) ∧ r = k) ∨ (r = -1 ∧ ∀ x ∈ l, decide (x.id = id) = false))) ∧ Below w.heap.size w w' := by
  have HL := hid hD.now.len
  have K0 := ((Hold.start None_ w (fun b hb => hb.elim)).add (hb.less (by simp [Mut]))).add (hD.less (by simp [Mut, Hp.foot]))
  go_enter Tryz.func132, Tryz.ntmps132
  go_wp2_with fail
  go_loopw [8] (fun iv wr => ∃ (k : Nat), k ≤ n ∧ iv = .int .i64 k ∧ Hid (∀ (j : Nat) (x : Rw), j < k → l[j]? = some x → decide (x.id = id) = false) ∧ Hold None_ none w wr [.ro (RwsIn A n l), .ro (fun w => w.heap[b]? = some (.cells #[.int .i64 id] t (0, 0)))]) (fun iv _ => n - (intOf iv).toNat)
  case atStart => exact ⟨0, by omega, rfl, hid (fun j x hj => by omega), K0⟩
  case round =>
    clear K0
    obtain ⟨k, hk, rfl, HC, H⟩ := hrel
    by_cases hlt : k < n
    · have hd : decide ((k : Int) < (n : Int)) = true := by simp; omega
      have i0 : (0 : Int) ≤ (k : Int) := by omega
      have i1 : (k : Int) < (n : Int) := by omega
      obtain ⟨x, hx⟩ := get_of HL.out hlt
      obtain ⟨b_, o, rfl, hb_, c0, c1, _⟩ := (H.ro 0 rfl).now.at_ hx
      have HX := hid hx
      clear hx
      go_wp2_with fail
      refine (uhas1_any wr x b id t (H.ro 1 rfl).now).mono ?_
      rintro e w1 ⟨rfl, b1⟩
      have K1 := H.call b1
      clear H b1
      cases hz : decide (x.id = id)
      · have HN := hid (show ∀ (j : Nat) (x : Rw), j < k + 1 → l[j]? = some x → decide (x.id = id) = false from fun j y hj hy => by
          rcases Nat.lt_or_ge j k with h | h
          · exact HC.out j y h hy
          · obtain rfl : j = k := by omega
            have hx := HX.out
            rw [hx] at hy; injection hy with hy; subst hy; exact hz)
        clear hz
        go_wp2_with fail
        go_roundw
        case rel => exact ⟨k + 1, by omega, by go_num, HN, K1⟩
        case measure => simp [intOf]; omega
      · have HZ := hid hz
        clear hz
        go_wp2_with fail
        go_ret
        exact ⟨⟨k, rfl, .inl ⟨k, x, HX.out, HZ.out, HC.out, rfl⟩⟩, K1.below⟩
    · obtain rfl : n = k := by omega
      have hd : decide ((n : Int) < (n : Int)) = false := by simp
      go_wp2_with fail
      go_ret
      exact ⟨⟨-1, rfl, .inr ⟨rfl, fun x hx => by
        obtain ⟨j, hj⟩ := List.getElem?_of_mem hx
        exact HC.out j x (by have := (List.getElem?_eq_some_iff.1 hj).1; rw [HL.out] at this; exact this) hj⟩⟩, H.below⟩
theorem uhasC_any (w : World) (A : Option Addr) (n c : Nat) (l : List Rw) (b : Nat) (id : Int) (t : TypeId) (hb : Ro w None_ (fun w => w.heap[b]? = some (.cells #[.int .i64 id] t (0, 0)))) (hD : Ro w None_ (RwsIn A n l)) (hn : n ≤ 4611686018427387904) :
    Calls Tryz.prog 126 #[.slice A n c, has1V b] w fun e w' => e = .returned (.bool ((l.map Rw.id).contains id)) ∧ Below w.heap.size w w' := by
  go_enter Tryz.func126, Tryz.ntmps126
  go_wp2_with fail
  refine (uhasI_any w A n c l b id t hb hD hn).mono ?_
  rintro e w1 ⟨⟨r, rfl, hr⟩, b1⟩
  have HB := hid b1
  clear b1
  rcases hr with ⟨k, x, hx, hp, _, rfl⟩ | ⟨rfl, hall⟩
  · have h0 : decide ((k : Int) ≥ 0) = true := by simp
    have HN := hid (show (l.map Rw.id).contains id = true from by
      have h := List.mem_map_of_mem (f := Rw.id) (List.mem_of_getElem? hx)
      rw [of_decide_eq_true hp] at h
      simpa using h)
    clear hx hp
    go_wp2_with fail
    go_ret
    exact ⟨by rw [HN.out] <;> first | rfl | simp, HB.out⟩
  · have HN := hid (show (l.map Rw.id).contains id = false from by
      rw [Bool.eq_false_iff]
      intro h
      obtain ⟨x, hx, e⟩ := List.mem_map.1 (List.contains_iff_mem.1 h)
      have := hall x hx
      rw [decide_eq_true e] at this; cases this)
    clear hall
    go_wp2_with fail
    go_ret
    exact ⟨by rw [HN.out] <;> first | rfl | simp, HB.out⟩
set_option maxHeartbeats 2000000 in
theorem uhas_any (w : World) (x : Te) (g : Nat) (id : Int) (hT : Ro w None_ (fun w => w.heap[g]? = some (.cells #[.string x.nm, .slice x.A x.n x.c, .int .i64 x.nx, .slice x.B x.m x.d] 58 (0, 0)))) (hR : Ro w None_ (RwsIn x.B x.m x.l)) (hm : x.m ≤ 4611686018427387904) :
    Calls Tryz.prog 125 #[.int .i64 id, .pointer (some ⟨g, 0, none⟩)] w fun e w' => e = .returned (.bool ((x.l.map Rw.id).contains id)) ∧ Below w.heap.size w w' := by
  have K0 := (((Hold.start None_ w (fun b hb => hb.elim)).add (hR.less (by simp [Mut]))).add (hT.less (by simp [Mut, Hp.foot]))).alloc_cst #[.int .i64 id] 3
  clear hR hT
  have f3 := cell_of_row _ _ 3 _ _ _ (K0.ro 1 rfl).now
  have fl := Blk.lt (K0.ro 1 rfl).now
  obtain ⟨v, hv⟩ : ∃ v, v = (x.l.map Rw.id).contains id := ⟨_, rfl⟩
  rw [← hv]
  have HV := hid hv
  clear hv
  go_enter Tryz.func125, Tryz.ntmps125
  go_wp2_with fail
  refine (uhasC_any _ x.B x.m x.d x.l w.heap.size id 3 ((K0.get 0 rfl : Ro _ _ _).less fun b hb => hb.elim) ((K0.ro 2 rfl).less fun b hb => hb.elim) hm).mono ?_
  rintro e w1 ⟨rfl, b1⟩
  have K1 := K0.call b1
  rw [← HV.out]
  clear K0 b1 f3 fl
  go_wp2_with fail
  go_ret
  exact ⟨rfl, K1.below⟩
set_option maxHeartbeats 2000000 in
theorem unot_any (w : World) (x : Te) (g h : Nat) (id : Int) (t : TypeId) (hV : Ro w None_ (fun w => w.heap[h]? = some (.cells #[hasV g] t (0, 0)))) (hT : Ro w None_ (fun w => w.heap[g]? = some (.cells #[.string x.nm, .slice x.A x.n x.c, .int .i64 x.nx, .slice x.B x.m x.d] 58 (0, 0)))) (hR : Ro w None_ (RwsIn x.B x.m x.l)) (hm : x.m ≤ 4611686018427387904) :
    Calls Tryz.prog 130 #[.int .i64 id, .pointer (some ⟨h, 0, none⟩)] w fun e w' => e = .returned (.bool (!(x.l.map Rw.id).contains id)) ∧ Below w.heap.size w w' := by
  have f0 := cell_of_row _ _ 0 _ _ _ hV.now
  have fl := Blk.lt hV.now
  obtain ⟨v, hv⟩ : ∃ v, v = (x.l.map Rw.id).contains id := ⟨_, rfl⟩
  rw [← hv]
  have HV := hid hv
  clear hv
  go_enter Tryz.func130, Tryz.ntmps130
  go_wp2_with fail
  refine (uhas_any w x g id hT hR hm).mono ?_
  rintro e w1 ⟨rfl, b1⟩
  rw [← HV.out]
  have HB := hid b1
  clear b1 f0 fl
  go_wp2_with fail
  go_ret
  exact ⟨by first | rfl | simp, HB.out⟩
set_option maxHeartbeats 2000000 in
theorem uturn1_any (w : World) (x : Rw) (b : Nat) (id : Int) (A2 : Option Addr) (n2 c2 : Nat) (t : TypeId) (hb : w.heap[b]? = some (.cells #[.int .i64 id, .slice A2 n2 c2] t (0, 0))) :
    Calls Tryz.prog 133 #[.agg #[.int .i64 x.id, .slice x.A x.n x.c], .pointer (some ⟨b, 0, none⟩)] w fun e w' => e = .returned (.bool (decide (x.id = id))) ∧ Below w.heap.size w w' := by
  have hbl : b < w.heap.size := Blk.lt (t := t) (cs := #[.int .i64 id, .slice A2 n2 c2]) hb
  have K0 := ((Hold.begin_ w).addCst (g := b) (t := t) (cs := #[.int .i64 id, .slice A2 n2 c2]) (fun w2 h1 h2 => (h2 b hbl (by simp [Mut, None_])).trans hb)).alloc_cst #[.int .i64 x.id, .slice x.A x.n x.c] 119
  have F0 := K0.facts
  simp only [World.size_alloc, World.size_drew, factsL, cellsF, Nat.reduceAdd, List.toList_toArray, List.set_cons_zero, List.set_cons_succ, List.setIfInBounds_toArray, and_true, true_and] at F0
  have e0 : (x.id == id) = decide (x.id = id) := by by_cases h : x.id = id <;> simp [h]
  go_enter Tryz.func133, Tryz.ntmps133
  go_wp2_with fail
  go_ret
  exact ⟨by first | rfl | simp [e0] | rw [e0], K0.below⟩
set_option maxHeartbeats 2000000 in
set_option maxRecDepth 100000 in
theorem uturnI_any (w : World) (A : Option Addr) (n c : Nat) (l : List Rw) (b : Nat) (id : Int) (A2 : Option Addr) (n2 c2 : Nat) (t : TypeId) (hb : Ro w None_ (fun w => w.heap[b]? = some (.cells #[.int .i64 id, .slice A2 n2 c2] t (0, 0)))) (hD : Ro w None_ (RwsIn A n l)) (hn : n ≤ 4611686018427387904) :
    Calls Tryz.prog 132 #[.slice A n c, turnV b] w fun e w' => (∃ r : Int, e = .returned (.int .i64 r) ∧ ((∃ (k : Nat) (x : Rw), l[k]? = some x ∧ decide (x.id = id) = true ∧ (∀ (j : Nat) (x : Rw), j < k → l[j]? = some x → decide (x.id = id) = false) ∧ r = k) ∨ (r = -1 ∧ ∀ x ∈ l, decide (x.id = id) = false))) ∧ Below w.heap.size w w' := by
  have HL := hid hD.now.len
  have K0 := ((Hold.start None_ w (fun b hb => hb.elim)).add (hb.less (by simp [Mut]))).add (hD.less (by simp [Mut, Hp.foot]))
  go_enter Tryz.func132, Tryz.ntmps132
  go_wp2_with fail
  go_loopw [8] (fun iv wr => ∃ (k : Nat), k ≤ n ∧ iv = .int .i64 k ∧ Hid (∀ (j : Nat) (x : Rw), j < k → l[j]? = some x → decide (x.id = id) = false) ∧ Hold None_ none w wr [.ro (RwsIn A n l), .ro (fun w => w.heap[b]? = some (.cells #[.int .i64 id, .slice A2 n2 c2] t (0, 0)))]) (fun iv _ => n - (intOf iv).toNat)
  case atStart => exact ⟨0, by omega, rfl, hid (fun j x hj => by omega), K0⟩
  case round =>
    clear K0
    obtain ⟨k, hk, rfl, HC, H⟩ := hrel
    by_cases hlt : k < n
    · have hd : decide ((k : Int) < (n : Int)) = true := by simp; omega
      have i0 : (0 : Int) ≤ (k : Int) := by omega
      have i1 : (k : Int) < (n : Int) := by omega
      obtain ⟨x, hx⟩ := get_of HL.out hlt
      obtain ⟨b_, o, rfl, hb_, c0, c1, _⟩ := (H.ro 0 rfl).now.at_ hx
      have HX := hid hx
      clear hx
      go_wp2_with fail
      refine (uturn1_any wr x b id A2 n2 c2 t (H.ro 1 rfl).now).mono ?_
      rintro e w1 ⟨rfl, b1⟩
      have K1 := H.call b1
      clear H b1
      cases hz : decide (x.id = id)
      · have HN := hid (show ∀ (j : Nat) (x : Rw), j < k + 1 → l[j]? = some x → decide (x.id = id) = false from fun j y hj hy => by
          rcases Nat.lt_or_ge j k with h | h
          · exact HC.out j y h hy
          · obtain rfl : j = k := by omega
            have hx := HX.out
            rw [hx] at hy; injection hy with hy; subst hy; exact hz)
        clear hz
        go_wp2_with fail
        go_roundw
        case rel => exact ⟨k + 1, by omega, by go_num, HN, K1⟩
        case measure => simp [intOf]; omega
      · have HZ := hid hz
        clear hz
        go_wp2_with fail
        go_ret
        exact ⟨⟨k, rfl, .inl ⟨k, x, HX.out, HZ.out, HC.out, rfl⟩⟩, K1.below⟩
    · obtain rfl : n = k := by omega
      have hd : decide ((n : Int) < (n : Int)) = false := by simp
      go_wp2_with fail
      go_ret
      exact ⟨⟨-1, rfl, .inr ⟨rfl, fun x hx => by
        obtain ⟨j, hj⟩ := List.getElem?_of_mem hx
        exact HC.out j x (by have := (List.getElem?_eq_some_iff.1 hj).1; rw [HL.out] at this; exact this) hj⟩⟩, H.below⟩
set_option maxHeartbeats 2000000 in
set_option maxRecDepth 100000 in
theorem uneverI_any (w : World) (A : Option Addr) (n c : Nat) (xs : List Int) (x : Te) (g : Nat) (hT : Ro w None_ (fun w => w.heap[g]? = some (.cells #[.string x.nm, .slice x.A x.n x.c, .int .i64 x.nx, .slice x.B x.m x.d] 58 (0, 0)))) (hR : Ro w None_ (RwsIn x.B x.m x.l)) (hm : x.m ≤ 4611686018427387904) (hD : Ro w None_ (IsIn A n xs)) (hn : n ≤ 4611686018427387904) (hall : ∀ y ∈ xs, (x.l.map Rw.id).contains y = false) :
    Calls Tryz.prog 189 #[.slice A n c, hasV g] w fun e w' => e = .returned (.int .i64 (-1)) ∧ Below w.heap.size w w' := by
  have HL := hid hD.now.len
  have HALL := hid hall
  clear hall
  have K0 := ((((Hold.start None_ w (fun b hb => hb.elim)).add (hR.less (by simp [Mut]))).add (hT.less (by simp [Mut, Hp.foot])))).add (hD.less (by simp [Mut, Hp.foot]))
  clear hD hR hT
  go_enter Tryz.func189, Tryz.ntmps189
  go_wp2_with fail
  go_loopw [8] (fun iv wr => ∃ (k : Nat), k ≤ n ∧ iv = .int .i64 k ∧ Hold None_ none w wr [.ro (IsIn A n xs), .ro (fun w => w.heap[g]? = some (.cells #[.string x.nm, .slice x.A x.n x.c, .int .i64 x.nx, .slice x.B x.m x.d] 58 (0, 0))), .ro (RwsIn x.B x.m x.l)]) (fun iv _ => n - (intOf iv).toNat)
  case atStart => exact ⟨0, by omega, rfl, K0⟩
  case round =>
    clear K0
    obtain ⟨k, hk, rfl, H⟩ := hrel
    by_cases hlt : k < n
    · have hd : decide ((k : Int) < (n : Int)) = true := by simp; omega
      have i0 : (0 : Int) ≤ (k : Int) := by omega
      have i1 : (k : Int) < (n : Int) := by omega
      obtain ⟨b, o, rfl, hb, hcc⟩ := (H.ro 0 rfl).now.cells (by omega)
      have hkl : k < xs.length := by rw [HL.out]; exact hlt
      have HX := hid (HALL.out (xs.getD k 0) (by
        have h : xs[k]? = some (xs.getD k 0) := by simp [List.getD, hkl]
        exact List.mem_of_getElem? h))
      have ck := hcc k hkl
      clear hcc
      generalize xs.getD k 0 = z at *
      go_wp2_with fail
      refine (uhas_any wr x g z ((H.ro 1 rfl).less fun b hb => hb.elim) ((H.ro 2 rfl).less fun b hb => hb.elim) hm).mono ?_
      rw [HX.out]
      rintro e w1 ⟨rfl, b1⟩
      have K1 := H.call b1
      clear H b1
      go_wp2_with fail
      go_roundw
      case rel => exact ⟨k + 1, by omega, by go_num, K1⟩
      case measure => simp [intOf]; omega
    · obtain rfl : n = k := by omega
      have hd : decide ((n : Int) < (n : Int)) = false := by simp
      go_wp2_with fail
      go_ret
      exact ⟨by first | rfl | simp, H.below⟩
theorem unever_any (w : World) (A : Option Addr) (n c : Nat) (xs : List Int) (x : Te) (g : Nat) (hT : Ro w None_ (fun w => w.heap[g]? = some (.cells #[.string x.nm, .slice x.A x.n x.c, .int .i64 x.nx, .slice x.B x.m x.d] 58 (0, 0)))) (hR : Ro w None_ (RwsIn x.B x.m x.l)) (hm : x.m ≤ 4611686018427387904) (hD : Ro w None_ (IsIn A n xs)) (hn : n ≤ 4611686018427387904) (hall : ∀ y ∈ xs, (x.l.map Rw.id).contains y = false) :
    Calls Tryz.prog 129 #[.slice A n c, hasV g] w fun e w' => e = .returned (.bool false) ∧ Below w.heap.size w w' := by
  go_enter Tryz.func129, Tryz.ntmps129
  go_wp2_with fail
  refine (uneverI_any w A n c xs x g hT hR hm hD hn hall).mono ?_
  rintro e w1 ⟨rfl, b1⟩
  have HB := hid b1
  clear b1
  have h0 : decide ((-1 : Int) ≥ 0) = false := by decide
  go_wp2_with fail
  go_ret
  exact ⟨by first | rfl | simp, HB.out⟩
set_option maxHeartbeats 2000000 in
set_option maxRecDepth 100000 in
theorem uallI_any (w : World) (A : Option Addr) (n c : Nat) (xs : List Int) (x : Te) (g : Nat) (h : Nat) (t : TypeId) (hV : Ro w None_ (fun w => w.heap[h]? = some (.cells #[hasV g] t (0, 0)))) (hT : Ro w None_ (fun w => w.heap[g]? = some (.cells #[.string x.nm, .slice x.A x.n x.c, .int .i64 x.nx, .slice x.B x.m x.d] 58 (0, 0)))) (hR : Ro w None_ (RwsIn x.B x.m x.l)) (hm : x.m ≤ 4611686018427387904) (hD : Ro w None_ (IsIn A n xs)) (hn : n ≤ 4611686018427387904) (hall : ∀ y ∈ xs, (x.l.map Rw.id).contains y = true) :
    Calls Tryz.prog 189 #[.slice A n c, notV h] w fun e w' => e = .returned (.int .i64 (-1)) ∧ Below w.heap.size w w' := by
  have HL := hid hD.now.len
  have HALL := hid hall
  clear hall
  have K0 := ((((Hold.start None_ w (fun b hb => hb.elim)).add (hR.less (by simp [Mut]))).add (hT.less (by simp [Mut, Hp.foot]))).add (hV.less (by simp [Mut, Hp.foot]))).add (hD.less (by simp [Mut, Hp.foot]))
  clear hD hR hT
  go_enter Tryz.func189, Tryz.ntmps189
  go_wp2_with fail
  go_loopw [8] (fun iv wr => ∃ (k : Nat), k ≤ n ∧ iv = .int .i64 k ∧ Hold None_ none w wr [.ro (IsIn A n xs), .ro (fun w => w.heap[h]? = some (.cells #[hasV g] t (0, 0))), .ro (fun w => w.heap[g]? = some (.cells #[.string x.nm, .slice x.A x.n x.c, .int .i64 x.nx, .slice x.B x.m x.d] 58 (0, 0))), .ro (RwsIn x.B x.m x.l)]) (fun iv _ => n - (intOf iv).toNat)
  case atStart => exact ⟨0, by omega, rfl, K0⟩
  case round =>
    clear K0
    obtain ⟨k, hk, rfl, H⟩ := hrel
    by_cases hlt : k < n
    · have hd : decide ((k : Int) < (n : Int)) = true := by simp; omega
      have i0 : (0 : Int) ≤ (k : Int) := by omega
      have i1 : (k : Int) < (n : Int) := by omega
      obtain ⟨b, o, rfl, hb, hcc⟩ := (H.ro 0 rfl).now.cells (by omega)
      have hkl : k < xs.length := by rw [HL.out]; exact hlt
      have HX := hid (HALL.out (xs.getD k 0) (by
        have h : xs[k]? = some (xs.getD k 0) := by simp [List.getD, hkl]
        exact List.mem_of_getElem? h))
      have ck := hcc k hkl
      clear hcc
      generalize xs.getD k 0 = z at *
      go_wp2_with fail
      refine (unot_any wr x g h z t ((H.ro 1 rfl).less fun b hb => hb.elim) ((H.ro 2 rfl).less fun b hb => hb.elim) ((H.ro 3 rfl).less fun b hb => hb.elim) hm).mono ?_
      rw [HX.out]
      rintro e w1 ⟨rfl, b1⟩
      have K1 := H.call b1
      clear H b1
      go_wp2_with fail
      go_roundw
      case rel => exact ⟨k + 1, by omega, by go_num, K1⟩
      case measure => simp [intOf]; omega
    · obtain rfl : n = k := by omega
      have hd : decide ((n : Int) < (n : Int)) = false := by simp
      go_wp2_with fail
      go_ret
      exact ⟨by first | rfl | simp, H.below⟩
theorem uall_any (w : World) (A : Option Addr) (n c : Nat) (xs : List Int) (x : Te) (g : Nat) (h : Nat) (t : TypeId) (hV : Ro w None_ (fun w => w.heap[h]? = some (.cells #[hasV g] t (0, 0)))) (hT : Ro w None_ (fun w => w.heap[g]? = some (.cells #[.string x.nm, .slice x.A x.n x.c, .int .i64 x.nx, .slice x.B x.m x.d] 58 (0, 0)))) (hR : Ro w None_ (RwsIn x.B x.m x.l)) (hm : x.m ≤ 4611686018427387904) (hD : Ro w None_ (IsIn A n xs)) (hn : n ≤ 4611686018427387904) (hall : ∀ y ∈ xs, (x.l.map Rw.id).contains y = true) :
    Calls Tryz.prog 129 #[.slice A n c, notV h] w fun e w' => e = .returned (.bool false) ∧ Below w.heap.size w w' := by
  go_enter Tryz.func129, Tryz.ntmps129
  go_wp2_with fail
  refine (uallI_any w A n c xs x g h t hV hT hR hm hD hn hall).mono ?_
  rintro e w1 ⟨rfl, b1⟩
  have HB := hid b1
  clear b1
  have h0 : decide ((-1 : Int) ≥ 0) = false := by decide
  go_wp2_with fail
  go_ret
  exact ⟨by first | rfl | simp, HB.out⟩
end Go.Proofs.YtedogodccblfeaaGreatDoor

namespace Go.Proofs.YtedogodccblfeaaGreatDoor
open Go.RowKit
set_option linter.unusedVariables false
set_option linter.unusedSimpArgs false

set_option maxHeartbeats 4000000 in
set_option maxRecDepth 100000 in
theorem growI_any (w : World) (n : Nat) (hn : n ≤ 1000000000) :
    Calls Tryz.prog 220 #[.slice none 0 0, .int .i64 n] w fun e w' => ∃ (A : Option Addr) (c : Nat), e = .returned (.slice A 0 c) ∧ w'.ownsRow w.heap.size 3 1 (.slice A 0 c) 0 [] ∧ Below w.heap.size w w' := by
  rcases Nat.eq_zero_or_pos n with h0 | h0
  · subst h0
    go_enter Tryz.func220, Tryz.ntmps220
    go_wp2_with fail
    go_ret
    exact ⟨none, 0, rfl, World.ownsRow_nil _ _ _ _, Below.refl _ _⟩
  · obtain ⟨i0, hi0, hz0, hz1, hz2⟩ := info_parts Tryz.elIntC.hi
    have hold : (Builtin.firstCells i0.size 0 (.slice none 0 0)).run Tryz.prog w.drew = .ok ([] : List Value).toArray w.drew := run_firstCells_none w.drew i0.size 0 0 0
    have hrz : ∀ ty, (Builtin.append_ #[22, 3] ty #[.slice none 0 0, .int .i64 (n : Int)]).run Tryz.prog w =
        .ok (.slice (some ⟨w.heap.size, 0, none⟩) n (grownCap w n 0 3)) (w.drew.alloc (.cells (([] : List Value).toArray ++ Builtin.zeroCells (Value.int .i64 0).cells n ++ Builtin.zeroCells (Value.int .i64 0).cells (grownCap w n 0 3 - n)) 3)) := fun ty => by
      have h := Lib.run_append_grow_zeros w 22 3 ty 3 i0 (.int .i64 0) .i64 .i64 Tryz.underlying22 Tryz.underlying3 hi0 hz0 none 0 0 [] hold n (by omega) (by rw [hz1]; omega) (by omega) (by omega) (by rw [hz2]; omega) (by rw [Nat.zero_add]; exact growslice_fits h0 (by rw [hz2]; omega))
      rw [Nat.zero_add] at h
      exact h
    have hGn : n ≤ grownCap w n 0 3 := grownCap_ge w _ _ _
    have hGm : grownCap w n 0 3 ≤ maxLen := grownCap_le_maxLen w n 0 3 (by unfold maxLen; omega)
    obtain ⟨G, hG⟩ : ∃ G, G = grownCap w n 0 3 := ⟨_, rfl⟩
    rw [← hG] at hrz hGn hGm
    have hG63 : G ≤ 9223372036854775807 := by unfold maxLen at hGm; omega
    clear hold hG
    have HGM := hid hGm
    clear hGm
    go_enter Tryz.func220, Tryz.ntmps220
    go_wp2_with (at_builtin; refine Lib.wpList_append_run _ rfl _ _ _ _ rfl _ _ rfl rfl _ _ (hrz _) ?_)
    all_goals (go_ret; exact ⟨some ⟨w.heap.size, 0, none⟩, G, rfl, ⟨by simp, .inr ⟨w.heap.size, G, _, rfl, Nat.le_refl _, heap_alloc_new w.drew _, Nat.zero_le _, HGM.out, by simp [Builtin.zeroCells, Value.cells]; omega, by simp⟩⟩, ⟨rfl, rfl, rfl, by simp, fun k hk => heap_alloc_old w.drew _ hk⟩⟩)
def catN (k n m : Nat) : Nat := if k = 0 then 0 else if k = 1 then n else n + m
def catX (k : Nat) (xs ys : List Int) : List Int := if k = 0 then [] else if k = 1 then xs else xs ++ ys
set_option maxHeartbeats 4000000 in
set_option maxRecDepth 100000 in
theorem catI_any (M : Nat → Prop) (w : World) (hM : ∀ b, M b → b < w.heap.size) (g : Nat) (A : Option Addr) (n c : Nat) (xs : List Int) (B : Option Addr) (m d : Nat) (ys : List Int) (hG : Ro w M (SlR 1 (some ⟨g, 0, none⟩) 2 [.slice A n c, .slice B m d])) (hA : Ro w M (IsIn A n xs)) (hB : Ro w M (IsIn B m ys)) (hn : n ≤ 100000000) (hm : m ≤ 100000000) :
    Calls Tryz.prog 188 #[.slice (some ⟨g, 0, none⟩) 2 2] w fun e w' => OwnIs w (xs ++ ys) e w' := by
  have HA := hid hA.now.len
  have HB := hid hB.now.len
  have K0 := (((Hold.start M w hM).add (hB.less (by simp [Mut]))).add (hA.less (by simp [Mut, Hp.foot]))).add (hG.less (by simp [Mut, Hp.foot]))
  clear hA hB hG
  go_enter Tryz.func188, Tryz.ntmps188
  go_wp2_with fail
  go_loopw [3, 11] (fun tv iv wr => ∃ (k : Nat), k ≤ 2 ∧ iv = .int .i64 k ∧ tv = .int .i64 (catN k n m) ∧ Hold M none w wr [.ro (SlR 1 (some ⟨g, 0, none⟩) 2 [.slice A n c, .slice B m d]), .ro (IsIn A n xs), .ro (IsIn B m ys)]) (fun _ iv _ => 2 - (intOf iv).toNat)
  case atStart => exact ⟨0, by omega, rfl, rfl, K0⟩
  case round =>
    clear K0
    obtain ⟨k, hk, rfl, rfl, H⟩ := hrel
    by_cases hlt : k < 2
    · have hd : decide ((k : Int) < 2) = true := by simp; omega
      obtain ⟨b, o, hbo, hb, hc⟩ := (H.ro 0 rfl).now.2 (by omega)
      injection hbo with hbo
      injection hbo with e1 e2
      subst e1 e2
      have c0 := hc 0 _ rfl
      have c1 := hc 1 _ rfl
      simp only [Nat.zero_add, Nat.add_zero] at c0 c1
      clear hc
      obtain rfl | rfl : k = 0 ∨ k = 1 := by omega
      · have q1 : catN 0 n m = 0 := rfl
        rw [q1]
        go_wp2_with fail
        go_roundw
        case rel => exact ⟨1, by omega, by go_num, by first | rfl | (simp [catN]), H⟩
        case measure => simp [intOf]
      · have q1 : catN 1 n m = n := rfl
        rw [q1]
        go_wp2_with fail
        go_roundw
        case rel => exact ⟨2, by omega, by go_num, by first | rfl | (simp [catN]), H⟩
        case measure => simp [intOf]
    · obtain rfl : k = 2 := by omega
      have hd : decide (((2 : Nat) : Int) < 2) = false := by decide
      have q1 : catN 2 n m = n + m := rfl
      rw [q1]
      go_wp2_with fail
      refine (growI_any _ (n + m) (by omega)).mono ?_
      rintro e w2 ⟨G, gc, rfl, ho, hb⟩
      have K1 := H.callOwn hb ho
      clear H hb ho
      go_wp2_with fail
      go_loopw [6, 27] (fun tv iv wr => ∃ (k q cap : Nat) (O : Option Addr), k ≤ 2 ∧ iv = .int .i64 k ∧ tv = .slice O q cap ∧ q = catN k n m ∧ Hold M none w wr [.own 3 1 (.slice O q cap) q (iCells (catX k xs ys)), .ro (SlR 1 (some ⟨g, 0, none⟩) 2 [.slice A n c, .slice B m d]), .ro (IsIn A n xs), .ro (IsIn B m ys)]) (fun _ iv _ => 2 - (intOf iv).toNat)
      case atStart => exact ⟨0, 0, gc, G, by omega, rfl, rfl, rfl, K1⟩
      case round =>
        clear K1
        obtain ⟨k, q, cap, O, hk, rfl, rfl, hq, H⟩ := hrel
        by_cases hlt : k < 2
        · have hd : decide ((k : Int) < 2) = true := by simp; omega
          obtain ⟨b, o, hbo, hb, hc⟩ := (H.ro 1 rfl).now.2 (by omega)
          injection hbo with hbo
          injection hbo with e1 e2
          subst e1 e2
          have c0 := hc 0 _ rfl
          have c1 := hc 1 _ rfl
          simp only [Nat.zero_add, Nat.add_zero] at c0 c1
          clear hc
          obtain rfl | rfl : k = 0 ∨ k = 1 := by omega
          · have hr := hid (show SlR 1 A n (iCells xs) wr from (H.ro 2 rfl).now)
            obtain rfl : q = 0 := hq
            go_wp2_with (at_builtin; go_must (refine wpList_appAllH H 0 rfl Tryz.elIntC hr.out rfl (.tmp 31) (.tmp 32) rfl rfl rfl (iCells_one _) (by omega) (by omega) ?_); intro C' cap' w6 hc6 hm6 KB; simp only [List.set_cons_zero, List.set_cons_succ] at KB)
            have e9 : iCells (catX 0 xs ys) ++ iCells xs = iCells (catX 1 xs ys) := by simp [catX, iCells]
            rw [e9] at KB
            (try simp only [Nat.zero_add] at KB)
            go_roundw
            case rel => exact ⟨1, n, cap', _, by omega, by go_num, by first | rfl | trivial, by simp [catN], KB⟩
            case measure => simp [intOf]
          · have hr := hid (show SlR 1 B m (iCells ys) wr from (H.ro 3 rfl).now)
            obtain rfl : n = q := hq.symm
            clear hq
            go_wp2_with (at_builtin; go_must (refine wpList_appAllH H 0 rfl Tryz.elIntC hr.out rfl (.tmp 31) (.tmp 32) rfl rfl rfl (iCells_one _) (by omega) (by omega) ?_); intro C' cap' w6 hc6 hm6 KB; simp only [List.set_cons_zero, List.set_cons_succ] at KB)
            have e9 : iCells (catX 1 xs ys) ++ iCells ys = iCells (catX 2 xs ys) := by simp [catX, iCells]
            rw [e9] at KB
            go_roundw
            case rel => exact ⟨2, n + m, cap', _, by omega, by go_num, by first | rfl | trivial, by simp [catN], KB⟩
            case measure => simp [intOf]
        · obtain rfl : k = 2 := by omega
          have hd : decide (((2 : Nat) : Int) < 2) = false := by decide
          have HOW := hid (H.get 0 rfl)
          have HBL := hid H.below
          have HQ := hid (show q = (xs ++ ys).length by rw [hq, List.length_append, HA.out, HB.out]; rfl)
          clear H
          go_wp2_with fail
          go_ret
          exact ⟨O, q, cap, rfl, HQ.out, HOW.out, HBL.out⟩
end Go.Proofs.YtedogodccblfeaaGreatDoor

namespace Go.Proofs.YtedogodccblfeaaGreatDoor
open Go.RowKit
set_option linter.unusedVariables false
set_option linter.unusedSimpArgs false

theorem results_tmp3 {fn : Func} {t u v : Tmp} (h : fn.results = #[.tmp t, .tmp u, .tmp v]) (tmps : Array Value) (P : Program) (w : World) :
    (results fn tmps).run P w = .ok (.tuple #[tmps.getD t undef, tmps.getD u undef, tmps.getD v undef]) w := by
  simp [results, h]
def NumsRet (w : World) (M : Nat → Prop) (xs ys : List Int) (e : Ending) (w' : World) : Prop := ∃ (A : Option Addr) (n c : Nat) (B : Option Addr) (m d : Nat), e = .returned (.tuple #[.slice A n c, .slice B m d, .bool true]) ∧ n = xs.length ∧ m = ys.length ∧ Ro w' M (IsIn A n xs) ∧ Ro w' M (IsIn B m ys) ∧ Below w.heap.size w w'
set_option maxHeartbeats 8000000 in
set_option maxRecDepth 100000 in
theorem snums_any (M : Nat → Prop) (w : World) (hM : ∀ b, M b → b < w.heap.size) (x : Ue) (N K : Nat) (hN : N ≤ 1000000) (hg : x.good N K) (rx : Ro w M (UeIn x)) (hnd : (x.li ++ x.lu.map Rw.id ++ x.ld.map Rw.id).Nodup) :
    Calls Tryz.prog 128 #[.agg #[.string x.nm, .int .i64 x.nx, .slice x.I x.ni x.ci, .slice x.D x.nd x.cd, .slice x.U x.nu x.cu]] w fun e w' => NumsRet w M (x.li ++ x.lu.map Rw.id) (x.ld.map Rw.id) e w' := by
  obtain ⟨xnm, xnx, xI, xni, xci, xD, xnd, xcd, xU, xnu, xcu, li, ld, lu⟩ := x
  dsimp only at hnd ⊢
  have HG := hid hg
  have HND := hid hnd
  have hni : xni ≤ 1000000 := Nat.le_trans hg.i hN
  have hnx : xnd ≤ 1000000 := Nat.le_trans hg.d hN
  have hnu : xnu ≤ 1000000 := Nat.le_trans hg.u hN
  have hcd := hg.cd
  have hcu := hg.cu
  dsimp only at hcd hcu
  have HI64 := hid (show ∀ z ∈ li ++ lu.map Rw.id ++ ld.map Rw.id, I64 z from fun z hz => by
    rcases List.mem_append.1 hz with hz | hz
    · rcases List.mem_append.1 hz with hz | hz
      · exact hg.li z hz
      · obtain ⟨r, hr, rfl⟩ := List.mem_map.1 hz; exact (hg.lu r hr).1.id
    · obtain ⟨r, hr, rfl⟩ := List.mem_map.1 hz; exact (hg.ld r hr).1.id)
  have HLI := hid (show li.length = xni from rx.now.1.len)
  have HLD := hid (show ld.length = xnd from rx.now.2.1.len)
  have HLU := hid (show lu.length = xnu from rx.now.2.2.len)
  have K0 := ((((Hold.start M w hM).add (show Ro w _ (IsIn xI xni li) from (rx.imp fun w h => h.1).less (by simp [Mut]))).add (show Ro w _ (RwsIn xD xnd ld) from (rx.imp fun w h => h.2.1).less (by simp [Mut, Hp.foot]))).add (show Ro w _ (RwsIn xU xnu lu) from (rx.imp fun w h => h.2.2).less (by simp [Mut, Hp.foot]))).alloc_cst #[.string xnm, .int .i64 xnx, .slice xI xni xci, .slice xD xnd xcd, .slice xU xnu xcu] 129
  obtain ⟨gx, hgx⟩ : ∃ g, g = w.heap.size := ⟨_, rfl⟩
  rw [← hgx] at K0
  clear rx hg hnd
  have hmm := @run_makeMap Tryz.prog
  have F0 := K0.facts
  simp only [World.size_alloc, World.size_drew, factsL, cellsF, Nat.reduceAdd, List.toList_toArray, List.set_cons_zero, List.set_cons_succ, List.setIfInBounds_toArray, and_true, true_and] at F0
  go_enter Tryz.func128, Tryz.ntmps128
  rw [hgx] at F0
  go_wp2_with fail
  rw [← hgx] at F0 ⊢
  have HGX := hid hgx
  clear hgx
  refine (scloneI_any _ xI xni xci li (K0.ro 3 rfl).now (by omega)).mono ?_
  rintro e w1 ⟨O0, q0, cap0, rfl, hq0, ho, hb⟩
  have K1 := K0.callOwn hb ho
  have hq1 : q0 = xni := by rw [hq0, HLI.out]
  obtain rfl : xni = q0 := hq1.symm
  clear K0 F0 hb ho hq0 hq1
  have F1 := K1.facts
  simp only [World.size_alloc, World.size_drew, factsL, cellsF, Nat.reduceAdd, List.toList_toArray, List.set_cons_zero, List.set_cons_succ, List.setIfInBounds_toArray, and_true, true_and] at F1
  go_wp2_with fail
  clear F1
  go_loopw [2, 18] (fun ov iv wr => ∃ (k q cap : Nat) (O : Option Addr), k ≤ xnu ∧ q = xni + k ∧ iv = .int .i64 k ∧ ov = .slice O q cap ∧ Hold M none w wr [.own 3 1 (.slice O q cap) q (iCells (li ++ (lu.take k).map Rw.id)), .cst gx 129 #[.string xnm, .int .i64 xnx, .slice xI xni xci, .slice xD xnd xcd, .slice xU xnu xcu], .ro (RwsIn xU xnu lu), .ro (RwsIn xD xnd ld), .ro (IsIn xI xni li)]) (fun _ iv _ => xnu - (intOf iv).toNat)
  case atStart => exact ⟨0, xni, cap0, O0, by omega, by omega, rfl, rfl, by simpa using K1⟩
  case round =>
    clear K1
    obtain ⟨k, q, cap, O, hk, hq, rfl, rfl, H⟩ := hrel
    have hqb : q ≤ 3000000 := by omega
    have HQ := hid hq
    clear hq
    by_cases hlt : k < xnu
    · have hd : decide ((k : Int) < (xnu : Int)) = true := by simp; omega
      have j0 : (0 : Int) ≤ (k : Int) := by omega
      have j1 : (k : Int) < (xnu : Int) := by omega
      obtain ⟨r, hx⟩ := get_of HLU.out hlt
      obtain ⟨g, o, rfl, hb, c0, c1, -⟩ := (H.ro 2 rfl).now.at_ hx
      have HCE := hid (show iCells (li ++ (lu.take k).map Rw.id) ++ (#[Value.int .i64 r.id]).toList = iCells (li ++ (lu.take (k + 1)).map Rw.id) by rw [List.take_add_one, hx]; simp [iCells])
      clear hx
      have K1 := H.alloc_cst #[.int .i64 r.id, .slice r.A r.n r.c] 119
      have FA := K1.facts
      simp only [World.size_alloc, World.size_drew, factsL, cellsF, Nat.reduceAdd, List.toList_toArray, List.set_cons_zero, List.set_cons_succ, List.setIfInBounds_toArray, and_true, true_and] at FA
      clear H
      go_wp2_with (at_builtin; go_must (refine wpList_appH K1 1 rfl Tryz.elIntC #[.int .i64 r.id] rfl (.tmp 22) (.tmp 25) rfl rfl _ (by first | rfl | simp) rfl rfl (by intro u hu; simp at hu; rcases hu with rfl; rfl) (by omega) (by omega) ?_); intro g9 cap9 w9 hc9 hm9 KB; rw [HCE.out] at KB; simp only [List.set_cons_zero, List.set_cons_succ] at KB)
      go_roundw
      case rel => exact ⟨k + 1, q + 1, cap9, _, by omega, by (have := HQ.out; omega), by go_num, by first | rfl | trivial, KB.drop (List.sublist_cons_self _ _)⟩
      case measure => simp [intOf]; omega
    · obtain rfl : xnu = k := by omega
      have hd : decide ((xnu : Int) < (xnu : Int)) = false := by simp
      rw [List.take_of_length_le (by rw [HLU.out]; exact Nat.le_refl _)] at H
      have KS := H.sealRow 0 rfl
      simp only [List.set_cons_zero] at KS
      have KT : Hold M none w wr [.ro (IsIn O q (li ++ lu.map Rw.id)), .cst gx 129 #[.string xnm, .int .i64 xnx, .slice xI xni xci, .slice xD xnd xcd, .slice xU xnu xcu], .ro (RwsIn xU xnu lu), .ro (RwsIn xD xnd ld), .ro (IsIn xI xni li)] := KS
      have K2 := KT.nil 3 1
      clear H KS KT
      have F2 := K2.facts
      simp only [World.size_alloc, World.size_drew, factsL, cellsF, Nat.reduceAdd, List.toList_toArray, List.set_cons_zero, List.set_cons_succ, List.setIfInBounds_toArray, and_true, true_and] at F2
      go_wp2_with fail
      clear F2
      go_loopw [3, 31] (fun ov iv wr => ∃ (k cap2 : Nat) (O2 : Option Addr), k ≤ xnd ∧ iv = .int .i64 k ∧ ov = .slice O2 k cap2 ∧ Hold M none w wr [.own 3 1 (.slice O2 k cap2) k (iCells ((ld.take k).map Rw.id)), .ro (IsIn O q (li ++ lu.map Rw.id)), .cst gx 129 #[.string xnm, .int .i64 xnx, .slice xI xni xci, .slice xD xnd xcd, .slice xU xnu xcu], .ro (RwsIn xU xnu lu), .ro (RwsIn xD xnd ld), .ro (IsIn xI xni li)]) (fun _ iv _ => xnd - (intOf iv).toNat)
      case atStart => exact ⟨0, 0, none, by omega, rfl, rfl, K2⟩
      case round =>
        clear K2
        obtain ⟨k, cap2, O2, hk, rfl, rfl, H⟩ := hrel
        by_cases hlt : k < xnd
        · have hd : decide ((k : Int) < (xnd : Int)) = true := by simp; omega
          have j0 : (0 : Int) ≤ (k : Int) := by omega
          have j1 : (k : Int) < (xnd : Int) := by omega
          obtain ⟨r, hx⟩ := get_of HLD.out hlt
          obtain ⟨g, o, rfl, hb, c0, c1, -⟩ := (H.ro 4 rfl).now.at_ hx
          have HCE := hid (show iCells ((ld.take k).map Rw.id) ++ (#[Value.int .i64 r.id]).toList = iCells ((ld.take (k + 1)).map Rw.id) by rw [List.take_add_one, hx]; simp [iCells])
          clear hx
          have K1 := H.alloc_cst #[.int .i64 r.id, .slice r.A r.n r.c] 119
          have FA := K1.facts
          simp only [World.size_alloc, World.size_drew, factsL, cellsF, Nat.reduceAdd, List.toList_toArray, List.set_cons_zero, List.set_cons_succ, List.setIfInBounds_toArray, and_true, true_and] at FA
          clear H
          go_wp2_with (at_builtin; go_must (refine wpList_appH K1 1 rfl Tryz.elIntC #[.int .i64 r.id] rfl (.tmp 35) (.tmp 38) rfl rfl _ (by first | rfl | simp) rfl rfl (by intro u hu; simp at hu; rcases hu with rfl; rfl) (by omega) (by omega) ?_); intro g9 cap9 w9 hc9 hm9 KB; rw [HCE.out] at KB; simp only [List.set_cons_zero, List.set_cons_succ] at KB)
          go_roundw
          case rel => exact ⟨k + 1, cap9, _, by omega, by go_num, by first | rfl | trivial, KB.drop (List.sublist_cons_self _ _)⟩
          case measure => simp [intOf]; omega
        · obtain rfl : xnd = k := by omega
          have hd : decide ((xnd : Int) < (xnd : Int)) = false := by simp
          rw [List.take_of_length_le (by rw [HLD.out]; exact Nat.le_refl _)] at H
          have KS := H.sealRow 0 rfl
          simp only [List.set_cons_zero] at KS
          have KT : Hold M none w wr [.ro (IsIn O2 xnd (ld.map Rw.id)), .ro (IsIn O q (li ++ lu.map Rw.id)), .cst gx 129 #[.string xnm, .int .i64 xnx, .slice xI xni xci, .slice xD xnd xcd, .slice xU xnu xcu], .ro (RwsIn xU xnu lu), .ro (RwsIn xD xnd ld), .ro (IsIn xI xni li)] := KS
          have KM := Hold.mset KT 4 intFam
          rw [show (fun _ : Int => False) = (fun z => z ∈ ([] : List Int)) by funext z; simp] at KM
          obtain ⟨gm, hgm⟩ : ∃ gm, gm = wr.heap.size := ⟨_, rfl⟩
          rw [← hgm] at KM
          have KN := KM.alloc_cst #[.slice O q cap, .slice O2 xnd cap2] 22
          obtain ⟨gn, hgn⟩ : ∃ gn, gn = gm + 1 := ⟨_, rfl⟩
          rw [World.size_alloc, ← hgm, ← hgn] at KN
          clear H KS KT KM
          go_wp2_with fail
          rw [← hgm, ← hgn]
          have HGM := hid (And.intro hgm hgn)
          clear hgm hgn
          have hG : Ro _ _ (SlR 1 (some ⟨gn, 0, none⟩) 2 [.slice O q cap, .slice O2 xnd cap2]) := ro_block (KN.get 0 rfl) rfl
          refine (catI_any _ _ KN.mutLt gn O q cap (li ++ lu.map Rw.id) O2 xnd cap2 (ld.map Rw.id) hG (KN.ro 3 rfl) (KN.ro 2 rfl) (by omega) (by omega)).mono ?_
          rintro e w3 ⟨O3, q3, cap3, rfl, hq3, ho3, hb3⟩
          have hcap3 := own_caps ho3
          have KP := (KN.callOwn hb3 ho3).sealRow 0 rfl
          simp only [List.set_cons_zero] at KP
          have KQ : Hold M none w w3 (.ro (IsIn O3 q3 (li ++ lu.map Rw.id ++ ld.map Rw.id)) :: .cst gn 22 #[.slice O q cap, .slice O2 xnd cap2] :: .ob gm (MSet 4 intFam gm 0 (fun z => z ∈ ([] : List Int))) :: [.ro (IsIn O2 xnd (ld.map Rw.id)), .ro (IsIn O q (li ++ lu.map Rw.id)), .cst gx 129 #[.string xnm, .int .i64 xnx, .slice xI xni xci, .slice xD xnd xcd, .slice xU xnu xcu], .ro (RwsIn xU xnu lu), .ro (RwsIn xD xnd ld), .ro (IsIn xI xni li)]) := KP
          have KR := KQ.drop (show List.Sublist [.ro (IsIn O3 q3 (li ++ lu.map Rw.id ++ ld.map Rw.id)), .ob gm (MSet 4 intFam gm 0 (fun z => z ∈ ([] : List Int))), .ro (IsIn O2 xnd (ld.map Rw.id)), .ro (IsIn O q (li ++ lu.map Rw.id)), .cst gx 129 #[.string xnm, .int .i64 xnx, .slice xI xni xci, .slice xD xnd xcd, .slice xU xnu xcu], .ro (RwsIn xU xnu lu), .ro (RwsIn xD xnd ld), .ro (IsIn xI xni li)] _ from .cons_cons _ (.cons _ (List.Sublist.refl _)))
          obtain ⟨al, hal⟩ : ∃ al, al = li ++ lu.map Rw.id ++ ld.map Rw.id := ⟨_, rfl⟩
          rw [← hal] at KR hq3
          have HAL := hid hal
          have hq9 : q3 ≤ 10000000 := by rw [hq3, hal, List.length_append, List.length_append, List.length_map, List.length_map, HLI.out, HLU.out, HLD.out]; omega
          have HQ3 := hid hq3
          clear KN KP KQ hb3 ho3 hG hal hq3
          go_wp2_with fail
          go_loopw [2, 3, 47] (fun av bv iv wr => ∃ (k : Nat), k ≤ q3 ∧ av = .slice O q cap ∧ bv = .slice O2 xnd cap2 ∧ iv = .int .i64 k ∧ Hold M none w wr [.ro (IsIn O3 q3 al), .ob gm (MSet 4 intFam gm k (fun z => z ∈ al.take k)), .ro (IsIn O2 xnd (ld.map Rw.id)), .ro (IsIn O q (li ++ lu.map Rw.id)), .cst gx 129 #[.string xnm, .int .i64 xnx, .slice xI xni xci, .slice xD xnd xcd, .slice xU xnu xcu], .ro (RwsIn xU xnu lu), .ro (RwsIn xD xnd ld), .ro (IsIn xI xni li)]) (fun _ _ iv _ => q3 - (intOf iv).toNat)
          case atStart => exact ⟨0, by omega, rfl, rfl, rfl, KR⟩
          case round =>
            clear KR
            obtain ⟨k, hk, rfl, rfl, rfl, H⟩ := hrel
            by_cases hlt : k < q3
            · have hd : decide ((k : Int) < (q3 : Int)) = true := by simp; omega
              have j0 : (0 : Int) ≤ (k : Int) := by omega
              have j1 : (k : Int) < (q3 : Int) := by omega
              obtain ⟨b, o, rfl, hb, hcc⟩ := (H.ro 0 rfl).now.cells (by omega)
              have hkl : k < al.length := by rw [← HQ3.out]; exact hlt
              have hx : al[k]? = some (al.getD k 0) := by simp [List.getD, hkl]
              have ck := hcc k hkl
              clear hcc
              generalize al.getD k 0 = z at *
              have hzi : I64 z := HI64.out z (by rw [← HAL.out]; exact List.mem_of_getElem? hx)
              have hzn : z ∉ al.take k := fun hm => by
                obtain ⟨i, hi, he⟩ := List.getElem_of_mem hm
                have hi2 : i < k := by rw [List.length_take] at hi; omega
                have nd : al.Nodup := by rw [HAL.out]; exact HND.out
                have h1 : al[i]? = some z := by rw [← he, List.getElem_take]; exact List.getElem?_eq_getElem (by omega)
                have h2 := (List.getElem?_inj (by omega : i < al.length) nd).1 (h1.trans hx.symm)
                omega
              have HS := hid (show (fun y => y = z ∨ y ∈ al.take k) = (fun y => y ∈ al.take (k + 1)) by
                funext y
                rw [List.take_add_one, hx]
                simp [or_comm])
              have HZN := hid hzn
              clear hx hzn
              go_wp2_with first
                | (at_lookup; go_must (refine wpList_look H 1 rfl Tryz.setI rfl (.tmp 51) (.tmp 52) rfl rfl z rfl hzi ?_); intro cb hcb; obtain rfl : cb = false := (by cases cb; rfl; exact absurd (hcb.1 rfl) HZN.out); clear hcb)
                | (at_mapUpdate; go_must (refine wpList_put H 1 rfl Tryz.setI rfl (.tmp 54) (.tmp 55) _ rfl rfl z rfl rfl hzi (by unfold maxLen; omega) ?_); intro w5 K5)
              rw [HS.out] at K5
              simp only [List.set_cons_zero, List.set_cons_succ] at K5
              go_roundw
              case rel => exact ⟨k + 1, by omega, rfl, rfl, by go_num, K5⟩
              case measure => simp [intOf]; omega
            · obtain rfl : q3 = k := by omega
              have hd : decide ((q3 : Int) < (q3 : Int)) = false := by simp
              have r1 := H.roOut 3 rfl
              have r2 := H.roOut 2 rfl
              have HB := hid H.below
              have HL1 := hid (r1.now.len)
              have HL2 := hid (r2.now.len)
              clear H
              go_wp2_with fail
              (try simp only [Exit.inBlock, Exit.then])
              refine bodyPost_ret (results_tmp3 rfl _ _ _) rfl ?_
              exact ⟨O, q, cap, O2, xnd, cap2, rfl, HL1.out.symm, HL2.out.symm, r1, r2, HB.out⟩
end Go.Proofs.YtedogodccblfeaaGreatDoor

namespace Go.Proofs
open Go.Shelf
def Tryz.insRw_ren : Go.Shelf.Ren := ⟨fun | 20 => 221 | n => n, fun | 22 => 41 | 24 => 119 | 25 => 200 | 3 => 3 | 0 => 0 | 4 => 4 | n => n, fun | n => n⟩
theorem Tryz.insRw : Go.Proofs.SlLaysF0.n20 Tryz.prog Tryz.insRw_ren := {
  mixed := by kernel_rfl
  f20 := ⟨Tryz.f221.name, by decide, Tryz.func221.trans (congrArg some (by kernel_rfl))⟩
  t0 := Tryz.underlying0
  a0 := Tryz.isAgg0
  z0 := Tryz.sizeOf0
  v0 := Tryz.zeroValue0
  t3 := Tryz.underlying3
  a3 := Tryz.isAgg3
  z3 := Tryz.sizeOf3
  v3 := Tryz.zeroValue3
  t4 := Tryz.underlying4
  a4 := Tryz.isAgg4
  z4 := Tryz.sizeOf4
  v4 := Tryz.zeroValue4
  t22 := Tryz.underlying41
  a22 := Tryz.isAgg41
  z22 := Tryz.sizeOf41
  v22 := Tryz.zeroValue41
  t25 := Tryz.underlying200
  a25 := Tryz.isAgg200
  z25 := Tryz.sizeOf200
  v25 := Tryz.zeroValue200 }
end Go.Proofs

namespace Go.Proofs.YtedogodccblfeaaGreatDoor
open Go.RowKit Go.Sort
set_option linter.unusedVariables false
set_option linter.unusedSimpArgs false

theorem sortWd_heap {α : Type} [Inhabited α] (enc : α → Value) (w : World) (g m : Nat) (d : Array α) (os : Array Obj) {b : Nat} (hb : b < w.heap.size) (hne : b ≠ g) : (sortWorld enc w g 0 m d os).heap[b]? = w.heap[b]? := by
  show ((w.heap.modify g _) ++ os)[b]? = _
  rw [Array.getElem?_append, if_pos (by simpa using hb), Array.getElem?_modify, if_neg (fun e => hne e.symm)]
theorem sortWd_size {α : Type} [Inhabited α] (enc : α → Value) (w : World) (g m : Nat) (d : Array α) (os : Array Obj) : w.heap.size ≤ (sortWorld enc w g 0 m d os).heap.size := by
  show _ ≤ ((w.heap.modify g _) ++ os).size
  simp
theorem sortWd_at {α : Type} [Inhabited α] (enc : α → Value) (w : World) (g m : Nat) (d : Array α) (os : Array Obj) {cs : Array Value} {t : TypeId} (h : w.heap[g]? = some (.cells cs t (0, 0))) : (sortWorld enc w g 0 m d os).heap[g]? = some (.cells (Go.Sort.putCells enc 0 d cs) t (0, 0)) := by
  have hb : g < w.heap.size := (Array.getElem?_eq_some_iff.1 h).1
  show ((w.heap.modify g _) ++ os)[g]? = _
  rw [Array.getElem?_append, if_pos (by simpa using hb), Array.getElem?_modify, if_pos rfl, h]
  rfl
section
variable {α : Type} [Inhabited α] (enc : α → List Value) (k : Nat) (hk : ∀ x, (enc x).length = k)
include hk
theorem flatK_cell (d : Array α) {t : Nat} (ht : t < d.size * k) : (flatK enc k d)[t]! = (d.toList.flatMap enc)[t]?.getD default ∧ t < (d.toList.flatMap enc).length := by
  have hl : (d.toList.flatMap enc).length = d.size * k := by rw [flat_len enc k hk]; simp
  have k0 : 0 < k := by
    rcases Nat.eq_zero_or_pos k with h | h
    · subst h; simp at ht
    · exact h
  have h1 : t / k < d.size := Nat.div_lt_of_lt_mul (by rw [Nat.mul_comm]; exact ht)
  have h2 : t % k < k := Nat.mod_lt _ k0
  refine ⟨?_, by rw [hl]; exact ht⟩
  rw [get_flatK _ _ _ _ ht]
  have hx : d.toList[t / k]? = some d[t / k] := by rw [Array.getElem?_toList, Array.getElem?_eq_getElem h1]
  have h3 := flat_get enc k hk d.toList (t / k) (t % k) _ h2 hx
  rw [show t / k * k + t % k = t by rw [Nat.mul_comm]; exact Nat.div_add_mod t k] at h3
  rw [h3, getElem!_pos d _ h1]
  rw [getElem!_pos _ _ (by rw [hk]; exact h2), List.getElem?_eq_getElem (by rw [hk]; exact h2)]
  rfl
theorem flatK_at (d : Array α) {t : Nat} (ht : t < d.size * k) : (d.toList.flatMap enc)[t]? = some (flatK enc k d)[t]! := by
  obtain ⟨h1, h2⟩ := flatK_cell enc k hk d ht
  rw [h1, List.getElem?_eq_getElem h2]; rfl
theorem holdsK_own {w : World} {base : Nat} {e : TypeId} {g q cap : Nat} {d : Array α} (hs : d.size = q) (ho : w.ownsRow base e k (.slice (some ⟨g, 0, none⟩) q cap) q (d.toList.flatMap enc)) : HoldsK enc k w g 0 d := fun j hj => by
  rw [size_flatK] at hj
  rw [Nat.zero_add]
  refine ⟨(ho.cellAt j (by rw [← hs]; exact hj)).trans (flatK_at enc k hk d hj), ho.frozenAt j⟩
/-- an own row behind the sort -/
theorem own_sortK {w : World} {base : Nat} {e : TypeId} {g q cap : Nat} {xs : List Value} (ho : w.ownsRow base e k (.slice (some ⟨g, 0, none⟩) q cap) q xs) {d' : Array α} (hs : d'.size = q) (m : Nat) (os : Array Obj) : (sortWorldK enc k w g 0 m d' os).ownsRow base e k (.slice (some ⟨g, 0, none⟩) q cap) q (d'.toList.flatMap enc) := by
  have hl : (d'.toList.flatMap enc).length = q * k := by rw [flat_len enc k hk]; simp [hs]
  obtain ⟨hlen2, ⟨hv0, _⟩ | ⟨g', cap', cur, hveq, hbase, hcell, hqc, hcm, hcs, htk⟩⟩ := ho
  · cases hv0
  · injection hveq with e1 e2 e3
    injection e1 with e1
    injection e1 with e1
    subst e1; subst e3
    have hle : q * k ≤ cap * k := Nat.mul_le_mul_right _ hqc
    refine ⟨hl, .inr ⟨g, cap, _, rfl, hbase, sortWd_at id w g m (flatK enc k d') os hcell, hqc, hcm, ?_, ?_⟩⟩
    · rw [← hcs]
      show (cur.mapIdx _).size = _
      simp
    · refine List.ext_getElem? fun j => ?_
      by_cases hj : j < q * k
      · rw [List.getElem?_take, if_pos hj, flatK_at enc k hk d' (by rw [hs]; exact hj)]
        have hjc : j < cur.size := by rw [hcs]; omega
        show ((cur.mapIdx fun i x => if 0 ≤ i ∧ i < 0 + (flatK enc k d').size then id (flatK enc k d')[i - 0]! else x).toList)[j]? = _
        rw [Array.getElem?_toList, Array.getElem?_mapIdx, Array.getElem?_eq_getElem hjc]
        simp only [Option.map_some, Nat.zero_add, Nat.sub_zero, Nat.zero_le, true_and, size_flatK]
        rw [if_pos (by rw [hs]; exact hj)]
        rfl
      · rw [List.getElem?_eq_none (by rw [List.length_take]; omega), List.getElem?_eq_none (by rw [hl]; omega)]
theorem Hold.sortK {M : Nat → Prop} {row : Option Nat} {w0 w : World} {L : List Hp} (K : Hold M row w0 w L) (i : Nat) {e : TypeId} {g q cap : Nat} {xs : List Value} (hi : L[i]? = some (.own e k (.slice (some ⟨g, 0, none⟩) q cap) q xs)) {d' : Array α} (hs : d'.size = q) (m : Nat) (os : Array Obj) : Hold M row w0 (sortWorldK enc k w g 0 m d' os) (L.set i (.own e k (.slice (some ⟨g, 0, none⟩) q cap) q (d'.toList.flatMap enc))) := by
  have hg : g < w.heap.size := (K.fresh _ (List.mem_of_getElem? hi) g rfl).2
  exact K.append (w' := sortWorldK enc k w g 0 m d' os) i hi (own_sortK enc k hk (K.get i hi) hs m os) ⟨rfl, rfl, rfl, sortWd_size id w g m (flatK enc k d') os, fun b hb hne => sortWd_heap id w g m (flatK enc k d') os hb fun e => hne (by rw [e]; rfl)⟩ (.inl rfl) (Nat.lt_of_lt_of_le hg (sortWd_size id w g m (flatK enc k d') os))
end
end Go.Proofs.YtedogodccblfeaaGreatDoor

namespace Go.Proofs.YtedogodccblfeaaGreatDoor
open Go.RowKit Go.Sort
set_option linter.unusedVariables false
set_option linter.unusedSimpArgs false

instance rwInh : Inhabited Rw := ⟨⟨0, none, 0, 0, []⟩⟩
def cmpR (x y : Rw) : Int := cmpI x.id y.id
theorem cmpR_lt {x y : Rw} : cmpR x y < 0 ↔ x.id < y.id := by
  unfold cmpR cmpI
  split
  · simp [*]
  · split
    · constructor <;> intro h <;> omega
    · constructor <;> intro h <;> omega
theorem swoR : SWO (ltOf cmpR) where
  irrefl x := by unfold ltOf; rw [decide_eq_false_iff_not, cmpR_lt]; omega
  trans x y z h1 h2 := by unfold ltOf at *; rw [decide_eq_true_iff, cmpR_lt] at *; omega
  ntrans x y z h1 h2 := by unfold ltOf at *; rw [decide_eq_false_iff_not, cmpR_lt] at *; omega
set_option maxHeartbeats 2000000 in
theorem ucmp_gr (x y : Rw) (w : World) :
    Calls Tryz.prog 135 #[.agg #[.int .i64 x.id, .slice x.A x.n x.c], .agg #[.int .i64 y.id, .slice y.A y.n y.c]] w fun e w' => e = .returned (.int .i64 (cmpR x y)) ∧ Gr w w' := by
  have K0 := ((Hold.begin_ w).alloc_cst #[.int .i64 x.id, .slice x.A x.n x.c] 119).alloc_cst #[.int .i64 y.id, .slice y.A y.n y.c] 119
  have F0 := K0.facts
  simp only [World.size_alloc, World.size_drew, factsL, cellsF, Nat.reduceAdd, List.toList_toArray, List.set_cons_zero, List.set_cons_succ, List.setIfInBounds_toArray, and_true, true_and] at F0
  go_enter Tryz.func135, Tryz.ntmps135
  go_wp2_with fail
  refine (cmp_int x.id y.id _).mono ?_
  rintro e w3 ⟨rfl, rfl⟩
  go_wp2_with fail
  go_ret
  exact ⟨rfl, (Gr.alloc _ _).trans (Gr.alloc _ _)⟩
abbrev ucmpV : Value := .func (.func 135) #[] #[]
set_option maxHeartbeats 4000000 in
set_option maxRecDepth 100000 in
theorem stable_any (w : World) (A : Option Addr) (q cap : Nat) (hq : q ≤ 19) (Q : World → Prop) (hins : Calls Tryz.prog 221 #[.slice A q cap, .int .i64 0, .int .i64 q, ucmpV] w fun e w' => e = .returned (.tuple #[]) ∧ Q w') :
    Calls Tryz.prog 191 #[.slice A q cap, .int .i64 q, ucmpV] w fun e w' => e = .returned (.tuple #[]) ∧ Q w' := by
  have HI := hid hins
  clear hins
  have h1 : decide ((20 : Int) ≤ (q : Int)) = false := by rw [decide_eq_false_iff_not]; omega
  have h2 : decide ((20 : Int) < (q : Int)) = false := by rw [decide_eq_false_iff_not]; omega
  go_enter Tryz.func191, Tryz.ntmps191
  go_wp2_with fail
  go_loopw [7, 8] (fun av bv wr => av = .int .i64 0 ∧ bv = .int .i64 20 ∧ wr = w) (fun _ _ _ => 0)
  case atStart => exact ⟨rfl, rfl, rfl⟩
  case round =>
    obtain ⟨rfl, rfl, rfl⟩ := hrel
    go_wp2_with fail
    refine HI.out.mono ?_
    rintro e w2 ⟨rfl, hQ⟩
    have HQ := hid hQ
    clear hQ
    go_wp2_with fail
    go_loopw [6, 7, 8] (fun cv av bv wr => cv = .int .i64 20 ∧ wr = w2) (fun _ _ _ _ => 0)
    case atStart => exact ⟨rfl, rfl⟩
    case round =>
      obtain ⟨rfl, rfl⟩ := hrel
      go_wp2_with fail
      go_end0
      exact ⟨rfl, HQ.out⟩
theorem sortrw_any {M : Nat → Prop} {row : Option Nat} {w0 w : World} {L : List Hp} (K : Hold M row w0 w L) (i : Nat) {e : TypeId} {A : Option Addr} {q cap : Nat} {lo : List Rw} (hi : L[i]? = some (.own e 2 (.slice A q cap) q (rwCells lo))) (hq : q ≤ 19) :
    Calls Tryz.prog 134 #[.slice A q cap, ucmpV] w fun e' w' => e' = .returned (.tuple #[]) ∧ ∃ lo' : List Rw, lo'.Perm lo ∧ (lo'.map Rw.id).Pairwise (· ≤ ·) ∧ Hold M row w0 w' (L.set i (.own e 2 (.slice A q cap) q (rwCells lo'))) := by
  have ho : w.ownsRow w0.heap.size e 2 (.slice A q cap) q (rwCells lo) := K.get i hi
  have hl : lo.length = q := by have := ho.1; rw [rwCells_len] at this; omega
  have hst : Calls Tryz.prog 191 #[.slice A q cap, .int .i64 q, ucmpV] w fun e' w' => e' = .returned (.tuple #[]) ∧ ∃ lo' : List Rw, lo'.Perm lo ∧ (lo'.map Rw.id).Pairwise (· ≤ ·) ∧ Hold M row w0 w' (L.set i (.own e 2 (.slice A q cap) q (rwCells lo'))) := by
    refine stable_any w A q cap hq _ ?_
    rcases own_addr ho with ⟨rfl, rfl, rfl⟩ | ⟨g, rfl, hgb⟩
    · have hcon := AnyF.insertionSortCmpFunc_none Tryz.insRw none 0 ucmpV w
      change Calls Tryz.prog 221 _ _ _ at hcon
      refine hcon.mono ?_
      rintro e' w' ⟨rfl, rfl⟩
      obtain rfl : lo = [] := List.length_eq_zero_iff.1 hl
      refine ⟨rfl, [], List.Perm.refl _, by simp, ?_⟩
      rw [show L.set i (.own e 2 (.slice none 0 0) 0 (rwCells [])) = L from by
        apply List.ext_getElem?
        intro j
        rw [List.getElem?_set]
        split
        · subst i; split
          · exact hi.symm
          · rw [List.getElem?_eq_none (by omega)]
        · rfl]
      exact K
    · have hg : g < w.heap.size := (K.fresh _ (List.mem_of_getElem? hi) g rfl).2
      have hcmp : CmpLays Tryz.prog 135 #[] Rw.cells 2 cmpR g 0 lo.toArray.size w := fun m os dk hs x y => (ucmp_gr x y _).mono fun e' w' h => h
      have hcon := AnyQ.insertionSortCmpFunc Tryz.insRw 2 Tryz.isAgg119 Tryz.sizeOf119 Rw.cells (fun _ => rfl) (fun x v hv => by simp [Rw.cells] at hv; rcases hv with rfl | rfl <;> rfl) cmpR 135 #[] g 0 cap 0 q lo.toArray w (enters_of Tryz.func135 (by kernel_rfl) rfl) hcmp (holdsK_own Rw.cells 2 (fun _ => rfl) (d := lo.toArray) (by simpa using hl) ho) hg (Nat.zero_le _) (by simpa using Nat.le_of_eq hl.symm) (by simpa [hl] using (show q < 4611686018427387904 by omega))
      rw [show lo.toArray.size = q by simpa using hl] at hcon
      change Calls Tryz.prog 221 _ _ _ at hcon
      obtain ⟨⟨p1, p2, p3⟩, hs⟩ := insertionSort_holds (lt := ltOf cmpR) swoR lo.toArray 0 q (Nat.zero_le _) (by simpa using Nat.le_of_eq hl.symm)
      refine hcon.mono ?_
      rintro e' w' ⟨rfl, n, os, rfl⟩
      obtain ⟨d', hd'⟩ : ∃ d', d' = insertionSort (ltOf cmpR) lo.toArray 0 q := ⟨_, rfl⟩
      rw [← hd'] at p1 p2 p3 hs ⊢
      have p1 : d'.size = q := by simpa [hl] using p1
      have hall : d'.extract 0 q = d' := by rw [← p1]; simp
      have hall2 : lo.toArray.extract 0 q = lo.toArray := by rw [← hl]; simp
      rw [hall, hall2] at p3
      refine ⟨rfl, d'.toList, by simpa using p3, ?_, ?_⟩
      · rw [List.pairwise_map, List.pairwise_iff_getElem]
        intro a b ha hb hab
        have h1 := hs a b (Nat.zero_le _) hab (by simpa [p1] using hb)
        unfold ltOf at h1
        rw [decide_eq_false_iff_not, cmpR_lt] at h1
        rw [getElem!_pos d' a (by simpa using ha), getElem!_pos d' b (by simpa using hb)] at h1
        simpa using h1
      · exact K.sortK Rw.cells 2 (fun _ => rfl) i hi p1 n os
  have HST := hid hst
  clear hst K ho hi
  go_enter Tryz.func134, Tryz.ntmps134
  go_wp2_with fail
  refine HST.out.mono ?_
  rintro e' w' ⟨rfl, hr⟩
  have HR := hid hr
  clear hr HST
  go_wp2_with fail
  go_end0
  exact ⟨rfl, HR.out⟩
end Go.Proofs.YtedogodccblfeaaGreatDoor

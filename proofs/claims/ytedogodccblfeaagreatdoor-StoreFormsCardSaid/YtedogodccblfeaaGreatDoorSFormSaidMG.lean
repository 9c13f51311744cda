/- IntCat: Grow and Concat over numbers. -/
import Derived.Test.YtedogodccblfeaaGreatDoorSFormSaidMF
import Derived.Test.YtedogodccblfeaaGreatDoorSFormSaidMB
import Derived.Test.YtedogodccblfeaaGreatDoorSFormSaidMA
import Derived.Test.YtedogodccblfeaaGreatDoorSFormSaidMC
import Derived.Test.YtedogodccblfeaaGreatDoorSFormSaidMD
import Derived.Test.YtedogodccblfeaaGreatDoorSFormSaidME
import Derived.StillTailTactics
import Derived.Lib.AppendZerosOnto
import Derived.Lib.SliceRun
namespace Go.Proofs.YtedogodccblfeaaGreatDoor
open Go.RowKit
set_option linter.unusedVariables false
set_option linter.unusedSimpArgs false

set_option maxHeartbeats 8000000 in
set_option maxRecDepth 100000 in
theorem dbetw_any (M : Nat → Prop) (w : World) (hM : ∀ b, M b → b < w.heap.size) (va vb : Value) (a b : Tb) (hTa : TbAt w M va a) (hTb : TbAt w M vb b) (hsa : a.nm.size ≤ maxLen) (hca : ∀ x ∈ a.cs, x.name.size ≤ maxLen) (hra : a.rs.length ≤ 4398046511104) (hsb : b.nm.size ≤ maxLen) (hcb : ∀ x ∈ b.cs, x.name.size ≤ maxLen) (hrb : b.rs.length ≤ 4398046511104) :
    Calls Tryz.prog 81 #[va, vb] w fun e w' => BetRet w M (betweenC a b) e w' := by
  obtain ⟨aA, an, ac, aB, am, ad, la, rfl, a1, a2, a3, a4, a5, a6, a7, a8⟩ := hTa
  obtain ⟨bA, bn, bc, bB, bm, bd, lb, rfl, b1, b2, b3, b4, b5, b6, b7, b8⟩ := hTb
  have HAL := hid (show la.length = am from a6.now.len)
  have HBL := hid (show lb.length = bm from b6.now.len)
  have HAR := hid a8
  have HBR := hid b8
  have HAO := hid a7
  have HBO := hid b7
  have HAE := hid a6.now
  have HBE := hid b6.now
  have HAC := hid (show a.cs.length = an from cols_n a5.now)
  have ham : am ≤ 4398046511104 := by have := HAL.out; have h := congrArg List.length a8; rw [List.length_map] at h; omega
  have hbm : bm ≤ 4398046511104 := by have := HBL.out; have h := congrArg List.length b8; rw [List.length_map] at h; omega
  have K0 := (((((((Hold.start M w hM).add (b6.less (by simp [Mut]))).add (b5.less (by simp [Mut, Hp.foot]))).add (a6.less (by simp [Mut, Hp.foot]))).add (a5.less (by simp [Mut, Hp.foot]))).alloc_cst #[.string a.nm, .slice aA an ac, .int .i64 a.nx, .slice aB am ad] 58).alloc_cst #[.string b.nm, .slice bA bn bc, .int .i64 b.nx, .slice bB bm bd] 58).alloc #[.string ⟨#[]⟩, .slice none 0 0, .slice none 0 0, .slice none 0 0] 44
  simp only [World.size_alloc] at K0
  have F0 := K0.facts
  simp only [World.size_alloc, World.size_drew, factsL, cellsF, Nat.reduceAdd, List.toList_toArray, List.set_cons_zero, List.set_cons_succ, List.setIfInBounds_toArray, and_true, true_and] at F0
  clear a5 a6 a7 a8 b5 b6 b7 b8
  go_enter Tryz.func81, Tryz.ntmps81
  go_wp2
  go_step3
  go_wp2_with fail
  obtain ⟨g2, hg2⟩ : ∃ g, g = w.heap.size := ⟨_, rfl⟩
  obtain ⟨g3, hg3⟩ : ∃ g, g = g2 + 1 := ⟨_, rfl⟩
  obtain ⟨g4, hg4⟩ : ∃ g, g = g3 + 1 := ⟨_, rfl⟩
  rw [← hg2, ← hg3, ← hg4] at K0 ⊢
  clear F0
  generalize ((w.alloc _).alloc _).alloc _ = w1 at K0 ⊢
  have HGX := hid hg2
  clear hg2 hg3 hg4
  have hv := tvalid_any _ _ K0.mutLt a.nm aA an ac a.cs a.nx aB am ad la (K0.ro 3 rfl) (K0.ro 4 rfl) (by omega) (by omega) HAO.out hsa hca
  rw [HAR.out] at hv
  refine hv.mono ?_
  clear hv
  rintro e w2 ⟨rfl, b1_⟩
  have K1 := K0.call b1_
  clear K0 b1_
  have F1 := K1.facts
  simp only [World.size_alloc, World.size_drew, factsL, cellsF, Nat.reduceAdd, List.toList_toArray, List.set_cons_zero, List.set_cons_succ, List.setIfInBounds_toArray, and_true, true_and] at F1
  cases hva : tabB a.nm a.cs a.nx a.rs
  · have HN := hid (betC_a (b := b) hva)
    clear hva
    have KN := (((K1.store 0 rfl 0 (.string ⟨#[]⟩)).store 0 rfl 1 (.slice none 0 0)).store 0 rfl 2 (.slice none 0 0)).store 0 rfl 3 (.slice none 0 0)
    go_wp2_with fail
    exact bodyPost_ret (v := .tuple #[.agg #[.string ⟨#[]⟩, .slice none 0 0, .slice none 0 0, .slice none 0 0], .bool false]) (by simp [results, Tryz.results81, go_sem, F1]) rfl ⟨_, by rw [HN.out], by rw [HN.out]; exact dlAt_zero, KN.below⟩
  have HVA := hid hva
  clear hva
  go_wp2_with fail
  have hv := tvalid_any _ _ K1.mutLt b.nm bA bn bc b.cs b.nx bB bm bd lb (K1.ro 5 rfl) (K1.ro 6 rfl) (by omega) (by omega) HBO.out hsb hcb
  rw [HBR.out] at hv
  refine hv.mono ?_
  clear hv
  rintro e w3 ⟨rfl, b1_⟩
  have K2 := K1.call b1_
  clear K1 b1_ F1
  have F2 := K2.facts
  simp only [World.size_alloc, World.size_drew, factsL, cellsF, Nat.reduceAdd, List.toList_toArray, List.set_cons_zero, List.set_cons_succ, List.setIfInBounds_toArray, and_true, true_and] at F2
  cases hvb : tabB b.nm b.cs b.nx b.rs
  · have HN := hid (betC_b (a := a) hvb)
    clear hvb
    have KN := (((K2.store 0 rfl 0 (.string ⟨#[]⟩)).store 0 rfl 1 (.slice none 0 0)).store 0 rfl 2 (.slice none 0 0)).store 0 rfl 3 (.slice none 0 0)
    go_wp2_with fail
    exact bodyPost_ret (v := .tuple #[.agg #[.string ⟨#[]⟩, .slice none 0 0, .slice none 0 0, .slice none 0 0], .bool false]) (by simp [results, Tryz.results81, go_sem, F2]) rfl ⟨_, by rw [HN.out], by rw [HN.out]; exact dlAt_zero, KN.below⟩
  have HVB := hid hvb
  clear hvb hsa hca hsb hcb
  have han6 : an ≤ 6 := by have := tabB_cols HVA.out; have := HAC.out; omega
  have ham1 : am ≤ 100 := by have := (tabB_rows HVA.out).1; have h := congrArg List.length HAR.out; rw [List.length_map] at h; have := HAL.out; omega
  have hbm1 : bm ≤ 100 := by have := (tabB_rows HVB.out).1; have h := congrArg List.length HBR.out; rw [List.length_map] at h; have := HBL.out; omega
  have HSA := hid (rw_short HAE.out (by rw [HAR.out]; exact HVA.out))
  have HSB := hid (rw_short HBE.out (by rw [HBR.out]; exact HVB.out))
  clear ham hbm hra hrb
  go_wp2_with fail
  refine (dsameschema_any _ a.nm aA an ac a.cs b.nm bA bn bc b.cs (K2.ro 3 rfl).now (K2.ro 5 rfl).now (by omega)).mono ?_
  rintro e w4 ⟨rfl, b1_⟩
  have K3 := K2.call b1_
  clear K2 b1_ F2
  have F3 := K3.facts
  simp only [World.size_alloc, World.size_drew, factsL, cellsF, Nat.reduceAdd, List.toList_toArray, List.set_cons_zero, List.set_cons_succ, List.setIfInBounds_toArray, and_true, true_and] at F3
  cases hss : decide (a.nm = b.nm ∧ a.cs = b.cs)
  · have HN := hid (betC_s hss)
    clear hss
    have KN := (((K3.store 0 rfl 0 (.string ⟨#[]⟩)).store 0 rfl 1 (.slice none 0 0)).store 0 rfl 2 (.slice none 0 0)).store 0 rfl 3 (.slice none 0 0)
    go_wp2_with fail
    exact bodyPost_ret (v := .tuple #[.agg #[.string ⟨#[]⟩, .slice none 0 0, .slice none 0 0, .slice none 0 0], .bool false]) (by simp [results, Tryz.results81, go_sem, F3]) rfl ⟨_, by rw [HN.out], by rw [HN.out]; exact dlAt_zero, KN.below⟩
  have HEQ := hid (of_decide_eq_true hss)
  clear hss
  by_cases hnx : b.nx < a.nx
  · have hd : decide (b.nx < a.nx) = true := by simpa using hnx
    have HN := hid (betC_n hnx)
    clear hnx
    have KN := (((K3.store 0 rfl 0 (.string ⟨#[]⟩)).store 0 rfl 1 (.slice none 0 0)).store 0 rfl 2 (.slice none 0 0)).store 0 rfl 3 (.slice none 0 0)
    go_wp2_with fail
    exact bodyPost_ret (v := .tuple #[.agg #[.string ⟨#[]⟩, .slice none 0 0, .slice none 0 0, .slice none 0 0], .bool false]) (by simp [results, Tryz.results81, go_sem, F3]) rfl ⟨_, by rw [HN.out], by rw [HN.out]; exact dlAt_zero, KN.below⟩
  have hd : decide (b.nx < a.nx) = false := by simpa using hnx
  have HST := hid (BSt.zero HVA.out HVB.out HEQ.out (show a.nx ≤ b.nx by omega))
  clear hnx
  have K4 := K3.alloc #[.string a.nm, .slice none 0 0, .slice none 0 0, .slice none 0 0] 44
  go_wp2
  go_step3
  go_wp2
  obtain ⟨g6, hg6⟩ : ∃ g, g = w4.heap.size := ⟨_, rfl⟩
  rw [← hg6] at K4 ⊢
  have HG6 := hid hg6
  clear hg6 hd F3 K3
  generalize World.alloc w4 _ = w5 at K4 ⊢
  have K5 := ((((((K4.add (show Ro _ _ (PrVals []) from fun _ _ _ r hr => nomatch hr)).add (ro_vals_nil _ _)).add (ro_vals_nil _ _)).nil 110 3).nil 119 2).nil 119 2)
  have K6 := K5.add (show Ro _ _ (RwsIn aB am (la.drop 0)) from K5.ro 11 rfl)
  clear K4 K5
  go_loopg [7, 46] bm (fun gh bv iv wr => ∃ (j p np cp ni ci nd cd nu cu : Nat) (Ap I D U : Option Addr) (li ld : List Rw) (lu : List Pr), j + gh = bm ∧ iv = .int .i64 j ∧ bv = .slice Ap np cp ∧ np + p = am ∧ p ≤ am ∧ ni ≤ j ∧ nd ≤ p ∧ nu ≤ j ∧ np ≤ cp ∧ cp ≤ 9223372036854775807 ∧ Hid (BSt a b j p li ld lu) ∧ Hold M none w wr [.ro (RwsIn Ap np (la.drop p)), .own 119 2 (.slice I ni ci) ni (rwCells li), .own 119 2 (.slice D nd cd) nd (rwCells ld), .own 110 3 (.slice U nu cu) nu (prCells lu), .ro (ValsIn li), .ro (ValsIn ld), .ro (PrVals lu), .blk g6 44 #[.string a.nm, .slice I ni ci, .slice D nd cd, .slice U nu cu], .blk g4 44 #[.string ⟨#[]⟩, .slice none 0 0, .slice none 0 0, .slice none 0 0], .cst g3 58 #[.string b.nm, .slice bA bn bc, .int .i64 b.nx, .slice bB bm bd], .cst g2 58 #[.string a.nm, .slice aA an ac, .int .i64 a.nx, .slice aB am ad], .ro (ColsIn aA an a.cs), .ro (RwsIn aB am la), .ro (ColsIn bA bn b.cs), .ro (RwsIn bB bm lb)])
  case atStart => exact ⟨0, 0, am, ad, 0, 0, 0, 0, 0, 0, aB, none, none, none, [], [], [], by omega, rfl, rfl, by omega, by omega, by omega, by omega, by omega, a3, a4, HST, K6⟩
  case round =>
    clear K6
    obtain ⟨j, p, np, cp, ni, ci, nd, cd, nu, cu, Ap, I, D, U, li, ld, lu, hj, rfl, rfl, hnp, hpm, hni, hnd, hnu, hncp, hcp, HBS, H⟩ := hrel
    obtain ⟨wo, rfl⟩ : ∃ wo : World, wo = wr := ⟨_, rfl⟩
    cases gk with
    | succ go =>
      have hlt : j < bm := by omega
      have hd : decide ((j : Int) < (bm : Int)) = true := by simp; omega
      have j0 : (0 : Int) ≤ (j : Int) := by omega
      have j1 : (j : Int) < (bm : Int) := by omega
      obtain ⟨r, hr⟩ := get_of HBL.out hlt
      obtain ⟨bb, bo, rfl, hbb, c0, c1, _⟩ := (H.ro 14 rfl).now.at_ hr
      have HRR := hid (show b.rs[j]? = some r.row by rw [← HBR.out, List.getElem?_map, hr]; rfl)
      have HRO := hid (HBO.out r (List.mem_of_getElem? hr))
      have hrn6 := HSB.out r (List.mem_of_getElem? hr)
      have hxr : Ro wo _ (VlsIn r.A r.n r.vs) := (H.ro 14 rfl).imp fun w2 h2 => h2.2 r (List.mem_of_getElem? hr)
      obtain ⟨rid, rA, rn, rc, rvs⟩ := r
      dsimp only at *
      clear hr
      have K1 := (H.add hxr).alloc_cst #[.int .i64 rid, .slice rA rn rc] 119
      clear H hxr
      obtain ⟨g9, hg9⟩ : ∃ g, g = wo.heap.size := ⟨_, rfl⟩
      rw [← hg9] at K1
      go_wp2_with fail
      rw [← hg9]
      have HG9 := hid hg9
      clear hg9 c0 c1
      generalize World.alloc wo _ = wo2 at K1 ⊢
      go_loopg [7] np (fun gh bv wq => ∃ (p np cp nd cd : Nat) (Ap D : Option Addr) (ld : List Rw), gh = np ∧ bv = .slice Ap np cp ∧ np + p = am ∧ p ≤ am ∧ nd ≤ p ∧ np ≤ cp ∧ cp ≤ 9223372036854775807 ∧ Hid (BSt a b j p li ld lu) ∧ Hold M none w wq [.cst g9 119 #[.int .i64 rid, .slice rA rn rc], .ro (VlsIn rA rn rvs), .ro (RwsIn Ap np (la.drop p)), .own 119 2 (.slice I ni ci) ni (rwCells li), .own 119 2 (.slice D nd cd) nd (rwCells ld), .own 110 3 (.slice U nu cu) nu (prCells lu), .ro (ValsIn li), .ro (ValsIn ld), .ro (PrVals lu), .blk g6 44 #[.string a.nm, .slice I ni ci, .slice D nd cd, .slice U nu cu], .blk g4 44 #[.string ⟨#[]⟩, .slice none 0 0, .slice none 0 0, .slice none 0 0], .cst g3 58 #[.string b.nm, .slice bA bn bc, .int .i64 b.nx, .slice (some ⟨bb, bo, none⟩) bm bd], .cst g2 58 #[.string a.nm, .slice aA an ac, .int .i64 a.nx, .slice aB am ad], .ro (ColsIn aA an a.cs), .ro (RwsIn aB am la), .ro (ColsIn bA bn b.cs), .ro (RwsIn (some ⟨bb, bo, none⟩) bm lb)])
      case atStart => exact ⟨p, np, cp, nd, cd, Ap, D, ld, rfl, rfl, hnp, hpm, hnd, hncp, hcp, HBS, K1⟩
      case round =>
        clear K1 HBS hnp hpm hnd hncp hcp
        clear p np cp nd cd Ap D ld
        obtain ⟨p, np, cp, nd, cd, Ap, D, ld, hgh, rfl, hnp, hpm, hnd, hncp, hcp, HBS, H2⟩ := hrel
        cases gk with
        | succ gi =>
          have hnp0 : 0 < np := by omega
          have hq1 : decide ((np : Int) > 0) = true := by rw [decide_eq_true_iff]; omega
          have hq2 : ((0 : Int) < (np : Int)) := by omega
          obtain ⟨x, hx⟩ := get_of HAL.out (show p < am by omega)
          have HXX := hid (show a.rs[p]? = some x.row by rw [← HAR.out, List.getElem?_map, hx]; rfl)
          have HXO := hid (HAO.out x (List.mem_of_getElem? hx))
          have hxn6 := HSA.out x (List.mem_of_getElem? hx)
          have hdr := drop_cons hx
          have hbf := H2.ro 2 rfl
          rw [hdr] at hbf
          obtain ⟨bx, ox, rfl, _⟩ := hbf.tailRws
          have HDR := hid hdr
          obtain ⟨b', o', e', hbx', x0, x1, _⟩ := hbf.now.at_ (k := 0) rfl
          obtain ⟨rfl, rfl⟩ : bx = b' ∧ ox = o' := by injection e' with e'; injection e' with e1 e2; exact ⟨e1, e2⟩
          simp only [Nat.zero_mul, Nat.add_zero] at x0 x1
          clear hx hdr hbf e'
          obtain ⟨xid, xA, xn, xc, xvs⟩ := x
          dsimp only at *
          have F2 := H2.facts
          simp only [World.size_alloc, World.size_drew, factsL, cellsF, Nat.reduceAdd, List.toList_toArray, List.set_cons_zero, List.set_cons_succ, List.setIfInBounds_toArray, and_true, true_and] at F2
          by_cases hle : xid ≤ rid
          · have hd2 : decide (xid ≤ rid) = true := by simpa using hle
            go_wp2_with fail
            go_quiet (fail)
            have H3 := H2.drewN nq
            clear H2 F2 x0 x1
            obtain ⟨w3, hw3⟩ : ∃ w3, w3 = wr.drewN nq := ⟨_, rfl⟩
            rw [← hw3] at H3 ⊢
            clear hw3
            have hbf : Ro w3 _ (RwsIn (some ⟨bx, ox, none⟩) np (⟨xid, xA, xn, xc, xvs⟩ :: la.drop (p + 1))) := (H3.ro 2 rfl).imp fun w2 h2 => by rw [← HDR.out]; exact h2
            obtain ⟨bx', ox', e', hnxt⟩ := hbf.tailRws
            obtain ⟨rfl, rfl⟩ : bx = bx' ∧ ox = ox' := by injection e' with e'; injection e' with e1 e2; exact ⟨e1, e2⟩
            obtain ⟨b', o', e2', hbx', x0, x1, _⟩ := hbf.now.at_ (k := 0) rfl
            obtain ⟨rfl, rfl⟩ : bx = b' ∧ ox = o' := by injection e2' with e2'; injection e2' with e1 e2; exact ⟨e1, e2⟩
            simp only [Nat.zero_mul, Nat.add_zero] at x0 x1
            have hxx : Ro w3 _ (VlsIn xA xn xvs) := hbf.imp fun w2 h2 => h2.2 _ (List.mem_cons_self ..)
            have K2 := (H3.add hxx).alloc_cst #[.int .i64 xid, .slice xA xn xc] 119
            clear e' e2' hbf hxx
            have hnp1 : 1 ≤ np := by omega
            by_cases hc1 : cp = 1
            · have HZ := hid (show la.drop (p + 1) = [] from List.drop_of_length_le (by rw [HAL.out]; omega))
              have KX := K2.swapRo 4 rfl (Ro.nilRws (A := some ⟨bx, ox, none⟩) (n := np - 1) (l := la.drop (p + 1)) (by omega) HZ.out)
              simp only [List.set_cons_zero, List.set_cons_succ] at KX
              clear K2 H3 hnxt
              have FK := KX.facts
              simp only [World.size_alloc, World.size_drew, factsL, cellsF, Nat.reduceAdd, List.toList_toArray, List.set_cons_zero, List.set_cons_succ, List.setIfInBounds_toArray, and_true, true_and] at FK
              by_cases hlt3 : xid < rid
              · have hd4 : decide (xid < rid) = true := by simpa using hlt3
                obtain ⟨KL, hKL, KN⟩ := KX.name
                have HF : Hid (∀ wv, Hold M none w wv KL → (wv.cell? ⟨g6, 2, none⟩ = some (.slice D nd cd) ∧ g6 < wv.heap.size) ∧ wv.cell? ⟨w3.heap.size, 0, none⟩ = some (.int .i64 xid) ∧ wv.cell? ⟨w3.heap.size, 1, none⟩ = some (.slice xA xn xc) ∧ w3.heap.size < wv.heap.size) := hid fun wv HC => by
                  rw [hKL] at HC
                  have y1 := HC.blk_ 11 rfl
                  have y2 := HC.cst_ 0 rfl
                  exact ⟨⟨cell_of_row _ _ 2 _ _ _ y1, Blk.lt y1⟩, cell_of_row _ _ 0 _ _ _ y2, cell_of_row _ _ 1 _ _ _ y2, Blk.lt y2⟩
                have HRX : Hid (∀ wv, Hold M none w wv KL → Ro wv (Mut M KL) (VlsIn xA xn xvs)) := hid fun wv HC => by
                  rw [hKL] at HC ⊢
                  exact HC.ro 1 rfl
                have HKL := hid hKL
                clear hKL KX
                go_wp2_with fail
                refine wp_region_any (by kernel_rfl) ?_
                refine wpAny_hold 5 128 (KL) (spL [(75, RowSlot (Mut M KL) xid xvs), (76, RBoxSlot (Mut M KL) xid xvs)]) (by kernel_rfl) (by kernel_rfl) (by kernel_rfl) rfl ?_ (KN.drew) ?_
                · exact stays_cons rowSlot_mono (stays_cons rboxSlot_mono (stays_nil _))
                simp only [List.take_succ_cons, List.take_zero, List.drop_succ_cons, List.drop_zero, Act.put, List.getElem_toArray, List.getElem_cons_zero, List.getElem_cons_succ, List.setIfInBounds_toArray, List.set_cons_succ, List.set_cons_zero]
                refine dw_val rfl rfl rfl ?_; apply Exists.intro; refine ⟨fun wv HC => ?_, ?_⟩
                ·  go_simp <;> rfl
                simp only [Act.put, List.setIfInBounds_toArray, List.set_cons_succ, List.set_cons_zero]
                refine dw_val rfl rfl rfl ?_; apply Exists.intro; refine ⟨fun wv HC => ?_, ?_⟩
                · obtain ⟨⟨f0, f1⟩, f2, f3, f4⟩ := HF.out _ HC; go_simp <;> rfl
                simp only [Act.put, List.setIfInBounds_toArray, List.set_cons_succ, List.set_cons_zero]
                refine dw_val rfl rfl rfl ?_; apply Exists.intro; refine ⟨fun wv HC => ?_, ?_⟩
                · obtain ⟨⟨f0, f1⟩, f2, f3, f4⟩ := HF.out _ HC; go_simp <;> rfl
                simp only [Act.put, List.setIfInBounds_toArray, List.set_cons_succ, List.set_cons_zero]
                refine dw_callR 75 (RowSlot (Mut M KL) xid xvs) (f := 147) (args := #[.agg #[.int .i64 xid, .slice xA xn xc]]) rfl rfl rfl rfl (fun wv => ?_) (fun wv HC hrm hD => ?_) ?_
                · go_simp <;> rfl
                · refine (dcopied_any _ wv HC.mutLt xid xA xn xc xvs (HRX.out _ HC) (by omega)).mono ?_
                  rintro e w5 ⟨A5, n5, c5, rfl, h50, h51, h52, h53, b5⟩
                  exact ⟨_, rfl, ⟨A5, n5, c5, rfl, h50, h51, h52, h53⟩, HC.call b5, RM.below b5⟩
                rintro x_ wx HCx ⟨A5, n5, c5, rfl, -, -, -, -⟩
                clear HCx
                simp only [Act.put, List.setIfInBounds_toArray, List.set_cons_succ, List.set_cons_zero]
                refine dw_new #[.int .i64 xid, .slice A5 n5 c5] 119 76 (RBoxSlot (Mut M KL) xid xvs) (fun g => .slice (some ⟨g, 0, none⟩) 1 1) rfl rfl rfl rfl (fun wv => ?_) (fun wv HC _hrm hD hro => ?_) ?_
                · go_simp <;> rfl
                · have hsl : RowSlot (Mut M KL) xid xvs (.agg #[.int .i64 xid, .slice A5 n5 c5]) wv := deps_at hD 3 rfl (by kernel_rfl) rfl rfl
                  obtain ⟨A6, n6, c6, e6, h1, h2, h3, h4⟩ := hsl
                  obtain ⟨rfl, rfl, rfl⟩ : A5 = A6 ∧ n5 = n6 ∧ c5 = c6 := by
                    injection e6 with e6
                    simp at e6
                    exact e6
                  exact ⟨_, A5, n5, c5, rfl, h1, h2, h3, h4.step (by simp) (fun b hb _ => Below.heap_alloc wv _ b hb) (fun _ _ h => h), ro_block (hro _ HC.mutLt) rfl⟩
                rintro gn wg HCg hsl
                simp only [Act.put, List.setIfInBounds_toArray, List.set_cons_succ, List.set_cons_zero]
                clear hsl HCg
                refine rel_nil ?_
                rintro wx2 HX
                rintro _hrm HGW
                have hb2 : RBoxSlot (Mut M KL) xid xvs (.slice (some ⟨gn, 0, none⟩) 1 1) wx2 := (GW_on (d := 76) rfl).1 (HGW 4 _ rfl (by omega))
                clear HGW _hrm
                obtain ⟨gq, A6, n6, c6, e6, k0_, k1_, k2_, k3_, k4_⟩ := hb2
                obtain rfl : gn = gq := by injection e6 with e6; injection e6 with e6; injection e6
                clear e6
                rw [HKL.out] at HX k3_
                have k5 := hid k4_.now
                have HK0 := hid (And.intro k0_ (And.intro k1_ k2_))
                clear k4_ k0_ k1_ k2_ HF HRX KN
                have HRS := hid (show rwCells ld ++ [.int .i64 xid, .slice A6 n6 c6] = rwCells (ld ++ [⟨xid, A6, n6, c6, xvs⟩]) from rwCells_snoc1 _ _ _ _ _ _)
                have KA := HX.add k3_
                clear HX k3_
                have FKA := KA.facts
                simp only [World.size_alloc, World.size_drew, factsL, cellsF, Nat.reduceAdd, List.toList_toArray, List.set_cons_zero, List.set_cons_succ, List.setIfInBounds_toArray, and_true, true_and] at FKA
                go_wp2_with (at_builtin; go_must (refine wpList_appAllH KA 7 rfl Tryz.elRw k5.out rfl (.tmp 73) (.tmp 76) rfl rfl rfl (by intro z hz; simp at hz; rcases hz with rfl | rfl <;> rfl) (by omega) (by omega) ?_); intro C' cap' w6 hc6 hm6 KB; rw [HRS.out] at KB; simp only [List.set_cons_zero, List.set_cons_succ] at KB; (have F3 := KB.facts); simp only [World.size_alloc, World.size_drew, factsL, cellsF, Nat.reduceAdd, List.toList_toArray, List.set_cons_zero, List.set_cons_succ, List.setIfInBounds_toArray, and_true, true_and] at F3)
                have KD := KB.store 12 rfl 2 (.slice C' (nd + 1) cap')
                have KE := (KD.swapRo 10 rfl (vals_snoc (r := ⟨xid, A6, n6, c6, xvs⟩) (KD.ro 10 rfl) (KD.ro 0 rfl))).drop (List.sublist_cons_self _ _)
                clear KB KD FKA k5
                have HBN := hid (HBS.out.left HXX.out HRR.out hlt3 (y := ⟨xid, A6, n6, c6, xvs⟩) rfl ⟨HXO.out.id, HK0.out.2.1, HK0.out.2.2, HXO.out.vs⟩)
                have KZ := KE.drop (List.Sublist.cons _ (List.sublist_cons_self _ _))
                go_roundg gi
                case measure => omega
                case rel => exact ⟨p + 1, np - 1, 0, nd + 1, cap', (some ⟨bx, ox, none⟩), C', _, by omega, by first | rfl | (simp <;> omega), by omega, by omega, by omega, by omega, by omega, HBN, KZ⟩
              · obtain rfl : xid = rid := by omega
                have hd4 : decide (xid < xid) = false := by simp
                clear hlt3
                go_wp2_with fail
                refine (eqVls_any _ xA xn xc xvs rA rn rc rvs (KX.ro 1 rfl).now (KX.ro 3 rfl).now (by omega)).mono ?_
                rintro e w7 ⟨rfl, q7, rfl⟩
                have KY := KX.drewN q7
                clear KX FK
                have FK := KY.facts
                simp only [World.size_alloc, World.size_drew, factsL, cellsF, Nat.reduceAdd, List.toList_toArray, List.set_cons_zero, List.set_cons_succ, List.setIfInBounds_toArray, and_true, true_and] at FK
                by_cases hvv : xvs = rvs
                · rw [decide_eq_true hvv]
                  have HBN := hid (HBS.out.same HXX.out HRR.out rfl hvv)
                  clear hvv
                  have KZ := KY.drop (List.Sublist.cons _ (List.Sublist.cons _ (List.Sublist.cons _ (List.sublist_cons_self _ _))))
                  go_wp2_with fail
                  go_roundg go
                  case measure => omega
                  case rel => exact ⟨j + 1, p + 1, np - 1, 0, ni, ci, nd, cd, nu, cu, (some ⟨bx, ox, none⟩), I, D, U, li, ld, lu, by omega, by first | rfl | go_num, by first | rfl | (simp <;> omega), by omega, by omega, by omega, by omega, by omega, by omega, by omega, HBN, KZ⟩
                · rw [decide_eq_false hvv]
                  have HNE := hid hvv
                  clear hvv
                  obtain ⟨KL, hKL, KN⟩ := KY.name
                  have HF : Hid (∀ wv, Hold M none w wv KL → (wv.cell? ⟨g6, 3, none⟩ = some (.slice U nu cu) ∧ g6 < wv.heap.size) ∧ wv.cell? ⟨g9, 0, none⟩ = some (.int .i64 xid) ∧ wv.cell? ⟨g9, 1, none⟩ = some (.slice rA rn rc) ∧ g9 < wv.heap.size ∧ wv.cell? ⟨w3.heap.size, 0, none⟩ = some (.int .i64 xid) ∧ wv.cell? ⟨w3.heap.size, 1, none⟩ = some (.slice xA xn xc) ∧ w3.heap.size < wv.heap.size) := hid fun wv HC => by
                    rw [hKL] at HC
                    have y1 := HC.blk_ 11 rfl
                    have y2 := HC.cst_ 2 rfl
                    have y3 := HC.cst_ 0 rfl
                    exact ⟨⟨cell_of_row _ _ 3 _ _ _ y1, Blk.lt y1⟩, cell_of_row _ _ 0 _ _ _ y2, cell_of_row _ _ 1 _ _ _ y2, Blk.lt y2, cell_of_row _ _ 0 _ _ _ y3, cell_of_row _ _ 1 _ _ _ y3, Blk.lt y3⟩
                  have HRX : Hid (∀ wv, Hold M none w wv KL → Ro wv (Mut M KL) (VlsIn xA xn xvs) ∧ Ro wv (Mut M KL) (VlsIn rA rn rvs)) := hid fun wv HC => by
                    rw [hKL] at HC ⊢
                    exact ⟨HC.ro 1 rfl, HC.ro 3 rfl⟩
                  have HKL := hid hKL
                  clear hKL KY
                  go_wp2_with fail
                  refine wp_region_any (by kernel_rfl) ?_
                  refine wpAny_hold 12 128 (KL) (spL [(91, VlsSlot (Mut M KL) xvs), (94, VlsSlot (Mut M KL) rvs), (95, PrSlot (Mut M KL) (xid, xvs, rvs)), (96, PrsSlot (Mut M KL) [(xid, xvs, rvs)])]) (by kernel_rfl) (by kernel_rfl) (by kernel_rfl) rfl ?_ (KN.drew) ?_
                  · exact stays_cons vlsSlot_mono (stays_cons vlsSlot_mono (stays_cons prSlot_mono (stays_cons prsSlot_mono (stays_nil _))))
                  simp only [List.take_succ_cons, List.take_zero, List.drop_succ_cons, List.drop_zero, Act.put, List.getElem_toArray, List.getElem_cons_zero, List.getElem_cons_succ, List.setIfInBounds_toArray, List.set_cons_succ, List.set_cons_zero]
                  refine dw_val rfl rfl rfl ?_; apply Exists.intro; refine ⟨fun wv HC => ?_, ?_⟩
                  ·  go_simp <;> rfl
                  simp only [Act.put, List.setIfInBounds_toArray, List.set_cons_succ, List.set_cons_zero]
                  refine dw_val rfl rfl rfl ?_; apply Exists.intro; refine ⟨fun wv HC => ?_, ?_⟩
                  · obtain ⟨⟨f0, f1⟩, f2, f3, f4, f5, f6, f7⟩ := HF.out _ HC; go_simp <;> rfl
                  simp only [Act.put, List.setIfInBounds_toArray, List.set_cons_succ, List.set_cons_zero]
                  refine dw_val rfl rfl rfl ?_; apply Exists.intro; refine ⟨fun wv HC => ?_, ?_⟩
                  ·  go_simp <;> rfl
                  simp only [Act.put, List.setIfInBounds_toArray, List.set_cons_succ, List.set_cons_zero]
                  refine dw_val rfl rfl rfl ?_; apply Exists.intro; refine ⟨fun wv HC => ?_, ?_⟩
                  · obtain ⟨⟨f0, f1⟩, f2, f3, f4, f5, f6, f7⟩ := HF.out _ HC; go_simp <;> rfl
                  simp only [Act.put, List.setIfInBounds_toArray, List.set_cons_succ, List.set_cons_zero]
                  refine dw_val rfl rfl rfl ?_; apply Exists.intro; refine ⟨fun wv HC => ?_, ?_⟩
                  ·  go_simp <;> rfl
                  simp only [Act.put, List.setIfInBounds_toArray, List.set_cons_succ, List.set_cons_zero]
                  refine dw_val rfl rfl rfl ?_; apply Exists.intro; refine ⟨fun wv HC => ?_, ?_⟩
                  · obtain ⟨⟨f0, f1⟩, f2, f3, f4, f5, f6, f7⟩ := HF.out _ HC; go_simp <;> rfl
                  simp only [Act.put, List.setIfInBounds_toArray, List.set_cons_succ, List.set_cons_zero]
                  refine dw_callR 91 (VlsSlot (Mut M KL) xvs) (f := 149) (args := #[.slice xA xn xc]) rfl rfl rfl rfl (fun wv => ?_) (fun wv HC hrm hD => ?_) ?_
                  · go_simp <;> rfl
                  · refine (cloneVls_any _ wv HC.mutLt xA xn xc xvs (HRX.out _ HC).1 (by omega)).mono ?_
                    rintro e w5 ⟨A5, n5, c5, rfl, h50, h51, h52, h53, b5⟩
                    exact ⟨_, rfl, ⟨A5, n5, c5, rfl, h50, h51, h52, h53⟩, HC.call b5, RM.below b5⟩
                  rintro x_ wx HCx ⟨A91, n91, c91, rfl, -, -, -, -⟩
                  clear HCx
                  simp only [Act.put, List.setIfInBounds_toArray, List.set_cons_succ, List.set_cons_zero]
                  refine dw_val rfl rfl rfl ?_; apply Exists.intro; refine ⟨fun wv HC => ?_, ?_⟩
                  ·  go_simp <;> rfl
                  simp only [Act.put, List.setIfInBounds_toArray, List.set_cons_succ, List.set_cons_zero]
                  refine dw_val rfl rfl rfl ?_; apply Exists.intro; refine ⟨fun wv HC => ?_, ?_⟩
                  · obtain ⟨⟨f0, f1⟩, f2, f3, f4, f5, f6, f7⟩ := HF.out _ HC; go_simp <;> rfl
                  simp only [Act.put, List.setIfInBounds_toArray, List.set_cons_succ, List.set_cons_zero]
                  refine dw_callR 94 (VlsSlot (Mut M KL) rvs) (f := 149) (args := #[.slice rA rn rc]) rfl rfl rfl rfl (fun wv => ?_) (fun wv HC hrm hD => ?_) ?_
                  · go_simp <;> rfl
                  · refine (cloneVls_any _ wv HC.mutLt rA rn rc rvs (HRX.out _ HC).2 (by omega)).mono ?_
                    rintro e w5 ⟨A5, n5, c5, rfl, h50, h51, h52, h53, b5⟩
                    exact ⟨_, rfl, ⟨A5, n5, c5, rfl, h50, h51, h52, h53⟩, HC.call b5, RM.below b5⟩
                  rintro x_ wx HCx ⟨A94, n94, c94, rfl, -, -, -, -⟩
                  clear HCx
                  simp only [Act.put, List.setIfInBounds_toArray, List.set_cons_succ, List.set_cons_zero]
                  refine dw_valC 95 (PrSlot (Mut M KL) (xid, xvs, rvs)) rfl rfl rfl rfl (.agg #[.int .i64 xid, .slice A91 n91 c91, .slice A94 n94 c94]) (fun wv HC => ?_) (fun wv HC hD => ?_) ?_
                  · go_simp <;> rfl
                  · have ha : VlsSlot (Mut M KL) xvs (.slice A91 n91 c91) wv := deps_at hD 6 rfl (by kernel_rfl) rfl rfl
                    have hb : VlsSlot (Mut M KL) rvs (.slice A94 n94 c94) wv := deps_at hD 9 rfl (by kernel_rfl) rfl rfl
                    exact prSlot_of HXO.out.id HXO.out.vs HRO.out.vs ha hb
                  simp only [Act.put, List.setIfInBounds_toArray, List.set_cons_succ, List.set_cons_zero]
                  refine dw_new #[.int .i64 xid, .slice A91 n91 c91, .slice A94 n94 c94] 110 96 (PrsSlot (Mut M KL) [(xid, xvs, rvs)]) (fun g => .slice (some ⟨g, 0, none⟩) 1 1) rfl rfl rfl rfl (fun wv => ?_) (fun wv HC _hrm hD hro => ?_) ?_
                  · go_simp <;> rfl
                  · have hrr := RM.alloc (Mut M KL) wv (.cells #[.int .i64 xid, .slice A91 n91 c91, .slice A94 n94 c94] 110)
                    have h0 : PrSlot (Mut M KL) (xid, xvs, rvs) (.agg #[.int .i64 xid, .slice A91 n91 c91, .slice A94 n94 c94]) wv := deps_at hD 10 rfl (by kernel_rfl) rfl rfl
                    replace h0 := prSlot_mono _ _ _ hrr h0
                    exact prsSlot_one (hro _ HC.mutLt) (fun i j k e1 => Value.agg.inj e1) h0
                  rintro g96 wg HCg hsl
                  simp only [Act.put, List.setIfInBounds_toArray, List.set_cons_succ, List.set_cons_zero]
                  clear hsl HCg
                  refine rel_nil ?_
                  rintro wx5 HX5
                  rintro _hrm HGW
                  have hb2 : PrsSlot (Mut M KL) [(xid, xvs, rvs)] (.slice (some ⟨g96, 0, none⟩) 1 1) wx5 := (GW_on (d := 96) rfl).1 (HGW 11 _ rfl (by omega))
                  clear HGW _hrm
                  obtain ⟨Aq, nq, cq, pq, heq, -, -, hpm, hpok, hpr⟩ := hb2
                  obtain ⟨rfl, rfl, rfl⟩ : some ⟨g96, 0, none⟩ = Aq ∧ 1 = nq ∧ 1 = cq := by injection heq with h1 h2 h3; exact ⟨h1, h2, h3⟩
                  clear heq
                  obtain ⟨pr, rfl, hpu⟩ : ∃ pr, pq = [pr] ∧ pr.upd = (xid, xvs, rvs) := by
                    obtain ⟨pr, h1, h2⟩ := List.map_eq_singleton_iff.1 hpm
                    exact ⟨pr, h1, h2⟩
                  rw [HKL.out] at HX5 hpr
                  have HPE := hid (show prCells lu ++ prCells [pr] = prCells (lu ++ [pr]) by simp [prCells])
                  have KA := HX5.add (hpr.imp fun w h => (h.2 : PrVals [pr] w))
                  have k5 := hid ((hpr.imp fun w h => h.1).now)
                  have HBN := hid (HBS.out.turn HXX.out HRR.out rfl HNE.out hpu (hpok pr (List.mem_singleton.2 rfl)))
                  clear HX5 hpr hpm hpok hpu HF HRX KN
                  have FKA := KA.facts
                  simp only [World.size_alloc, World.size_drew, factsL, cellsF, Nat.reduceAdd, List.toList_toArray, List.set_cons_zero, List.set_cons_succ, List.setIfInBounds_toArray, and_true, true_and] at FKA
                  go_wp2_with (at_builtin; go_must (refine wpList_appAllH KA 8 rfl Tryz.elPr k5.out rfl (.tmp 86) (.tmp 96) rfl rfl rfl (prCells_one _) (by omega) (by omega) ?_); intro C' cap' w6 hc6 hm6 KB; rw [HPE.out] at KB; simp only [List.set_cons_zero, List.set_cons_succ] at KB; (have FB := KB.facts); simp only [World.size_alloc, World.size_drew, factsL, cellsF, Nat.reduceAdd, List.toList_toArray, List.set_cons_zero, List.set_cons_succ, List.setIfInBounds_toArray, and_true, true_and] at FB)
                  have KD := KB.store 12 rfl 3 (.slice C' (nu + 1) cap')
                  have KZ := (KD.swapRo 11 rfl (prVals_app (KD.ro 11 rfl) (KD.ro 0 rfl))).drop (List.Sublist.cons _ (List.Sublist.cons _ (List.Sublist.cons _ (List.Sublist.cons _ (List.sublist_cons_self _ _)))))
                  clear KB KD FKA k5
                  go_roundg go
                  case measure => omega
                  case rel => exact ⟨j + 1, p + 1, np - 1, 0, ni, ci, nd, cd, nu + 1, cap', (some ⟨bx, ox, none⟩), I, D, C', li, ld, _, by omega, by first | rfl | go_num, by first | rfl | (simp <;> omega), by omega, by omega, by omega, by omega, by omega, by omega, by omega, HBN, KZ⟩
            · have KX := K2.swapRo 4 rfl (hnxt.step (by simp) (fun b hb _ => Below.heap_alloc w3 _ b hb) (fun b hb h => (mut_none rfl b ((mut_none rfl b h)))))
              simp only [List.set_cons_zero, List.set_cons_succ] at KX
              clear K2 H3 hnxt
              have FK := KX.facts
              simp only [World.size_alloc, World.size_drew, factsL, cellsF, Nat.reduceAdd, List.toList_toArray, List.set_cons_zero, List.set_cons_succ, List.setIfInBounds_toArray, and_true, true_and] at FK
              by_cases hlt3 : xid < rid
              · have hd4 : decide (xid < rid) = true := by simpa using hlt3
                obtain ⟨KL, hKL, KN⟩ := KX.name
                have HF : Hid (∀ wv, Hold M none w wv KL → (wv.cell? ⟨g6, 2, none⟩ = some (.slice D nd cd) ∧ g6 < wv.heap.size) ∧ wv.cell? ⟨w3.heap.size, 0, none⟩ = some (.int .i64 xid) ∧ wv.cell? ⟨w3.heap.size, 1, none⟩ = some (.slice xA xn xc) ∧ w3.heap.size < wv.heap.size) := hid fun wv HC => by
                  rw [hKL] at HC
                  have y1 := HC.blk_ 11 rfl
                  have y2 := HC.cst_ 0 rfl
                  exact ⟨⟨cell_of_row _ _ 2 _ _ _ y1, Blk.lt y1⟩, cell_of_row _ _ 0 _ _ _ y2, cell_of_row _ _ 1 _ _ _ y2, Blk.lt y2⟩
                have HRX : Hid (∀ wv, Hold M none w wv KL → Ro wv (Mut M KL) (VlsIn xA xn xvs)) := hid fun wv HC => by
                  rw [hKL] at HC ⊢
                  exact HC.ro 1 rfl
                have HKL := hid hKL
                clear hKL KX
                go_wp2_with fail
                refine wp_region_any (by kernel_rfl) ?_
                refine wpAny_hold 5 128 (KL) (spL [(75, RowSlot (Mut M KL) xid xvs), (76, RBoxSlot (Mut M KL) xid xvs)]) (by kernel_rfl) (by kernel_rfl) (by kernel_rfl) rfl ?_ (KN.drew) ?_
                · exact stays_cons rowSlot_mono (stays_cons rboxSlot_mono (stays_nil _))
                simp only [List.take_succ_cons, List.take_zero, List.drop_succ_cons, List.drop_zero, Act.put, List.getElem_toArray, List.getElem_cons_zero, List.getElem_cons_succ, List.setIfInBounds_toArray, List.set_cons_succ, List.set_cons_zero]
                refine dw_val rfl rfl rfl ?_; apply Exists.intro; refine ⟨fun wv HC => ?_, ?_⟩
                ·  go_simp <;> rfl
                simp only [Act.put, List.setIfInBounds_toArray, List.set_cons_succ, List.set_cons_zero]
                refine dw_val rfl rfl rfl ?_; apply Exists.intro; refine ⟨fun wv HC => ?_, ?_⟩
                · obtain ⟨⟨f0, f1⟩, f2, f3, f4⟩ := HF.out _ HC; go_simp <;> rfl
                simp only [Act.put, List.setIfInBounds_toArray, List.set_cons_succ, List.set_cons_zero]
                refine dw_val rfl rfl rfl ?_; apply Exists.intro; refine ⟨fun wv HC => ?_, ?_⟩
                · obtain ⟨⟨f0, f1⟩, f2, f3, f4⟩ := HF.out _ HC; go_simp <;> rfl
                simp only [Act.put, List.setIfInBounds_toArray, List.set_cons_succ, List.set_cons_zero]
                refine dw_callR 75 (RowSlot (Mut M KL) xid xvs) (f := 147) (args := #[.agg #[.int .i64 xid, .slice xA xn xc]]) rfl rfl rfl rfl (fun wv => ?_) (fun wv HC hrm hD => ?_) ?_
                · go_simp <;> rfl
                · refine (dcopied_any _ wv HC.mutLt xid xA xn xc xvs (HRX.out _ HC) (by omega)).mono ?_
                  rintro e w5 ⟨A5, n5, c5, rfl, h50, h51, h52, h53, b5⟩
                  exact ⟨_, rfl, ⟨A5, n5, c5, rfl, h50, h51, h52, h53⟩, HC.call b5, RM.below b5⟩
                rintro x_ wx HCx ⟨A5, n5, c5, rfl, -, -, -, -⟩
                clear HCx
                simp only [Act.put, List.setIfInBounds_toArray, List.set_cons_succ, List.set_cons_zero]
                refine dw_new #[.int .i64 xid, .slice A5 n5 c5] 119 76 (RBoxSlot (Mut M KL) xid xvs) (fun g => .slice (some ⟨g, 0, none⟩) 1 1) rfl rfl rfl rfl (fun wv => ?_) (fun wv HC _hrm hD hro => ?_) ?_
                · go_simp <;> rfl
                · have hsl : RowSlot (Mut M KL) xid xvs (.agg #[.int .i64 xid, .slice A5 n5 c5]) wv := deps_at hD 3 rfl (by kernel_rfl) rfl rfl
                  obtain ⟨A6, n6, c6, e6, h1, h2, h3, h4⟩ := hsl
                  obtain ⟨rfl, rfl, rfl⟩ : A5 = A6 ∧ n5 = n6 ∧ c5 = c6 := by
                    injection e6 with e6
                    simp at e6
                    exact e6
                  exact ⟨_, A5, n5, c5, rfl, h1, h2, h3, h4.step (by simp) (fun b hb _ => Below.heap_alloc wv _ b hb) (fun _ _ h => h), ro_block (hro _ HC.mutLt) rfl⟩
                rintro gn wg HCg hsl
                simp only [Act.put, List.setIfInBounds_toArray, List.set_cons_succ, List.set_cons_zero]
                clear hsl HCg
                refine rel_nil ?_
                rintro wx2 HX
                rintro _hrm HGW
                have hb2 : RBoxSlot (Mut M KL) xid xvs (.slice (some ⟨gn, 0, none⟩) 1 1) wx2 := (GW_on (d := 76) rfl).1 (HGW 4 _ rfl (by omega))
                clear HGW _hrm
                obtain ⟨gq, A6, n6, c6, e6, k0_, k1_, k2_, k3_, k4_⟩ := hb2
                obtain rfl : gn = gq := by injection e6 with e6; injection e6 with e6; injection e6
                clear e6
                rw [HKL.out] at HX k3_
                have k5 := hid k4_.now
                have HK0 := hid (And.intro k0_ (And.intro k1_ k2_))
                clear k4_ k0_ k1_ k2_ HF HRX KN
                have HRS := hid (show rwCells ld ++ [.int .i64 xid, .slice A6 n6 c6] = rwCells (ld ++ [⟨xid, A6, n6, c6, xvs⟩]) from rwCells_snoc1 _ _ _ _ _ _)
                have KA := HX.add k3_
                clear HX k3_
                have FKA := KA.facts
                simp only [World.size_alloc, World.size_drew, factsL, cellsF, Nat.reduceAdd, List.toList_toArray, List.set_cons_zero, List.set_cons_succ, List.setIfInBounds_toArray, and_true, true_and] at FKA
                go_wp2_with (at_builtin; go_must (refine wpList_appAllH KA 7 rfl Tryz.elRw k5.out rfl (.tmp 73) (.tmp 76) rfl rfl rfl (by intro z hz; simp at hz; rcases hz with rfl | rfl <;> rfl) (by omega) (by omega) ?_); intro C' cap' w6 hc6 hm6 KB; rw [HRS.out] at KB; simp only [List.set_cons_zero, List.set_cons_succ] at KB; (have F3 := KB.facts); simp only [World.size_alloc, World.size_drew, factsL, cellsF, Nat.reduceAdd, List.toList_toArray, List.set_cons_zero, List.set_cons_succ, List.setIfInBounds_toArray, and_true, true_and] at F3)
                have KD := KB.store 12 rfl 2 (.slice C' (nd + 1) cap')
                have KE := (KD.swapRo 10 rfl (vals_snoc (r := ⟨xid, A6, n6, c6, xvs⟩) (KD.ro 10 rfl) (KD.ro 0 rfl))).drop (List.sublist_cons_self _ _)
                clear KB KD FKA k5
                have HBN := hid (HBS.out.left HXX.out HRR.out hlt3 (y := ⟨xid, A6, n6, c6, xvs⟩) rfl ⟨HXO.out.id, HK0.out.2.1, HK0.out.2.2, HXO.out.vs⟩)
                have KZ := KE.drop (List.Sublist.cons _ (List.sublist_cons_self _ _))
                go_roundg gi
                case measure => omega
                case rel => exact ⟨p + 1, np - 1, (cp - 1), nd + 1, cap', (some ⟨bx, ox + 2, none⟩), C', _, by omega, by first | rfl | (simp <;> omega), by omega, by omega, by omega, by omega, by omega, HBN, KZ⟩
              · obtain rfl : xid = rid := by omega
                have hd4 : decide (xid < xid) = false := by simp
                clear hlt3
                go_wp2_with fail
                refine (eqVls_any _ xA xn xc xvs rA rn rc rvs (KX.ro 1 rfl).now (KX.ro 3 rfl).now (by omega)).mono ?_
                rintro e w7 ⟨rfl, q7, rfl⟩
                have KY := KX.drewN q7
                clear KX FK
                have FK := KY.facts
                simp only [World.size_alloc, World.size_drew, factsL, cellsF, Nat.reduceAdd, List.toList_toArray, List.set_cons_zero, List.set_cons_succ, List.setIfInBounds_toArray, and_true, true_and] at FK
                by_cases hvv : xvs = rvs
                · rw [decide_eq_true hvv]
                  have HBN := hid (HBS.out.same HXX.out HRR.out rfl hvv)
                  clear hvv
                  have KZ := KY.drop (List.Sublist.cons _ (List.Sublist.cons _ (List.Sublist.cons _ (List.sublist_cons_self _ _))))
                  go_wp2_with fail
                  go_roundg go
                  case measure => omega
                  case rel => exact ⟨j + 1, p + 1, np - 1, (cp - 1), ni, ci, nd, cd, nu, cu, (some ⟨bx, ox + 2, none⟩), I, D, U, li, ld, lu, by omega, by first | rfl | go_num, by first | rfl | (simp <;> omega), by omega, by omega, by omega, by omega, by omega, by omega, by omega, HBN, KZ⟩
                · rw [decide_eq_false hvv]
                  have HNE := hid hvv
                  clear hvv
                  obtain ⟨KL, hKL, KN⟩ := KY.name
                  have HF : Hid (∀ wv, Hold M none w wv KL → (wv.cell? ⟨g6, 3, none⟩ = some (.slice U nu cu) ∧ g6 < wv.heap.size) ∧ wv.cell? ⟨g9, 0, none⟩ = some (.int .i64 xid) ∧ wv.cell? ⟨g9, 1, none⟩ = some (.slice rA rn rc) ∧ g9 < wv.heap.size ∧ wv.cell? ⟨w3.heap.size, 0, none⟩ = some (.int .i64 xid) ∧ wv.cell? ⟨w3.heap.size, 1, none⟩ = some (.slice xA xn xc) ∧ w3.heap.size < wv.heap.size) := hid fun wv HC => by
                    rw [hKL] at HC
                    have y1 := HC.blk_ 11 rfl
                    have y2 := HC.cst_ 2 rfl
                    have y3 := HC.cst_ 0 rfl
                    exact ⟨⟨cell_of_row _ _ 3 _ _ _ y1, Blk.lt y1⟩, cell_of_row _ _ 0 _ _ _ y2, cell_of_row _ _ 1 _ _ _ y2, Blk.lt y2, cell_of_row _ _ 0 _ _ _ y3, cell_of_row _ _ 1 _ _ _ y3, Blk.lt y3⟩
                  have HRX : Hid (∀ wv, Hold M none w wv KL → Ro wv (Mut M KL) (VlsIn xA xn xvs) ∧ Ro wv (Mut M KL) (VlsIn rA rn rvs)) := hid fun wv HC => by
                    rw [hKL] at HC ⊢
                    exact ⟨HC.ro 1 rfl, HC.ro 3 rfl⟩
                  have HKL := hid hKL
                  clear hKL KY
                  go_wp2_with fail
                  refine wp_region_any (by kernel_rfl) ?_
                  refine wpAny_hold 12 128 (KL) (spL [(91, VlsSlot (Mut M KL) xvs), (94, VlsSlot (Mut M KL) rvs), (95, PrSlot (Mut M KL) (xid, xvs, rvs)), (96, PrsSlot (Mut M KL) [(xid, xvs, rvs)])]) (by kernel_rfl) (by kernel_rfl) (by kernel_rfl) rfl ?_ (KN.drew) ?_
                  · exact stays_cons vlsSlot_mono (stays_cons vlsSlot_mono (stays_cons prSlot_mono (stays_cons prsSlot_mono (stays_nil _))))
                  simp only [List.take_succ_cons, List.take_zero, List.drop_succ_cons, List.drop_zero, Act.put, List.getElem_toArray, List.getElem_cons_zero, List.getElem_cons_succ, List.setIfInBounds_toArray, List.set_cons_succ, List.set_cons_zero]
                  refine dw_val rfl rfl rfl ?_; apply Exists.intro; refine ⟨fun wv HC => ?_, ?_⟩
                  ·  go_simp <;> rfl
                  simp only [Act.put, List.setIfInBounds_toArray, List.set_cons_succ, List.set_cons_zero]
                  refine dw_val rfl rfl rfl ?_; apply Exists.intro; refine ⟨fun wv HC => ?_, ?_⟩
                  · obtain ⟨⟨f0, f1⟩, f2, f3, f4, f5, f6, f7⟩ := HF.out _ HC; go_simp <;> rfl
                  simp only [Act.put, List.setIfInBounds_toArray, List.set_cons_succ, List.set_cons_zero]
                  refine dw_val rfl rfl rfl ?_; apply Exists.intro; refine ⟨fun wv HC => ?_, ?_⟩
                  ·  go_simp <;> rfl
                  simp only [Act.put, List.setIfInBounds_toArray, List.set_cons_succ, List.set_cons_zero]
                  refine dw_val rfl rfl rfl ?_; apply Exists.intro; refine ⟨fun wv HC => ?_, ?_⟩
                  · obtain ⟨⟨f0, f1⟩, f2, f3, f4, f5, f6, f7⟩ := HF.out _ HC; go_simp <;> rfl
                  simp only [Act.put, List.setIfInBounds_toArray, List.set_cons_succ, List.set_cons_zero]
                  refine dw_val rfl rfl rfl ?_; apply Exists.intro; refine ⟨fun wv HC => ?_, ?_⟩
                  ·  go_simp <;> rfl
                  simp only [Act.put, List.setIfInBounds_toArray, List.set_cons_succ, List.set_cons_zero]
                  refine dw_val rfl rfl rfl ?_; apply Exists.intro; refine ⟨fun wv HC => ?_, ?_⟩
                  · obtain ⟨⟨f0, f1⟩, f2, f3, f4, f5, f6, f7⟩ := HF.out _ HC; go_simp <;> rfl
                  simp only [Act.put, List.setIfInBounds_toArray, List.set_cons_succ, List.set_cons_zero]
                  refine dw_callR 91 (VlsSlot (Mut M KL) xvs) (f := 149) (args := #[.slice xA xn xc]) rfl rfl rfl rfl (fun wv => ?_) (fun wv HC hrm hD => ?_) ?_
                  · go_simp <;> rfl
                  · refine (cloneVls_any _ wv HC.mutLt xA xn xc xvs (HRX.out _ HC).1 (by omega)).mono ?_
                    rintro e w5 ⟨A5, n5, c5, rfl, h50, h51, h52, h53, b5⟩
                    exact ⟨_, rfl, ⟨A5, n5, c5, rfl, h50, h51, h52, h53⟩, HC.call b5, RM.below b5⟩
                  rintro x_ wx HCx ⟨A91, n91, c91, rfl, -, -, -, -⟩
                  clear HCx
                  simp only [Act.put, List.setIfInBounds_toArray, List.set_cons_succ, List.set_cons_zero]
                  refine dw_val rfl rfl rfl ?_; apply Exists.intro; refine ⟨fun wv HC => ?_, ?_⟩
                  ·  go_simp <;> rfl
                  simp only [Act.put, List.setIfInBounds_toArray, List.set_cons_succ, List.set_cons_zero]
                  refine dw_val rfl rfl rfl ?_; apply Exists.intro; refine ⟨fun wv HC => ?_, ?_⟩
                  · obtain ⟨⟨f0, f1⟩, f2, f3, f4, f5, f6, f7⟩ := HF.out _ HC; go_simp <;> rfl
                  simp only [Act.put, List.setIfInBounds_toArray, List.set_cons_succ, List.set_cons_zero]
                  refine dw_callR 94 (VlsSlot (Mut M KL) rvs) (f := 149) (args := #[.slice rA rn rc]) rfl rfl rfl rfl (fun wv => ?_) (fun wv HC hrm hD => ?_) ?_
                  · go_simp <;> rfl
                  · refine (cloneVls_any _ wv HC.mutLt rA rn rc rvs (HRX.out _ HC).2 (by omega)).mono ?_
                    rintro e w5 ⟨A5, n5, c5, rfl, h50, h51, h52, h53, b5⟩
                    exact ⟨_, rfl, ⟨A5, n5, c5, rfl, h50, h51, h52, h53⟩, HC.call b5, RM.below b5⟩
                  rintro x_ wx HCx ⟨A94, n94, c94, rfl, -, -, -, -⟩
                  clear HCx
                  simp only [Act.put, List.setIfInBounds_toArray, List.set_cons_succ, List.set_cons_zero]
                  refine dw_valC 95 (PrSlot (Mut M KL) (xid, xvs, rvs)) rfl rfl rfl rfl (.agg #[.int .i64 xid, .slice A91 n91 c91, .slice A94 n94 c94]) (fun wv HC => ?_) (fun wv HC hD => ?_) ?_
                  · go_simp <;> rfl
                  · have ha : VlsSlot (Mut M KL) xvs (.slice A91 n91 c91) wv := deps_at hD 6 rfl (by kernel_rfl) rfl rfl
                    have hb : VlsSlot (Mut M KL) rvs (.slice A94 n94 c94) wv := deps_at hD 9 rfl (by kernel_rfl) rfl rfl
                    exact prSlot_of HXO.out.id HXO.out.vs HRO.out.vs ha hb
                  simp only [Act.put, List.setIfInBounds_toArray, List.set_cons_succ, List.set_cons_zero]
                  refine dw_new #[.int .i64 xid, .slice A91 n91 c91, .slice A94 n94 c94] 110 96 (PrsSlot (Mut M KL) [(xid, xvs, rvs)]) (fun g => .slice (some ⟨g, 0, none⟩) 1 1) rfl rfl rfl rfl (fun wv => ?_) (fun wv HC _hrm hD hro => ?_) ?_
                  · go_simp <;> rfl
                  · have hrr := RM.alloc (Mut M KL) wv (.cells #[.int .i64 xid, .slice A91 n91 c91, .slice A94 n94 c94] 110)
                    have h0 : PrSlot (Mut M KL) (xid, xvs, rvs) (.agg #[.int .i64 xid, .slice A91 n91 c91, .slice A94 n94 c94]) wv := deps_at hD 10 rfl (by kernel_rfl) rfl rfl
                    replace h0 := prSlot_mono _ _ _ hrr h0
                    exact prsSlot_one (hro _ HC.mutLt) (fun i j k e1 => Value.agg.inj e1) h0
                  rintro g96 wg HCg hsl
                  simp only [Act.put, List.setIfInBounds_toArray, List.set_cons_succ, List.set_cons_zero]
                  clear hsl HCg
                  refine rel_nil ?_
                  rintro wx5 HX5
                  rintro _hrm HGW
                  have hb2 : PrsSlot (Mut M KL) [(xid, xvs, rvs)] (.slice (some ⟨g96, 0, none⟩) 1 1) wx5 := (GW_on (d := 96) rfl).1 (HGW 11 _ rfl (by omega))
                  clear HGW _hrm
                  obtain ⟨Aq, nq, cq, pq, heq, -, -, hpm, hpok, hpr⟩ := hb2
                  obtain ⟨rfl, rfl, rfl⟩ : some ⟨g96, 0, none⟩ = Aq ∧ 1 = nq ∧ 1 = cq := by injection heq with h1 h2 h3; exact ⟨h1, h2, h3⟩
                  clear heq
                  obtain ⟨pr, rfl, hpu⟩ : ∃ pr, pq = [pr] ∧ pr.upd = (xid, xvs, rvs) := by
                    obtain ⟨pr, h1, h2⟩ := List.map_eq_singleton_iff.1 hpm
                    exact ⟨pr, h1, h2⟩
                  rw [HKL.out] at HX5 hpr
                  have HPE := hid (show prCells lu ++ prCells [pr] = prCells (lu ++ [pr]) by simp [prCells])
                  have KA := HX5.add (hpr.imp fun w h => (h.2 : PrVals [pr] w))
                  have k5 := hid ((hpr.imp fun w h => h.1).now)
                  have HBN := hid (HBS.out.turn HXX.out HRR.out rfl HNE.out hpu (hpok pr (List.mem_singleton.2 rfl)))
                  clear HX5 hpr hpm hpok hpu HF HRX KN
                  have FKA := KA.facts
                  simp only [World.size_alloc, World.size_drew, factsL, cellsF, Nat.reduceAdd, List.toList_toArray, List.set_cons_zero, List.set_cons_succ, List.setIfInBounds_toArray, and_true, true_and] at FKA
                  go_wp2_with (at_builtin; go_must (refine wpList_appAllH KA 8 rfl Tryz.elPr k5.out rfl (.tmp 86) (.tmp 96) rfl rfl rfl (prCells_one _) (by omega) (by omega) ?_); intro C' cap' w6 hc6 hm6 KB; rw [HPE.out] at KB; simp only [List.set_cons_zero, List.set_cons_succ] at KB; (have FB := KB.facts); simp only [World.size_alloc, World.size_drew, factsL, cellsF, Nat.reduceAdd, List.toList_toArray, List.set_cons_zero, List.set_cons_succ, List.setIfInBounds_toArray, and_true, true_and] at FB)
                  have KD := KB.store 12 rfl 3 (.slice C' (nu + 1) cap')
                  have KZ := (KD.swapRo 11 rfl (prVals_app (KD.ro 11 rfl) (KD.ro 0 rfl))).drop (List.Sublist.cons _ (List.Sublist.cons _ (List.Sublist.cons _ (List.Sublist.cons _ (List.sublist_cons_self _ _)))))
                  clear KB KD FKA k5
                  go_roundg go
                  case measure => omega
                  case rel => exact ⟨j + 1, p + 1, np - 1, (cp - 1), ni, ci, nd, cd, nu + 1, cap', (some ⟨bx, ox + 2, none⟩), I, D, C', li, ld, _, by omega, by first | rfl | go_num, by first | rfl | (simp <;> omega), by omega, by omega, by omega, by omega, by omega, by omega, by omega, HBN, KZ⟩
          · have hd2 : decide (xid ≤ rid) = false := by simpa using hle
            have HRGT := hid (show ∀ x, a.rs[p]? = some x → rid < x.1 from fun x hx => by rw [HXX.out] at hx; injection hx with hx; subst hx; show rid < xid; omega)
            go_wp2_with fail
            go_quiet (fail)
            have H3 := H2.drewN nq
            clear H2 F2 x0 x1
            generalize wr.drewN nq = w3 at H3 ⊢
            by_cases hrn : rid < a.nx
            · have hd3 : decide (rid < a.nx) = true := by simpa using hrn
              have HN := hid (HBS.out.bad HRR.out HRGT.out hrn)
              clear hrn
              have FK := H3.facts
              simp only [World.size_alloc, World.size_drew, factsL, cellsF, Nat.reduceAdd, List.toList_toArray, List.set_cons_zero, List.set_cons_succ, List.setIfInBounds_toArray, and_true, true_and] at FK
              have KN := (((H3.store 10 rfl 0 (.string ⟨#[]⟩)).store 10 rfl 1 (.slice none 0 0)).store 10 rfl 2 (.slice none 0 0)).store 10 rfl 3 (.slice none 0 0)
              go_wp2_with fail
              (try rw [Exit.noGoto_ret])
              exact bodyPost_ret (v := .tuple #[.agg #[.string ⟨#[]⟩, .slice none 0 0, .slice none 0 0, .slice none 0 0], .bool false]) (by simp [results, Tryz.results81, go_sem, FK]) rfl ⟨_, by rw [HN.out], by rw [HN.out]; exact dlAt_zero, KN.below⟩
            · have hd3 : decide (rid < a.nx) = false := by simpa using hrn
              have HRN := hid (show a.nx ≤ rid by omega)
              clear hrn
              have FK := H3.facts
              simp only [World.size_alloc, World.size_drew, factsL, cellsF, Nat.reduceAdd, List.toList_toArray, List.set_cons_zero, List.set_cons_succ, List.setIfInBounds_toArray, and_true, true_and] at FK
              obtain ⟨KL, hKL, KN⟩ := H3.name
              have HF : Hid (∀ wv, Hold M none w wv KL → (wv.cell? ⟨g6, 1, none⟩ = some (.slice I ni ci) ∧ g6 < wv.heap.size) ∧ wv.cell? ⟨g9, 0, none⟩ = some (.int .i64 rid) ∧ wv.cell? ⟨g9, 1, none⟩ = some (.slice rA rn rc) ∧ g9 < wv.heap.size) := hid fun wv HC => by
                rw [hKL] at HC
                have y1 := HC.blk_ 9 rfl
                have y2 := HC.cst_ 0 rfl
                exact ⟨⟨cell_of_row _ _ 1 _ _ _ y1, Blk.lt y1⟩, cell_of_row _ _ 0 _ _ _ y2, cell_of_row _ _ 1 _ _ _ y2, Blk.lt y2⟩
              have HRX : Hid (∀ wv, Hold M none w wv KL → Ro wv (Mut M KL) (VlsIn rA rn rvs)) := hid fun wv HC => by
                rw [hKL] at HC ⊢
                exact HC.ro 1 rfl
              have HKL := hid hKL
              clear hKL H3
              go_wp2_with fail
              refine wp_region_any (by kernel_rfl) ?_
              refine wpAny_hold 5 128 (KL) (spL [(108, RowSlot (Mut M KL) rid rvs), (109, RBoxSlot (Mut M KL) rid rvs)]) (by kernel_rfl) (by kernel_rfl) (by kernel_rfl) rfl ?_ (KN.drew) ?_
              · exact stays_cons rowSlot_mono (stays_cons rboxSlot_mono (stays_nil _))
              simp only [List.take_succ_cons, List.take_zero, List.drop_succ_cons, List.drop_zero, Act.put, List.getElem_toArray, List.getElem_cons_zero, List.getElem_cons_succ, List.setIfInBounds_toArray, List.set_cons_succ, List.set_cons_zero]
              refine dw_val rfl rfl rfl ?_; apply Exists.intro; refine ⟨fun wv HC => ?_, ?_⟩
              ·  go_simp <;> rfl
              simp only [Act.put, List.setIfInBounds_toArray, List.set_cons_succ, List.set_cons_zero]
              refine dw_val rfl rfl rfl ?_; apply Exists.intro; refine ⟨fun wv HC => ?_, ?_⟩
              · obtain ⟨⟨f0, f1⟩, f2, f3, f4⟩ := HF.out _ HC; go_simp <;> rfl
              simp only [Act.put, List.setIfInBounds_toArray, List.set_cons_succ, List.set_cons_zero]
              refine dw_val rfl rfl rfl ?_; apply Exists.intro; refine ⟨fun wv HC => ?_, ?_⟩
              · obtain ⟨⟨f0, f1⟩, f2, f3, f4⟩ := HF.out _ HC; go_simp <;> rfl
              simp only [Act.put, List.setIfInBounds_toArray, List.set_cons_succ, List.set_cons_zero]
              refine dw_callR 108 (RowSlot (Mut M KL) rid rvs) (f := 147) (args := #[.agg #[.int .i64 rid, .slice rA rn rc]]) rfl rfl rfl rfl (fun wv => ?_) (fun wv HC hrm hD => ?_) ?_
              · go_simp <;> rfl
              · refine (dcopied_any _ wv HC.mutLt rid rA rn rc rvs (HRX.out _ HC) (by omega)).mono ?_
                rintro e w5 ⟨A5, n5, c5, rfl, h50, h51, h52, h53, b5⟩
                exact ⟨_, rfl, ⟨A5, n5, c5, rfl, h50, h51, h52, h53⟩, HC.call b5, RM.below b5⟩
              rintro x_ wx HCx ⟨A5, n5, c5, rfl, -, -, -, -⟩
              clear HCx
              simp only [Act.put, List.setIfInBounds_toArray, List.set_cons_succ, List.set_cons_zero]
              refine dw_new #[.int .i64 rid, .slice A5 n5 c5] 119 109 (RBoxSlot (Mut M KL) rid rvs) (fun g => .slice (some ⟨g, 0, none⟩) 1 1) rfl rfl rfl rfl (fun wv => ?_) (fun wv HC _hrm hD hro => ?_) ?_
              · go_simp <;> rfl
              · have hsl : RowSlot (Mut M KL) rid rvs (.agg #[.int .i64 rid, .slice A5 n5 c5]) wv := deps_at hD 3 rfl (by kernel_rfl) rfl rfl
                obtain ⟨A6, n6, c6, e6, h1, h2, h3, h4⟩ := hsl
                obtain ⟨rfl, rfl, rfl⟩ : A5 = A6 ∧ n5 = n6 ∧ c5 = c6 := by
                  injection e6 with e6
                  simp at e6
                  exact e6
                exact ⟨_, A5, n5, c5, rfl, h1, h2, h3, h4.step (by simp) (fun b hb _ => Below.heap_alloc wv _ b hb) (fun _ _ h => h), ro_block (hro _ HC.mutLt) rfl⟩
              rintro gn wg HCg hsl
              simp only [Act.put, List.setIfInBounds_toArray, List.set_cons_succ, List.set_cons_zero]
              clear hsl HCg
              refine rel_nil ?_
              rintro wx2 HX
              rintro _hrm HGW
              have hb2 : RBoxSlot (Mut M KL) rid rvs (.slice (some ⟨gn, 0, none⟩) 1 1) wx2 := (GW_on (d := 109) rfl).1 (HGW 4 _ rfl (by omega))
              clear HGW _hrm
              obtain ⟨gq, A6, n6, c6, e6, k0_, k1_, k2_, k3_, k4_⟩ := hb2
              obtain rfl : gn = gq := by injection e6 with e6; injection e6 with e6; injection e6
              clear e6
              rw [HKL.out] at HX k3_
              have k5 := hid k4_.now
              have HK0 := hid (And.intro k0_ (And.intro k1_ k2_))
              clear k4_ k0_ k1_ k2_ HF HRX KN
              have HRS := hid (show rwCells li ++ [.int .i64 rid, .slice A6 n6 c6] = rwCells (li ++ [⟨rid, A6, n6, c6, rvs⟩]) from rwCells_snoc1 _ _ _ _ _ _)
              have KA := HX.add k3_
              clear HX k3_
              have FKA := KA.facts
              simp only [World.size_alloc, World.size_drew, factsL, cellsF, Nat.reduceAdd, List.toList_toArray, List.set_cons_zero, List.set_cons_succ, List.setIfInBounds_toArray, and_true, true_and] at FKA
              go_wp2_with (at_builtin; go_must (refine wpList_appAllH KA 4 rfl Tryz.elRw k5.out rfl (.tmp 106) (.tmp 109) rfl rfl rfl (by intro z hz; simp at hz; rcases hz with rfl | rfl <;> rfl) (by omega) (by omega) ?_); intro C' cap' w6 hc6 hm6 KB; rw [HRS.out] at KB; simp only [List.set_cons_zero, List.set_cons_succ] at KB; (have F3 := KB.facts); simp only [World.size_alloc, World.size_drew, factsL, cellsF, Nat.reduceAdd, List.toList_toArray, List.set_cons_zero, List.set_cons_succ, List.setIfInBounds_toArray, and_true, true_and] at F3)
              have KD := KB.store 10 rfl 1 (.slice C' (ni + 1) cap')
              have KE := (KD.swapRo 7 rfl (vals_snoc (r := ⟨rid, A6, n6, c6, rvs⟩) (KD.ro 7 rfl) (KD.ro 0 rfl))).drop (List.sublist_cons_self _ _)
              clear KB KD FKA k5
              have HBN := hid (HBS.out.right HRR.out HRGT.out HRN.out (y := ⟨rid, A6, n6, c6, rvs⟩) rfl ⟨HRO.out.id, HK0.out.2.1, HK0.out.2.2, HRO.out.vs⟩)
              have KZ := KE.drop (List.Sublist.cons _ (List.sublist_cons_self _ _))
              go_roundg go
              case measure => omega
              case rel => exact ⟨j + 1, p, _, cp, ni + 1, cap', nd, cd, nu, cu, _, C', D, U, _, ld, lu, by omega, by first | rfl | go_num, rfl, by omega, by omega, by omega, by omega, by omega, by omega, by omega, HBN, KZ⟩
        | zero =>
          obtain rfl : np = 0 := by omega
          have HRGT := hid (show ∀ x, a.rs[p]? = some x → rid < x.1 from fun x hx => by
            have h1 := (List.getElem?_eq_some_iff.1 hx).1
            have h2 := congrArg List.length HAR.out
            rw [List.length_map, HAL.out] at h2
            omega)
          have F2 := H2.facts
          simp only [World.size_alloc, World.size_drew, factsL, cellsF, Nat.reduceAdd, List.toList_toArray, List.set_cons_zero, List.set_cons_succ, List.setIfInBounds_toArray, and_true, true_and] at F2
          go_wp2_with fail
          go_quiet (fail)
          have H3 := H2.drewN nq
          clear H2 F2
          generalize wr.drewN nq = w3 at H3 ⊢
          by_cases hrn : rid < a.nx
          · have hd3 : decide (rid < a.nx) = true := by simpa using hrn
            have HN := hid (HBS.out.bad HRR.out HRGT.out hrn)
            clear hrn
            have FK := H3.facts
            simp only [World.size_alloc, World.size_drew, factsL, cellsF, Nat.reduceAdd, List.toList_toArray, List.set_cons_zero, List.set_cons_succ, List.setIfInBounds_toArray, and_true, true_and] at FK
            have KN := (((H3.store 10 rfl 0 (.string ⟨#[]⟩)).store 10 rfl 1 (.slice none 0 0)).store 10 rfl 2 (.slice none 0 0)).store 10 rfl 3 (.slice none 0 0)
            go_wp2_with fail
            (try rw [Exit.noGoto_ret])
            exact bodyPost_ret (v := .tuple #[.agg #[.string ⟨#[]⟩, .slice none 0 0, .slice none 0 0, .slice none 0 0], .bool false]) (by simp [results, Tryz.results81, go_sem, FK]) rfl ⟨_, by rw [HN.out], by rw [HN.out]; exact dlAt_zero, KN.below⟩
          · have hd3 : decide (rid < a.nx) = false := by simpa using hrn
            have HRN := hid (show a.nx ≤ rid by omega)
            clear hrn
            have FK := H3.facts
            simp only [World.size_alloc, World.size_drew, factsL, cellsF, Nat.reduceAdd, List.toList_toArray, List.set_cons_zero, List.set_cons_succ, List.setIfInBounds_toArray, and_true, true_and] at FK
            obtain ⟨KL, hKL, KN⟩ := H3.name
            have HF : Hid (∀ wv, Hold M none w wv KL → (wv.cell? ⟨g6, 1, none⟩ = some (.slice I ni ci) ∧ g6 < wv.heap.size) ∧ wv.cell? ⟨g9, 0, none⟩ = some (.int .i64 rid) ∧ wv.cell? ⟨g9, 1, none⟩ = some (.slice rA rn rc) ∧ g9 < wv.heap.size) := hid fun wv HC => by
              rw [hKL] at HC
              have y1 := HC.blk_ 9 rfl
              have y2 := HC.cst_ 0 rfl
              exact ⟨⟨cell_of_row _ _ 1 _ _ _ y1, Blk.lt y1⟩, cell_of_row _ _ 0 _ _ _ y2, cell_of_row _ _ 1 _ _ _ y2, Blk.lt y2⟩
            have HRX : Hid (∀ wv, Hold M none w wv KL → Ro wv (Mut M KL) (VlsIn rA rn rvs)) := hid fun wv HC => by
              rw [hKL] at HC ⊢
              exact HC.ro 1 rfl
            have HKL := hid hKL
            clear hKL H3
            go_wp2_with fail
            refine wp_region_any (by kernel_rfl) ?_
            refine wpAny_hold 5 128 (KL) (spL [(108, RowSlot (Mut M KL) rid rvs), (109, RBoxSlot (Mut M KL) rid rvs)]) (by kernel_rfl) (by kernel_rfl) (by kernel_rfl) rfl ?_ (KN.drew) ?_
            · exact stays_cons rowSlot_mono (stays_cons rboxSlot_mono (stays_nil _))
            simp only [List.take_succ_cons, List.take_zero, List.drop_succ_cons, List.drop_zero, Act.put, List.getElem_toArray, List.getElem_cons_zero, List.getElem_cons_succ, List.setIfInBounds_toArray, List.set_cons_succ, List.set_cons_zero]
            refine dw_val rfl rfl rfl ?_; apply Exists.intro; refine ⟨fun wv HC => ?_, ?_⟩
            ·  go_simp <;> rfl
            simp only [Act.put, List.setIfInBounds_toArray, List.set_cons_succ, List.set_cons_zero]
            refine dw_val rfl rfl rfl ?_; apply Exists.intro; refine ⟨fun wv HC => ?_, ?_⟩
            · obtain ⟨⟨f0, f1⟩, f2, f3, f4⟩ := HF.out _ HC; go_simp <;> rfl
            simp only [Act.put, List.setIfInBounds_toArray, List.set_cons_succ, List.set_cons_zero]
            refine dw_val rfl rfl rfl ?_; apply Exists.intro; refine ⟨fun wv HC => ?_, ?_⟩
            · obtain ⟨⟨f0, f1⟩, f2, f3, f4⟩ := HF.out _ HC; go_simp <;> rfl
            simp only [Act.put, List.setIfInBounds_toArray, List.set_cons_succ, List.set_cons_zero]
            refine dw_callR 108 (RowSlot (Mut M KL) rid rvs) (f := 147) (args := #[.agg #[.int .i64 rid, .slice rA rn rc]]) rfl rfl rfl rfl (fun wv => ?_) (fun wv HC hrm hD => ?_) ?_
            · go_simp <;> rfl
            · refine (dcopied_any _ wv HC.mutLt rid rA rn rc rvs (HRX.out _ HC) (by omega)).mono ?_
              rintro e w5 ⟨A5, n5, c5, rfl, h50, h51, h52, h53, b5⟩
              exact ⟨_, rfl, ⟨A5, n5, c5, rfl, h50, h51, h52, h53⟩, HC.call b5, RM.below b5⟩
            rintro x_ wx HCx ⟨A5, n5, c5, rfl, -, -, -, -⟩
            clear HCx
            simp only [Act.put, List.setIfInBounds_toArray, List.set_cons_succ, List.set_cons_zero]
            refine dw_new #[.int .i64 rid, .slice A5 n5 c5] 119 109 (RBoxSlot (Mut M KL) rid rvs) (fun g => .slice (some ⟨g, 0, none⟩) 1 1) rfl rfl rfl rfl (fun wv => ?_) (fun wv HC _hrm hD hro => ?_) ?_
            · go_simp <;> rfl
            · have hsl : RowSlot (Mut M KL) rid rvs (.agg #[.int .i64 rid, .slice A5 n5 c5]) wv := deps_at hD 3 rfl (by kernel_rfl) rfl rfl
              obtain ⟨A6, n6, c6, e6, h1, h2, h3, h4⟩ := hsl
              obtain ⟨rfl, rfl, rfl⟩ : A5 = A6 ∧ n5 = n6 ∧ c5 = c6 := by
                injection e6 with e6
                simp at e6
                exact e6
              exact ⟨_, A5, n5, c5, rfl, h1, h2, h3, h4.step (by simp) (fun b hb _ => Below.heap_alloc wv _ b hb) (fun _ _ h => h), ro_block (hro _ HC.mutLt) rfl⟩
            rintro gn wg HCg hsl
            simp only [Act.put, List.setIfInBounds_toArray, List.set_cons_succ, List.set_cons_zero]
            clear hsl HCg
            refine rel_nil ?_
            rintro wx2 HX
            rintro _hrm HGW
            have hb2 : RBoxSlot (Mut M KL) rid rvs (.slice (some ⟨gn, 0, none⟩) 1 1) wx2 := (GW_on (d := 109) rfl).1 (HGW 4 _ rfl (by omega))
            clear HGW _hrm
            obtain ⟨gq, A6, n6, c6, e6, k0_, k1_, k2_, k3_, k4_⟩ := hb2
            obtain rfl : gn = gq := by injection e6 with e6; injection e6 with e6; injection e6
            clear e6
            rw [HKL.out] at HX k3_
            have k5 := hid k4_.now
            have HK0 := hid (And.intro k0_ (And.intro k1_ k2_))
            clear k4_ k0_ k1_ k2_ HF HRX KN
            have HRS := hid (show rwCells li ++ [.int .i64 rid, .slice A6 n6 c6] = rwCells (li ++ [⟨rid, A6, n6, c6, rvs⟩]) from rwCells_snoc1 _ _ _ _ _ _)
            have KA := HX.add k3_
            clear HX k3_
            have FKA := KA.facts
            simp only [World.size_alloc, World.size_drew, factsL, cellsF, Nat.reduceAdd, List.toList_toArray, List.set_cons_zero, List.set_cons_succ, List.setIfInBounds_toArray, and_true, true_and] at FKA
            go_wp2_with (at_builtin; go_must (refine wpList_appAllH KA 4 rfl Tryz.elRw k5.out rfl (.tmp 106) (.tmp 109) rfl rfl rfl (by intro z hz; simp at hz; rcases hz with rfl | rfl <;> rfl) (by omega) (by omega) ?_); intro C' cap' w6 hc6 hm6 KB; rw [HRS.out] at KB; simp only [List.set_cons_zero, List.set_cons_succ] at KB; (have F3 := KB.facts); simp only [World.size_alloc, World.size_drew, factsL, cellsF, Nat.reduceAdd, List.toList_toArray, List.set_cons_zero, List.set_cons_succ, List.setIfInBounds_toArray, and_true, true_and] at F3)
            have KD := KB.store 10 rfl 1 (.slice C' (ni + 1) cap')
            have KE := (KD.swapRo 7 rfl (vals_snoc (r := ⟨rid, A6, n6, c6, rvs⟩) (KD.ro 7 rfl) (KD.ro 0 rfl))).drop (List.sublist_cons_self _ _)
            clear KB KD FKA k5
            have HBN := hid (HBS.out.right HRR.out HRGT.out HRN.out (y := ⟨rid, A6, n6, c6, rvs⟩) rfl ⟨HRO.out.id, HK0.out.2.1, HK0.out.2.2, HRO.out.vs⟩)
            have KZ := KE.drop (List.Sublist.cons _ (List.sublist_cons_self _ _))
            go_roundg go
            case measure => omega
            case rel => exact ⟨j + 1, p, _, cp, ni + 1, cap', nd, cd, nu, cu, _, C', D, U, _, ld, lu, by omega, by first | rfl | go_num, rfl, by omega, by omega, by omega, by omega, by omega, by omega, by omega, HBN, KZ⟩
    | zero =>
      obtain rfl : j = bm := by omega
      have hd : decide ((j : Int) < (j : Int)) = false := by simp
      have HBJ := hid (show b.rs.length ≤ j by rw [← HBR.out, List.length_map, HBL.out]; exact Nat.le_refl _)
      go_wp2_with fail
      (try rw [Exit.noGoto_ret])
      go_loopw [115] (fun iv wr => ∃ (k nd cd : Nat) (D : Option Addr) (ld : List Rw), k ≤ np ∧ iv = .int .i64 k ∧ nd ≤ p + k ∧ Hid (BSt a b j (p + k) li ld lu) ∧ Hold M none w wr [.ro (RwsIn Ap np (la.drop p)), .own 119 2 (.slice I ni ci) ni (rwCells li), .own 119 2 (.slice D nd cd) nd (rwCells ld), .own 110 3 (.slice U nu cu) nu (prCells lu), .ro (ValsIn li), .ro (ValsIn ld), .ro (PrVals lu), .blk g6 44 #[.string a.nm, .slice I ni ci, .slice D nd cd, .slice U nu cu], .blk g4 44 #[.string ⟨#[]⟩, .slice none 0 0, .slice none 0 0, .slice none 0 0], .cst g3 58 #[.string b.nm, .slice bA bn bc, .int .i64 b.nx, .slice bB j bd], .cst g2 58 #[.string a.nm, .slice aA an ac, .int .i64 a.nx, .slice aB am ad], .ro (ColsIn aA an a.cs), .ro (RwsIn aB am la), .ro (ColsIn bA bn b.cs), .ro (RwsIn bB j lb)]) (fun iv _ => np - (intOf iv).toNat)
      case atStart => exact ⟨0, nd, cd, D, ld, by omega, rfl, by omega, HBS, H⟩
      case round =>
        clear H HBS hnd
        clear nd cd D ld
        obtain ⟨k, nd, cd, D, ld, hk, rfl, hnd, HBS, H⟩ := hrel
        by_cases hlt : k < np
        · have hd5 : decide ((k : Int) < (np : Int)) = true := by simp; omega
          have k0 : (0 : Int) ≤ (k : Int) := by omega
          have k1 : (k : Int) < (np : Int) := by omega
          obtain ⟨x, hx⟩ := get_of HAL.out (show p + k < am by omega)
          have HXX := hid (show a.rs[p + k]? = some x.row by rw [← HAR.out, List.getElem?_map, hx]; rfl)
          have HXO := hid (HAO.out x (List.mem_of_getElem? hx))
          have hxn6 := HSA.out x (List.mem_of_getElem? hx)
          have hx2 : (la.drop p)[k]? = some x := by rw [List.getElem?_drop]; exact hx
          obtain ⟨bx, ox, rfl, hbx', x0, x1, _⟩ := (H.ro 0 rfl).now.at_ hx2
          have hxx : Ro wr _ (VlsIn x.A x.n x.vs) := (H.ro 0 rfl).imp fun w2 h2 => h2.2 x (List.mem_of_getElem? hx2)
          clear hx hx2
          obtain ⟨xid, xA, xn, xc, xvs⟩ := x
          dsimp only at *
          have KX := (H.add hxx).alloc_cst #[.int .i64 xid, .slice xA xn xc] 119
          clear H hxx
          obtain ⟨KL, hKL, KN⟩ := KX.name
          have HF : Hid (∀ wv, Hold M none w wv KL → (wv.cell? ⟨g6, 2, none⟩ = some (.slice D nd cd) ∧ g6 < wv.heap.size) ∧ wv.cell? ⟨wr.heap.size, 0, none⟩ = some (.int .i64 xid) ∧ wv.cell? ⟨wr.heap.size, 1, none⟩ = some (.slice xA xn xc) ∧ wr.heap.size < wv.heap.size) := hid fun wv HC => by
            rw [hKL] at HC
            have y1 := HC.blk_ 9 rfl
            have y2 := HC.cst_ 0 rfl
            exact ⟨⟨cell_of_row _ _ 2 _ _ _ y1, Blk.lt y1⟩, cell_of_row _ _ 0 _ _ _ y2, cell_of_row _ _ 1 _ _ _ y2, Blk.lt y2⟩
          have HRX : Hid (∀ wv, Hold M none w wv KL → Ro wv (Mut M KL) (VlsIn xA xn xvs)) := hid fun wv HC => by
            rw [hKL] at HC ⊢
            exact HC.ro 1 rfl
          have HKL := hid hKL
          clear hKL KX
          go_wp2_with fail
          refine wp_region_any (by kernel_rfl) ?_
          refine wpAny_hold 5 128 (KL) (spL [(122, RowSlot (Mut M KL) xid xvs), (123, RBoxSlot (Mut M KL) xid xvs)]) (by kernel_rfl) (by kernel_rfl) (by kernel_rfl) rfl ?_ (KN.drew) ?_
          · exact stays_cons rowSlot_mono (stays_cons rboxSlot_mono (stays_nil _))
          simp only [List.take_succ_cons, List.take_zero, List.drop_succ_cons, List.drop_zero, Act.put, List.getElem_toArray, List.getElem_cons_zero, List.getElem_cons_succ, List.setIfInBounds_toArray, List.set_cons_succ, List.set_cons_zero]
          refine dw_val rfl rfl rfl ?_; apply Exists.intro; refine ⟨fun wv HC => ?_, ?_⟩
          ·  go_simp <;> rfl
          simp only [Act.put, List.setIfInBounds_toArray, List.set_cons_succ, List.set_cons_zero]
          refine dw_val rfl rfl rfl ?_; apply Exists.intro; refine ⟨fun wv HC => ?_, ?_⟩
          · obtain ⟨⟨f0, f1⟩, f2, f3, f4⟩ := HF.out _ HC; go_simp <;> rfl
          simp only [Act.put, List.setIfInBounds_toArray, List.set_cons_succ, List.set_cons_zero]
          refine dw_val rfl rfl rfl ?_; apply Exists.intro; refine ⟨fun wv HC => ?_, ?_⟩
          · obtain ⟨⟨f0, f1⟩, f2, f3, f4⟩ := HF.out _ HC; go_simp <;> rfl
          simp only [Act.put, List.setIfInBounds_toArray, List.set_cons_succ, List.set_cons_zero]
          refine dw_callR 122 (RowSlot (Mut M KL) xid xvs) (f := 147) (args := #[.agg #[.int .i64 xid, .slice xA xn xc]]) rfl rfl rfl rfl (fun wv => ?_) (fun wv HC hrm hD => ?_) ?_
          · go_simp <;> rfl
          · refine (dcopied_any _ wv HC.mutLt xid xA xn xc xvs (HRX.out _ HC) (by omega)).mono ?_
            rintro e w5 ⟨A5, n5, c5, rfl, h50, h51, h52, h53, b5⟩
            exact ⟨_, rfl, ⟨A5, n5, c5, rfl, h50, h51, h52, h53⟩, HC.call b5, RM.below b5⟩
          rintro x_ wx HCx ⟨A5, n5, c5, rfl, -, -, -, -⟩
          clear HCx
          simp only [Act.put, List.setIfInBounds_toArray, List.set_cons_succ, List.set_cons_zero]
          refine dw_new #[.int .i64 xid, .slice A5 n5 c5] 119 123 (RBoxSlot (Mut M KL) xid xvs) (fun g => .slice (some ⟨g, 0, none⟩) 1 1) rfl rfl rfl rfl (fun wv => ?_) (fun wv HC _hrm hD hro => ?_) ?_
          · go_simp <;> rfl
          · have hsl : RowSlot (Mut M KL) xid xvs (.agg #[.int .i64 xid, .slice A5 n5 c5]) wv := deps_at hD 3 rfl (by kernel_rfl) rfl rfl
            obtain ⟨A6, n6, c6, e6, h1, h2, h3, h4⟩ := hsl
            obtain ⟨rfl, rfl, rfl⟩ : A5 = A6 ∧ n5 = n6 ∧ c5 = c6 := by
              injection e6 with e6
              simp at e6
              exact e6
            exact ⟨_, A5, n5, c5, rfl, h1, h2, h3, h4.step (by simp) (fun b hb _ => Below.heap_alloc wv _ b hb) (fun _ _ h => h), ro_block (hro _ HC.mutLt) rfl⟩
          rintro gn wg HCg hsl
          simp only [Act.put, List.setIfInBounds_toArray, List.set_cons_succ, List.set_cons_zero]
          clear hsl HCg
          refine rel_nil ?_
          rintro wx2 HX
          rintro _hrm HGW
          have hb2 : RBoxSlot (Mut M KL) xid xvs (.slice (some ⟨gn, 0, none⟩) 1 1) wx2 := (GW_on (d := 123) rfl).1 (HGW 4 _ rfl (by omega))
          clear HGW _hrm
          obtain ⟨gq, A6, n6, c6, e6, k0_, k1_, k2_, k3_, k4_⟩ := hb2
          obtain rfl : gn = gq := by injection e6 with e6; injection e6 with e6; injection e6
          clear e6
          rw [HKL.out] at HX k3_
          have k5 := hid k4_.now
          have HK0 := hid (And.intro k0_ (And.intro k1_ k2_))
          clear k4_ k0_ k1_ k2_ HF HRX KN
          have HRS := hid (show rwCells ld ++ [.int .i64 xid, .slice A6 n6 c6] = rwCells (ld ++ [⟨xid, A6, n6, c6, xvs⟩]) from rwCells_snoc1 _ _ _ _ _ _)
          have KA := HX.add k3_
          clear HX k3_
          have FKA := KA.facts
          simp only [World.size_alloc, World.size_drew, factsL, cellsF, Nat.reduceAdd, List.toList_toArray, List.set_cons_zero, List.set_cons_succ, List.setIfInBounds_toArray, and_true, true_and] at FKA
          go_wp2_with (at_builtin; go_must (refine wpList_appAllH KA 5 rfl Tryz.elRw k5.out rfl (.tmp 120) (.tmp 123) rfl rfl rfl (by intro z hz; simp at hz; rcases hz with rfl | rfl <;> rfl) (by omega) (by omega) ?_); intro C' cap' w6 hc6 hm6 KB; rw [HRS.out] at KB; simp only [List.set_cons_zero, List.set_cons_succ] at KB; (have F3 := KB.facts); simp only [World.size_alloc, World.size_drew, factsL, cellsF, Nat.reduceAdd, List.toList_toArray, List.set_cons_zero, List.set_cons_succ, List.setIfInBounds_toArray, and_true, true_and] at F3)
          have KD := KB.store 10 rfl 2 (.slice C' (nd + 1) cap')
          have KE := (KD.swapRo 8 rfl (vals_snoc (r := ⟨xid, A6, n6, c6, xvs⟩) (KD.ro 8 rfl) (KD.ro 0 rfl))).drop (List.sublist_cons_self _ _)
          clear KB KD FKA k5
          have HBN := hid (HBS.out.tail HBJ.out HXX.out (y := ⟨xid, A6, n6, c6, xvs⟩) rfl ⟨HXO.out.id, HK0.out.2.1, HK0.out.2.2, HXO.out.vs⟩)
          have KZ := KE.drop (List.Sublist.cons _ (List.sublist_cons_self _ _))
          go_roundw
          case rel => exact ⟨k + 1, nd + 1, cap', C', _, by omega, by first | rfl | go_num, by omega, HBN, KZ⟩
          case measure => simp [intOf]; omega
        · obtain rfl : np = k := by omega
          have hd5 : decide ((np : Int) < (np : Int)) = false := by simp
          have HFIN := hid (HBS.out.fin HBJ.out (by rw [← HAR.out, List.length_map, HAL.out]; omega))
          have F := H.facts
          simp only [World.size_alloc, World.size_drew, factsL, cellsF, Nat.reduceAdd, List.toList_toArray, List.set_cons_zero, List.set_cons_succ, List.setIfInBounds_toArray, and_true, true_and] at F
          obtain ⟨hi1, hi2, _⟩ := own_caps (H.get 1 rfl)
          obtain ⟨hd1, hd2, _⟩ := own_caps (H.get 2 rfl)
          obtain ⟨hu1, hu2, _⟩ := own_caps (H.get 3 rfl)
          have KS := H.sealRow 1 rfl
          simp only [List.set_cons_zero, List.set_cons_succ] at KS
          have KS2 := KS.sealRow 2 rfl
          simp only [List.set_cons_zero, List.set_cons_succ] at KS2
          have KS3 := KS2.sealRow 3 rfl
          simp only [List.set_cons_zero, List.set_cons_succ] at KS3
          have KN := (((KS3.store 8 rfl 0 (.string a.nm)).store 8 rfl 1 (.slice I ni ci)).store 8 rfl 2 (.slice D nd cd)).store 8 rfl 3 (.slice U nu cu)
          have r1 := (KN.roOut 1 rfl).and (KN.roOut 4 rfl)
          have r2 := (KN.roOut 2 rfl).and (KN.roOut 5 rfl)
          have r3 := (KN.roOut 3 rfl).and (KN.roOut 6 rfl)
          have NK := H.nes
          simp only [nesL, neF, and_true, true_and] at NK
          clear KS KS2 KS3 H
          go_wp2_with fail
          (try rw [Exit.noGoto_ret])
          exact bodyPost_ret (v := .tuple #[.agg #[.string a.nm, .slice I ni ci, .slice D nd cd, .slice U nu cu], .bool true]) (by simp [results, Tryz.results81, go_sem, F, NK]) rfl ⟨_, by rw [HFIN.out], by rw [HFIN.out]; exact ⟨I, ni, ci, D, nd, cd, U, nu, cu, li, ld, lu, rfl, ⟨hi1, hi2⟩, ⟨hd1, hd2⟩, ⟨hu1, hu2⟩, r1, r2, r3, HBS.out.ok1, HBS.out.ok2, HBS.out.ok3, rfl, rfl, rfl⟩, KN.below⟩
end Go.Proofs.YtedogodccblfeaaGreatDoor

namespace Go.Proofs.YtedogodccblfeaaGreatDoor
open Go.RowKit
set_option linter.unusedVariables false
set_option linter.unusedSimpArgs false

end Go.Proofs.YtedogodccblfeaaGreatDoor

namespace Go.Proofs.YtedogodccblfeaaGreatDoor
open Go.RowKit
set_option linter.unusedVariables false
set_option linter.unusedSimpArgs false

end Go.Proofs.YtedogodccblfeaaGreatDoor

namespace Go.Proofs.YtedogodccblfeaaGreatDoor
open Go.RowKit
set_option linter.unusedVariables false
set_option linter.unusedSimpArgs false

end Go.Proofs.YtedogodccblfeaaGreatDoor

namespace Go.Proofs.YtedogodccblfeaaGreatDoor
open Go.RowKit
set_option linter.unusedVariables false
set_option linter.unusedSimpArgs false

end Go.Proofs.YtedogodccblfeaaGreatDoor

namespace Go.Proofs.YtedogodccblfeaaGreatDoor
open Go.RowKit
set_option linter.unusedVariables false
set_option linter.unusedSimpArgs false

def nm3 (k : Nat) : ByteArray := if k = 0 then nmLog else if k = 1 then nmT else nmU
def cs3 (k : Nat) : List Col := if k = 0 then logCols else if k = 1 then tCols else uCols
/-- the first tables of a store drawn -/
structure Sto3 (N k : Nat) (outs : List Te) : Prop where
  len : outs.length = k
  ok : ∀ x ∈ outs, x.ok ∧ VTab x.tb ∧ x.tb.rs.length ≤ N
  at_ : ∀ (j : Nat) (x : Te), outs[j]? = some x → x.tb.nm = nm3 j ∧ x.tb.cs = cs3 j
theorem Sto3.zero (N : Nat) : Sto3 N 0 [] := ⟨rfl, fun x hx => (nomatch hx), fun j x h => by simp at h⟩
theorem Sto3.next {N k : Nat} {outs : List Te} {y : Te} (h : Sto3 N k outs) (h1 : y.ok) (h2 : VTab y.tb) (h3 : y.tb.rs.length ≤ N) (h4 : y.tb.nm = nm3 k) (h5 : y.tb.cs = cs3 k) : Sto3 N (k + 1) (outs ++ [y]) := by
  refine ⟨by simp [h.len], fun x hx => ?_, fun j x hx => ?_⟩
  · rcases List.mem_append.1 hx with hx | hx
    · exact h.ok x hx
    · simp at hx; subst hx; exact ⟨h1, h2, h3⟩
  · rw [List.getElem?_append] at hx
    split at hx
    · exact h.at_ j x hx
    · rename_i hj
      have hk := h.len
      obtain rfl : j = k := by
        have := (List.getElem?_eq_some_iff.1 hx).1
        simp at this; omega
      rw [hk] at hx
      simp at hx
      subst hx
      exact ⟨h4, h5⟩
def StoRet (w : World) (T : Nat) (M : Nat → Prop) (N : Nat) (e : Ending) (w' : World) : Prop :=
  ∃ (A : Option Addr) (c : Nat) (l : List Te), e = .returned (.slice A 3 c) ∧ 3 ≤ c ∧ c ≤ 9223372036854775807 ∧ Sto3 N 3 l ∧ Ro w' M (TesIn A 3 l) ∧ Tp w' T ∧ w.grownBy w' (some T)
set_option maxHeartbeats 8000000 in
set_option maxRecDepth 100000 in
theorem tstore_any (M : Nat → Prop) (T : Nat) (w : World) (hM : ∀ b, M b → b < w.heap.size) (ht : Tp w T) (hMT : ∀ b, M b → T ≤ b) (N : Nat) (hN : N ≤ 50) (hW : Ro w (Mut M [.tp T]) Wds) (hw : 2 < T) :
    Calls Tryz.prog 16 #[.pointer (some ⟨T, 0, none⟩), .int .i64 N] w fun e w' => StoRet w T M N e w' := by
  have K0 := (Hold.startT M w T hM ht hMT).add hW
  clear hW
  go_enter Tryz.func16, Tryz.ntmps16
  go_wp2_with fail
  refine (schemas_any _ _ K0.mutLt).mono ?_
  rintro e w1 ⟨g, g0, g1, g2, nl, nt, nu, hnl, hnt, hnu, rfl, b1, r0, r1, r2, r3⟩
  have HNL := hid (And.intro hnl (And.intro hnt hnu))
  have K1 := ((((((K0.call b1).add r3).add (r2.less (by simp [Mut, Hp.foot]))).add (r1.less (by simp [Mut, Hp.foot]))).add (r0.less (by simp [Mut, Hp.foot]))).add (teVals_nil _ _)).nil 58 4
  clear K0 b1 r0 r1 r2 r3 hnl hnt hnu
  go_wp2_with fail
  go_loopw [5, 10] (fun ov iv wr => ∃ (k cap : Nat) (O : Option Addr) (outs : List Te), k ≤ 3 ∧ iv = .int .i64 k ∧ ov = .slice O k cap ∧ Hid (Sto3 N k outs) ∧ Hold M (some T) w wr [.own 58 4 (.slice O k cap) k (teCells outs), .ro (TeVals outs), .ro (fun w => w.heap[g]? = some (.cells #[.string nl, .slice (some ⟨g0, 0, none⟩) 2 2, .string nt, .slice (some ⟨g1, 0, none⟩) 4 4, .string nu, .slice (some ⟨g2, 0, none⟩) 3 3] 49 (0, 0))), .ro (ColsIn (some ⟨g0, 0, none⟩) 2 logCols), .ro (ColsIn (some ⟨g1, 0, none⟩) 4 tCols), .ro (ColsIn (some ⟨g2, 0, none⟩) 3 uCols), .ro Wds, .tp T]) (fun _ iv _ => 3 - (intOf iv).toNat)
  case atStart => exact ⟨0, 0, none, [], by omega, rfl, rfl, hid (Sto3.zero N), K1⟩
  case round =>
    clear K1
    obtain ⟨k, cap, O, outs, hk, rfl, rfl, HS, H⟩ := hrel
    by_cases hlt : k < 3
    · have hd : decide ((k : Int) < 3) = true := by simp; omega
      have hblk := (H.ro 2 rfl).now
      have hgl := Blk.lt hblk
      obtain rfl | rfl | rfl : k = 0 ∨ k = 1 ∨ k = 2 := by omega
      · have c0 := cell_of_row _ _ 0 _ _ _ hblk
        have c1 := cell_of_row _ _ 1 _ _ _ hblk
        clear hblk
        have K1 := H.alloc_cst #[.string nl, .slice (some ⟨g0, 0, none⟩) 2 2] 49
        have F1 := K1.facts
        simp only [World.size_alloc, World.size_drew, factsL, cellsF, Nat.reduceAdd, List.toList_toArray, List.set_cons_zero, List.set_cons_succ, List.setIfInBounds_toArray, and_true, true_and] at F1
        clear H
        go_wp2_with fail
        refine (tof_slot (Mut M _) T _ K1.mutLt (K1.tp_ 8 rfl) (K1.get 8 rfl).2 nl (some ⟨g0, 0, none⟩) 2 2 logCols N ((K1.ro 4 rfl).less (mut_tp (i := 8) rfl)) (by omega) (by omega) (by rw [HNL.out.1]; exact schOk_of (by decide +kernel)) ((K1.ro 7 rfl).less (mut_tp (i := 8) rfl)) hw hN).mono ?_
        rintro e w5 ⟨v, t, rfl, hT, hv, hn1, hc1, hr1, t5, g5⟩
        obtain ⟨y, rfl, hy, hyo, ry⟩ := tb_te hT
        have hyv : y.val = .agg #[.string y.nm, .slice y.A y.n y.c, .int .i64 y.nx, .slice y.B y.m y.d] := rfl
        rw [hyv]
        clear hyv
        have K2 := (Hold.callT K1 8 rfl g5 t5).add ry
        have HY := hid (show y.ok ∧ VTab y.tb ∧ y.tb.rs.length ≤ N ∧ y.tb.nm = nl ∧ y.tb.cs = logCols from ⟨hyo, by rw [hy]; exact hv, by rw [hy]; exact hr1, by rw [hy]; exact hn1, by rw [hy]; exact hc1⟩)
        clear K1 F1 hT hv hn1 hc1 hr1 t5 g5 hy hyo ry
        go_wp2_with (at_builtin; go_must (refine wpList_appH K2 2 rfl Tryz.elTe #[.string y.nm, .slice y.A y.n y.c, .int .i64 y.nx, .slice y.B y.m y.d] rfl (.tmp 14) (.tmp 19) rfl rfl _ (by first | rfl | simp) rfl rfl (by intro u hu; simp at hu; rcases hu with rfl | rfl | rfl | rfl <;> rfl) (by omega) (by omega) ?_); intro g9 cap9 w9 hc9 hm9 KB; simp only [List.set_cons_zero, List.set_cons_succ] at KB)
        have e9 : teCells outs ++ (#[.string y.nm, .slice y.A y.n y.c, .int .i64 y.nx, .slice y.B y.m y.d]).toList = teCells (outs ++ [y]) := (teCells_snoc outs y).symm
        rw [e9] at KB
        have KC := (KB.swapRo 3 rfl (teVals_snoc (r := y) (KB.ro 3 rfl) (KB.ro 0 rfl))).drop (List.Sublist.cons _ (List.sublist_cons_self _ _))
        have HS2 := hid (HS.out.next HY.out.1 HY.out.2.1 HY.out.2.2.1 (show y.tb.nm = nm3 0 from HY.out.2.2.2.1.trans HNL.out.1) (show y.tb.cs = cs3 0 from HY.out.2.2.2.2))
        go_roundw
        case rel => exact ⟨1, cap9, _, _, by omega, by go_num, by first | rfl | trivial, HS2, KC⟩
        case measure => simp [intOf]
      · have c0 := cell_of_row _ _ 2 _ _ _ hblk
        have c1 := cell_of_row _ _ 3 _ _ _ hblk
        clear hblk
        have K1 := H.alloc_cst #[.string nt, .slice (some ⟨g1, 0, none⟩) 4 4] 49
        have F1 := K1.facts
        simp only [World.size_alloc, World.size_drew, factsL, cellsF, Nat.reduceAdd, List.toList_toArray, List.set_cons_zero, List.set_cons_succ, List.setIfInBounds_toArray, and_true, true_and] at F1
        clear H
        go_wp2_with fail
        refine (tof_slot (Mut M _) T _ K1.mutLt (K1.tp_ 8 rfl) (K1.get 8 rfl).2 nt (some ⟨g1, 0, none⟩) 4 4 tCols N ((K1.ro 5 rfl).less (mut_tp (i := 8) rfl)) (by omega) (by omega) (by rw [HNL.out.2.1]; exact schOk_of (by decide +kernel)) ((K1.ro 7 rfl).less (mut_tp (i := 8) rfl)) hw hN).mono ?_
        rintro e w5 ⟨v, t, rfl, hT, hv, hn1, hc1, hr1, t5, g5⟩
        obtain ⟨y, rfl, hy, hyo, ry⟩ := tb_te hT
        have hyv : y.val = .agg #[.string y.nm, .slice y.A y.n y.c, .int .i64 y.nx, .slice y.B y.m y.d] := rfl
        rw [hyv]
        clear hyv
        have K2 := (Hold.callT K1 8 rfl g5 t5).add ry
        have HY := hid (show y.ok ∧ VTab y.tb ∧ y.tb.rs.length ≤ N ∧ y.tb.nm = nt ∧ y.tb.cs = tCols from ⟨hyo, by rw [hy]; exact hv, by rw [hy]; exact hr1, by rw [hy]; exact hn1, by rw [hy]; exact hc1⟩)
        clear K1 F1 hT hv hn1 hc1 hr1 t5 g5 hy hyo ry
        go_wp2_with (at_builtin; go_must (refine wpList_appH K2 2 rfl Tryz.elTe #[.string y.nm, .slice y.A y.n y.c, .int .i64 y.nx, .slice y.B y.m y.d] rfl (.tmp 14) (.tmp 19) rfl rfl _ (by first | rfl | simp) rfl rfl (by intro u hu; simp at hu; rcases hu with rfl | rfl | rfl | rfl <;> rfl) (by omega) (by omega) ?_); intro g9 cap9 w9 hc9 hm9 KB; simp only [List.set_cons_zero, List.set_cons_succ] at KB)
        have e9 : teCells outs ++ (#[.string y.nm, .slice y.A y.n y.c, .int .i64 y.nx, .slice y.B y.m y.d]).toList = teCells (outs ++ [y]) := (teCells_snoc outs y).symm
        rw [e9] at KB
        have KC := (KB.swapRo 3 rfl (teVals_snoc (r := y) (KB.ro 3 rfl) (KB.ro 0 rfl))).drop (List.Sublist.cons _ (List.sublist_cons_self _ _))
        have HS2 := hid (HS.out.next HY.out.1 HY.out.2.1 HY.out.2.2.1 (show y.tb.nm = nm3 1 from HY.out.2.2.2.1.trans HNL.out.2.1) (show y.tb.cs = cs3 1 from HY.out.2.2.2.2))
        go_roundw
        case rel => exact ⟨2, cap9, _, _, by omega, by go_num, by first | rfl | trivial, HS2, KC⟩
        case measure => simp [intOf]
      · have c0 := cell_of_row _ _ 4 _ _ _ hblk
        have c1 := cell_of_row _ _ 5 _ _ _ hblk
        clear hblk
        have K1 := H.alloc_cst #[.string nu, .slice (some ⟨g2, 0, none⟩) 3 3] 49
        have F1 := K1.facts
        simp only [World.size_alloc, World.size_drew, factsL, cellsF, Nat.reduceAdd, List.toList_toArray, List.set_cons_zero, List.set_cons_succ, List.setIfInBounds_toArray, and_true, true_and] at F1
        clear H
        go_wp2_with fail
        refine (tof_slot (Mut M _) T _ K1.mutLt (K1.tp_ 8 rfl) (K1.get 8 rfl).2 nu (some ⟨g2, 0, none⟩) 3 3 uCols N ((K1.ro 6 rfl).less (mut_tp (i := 8) rfl)) (by omega) (by omega) (by rw [HNL.out.2.2]; exact schOk_of (by decide +kernel)) ((K1.ro 7 rfl).less (mut_tp (i := 8) rfl)) hw hN).mono ?_
        rintro e w5 ⟨v, t, rfl, hT, hv, hn1, hc1, hr1, t5, g5⟩
        obtain ⟨y, rfl, hy, hyo, ry⟩ := tb_te hT
        have hyv : y.val = .agg #[.string y.nm, .slice y.A y.n y.c, .int .i64 y.nx, .slice y.B y.m y.d] := rfl
        rw [hyv]
        clear hyv
        have K2 := (Hold.callT K1 8 rfl g5 t5).add ry
        have HY := hid (show y.ok ∧ VTab y.tb ∧ y.tb.rs.length ≤ N ∧ y.tb.nm = nu ∧ y.tb.cs = uCols from ⟨hyo, by rw [hy]; exact hv, by rw [hy]; exact hr1, by rw [hy]; exact hn1, by rw [hy]; exact hc1⟩)
        clear K1 F1 hT hv hn1 hc1 hr1 t5 g5 hy hyo ry
        go_wp2_with (at_builtin; go_must (refine wpList_appH K2 2 rfl Tryz.elTe #[.string y.nm, .slice y.A y.n y.c, .int .i64 y.nx, .slice y.B y.m y.d] rfl (.tmp 14) (.tmp 19) rfl rfl _ (by first | rfl | simp) rfl rfl (by intro u hu; simp at hu; rcases hu with rfl | rfl | rfl | rfl <;> rfl) (by omega) (by omega) ?_); intro g9 cap9 w9 hc9 hm9 KB; simp only [List.set_cons_zero, List.set_cons_succ] at KB)
        have e9 : teCells outs ++ (#[.string y.nm, .slice y.A y.n y.c, .int .i64 y.nx, .slice y.B y.m y.d]).toList = teCells (outs ++ [y]) := (teCells_snoc outs y).symm
        rw [e9] at KB
        have KC := (KB.swapRo 3 rfl (teVals_snoc (r := y) (KB.ro 3 rfl) (KB.ro 0 rfl))).drop (List.Sublist.cons _ (List.sublist_cons_self _ _))
        have HS2 := hid (HS.out.next HY.out.1 HY.out.2.1 HY.out.2.2.1 (show y.tb.nm = nm3 2 from HY.out.2.2.2.1.trans HNL.out.2.2) (show y.tb.cs = cs3 2 from HY.out.2.2.2.2))
        go_roundw
        case rel => exact ⟨3, cap9, _, _, by omega, by go_num, by first | rfl | trivial, HS2, KC⟩
        case measure => simp [intOf]
    · obtain rfl : k = 3 := by omega
      have hd : decide (((3 : Nat) : Int) < 3) = false := by decide
      have hcap := own_caps (H.get 0 rfl)
      have KS := H.sealRow 0 rfl
      simp only [List.set_cons_zero] at KS
      have r1 := (KS.roOut 0 rfl).and (KS.roOut 1 rfl)
      have ht9 := KS.tp_ 7 rfl
      have HG := hid KS.grow
      clear H
      go_wp2_with fail
      go_ret
      exact ⟨O, cap, outs, rfl, hcap.1, hcap.2.1, HS.out, r1, ht9, HG.out⟩
end Go.Proofs.YtedogodccblfeaaGreatDoor

namespace Go.Proofs.YtedogodccblfeaaGreatDoor
open Go.RowKit
set_option linter.unusedVariables false
set_option linter.unusedSimpArgs false

/-- the place of the first table with a name -/
def findT (l : List Tb) (s : ByteArray) : Int := findB (fun t => t.nm.toList == s.toList) l
/-- a step from table a to table b, recorded as u -/
structure StepU (u : Ud) (a b : Tb) : Prop where
  rec_ : u = recD a b
  va : VTab a
  vb : VTab b
  later : LaterOk a b
  la : a.rs.length ≤ 19
/-- the entries (the last first) lead from S back to S0 -/
def BackR : List Ud → List Tb → List Tb → Prop
  | [], S, S0 => S = S0
  | u :: r, S, S0 => ∃ (k : Nat) (a b : Tb), S[k]? = some b ∧ findT S u.nm = (k : Int) ∧ StepU u a b ∧ BackR r (S.set k a) S0
theorem StepU.asc_a {u : Ud} {a b : Tb} (h : StepU u a b) : (a.rs.map (·.1)).Pairwise (· < ·) := (okR_asc (tabB_ok h.va.val).2.2.2.2.1).1
theorem StepU.asc_b {u : Ud} {a b : Tb} (h : StepU u a b) : (b.rs.map (·.1)).Pairwise (· < ·) := (okR_asc (tabB_ok h.vb.val).2.2.2.2.1).1
/-- names that stand once are found at their place -/
theorem findT_at {S : List Tb} (h : (S.map Tb.nm).Nodup) {k : Nat} {t : Tb} (hk : S[k]? = some t) : findT S t.nm = (k : Int) := by
  have key : ∀ (l : List Tb) (i k : Nat), (l.map Tb.nm).Nodup → l[k]? = some t → findFrom (fun x : Tb => x.nm.toList == t.nm.toList) i l = ((i + k : Nat) : Int) := by
    intro l
    induction l with
    | nil => intro i k _ h; simp at h
    | cons y l ih =>
      intro i k hn hk
      rw [List.map_cons, List.nodup_cons] at hn
      rcases k with _ | k
      · simp only [List.getElem?_cons_zero, Option.some.injEq] at hk
        subst hk
        rw [findFrom, if_pos (by simp)]; rfl
      · simp only [List.getElem?_cons_succ] at hk
        have hne : (y.nm.toList == t.nm.toList) = false := by
          rw [beq_eq_false_iff_ne]
          intro e
          have e2 : y.nm = t.nm := Go.WideShapes.bytes_inj (by rw [← ByteArray.toList_eq, ← ByteArray.toList_eq]; exact e)
          exact hn.1 (e2 ▸ List.mem_map_of_mem (List.mem_of_getElem? hk))
        rw [findFrom, hne, if_neg (by simp), ih (i + 1) k hn.2 hk]
        congr 1; omega
  have := key S 0 k h hk
  rw [Nat.zero_add] at this
  exact this
end Go.Proofs.YtedogodccblfeaaGreatDoor

namespace Go.Proofs.YtedogodccblfeaaGreatDoor
open Go.RowKit
set_option linter.unusedVariables false
set_option linter.unusedSimpArgs false

def pickW (lu : List Rw) (r : Rw) : Rw := (lu.find? fun z => decide (z.id = r.id)).getD r
def leftW (li : List Int) (lu l : List Rw) : List Rw := (l.filter fun r => !li.contains r.id).map (pickW lu)
theorem leftW_take {li : List Int} {lu l : List Rw} {k : Nat} {r : Rw} (hr : l[k]? = some r) : leftW li lu (l.take (k + 1)) = leftW li lu (l.take k) ++ (if li.contains r.id then [] else [pickW lu r]) := by
  unfold leftW
  rw [List.take_add_one, hr, Option.toList_some, List.filter_append, List.map_append]
  cases h : li.contains r.id
  · rw [List.filter_cons, h]; simp
  · rw [List.filter_cons, h]; simp
theorem pickW_none {lu : List Rw} {r : Rw} (h : ∀ z ∈ lu, decide (z.id = r.id) = false) : pickW lu r = r := by
  unfold pickW
  rw [List.find?_eq_none.2 (fun z hz => by rw [h z hz]; simp)]; rfl
theorem pickW_some {lu : List Rw} {r z : Rw} {k : Nat} (hz : lu[k]? = some z) (he : decide (z.id = r.id) = true) (hl : ∀ (j : Nat) (x : Rw), j < k → lu[j]? = some x → decide (x.id = r.id) = false) : pickW lu r = z := by
  unfold pickW
  have hk : k < lu.length := (List.getElem?_eq_some_iff.1 hz).1
  have hf : lu.find? (fun z => decide (z.id = r.id)) = some z := List.find?_eq_some_iff_getElem.2 ⟨he, k, hk, (List.getElem?_eq_some_iff.1 hz).2, fun j hj => by
    have := hl j lu[j] hj (List.getElem?_eq_getElem (by omega))
    simpa using this⟩
  rw [hf]; rfl
theorem pickW_mem {lu : List Rw} {r : Rw} : pickW lu r = r ∨ pickW lu r ∈ lu := by
  unfold pickW
  cases h : lu.find? fun z => decide (z.id = r.id) with
  | none => exact .inl rfl
  | some z => exact .inr (List.mem_of_find?_eq_some h)
theorem pickW_row (lu : List Rw) (r : Rw) : (pickW lu r).row = (r.id, (getR (lu.map Rw.row) r.id).getD r.vs) := by
  have hg : getR (lu.map Rw.row) r.id = (lu.find? fun z => decide (z.id = r.id)).map Rw.vs := by
    unfold getR
    have e : ((fun p : Row => p.1 == r.id) ∘ Rw.row) = fun z : Rw => decide (z.id = r.id) := by
      funext z
      show (z.id == r.id) = decide (z.id = r.id)
      by_cases h : z.id = r.id <;> simp [h]
    rw [List.find?_map, Option.map_map, e]
    rfl
  rw [hg]
  unfold pickW
  cases h : lu.find? fun z => decide (z.id = r.id) with
  | none => rfl
  | some z =>
    have := List.find?_some h
    have e : z.id = r.id := by simpa using this
    show (z.id, z.vs) = (r.id, z.vs)
    rw [e]
theorem leftW_row (nm : ByteArray) (nx : Int) (li : List Int) (d : List Row) (lu l : List Rw) : (leftW li lu l).map Rw.row = leftU ⟨nm, nx, li, d, lu.map Rw.row⟩ (l.map Rw.row) := by
  unfold leftW leftU
  rw [List.map_map, List.filter_map, List.map_map]
  have e1 : ((fun r : Row => !li.contains r.1) ∘ Rw.row) = fun r : Rw => !li.contains r.id := rfl
  rw [e1]
  apply List.map_congr_left
  intro r _
  exact pickW_row lu r
theorem leftW_mem {li : List Int} {lu l : List Rw} {r : Rw} (h : r ∈ leftW li lu l) : r ∈ l ∨ r ∈ lu := by
  obtain ⟨z, hz, rfl⟩ := List.mem_map.1 h
  rcases pickW_mem (lu := lu) (r := z) with h | h
  · rw [h]; exact .inl (List.mem_filter.1 hz).1
  · exact .inr h
/-- an entry that can be undone at rows l, and what comes of it -/
structure UndOk (l : List Rw) (li : List Int) (ld lu : List Rw) (rs : List Row) : Prop where
  nd : (li ++ lu.map Rw.id ++ ld.map Rw.id).Nodup
  inn : ∀ y ∈ li ++ lu.map Rw.id, (l.map Rw.id).contains y = true
  out : ∀ y ∈ ld.map Rw.id, (l.map Rw.id).contains y = false
  len : (leftW li lu l ++ ld).length ≤ 19
  fin : ∀ lo : List Rw, lo.Perm (leftW li lu l ++ ld) → (lo.map Rw.id).Pairwise (· ≤ ·) → lo.map Rw.row = rs
theorem undOk_of {u : Ue} {x : Te} {a : Tb} (h : StepU u.ud a x.tb) : UndOk x.l u.li u.ld u.lu a.rs := by
  have ha := h.asc_a
  have hb := h.asc_b
  have hr := h.rec_
  have i1 : u.li = (recD a x.tb).ins := congrArg Ud.ins hr
  have i2 : u.ld.map Rw.row = (recD a x.tb).del := congrArg Ud.del hr
  have i3 : u.lu.map Rw.row = (recD a x.tb).upd := congrArg Ud.upd hr
  have j2 : u.ld.map Rw.id = (recD a x.tb).del.map (·.1) := by rw [← i2, List.map_map]; rfl
  have j3 : u.lu.map Rw.id = (recD a x.tb).upd.map (·.1) := by rw [← i3, List.map_map]; rfl
  have jl : x.l.map Rw.id = x.tb.rs.map (·.1) := by show _ = (x.l.map Rw.row).map _; rw [List.map_map]; rfl
  have hrow : (leftW u.li u.lu x.l ++ u.ld).map Rw.row = leftU (recD a x.tb) x.tb.rs ++ (recD a x.tb).del := by
    rw [List.map_append, leftW_row u.nm u.nx u.li (u.ld.map Rw.row) u.lu x.l, i2]
    rw [show (⟨u.nm, u.nx, u.li, (recD a x.tb).del, u.lu.map Rw.row⟩ : Ud) = recD a x.tb from by rw [← i2]; exact hr]
    rfl
  refine ⟨?_, fun y hy => ?_, fun y hy => ?_, ?_, fun lo hp hs => ?_⟩
  · rw [i1, j2, j3]; exact rec_nodup ha hb
  · rw [i1, j3] at hy
    have := rec_in (a := a) (b := x.tb) y hy
    rw [jl]; simpa using this
  · rw [j2] at hy
    have := rec_out (a := a) (b := x.tb) y hy
    rw [jl]; simpa using this
  · have := congrArg List.length hrow
    rw [List.length_map] at this
    rw [this, rec_left_len ha hb]; exact h.la
  · refine rec_back ha hb ?_ ?_
    · rw [← hrow]; exact hp.map _
    · rw [List.map_map]; exact hs
end Go.Proofs.YtedogodccblfeaaGreatDoor

namespace Go.Proofs.YtedogodccblfeaaGreatDoor
open Go.RowKit
set_option linter.unusedVariables false
set_option linter.unusedSimpArgs false

theorem sametb_any (w : World) (x y : Te) (hx : TeIn x w) (hy : TeIn y w) (hn : x.n ≤ 4398046511104 ∧ x.m ≤ 4398046511104 ∧ ∀ q ∈ x.l, q.n ≤ 4398046511104) :
    Calls Tryz.prog 69 #[.agg #[.string x.nm, .slice x.A x.n x.c, .int .i64 x.nx, .slice x.B x.m x.d], .agg #[.string y.nm, .slice y.A y.n y.c, .int .i64 y.nx, .slice y.B y.m y.d]] w fun e w' => e = .returned (.bool (decide (x.tb = y.tb))) ∧ Below w.heap.size w w' :=
  sametable_any w x.nm x.A x.n x.c x.cs x.nx x.B x.m x.d x.l y.nm y.A y.n y.c y.cs y.nx y.B y.m y.d y.l hx.1 hy.1 hx.2 hy.2 hn.1 hn.2.1 hn.2.2
set_option maxHeartbeats 4000000 in
set_option maxRecDepth 100000 in
theorem eqTables_any (M : Nat → Prop) (w : World) (hM : ∀ b, M b → b < w.heap.size) (A : Option Addr) (n c : Nat) (xs : List Te) (B : Option Addr) (m d : Nat) (ys : List Te) (hD : Ro w M (TesIn A n xs)) (hE : Ro w M (TesIn B m ys)) (hn : n ≤ 4398046511204) (hr : ∀ r ∈ xs, r.n ≤ 4398046511104 ∧ r.m ≤ 4398046511104 ∧ ∀ q ∈ r.l, q.n ≤ 4398046511104) (hs : ∀ r ∈ ys, r.n ≤ 4398046511104 ∧ r.m ≤ 4398046511104 ∧ ∀ q ∈ r.l, q.n ≤ 4398046511104) :
    Calls Tryz.prog 68 #[.slice A n c, .slice B m d, .func (.func 69) #[] #[]] w fun e w' => e = .returned (.bool (decide (xs.map Te.tb = ys.map Te.tb))) ∧ Below w.heap.size w w' := by
  have HL := hid hD.now.len
  have HK := hid hE.now.len
  by_cases hnm : n = m
  · subst hnm
    have hb : ((n : Int) != (n : Int)) = false := by simp
    have K0 := ((Hold.start M w hM).add (hE.less (by simp [Mut]))).add (hD.less (by simp [Mut, Hp.foot]))
    clear hD hE
    go_enter Tryz.func68, Tryz.ntmps68
    go_wp2_with fail
    go_loopw [17] (fun i wr => ∃ (k : Nat), k ≤ n ∧ i = .int .i64 k ∧ Hid ((xs.map Te.tb).take k = (ys.map Te.tb).take k) ∧ Hold M none w wr [.ro (TesIn A n xs), .ro (TesIn B n ys)]) (fun i _ => n - (intOf i).toNat)
    case atStart => exact ⟨0, by omega, rfl, hid (by simp), K0⟩
    case round =>
      clear K0
      obtain ⟨k, hk, rfl, HTK, H⟩ := hrel
      by_cases hlt : k < n
      · have hd : decide ((k : Int) < (n : Int)) = true := by simp; omega
        have i0 : (0 : Int) ≤ (k : Int) := by omega
        have i1 : (k : Int) < (n : Int) := by omega
        obtain ⟨x, hx⟩ := get_of HL.out hlt
        obtain ⟨y, hy⟩ := get_of HK.out hlt
        have HXN := hid (hr x (List.mem_of_getElem? hx))
        have HYN := hid (hs y (List.mem_of_getElem? hy))
        have HX := hid (show (xs.map Te.tb)[k]? = some (Te.tb x) by simp [hx])
        have HY := hid (show (ys.map Te.tb)[k]? = some (Te.tb y) by simp [hy])
        have HXM := hid (List.mem_of_getElem? hx)
        have HYM := hid (List.mem_of_getElem? hy)
        obtain ⟨g, o, rfl, hbx, x0, x1, x2, x3, -⟩ := (H.ro 0 rfl).now.at_ hx
        obtain ⟨g', o', rfl, hby, y0, y1, y2, y3, -⟩ := (H.ro 1 rfl).now.at_ hy
        have K2 := (H.alloc_cst #[.string x.nm, .slice x.A x.n x.c, .int .i64 x.nx, .slice x.B x.m x.d] 58).alloc_cst #[.string y.nm, .slice y.A y.n y.c, .int .i64 y.nx, .slice y.B y.m y.d] 58
        clear hx hy H
        have FA := K2.facts
        simp only [World.size_alloc, World.size_drew, factsL, cellsF, Nat.reduceAdd, List.toList_toArray, List.set_cons_zero, List.set_cons_succ, List.setIfInBounds_toArray, and_true, true_and] at FA
        go_wp2_with fail
        refine (sametb_any _ x y ((K2.ro 2 rfl).now.2 x HXM.out) ((K2.ro 3 rfl).now.2 y HYM.out) HXN.out).mono ?_
        rintro e w3 ⟨rfl, b3⟩
        have K3 := (K2.call b3).drop (List.Sublist.cons _ (List.sublist_cons_self _ _))
        clear K2 FA b3
        by_cases hb : Te.tb x = Te.tb y
        · have HB := hid (takeEq_succ HX.out HY.out HTK.out hb)
          rw [decide_eq_true hb]
          clear hb
          go_wp2_with fail
          go_roundw
          case rel => exact ⟨k + 1, by omega, by go_num, HB, K3⟩
          case measure => simp [intOf]; omega
        · have HB := hid (beqL_no HX.out HY.out hb)
          rw [decide_eq_false hb]
          clear hb
          go_wp2_with fail
          go_ret
          exact ⟨by rw [HB.out] <;> rfl, K3.below⟩
      · obtain rfl : n = k := by omega
        have hd : decide ((n : Int) < (n : Int)) = false := by simp
        have HB := hid (show decide (xs.map Te.tb = ys.map Te.tb) = true by
          have h := HTK.out
          rw [List.take_of_length_le (by rw [List.length_map, HL.out]; exact Nat.le_refl _), List.take_of_length_le (by rw [List.length_map, HK.out]; exact Nat.le_refl _)] at h
          simp [h])
        go_wp2_with fail
        go_ret
        exact ⟨by rw [HB.out] <;> rfl, H.below⟩
  · have hb : ((n : Int) != (m : Int)) = true := by simp; omega
    have HB := hid (show decide (xs.map Te.tb = ys.map Te.tb) = false by
      rw [decide_eq_false_iff_not]; intro h; have h1 := congrArg List.length h; rw [List.length_map, List.length_map, HL.out, HK.out] at h1; exact hnm h1)
    go_enter Tryz.func68, Tryz.ntmps68
    go_wp2_with fail
    go_ret
    exact ⟨by rw [HB.out] <;> rfl, Below.refl _ _⟩
theorem sameTables_any (M : Nat → Prop) (w : World) (hM : ∀ b, M b → b < w.heap.size) (A : Option Addr) (n c : Nat) (xs : List Te) (B : Option Addr) (m d : Nat) (ys : List Te) (hD : Ro w M (TesIn A n xs)) (hE : Ro w M (TesIn B m ys)) (hn : n ≤ 4398046511204) (hr : ∀ r ∈ xs, r.n ≤ 4398046511104 ∧ r.m ≤ 4398046511104 ∧ ∀ q ∈ r.l, q.n ≤ 4398046511104) (hs : ∀ r ∈ ys, r.n ≤ 4398046511104 ∧ r.m ≤ 4398046511104 ∧ ∀ q ∈ r.l, q.n ≤ 4398046511104) :
    Calls Tryz.prog 21 #[.slice A n c, .slice B m d] w fun e w' => e = .returned (.bool (decide (xs.map Te.tb = ys.map Te.tb))) ∧ Below w.heap.size w w' := by
  have HE := hid (eqTables_any M w hM A n c xs B m d ys hD hE hn hr hs)
  clear hD hE hr hs
  go_enter Tryz.func21, Tryz.ntmps21
  go_wp2_with fail
  refine HE.out.mono ?_
  rintro e w1 ⟨rfl, b1⟩
  have HB := hid b1
  clear b1 HE
  go_wp2_with fail
  go_ret
  exact ⟨rfl, HB.out⟩
/-- the place of the first table with a name -/
def findS (l : List Tb) (s : ByteArray) : Int := findB (fun t => t.nm.toList == s.toList) l
set_option maxHeartbeats 2000000 in
theorem stfind1_any (w : World) (x : Te) (b : Nat) (s : ByteArray) (t : TypeId) (hb : w.heap[b]? = some (.cells #[.string s] t (0, 0))) :
    Calls Tryz.prog 89 #[.agg #[.string x.nm, .slice x.A x.n x.c, .int .i64 x.nx, .slice x.B x.m x.d], .pointer (some ⟨b, 0, none⟩)] w fun e w' => e = .returned (.bool (x.nm.toList == s.toList)) ∧ Below w.heap.size w w' := by
  have hbl : b < w.heap.size := Blk.lt (t := t) (cs := #[.string s]) hb
  have K0 := ((Hold.begin_ w).addCst (g := b) (t := t) (cs := #[.string s]) (fun w2 h1 h2 => (h2 b hbl (by simp [Mut, None_])).trans hb)).alloc_cst #[.string x.nm, .slice x.A x.n x.c, .int .i64 x.nx, .slice x.B x.m x.d] 58
  have F0 := K0.facts
  simp only [World.size_alloc, World.size_drew, factsL, cellsF, Nat.reduceAdd, List.toList_toArray, List.set_cons_zero, List.set_cons_succ, List.setIfInBounds_toArray, and_true, true_and] at F0
  go_enter Tryz.func89, Tryz.ntmps89
  go_wp2_with fail
  go_ret
  exact ⟨rfl, K0.below⟩
set_option maxHeartbeats 2000000 in
set_option maxRecDepth 100000 in
theorem stfindI_any (M : Nat → Prop) (w : World) (hM : ∀ b, M b → b < w.heap.size) (A : Option Addr) (n c : Nat) (l : List Te) (b : Nat) (s : ByteArray) (t : TypeId) (hB : Ro w M (fun w => w.heap[b]? = some (.cells #[.string s] t (0, 0)))) (hD : Ro w M (TesIn A n l)) (hn : n ≤ 4611686018427387904) :
    Calls Tryz.prog 88 #[.slice A n c, .func (.func 89) #[] #[.pointer (some ⟨b, 0, none⟩)]] w fun e w' => e = .returned (.int .i64 (findS (l.map Te.tb) s)) ∧ Below w.heap.size w w' := by
  have HL := hid hD.now.len
  have K0 := (((Hold.start M w hM).add (hB.less (by simp [Mut]))).add (hD.less (by simp [Mut, Hp.foot])))
  go_enter Tryz.func88, Tryz.ntmps88
  go_wp2_with fail
  go_loopw [8] (fun iv wr => ∃ (k : Nat), k ≤ n ∧ iv = .int .i64 k ∧ Hid (findS (l.map Te.tb) s = findFrom (fun t => t.nm.toList == s.toList) k ((l.map Te.tb).drop k)) ∧ Hold M none w wr [.ro (TesIn A n l), .ro (fun w => w.heap[b]? = some (.cells #[.string s] t (0, 0)))]) (fun iv _ => n - (intOf iv).toNat)
  case atStart => exact ⟨0, by omega, rfl, hid rfl, K0⟩
  case round =>
    clear K0
    obtain ⟨k, hk, rfl, HC, H⟩ := hrel
    by_cases hlt : k < n
    · have hd : decide ((k : Int) < (n : Int)) = true := by simp; omega
      have i0 : (0 : Int) ≤ (k : Int) := by omega
      have i1 : (k : Int) < (n : Int) := by omega
      obtain ⟨x, hx⟩ := get_of HL.out hlt
      obtain ⟨g, o, rfl, hb, c0, c1, c2, c3, -⟩ := (H.ro 0 rfl).now.at_ hx
      have HX := hid (te_at hx)
      clear hx
      go_wp2_with fail
      refine (stfind1_any wr x b s t (H.ro 1 rfl).now).mono ?_
      rintro e w1 ⟨rfl, b1⟩
      have K1 := H.call b1
      clear H b1
      cases hz : (x.nm.toList == s.toList)
      · have HN := hid (find_miss HC.out HX.out hz)
        clear hz
        go_wp2_with fail
        go_roundw
        case rel => exact ⟨k + 1, by omega, by go_num, HN, K1⟩
        case measure => simp [intOf]; omega
      · have HN := hid (show findS (l.map Te.tb) s = (k : Int) from find_hit HC.out HX.out hz)
        clear hz
        go_wp2_with fail
        go_ret
        exact ⟨by rw [HN.out] <;> rfl, K1.below⟩
    · obtain rfl : n = k := by omega
      have hd : decide ((n : Int) < (n : Int)) = false := by simp
      have HN := hid (show findS (l.map Te.tb) s = -1 from find_end HC.out (by rw [List.length_map, HL.out]; exact Nat.le_refl _))
      go_wp2_with fail
      go_ret
      exact ⟨by rw [HN.out] <;> rfl, H.below⟩
set_option maxHeartbeats 2000000 in
theorem stfind_any (M : Nat → Prop) (w : World) (hM : ∀ b, M b → b < w.heap.size) (A : Option Addr) (n c : Nat) (l : List Te) (s : ByteArray) (hD : Ro w M (TesIn A n l)) (hn : n ≤ 4611686018427387904) :
    Calls Tryz.prog 35 #[.slice A n c, .string s] w fun e w' => e = .returned (.int .i64 (findS (l.map Te.tb) s)) ∧ Below w.heap.size w w' := by
  have K0 := ((Hold.start M w hM).add (hD.less (by simp [Mut]))).alloc_cst #[.string s] 9
  clear hD
  go_enter Tryz.func35, Tryz.ntmps35
  go_wp2_with fail
  refine (stfindI_any _ _ K0.mutLt A n c l w.heap.size s 9 (K0.get 0 rfl) (K0.ro 1 rfl) hn).mono ?_
  rintro e w1 ⟨rfl, b1⟩
  have K1 := K0.call b1
  clear K0 b1
  go_wp2_with fail
  go_ret
  exact ⟨rfl, K1.below⟩
set_option maxHeartbeats 2000000 in
set_option maxRecDepth 100000 in
theorem rstfind_any (M : Nat → Prop) (w : World) (hM : ∀ b, M b → b < w.heap.size) (A : Option Addr) (n c : Nat) (l : List Te) (s : ByteArray) (hD : Ro w M (TesIn A n l)) (hn : n ≤ 4611686018427387904) :
    Calls Tryz.prog 36 #[.slice A n c, .string s] w fun e w' => e = .returned (.int .i64 (findS (l.map Te.tb) s)) ∧ Below w.heap.size w w' := by
  have HL := hid hD.now.len
  have K0 := (Hold.start M w hM).add (hD.less (by simp [Mut]))
  clear hD
  go_enter Tryz.func36, Tryz.ntmps36
  go_wp2_with fail
  go_loopw [9] (fun iv wr => ∃ (k : Nat), k ≤ n ∧ iv = .int .i64 k ∧ Hid (findS (l.map Te.tb) s = findFrom (fun t => t.nm.toList == s.toList) k ((l.map Te.tb).drop k)) ∧ Hold M none w wr [.ro (TesIn A n l)]) (fun iv _ => n - (intOf iv).toNat)
  case atStart => exact ⟨0, by omega, rfl, hid rfl, K0⟩
  case round =>
    clear K0
    obtain ⟨k, hk, rfl, HC, H⟩ := hrel
    by_cases hlt : k < n
    · have hd : decide ((k : Int) < (n : Int)) = true := by simp; omega
      have i0 : (0 : Int) ≤ (k : Int) := by omega
      have i1 : (k : Int) < (n : Int) := by omega
      obtain ⟨x, hx⟩ := get_of HL.out hlt
      obtain ⟨g, o, rfl, hb, c0, c1, c2, c3, -⟩ := (H.ro 0 rfl).now.at_ hx
      have HX := hid (te_at hx)
      clear hx
      have K1 := H.alloc_cst #[.string x.nm, .slice x.A x.n x.c, .int .i64 x.nx, .slice x.B x.m x.d] 58
      have FA := K1.facts
      simp only [World.size_alloc, World.size_drew, factsL, cellsF, Nat.reduceAdd, List.toList_toArray, List.set_cons_zero, List.set_cons_succ, List.setIfInBounds_toArray, and_true, true_and] at FA
      clear H
      cases hz : (x.nm.toList == s.toList)
      · have HN := hid (find_miss HC.out HX.out hz)
        go_wp2_with fail
        go_roundw
        case rel => exact ⟨k + 1, by omega, by go_num, HN, K1.drop (List.sublist_cons_self _ _)⟩
        case measure => simp [intOf]; omega
      · have HN := hid (show findS (l.map Te.tb) s = (k : Int) from find_hit HC.out HX.out hz)
        go_wp2_with fail
        go_ret
        exact ⟨by rw [HN.out] <;> rfl, K1.below⟩
    · obtain rfl : n = k := by omega
      have hd : decide ((n : Int) < (n : Int)) = false := by simp
      have HN := hid (show findS (l.map Te.tb) s = -1 from find_end HC.out (by rw [List.length_map, HL.out]; exact Nat.le_refl _))
      go_wp2_with fail
      go_ret
      exact ⟨by rw [HN.out] <;> rfl, H.below⟩
end Go.Proofs.YtedogodccblfeaaGreatDoor

namespace Go.Proofs.YtedogodccblfeaaGreatDoor
open Go.RowKit
set_option linter.unusedVariables false
set_option linter.unusedSimpArgs false

theorem VTab.lim {x : Te} {w : World} (ho : x.ok) (hw : TeIn x w) (h : VTab x.tb) : x.n ≤ 100 ∧ x.m ≤ 100 ∧ ∀ r ∈ x.l, r.ok ∧ r.n ≤ 4 := by
  have h1 := h.sch.len
  have h2 := h.rows
  have l1 : x.cs.length = x.n := (RdC.of_sl hw.1).len
  have l2 : x.l.length = x.m := hw.2.len
  have e1 : x.tb.cs = x.cs := rfl
  have e2 : x.tb.rs = x.l.map Rw.row := rfl
  rw [e1] at h1
  rw [e2, List.length_map] at h2
  refine ⟨by omega, by omega, fun r hr => ⟨ho.l r hr, ?_⟩⟩
  have h3 := h.len r.row (by rw [e2]; exact List.mem_map_of_mem hr)
  have h4 : r.vs.length = r.n := (hw.2.2 r hr).len
  have h5 : r.row.2 = r.vs := rfl
  rw [h5] at h3; omega
theorem VTab.tbm {t : Tb} (h : VTab t) : TbM t :=
  ⟨h.sch.nm, h.sch.cs, by have := h.rows; omega, fun r hr => by have := h.len r hr; omega⟩
theorem VTab.ids {x : Te} (h : VTab x.tb) : ∀ r ∈ x.l, r.id ≠ 0 := fun r hr => by
  have h9 := ((okR_asc (tabB_ok h.val).2.2.2.2.1).2 r.row (List.mem_map_of_mem hr)).1
  have h10 : r.row.1 = r.id := rfl
  rw [h10] at h9; omega
theorem te_apart {w : World} {Q : Nat → Prop} {x : Te} (h : Ro w Q (TeIn x)) (hv : VTab x.tb) {ga : Nat} {t : TypeId} (hg : w.heap[ga]? = some (.cells zeroTc t (0, 0))) : Ro w (fun b => b = ga ∨ Q b) (TeIn x) :=
  (((h.imp fun w h => h.1).colsOff hg).less fun b hb => hb.elim .inr .inl).and (rws_apart (h.imp fun w h => h.2) hg hv.ids)
theorem uesIn_take {w : World} {b o n : Nat} {l : List Ue} (h : UesIn (some ⟨b, o, none⟩) n l w) {k : Nat} (hk : k ≤ n) : UesIn (some ⟨b, o, none⟩) k (l.take k) w := by
  have hl := h.len
  refine ⟨?_, fun x hx => h.2 x (List.mem_of_mem_take hx)⟩
  have h1 : Rd w w.heap.size 5 (some ⟨b, o, none⟩) n (ueCells l) := h.1
  refine ⟨by rw [ueCells_len, List.length_take, Nat.min_eq_left (by omega)], fun h0 => ?_⟩
  obtain ⟨b', o', e, hb, hc⟩ := h1.2 (by omega)
  refine ⟨b', o', e, hb, fun j u hu => hc j u ?_⟩
  have e2 : ueCells l = ueCells (l.take k) ++ ueCells (l.drop k) := by
    unfold ueCells; rw [← List.flatMap_append, List.take_append_drop]
  rw [e2, List.getElem?_append_left (List.getElem?_eq_some_iff.1 hu).1]
  exact hu
theorem back_next {lg : List Ue} {to r : Nat} {u : Ue} (h : lg[to + r]? = some u) : ((lg.drop to).take (r + 1)).reverse.map Ue.ud = u.ud :: ((lg.drop to).take r).reverse.map Ue.ud := by
  rw [List.take_add_one, List.getElem?_drop, h]; simp
end Go.Proofs.YtedogodccblfeaaGreatDoor

namespace Go.Proofs.YtedogodccblfeaaGreatDoor
open Go.RowKit
set_option linter.unusedVariables false
set_option linter.unusedSimpArgs false

/-- a store of log, t and u -/
structure StOk (S : List Tb) : Prop where
  len : S.length = 3
  at_ : ∀ (j : Nat) (t : Tb), S[j]? = some t → t.nm = nm3 j ∧ t.cs = cs3 j ∧ VTab t
theorem Sto3.st {N : Nat} {l : List Te} (h : Sto3 N 3 l) : StOk (l.map Te.tb) := by
  refine ⟨by rw [List.length_map, h.len], fun j t ht => ?_⟩
  rw [List.getElem?_map] at ht
  cases hx : l[j]? with
  | none => rw [hx] at ht; cases ht
  | some x =>
    rw [hx] at ht
    obtain rfl : x.tb = t := by simpa using ht
    exact ⟨(h.at_ j x hx).1, (h.at_ j x hx).2, (h.ok x (List.mem_of_getElem? hx)).2.1⟩
theorem StOk.set {S : List Tb} (h : StOk S) {k : Nat} {a x : Tb} (hk : S[k]? = some a) (hn : x.nm = a.nm) (hc : x.cs = a.cs) (hv : VTab x) : StOk (S.set k x) := by
  refine ⟨by rw [List.length_set, h.len], fun j t ht => ?_⟩
  rw [List.getElem?_set] at ht
  split at ht
  · rename_i hj
    subst hj
    split at ht
    · injection ht with ht
      subst ht
      exact ⟨hn.trans (h.at_ k a hk).1, hc.trans (h.at_ k a hk).2.1, hv⟩
    · cases ht
  · exact h.at_ j t ht
theorem less3 : Op.bytesLess (nm3 0).toList (nm3 1).toList = true ∧ Op.bytesLess (nm3 1).toList (nm3 2).toList = true := by decide +kernel
theorem StOk.stor {S : List Tb} (h : StOk S) : storB S = true := by
  refine storB_end h.len (by omega) ?_
  have g : ∀ j, j < 3 → ∃ t, S[j]? = some t := fun j hj => ⟨S[j]'(by rw [h.len]; exact hj), List.getElem?_eq_getElem _⟩
  obtain ⟨a, ha⟩ := g 0 (by omega)
  obtain ⟨b, hb⟩ := g 1 (by omega)
  obtain ⟨c, hc⟩ := g 2 (by omega)
  refine range_next (range_next (range_next rfl (stoOk_zero ha (h.at_ 0 a ha).2.2.val)) ?_) ?_
  · rw [stoOk_next hb ha (h.at_ 1 b hb).2.2.val, (h.at_ 0 a ha).1, (h.at_ 1 b hb).1]; exact less3.1
  · rw [stoOk_next hc hb (h.at_ 2 c hc).2.2.val, (h.at_ 1 b hb).1, (h.at_ 2 c hc).1]; exact less3.2
theorem StOk.find {S : List Tb} (h : StOk S) {k : Nat} {t : Tb} (hk : S[k]? = some t) : findT S t.nm = (k : Int) := by
  refine findT_at ?_ hk
  have hl := h.len
  match S, hl, h with
  | [a, b, c], _, h =>
    have ha := (h.at_ 0 a rfl).1
    have hb := (h.at_ 1 b rfl).1
    have hc := (h.at_ 2 c rfl).1
    simp only [List.map_cons, List.map_nil, ha, hb, hc]
    decide +kernel
end Go.Proofs.YtedogodccblfeaaGreatDoor

namespace Go.Proofs.YtedogodccblfeaaGreatDoor
open Go.RowKit
set_option linter.unusedVariables false
set_option linter.unusedSimpArgs false

/-- a table within the limits of the spoiled ones -/
def TbL (t : Tb) : Prop := t.nm.size ≤ maxLen ∧ (∀ x ∈ t.cs, x.name.size ≤ maxLen) ∧ t.cs.length ≤ 1001 ∧ t.rs.length ≤ 1000 ∧ ∀ r ∈ t.rs, r.2.length ≤ 1000
theorem TbL.tbm {t : Tb} (h : TbL t) : TbM t := ⟨h.1, h.2.1, by have := h.2.2.2.1; omega, fun r hr => by have := h.2.2.2.2 r hr; omega⟩
theorem VTab.tbl {t : Tb} (h : VTab t) : TbL t := ⟨h.tbm.nm, h.tbm.cs, by have := tabB_cols h.val; omega, by have := h.rows; omega, fun r hr => by have := h.len r hr; omega⟩
def Spo9 (w : World) (T : Nat) (M : Nat → Prop) (e : Ending) (w' : World) : Prop := ∃ (A : Option Addr) (n c : Nat) (l : List Te), e = .returned (.slice A n c) ∧ n ≤ c ∧ c ≤ 9223372036854775807 ∧ 3 ≤ n ∧ n ≤ 4 ∧ (∀ x ∈ l, x.ok ∧ TbL x.tb) ∧ Ro w' M (TesIn A n l) ∧ Tp w' T ∧ w.grownBy w' (some T)
set_option maxHeartbeats 16000000 in
set_option maxRecDepth 100000 in
theorem sspoil9_any (M : Nat → Prop) (T : Nat) (w : World) (hM : ∀ b, M b → b < w.heap.size) (ht : Tp w T) (hMT : ∀ b, M b → T ≤ b) (A : Option Addr) (c : Nat) (l : List Te) (hc : 3 ≤ c) (hc2 : c ≤ 9223372036854775807) (hl : Ro w (Mut M [.tp T]) (TesIn A 3 l)) (hok : ∀ x ∈ l, x.ok ∧ VTab x.tb) (hW : Ro w (Mut M [.tp T]) Wds) (hw : 2 < T) :
    Calls Tryz.prog 26 #[.pointer (some ⟨T, 0, none⟩), .slice A 3 c] w fun e w' => Spo9 w T M e w' := by
  have HOK := hid hok
  have HL := hid hl.now.len
  have K0 := ((Hold.startT M w T hM ht hMT).add hW).add (hl.less (by simp [Mut, Hp.foot]))
  have K1 := K0.alloc_own #[] 58 4 0 (by unfold maxLen; omega) rfl
  have hr := hid (show SlR 4 A 3 (teCells l) _ from (K1.ro 1 rfl).now.1)
  clear hok hl hW K0
  go_enter Tryz.func26, Tryz.ntmps26
  go_wp2_with (at_builtin; go_must (refine wpList_appAllH K1 0 rfl Tryz.elTe hr.out rfl (.tmp 7) (.tmp 8) rfl rfl rfl (one_tes l) (by omega) (by omega) ?_); intro C' cap' w2 hc1 hm1 K2; simp only [Nat.zero_add, List.nil_append, List.set_cons_zero] at K2)
  obtain ⟨g, rfl⟩ : ∃ g, C' = some ⟨g, 0, none⟩ := by
    rcases own_addr (K2.get 0 rfl) with ⟨-, h0, -⟩ | ⟨g, h, -⟩
    · omega
    · exact ⟨g, h⟩
  refine (next_any T 3 _ (K2.tp_ 3 rfl) (by omega) (by omega)).mono ?_
  rintro e w3 ⟨k, rfl, k0, k1, t3, g3⟩
  have K3 := Hold.callT K2 3 rfl g3 t3
  obtain ⟨k, rfl⟩ := Int.eq_ofNat_of_zero_le k0
  have hk : k < 3 := by omega
  obtain ⟨x, hx⟩ := get_of HL.out hk
  obtain ⟨x0, hx0⟩ := get_of HL.out (show 0 < 3 by omega)
  have HXK := hid hx
  have HX0 := hid hx0
  have HXO := hid (HOK.out x (List.mem_of_getElem? hx))
  clear K1 K2 t3 g3 hx hx0 hr
  go_wp2_with fail
  refine (next_any T 3 _ (K3.tp_ 3 rfl) (by omega) (by omega)).mono ?_
  rintro e w4 ⟨j, rfl, j0, j1, t4, g4⟩
  have K4 := Hold.callT K3 3 rfl g4 t4
  clear K3 t4 g4
  have ho := K4.get 0 rfl
  have q0 : _ = some (Value.string x.nm) := (ho.cellAt (k * 4) (by omega)).trans (flat_get Te.cells 4 (fun _ => rfl) l k 0 x (by omega) HXK.out)
  have q1 : _ = some (Value.slice x.A x.n x.c) := (ho.cellAt (k * 4 + 1) (by omega)).trans (flat_get Te.cells 4 (fun _ => rfl) l k 1 x (by omega) HXK.out)
  have q2 : _ = some (Value.int .i64 x.nx) := (ho.cellAt (k * 4 + 2) (by omega)).trans (flat_get Te.cells 4 (fun _ => rfl) l k 2 x (by omega) HXK.out)
  have q3 : _ = some (Value.slice x.B x.m x.d) := (ho.cellAt (k * 4 + 3) (by omega)).trans (flat_get Te.cells 4 (fun _ => rfl) l k 3 x (by omega) HXK.out)
  have gl0 := (ho.lt g rfl).2
  clear ho
  obtain rfl | rfl | rfl : j = 0 ∨ j = 1 ∨ j = 2 := by omega
  · go_wp2_with fail
    refine (tspoil_slot (Mut M _) T _ K4.mutLt (K4.tp_ 3 rfl) (K4.get 3 rfl).2 (.agg #[.string x.nm, .slice x.A x.n x.c, .int .i64 x.nx, .slice x.B x.m x.d]) x.tb (tbAt_less (te_tb HXO.out.1 ((K4.ro 1 rfl).imp fun w2 h2 => h2.2 x (List.mem_of_getElem? HXK.out))) (mut_tp (i := 3) rfl)) HXO.out.2 ((K4.ro 2 rfl).less (mut_tp (i := 3) rfl)) hw).mono ?_
    rintro e w5 ⟨v5, t5, rfl, TT, hlm, tp5, g5⟩
    obtain ⟨y, rfl, rfl, hyo, ry⟩ := tb_te TT
    have hyv : y.val = .agg #[.string y.nm, .slice y.A y.n y.c, .int .i64 y.nx, .slice y.B y.m y.d] := rfl
    rw [hyv]
    clear hyv
    have HY := hid (And.intro hyo hlm)
    have K5 := (Hold.callT K4 3 rfl g5 tp5).add ry
    clear K4 g5 tp5 ry hyo hlm TT q0 q1 q2 q3 gl0
    have ho := K5.get 1 rfl
    have pq0 : _ = some (Value.string x.nm) := (ho.cellAt (k * 4) (by omega)).trans (flat_get Te.cells 4 (fun _ => rfl) l k 0 x (by omega) HXK.out)
    have pq1 : _ = some (Value.slice x.A x.n x.c) := (ho.cellAt (k * 4 + 1) (by omega)).trans (flat_get Te.cells 4 (fun _ => rfl) l k 1 x (by omega) HXK.out)
    have pq2 : _ = some (Value.int .i64 x.nx) := (ho.cellAt (k * 4 + 2) (by omega)).trans (flat_get Te.cells 4 (fun _ => rfl) l k 2 x (by omega) HXK.out)
    have pq3 : _ = some (Value.slice x.B x.m x.d) := (ho.cellAt (k * 4 + 3) (by omega)).trans (flat_get Te.cells 4 (fun _ => rfl) l k 3 x (by omega) HXK.out)
    have pz0 := ho.frozenAt (k * 4)
    have pz1 := ho.frozenAt (k * 4 + 1)
    have pz2 := ho.frozenAt (k * 4 + 2)
    have pz3 := ho.frozenAt (k * 4 + 3)
    have pgl := (ho.lt g rfl).2
    clear ho
    have pKA1 := K5.put_ 1 rfl (k * 4) (.string y.nm)
    have pKA2 := pKA1.put_ 1 rfl (k * 4 + 1) (.slice y.A y.n y.c)
    have pKA3 := pKA2.put_ 1 rfl (k * 4 + 2) (.int .i64 y.nx)
    have K6 := pKA3.put_ 1 rfl (k * 4 + 3) (.slice y.B y.m y.d)
    simp only [List.set_cons_zero, List.set_cons_succ, List.setIfInBounds_toArray] at pKA1
    simp only [List.set_cons_zero, List.set_cons_succ, List.setIfInBounds_toArray] at pKA2
    simp only [List.set_cons_zero, List.set_cons_succ, List.setIfInBounds_toArray] at pKA3
    simp only [List.set_cons_zero, List.set_cons_succ, List.setIfInBounds_toArray] at K6
    have pe1 : _ = some (Value.slice x.A x.n x.c) := ((pKA1.get 1 rfl).cellAt (k * 4 + 1) (by omega)).trans ((List.getElem?_set_ne (by omega)).trans (flat_get Te.cells 4 (fun _ => rfl) l k 1 x (by omega) HXK.out))
    have pe2 : _ = some (Value.int .i64 x.nx) := ((pKA2.get 1 rfl).cellAt (k * 4 + 2) (by omega)).trans ((List.getElem?_set_ne (by omega)).trans ((List.getElem?_set_ne (by omega)).trans (flat_get Te.cells 4 (fun _ => rfl) l k 2 x (by omega) HXK.out)))
    have pe3 : _ = some (Value.slice x.B x.m x.d) := ((pKA3.get 1 rfl).cellAt (k * 4 + 3) (by omega)).trans ((List.getElem?_set_ne (by omega)).trans ((List.getElem?_set_ne (by omega)).trans ((List.getElem?_set_ne (by omega)).trans (flat_get Te.cells 4 (fun _ => rfl) l k 3 x (by omega) HXK.out))))
    have py1 := (pKA1.get 1 rfl).frozenAt (k * 4 + 1)
    have py2 := (pKA2.get 1 rfl).frozenAt (k * 4 + 2)
    have py3 := (pKA3.get 1 rfl).frozenAt (k * 4 + 3)
    clear pKA1 pKA2 pKA3
    rw [teCells_set y HXK.out] at K6
    have K7 := K6.add (teVals_set (k := k) ((K6.ro 2 rfl).imp fun w2 h2 => h2.2) (K6.ro 0 rfl))
    clear K6
    go_wp2_with fail
    iterate 4 (try simp only [Result.andThen_ok, pe1, py1, pe2, py2, pe3, py3, Bool.false_eq_true, if_false])
    go_wp2_with fail
    clear pq0 pq1 pq2 pq3 pz0 pz1 pz2 pz3 pgl pe1 py1 pe2 py2 pe3 py3
    have hcap := own_caps (K7.get 2 rfl)
    have KS := K7.sealRow 2 rfl
    simp only [List.set_cons_zero, List.set_cons_succ, List.setIfInBounds_toArray] at KS
    have rT := (KS.roOut 2 rfl).and (KS.roOut 0 rfl)
    have ht9 := KS.tp_ 5 rfl
    have hgr := KS.grow
    have HCAP := hid hcap
    clear hcap K7 KS
    go_wp2_with fail
    (try simp only [Exit.inBlock, Exit.then])
    refine bodyPost_ret (v := .slice (some ⟨g, 0, none⟩) 3 cap') (by simp [results, Tryz.results26, go_sem]) rfl ?_
    exact ⟨some ⟨g, 0, none⟩, 3, cap', l.set k y, rfl, HCAP.out.1, HCAP.out.2.1, by omega, by omega, fun z hz => (List.mem_or_eq_of_mem_set hz).elim (fun h => ⟨(HOK.out z h).1, (HOK.out z h).2.tbl⟩) (fun h => h ▸ ⟨HY.out.1, HY.out.2⟩), rT, ht9, hgr⟩
  · have e9 : teCells l ++ (#[.string x.nm, .slice x.A x.n x.c, .int .i64 x.nx, .slice x.B x.m x.d]).toList = teCells (l ++ [x]) := (teCells_snoc l x).symm
    have HE9 := hid e9
    clear e9
    go_wp2_with (at_builtin; go_must (refine wpList_appH K4 0 rfl Tryz.elTe #[.string x.nm, .slice x.A x.n x.c, .int .i64 x.nx, .slice x.B x.m x.d] rfl (.tmp 41) (.tmp 46) rfl rfl _ (by first | rfl | simp) rfl rfl (by intro u hu; simp at hu; rcases hu with rfl | rfl | rfl | rfl <;> rfl) (by omega) (by omega) ?_); intro g9 cap9 w9 hc9 hm9 KB; rw [HE9.out] at KB; simp only [List.set_cons_zero, List.set_cons_succ] at KB; (have hcap := own_caps (KB.get 0 rfl)); (have KS := KB.sealRow 0 rfl); (simp only [List.set_cons_zero, List.set_cons_succ, List.setIfInBounds_toArray] at KS); (have rT := (KS.roOut 0 rfl).and ((KS.roOut 1 rfl).imp fun w2 h2 => (show ∀ z ∈ l ++ [x], TeIn z w2 from fun z hz => (List.mem_append.1 hz).elim (h2.2 z) (fun h => by simp at h; subst h; exact h2.2 _ (List.mem_of_getElem? HXK.out))))); (have ht9 := KS.tp_ 3 rfl); (have hgr := KS.grow); (have HCAP := hid hcap); clear hcap KS KB)
    (try simp only [Exit.inBlock, Exit.then])
    refine bodyPost_ret (v := .slice (some ⟨g9, 0, none⟩) (3 + 1) cap9) (by simp [results, Tryz.results26, go_sem]) rfl ?_
    exact ⟨some ⟨g9, 0, none⟩, 3 + 1, cap9, l ++ [x], rfl, HCAP.out.1, HCAP.out.2.1, by omega, by omega, fun z hz => (List.mem_append.1 hz).elim (fun h => ⟨(HOK.out z h).1, (HOK.out z h).2.tbl⟩) (fun h => by simp at h; subst h; exact ⟨HXO.out.1, HXO.out.2.tbl⟩), rT, ht9, hgr⟩
  · go_wp2_with fail
    obtain ⟨KL, hKL, KN⟩ := K4.name
    have HF : Hid (∀ wv, Hold M (some T) w wv KL → (wv.cell? ⟨g, k * 4, none⟩ = some (.string x.nm) ∧ wv.cell? ⟨g, k * 4 + 1, none⟩ = some (.slice x.A x.n x.c) ∧ wv.cell? ⟨g, k * 4 + 2, none⟩ = some (.int .i64 x.nx) ∧ wv.cell? ⟨g, k * 4 + 3, none⟩ = some (.slice x.B x.m x.d)) ∧ wv.cell? ⟨g, 0, none⟩ = some (.string x0.nm) ∧ wv.cell? ⟨g, 1, none⟩ = some (.slice x0.A x0.n x0.c) ∧ wv.cell? ⟨g, 2, none⟩ = some (.int .i64 x0.nx) ∧ wv.cell? ⟨g, 3, none⟩ = some (.slice x0.B x0.m x0.d) ∧ g < wv.heap.size) := hid fun wv HC => by
      rw [hKL] at HC
      have ho := HC.get 0 rfl
      exact ⟨⟨(ho.cellAt _ (by omega)).trans (flat_get Te.cells 4 (fun _ => rfl) l k 0 x (by omega) HXK.out), (ho.cellAt _ (by omega)).trans (flat_get Te.cells 4 (fun _ => rfl) l k 1 x (by omega) HXK.out), (ho.cellAt _ (by omega)).trans (flat_get Te.cells 4 (fun _ => rfl) l k 2 x (by omega) HXK.out), (ho.cellAt _ (by omega)).trans (flat_get Te.cells 4 (fun _ => rfl) l k 3 x (by omega) HXK.out)⟩, (ho.cellAt 0 (by omega)).trans (flat_get Te.cells 4 (fun _ => rfl) l 0 0 x0 (by omega) HX0.out), (ho.cellAt 1 (by omega)).trans (flat_get Te.cells 4 (fun _ => rfl) l 0 1 x0 (by omega) HX0.out), (ho.cellAt 2 (by omega)).trans (flat_get Te.cells 4 (fun _ => rfl) l 0 2 x0 (by omega) HX0.out), (ho.cellAt 3 (by omega)).trans (flat_get Te.cells 4 (fun _ => rfl) l 0 3 x0 (by omega) HX0.out), (ho.lt g rfl).2⟩
    have HKL := hid hKL
    clear hKL K4 q0 q1 q2 q3 gl0
    refine wp_region_any (by kernel_rfl) ?_
    refine wpAny_holdE [1, 2] 11 49 (KL) (spL []) (by kernel_rfl) (fun _ d _ _ _ h => by cases d <;> exact h) (by kernel_rfl) (by kernel_rfl) rfl ?_ (KN.drew) ?_
    · exact stays_nil _
    simp only [List.take_succ_cons, List.take_zero, List.drop_succ_cons, List.drop_zero, Act.put, List.getElem_toArray, List.getElem_cons_zero, List.getElem_cons_succ, List.setIfInBounds_toArray, List.set_cons_succ, List.set_cons_zero]
    repeat (first | (refine dw_skip rfl rfl rfl ?_; simp only [Act.put, List.setIfInBounds_toArray, List.set_cons_succ, List.set_cons_zero]) | (refine dw_val rfl rfl rfl ?_; apply Exists.intro; refine ⟨fun wv HC => ?_, ?_⟩; (focus (obtain ⟨⟨f0, f1, f2, f3⟩, p0, p1, p2, p3, p4⟩ := HF.out _ HC; go_simp <;> rfl; done)); simp only [Act.put, List.setIfInBounds_toArray, List.set_cons_succ, List.set_cons_zero]))
    refine rel_nil ?_
    rintro wxb HY
    rintro _hrm HGW
    clear HGW _hrm KN HF
    rw [HKL.out] at HY
    clear HKL
    clear KL
    have ho := HY.get 0 rfl
    have aq0 : _ = some (Value.string x0.nm) := (ho.cellAt 0 (by omega)).trans (flat_get Te.cells 4 (fun _ => rfl) l 0 0 x0 (by omega) HX0.out)
    have aq1 : _ = some (Value.slice x0.A x0.n x0.c) := (ho.cellAt (1) (by omega)).trans (flat_get Te.cells 4 (fun _ => rfl) l 0 1 x0 (by omega) HX0.out)
    have aq2 : _ = some (Value.int .i64 x0.nx) := (ho.cellAt (2) (by omega)).trans (flat_get Te.cells 4 (fun _ => rfl) l 0 2 x0 (by omega) HX0.out)
    have aq3 : _ = some (Value.slice x0.B x0.m x0.d) := (ho.cellAt (3) (by omega)).trans (flat_get Te.cells 4 (fun _ => rfl) l 0 3 x0 (by omega) HX0.out)
    have az0 := ho.frozenAt 0
    have az1 := ho.frozenAt (1)
    have az2 := ho.frozenAt (2)
    have az3 := ho.frozenAt (3)
    have agl := (ho.lt g rfl).2
    clear ho
    have aKA1 := HY.put_ 0 rfl 0 (.string x.nm)
    have aKA2 := aKA1.put_ 0 rfl (1) (.slice x.A x.n x.c)
    have aKA3 := aKA2.put_ 0 rfl (2) (.int .i64 x.nx)
    have K5 := aKA3.put_ 0 rfl (3) (.slice x.B x.m x.d)
    simp only [List.set_cons_zero, List.set_cons_succ, List.setIfInBounds_toArray] at aKA1
    simp only [List.set_cons_zero, List.set_cons_succ, List.setIfInBounds_toArray] at aKA2
    simp only [List.set_cons_zero, List.set_cons_succ, List.setIfInBounds_toArray] at aKA3
    simp only [List.set_cons_zero, List.set_cons_succ, List.setIfInBounds_toArray] at K5
    have ae1 : _ = some (Value.slice x0.A x0.n x0.c) := ((aKA1.get 0 rfl).cellAt (1) (by omega)).trans ((List.getElem?_set_ne (by omega)).trans (flat_get Te.cells 4 (fun _ => rfl) l 0 1 x0 (by omega) HX0.out))
    have ae2 : _ = some (Value.int .i64 x0.nx) := ((aKA2.get 0 rfl).cellAt (2) (by omega)).trans ((List.getElem?_set_ne (by omega)).trans ((List.getElem?_set_ne (by omega)).trans (flat_get Te.cells 4 (fun _ => rfl) l 0 2 x0 (by omega) HX0.out)))
    have ae3 : _ = some (Value.slice x0.B x0.m x0.d) := ((aKA3.get 0 rfl).cellAt (3) (by omega)).trans ((List.getElem?_set_ne (by omega)).trans ((List.getElem?_set_ne (by omega)).trans ((List.getElem?_set_ne (by omega)).trans (flat_get Te.cells 4 (fun _ => rfl) l 0 3 x0 (by omega) HX0.out))))
    have ay1 := (aKA1.get 0 rfl).frozenAt (1)
    have ay2 := (aKA2.get 0 rfl).frozenAt (2)
    have ay3 := (aKA3.get 0 rfl).frozenAt (3)
    clear aKA1 aKA2 aKA3
    rw [teCells_set x HX0.out] at K5
    have hx2 : (l.set 0 x)[k]? = some x := by
      rw [List.getElem?_set]
      split
      · rw [if_pos (by rw [HL.out]; omega)]
      · exact HXK.out
    have HX2 := hid hx2
    clear hx2
    have ho := K5.get 0 rfl
    have bq0 : _ = some (Value.string x.nm) := (ho.cellAt (k * 4) (by omega)).trans (flat_get Te.cells 4 (fun _ => rfl) (l.set 0 x) k 0 x (by omega) HX2.out)
    have bq1 : _ = some (Value.slice x.A x.n x.c) := (ho.cellAt (k * 4 + 1) (by omega)).trans (flat_get Te.cells 4 (fun _ => rfl) (l.set 0 x) k 1 x (by omega) HX2.out)
    have bq2 : _ = some (Value.int .i64 x.nx) := (ho.cellAt (k * 4 + 2) (by omega)).trans (flat_get Te.cells 4 (fun _ => rfl) (l.set 0 x) k 2 x (by omega) HX2.out)
    have bq3 : _ = some (Value.slice x.B x.m x.d) := (ho.cellAt (k * 4 + 3) (by omega)).trans (flat_get Te.cells 4 (fun _ => rfl) (l.set 0 x) k 3 x (by omega) HX2.out)
    have bz0 := ho.frozenAt (k * 4)
    have bz1 := ho.frozenAt (k * 4 + 1)
    have bz2 := ho.frozenAt (k * 4 + 2)
    have bz3 := ho.frozenAt (k * 4 + 3)
    have bgl := (ho.lt g rfl).2
    clear ho
    have bKA1 := K5.put_ 0 rfl (k * 4) (.string x0.nm)
    have bKA2 := bKA1.put_ 0 rfl (k * 4 + 1) (.slice x0.A x0.n x0.c)
    have bKA3 := bKA2.put_ 0 rfl (k * 4 + 2) (.int .i64 x0.nx)
    have K6 := bKA3.put_ 0 rfl (k * 4 + 3) (.slice x0.B x0.m x0.d)
    simp only [List.set_cons_zero, List.set_cons_succ, List.setIfInBounds_toArray] at bKA1
    simp only [List.set_cons_zero, List.set_cons_succ, List.setIfInBounds_toArray] at bKA2
    simp only [List.set_cons_zero, List.set_cons_succ, List.setIfInBounds_toArray] at bKA3
    simp only [List.set_cons_zero, List.set_cons_succ, List.setIfInBounds_toArray] at K6
    have be1 : _ = some (Value.slice x.A x.n x.c) := ((bKA1.get 0 rfl).cellAt (k * 4 + 1) (by omega)).trans ((List.getElem?_set_ne (by omega)).trans (flat_get Te.cells 4 (fun _ => rfl) (l.set 0 x) k 1 x (by omega) HX2.out))
    have be2 : _ = some (Value.int .i64 x.nx) := ((bKA2.get 0 rfl).cellAt (k * 4 + 2) (by omega)).trans ((List.getElem?_set_ne (by omega)).trans ((List.getElem?_set_ne (by omega)).trans (flat_get Te.cells 4 (fun _ => rfl) (l.set 0 x) k 2 x (by omega) HX2.out)))
    have be3 : _ = some (Value.slice x.B x.m x.d) := ((bKA3.get 0 rfl).cellAt (k * 4 + 3) (by omega)).trans ((List.getElem?_set_ne (by omega)).trans ((List.getElem?_set_ne (by omega)).trans ((List.getElem?_set_ne (by omega)).trans (flat_get Te.cells 4 (fun _ => rfl) (l.set 0 x) k 3 x (by omega) HX2.out))))
    have by1 := (bKA1.get 0 rfl).frozenAt (k * 4 + 1)
    have by2 := (bKA2.get 0 rfl).frozenAt (k * 4 + 2)
    have by3 := (bKA3.get 0 rfl).frozenAt (k * 4 + 3)
    clear bKA1 bKA2 bKA3
    rw [teCells_set x0 HX2.out] at K6
    have K7 := K6.add (teVals_set (k := k) (teVals_set (k := 0) ((K6.ro 1 rfl).imp fun w2 h2 => h2.2) ((K6.ro 1 rfl).imp fun w2 h2 => h2.2 x (List.mem_of_getElem? HXK.out))) ((K6.ro 1 rfl).imp fun w2 h2 => h2.2 x0 (List.mem_of_getElem? HX0.out)))
    clear K6
    go_wp2_with fail
    iterate 4 (try simp only [Result.andThen_ok, ae1, ay1, ae2, ay2, ae3, ay3, Bool.false_eq_true, if_false])
    go_wp2_with fail
    iterate 4 (try simp only [Result.andThen_ok, be1, by1, be2, by2, be3, by3, Bool.false_eq_true, if_false])
    go_wp2_with fail
    clear aq0 aq1 aq2 aq3 az0 az1 az2 az3 agl ae1 ay1 ae2 ay2 ae3 ay3
    clear bq0 bq1 bq2 bq3 bz0 bz1 bz2 bz3 bgl be1 by1 be2 by2 be3 by3
    have hcap := own_caps (K7.get 1 rfl)
    have KS := K7.sealRow 1 rfl
    simp only [List.set_cons_zero, List.set_cons_succ, List.setIfInBounds_toArray] at KS
    have rT := (KS.roOut 1 rfl).and (KS.roOut 0 rfl)
    have ht9 := KS.tp_ 4 rfl
    have hgr := KS.grow
    have HCAP := hid hcap
    clear hcap K7 KS
    go_wp2_with fail
    (try simp only [Exit.inBlock, Exit.then])
    refine bodyPost_ret (v := .slice (some ⟨g, 0, none⟩) 3 cap') (by simp [results, Tryz.results26, go_sem]) rfl ?_
    exact ⟨some ⟨g, 0, none⟩, 3, cap', (l.set 0 x).set k x0, rfl, HCAP.out.1, HCAP.out.2.1, by omega, by omega, fun z hz => (List.mem_or_eq_of_mem_set hz).elim (fun h => (List.mem_or_eq_of_mem_set h).elim (fun h => ⟨(HOK.out z h).1, (HOK.out z h).2.tbl⟩) (fun h => h ▸ ⟨HXO.out.1, HXO.out.2.tbl⟩)) (fun h => h ▸ ⟨(HOK.out x0 (List.mem_of_getElem? HX0.out)).1, (HOK.out x0 (List.mem_of_getElem? HX0.out)).2.tbl⟩), rT, ht9, hgr⟩
end Go.Proofs.YtedogodccblfeaaGreatDoor

namespace Go.Proofs.YtedogodccblfeaaGreatDoor
open Go.RowKit
set_option linter.unusedVariables false
set_option linter.unusedSimpArgs false

def k9a : Tb := ⟨nmLog, logCols, 1, []⟩
def k9b : Tb := ⟨nmLog, logCols, 2, [(1, [vNil, vNil])]⟩
def k9d : Dl := ⟨nmLog, [(1, [vNil, vNil])], [], []⟩
theorem k9_bet : betweenC k9a k9b = (true, k9d) := by kernel_rfl
theorem k9_stoa : storB [k9a] = true := by kernel_rfl
theorem k9_stob : storB [k9b] = true := by kernel_rfl
theorem k9_taba : tabB k9a.nm k9a.cs k9a.nx k9a.rs = true := by kernel_rfl
theorem k9_tabb : tabB k9b.nm k9b.cs k9b.nx k9b.rs = true := by kernel_rfl
theorem k9_rec : udOf k9a.nx k9d = recD k9a k9b := by kernel_rfl
theorem k9_later : LaterOk k9a k9b := ⟨rfl, rfl, by decide, fun r hr => by
  simp [k9b] at hr; subst hr; exact .inr (by decide)⟩
theorem k9_sch : schOkB nmLog logCols = true := by decide +kernel
theorem k9_va : VTab k9a := ⟨schOk_of k9_sch, k9_taba⟩
theorem k9_vb : VTab k9b := ⟨schOk_of k9_sch, k9_tabb⟩
theorem k9_step : StepU (udOf k9a.nx k9d) k9a k9b := ⟨k9_rec, k9_va, k9_vb, k9_later, by decide⟩
theorem k9_find : findT [k9b] nmLog = ((0 : Nat) : Int) := by kernel_rfl
theorem k9_back : BackR [udOf k9a.nx k9d] [k9b] [k9a] := ⟨0, k9a, k9b, rfl, k9_find, k9_step, rfl⟩
end Go.Proofs.YtedogodccblfeaaGreatDoor

namespace Go.Proofs.YtedogodccblfeaaGreatDoor
open Go.RowKit
set_option linter.unusedVariables false
set_option linter.unusedSimpArgs false

/-- an update's row of before -/
def oldRw (p : Pr) : Rw := ⟨p.id, p.oA, p.on, p.oc, p.old⟩
/-- a log and a yes -/
def RecRet (w : World) (M : Nat → Prop) (N K : Nat) (us : List Ud) (e : Ending) (w' : World) : Prop := ∃ (A : Option Addr) (n c : Nat) (l : List Ue), e = .returned (.tuple #[.slice A n c, .bool true]) ∧ n ≤ c ∧ c ≤ 9223372036854775807 ∧ l.map Ue.ud = us ∧ (∀ x ∈ l, x.good N K) ∧ Ro w' M (UesIn A n l) ∧ Below w.heap.size w w'
def LogSl (M : Nat → Prop) (b0 N K : Nat) (us : List Ud) (u : Value) (w : World) : Prop := ∃ (A : Option Addr) (n c : Nat) (l : List Ue), u = .slice A n c ∧ l.map Ue.ud = us ∧ (∀ x ∈ l, x.good N K) ∧ w.ownsRow b0 129 5 (.slice A n c) n (ueCells l) ∧ Ro w (Mut M [.own 129 5 (.slice A n c) n (ueCells l)]) (UeVals l)
theorem logSl_mono {M : Nat → Prop} {b0 N K : Nat} (hM : ∀ b, M b → b < b0) {us : List Ud} (u : Value) (w w' : World) (hr : RM M w w') (h : LogSl M b0 N K us u w) : LogSl M b0 N K us u w' := by
  obtain ⟨A, n, c, l, h1, h2, h3, h4, h5⟩ := h
  exact ⟨A, n, c, l, h1, h2, h3, own_RM hM hr h4, h5.step hr.1 (fun b hb hn => hr.2 b hb fun hm => hn (.inl hm)) fun _ _ h => h⟩
def UeBox (M : Nat → Prop) (cs : Array Value) (u : Value) (w : World) : Prop := ∃ g : Nat, u = .slice (some ⟨g, 0, none⟩) 1 1 ∧ Ro w M (SlR 5 (some ⟨g, 0, none⟩) 1 cs.toList)
theorem ueBox_mono {M : Nat → Prop} {cs : Array Value} (u : Value) (w w' : World) (hr : RM M w w') (h : UeBox M cs u w) : UeBox M cs u w' := by
  obtain ⟨g, h1, h2⟩ := h
  exact ⟨g, h1, hr.ro h2⟩
set_option maxHeartbeats 8000000 in
set_option maxRecDepth 100000 in
theorem record_any (M : Nat → Prop) (w : World) (hM : ∀ b, M b → b < w.heap.size) (A : Option Addr) (n c N K : Nat) (us : List Ue) (x y : Te) (d : Dl) (hx : x.ok) (hy : y.ok) (rx : Ro w M (TeIn x)) (ry : Ro w M (TeIn y)) (mx : TbM x.tb) (my : TbM y.tb) (hL : Ro w M (UesIn A n us)) (hok : ∀ u ∈ us, u.good N K) (hn : n ≤ 1000000) (hN : N ≤ 1000000) (hK : K ≤ 4398046511104)
    (hbt : betweenC x.tb y.tb = (true, d)) (h1 : d.ins.length ≤ N) (h2 : d.del.length ≤ N) (h3 : d.upd.length ≤ N) (h4 : ∀ r ∈ d.ins, r.2.length ≤ K) (h5 : ∀ r ∈ d.del, r.2.length ≤ K) (h6 : ∀ u ∈ d.upd, u.2.1.length ≤ K ∧ u.2.2.length ≤ K) :
    Calls Tryz.prog 63 #[.slice A n c, .agg #[.string x.nm, .slice x.A x.n x.c, .int .i64 x.nx, .slice x.B x.m x.d], .agg #[.string y.nm, .slice y.A y.n y.c, .int .i64 y.nx, .slice y.B y.m y.d]] w fun e w' => RecRet w M N K (us.map Ue.ud ++ [udOf x.nx d]) e w' := by
  have HOK := hid (And.intro hok (And.intro hN hK))
  have HML := hid hM
  have HUL := hid hL.now.len
  have K1 := ((((Hold.start M w hM).add (hL.less (by simp [Mut]))).add (rx.less (by simp [Mut, Hp.foot]))).add (ry.less (by simp [Mut, Hp.foot]))).alloc_cst #[.string x.nm, .slice x.A x.n x.c, .int .i64 x.nx, .slice x.B x.m x.d] 58 |>.alloc_cst #[.string y.nm, .slice y.A y.n y.c, .int .i64 y.nx, .slice y.B y.m y.d] 58
  rw [World.size_alloc] at K1
  clear hL rx ry hok
  have F1 := K1.facts
  simp only [World.size_alloc, World.size_drew, factsL, cellsF, Nat.reduceAdd, List.toList_toArray, List.set_cons_zero, List.set_cons_succ, List.setIfInBounds_toArray, and_true, true_and] at F1
  go_enter Tryz.func63, Tryz.ntmps63
  go_wp2_with fail
  refine (dbetw_any _ _ K1.mutLt _ _ x.tb y.tb (te_tb hx (K1.ro 3 rfl)) (te_tb hy (K1.ro 2 rfl)) mx.nm mx.cs mx.rs my.nm my.cs my.rs).mono ?_
  rintro e w2 ⟨v, rfl, hd, b2⟩
  rw [hbt] at hd ⊢
  obtain ⟨⟨znm, zI, zni, zci, zD, znd, zcd, zU, znu, zcu, zli, zld, zlu⟩, rfl, hz, hzg, rz⟩ := dl_el hd h1 h2 h3 h4 h5 h6
  dsimp only [El.val, ElIn] at rz ⊢
  have HZ := hid hz
  have HZG := hid hzg
  have K2 := (((K1.call b2).add (show Ro w2 _ (RwsIn zI zni zli) from rz.imp fun w h => h.1)).add (show Ro w2 _ (RwsIn zD znd zld) from (rz.imp fun w h => h.2.1).less (by simp [Mut, Hp.foot]))).add (show Ro w2 _ (PrsIn zU znu zlu) from (rz.imp fun w h => h.2.2).less (by simp [Mut, Hp.foot]))
  have hzi : zni ≤ 1000000 := Nat.le_trans hzg.i hN
  have hzu : znu ≤ 1000000 := Nat.le_trans hzg.u hN
  have hci := hzg.ci
  have hcd := hzg.cd
  have hcu := hzg.cu
  dsimp only at hci hcd hcu
  clear K1 F1 hd b2 hz hzg rz h1 h2 h3 h4 h5 h6 hx hy mx my hbt hN hK
  have F2 := K2.facts
  simp only [World.size_alloc, World.size_drew, factsL, cellsF, Nat.reduceAdd, List.toList_toArray, List.set_cons_zero, List.set_cons_succ, List.setIfInBounds_toArray, and_true, true_and] at F2
  obtain ⟨gd, hgd⟩ : ∃ g, g = w2.heap.size := ⟨_, rfl⟩
  obtain ⟨gu, hgu⟩ : ∃ g, g = w2.heap.size + 1 := ⟨_, rfl⟩
  have K3 := K2.alloc_cst #[.string znm, .slice zI zni zci, .slice zD znd zcd, .slice zU znu zcu] 44
  have K4 := K3.alloc #[.string znm, .int .i64 x.nx, .slice none 0 0, .slice zD znd zcd, .slice none 0 0] 129
  rw [World.size_alloc, ← hgu, ← hgd] at K4
  have KL := (K4.drop (show List.Sublist [Hp.blk gu 129 #[.string znm, .int .i64 x.nx, .slice none 0 0, .slice zD znd zcd, .slice none 0 0], .cst gd 44 #[.string znm, .slice zI zni zci, .slice zD znd zcd, .slice zU znu zcu], .ro (PrsIn zU znu zlu), .ro (RwsIn zD znd zld), .ro (RwsIn zI zni zli), .ro (UesIn A n us)] _ from .cons_cons _ (.cons_cons _ (.cons_cons _ (.cons_cons _ (.cons_cons _ (.cons _ (.cons _ (.cons _ (.cons _ (List.Sublist.refl _)))))))))))
  have K5 := KL.nil 3 1
  have F5 := K5.facts
  simp only [World.size_alloc, World.size_drew, factsL, cellsF, Nat.reduceAdd, List.toList_toArray, List.set_cons_zero, List.set_cons_succ, List.setIfInBounds_toArray, and_true, true_and] at F5
  clear K2 K3 K4 KL
  rw [hgu, hgd] at F5
  go_wp2_with fail
  rw [← hgu, ← hgd]
  have HGU := hid hgu
  have HGD := hid hgd
  have HL1 := hid (K5.ro 5 rfl).now.len
  have HL2 := hid (K5.ro 3 rfl).now.len
  clear hgu hgd F2 F5
  go_loopw [33] (fun iv wr => ∃ (k cap : Nat) (O : Option Addr), k ≤ zni ∧ iv = .int .i64 k ∧ Hold M none w wr [.own 3 1 (.slice O k cap) k (iCells ((zli.take k).map Rw.id)), .blk gu 129 #[.string znm, .int .i64 x.nx, .slice O k cap, .slice zD znd zcd, .slice none 0 0], .cst gd 44 #[.string znm, .slice zI zni zci, .slice zD znd zcd, .slice zU znu zcu], .ro (PrsIn zU znu zlu), .ro (RwsIn zD znd zld), .ro (RwsIn zI zni zli), .ro (UesIn A n us)]) (fun iv _ => zni - (intOf iv).toNat)
  case atStart => exact ⟨0, 0, none, by omega, rfl, K5⟩
  case round =>
    clear K5
    obtain ⟨k, cap, O, hk, rfl, H⟩ := hrel
    by_cases hlt : k < zni
    · have hd : decide ((k : Int) < (zni : Int)) = true := by simp; omega
      have i0 : (0 : Int) ≤ (k : Int) := by omega
      have i1 : (k : Int) < (zni : Int) := by omega
      obtain ⟨r, hx⟩ := get_of HL1.out hlt
      obtain ⟨g, o, rfl, hb, c0, c1, -⟩ := (H.ro 5 rfl).now.at_ hx
      have HCE := hid (show iCells ((zli.take k).map Rw.id) ++ (#[Value.int .i64 r.id]).toList = iCells ((zli.take (k + 1)).map Rw.id) by rw [List.take_add_one, hx]; simp [iCells])
      clear hx
      have K1 := H.alloc_cst #[.int .i64 r.id, .slice r.A r.n r.c] 119
      have FA := K1.facts
      simp only [World.size_alloc, World.size_drew, factsL, cellsF, Nat.reduceAdd, List.toList_toArray, List.set_cons_zero, List.set_cons_succ, List.setIfInBounds_toArray, and_true, true_and] at FA
      clear H
      go_wp2_with (at_builtin; go_must (refine wpList_appH K1 1 rfl Tryz.elIntC #[.int .i64 r.id] rfl (.tmp 38) (.tmp 41) rfl rfl _ (by first | rfl | simp) rfl rfl (by intro u hu; simp at hu; rcases hu with rfl; rfl) (by omega) (by omega) ?_); intro g9 cap9 w9 hc9 hm9 KB; rw [HCE.out] at KB; simp only [List.set_cons_zero, List.set_cons_succ] at KB; (have FB := KB.facts); simp only [World.size_alloc, World.size_drew, factsL, cellsF, Nat.reduceAdd, List.toList_toArray, List.set_cons_zero, List.set_cons_succ, List.setIfInBounds_toArray, and_true, true_and] at FB)
      have KC := KB.store 2 rfl 2 (.slice (some ⟨g9, 0, none⟩) (k + 1) cap9)
      simp only [List.set_cons_zero, List.set_cons_succ, List.setIfInBounds_toArray] at KC
      go_roundw
      case rel => exact ⟨k + 1, cap9, _, by omega, by go_num, KC.drop (List.sublist_cons_self _ _)⟩
      case measure => simp [intOf]; omega
    · obtain rfl : zni = k := by omega
      have hd : decide ((zni : Int) < (zni : Int)) = false := by simp
      rw [List.take_of_length_le (by rw [HL1.out]; exact Nat.le_refl _)] at H
      have hcap := own_caps (H.get 0 rfl)
      have KS := H.sealRow 0 rfl
      simp only [List.set_cons_zero] at KS
      have KT : Hold M none w wr [.ro (IsIn O zni (zli.map Rw.id)), .blk gu 129 #[.string znm, .int .i64 x.nx, .slice O zni cap, .slice zD znd zcd, .slice none 0 0], .cst gd 44 #[.string znm, .slice zI zni zci, .slice zD znd zcd, .slice zU znu zcu], .ro (PrsIn zU znu zlu), .ro (RwsIn zD znd zld), .ro (RwsIn zI zni zli), .ro (UesIn A n us)] := KS
      have K6 := KT.nil 119 2
      clear H KS KT
      have F6 := K6.facts
      simp only [World.size_alloc, World.size_drew, factsL, cellsF, Nat.reduceAdd, List.toList_toArray, List.set_cons_zero, List.set_cons_succ, List.setIfInBounds_toArray, and_true, true_and] at F6
      go_wp2_with fail
      clear F6
      go_loopw [48] (fun iv wr => ∃ (k cap2 : Nat) (O2 : Option Addr), k ≤ znu ∧ iv = .int .i64 k ∧ Hold M none w wr [.own 119 2 (.slice O2 k cap2) k (rwCells ((zlu.take k).map oldRw)), .ro (IsIn O zni (zli.map Rw.id)), .blk gu 129 #[.string znm, .int .i64 x.nx, .slice O zni cap, .slice zD znd zcd, .slice O2 k cap2], .cst gd 44 #[.string znm, .slice zI zni zci, .slice zD znd zcd, .slice zU znu zcu], .ro (PrsIn zU znu zlu), .ro (RwsIn zD znd zld), .ro (RwsIn zI zni zli), .ro (UesIn A n us)]) (fun iv _ => znu - (intOf iv).toNat)
      case atStart => exact ⟨0, 0, none, by omega, rfl, K6⟩
      case round =>
        clear K6
        obtain ⟨k, cap2, O2, hk, rfl, H⟩ := hrel
        by_cases hlt : k < znu
        · have hd : decide ((k : Int) < (znu : Int)) = true := by simp; omega
          have i0 : (0 : Int) ≤ (k : Int) := by omega
          have i1 : (k : Int) < (znu : Int) := by omega
          obtain ⟨r, hx⟩ := get_of HL2.out hlt
          obtain ⟨g, o, rfl, hb, c0, c1, c2, -⟩ := (H.ro 4 rfl).now.at_ hx
          have HCE := hid (show rwCells ((zlu.take k).map oldRw) ++ (#[Value.int .i64 r.id, .slice r.oA r.on r.oc]).toList = rwCells ((zlu.take (k + 1)).map oldRw) by rw [List.take_add_one, hx]; simp [rwCells, Rw.cells, oldRw])
          clear hx
          have K1 := H.alloc_cst #[.int .i64 r.id, .slice r.oA r.on r.oc, .slice r.nA r.nn r.nc] 110
          have FA := K1.facts
          simp only [World.size_alloc, World.size_drew, factsL, cellsF, Nat.reduceAdd, List.toList_toArray, List.set_cons_zero, List.set_cons_succ, List.setIfInBounds_toArray, and_true, true_and] at FA
          clear H
          go_wp2_with (at_builtin; go_must (refine wpList_appH K1 1 rfl Tryz.elRw #[.int .i64 r.id, .slice r.oA r.on r.oc] rfl (.tmp 53) (.tmp 59) rfl rfl _ (by first | rfl | simp) rfl rfl (by intro u hu; simp at hu; rcases hu with rfl | rfl <;> rfl) (by omega) (by omega) ?_); intro g9 cap9 w9 hc9 hm9 KB; rw [HCE.out] at KB; simp only [List.set_cons_zero, List.set_cons_succ] at KB; (have FB := KB.facts); simp only [World.size_alloc, World.size_drew, factsL, cellsF, Nat.reduceAdd, List.toList_toArray, List.set_cons_zero, List.set_cons_succ, List.setIfInBounds_toArray, and_true, true_and] at FB)
          have KC := KB.store 3 rfl 4 (.slice (some ⟨g9, 0, none⟩) (k + 1) cap9)
          simp only [List.set_cons_zero, List.set_cons_succ, List.setIfInBounds_toArray] at KC
          go_roundw
          case rel => exact ⟨k + 1, cap9, _, by omega, by go_num, KC.drop (List.sublist_cons_self _ _)⟩
          case measure => simp [intOf]; omega
        · obtain rfl : znu = k := by omega
          have hd : decide ((znu : Int) < (znu : Int)) = false := by simp
          rw [List.take_of_length_le (by rw [HL2.out]; exact Nat.le_refl _)] at H
          have hcap2 := own_caps (H.get 0 rfl)
          have KS := H.sealRow 0 rfl
          simp only [List.set_cons_zero] at KS
          have KT : Hold M none w wr [.ro (SlR 2 O2 znu (rwCells (zlu.map oldRw))), .ro (IsIn O zni (zli.map Rw.id)), .blk gu 129 #[.string znm, .int .i64 x.nx, .slice O zni cap, .slice zD znd zcd, .slice O2 znu cap2], .cst gd 44 #[.string znm, .slice zI zni zci, .slice zD znd zcd, .slice zU znu zcu], .ro (PrsIn zU znu zlu), .ro (RwsIn zD znd zld), .ro (RwsIn zI zni zli), .ro (UesIn A n us)] := KS
          clear H KS
          go_wp2_with fail
          refine wp_region_any (by kernel_rfl) ?_
          refine wpAny_hold 4 68 ([.ro (SlR 2 O2 znu (rwCells (zlu.map oldRw))), .ro (IsIn O zni (zli.map Rw.id)), .blk gu 129 #[.string znm, .int .i64 x.nx, .slice O zni cap, .slice zD znd zcd, .slice O2 znu cap2], .cst gd 44 #[.string znm, .slice zI zni zci, .slice zD znd zcd, .slice zU znu zcu], .ro (PrsIn zU znu zlu), .ro (RwsIn zD znd zld), .ro (RwsIn zI zni zli), .ro (UesIn A n us)]) (spL [(64, LogSl (Mut M [.ro (SlR 2 O2 znu (rwCells (zlu.map oldRw))), .ro (IsIn O zni (zli.map Rw.id)), .blk gu 129 #[.string znm, .int .i64 x.nx, .slice O zni cap, .slice zD znd zcd, .slice O2 znu cap2], .cst gd 44 #[.string znm, .slice zI zni zci, .slice zD znd zcd, .slice zU znu zcu], .ro (PrsIn zU znu zlu), .ro (RwsIn zD znd zld), .ro (RwsIn zI zni zli), .ro (UesIn A n us)]) wr.heap.size N K (us.map Ue.ud)), (66, UeBox (Mut M [.ro (SlR 2 O2 znu (rwCells (zlu.map oldRw))), .ro (IsIn O zni (zli.map Rw.id)), .blk gu 129 #[.string znm, .int .i64 x.nx, .slice O zni cap, .slice zD znd zcd, .slice O2 znu cap2], .cst gd 44 #[.string znm, .slice zI zni zci, .slice zD znd zcd, .slice zU znu zcu], .ro (PrsIn zU znu zlu), .ro (RwsIn zD znd zld), .ro (RwsIn zI zni zli), .ro (UesIn A n us)]) #[.string znm, .int .i64 x.nx, .slice O zni cap, .slice zD znd zcd, .slice O2 znu cap2])]) (by kernel_rfl) (by kernel_rfl) (by kernel_rfl) rfl ?_ (KT.drew) ?_
          · exact stays_cons (logSl_mono KT.mutLt) (stays_cons ueBox_mono (stays_nil _))
          simp only [List.take_succ_cons, List.take_zero, List.drop_succ_cons, List.drop_zero, Act.put, List.getElem_toArray, List.getElem_cons_zero, List.getElem_cons_succ, List.setIfInBounds_toArray, List.set_cons_succ, List.set_cons_zero]
          repeat (first | (refine dw_skip rfl rfl rfl ?_; simp only [Act.put, List.setIfInBounds_toArray, List.set_cons_succ, List.set_cons_zero]) | (refine dw_val rfl rfl rfl ?_; apply Exists.intro; refine ⟨fun wv HC => ?_, ?_⟩; (focus ( go_simp <;> rfl; done)); simp only [Act.put, List.setIfInBounds_toArray, List.set_cons_succ, List.set_cons_zero]))
          refine dw_callR 64 (LogSl (Mut M [.ro (SlR 2 O2 znu (rwCells (zlu.map oldRw))), .ro (IsIn O zni (zli.map Rw.id)), .blk gu 129 #[.string znm, .int .i64 x.nx, .slice O zni cap, .slice zD znd zcd, .slice O2 znu cap2], .cst gd 44 #[.string znm, .slice zI zni zci, .slice zD znd zcd, .slice zU znu zcu], .ro (PrsIn zU znu zlu), .ro (RwsIn zD znd zld), .ro (RwsIn zI zni zli), .ro (UesIn A n us)]) wr.heap.size N K (us.map Ue.ud)) (f := 67) (args := #[.slice A n c]) rfl rfl rfl rfl (fun wv => ?_) (fun wv HC hrm hD => ?_) ?_
          · go_simp <;> rfl
          · refine (scopylog_any _ wv HC.mutLt A n c N K HOK.out.2.1 HOK.out.2.2 us HOK.out.1 (HC.ro 7 rfl) hn).mono ?_
            rintro e w5 ⟨A5, n5, c5, l5, rfl, h1, h2, h3, h4, b5⟩
            exact ⟨_, rfl, ⟨A5, n5, c5, l5, rfl, h1, h2, own_base (by simpa using hrm.1) h3, h4⟩, HC.call b5, RM.below b5⟩
          rintro u_ wx HCx ⟨A5, n5, c5, l5, rfl, -, -, -, -⟩
          clear HCx
          simp only [Act.put, List.setIfInBounds_toArray, List.set_cons_succ, List.set_cons_zero]
          repeat (first | (refine dw_skip rfl rfl rfl ?_; simp only [Act.put, List.setIfInBounds_toArray, List.set_cons_succ, List.set_cons_zero]) | (refine dw_val rfl rfl rfl ?_; apply Exists.intro; refine ⟨fun wv HC => ?_, ?_⟩; (focus (have f0 := cell_of_row _ _ 0 _ _ _ (HC.blk_ 2 rfl); have f1 := cell_of_row _ _ 1 _ _ _ (HC.blk_ 2 rfl); have f2 := cell_of_row _ _ 2 _ _ _ (HC.blk_ 2 rfl); have f3 := cell_of_row _ _ 3 _ _ _ (HC.blk_ 2 rfl); have f4 := cell_of_row _ _ 4 _ _ _ (HC.blk_ 2 rfl); have fl := Blk.lt (HC.blk_ 2 rfl); go_simp <;> rfl; done)); simp only [Act.put, List.setIfInBounds_toArray, List.set_cons_succ, List.set_cons_zero]))
          refine dw_new #[.string znm, .int .i64 x.nx, .slice O zni cap, .slice zD znd zcd, .slice O2 znu cap2] 129 66 (UeBox (Mut M [.ro (SlR 2 O2 znu (rwCells (zlu.map oldRw))), .ro (IsIn O zni (zli.map Rw.id)), .blk gu 129 #[.string znm, .int .i64 x.nx, .slice O zni cap, .slice zD znd zcd, .slice O2 znu cap2], .cst gd 44 #[.string znm, .slice zI zni zci, .slice zD znd zcd, .slice zU znu zcu], .ro (PrsIn zU znu zlu), .ro (RwsIn zD znd zld), .ro (RwsIn zI zni zli), .ro (UesIn A n us)]) #[.string znm, .int .i64 x.nx, .slice O zni cap, .slice zD znd zcd, .slice O2 znu cap2]) (fun g => .slice (some ⟨g, 0, none⟩) 1 1) rfl rfl rfl rfl (fun wv => ?_) (fun wv HC _hrm hD hro => ?_) ?_
          · go_simp <;> rfl
          · exact ⟨_, rfl, ro_block (hro _ HC.mutLt) rfl⟩
          rintro g2 wg HCg -
          simp only [Act.put, List.setIfInBounds_toArray, List.set_cons_succ, List.set_cons_zero]
          clear HCg
          refine rel_nil ?_
          rintro wx2 HX
          rintro hrm HGW
          have hu1 : LogSl (Mut M [.ro (SlR 2 O2 znu (rwCells (zlu.map oldRw))), .ro (IsIn O zni (zli.map Rw.id)), .blk gu 129 #[.string znm, .int .i64 x.nx, .slice O zni cap, .slice zD znd zcd, .slice O2 znu cap2], .cst gd 44 #[.string znm, .slice zI zni zci, .slice zD znd zcd, .slice zU znu zcu], .ro (PrsIn zU znu zlu), .ro (RwsIn zD znd zld), .ro (RwsIn zI zni zli), .ro (UesIn A n us)]) wr.heap.size N K (us.map Ue.ud) (.slice A5 n5 c5) wx2 := (GW_on (d := 64) rfl).1 (HGW 1 _ rfl (by omega))
          have hu2 : UeBox (Mut M [.ro (SlR 2 O2 znu (rwCells (zlu.map oldRw))), .ro (IsIn O zni (zli.map Rw.id)), .blk gu 129 #[.string znm, .int .i64 x.nx, .slice O zni cap, .slice zD znd zcd, .slice O2 znu cap2], .cst gd 44 #[.string znm, .slice zI zni zci, .slice zD znd zcd, .slice zU znu zcu], .ro (PrsIn zU znu zlu), .ro (RwsIn zD znd zld), .ro (RwsIn zI zni zli), .ro (UesIn A n us)]) #[.string znm, .int .i64 x.nx, .slice O zni cap, .slice zD znd zcd, .slice O2 znu cap2] (.slice (some ⟨g2, 0, none⟩) 1 1) wx2 := (GW_on (d := 66) rfl).1 (HGW 3 _ rfl (by omega))
          clear HGW
          obtain ⟨A6, n6, c6, l6, e6, p1, p2, p3, p4⟩ := hu1
          obtain ⟨rfl, rfl, rfl⟩ : A5 = A6 ∧ n5 = n6 ∧ c5 = c6 := by injection e6 with a b c; exact ⟨a, b, c⟩
          obtain ⟨g3, e7, p5⟩ := hu2
          obtain rfl : g2 = g3 := by injection e7 with e7; injection e7 with e7; injection e7
          have K7 := (Hold.addOwn KT.drew HX hrm (by simpa using p3)).add (p4.less (by intro b hb; rcases mut_cons.1 hb with h | h; exact .inr ⟨_, List.mem_singleton_self _, h⟩; exact .inl h))
          have HP := hid (And.intro p1 p2)
          have hn5 : n5 ≤ 1000000 := by
            have a := p3.1; rw [ueCells_len] at a
            have b := congrArg List.length p1; rw [List.length_map, List.length_map, HUL.out] at b
            omega
          have k5 := hid p5.now
          clear HX KT p1 p2 p3 p4 p5 e6 e7 hrm
          go_wp2_with (at_builtin; go_must (refine wpList_appAllH K7 1 rfl Tryz.elUe k5.out rfl (.tmp 64) (.tmp 66) rfl rfl rfl (by intro z hz; simp at hz; rcases hz with rfl | rfl | rfl | rfl | rfl <;> rfl) (by omega) (by omega) ?_); intro C' cap' w6 hc6 hm6 KB; simp only [List.set_cons_zero, List.set_cons_succ] at KB)
          have KD := KB.sealRow 1 rfl
          simp only [List.set_cons_zero, List.set_cons_succ] at KD
          have e9 : ueCells l6 ++ [.string znm, .int .i64 x.nx, .slice O zni cap, .slice zD znd zcd, .slice O2 znu cap2] = ueCells (l6 ++ [⟨znm, x.nx, O, zni, cap, zD, znd, zcd, O2, znu, cap2, zli.map Rw.id, zld, zlu.map oldRw⟩]) := (ueCells_snoc l6 ⟨znm, x.nx, O, zni, cap, zD, znd, zcd, O2, znu, cap2, zli.map Rw.id, zld, zlu.map oldRw⟩).symm
          rw [e9] at KD
          have rI := KD.roOut 3 rfl
          have rU := (KD.roOut 2 rfl).and ((KD.roOut 6 rfl).imp (S' := ValsIn (zlu.map oldRw)) fun w2 h2 r hr => by
            obtain ⟨p, hp, rfl⟩ := List.mem_map.1 hr
            exact (h2.2 p hp).1)
          have rE : Ro w6 M (UeIn ⟨znm, x.nx, O, zni, cap, zD, znd, zcd, O2, znu, cap2, zli.map Rw.id, zld, zlu.map oldRw⟩) := rI.and ((KD.roOut 7 rfl).and rU)
          have rL := (KD.roOut 1 rfl).and (ueVals_snoc (KD.roOut 0 rfl) rE)
          have HG := HZG.out
          have HB := KD.below
          go_wp2_with fail
          go_ret2
          refine ⟨C', n5 + 1, cap', _, rfl, hc6, hm6, ?_, fun u hu => ?_, rL, HB⟩
          · rw [List.map_append, HP.out.1, List.map_singleton]
            exact congrArg _ (congrArg (fun z => [z]) (by rw [← HZ.out]; simp [Ue.ud, udOf, El.dl, Rw.row, Pr.upd, oldRw, List.map_map, Function.comp_def]))
          · rcases List.mem_append.1 hu with hu | hu
            · exact HP.out.2 u hu
            · simp at hu; subst hu
              exact ⟨HG.i, HG.d, HG.u, ⟨hcap.1, hcap.2.1⟩, HG.cd, ⟨hcap2.1, hcap2.2.1⟩, fun i hi => by
                obtain ⟨r, hr, rfl⟩ := List.mem_map.1 hi; exact (HG.li r hr).1.id, HG.ld, fun r hr => by
                obtain ⟨p, hp, rfl⟩ := List.mem_map.1 hr
                obtain ⟨a, b, c⟩ := HG.lu p hp
                exact ⟨⟨a.id, a.oc, a.oc2, a.old⟩, b⟩⟩
end Go.Proofs.YtedogodccblfeaaGreatDoor

namespace Go.Proofs.YtedogodccblfeaaGreatDoor
open Go.RowKit
set_option linter.unusedVariables false
set_option linter.unusedSimpArgs false

abbrev has1V (b : Nat) : Value := .func (.func 127) #[] #[.pointer (some ⟨b, 0, none⟩)]
abbrev hasV (g : Nat) : Value := .func (.func 125) #[] #[.pointer (some ⟨g, 0, none⟩)]
abbrev notV (h : Nat) : Value := .func (.func 130) #[] #[.pointer (some ⟨h, 0, none⟩)]
abbrev turnV (b : Nat) : Value := .func (.func 133) #[] #[.pointer (some ⟨b, 0, none⟩)]
set_option maxHeartbeats 2000000 in
theorem uhas1_any (w : World) (x : Rw) (b : Nat) (id : Int) (t : TypeId) (hb : w.heap[b]? = some (.cells #[.int .i64 id] t (0, 0))) :
    Calls Tryz.prog 127 #[.agg #[.int .i64 x.id, .slice x.A x.n x.c], .pointer (some ⟨b, 0, none⟩)] w fun e w' => e = .returned (.bool (decide (x.id = id))) ∧ Below w.heap.size w w' := by
  have hbl : b < w.heap.size := Blk.lt (t := t) (cs := #[.int .i64 id]) hb
  have K0 := ((Hold.begin_ w).addCst (g := b) (t := t) (cs := #[.int .i64 id]) (fun w2 h1 h2 => (h2 b hbl (by simp [Mut, None_])).trans hb)).alloc_cst #[.int .i64 x.id, .slice x.A x.n x.c] 119
  have F0 := K0.facts
  simp only [World.size_alloc, World.size_drew, factsL, cellsF, Nat.reduceAdd, List.toList_toArray, List.set_cons_zero, List.set_cons_succ, List.setIfInBounds_toArray, and_true, true_and] at F0
  have e0 : (x.id == id) = decide (x.id = id) := by by_cases h : x.id = id <;> simp [h]
  go_enter Tryz.func127, Tryz.ntmps127
  go_wp2_with fail
  go_ret
  exact ⟨by first | rfl | simp [e0] | rw [e0], K0.below⟩
set_option maxHeartbeats 2000000 in
set_option maxRecDepth 100000 in
theorem uhasI_any (w : World) (A : Option Addr) (n c : Nat) (l : List Rw) (b : Nat) (id : Int) (t : TypeId) (hb : Ro w None_ (fun w => w.heap[b]? = some (.cells #[.int .i64 id] t (0, 0)))) (hD : Ro w None_ (RwsIn A n l)) (hn : n ≤ 4611686018427387904) :
    Calls Tryz.prog 132 #[.slice A n c, has1V b] w fun e w' => (∃ r : Int, e = .returned (.int .i64 r) ∧ ((∃ (k : Nat) (x : Rw), l[k]? = some x ∧ decide (x.id = id) = true ∧ (∀ (j : Nat) (x : Rw), j < k → l[j]? = some x → decide (x.id = id) = false) ∧ r = k) ∨ (r = -1 ∧ ∀ x ∈ l, decide (x.id = id) = false))) ∧ Below w.heap.size w w' := by
  have HL := hid hD.now.len
  have K0 := ((Hold.start None_ w (fun b hb => hb.elim)).add (hb.less (by simp [Mut]))).add (hD.less (by simp [Mut, Hp.foot]))
  go_enter Tryz.func132, Tryz.ntmps132
  go_wp2_with fail
  go_loopw [8] (fun iv wr => ∃ (k : Nat), k ≤ n ∧ iv = .int .i64 k ∧ Hid (∀ (j : Nat) (x : Rw), j < k → l[j]? = some x → decide (x.id = id) = false) ∧ Hold None_ none w wr [.ro (RwsIn A n l), .ro (fun w => w.heap[b]? = some (.cells #[.int .i64 id] t (0, 0)))]) (fun iv _ => n - (intOf iv).toNat)
  case atStart => exact ⟨0, by omega, rfl, hid (fun j x hj => by omega), K0⟩
  case round =>
    clear K0
    obtain ⟨k, hk, rfl, HC, H⟩ := hrel
    by_cases hlt : k < n
    · have hd : decide ((k : Int) < (n : Int)) = true := by simp; omega
      have i0 : (0 : Int) ≤ (k : Int) := by omega
      have i1 : (k : Int) < (n : Int) := by omega
      obtain ⟨x, hx⟩ := get_of HL.out hlt
      obtain ⟨b_, o, rfl, hb_, c0, c1, _⟩ := (H.ro 0 rfl).now.at_ hx
      have HX := hid hx
      clear hx
      go_wp2_with fail
      refine (uhas1_any wr x b id t (H.ro 1 rfl).now).mono ?_
      rintro e w1 ⟨rfl, b1⟩
      have K1 := H.call b1
      clear H b1
      cases hz : decide (x.id = id)
      · have HN := hid (show ∀ (j : Nat) (x : Rw), j < k + 1 → l[j]? = some x → decide (x.id = id) = false from fun j y hj hy => by
          rcases Nat.lt_or_ge j k with h | h
          · exact HC.out j y h hy
          · obtain rfl : j = k := by omega
            have hx := HX.out
            rw [hx] at hy; injection hy with hy; subst hy; exact hz)
        clear hz
        go_wp2_with fail
        go_roundw
        case rel => exact ⟨k + 1, by omega, by go_num, HN, K1⟩
        case measure => simp [intOf]; omega
      · have HZ := hid hz
        clear hz
        go_wp2_with fail
        go_ret
        exact ⟨⟨k, rfl, .inl ⟨k, x, HX.out, HZ.out, HC.out, rfl⟩⟩, K1.below⟩
    · obtain rfl : n = k := by omega
      have hd : decide ((n : Int) < (n : Int)) = false := by simp
      go_wp2_with fail
      go_ret
      exact ⟨⟨-1, rfl, .inr ⟨rfl, fun x hx => by
        obtain ⟨j, hj⟩ := List.getElem?_of_mem hx
        exact HC.out j x (by have := (List.getElem?_eq_some_iff.1 hj).1; rw [HL.out] at this; exact this) hj⟩⟩, H.below⟩
theorem uhasC_any (w : World) (A : Option Addr) (n c : Nat) (l : List Rw) (b : Nat) (id : Int) (t : TypeId) (hb : Ro w None_ (fun w => w.heap[b]? = some (.cells #[.int .i64 id] t (0, 0)))) (hD : Ro w None_ (RwsIn A n l)) (hn : n ≤ 4611686018427387904) :
    Calls Tryz.prog 126 #[.slice A n c, has1V b] w fun e w' => e = .returned (.bool ((l.map Rw.id).contains id)) ∧ Below w.heap.size w w' := by
  go_enter Tryz.func126, Tryz.ntmps126
  go_wp2_with fail
  refine (uhasI_any w A n c l b id t hb hD hn).mono ?_
  rintro e w1 ⟨⟨r, rfl, hr⟩, b1⟩
  have HB := hid b1
  clear b1
  rcases hr with ⟨k, x, hx, hp, _, rfl⟩ | ⟨rfl, hall⟩
  · have h0 : decide ((k : Int) ≥ 0) = true := by simp
    have HN := hid (show (l.map Rw.id).contains id = true from by
      have h := List.mem_map_of_mem (f := Rw.id) (List.mem_of_getElem? hx)
      rw [of_decide_eq_true hp] at h
      simpa using h)
    clear hx hp
    go_wp2_with fail
    go_ret
    exact ⟨by rw [HN.out] <;> first | rfl | simp, HB.out⟩
  · have HN := hid (show (l.map Rw.id).contains id = false from by
      rw [Bool.eq_false_iff]
      intro h
      obtain ⟨x, hx, e⟩ := List.mem_map.1 (List.contains_iff_mem.1 h)
      have := hall x hx
      rw [decide_eq_true e] at this; cases this)
    clear hall
    go_wp2_with fail
    go_ret
    exact ⟨by rw [HN.out] <;> first | rfl | simp, HB.out⟩
set_option maxHeartbeats 2000000 in
theorem uhas_any (w : World) (x : Te) (g : Nat) (id : Int) (hT : Ro w None_ (fun w => w.heap[g]? = some (.cells #[.string x.nm, .slice x.A x.n x.c, .int .i64 x.nx, .slice x.B x.m x.d] 58 (0, 0)))) (hR : Ro w None_ (RwsIn x.B x.m x.l)) (hm : x.m ≤ 4611686018427387904) :
    Calls Tryz.prog 125 #[.int .i64 id, .pointer (some ⟨g, 0, none⟩)] w fun e w' => e = .returned (.bool ((x.l.map Rw.id).contains id)) ∧ Below w.heap.size w w' := by
  have K0 := (((Hold.start None_ w (fun b hb => hb.elim)).add (hR.less (by simp [Mut]))).add (hT.less (by simp [Mut, Hp.foot]))).alloc_cst #[.int .i64 id] 3
  clear hR hT
  have f3 := cell_of_row _ _ 3 _ _ _ (K0.ro 1 rfl).now
  have fl := Blk.lt (K0.ro 1 rfl).now
  obtain ⟨v, hv⟩ : ∃ v, v = (x.l.map Rw.id).contains id := ⟨_, rfl⟩
  rw [← hv]
  have HV := hid hv
  clear hv
  go_enter Tryz.func125, Tryz.ntmps125
  go_wp2_with fail
  refine (uhasC_any _ x.B x.m x.d x.l w.heap.size id 3 ((K0.get 0 rfl : Ro _ _ _).less fun b hb => hb.elim) ((K0.ro 2 rfl).less fun b hb => hb.elim) hm).mono ?_
  rintro e w1 ⟨rfl, b1⟩
  have K1 := K0.call b1
  rw [← HV.out]
  clear K0 b1 f3 fl
  go_wp2_with fail
  go_ret
  exact ⟨rfl, K1.below⟩
set_option maxHeartbeats 2000000 in
theorem unot_any (w : World) (x : Te) (g h : Nat) (id : Int) (t : TypeId) (hV : Ro w None_ (fun w => w.heap[h]? = some (.cells #[hasV g] t (0, 0)))) (hT : Ro w None_ (fun w => w.heap[g]? = some (.cells #[.string x.nm, .slice x.A x.n x.c, .int .i64 x.nx, .slice x.B x.m x.d] 58 (0, 0)))) (hR : Ro w None_ (RwsIn x.B x.m x.l)) (hm : x.m ≤ 4611686018427387904) :
    Calls Tryz.prog 130 #[.int .i64 id, .pointer (some ⟨h, 0, none⟩)] w fun e w' => e = .returned (.bool (!(x.l.map Rw.id).contains id)) ∧ Below w.heap.size w w' := by
  have f0 := cell_of_row _ _ 0 _ _ _ hV.now
  have fl := Blk.lt hV.now
  obtain ⟨v, hv⟩ : ∃ v, v = (x.l.map Rw.id).contains id := ⟨_, rfl⟩
  rw [← hv]
  have HV := hid hv
  clear hv
  go_enter Tryz.func130, Tryz.ntmps130
  go_wp2_with fail
  refine (uhas_any w x g id hT hR hm).mono ?_
  rintro e w1 ⟨rfl, b1⟩
  rw [← HV.out]
  have HB := hid b1
  clear b1 f0 fl
  go_wp2_with fail
  go_ret
  exact ⟨by first | rfl | simp, HB.out⟩
set_option maxHeartbeats 2000000 in
theorem uturn1_any (w : World) (x : Rw) (b : Nat) (id : Int) (A2 : Option Addr) (n2 c2 : Nat) (t : TypeId) (hb : w.heap[b]? = some (.cells #[.int .i64 id, .slice A2 n2 c2] t (0, 0))) :
    Calls Tryz.prog 133 #[.agg #[.int .i64 x.id, .slice x.A x.n x.c], .pointer (some ⟨b, 0, none⟩)] w fun e w' => e = .returned (.bool (decide (x.id = id))) ∧ Below w.heap.size w w' := by
  have hbl : b < w.heap.size := Blk.lt (t := t) (cs := #[.int .i64 id, .slice A2 n2 c2]) hb
  have K0 := ((Hold.begin_ w).addCst (g := b) (t := t) (cs := #[.int .i64 id, .slice A2 n2 c2]) (fun w2 h1 h2 => (h2 b hbl (by simp [Mut, None_])).trans hb)).alloc_cst #[.int .i64 x.id, .slice x.A x.n x.c] 119
  have F0 := K0.facts
  simp only [World.size_alloc, World.size_drew, factsL, cellsF, Nat.reduceAdd, List.toList_toArray, List.set_cons_zero, List.set_cons_succ, List.setIfInBounds_toArray, and_true, true_and] at F0
  have e0 : (x.id == id) = decide (x.id = id) := by by_cases h : x.id = id <;> simp [h]
  go_enter Tryz.func133, Tryz.ntmps133
  go_wp2_with fail
  go_ret
  exact ⟨by first | rfl | simp [e0] | rw [e0], K0.below⟩
set_option maxHeartbeats 2000000 in
set_option maxRecDepth 100000 in
theorem uturnI_any (w : World) (A : Option Addr) (n c : Nat) (l : List Rw) (b : Nat) (id : Int) (A2 : Option Addr) (n2 c2 : Nat) (t : TypeId) (hb : Ro w None_ (fun w => w.heap[b]? = some (.cells #[.int .i64 id, .slice A2 n2 c2] t (0, 0)))) (hD : Ro w None_ (RwsIn A n l)) (hn : n ≤ 4611686018427387904) :
    Calls Tryz.prog 132 #[.slice A n c, turnV b] w fun e w' => (∃ r : Int, e = .returned (.int .i64 r) ∧ ((∃ (k : Nat) (x : Rw), l[k]? = some x ∧ decide (x.id = id) = true ∧ (∀ (j : Nat) (x : Rw), j < k → l[j]? = some x → decide (x.id = id) = false) ∧ r = k) ∨ (r = -1 ∧ ∀ x ∈ l, decide (x.id = id) = false))) ∧ Below w.heap.size w w' := by
  have HL := hid hD.now.len
  have K0 := ((Hold.start None_ w (fun b hb => hb.elim)).add (hb.less (by simp [Mut]))).add (hD.less (by simp [Mut, Hp.foot]))
  go_enter Tryz.func132, Tryz.ntmps132
  go_wp2_with fail
  go_loopw [8] (fun iv wr => ∃ (k : Nat), k ≤ n ∧ iv = .int .i64 k ∧ Hid (∀ (j : Nat) (x : Rw), j < k → l[j]? = some x → decide (x.id = id) = false) ∧ Hold None_ none w wr [.ro (RwsIn A n l), .ro (fun w => w.heap[b]? = some (.cells #[.int .i64 id, .slice A2 n2 c2] t (0, 0)))]) (fun iv _ => n - (intOf iv).toNat)
  case atStart => exact ⟨0, by omega, rfl, hid (fun j x hj => by omega), K0⟩
  case round =>
    clear K0
    obtain ⟨k, hk, rfl, HC, H⟩ := hrel
    by_cases hlt : k < n
    · have hd : decide ((k : Int) < (n : Int)) = true := by simp; omega
      have i0 : (0 : Int) ≤ (k : Int) := by omega
      have i1 : (k : Int) < (n : Int) := by omega
      obtain ⟨x, hx⟩ := get_of HL.out hlt
      obtain ⟨b_, o, rfl, hb_, c0, c1, _⟩ := (H.ro 0 rfl).now.at_ hx
      have HX := hid hx
      clear hx
      go_wp2_with fail
      refine (uturn1_any wr x b id A2 n2 c2 t (H.ro 1 rfl).now).mono ?_
      rintro e w1 ⟨rfl, b1⟩
      have K1 := H.call b1
      clear H b1
      cases hz : decide (x.id = id)
      · have HN := hid (show ∀ (j : Nat) (x : Rw), j < k + 1 → l[j]? = some x → decide (x.id = id) = false from fun j y hj hy => by
          rcases Nat.lt_or_ge j k with h | h
          · exact HC.out j y h hy
          · obtain rfl : j = k := by omega
            have hx := HX.out
            rw [hx] at hy; injection hy with hy; subst hy; exact hz)
        clear hz
        go_wp2_with fail
        go_roundw
        case rel => exact ⟨k + 1, by omega, by go_num, HN, K1⟩
        case measure => simp [intOf]; omega
      · have HZ := hid hz
        clear hz
        go_wp2_with fail
        go_ret
        exact ⟨⟨k, rfl, .inl ⟨k, x, HX.out, HZ.out, HC.out, rfl⟩⟩, K1.below⟩
    · obtain rfl : n = k := by omega
      have hd : decide ((n : Int) < (n : Int)) = false := by simp
      go_wp2_with fail
      go_ret
      exact ⟨⟨-1, rfl, .inr ⟨rfl, fun x hx => by
        obtain ⟨j, hj⟩ := List.getElem?_of_mem hx
        exact HC.out j x (by have := (List.getElem?_eq_some_iff.1 hj).1; rw [HL.out] at this; exact this) hj⟩⟩, H.below⟩
set_option maxHeartbeats 2000000 in
set_option maxRecDepth 100000 in
theorem uneverI_any (w : World) (A : Option Addr) (n c : Nat) (xs : List Int) (x : Te) (g : Nat) (hT : Ro w None_ (fun w => w.heap[g]? = some (.cells #[.string x.nm, .slice x.A x.n x.c, .int .i64 x.nx, .slice x.B x.m x.d] 58 (0, 0)))) (hR : Ro w None_ (RwsIn x.B x.m x.l)) (hm : x.m ≤ 4611686018427387904) (hD : Ro w None_ (IsIn A n xs)) (hn : n ≤ 4611686018427387904) (hall : ∀ y ∈ xs, (x.l.map Rw.id).contains y = false) :
    Calls Tryz.prog 189 #[.slice A n c, hasV g] w fun e w' => e = .returned (.int .i64 (-1)) ∧ Below w.heap.size w w' := by
  have HL := hid hD.now.len
  have HALL := hid hall
  clear hall
  have K0 := ((((Hold.start None_ w (fun b hb => hb.elim)).add (hR.less (by simp [Mut]))).add (hT.less (by simp [Mut, Hp.foot])))).add (hD.less (by simp [Mut, Hp.foot]))
  clear hD hR hT
  go_enter Tryz.func189, Tryz.ntmps189
  go_wp2_with fail
  go_loopw [8] (fun iv wr => ∃ (k : Nat), k ≤ n ∧ iv = .int .i64 k ∧ Hold None_ none w wr [.ro (IsIn A n xs), .ro (fun w => w.heap[g]? = some (.cells #[.string x.nm, .slice x.A x.n x.c, .int .i64 x.nx, .slice x.B x.m x.d] 58 (0, 0))), .ro (RwsIn x.B x.m x.l)]) (fun iv _ => n - (intOf iv).toNat)
  case atStart => exact ⟨0, by omega, rfl, K0⟩
  case round =>
    clear K0
    obtain ⟨k, hk, rfl, H⟩ := hrel
    by_cases hlt : k < n
    · have hd : decide ((k : Int) < (n : Int)) = true := by simp; omega
      have i0 : (0 : Int) ≤ (k : Int) := by omega
      have i1 : (k : Int) < (n : Int) := by omega
      obtain ⟨b, o, rfl, hb, hcc⟩ := (H.ro 0 rfl).now.cells (by omega)
      have hkl : k < xs.length := by rw [HL.out]; exact hlt
      have HX := hid (HALL.out (xs.getD k 0) (by
        have h : xs[k]? = some (xs.getD k 0) := by simp [List.getD, hkl]
        exact List.mem_of_getElem? h))
      have ck := hcc k hkl
      clear hcc
      generalize xs.getD k 0 = z at *
      go_wp2_with fail
      refine (uhas_any wr x g z ((H.ro 1 rfl).less fun b hb => hb.elim) ((H.ro 2 rfl).less fun b hb => hb.elim) hm).mono ?_
      rw [HX.out]
      rintro e w1 ⟨rfl, b1⟩
      have K1 := H.call b1
      clear H b1
      go_wp2_with fail
      go_roundw
      case rel => exact ⟨k + 1, by omega, by go_num, K1⟩
      case measure => simp [intOf]; omega
    · obtain rfl : n = k := by omega
      have hd : decide ((n : Int) < (n : Int)) = false := by simp
      go_wp2_with fail
      go_ret
      exact ⟨by first | rfl | simp, H.below⟩
theorem unever_any (w : World) (A : Option Addr) (n c : Nat) (xs : List Int) (x : Te) (g : Nat) (hT : Ro w None_ (fun w => w.heap[g]? = some (.cells #[.string x.nm, .slice x.A x.n x.c, .int .i64 x.nx, .slice x.B x.m x.d] 58 (0, 0)))) (hR : Ro w None_ (RwsIn x.B x.m x.l)) (hm : x.m ≤ 4611686018427387904) (hD : Ro w None_ (IsIn A n xs)) (hn : n ≤ 4611686018427387904) (hall : ∀ y ∈ xs, (x.l.map Rw.id).contains y = false) :
    Calls Tryz.prog 129 #[.slice A n c, hasV g] w fun e w' => e = .returned (.bool false) ∧ Below w.heap.size w w' := by
  go_enter Tryz.func129, Tryz.ntmps129
  go_wp2_with fail
  refine (uneverI_any w A n c xs x g hT hR hm hD hn hall).mono ?_
  rintro e w1 ⟨rfl, b1⟩
  have HB := hid b1
  clear b1
  have h0 : decide ((-1 : Int) ≥ 0) = false := by decide
  go_wp2_with fail
  go_ret
  exact ⟨by first | rfl | simp, HB.out⟩
set_option maxHeartbeats 2000000 in
set_option maxRecDepth 100000 in
theorem uallI_any (w : World) (A : Option Addr) (n c : Nat) (xs : List Int) (x : Te) (g : Nat) (h : Nat) (t : TypeId) (hV : Ro w None_ (fun w => w.heap[h]? = some (.cells #[hasV g] t (0, 0)))) (hT : Ro w None_ (fun w => w.heap[g]? = some (.cells #[.string x.nm, .slice x.A x.n x.c, .int .i64 x.nx, .slice x.B x.m x.d] 58 (0, 0)))) (hR : Ro w None_ (RwsIn x.B x.m x.l)) (hm : x.m ≤ 4611686018427387904) (hD : Ro w None_ (IsIn A n xs)) (hn : n ≤ 4611686018427387904) (hall : ∀ y ∈ xs, (x.l.map Rw.id).contains y = true) :
    Calls Tryz.prog 189 #[.slice A n c, notV h] w fun e w' => e = .returned (.int .i64 (-1)) ∧ Below w.heap.size w w' := by
  have HL := hid hD.now.len
  have HALL := hid hall
  clear hall
  have K0 := ((((Hold.start None_ w (fun b hb => hb.elim)).add (hR.less (by simp [Mut]))).add (hT.less (by simp [Mut, Hp.foot]))).add (hV.less (by simp [Mut, Hp.foot]))).add (hD.less (by simp [Mut, Hp.foot]))
  clear hD hR hT
  go_enter Tryz.func189, Tryz.ntmps189
  go_wp2_with fail
  go_loopw [8] (fun iv wr => ∃ (k : Nat), k ≤ n ∧ iv = .int .i64 k ∧ Hold None_ none w wr [.ro (IsIn A n xs), .ro (fun w => w.heap[h]? = some (.cells #[hasV g] t (0, 0))), .ro (fun w => w.heap[g]? = some (.cells #[.string x.nm, .slice x.A x.n x.c, .int .i64 x.nx, .slice x.B x.m x.d] 58 (0, 0))), .ro (RwsIn x.B x.m x.l)]) (fun iv _ => n - (intOf iv).toNat)
  case atStart => exact ⟨0, by omega, rfl, K0⟩
  case round =>
    clear K0
    obtain ⟨k, hk, rfl, H⟩ := hrel
    by_cases hlt : k < n
    · have hd : decide ((k : Int) < (n : Int)) = true := by simp; omega
      have i0 : (0 : Int) ≤ (k : Int) := by omega
      have i1 : (k : Int) < (n : Int) := by omega
      obtain ⟨b, o, rfl, hb, hcc⟩ := (H.ro 0 rfl).now.cells (by omega)
      have hkl : k < xs.length := by rw [HL.out]; exact hlt
      have HX := hid (HALL.out (xs.getD k 0) (by
        have h : xs[k]? = some (xs.getD k 0) := by simp [List.getD, hkl]
        exact List.mem_of_getElem? h))
      have ck := hcc k hkl
      clear hcc
      generalize xs.getD k 0 = z at *
      go_wp2_with fail
      refine (unot_any wr x g h z t ((H.ro 1 rfl).less fun b hb => hb.elim) ((H.ro 2 rfl).less fun b hb => hb.elim) ((H.ro 3 rfl).less fun b hb => hb.elim) hm).mono ?_
      rw [HX.out]
      rintro e w1 ⟨rfl, b1⟩
      have K1 := H.call b1
      clear H b1
      go_wp2_with fail
      go_roundw
      case rel => exact ⟨k + 1, by omega, by go_num, K1⟩
      case measure => simp [intOf]; omega
    · obtain rfl : n = k := by omega
      have hd : decide ((n : Int) < (n : Int)) = false := by simp
      go_wp2_with fail
      go_ret
      exact ⟨by first | rfl | simp, H.below⟩
theorem uall_any (w : World) (A : Option Addr) (n c : Nat) (xs : List Int) (x : Te) (g : Nat) (h : Nat) (t : TypeId) (hV : Ro w None_ (fun w => w.heap[h]? = some (.cells #[hasV g] t (0, 0)))) (hT : Ro w None_ (fun w => w.heap[g]? = some (.cells #[.string x.nm, .slice x.A x.n x.c, .int .i64 x.nx, .slice x.B x.m x.d] 58 (0, 0)))) (hR : Ro w None_ (RwsIn x.B x.m x.l)) (hm : x.m ≤ 4611686018427387904) (hD : Ro w None_ (IsIn A n xs)) (hn : n ≤ 4611686018427387904) (hall : ∀ y ∈ xs, (x.l.map Rw.id).contains y = true) :
    Calls Tryz.prog 129 #[.slice A n c, notV h] w fun e w' => e = .returned (.bool false) ∧ Below w.heap.size w w' := by
  go_enter Tryz.func129, Tryz.ntmps129
  go_wp2_with fail
  refine (uallI_any w A n c xs x g h t hV hT hR hm hD hn hall).mono ?_
  rintro e w1 ⟨rfl, b1⟩
  have HB := hid b1
  clear b1
  have h0 : decide ((-1 : Int) ≥ 0) = false := by decide
  go_wp2_with fail
  go_ret
  exact ⟨by first | rfl | simp, HB.out⟩
end Go.Proofs.YtedogodccblfeaaGreatDoor

namespace Go.Proofs.YtedogodccblfeaaGreatDoor
open Go.RowKit
set_option linter.unusedVariables false
set_option linter.unusedSimpArgs false

set_option maxHeartbeats 4000000 in
set_option maxRecDepth 100000 in
theorem growI_any (w : World) (n : Nat) (hn : n ≤ 1000000000) :
    Calls Tryz.prog 220 #[.slice none 0 0, .int .i64 n] w fun e w' => ∃ (A : Option Addr) (c : Nat), e = .returned (.slice A 0 c) ∧ w'.ownsRow w.heap.size 3 1 (.slice A 0 c) 0 [] ∧ Below w.heap.size w w' := by
  rcases Nat.eq_zero_or_pos n with h0 | h0
  · subst h0
    go_enter Tryz.func220, Tryz.ntmps220
    go_wp2_with fail
    go_ret
    exact ⟨none, 0, rfl, World.ownsRow_nil _ _ _ _, Below.refl _ _⟩
  · obtain ⟨i0, hi0, hz0, hz1, hz2⟩ := info_parts Tryz.elIntC.hi
    have hold : (Builtin.firstCells i0.size 0 (.slice none 0 0)).run Tryz.prog w.drew = .ok ([] : List Value).toArray w.drew := run_firstCells_none w.drew i0.size 0 0 0
    have hrz : ∀ ty, (Builtin.append_ #[22, 3] ty #[.slice none 0 0, .int .i64 (n : Int)]).run Tryz.prog w =
        .ok (.slice (some ⟨w.heap.size, 0, none⟩) n (grownCap w n 0 3)) (w.drew.alloc (.cells (([] : List Value).toArray ++ Builtin.zeroCells (Value.int .i64 0).cells n ++ Builtin.zeroCells (Value.int .i64 0).cells (grownCap w n 0 3 - n)) 3)) := fun ty => by
      have h := Lib.run_append_grow_zeros w 22 3 ty 3 i0 (.int .i64 0) .i64 .i64 Tryz.underlying22 Tryz.underlying3 hi0 hz0 none 0 0 [] hold n (by omega) (by rw [hz1]; omega) (by omega) (by omega) (by rw [hz2]; omega) (by rw [Nat.zero_add]; exact growslice_fits h0 (by rw [hz2]; omega))
      rw [Nat.zero_add] at h
      exact h
    have hGn : n ≤ grownCap w n 0 3 := grownCap_ge w _ _ _
    have hGm : grownCap w n 0 3 ≤ maxLen := grownCap_le_maxLen w n 0 3 (by unfold maxLen; omega)
    obtain ⟨G, hG⟩ : ∃ G, G = grownCap w n 0 3 := ⟨_, rfl⟩
    rw [← hG] at hrz hGn hGm
    have hG63 : G ≤ 9223372036854775807 := by unfold maxLen at hGm; omega
    clear hold hG
    have HGM := hid hGm
    clear hGm
    go_enter Tryz.func220, Tryz.ntmps220
    go_wp2_with (at_builtin; refine Lib.wpList_append_run _ rfl _ _ _ _ rfl _ _ rfl rfl _ _ (hrz _) ?_)
    all_goals (go_ret; exact ⟨some ⟨w.heap.size, 0, none⟩, G, rfl, ⟨by simp, .inr ⟨w.heap.size, G, _, rfl, Nat.le_refl _, heap_alloc_new w.drew _, Nat.zero_le _, HGM.out, by simp [Builtin.zeroCells, Value.cells]; omega, by simp⟩⟩, ⟨rfl, rfl, rfl, by simp, fun k hk => heap_alloc_old w.drew _ hk⟩⟩)
def catN (k n m : Nat) : Nat := if k = 0 then 0 else if k = 1 then n else n + m
def catX (k : Nat) (xs ys : List Int) : List Int := if k = 0 then [] else if k = 1 then xs else xs ++ ys
set_option maxHeartbeats 4000000 in
set_option maxRecDepth 100000 in
theorem catI_any (M : Nat → Prop) (w : World) (hM : ∀ b, M b → b < w.heap.size) (g : Nat) (A : Option Addr) (n c : Nat) (xs : List Int) (B : Option Addr) (m d : Nat) (ys : List Int) (hG : Ro w M (SlR 1 (some ⟨g, 0, none⟩) 2 [.slice A n c, .slice B m d])) (hA : Ro w M (IsIn A n xs)) (hB : Ro w M (IsIn B m ys)) (hn : n ≤ 100000000) (hm : m ≤ 100000000) :
    Calls Tryz.prog 188 #[.slice (some ⟨g, 0, none⟩) 2 2] w fun e w' => OwnIs w (xs ++ ys) e w' := by
  have HA := hid hA.now.len
  have HB := hid hB.now.len
  have K0 := (((Hold.start M w hM).add (hB.less (by simp [Mut]))).add (hA.less (by simp [Mut, Hp.foot]))).add (hG.less (by simp [Mut, Hp.foot]))
  clear hA hB hG
  go_enter Tryz.func188, Tryz.ntmps188
  go_wp2_with fail
  go_loopw [3, 11] (fun tv iv wr => ∃ (k : Nat), k ≤ 2 ∧ iv = .int .i64 k ∧ tv = .int .i64 (catN k n m) ∧ Hold M none w wr [.ro (SlR 1 (some ⟨g, 0, none⟩) 2 [.slice A n c, .slice B m d]), .ro (IsIn A n xs), .ro (IsIn B m ys)]) (fun _ iv _ => 2 - (intOf iv).toNat)
  case atStart => exact ⟨0, by omega, rfl, rfl, K0⟩
  case round =>
    clear K0
    obtain ⟨k, hk, rfl, rfl, H⟩ := hrel
    by_cases hlt : k < 2
    · have hd : decide ((k : Int) < 2) = true := by simp; omega
      obtain ⟨b, o, hbo, hb, hc⟩ := (H.ro 0 rfl).now.2 (by omega)
      injection hbo with hbo
      injection hbo with e1 e2
      subst e1 e2
      have c0 := hc 0 _ rfl
      have c1 := hc 1 _ rfl
      simp only [Nat.zero_add, Nat.add_zero] at c0 c1
      clear hc
      obtain rfl | rfl : k = 0 ∨ k = 1 := by omega
      · have q1 : catN 0 n m = 0 := rfl
        rw [q1]
        go_wp2_with fail
        go_roundw
        case rel => exact ⟨1, by omega, by go_num, by first | rfl | (simp [catN]), H⟩
        case measure => simp [intOf]
      · have q1 : catN 1 n m = n := rfl
        rw [q1]
        go_wp2_with fail
        go_roundw
        case rel => exact ⟨2, by omega, by go_num, by first | rfl | (simp [catN]), H⟩
        case measure => simp [intOf]
    · obtain rfl : k = 2 := by omega
      have hd : decide (((2 : Nat) : Int) < 2) = false := by decide
      have q1 : catN 2 n m = n + m := rfl
      rw [q1]
      go_wp2_with fail
      refine (growI_any _ (n + m) (by omega)).mono ?_
      rintro e w2 ⟨G, gc, rfl, ho, hb⟩
      have K1 := H.callOwn hb ho
      clear H hb ho
      go_wp2_with fail
      go_loopw [6, 27] (fun tv iv wr => ∃ (k q cap : Nat) (O : Option Addr), k ≤ 2 ∧ iv = .int .i64 k ∧ tv = .slice O q cap ∧ q = catN k n m ∧ Hold M none w wr [.own 3 1 (.slice O q cap) q (iCells (catX k xs ys)), .ro (SlR 1 (some ⟨g, 0, none⟩) 2 [.slice A n c, .slice B m d]), .ro (IsIn A n xs), .ro (IsIn B m ys)]) (fun _ iv _ => 2 - (intOf iv).toNat)
      case atStart => exact ⟨0, 0, gc, G, by omega, rfl, rfl, rfl, K1⟩
      case round =>
        clear K1
        obtain ⟨k, q, cap, O, hk, rfl, rfl, hq, H⟩ := hrel
        by_cases hlt : k < 2
        · have hd : decide ((k : Int) < 2) = true := by simp; omega
          obtain ⟨b, o, hbo, hb, hc⟩ := (H.ro 1 rfl).now.2 (by omega)
          injection hbo with hbo
          injection hbo with e1 e2
          subst e1 e2
          have c0 := hc 0 _ rfl
          have c1 := hc 1 _ rfl
          simp only [Nat.zero_add, Nat.add_zero] at c0 c1
          clear hc
          obtain rfl | rfl : k = 0 ∨ k = 1 := by omega
          · have hr := hid (show SlR 1 A n (iCells xs) wr from (H.ro 2 rfl).now)
            obtain rfl : q = 0 := hq
            go_wp2_with (at_builtin; go_must (refine wpList_appAllH H 0 rfl Tryz.elIntC hr.out rfl (.tmp 31) (.tmp 32) rfl rfl rfl (iCells_one _) (by omega) (by omega) ?_); intro C' cap' w6 hc6 hm6 KB; simp only [List.set_cons_zero, List.set_cons_succ] at KB)
            have e9 : iCells (catX 0 xs ys) ++ iCells xs = iCells (catX 1 xs ys) := by simp [catX, iCells]
            rw [e9] at KB
            (try simp only [Nat.zero_add] at KB)
            go_roundw
            case rel => exact ⟨1, n, cap', _, by omega, by go_num, by first | rfl | trivial, by simp [catN], KB⟩
            case measure => simp [intOf]
          · have hr := hid (show SlR 1 B m (iCells ys) wr from (H.ro 3 rfl).now)
            obtain rfl : n = q := hq.symm
            clear hq
            go_wp2_with (at_builtin; go_must (refine wpList_appAllH H 0 rfl Tryz.elIntC hr.out rfl (.tmp 31) (.tmp 32) rfl rfl rfl (iCells_one _) (by omega) (by omega) ?_); intro C' cap' w6 hc6 hm6 KB; simp only [List.set_cons_zero, List.set_cons_succ] at KB)
            have e9 : iCells (catX 1 xs ys) ++ iCells ys = iCells (catX 2 xs ys) := by simp [catX, iCells]
            rw [e9] at KB
            go_roundw
            case rel => exact ⟨2, n + m, cap', _, by omega, by go_num, by first | rfl | trivial, by simp [catN], KB⟩
            case measure => simp [intOf]
        · obtain rfl : k = 2 := by omega
          have hd : decide (((2 : Nat) : Int) < 2) = false := by decide
          have HOW := hid (H.get 0 rfl)
          have HBL := hid H.below
          have HQ := hid (show q = (xs ++ ys).length by rw [hq, List.length_append, HA.out, HB.out]; rfl)
          clear H
          go_wp2_with fail
          go_ret
          exact ⟨O, q, cap, rfl, HQ.out, HOW.out, HBL.out⟩
end Go.Proofs.YtedogodccblfeaaGreatDoor

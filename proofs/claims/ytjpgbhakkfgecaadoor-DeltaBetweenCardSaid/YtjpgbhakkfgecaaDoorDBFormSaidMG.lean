/- DBFormSaid: DeltaBetween: what Between answers of two tables. -/
import Derived.Test.YtjpgbhakkfgecaaDoorDBFormSaidMF
import Derived.Test.YtjpgbhakkfgecaaDoorDBFormSaidMB
import Derived.Test.YtjpgbhakkfgecaaDoorDBFormSaidMC
import Derived.Test.YtjpgbhakkfgecaaDoorDBFormSaidMA
import Derived.Test.YtjpgbhakkfgecaaDoorDBFormSaidMD
import Derived.Test.YtjpgbhakkfgecaaDoorDBFormSaidME
import Derived.Test.YtjpgbhakkfgecaaDoorCards
import Derived.Test.YtjpgbhakkfgecaaDoorTie
namespace Go.Proofs.YtjpgbhakkfgecaaDoor
open Go.RowKit
set_option linter.unusedVariables false
set_option linter.unusedSimpArgs false

set_option maxHeartbeats 8000000 in
set_option maxRecDepth 100000 in
theorem dbetw_any (M : Nat → Prop) (w : World) (hM : ∀ b, M b → b < w.heap.size) (va vb : Value) (a b : Tb) (hTa : TbAt w M va a) (hTb : TbAt w M vb b) (hsa : a.nm.size ≤ maxLen) (hca : ∀ x ∈ a.cs, x.name.size ≤ maxLen) (hra : a.rs.length ≤ 4398046511104) (hsb : b.nm.size ≤ maxLen) (hcb : ∀ x ∈ b.cs, x.name.size ≤ maxLen) (hrb : b.rs.length ≤ 4398046511104) :
    Calls Tryd.prog 22 #[va, vb] w fun e w' => BetRet w M (betweenC a b) e w' := by
  obtain ⟨aA, an, ac, aB, am, ad, la, rfl, a1, a2, a3, a4, a5, a6, a7, a8⟩ := hTa
  obtain ⟨bA, bn, bc, bB, bm, bd, lb, rfl, b1, b2, b3, b4, b5, b6, b7, b8⟩ := hTb
  have HAL := hid (show la.length = am from a6.now.len)
  have HBL := hid (show lb.length = bm from b6.now.len)
  have HAR := hid a8
  have HBR := hid b8
  have HAO := hid a7
  have HBO := hid b7
  have HAE := hid a6.now
  have HBE := hid b6.now
  have HAC := hid (show a.cs.length = an from cols_n a5.now)
  have ham : am ≤ 4398046511104 := by have := HAL.out; have h := congrArg List.length a8; rw [List.length_map] at h; omega
  have hbm : bm ≤ 4398046511104 := by have := HBL.out; have h := congrArg List.length b8; rw [List.length_map] at h; omega
  have K0 := (((((((Hold.start M w hM).add (b6.less (by simp [Mut]))).add (b5.less (by simp [Mut, Hp.foot]))).add (a6.less (by simp [Mut, Hp.foot]))).add (a5.less (by simp [Mut, Hp.foot]))).alloc_cst #[.string a.nm, .slice aA an ac, .int .i64 a.nx, .slice aB am ad] 27).alloc_cst #[.string b.nm, .slice bA bn bc, .int .i64 b.nx, .slice bB bm bd] 27).alloc #[.string ⟨#[]⟩, .slice none 0 0, .slice none 0 0, .slice none 0 0] 41
  simp only [World.size_alloc] at K0
  have F0 := K0.facts
  simp only [World.size_alloc, World.size_drew, factsL, cellsF, Nat.reduceAdd, List.toList_toArray, List.set_cons_zero, List.set_cons_succ, List.setIfInBounds_toArray, and_true, true_and] at F0
  clear a5 a6 a7 a8 b5 b6 b7 b8
  go_enter Tryd.func22, Tryd.ntmps22
  go_wp2
  go_step3
  go_wp2_with fail
  obtain ⟨g2, hg2⟩ : ∃ g, g = w.heap.size := ⟨_, rfl⟩
  obtain ⟨g3, hg3⟩ : ∃ g, g = g2 + 1 := ⟨_, rfl⟩
  obtain ⟨g4, hg4⟩ : ∃ g, g = g3 + 1 := ⟨_, rfl⟩
  rw [← hg2, ← hg3, ← hg4] at K0 ⊢
  clear F0
  generalize ((w.alloc _).alloc _).alloc _ = w1 at K0 ⊢
  have HGX := hid hg2
  clear hg2 hg3 hg4
  have hv := tvalid_any _ _ K0.mutLt a.nm aA an ac a.cs a.nx aB am ad la (K0.ro 3 rfl) (K0.ro 4 rfl) (by omega) (by omega) HAO.out hsa hca
  rw [HAR.out] at hv
  refine hv.mono ?_
  clear hv
  rintro e w2 ⟨rfl, b1_⟩
  have K1 := K0.call b1_
  clear K0 b1_
  have F1 := K1.facts
  simp only [World.size_alloc, World.size_drew, factsL, cellsF, Nat.reduceAdd, List.toList_toArray, List.set_cons_zero, List.set_cons_succ, List.setIfInBounds_toArray, and_true, true_and] at F1
  cases hva : tabB a.nm a.cs a.nx a.rs
  · have HN := hid (betC_a (b := b) hva)
    clear hva
    have KN := (((K1.store 0 rfl 0 (.string ⟨#[]⟩)).store 0 rfl 1 (.slice none 0 0)).store 0 rfl 2 (.slice none 0 0)).store 0 rfl 3 (.slice none 0 0)
    go_wp2_with fail
    exact bodyPost_ret (v := .tuple #[.agg #[.string ⟨#[]⟩, .slice none 0 0, .slice none 0 0, .slice none 0 0], .bool false]) (by simp [results, Tryd.results22, go_sem, F1]) rfl ⟨_, by rw [HN.out], by rw [HN.out]; exact dlAt_zero, KN.below⟩
  have HVA := hid hva
  clear hva
  go_wp2_with fail
  have hv := tvalid_any _ _ K1.mutLt b.nm bA bn bc b.cs b.nx bB bm bd lb (K1.ro 5 rfl) (K1.ro 6 rfl) (by omega) (by omega) HBO.out hsb hcb
  rw [HBR.out] at hv
  refine hv.mono ?_
  clear hv
  rintro e w3 ⟨rfl, b1_⟩
  have K2 := K1.call b1_
  clear K1 b1_ F1
  have F2 := K2.facts
  simp only [World.size_alloc, World.size_drew, factsL, cellsF, Nat.reduceAdd, List.toList_toArray, List.set_cons_zero, List.set_cons_succ, List.setIfInBounds_toArray, and_true, true_and] at F2
  cases hvb : tabB b.nm b.cs b.nx b.rs
  · have HN := hid (betC_b (a := a) hvb)
    clear hvb
    have KN := (((K2.store 0 rfl 0 (.string ⟨#[]⟩)).store 0 rfl 1 (.slice none 0 0)).store 0 rfl 2 (.slice none 0 0)).store 0 rfl 3 (.slice none 0 0)
    go_wp2_with fail
    exact bodyPost_ret (v := .tuple #[.agg #[.string ⟨#[]⟩, .slice none 0 0, .slice none 0 0, .slice none 0 0], .bool false]) (by simp [results, Tryd.results22, go_sem, F2]) rfl ⟨_, by rw [HN.out], by rw [HN.out]; exact dlAt_zero, KN.below⟩
  have HVB := hid hvb
  clear hvb hsa hca hsb hcb
  have han6 : an ≤ 6 := by have := tabB_cols HVA.out; have := HAC.out; omega
  have ham1 : am ≤ 100 := by have := (tabB_rows HVA.out).1; have h := congrArg List.length HAR.out; rw [List.length_map] at h; have := HAL.out; omega
  have hbm1 : bm ≤ 100 := by have := (tabB_rows HVB.out).1; have h := congrArg List.length HBR.out; rw [List.length_map] at h; have := HBL.out; omega
  have HSA := hid (rw_short HAE.out (by rw [HAR.out]; exact HVA.out))
  have HSB := hid (rw_short HBE.out (by rw [HBR.out]; exact HVB.out))
  clear ham hbm hra hrb
  go_wp2_with fail
  refine (dsameschema_any _ a.nm aA an ac a.cs b.nm bA bn bc b.cs (K2.ro 3 rfl).now (K2.ro 5 rfl).now (by omega)).mono ?_
  rintro e w4 ⟨rfl, b1_⟩
  have K3 := K2.call b1_
  clear K2 b1_ F2
  have F3 := K3.facts
  simp only [World.size_alloc, World.size_drew, factsL, cellsF, Nat.reduceAdd, List.toList_toArray, List.set_cons_zero, List.set_cons_succ, List.setIfInBounds_toArray, and_true, true_and] at F3
  cases hss : decide (a.nm = b.nm ∧ a.cs = b.cs)
  · have HN := hid (betC_s hss)
    clear hss
    have KN := (((K3.store 0 rfl 0 (.string ⟨#[]⟩)).store 0 rfl 1 (.slice none 0 0)).store 0 rfl 2 (.slice none 0 0)).store 0 rfl 3 (.slice none 0 0)
    go_wp2_with fail
    exact bodyPost_ret (v := .tuple #[.agg #[.string ⟨#[]⟩, .slice none 0 0, .slice none 0 0, .slice none 0 0], .bool false]) (by simp [results, Tryd.results22, go_sem, F3]) rfl ⟨_, by rw [HN.out], by rw [HN.out]; exact dlAt_zero, KN.below⟩
  have HEQ := hid (of_decide_eq_true hss)
  clear hss
  by_cases hnx : b.nx < a.nx
  · have hd : decide (b.nx < a.nx) = true := by simpa using hnx
    have HN := hid (betC_n hnx)
    clear hnx
    have KN := (((K3.store 0 rfl 0 (.string ⟨#[]⟩)).store 0 rfl 1 (.slice none 0 0)).store 0 rfl 2 (.slice none 0 0)).store 0 rfl 3 (.slice none 0 0)
    go_wp2_with fail
    exact bodyPost_ret (v := .tuple #[.agg #[.string ⟨#[]⟩, .slice none 0 0, .slice none 0 0, .slice none 0 0], .bool false]) (by simp [results, Tryd.results22, go_sem, F3]) rfl ⟨_, by rw [HN.out], by rw [HN.out]; exact dlAt_zero, KN.below⟩
  have hd : decide (b.nx < a.nx) = false := by simpa using hnx
  have HST := hid (BSt.zero HVA.out HVB.out HEQ.out (show a.nx ≤ b.nx by omega))
  clear hnx
  have K4 := K3.alloc #[.string a.nm, .slice none 0 0, .slice none 0 0, .slice none 0 0] 41
  go_wp2
  go_step3
  go_wp2
  obtain ⟨g6, hg6⟩ : ∃ g, g = w4.heap.size := ⟨_, rfl⟩
  rw [← hg6] at K4 ⊢
  have HG6 := hid hg6
  clear hg6 hd F3 K3
  generalize World.alloc w4 _ = w5 at K4 ⊢
  have K5 := ((((((K4.add (show Ro _ _ (PrVals []) from fun _ _ _ r hr => nomatch hr)).add (ro_vals_nil _ _)).add (ro_vals_nil _ _)).nil 99 3).nil 53 2).nil 53 2)
  have K6 := K5.add (show Ro _ _ (RwsIn aB am (la.drop 0)) from K5.ro 11 rfl)
  clear K4 K5
  go_loopg [7, 46] bm (fun gh bv iv wr => ∃ (j p np cp ni ci nd cd nu cu : Nat) (Ap I D U : Option Addr) (li ld : List Rw) (lu : List Pr), j + gh = bm ∧ iv = .int .i64 j ∧ bv = .slice Ap np cp ∧ np + p = am ∧ p ≤ am ∧ ni ≤ j ∧ nd ≤ p ∧ nu ≤ j ∧ np ≤ cp ∧ cp ≤ 9223372036854775807 ∧ Hid (BSt a b j p li ld lu) ∧ Hold M none w wr [.ro (RwsIn Ap np (la.drop p)), .own 53 2 (.slice I ni ci) ni (rwCells li), .own 53 2 (.slice D nd cd) nd (rwCells ld), .own 99 3 (.slice U nu cu) nu (prCells lu), .ro (ValsIn li), .ro (ValsIn ld), .ro (PrVals lu), .blk g6 41 #[.string a.nm, .slice I ni ci, .slice D nd cd, .slice U nu cu], .blk g4 41 #[.string ⟨#[]⟩, .slice none 0 0, .slice none 0 0, .slice none 0 0], .cst g3 27 #[.string b.nm, .slice bA bn bc, .int .i64 b.nx, .slice bB bm bd], .cst g2 27 #[.string a.nm, .slice aA an ac, .int .i64 a.nx, .slice aB am ad], .ro (ColsIn aA an a.cs), .ro (RwsIn aB am la), .ro (ColsIn bA bn b.cs), .ro (RwsIn bB bm lb)])
  case atStart => exact ⟨0, 0, am, ad, 0, 0, 0, 0, 0, 0, aB, none, none, none, [], [], [], by omega, rfl, rfl, by omega, by omega, by omega, by omega, by omega, a3, a4, HST, K6⟩
  case round =>
    clear K6
    obtain ⟨j, p, np, cp, ni, ci, nd, cd, nu, cu, Ap, I, D, U, li, ld, lu, hj, rfl, rfl, hnp, hpm, hni, hnd, hnu, hncp, hcp, HBS, H⟩ := hrel
    obtain ⟨wo, rfl⟩ : ∃ wo : World, wo = wr := ⟨_, rfl⟩
    cases gk with
    | succ go =>
      have hlt : j < bm := by omega
      have hd : decide ((j : Int) < (bm : Int)) = true := by simp; omega
      have j0 : (0 : Int) ≤ (j : Int) := by omega
      have j1 : (j : Int) < (bm : Int) := by omega
      obtain ⟨r, hr⟩ := get_of HBL.out hlt
      obtain ⟨bb, bo, rfl, hbb, c0, c1, _⟩ := (H.ro 14 rfl).now.at_ hr
      have HRR := hid (show b.rs[j]? = some r.row by rw [← HBR.out, List.getElem?_map, hr]; rfl)
      have HRO := hid (HBO.out r (List.mem_of_getElem? hr))
      have hrn6 := HSB.out r (List.mem_of_getElem? hr)
      have hxr : Ro wo _ (VlsIn r.A r.n r.vs) := (H.ro 14 rfl).imp fun w2 h2 => h2.2 r (List.mem_of_getElem? hr)
      obtain ⟨rid, rA, rn, rc, rvs⟩ := r
      dsimp only at *
      clear hr
      have K1 := (H.add hxr).alloc_cst #[.int .i64 rid, .slice rA rn rc] 53
      clear H hxr
      obtain ⟨g9, hg9⟩ : ∃ g, g = wo.heap.size := ⟨_, rfl⟩
      rw [← hg9] at K1
      go_wp2_with fail
      rw [← hg9]
      have HG9 := hid hg9
      clear hg9 c0 c1
      generalize World.alloc wo _ = wo2 at K1 ⊢
      go_loopg [7] np (fun gh bv wq => ∃ (p np cp nd cd : Nat) (Ap D : Option Addr) (ld : List Rw), gh = np ∧ bv = .slice Ap np cp ∧ np + p = am ∧ p ≤ am ∧ nd ≤ p ∧ np ≤ cp ∧ cp ≤ 9223372036854775807 ∧ Hid (BSt a b j p li ld lu) ∧ Hold M none w wq [.cst g9 53 #[.int .i64 rid, .slice rA rn rc], .ro (VlsIn rA rn rvs), .ro (RwsIn Ap np (la.drop p)), .own 53 2 (.slice I ni ci) ni (rwCells li), .own 53 2 (.slice D nd cd) nd (rwCells ld), .own 99 3 (.slice U nu cu) nu (prCells lu), .ro (ValsIn li), .ro (ValsIn ld), .ro (PrVals lu), .blk g6 41 #[.string a.nm, .slice I ni ci, .slice D nd cd, .slice U nu cu], .blk g4 41 #[.string ⟨#[]⟩, .slice none 0 0, .slice none 0 0, .slice none 0 0], .cst g3 27 #[.string b.nm, .slice bA bn bc, .int .i64 b.nx, .slice (some ⟨bb, bo, none⟩) bm bd], .cst g2 27 #[.string a.nm, .slice aA an ac, .int .i64 a.nx, .slice aB am ad], .ro (ColsIn aA an a.cs), .ro (RwsIn aB am la), .ro (ColsIn bA bn b.cs), .ro (RwsIn (some ⟨bb, bo, none⟩) bm lb)])
      case atStart => exact ⟨p, np, cp, nd, cd, Ap, D, ld, rfl, rfl, hnp, hpm, hnd, hncp, hcp, HBS, K1⟩
      case round =>
        clear K1 HBS hnp hpm hnd hncp hcp
        clear p np cp nd cd Ap D ld
        obtain ⟨p, np, cp, nd, cd, Ap, D, ld, hgh, rfl, hnp, hpm, hnd, hncp, hcp, HBS, H2⟩ := hrel
        cases gk with
        | succ gi =>
          have hnp0 : 0 < np := by omega
          have hq1 : decide ((np : Int) > 0) = true := by rw [decide_eq_true_iff]; omega
          have hq2 : ((0 : Int) < (np : Int)) := by omega
          obtain ⟨x, hx⟩ := get_of HAL.out (show p < am by omega)
          have HXX := hid (show a.rs[p]? = some x.row by rw [← HAR.out, List.getElem?_map, hx]; rfl)
          have HXO := hid (HAO.out x (List.mem_of_getElem? hx))
          have hxn6 := HSA.out x (List.mem_of_getElem? hx)
          have hdr := drop_cons hx
          have hbf := H2.ro 2 rfl
          rw [hdr] at hbf
          obtain ⟨bx, ox, rfl, _⟩ := hbf.tailRws
          have HDR := hid hdr
          obtain ⟨b', o', e', hbx', x0, x1, _⟩ := hbf.now.at_ (k := 0) rfl
          obtain ⟨rfl, rfl⟩ : bx = b' ∧ ox = o' := by injection e' with e'; injection e' with e1 e2; exact ⟨e1, e2⟩
          simp only [Nat.zero_mul, Nat.add_zero] at x0 x1
          clear hx hdr hbf e'
          obtain ⟨xid, xA, xn, xc, xvs⟩ := x
          dsimp only at *
          have F2 := H2.facts
          simp only [World.size_alloc, World.size_drew, factsL, cellsF, Nat.reduceAdd, List.toList_toArray, List.set_cons_zero, List.set_cons_succ, List.setIfInBounds_toArray, and_true, true_and] at F2
          by_cases hle : xid ≤ rid
          · have hd2 : decide (xid ≤ rid) = true := by simpa using hle
            go_wp2_with fail
            go_quiet (fail)
            have H3 := H2.drewN nq
            clear H2 F2 x0 x1
            obtain ⟨w3, hw3⟩ : ∃ w3, w3 = wr.drewN nq := ⟨_, rfl⟩
            rw [← hw3] at H3 ⊢
            clear hw3
            have hbf : Ro w3 _ (RwsIn (some ⟨bx, ox, none⟩) np (⟨xid, xA, xn, xc, xvs⟩ :: la.drop (p + 1))) := (H3.ro 2 rfl).imp fun w2 h2 => by rw [← HDR.out]; exact h2
            obtain ⟨bx', ox', e', hnxt⟩ := hbf.tailRws
            obtain ⟨rfl, rfl⟩ : bx = bx' ∧ ox = ox' := by injection e' with e'; injection e' with e1 e2; exact ⟨e1, e2⟩
            obtain ⟨b', o', e2', hbx', x0, x1, _⟩ := hbf.now.at_ (k := 0) rfl
            obtain ⟨rfl, rfl⟩ : bx = b' ∧ ox = o' := by injection e2' with e2'; injection e2' with e1 e2; exact ⟨e1, e2⟩
            simp only [Nat.zero_mul, Nat.add_zero] at x0 x1
            have hxx : Ro w3 _ (VlsIn xA xn xvs) := hbf.imp fun w2 h2 => h2.2 _ (List.mem_cons_self ..)
            have K2 := (H3.add hxx).alloc_cst #[.int .i64 xid, .slice xA xn xc] 53
            clear e' e2' hbf hxx
            have hnp1 : 1 ≤ np := by omega
            by_cases hc1 : cp = 1
            · have HZ := hid (show la.drop (p + 1) = [] from List.drop_of_length_le (by rw [HAL.out]; omega))
              have KX := K2.swapRo 4 rfl (Ro.nilRws (A := some ⟨bx, ox, none⟩) (n := np - 1) (l := la.drop (p + 1)) (by omega) HZ.out)
              simp only [List.set_cons_zero, List.set_cons_succ] at KX
              clear K2 H3 hnxt
              have FK := KX.facts
              simp only [World.size_alloc, World.size_drew, factsL, cellsF, Nat.reduceAdd, List.toList_toArray, List.set_cons_zero, List.set_cons_succ, List.setIfInBounds_toArray, and_true, true_and] at FK
              by_cases hlt3 : xid < rid
              · have hd4 : decide (xid < rid) = true := by simpa using hlt3
                obtain ⟨KL, hKL, KN⟩ := KX.name
                have HF : Hid (∀ wv, Hold M none w wv KL → (wv.cell? ⟨g6, 2, none⟩ = some (.slice D nd cd) ∧ g6 < wv.heap.size) ∧ wv.cell? ⟨w3.heap.size, 0, none⟩ = some (.int .i64 xid) ∧ wv.cell? ⟨w3.heap.size, 1, none⟩ = some (.slice xA xn xc) ∧ w3.heap.size < wv.heap.size) := hid fun wv HC => by
                  rw [hKL] at HC
                  have y1 := HC.blk_ 11 rfl
                  have y2 := HC.cst_ 0 rfl
                  exact ⟨⟨cell_of_row _ _ 2 _ _ _ y1, Blk.lt y1⟩, cell_of_row _ _ 0 _ _ _ y2, cell_of_row _ _ 1 _ _ _ y2, Blk.lt y2⟩
                have HRX : Hid (∀ wv, Hold M none w wv KL → Ro wv (Mut M KL) (VlsIn xA xn xvs)) := hid fun wv HC => by
                  rw [hKL] at HC ⊢
                  exact HC.ro 1 rfl
                have HKL := hid hKL
                clear hKL KX
                go_wp2_with fail
                refine wp_region_any (by kernel_rfl) ?_
                refine wpAny_hold 5 128 (KL) (spL [(75, RowSlot (Mut M KL) xid xvs), (76, RBoxSlot (Mut M KL) xid xvs)]) (by kernel_rfl) (by kernel_rfl) (by kernel_rfl) rfl ?_ (KN.drew) ?_
                · exact stays_cons rowSlot_mono (stays_cons rboxSlot_mono (stays_nil _))
                simp only [List.take_succ_cons, List.take_zero, List.drop_succ_cons, List.drop_zero, Act.put, List.getElem_toArray, List.getElem_cons_zero, List.getElem_cons_succ, List.setIfInBounds_toArray, List.set_cons_succ, List.set_cons_zero]
                refine dw_val rfl rfl rfl ?_; apply Exists.intro; refine ⟨fun wv HC => ?_, ?_⟩
                ·  go_simp <;> rfl
                simp only [Act.put, List.setIfInBounds_toArray, List.set_cons_succ, List.set_cons_zero]
                refine dw_val rfl rfl rfl ?_; apply Exists.intro; refine ⟨fun wv HC => ?_, ?_⟩
                · obtain ⟨⟨f0, f1⟩, f2, f3, f4⟩ := HF.out _ HC; go_simp <;> rfl
                simp only [Act.put, List.setIfInBounds_toArray, List.set_cons_succ, List.set_cons_zero]
                refine dw_val rfl rfl rfl ?_; apply Exists.intro; refine ⟨fun wv HC => ?_, ?_⟩
                · obtain ⟨⟨f0, f1⟩, f2, f3, f4⟩ := HF.out _ HC; go_simp <;> rfl
                simp only [Act.put, List.setIfInBounds_toArray, List.set_cons_succ, List.set_cons_zero]
                refine dw_callR 75 (RowSlot (Mut M KL) xid xvs) (f := 61) (args := #[.agg #[.int .i64 xid, .slice xA xn xc]]) rfl rfl rfl rfl (fun wv => ?_) (fun wv HC hrm hD => ?_) ?_
                · go_simp <;> rfl
                · refine (dcopied_any _ wv HC.mutLt xid xA xn xc xvs (HRX.out _ HC) (by omega)).mono ?_
                  rintro e w5 ⟨A5, n5, c5, rfl, h50, h51, h52, h53, b5⟩
                  exact ⟨_, rfl, ⟨A5, n5, c5, rfl, h50, h51, h52, h53⟩, HC.call b5, RM.below b5⟩
                rintro x_ wx HCx ⟨A5, n5, c5, rfl, -, -, -, -⟩
                clear HCx
                simp only [Act.put, List.setIfInBounds_toArray, List.set_cons_succ, List.set_cons_zero]
                refine dw_new #[.int .i64 xid, .slice A5 n5 c5] 53 76 (RBoxSlot (Mut M KL) xid xvs) (fun g => .slice (some ⟨g, 0, none⟩) 1 1) rfl rfl rfl rfl (fun wv => ?_) (fun wv HC _hrm hD hro => ?_) ?_
                · go_simp <;> rfl
                · have hsl : RowSlot (Mut M KL) xid xvs (.agg #[.int .i64 xid, .slice A5 n5 c5]) wv := deps_at hD 3 rfl (by kernel_rfl) rfl rfl
                  obtain ⟨A6, n6, c6, e6, h1, h2, h3, h4⟩ := hsl
                  obtain ⟨rfl, rfl, rfl⟩ : A5 = A6 ∧ n5 = n6 ∧ c5 = c6 := by
                    injection e6 with e6
                    simp at e6
                    exact e6
                  exact ⟨_, A5, n5, c5, rfl, h1, h2, h3, h4.step (by simp) (fun b hb _ => Below.heap_alloc wv _ b hb) (fun _ _ h => h), ro_block (hro _ HC.mutLt) rfl⟩
                rintro gn wg HCg hsl
                simp only [Act.put, List.setIfInBounds_toArray, List.set_cons_succ, List.set_cons_zero]
                clear hsl HCg
                refine rel_nil ?_
                rintro wx2 HX
                rintro _hrm HGW
                have hb2 : RBoxSlot (Mut M KL) xid xvs (.slice (some ⟨gn, 0, none⟩) 1 1) wx2 := (GW_on (d := 76) rfl).1 (HGW 4 _ rfl (by omega))
                clear HGW _hrm
                obtain ⟨gq, A6, n6, c6, e6, k0_, k1_, k2_, k3_, k4_⟩ := hb2
                obtain rfl : gn = gq := by injection e6 with e6; injection e6 with e6; injection e6
                clear e6
                rw [HKL.out] at HX k3_
                have k5 := hid k4_.now
                have HK0 := hid (And.intro k0_ (And.intro k1_ k2_))
                clear k4_ k0_ k1_ k2_ HF HRX KN
                have HRS := hid (show rwCells ld ++ [.int .i64 xid, .slice A6 n6 c6] = rwCells (ld ++ [⟨xid, A6, n6, c6, xvs⟩]) from rwCells_snoc1 _ _ _ _ _ _)
                have KA := HX.add k3_
                clear HX k3_
                have FKA := KA.facts
                simp only [World.size_alloc, World.size_drew, factsL, cellsF, Nat.reduceAdd, List.toList_toArray, List.set_cons_zero, List.set_cons_succ, List.setIfInBounds_toArray, and_true, true_and] at FKA
                go_wp2_with (at_builtin; go_must (refine wpList_appAllH KA 7 rfl Tryd.elRw k5.out rfl (.tmp 73) (.tmp 76) rfl rfl rfl (by intro z hz; simp at hz; rcases hz with rfl | rfl <;> rfl) (by omega) (by omega) ?_); intro C' cap' w6 hc6 hm6 KB; rw [HRS.out] at KB; simp only [List.set_cons_zero, List.set_cons_succ] at KB; (have F3 := KB.facts); simp only [World.size_alloc, World.size_drew, factsL, cellsF, Nat.reduceAdd, List.toList_toArray, List.set_cons_zero, List.set_cons_succ, List.setIfInBounds_toArray, and_true, true_and] at F3)
                have KD := KB.store 12 rfl 2 (.slice C' (nd + 1) cap')
                have KE := (KD.swapRo 10 rfl (vals_snoc (r := ⟨xid, A6, n6, c6, xvs⟩) (KD.ro 10 rfl) (KD.ro 0 rfl))).drop (List.sublist_cons_self _ _)
                clear KB KD FKA k5
                have HBN := hid (HBS.out.left HXX.out HRR.out hlt3 (y := ⟨xid, A6, n6, c6, xvs⟩) rfl ⟨HXO.out.id, HK0.out.2.1, HK0.out.2.2, HXO.out.vs⟩)
                have KZ := KE.drop (List.Sublist.cons _ (List.sublist_cons_self _ _))
                go_roundg gi
                case measure => omega
                case rel => exact ⟨p + 1, np - 1, 0, nd + 1, cap', (some ⟨bx, ox, none⟩), C', _, by omega, by first | rfl | (simp <;> omega), by omega, by omega, by omega, by omega, by omega, HBN, KZ⟩
              · obtain rfl : xid = rid := by omega
                have hd4 : decide (xid < xid) = false := by simp
                clear hlt3
                go_wp2_with fail
                refine (eqVls_any _ xA xn xc xvs rA rn rc rvs (KX.ro 1 rfl).now (KX.ro 3 rfl).now (by omega)).mono ?_
                rintro e w7 ⟨rfl, q7, rfl⟩
                have KY := KX.drewN q7
                clear KX FK
                have FK := KY.facts
                simp only [World.size_alloc, World.size_drew, factsL, cellsF, Nat.reduceAdd, List.toList_toArray, List.set_cons_zero, List.set_cons_succ, List.setIfInBounds_toArray, and_true, true_and] at FK
                by_cases hvv : xvs = rvs
                · rw [decide_eq_true hvv]
                  have HBN := hid (HBS.out.same HXX.out HRR.out rfl hvv)
                  clear hvv
                  have KZ := KY.drop (List.Sublist.cons _ (List.Sublist.cons _ (List.Sublist.cons _ (List.sublist_cons_self _ _))))
                  go_wp2_with fail
                  go_roundg go
                  case measure => omega
                  case rel => exact ⟨j + 1, p + 1, np - 1, 0, ni, ci, nd, cd, nu, cu, (some ⟨bx, ox, none⟩), I, D, U, li, ld, lu, by omega, by first | rfl | go_num, by first | rfl | (simp <;> omega), by omega, by omega, by omega, by omega, by omega, by omega, by omega, HBN, KZ⟩
                · rw [decide_eq_false hvv]
                  have HNE := hid hvv
                  clear hvv
                  obtain ⟨KL, hKL, KN⟩ := KY.name
                  have HF : Hid (∀ wv, Hold M none w wv KL → (wv.cell? ⟨g6, 3, none⟩ = some (.slice U nu cu) ∧ g6 < wv.heap.size) ∧ wv.cell? ⟨g9, 0, none⟩ = some (.int .i64 xid) ∧ wv.cell? ⟨g9, 1, none⟩ = some (.slice rA rn rc) ∧ g9 < wv.heap.size ∧ wv.cell? ⟨w3.heap.size, 0, none⟩ = some (.int .i64 xid) ∧ wv.cell? ⟨w3.heap.size, 1, none⟩ = some (.slice xA xn xc) ∧ w3.heap.size < wv.heap.size) := hid fun wv HC => by
                    rw [hKL] at HC
                    have y1 := HC.blk_ 11 rfl
                    have y2 := HC.cst_ 2 rfl
                    have y3 := HC.cst_ 0 rfl
                    exact ⟨⟨cell_of_row _ _ 3 _ _ _ y1, Blk.lt y1⟩, cell_of_row _ _ 0 _ _ _ y2, cell_of_row _ _ 1 _ _ _ y2, Blk.lt y2, cell_of_row _ _ 0 _ _ _ y3, cell_of_row _ _ 1 _ _ _ y3, Blk.lt y3⟩
                  have HRX : Hid (∀ wv, Hold M none w wv KL → Ro wv (Mut M KL) (VlsIn xA xn xvs) ∧ Ro wv (Mut M KL) (VlsIn rA rn rvs)) := hid fun wv HC => by
                    rw [hKL] at HC ⊢
                    exact ⟨HC.ro 1 rfl, HC.ro 3 rfl⟩
                  have HKL := hid hKL
                  clear hKL KY
                  go_wp2_with fail
                  refine wp_region_any (by kernel_rfl) ?_
                  refine wpAny_hold 12 128 (KL) (spL [(91, VlsSlot (Mut M KL) xvs), (94, VlsSlot (Mut M KL) rvs), (95, PrSlot (Mut M KL) (xid, xvs, rvs)), (96, PrsSlot (Mut M KL) [(xid, xvs, rvs)])]) (by kernel_rfl) (by kernel_rfl) (by kernel_rfl) rfl ?_ (KN.drew) ?_
                  · exact stays_cons vlsSlot_mono (stays_cons vlsSlot_mono (stays_cons prSlot_mono (stays_cons prsSlot_mono (stays_nil _))))
                  simp only [List.take_succ_cons, List.take_zero, List.drop_succ_cons, List.drop_zero, Act.put, List.getElem_toArray, List.getElem_cons_zero, List.getElem_cons_succ, List.setIfInBounds_toArray, List.set_cons_succ, List.set_cons_zero]
                  refine dw_val rfl rfl rfl ?_; apply Exists.intro; refine ⟨fun wv HC => ?_, ?_⟩
                  ·  go_simp <;> rfl
                  simp only [Act.put, List.setIfInBounds_toArray, List.set_cons_succ, List.set_cons_zero]
                  refine dw_val rfl rfl rfl ?_; apply Exists.intro; refine ⟨fun wv HC => ?_, ?_⟩
                  · obtain ⟨⟨f0, f1⟩, f2, f3, f4, f5, f6, f7⟩ := HF.out _ HC; go_simp <;> rfl
                  simp only [Act.put, List.setIfInBounds_toArray, List.set_cons_succ, List.set_cons_zero]
                  refine dw_val rfl rfl rfl ?_; apply Exists.intro; refine ⟨fun wv HC => ?_, ?_⟩
                  ·  go_simp <;> rfl
                  simp only [Act.put, List.setIfInBounds_toArray, List.set_cons_succ, List.set_cons_zero]
                  refine dw_val rfl rfl rfl ?_; apply Exists.intro; refine ⟨fun wv HC => ?_, ?_⟩
                  · obtain ⟨⟨f0, f1⟩, f2, f3, f4, f5, f6, f7⟩ := HF.out _ HC; go_simp <;> rfl
                  simp only [Act.put, List.setIfInBounds_toArray, List.set_cons_succ, List.set_cons_zero]
                  refine dw_val rfl rfl rfl ?_; apply Exists.intro; refine ⟨fun wv HC => ?_, ?_⟩
                  ·  go_simp <;> rfl
                  simp only [Act.put, List.setIfInBounds_toArray, List.set_cons_succ, List.set_cons_zero]
                  refine dw_val rfl rfl rfl ?_; apply Exists.intro; refine ⟨fun wv HC => ?_, ?_⟩
                  · obtain ⟨⟨f0, f1⟩, f2, f3, f4, f5, f6, f7⟩ := HF.out _ HC; go_simp <;> rfl
                  simp only [Act.put, List.setIfInBounds_toArray, List.set_cons_succ, List.set_cons_zero]
                  refine dw_callR 91 (VlsSlot (Mut M KL) xvs) (f := 63) (args := #[.slice xA xn xc]) rfl rfl rfl rfl (fun wv => ?_) (fun wv HC hrm hD => ?_) ?_
                  · go_simp <;> rfl
                  · refine (cloneVls_any _ wv HC.mutLt xA xn xc xvs (HRX.out _ HC).1 (by omega)).mono ?_
                    rintro e w5 ⟨A5, n5, c5, rfl, h50, h51, h52, h53, b5⟩
                    exact ⟨_, rfl, ⟨A5, n5, c5, rfl, h50, h51, h52, h53⟩, HC.call b5, RM.below b5⟩
                  rintro x_ wx HCx ⟨A91, n91, c91, rfl, -, -, -, -⟩
                  clear HCx
                  simp only [Act.put, List.setIfInBounds_toArray, List.set_cons_succ, List.set_cons_zero]
                  refine dw_val rfl rfl rfl ?_; apply Exists.intro; refine ⟨fun wv HC => ?_, ?_⟩
                  ·  go_simp <;> rfl
                  simp only [Act.put, List.setIfInBounds_toArray, List.set_cons_succ, List.set_cons_zero]
                  refine dw_val rfl rfl rfl ?_; apply Exists.intro; refine ⟨fun wv HC => ?_, ?_⟩
                  · obtain ⟨⟨f0, f1⟩, f2, f3, f4, f5, f6, f7⟩ := HF.out _ HC; go_simp <;> rfl
                  simp only [Act.put, List.setIfInBounds_toArray, List.set_cons_succ, List.set_cons_zero]
                  refine dw_callR 94 (VlsSlot (Mut M KL) rvs) (f := 63) (args := #[.slice rA rn rc]) rfl rfl rfl rfl (fun wv => ?_) (fun wv HC hrm hD => ?_) ?_
                  · go_simp <;> rfl
                  · refine (cloneVls_any _ wv HC.mutLt rA rn rc rvs (HRX.out _ HC).2 (by omega)).mono ?_
                    rintro e w5 ⟨A5, n5, c5, rfl, h50, h51, h52, h53, b5⟩
                    exact ⟨_, rfl, ⟨A5, n5, c5, rfl, h50, h51, h52, h53⟩, HC.call b5, RM.below b5⟩
                  rintro x_ wx HCx ⟨A94, n94, c94, rfl, -, -, -, -⟩
                  clear HCx
                  simp only [Act.put, List.setIfInBounds_toArray, List.set_cons_succ, List.set_cons_zero]
                  refine dw_valC 95 (PrSlot (Mut M KL) (xid, xvs, rvs)) rfl rfl rfl rfl (.agg #[.int .i64 xid, .slice A91 n91 c91, .slice A94 n94 c94]) (fun wv HC => ?_) (fun wv HC hD => ?_) ?_
                  · go_simp <;> rfl
                  · have ha : VlsSlot (Mut M KL) xvs (.slice A91 n91 c91) wv := deps_at hD 6 rfl (by kernel_rfl) rfl rfl
                    have hb : VlsSlot (Mut M KL) rvs (.slice A94 n94 c94) wv := deps_at hD 9 rfl (by kernel_rfl) rfl rfl
                    exact prSlot_of HXO.out.id HXO.out.vs HRO.out.vs ha hb
                  simp only [Act.put, List.setIfInBounds_toArray, List.set_cons_succ, List.set_cons_zero]
                  refine dw_new #[.int .i64 xid, .slice A91 n91 c91, .slice A94 n94 c94] 99 96 (PrsSlot (Mut M KL) [(xid, xvs, rvs)]) (fun g => .slice (some ⟨g, 0, none⟩) 1 1) rfl rfl rfl rfl (fun wv => ?_) (fun wv HC _hrm hD hro => ?_) ?_
                  · go_simp <;> rfl
                  · have hrr := RM.alloc (Mut M KL) wv (.cells #[.int .i64 xid, .slice A91 n91 c91, .slice A94 n94 c94] 99)
                    have h0 : PrSlot (Mut M KL) (xid, xvs, rvs) (.agg #[.int .i64 xid, .slice A91 n91 c91, .slice A94 n94 c94]) wv := deps_at hD 10 rfl (by kernel_rfl) rfl rfl
                    replace h0 := prSlot_mono _ _ _ hrr h0
                    exact prsSlot_one (hro _ HC.mutLt) (fun i j k e1 => Value.agg.inj e1) h0
                  rintro g96 wg HCg hsl
                  simp only [Act.put, List.setIfInBounds_toArray, List.set_cons_succ, List.set_cons_zero]
                  clear hsl HCg
                  refine rel_nil ?_
                  rintro wx5 HX5
                  rintro _hrm HGW
                  have hb2 : PrsSlot (Mut M KL) [(xid, xvs, rvs)] (.slice (some ⟨g96, 0, none⟩) 1 1) wx5 := (GW_on (d := 96) rfl).1 (HGW 11 _ rfl (by omega))
                  clear HGW _hrm
                  obtain ⟨Aq, nq, cq, pq, heq, -, -, hpm, hpok, hpr⟩ := hb2
                  obtain ⟨rfl, rfl, rfl⟩ : some ⟨g96, 0, none⟩ = Aq ∧ 1 = nq ∧ 1 = cq := by injection heq with h1 h2 h3; exact ⟨h1, h2, h3⟩
                  clear heq
                  obtain ⟨pr, rfl, hpu⟩ : ∃ pr, pq = [pr] ∧ pr.upd = (xid, xvs, rvs) := by
                    obtain ⟨pr, h1, h2⟩ := List.map_eq_singleton_iff.1 hpm
                    exact ⟨pr, h1, h2⟩
                  rw [HKL.out] at HX5 hpr
                  have HPE := hid (show prCells lu ++ prCells [pr] = prCells (lu ++ [pr]) by simp [prCells])
                  have KA := HX5.add (hpr.imp fun w h => (h.2 : PrVals [pr] w))
                  have k5 := hid ((hpr.imp fun w h => h.1).now)
                  have HBN := hid (HBS.out.turn HXX.out HRR.out rfl HNE.out hpu (hpok pr (List.mem_singleton.2 rfl)))
                  clear HX5 hpr hpm hpok hpu HF HRX KN
                  have FKA := KA.facts
                  simp only [World.size_alloc, World.size_drew, factsL, cellsF, Nat.reduceAdd, List.toList_toArray, List.set_cons_zero, List.set_cons_succ, List.setIfInBounds_toArray, and_true, true_and] at FKA
                  go_wp2_with (at_builtin; go_must (refine wpList_appAllH KA 8 rfl Tryd.elPr k5.out rfl (.tmp 86) (.tmp 96) rfl rfl rfl (prCells_one _) (by omega) (by omega) ?_); intro C' cap' w6 hc6 hm6 KB; rw [HPE.out] at KB; simp only [List.set_cons_zero, List.set_cons_succ] at KB; (have FB := KB.facts); simp only [World.size_alloc, World.size_drew, factsL, cellsF, Nat.reduceAdd, List.toList_toArray, List.set_cons_zero, List.set_cons_succ, List.setIfInBounds_toArray, and_true, true_and] at FB)
                  have KD := KB.store 12 rfl 3 (.slice C' (nu + 1) cap')
                  have KZ := (KD.swapRo 11 rfl (prVals_app (KD.ro 11 rfl) (KD.ro 0 rfl))).drop (List.Sublist.cons _ (List.Sublist.cons _ (List.Sublist.cons _ (List.Sublist.cons _ (List.sublist_cons_self _ _)))))
                  clear KB KD FKA k5
                  go_roundg go
                  case measure => omega
                  case rel => exact ⟨j + 1, p + 1, np - 1, 0, ni, ci, nd, cd, nu + 1, cap', (some ⟨bx, ox, none⟩), I, D, C', li, ld, _, by omega, by first | rfl | go_num, by first | rfl | (simp <;> omega), by omega, by omega, by omega, by omega, by omega, by omega, by omega, HBN, KZ⟩
            · have KX := K2.swapRo 4 rfl (hnxt.step (by simp) (fun b hb _ => Below.heap_alloc w3 _ b hb) (fun b hb h => (mut_none rfl b ((mut_none rfl b h)))))
              simp only [List.set_cons_zero, List.set_cons_succ] at KX
              clear K2 H3 hnxt
              have FK := KX.facts
              simp only [World.size_alloc, World.size_drew, factsL, cellsF, Nat.reduceAdd, List.toList_toArray, List.set_cons_zero, List.set_cons_succ, List.setIfInBounds_toArray, and_true, true_and] at FK
              by_cases hlt3 : xid < rid
              · have hd4 : decide (xid < rid) = true := by simpa using hlt3
                obtain ⟨KL, hKL, KN⟩ := KX.name
                have HF : Hid (∀ wv, Hold M none w wv KL → (wv.cell? ⟨g6, 2, none⟩ = some (.slice D nd cd) ∧ g6 < wv.heap.size) ∧ wv.cell? ⟨w3.heap.size, 0, none⟩ = some (.int .i64 xid) ∧ wv.cell? ⟨w3.heap.size, 1, none⟩ = some (.slice xA xn xc) ∧ w3.heap.size < wv.heap.size) := hid fun wv HC => by
                  rw [hKL] at HC
                  have y1 := HC.blk_ 11 rfl
                  have y2 := HC.cst_ 0 rfl
                  exact ⟨⟨cell_of_row _ _ 2 _ _ _ y1, Blk.lt y1⟩, cell_of_row _ _ 0 _ _ _ y2, cell_of_row _ _ 1 _ _ _ y2, Blk.lt y2⟩
                have HRX : Hid (∀ wv, Hold M none w wv KL → Ro wv (Mut M KL) (VlsIn xA xn xvs)) := hid fun wv HC => by
                  rw [hKL] at HC ⊢
                  exact HC.ro 1 rfl
                have HKL := hid hKL
                clear hKL KX
                go_wp2_with fail
                refine wp_region_any (by kernel_rfl) ?_
                refine wpAny_hold 5 128 (KL) (spL [(75, RowSlot (Mut M KL) xid xvs), (76, RBoxSlot (Mut M KL) xid xvs)]) (by kernel_rfl) (by kernel_rfl) (by kernel_rfl) rfl ?_ (KN.drew) ?_
                · exact stays_cons rowSlot_mono (stays_cons rboxSlot_mono (stays_nil _))
                simp only [List.take_succ_cons, List.take_zero, List.drop_succ_cons, List.drop_zero, Act.put, List.getElem_toArray, List.getElem_cons_zero, List.getElem_cons_succ, List.setIfInBounds_toArray, List.set_cons_succ, List.set_cons_zero]
                refine dw_val rfl rfl rfl ?_; apply Exists.intro; refine ⟨fun wv HC => ?_, ?_⟩
                ·  go_simp <;> rfl
                simp only [Act.put, List.setIfInBounds_toArray, List.set_cons_succ, List.set_cons_zero]
                refine dw_val rfl rfl rfl ?_; apply Exists.intro; refine ⟨fun wv HC => ?_, ?_⟩
                · obtain ⟨⟨f0, f1⟩, f2, f3, f4⟩ := HF.out _ HC; go_simp <;> rfl
                simp only [Act.put, List.setIfInBounds_toArray, List.set_cons_succ, List.set_cons_zero]
                refine dw_val rfl rfl rfl ?_; apply Exists.intro; refine ⟨fun wv HC => ?_, ?_⟩
                · obtain ⟨⟨f0, f1⟩, f2, f3, f4⟩ := HF.out _ HC; go_simp <;> rfl
                simp only [Act.put, List.setIfInBounds_toArray, List.set_cons_succ, List.set_cons_zero]
                refine dw_callR 75 (RowSlot (Mut M KL) xid xvs) (f := 61) (args := #[.agg #[.int .i64 xid, .slice xA xn xc]]) rfl rfl rfl rfl (fun wv => ?_) (fun wv HC hrm hD => ?_) ?_
                · go_simp <;> rfl
                · refine (dcopied_any _ wv HC.mutLt xid xA xn xc xvs (HRX.out _ HC) (by omega)).mono ?_
                  rintro e w5 ⟨A5, n5, c5, rfl, h50, h51, h52, h53, b5⟩
                  exact ⟨_, rfl, ⟨A5, n5, c5, rfl, h50, h51, h52, h53⟩, HC.call b5, RM.below b5⟩
                rintro x_ wx HCx ⟨A5, n5, c5, rfl, -, -, -, -⟩
                clear HCx
                simp only [Act.put, List.setIfInBounds_toArray, List.set_cons_succ, List.set_cons_zero]
                refine dw_new #[.int .i64 xid, .slice A5 n5 c5] 53 76 (RBoxSlot (Mut M KL) xid xvs) (fun g => .slice (some ⟨g, 0, none⟩) 1 1) rfl rfl rfl rfl (fun wv => ?_) (fun wv HC _hrm hD hro => ?_) ?_
                · go_simp <;> rfl
                · have hsl : RowSlot (Mut M KL) xid xvs (.agg #[.int .i64 xid, .slice A5 n5 c5]) wv := deps_at hD 3 rfl (by kernel_rfl) rfl rfl
                  obtain ⟨A6, n6, c6, e6, h1, h2, h3, h4⟩ := hsl
                  obtain ⟨rfl, rfl, rfl⟩ : A5 = A6 ∧ n5 = n6 ∧ c5 = c6 := by
                    injection e6 with e6
                    simp at e6
                    exact e6
                  exact ⟨_, A5, n5, c5, rfl, h1, h2, h3, h4.step (by simp) (fun b hb _ => Below.heap_alloc wv _ b hb) (fun _ _ h => h), ro_block (hro _ HC.mutLt) rfl⟩
                rintro gn wg HCg hsl
                simp only [Act.put, List.setIfInBounds_toArray, List.set_cons_succ, List.set_cons_zero]
                clear hsl HCg
                refine rel_nil ?_
                rintro wx2 HX
                rintro _hrm HGW
                have hb2 : RBoxSlot (Mut M KL) xid xvs (.slice (some ⟨gn, 0, none⟩) 1 1) wx2 := (GW_on (d := 76) rfl).1 (HGW 4 _ rfl (by omega))
                clear HGW _hrm
                obtain ⟨gq, A6, n6, c6, e6, k0_, k1_, k2_, k3_, k4_⟩ := hb2
                obtain rfl : gn = gq := by injection e6 with e6; injection e6 with e6; injection e6
                clear e6
                rw [HKL.out] at HX k3_
                have k5 := hid k4_.now
                have HK0 := hid (And.intro k0_ (And.intro k1_ k2_))
                clear k4_ k0_ k1_ k2_ HF HRX KN
                have HRS := hid (show rwCells ld ++ [.int .i64 xid, .slice A6 n6 c6] = rwCells (ld ++ [⟨xid, A6, n6, c6, xvs⟩]) from rwCells_snoc1 _ _ _ _ _ _)
                have KA := HX.add k3_
                clear HX k3_
                have FKA := KA.facts
                simp only [World.size_alloc, World.size_drew, factsL, cellsF, Nat.reduceAdd, List.toList_toArray, List.set_cons_zero, List.set_cons_succ, List.setIfInBounds_toArray, and_true, true_and] at FKA
                go_wp2_with (at_builtin; go_must (refine wpList_appAllH KA 7 rfl Tryd.elRw k5.out rfl (.tmp 73) (.tmp 76) rfl rfl rfl (by intro z hz; simp at hz; rcases hz with rfl | rfl <;> rfl) (by omega) (by omega) ?_); intro C' cap' w6 hc6 hm6 KB; rw [HRS.out] at KB; simp only [List.set_cons_zero, List.set_cons_succ] at KB; (have F3 := KB.facts); simp only [World.size_alloc, World.size_drew, factsL, cellsF, Nat.reduceAdd, List.toList_toArray, List.set_cons_zero, List.set_cons_succ, List.setIfInBounds_toArray, and_true, true_and] at F3)
                have KD := KB.store 12 rfl 2 (.slice C' (nd + 1) cap')
                have KE := (KD.swapRo 10 rfl (vals_snoc (r := ⟨xid, A6, n6, c6, xvs⟩) (KD.ro 10 rfl) (KD.ro 0 rfl))).drop (List.sublist_cons_self _ _)
                clear KB KD FKA k5
                have HBN := hid (HBS.out.left HXX.out HRR.out hlt3 (y := ⟨xid, A6, n6, c6, xvs⟩) rfl ⟨HXO.out.id, HK0.out.2.1, HK0.out.2.2, HXO.out.vs⟩)
                have KZ := KE.drop (List.Sublist.cons _ (List.sublist_cons_self _ _))
                go_roundg gi
                case measure => omega
                case rel => exact ⟨p + 1, np - 1, (cp - 1), nd + 1, cap', (some ⟨bx, ox + 2, none⟩), C', _, by omega, by first | rfl | (simp <;> omega), by omega, by omega, by omega, by omega, by omega, HBN, KZ⟩
              · obtain rfl : xid = rid := by omega
                have hd4 : decide (xid < xid) = false := by simp
                clear hlt3
                go_wp2_with fail
                refine (eqVls_any _ xA xn xc xvs rA rn rc rvs (KX.ro 1 rfl).now (KX.ro 3 rfl).now (by omega)).mono ?_
                rintro e w7 ⟨rfl, q7, rfl⟩
                have KY := KX.drewN q7
                clear KX FK
                have FK := KY.facts
                simp only [World.size_alloc, World.size_drew, factsL, cellsF, Nat.reduceAdd, List.toList_toArray, List.set_cons_zero, List.set_cons_succ, List.setIfInBounds_toArray, and_true, true_and] at FK
                by_cases hvv : xvs = rvs
                · rw [decide_eq_true hvv]
                  have HBN := hid (HBS.out.same HXX.out HRR.out rfl hvv)
                  clear hvv
                  have KZ := KY.drop (List.Sublist.cons _ (List.Sublist.cons _ (List.Sublist.cons _ (List.sublist_cons_self _ _))))
                  go_wp2_with fail
                  go_roundg go
                  case measure => omega
                  case rel => exact ⟨j + 1, p + 1, np - 1, (cp - 1), ni, ci, nd, cd, nu, cu, (some ⟨bx, ox + 2, none⟩), I, D, U, li, ld, lu, by omega, by first | rfl | go_num, by first | rfl | (simp <;> omega), by omega, by omega, by omega, by omega, by omega, by omega, by omega, HBN, KZ⟩
                · rw [decide_eq_false hvv]
                  have HNE := hid hvv
                  clear hvv
                  obtain ⟨KL, hKL, KN⟩ := KY.name
                  have HF : Hid (∀ wv, Hold M none w wv KL → (wv.cell? ⟨g6, 3, none⟩ = some (.slice U nu cu) ∧ g6 < wv.heap.size) ∧ wv.cell? ⟨g9, 0, none⟩ = some (.int .i64 xid) ∧ wv.cell? ⟨g9, 1, none⟩ = some (.slice rA rn rc) ∧ g9 < wv.heap.size ∧ wv.cell? ⟨w3.heap.size, 0, none⟩ = some (.int .i64 xid) ∧ wv.cell? ⟨w3.heap.size, 1, none⟩ = some (.slice xA xn xc) ∧ w3.heap.size < wv.heap.size) := hid fun wv HC => by
                    rw [hKL] at HC
                    have y1 := HC.blk_ 11 rfl
                    have y2 := HC.cst_ 2 rfl
                    have y3 := HC.cst_ 0 rfl
                    exact ⟨⟨cell_of_row _ _ 3 _ _ _ y1, Blk.lt y1⟩, cell_of_row _ _ 0 _ _ _ y2, cell_of_row _ _ 1 _ _ _ y2, Blk.lt y2, cell_of_row _ _ 0 _ _ _ y3, cell_of_row _ _ 1 _ _ _ y3, Blk.lt y3⟩
                  have HRX : Hid (∀ wv, Hold M none w wv KL → Ro wv (Mut M KL) (VlsIn xA xn xvs) ∧ Ro wv (Mut M KL) (VlsIn rA rn rvs)) := hid fun wv HC => by
                    rw [hKL] at HC ⊢
                    exact ⟨HC.ro 1 rfl, HC.ro 3 rfl⟩
                  have HKL := hid hKL
                  clear hKL KY
                  go_wp2_with fail
                  refine wp_region_any (by kernel_rfl) ?_
                  refine wpAny_hold 12 128 (KL) (spL [(91, VlsSlot (Mut M KL) xvs), (94, VlsSlot (Mut M KL) rvs), (95, PrSlot (Mut M KL) (xid, xvs, rvs)), (96, PrsSlot (Mut M KL) [(xid, xvs, rvs)])]) (by kernel_rfl) (by kernel_rfl) (by kernel_rfl) rfl ?_ (KN.drew) ?_
                  · exact stays_cons vlsSlot_mono (stays_cons vlsSlot_mono (stays_cons prSlot_mono (stays_cons prsSlot_mono (stays_nil _))))
                  simp only [List.take_succ_cons, List.take_zero, List.drop_succ_cons, List.drop_zero, Act.put, List.getElem_toArray, List.getElem_cons_zero, List.getElem_cons_succ, List.setIfInBounds_toArray, List.set_cons_succ, List.set_cons_zero]
                  refine dw_val rfl rfl rfl ?_; apply Exists.intro; refine ⟨fun wv HC => ?_, ?_⟩
                  ·  go_simp <;> rfl
                  simp only [Act.put, List.setIfInBounds_toArray, List.set_cons_succ, List.set_cons_zero]
                  refine dw_val rfl rfl rfl ?_; apply Exists.intro; refine ⟨fun wv HC => ?_, ?_⟩
                  · obtain ⟨⟨f0, f1⟩, f2, f3, f4, f5, f6, f7⟩ := HF.out _ HC; go_simp <;> rfl
                  simp only [Act.put, List.setIfInBounds_toArray, List.set_cons_succ, List.set_cons_zero]
                  refine dw_val rfl rfl rfl ?_; apply Exists.intro; refine ⟨fun wv HC => ?_, ?_⟩
                  ·  go_simp <;> rfl
                  simp only [Act.put, List.setIfInBounds_toArray, List.set_cons_succ, List.set_cons_zero]
                  refine dw_val rfl rfl rfl ?_; apply Exists.intro; refine ⟨fun wv HC => ?_, ?_⟩
                  · obtain ⟨⟨f0, f1⟩, f2, f3, f4, f5, f6, f7⟩ := HF.out _ HC; go_simp <;> rfl
                  simp only [Act.put, List.setIfInBounds_toArray, List.set_cons_succ, List.set_cons_zero]
                  refine dw_val rfl rfl rfl ?_; apply Exists.intro; refine ⟨fun wv HC => ?_, ?_⟩
                  ·  go_simp <;> rfl
                  simp only [Act.put, List.setIfInBounds_toArray, List.set_cons_succ, List.set_cons_zero]
                  refine dw_val rfl rfl rfl ?_; apply Exists.intro; refine ⟨fun wv HC => ?_, ?_⟩
                  · obtain ⟨⟨f0, f1⟩, f2, f3, f4, f5, f6, f7⟩ := HF.out _ HC; go_simp <;> rfl
                  simp only [Act.put, List.setIfInBounds_toArray, List.set_cons_succ, List.set_cons_zero]
                  refine dw_callR 91 (VlsSlot (Mut M KL) xvs) (f := 63) (args := #[.slice xA xn xc]) rfl rfl rfl rfl (fun wv => ?_) (fun wv HC hrm hD => ?_) ?_
                  · go_simp <;> rfl
                  · refine (cloneVls_any _ wv HC.mutLt xA xn xc xvs (HRX.out _ HC).1 (by omega)).mono ?_
                    rintro e w5 ⟨A5, n5, c5, rfl, h50, h51, h52, h53, b5⟩
                    exact ⟨_, rfl, ⟨A5, n5, c5, rfl, h50, h51, h52, h53⟩, HC.call b5, RM.below b5⟩
                  rintro x_ wx HCx ⟨A91, n91, c91, rfl, -, -, -, -⟩
                  clear HCx
                  simp only [Act.put, List.setIfInBounds_toArray, List.set_cons_succ, List.set_cons_zero]
                  refine dw_val rfl rfl rfl ?_; apply Exists.intro; refine ⟨fun wv HC => ?_, ?_⟩
                  ·  go_simp <;> rfl
                  simp only [Act.put, List.setIfInBounds_toArray, List.set_cons_succ, List.set_cons_zero]
                  refine dw_val rfl rfl rfl ?_; apply Exists.intro; refine ⟨fun wv HC => ?_, ?_⟩
                  · obtain ⟨⟨f0, f1⟩, f2, f3, f4, f5, f6, f7⟩ := HF.out _ HC; go_simp <;> rfl
                  simp only [Act.put, List.setIfInBounds_toArray, List.set_cons_succ, List.set_cons_zero]
                  refine dw_callR 94 (VlsSlot (Mut M KL) rvs) (f := 63) (args := #[.slice rA rn rc]) rfl rfl rfl rfl (fun wv => ?_) (fun wv HC hrm hD => ?_) ?_
                  · go_simp <;> rfl
                  · refine (cloneVls_any _ wv HC.mutLt rA rn rc rvs (HRX.out _ HC).2 (by omega)).mono ?_
                    rintro e w5 ⟨A5, n5, c5, rfl, h50, h51, h52, h53, b5⟩
                    exact ⟨_, rfl, ⟨A5, n5, c5, rfl, h50, h51, h52, h53⟩, HC.call b5, RM.below b5⟩
                  rintro x_ wx HCx ⟨A94, n94, c94, rfl, -, -, -, -⟩
                  clear HCx
                  simp only [Act.put, List.setIfInBounds_toArray, List.set_cons_succ, List.set_cons_zero]
                  refine dw_valC 95 (PrSlot (Mut M KL) (xid, xvs, rvs)) rfl rfl rfl rfl (.agg #[.int .i64 xid, .slice A91 n91 c91, .slice A94 n94 c94]) (fun wv HC => ?_) (fun wv HC hD => ?_) ?_
                  · go_simp <;> rfl
                  · have ha : VlsSlot (Mut M KL) xvs (.slice A91 n91 c91) wv := deps_at hD 6 rfl (by kernel_rfl) rfl rfl
                    have hb : VlsSlot (Mut M KL) rvs (.slice A94 n94 c94) wv := deps_at hD 9 rfl (by kernel_rfl) rfl rfl
                    exact prSlot_of HXO.out.id HXO.out.vs HRO.out.vs ha hb
                  simp only [Act.put, List.setIfInBounds_toArray, List.set_cons_succ, List.set_cons_zero]
                  refine dw_new #[.int .i64 xid, .slice A91 n91 c91, .slice A94 n94 c94] 99 96 (PrsSlot (Mut M KL) [(xid, xvs, rvs)]) (fun g => .slice (some ⟨g, 0, none⟩) 1 1) rfl rfl rfl rfl (fun wv => ?_) (fun wv HC _hrm hD hro => ?_) ?_
                  · go_simp <;> rfl
                  · have hrr := RM.alloc (Mut M KL) wv (.cells #[.int .i64 xid, .slice A91 n91 c91, .slice A94 n94 c94] 99)
                    have h0 : PrSlot (Mut M KL) (xid, xvs, rvs) (.agg #[.int .i64 xid, .slice A91 n91 c91, .slice A94 n94 c94]) wv := deps_at hD 10 rfl (by kernel_rfl) rfl rfl
                    replace h0 := prSlot_mono _ _ _ hrr h0
                    exact prsSlot_one (hro _ HC.mutLt) (fun i j k e1 => Value.agg.inj e1) h0
                  rintro g96 wg HCg hsl
                  simp only [Act.put, List.setIfInBounds_toArray, List.set_cons_succ, List.set_cons_zero]
                  clear hsl HCg
                  refine rel_nil ?_
                  rintro wx5 HX5
                  rintro _hrm HGW
                  have hb2 : PrsSlot (Mut M KL) [(xid, xvs, rvs)] (.slice (some ⟨g96, 0, none⟩) 1 1) wx5 := (GW_on (d := 96) rfl).1 (HGW 11 _ rfl (by omega))
                  clear HGW _hrm
                  obtain ⟨Aq, nq, cq, pq, heq, -, -, hpm, hpok, hpr⟩ := hb2
                  obtain ⟨rfl, rfl, rfl⟩ : some ⟨g96, 0, none⟩ = Aq ∧ 1 = nq ∧ 1 = cq := by injection heq with h1 h2 h3; exact ⟨h1, h2, h3⟩
                  clear heq
                  obtain ⟨pr, rfl, hpu⟩ : ∃ pr, pq = [pr] ∧ pr.upd = (xid, xvs, rvs) := by
                    obtain ⟨pr, h1, h2⟩ := List.map_eq_singleton_iff.1 hpm
                    exact ⟨pr, h1, h2⟩
                  rw [HKL.out] at HX5 hpr
                  have HPE := hid (show prCells lu ++ prCells [pr] = prCells (lu ++ [pr]) by simp [prCells])
                  have KA := HX5.add (hpr.imp fun w h => (h.2 : PrVals [pr] w))
                  have k5 := hid ((hpr.imp fun w h => h.1).now)
                  have HBN := hid (HBS.out.turn HXX.out HRR.out rfl HNE.out hpu (hpok pr (List.mem_singleton.2 rfl)))
                  clear HX5 hpr hpm hpok hpu HF HRX KN
                  have FKA := KA.facts
                  simp only [World.size_alloc, World.size_drew, factsL, cellsF, Nat.reduceAdd, List.toList_toArray, List.set_cons_zero, List.set_cons_succ, List.setIfInBounds_toArray, and_true, true_and] at FKA
                  go_wp2_with (at_builtin; go_must (refine wpList_appAllH KA 8 rfl Tryd.elPr k5.out rfl (.tmp 86) (.tmp 96) rfl rfl rfl (prCells_one _) (by omega) (by omega) ?_); intro C' cap' w6 hc6 hm6 KB; rw [HPE.out] at KB; simp only [List.set_cons_zero, List.set_cons_succ] at KB; (have FB := KB.facts); simp only [World.size_alloc, World.size_drew, factsL, cellsF, Nat.reduceAdd, List.toList_toArray, List.set_cons_zero, List.set_cons_succ, List.setIfInBounds_toArray, and_true, true_and] at FB)
                  have KD := KB.store 12 rfl 3 (.slice C' (nu + 1) cap')
                  have KZ := (KD.swapRo 11 rfl (prVals_app (KD.ro 11 rfl) (KD.ro 0 rfl))).drop (List.Sublist.cons _ (List.Sublist.cons _ (List.Sublist.cons _ (List.Sublist.cons _ (List.sublist_cons_self _ _)))))
                  clear KB KD FKA k5
                  go_roundg go
                  case measure => omega
                  case rel => exact ⟨j + 1, p + 1, np - 1, (cp - 1), ni, ci, nd, cd, nu + 1, cap', (some ⟨bx, ox + 2, none⟩), I, D, C', li, ld, _, by omega, by first | rfl | go_num, by first | rfl | (simp <;> omega), by omega, by omega, by omega, by omega, by omega, by omega, by omega, HBN, KZ⟩
          · have hd2 : decide (xid ≤ rid) = false := by simpa using hle
            have HRGT := hid (show ∀ x, a.rs[p]? = some x → rid < x.1 from fun x hx => by rw [HXX.out] at hx; injection hx with hx; subst hx; show rid < xid; omega)
            go_wp2_with fail
            go_quiet (fail)
            have H3 := H2.drewN nq
            clear H2 F2 x0 x1
            generalize wr.drewN nq = w3 at H3 ⊢
            by_cases hrn : rid < a.nx
            · have hd3 : decide (rid < a.nx) = true := by simpa using hrn
              have HN := hid (HBS.out.bad HRR.out HRGT.out hrn)
              clear hrn
              have FK := H3.facts
              simp only [World.size_alloc, World.size_drew, factsL, cellsF, Nat.reduceAdd, List.toList_toArray, List.set_cons_zero, List.set_cons_succ, List.setIfInBounds_toArray, and_true, true_and] at FK
              have KN := (((H3.store 10 rfl 0 (.string ⟨#[]⟩)).store 10 rfl 1 (.slice none 0 0)).store 10 rfl 2 (.slice none 0 0)).store 10 rfl 3 (.slice none 0 0)
              go_wp2_with fail
              (try rw [Exit.noGoto_ret])
              exact bodyPost_ret (v := .tuple #[.agg #[.string ⟨#[]⟩, .slice none 0 0, .slice none 0 0, .slice none 0 0], .bool false]) (by simp [results, Tryd.results22, go_sem, FK]) rfl ⟨_, by rw [HN.out], by rw [HN.out]; exact dlAt_zero, KN.below⟩
            · have hd3 : decide (rid < a.nx) = false := by simpa using hrn
              have HRN := hid (show a.nx ≤ rid by omega)
              clear hrn
              have FK := H3.facts
              simp only [World.size_alloc, World.size_drew, factsL, cellsF, Nat.reduceAdd, List.toList_toArray, List.set_cons_zero, List.set_cons_succ, List.setIfInBounds_toArray, and_true, true_and] at FK
              obtain ⟨KL, hKL, KN⟩ := H3.name
              have HF : Hid (∀ wv, Hold M none w wv KL → (wv.cell? ⟨g6, 1, none⟩ = some (.slice I ni ci) ∧ g6 < wv.heap.size) ∧ wv.cell? ⟨g9, 0, none⟩ = some (.int .i64 rid) ∧ wv.cell? ⟨g9, 1, none⟩ = some (.slice rA rn rc) ∧ g9 < wv.heap.size) := hid fun wv HC => by
                rw [hKL] at HC
                have y1 := HC.blk_ 9 rfl
                have y2 := HC.cst_ 0 rfl
                exact ⟨⟨cell_of_row _ _ 1 _ _ _ y1, Blk.lt y1⟩, cell_of_row _ _ 0 _ _ _ y2, cell_of_row _ _ 1 _ _ _ y2, Blk.lt y2⟩
              have HRX : Hid (∀ wv, Hold M none w wv KL → Ro wv (Mut M KL) (VlsIn rA rn rvs)) := hid fun wv HC => by
                rw [hKL] at HC ⊢
                exact HC.ro 1 rfl
              have HKL := hid hKL
              clear hKL H3
              go_wp2_with fail
              refine wp_region_any (by kernel_rfl) ?_
              refine wpAny_hold 5 128 (KL) (spL [(108, RowSlot (Mut M KL) rid rvs), (109, RBoxSlot (Mut M KL) rid rvs)]) (by kernel_rfl) (by kernel_rfl) (by kernel_rfl) rfl ?_ (KN.drew) ?_
              · exact stays_cons rowSlot_mono (stays_cons rboxSlot_mono (stays_nil _))
              simp only [List.take_succ_cons, List.take_zero, List.drop_succ_cons, List.drop_zero, Act.put, List.getElem_toArray, List.getElem_cons_zero, List.getElem_cons_succ, List.setIfInBounds_toArray, List.set_cons_succ, List.set_cons_zero]
              refine dw_val rfl rfl rfl ?_; apply Exists.intro; refine ⟨fun wv HC => ?_, ?_⟩
              ·  go_simp <;> rfl
              simp only [Act.put, List.setIfInBounds_toArray, List.set_cons_succ, List.set_cons_zero]
              refine dw_val rfl rfl rfl ?_; apply Exists.intro; refine ⟨fun wv HC => ?_, ?_⟩
              · obtain ⟨⟨f0, f1⟩, f2, f3, f4⟩ := HF.out _ HC; go_simp <;> rfl
              simp only [Act.put, List.setIfInBounds_toArray, List.set_cons_succ, List.set_cons_zero]
              refine dw_val rfl rfl rfl ?_; apply Exists.intro; refine ⟨fun wv HC => ?_, ?_⟩
              · obtain ⟨⟨f0, f1⟩, f2, f3, f4⟩ := HF.out _ HC; go_simp <;> rfl
              simp only [Act.put, List.setIfInBounds_toArray, List.set_cons_succ, List.set_cons_zero]
              refine dw_callR 108 (RowSlot (Mut M KL) rid rvs) (f := 61) (args := #[.agg #[.int .i64 rid, .slice rA rn rc]]) rfl rfl rfl rfl (fun wv => ?_) (fun wv HC hrm hD => ?_) ?_
              · go_simp <;> rfl
              · refine (dcopied_any _ wv HC.mutLt rid rA rn rc rvs (HRX.out _ HC) (by omega)).mono ?_
                rintro e w5 ⟨A5, n5, c5, rfl, h50, h51, h52, h53, b5⟩
                exact ⟨_, rfl, ⟨A5, n5, c5, rfl, h50, h51, h52, h53⟩, HC.call b5, RM.below b5⟩
              rintro x_ wx HCx ⟨A5, n5, c5, rfl, -, -, -, -⟩
              clear HCx
              simp only [Act.put, List.setIfInBounds_toArray, List.set_cons_succ, List.set_cons_zero]
              refine dw_new #[.int .i64 rid, .slice A5 n5 c5] 53 109 (RBoxSlot (Mut M KL) rid rvs) (fun g => .slice (some ⟨g, 0, none⟩) 1 1) rfl rfl rfl rfl (fun wv => ?_) (fun wv HC _hrm hD hro => ?_) ?_
              · go_simp <;> rfl
              · have hsl : RowSlot (Mut M KL) rid rvs (.agg #[.int .i64 rid, .slice A5 n5 c5]) wv := deps_at hD 3 rfl (by kernel_rfl) rfl rfl
                obtain ⟨A6, n6, c6, e6, h1, h2, h3, h4⟩ := hsl
                obtain ⟨rfl, rfl, rfl⟩ : A5 = A6 ∧ n5 = n6 ∧ c5 = c6 := by
                  injection e6 with e6
                  simp at e6
                  exact e6
                exact ⟨_, A5, n5, c5, rfl, h1, h2, h3, h4.step (by simp) (fun b hb _ => Below.heap_alloc wv _ b hb) (fun _ _ h => h), ro_block (hro _ HC.mutLt) rfl⟩
              rintro gn wg HCg hsl
              simp only [Act.put, List.setIfInBounds_toArray, List.set_cons_succ, List.set_cons_zero]
              clear hsl HCg
              refine rel_nil ?_
              rintro wx2 HX
              rintro _hrm HGW
              have hb2 : RBoxSlot (Mut M KL) rid rvs (.slice (some ⟨gn, 0, none⟩) 1 1) wx2 := (GW_on (d := 109) rfl).1 (HGW 4 _ rfl (by omega))
              clear HGW _hrm
              obtain ⟨gq, A6, n6, c6, e6, k0_, k1_, k2_, k3_, k4_⟩ := hb2
              obtain rfl : gn = gq := by injection e6 with e6; injection e6 with e6; injection e6
              clear e6
              rw [HKL.out] at HX k3_
              have k5 := hid k4_.now
              have HK0 := hid (And.intro k0_ (And.intro k1_ k2_))
              clear k4_ k0_ k1_ k2_ HF HRX KN
              have HRS := hid (show rwCells li ++ [.int .i64 rid, .slice A6 n6 c6] = rwCells (li ++ [⟨rid, A6, n6, c6, rvs⟩]) from rwCells_snoc1 _ _ _ _ _ _)
              have KA := HX.add k3_
              clear HX k3_
              have FKA := KA.facts
              simp only [World.size_alloc, World.size_drew, factsL, cellsF, Nat.reduceAdd, List.toList_toArray, List.set_cons_zero, List.set_cons_succ, List.setIfInBounds_toArray, and_true, true_and] at FKA
              go_wp2_with (at_builtin; go_must (refine wpList_appAllH KA 4 rfl Tryd.elRw k5.out rfl (.tmp 106) (.tmp 109) rfl rfl rfl (by intro z hz; simp at hz; rcases hz with rfl | rfl <;> rfl) (by omega) (by omega) ?_); intro C' cap' w6 hc6 hm6 KB; rw [HRS.out] at KB; simp only [List.set_cons_zero, List.set_cons_succ] at KB; (have F3 := KB.facts); simp only [World.size_alloc, World.size_drew, factsL, cellsF, Nat.reduceAdd, List.toList_toArray, List.set_cons_zero, List.set_cons_succ, List.setIfInBounds_toArray, and_true, true_and] at F3)
              have KD := KB.store 10 rfl 1 (.slice C' (ni + 1) cap')
              have KE := (KD.swapRo 7 rfl (vals_snoc (r := ⟨rid, A6, n6, c6, rvs⟩) (KD.ro 7 rfl) (KD.ro 0 rfl))).drop (List.sublist_cons_self _ _)
              clear KB KD FKA k5
              have HBN := hid (HBS.out.right HRR.out HRGT.out HRN.out (y := ⟨rid, A6, n6, c6, rvs⟩) rfl ⟨HRO.out.id, HK0.out.2.1, HK0.out.2.2, HRO.out.vs⟩)
              have KZ := KE.drop (List.Sublist.cons _ (List.sublist_cons_self _ _))
              go_roundg go
              case measure => omega
              case rel => exact ⟨j + 1, p, _, cp, ni + 1, cap', nd, cd, nu, cu, _, C', D, U, _, ld, lu, by omega, by first | rfl | go_num, rfl, by omega, by omega, by omega, by omega, by omega, by omega, by omega, HBN, KZ⟩
        | zero =>
          obtain rfl : np = 0 := by omega
          have HRGT := hid (show ∀ x, a.rs[p]? = some x → rid < x.1 from fun x hx => by
            have h1 := (List.getElem?_eq_some_iff.1 hx).1
            have h2 := congrArg List.length HAR.out
            rw [List.length_map, HAL.out] at h2
            omega)
          have F2 := H2.facts
          simp only [World.size_alloc, World.size_drew, factsL, cellsF, Nat.reduceAdd, List.toList_toArray, List.set_cons_zero, List.set_cons_succ, List.setIfInBounds_toArray, and_true, true_and] at F2
          go_wp2_with fail
          go_quiet (fail)
          have H3 := H2.drewN nq
          clear H2 F2
          generalize wr.drewN nq = w3 at H3 ⊢
          by_cases hrn : rid < a.nx
          · have hd3 : decide (rid < a.nx) = true := by simpa using hrn
            have HN := hid (HBS.out.bad HRR.out HRGT.out hrn)
            clear hrn
            have FK := H3.facts
            simp only [World.size_alloc, World.size_drew, factsL, cellsF, Nat.reduceAdd, List.toList_toArray, List.set_cons_zero, List.set_cons_succ, List.setIfInBounds_toArray, and_true, true_and] at FK
            have KN := (((H3.store 10 rfl 0 (.string ⟨#[]⟩)).store 10 rfl 1 (.slice none 0 0)).store 10 rfl 2 (.slice none 0 0)).store 10 rfl 3 (.slice none 0 0)
            go_wp2_with fail
            (try rw [Exit.noGoto_ret])
            exact bodyPost_ret (v := .tuple #[.agg #[.string ⟨#[]⟩, .slice none 0 0, .slice none 0 0, .slice none 0 0], .bool false]) (by simp [results, Tryd.results22, go_sem, FK]) rfl ⟨_, by rw [HN.out], by rw [HN.out]; exact dlAt_zero, KN.below⟩
          · have hd3 : decide (rid < a.nx) = false := by simpa using hrn
            have HRN := hid (show a.nx ≤ rid by omega)
            clear hrn
            have FK := H3.facts
            simp only [World.size_alloc, World.size_drew, factsL, cellsF, Nat.reduceAdd, List.toList_toArray, List.set_cons_zero, List.set_cons_succ, List.setIfInBounds_toArray, and_true, true_and] at FK
            obtain ⟨KL, hKL, KN⟩ := H3.name
            have HF : Hid (∀ wv, Hold M none w wv KL → (wv.cell? ⟨g6, 1, none⟩ = some (.slice I ni ci) ∧ g6 < wv.heap.size) ∧ wv.cell? ⟨g9, 0, none⟩ = some (.int .i64 rid) ∧ wv.cell? ⟨g9, 1, none⟩ = some (.slice rA rn rc) ∧ g9 < wv.heap.size) := hid fun wv HC => by
              rw [hKL] at HC
              have y1 := HC.blk_ 9 rfl
              have y2 := HC.cst_ 0 rfl
              exact ⟨⟨cell_of_row _ _ 1 _ _ _ y1, Blk.lt y1⟩, cell_of_row _ _ 0 _ _ _ y2, cell_of_row _ _ 1 _ _ _ y2, Blk.lt y2⟩
            have HRX : Hid (∀ wv, Hold M none w wv KL → Ro wv (Mut M KL) (VlsIn rA rn rvs)) := hid fun wv HC => by
              rw [hKL] at HC ⊢
              exact HC.ro 1 rfl
            have HKL := hid hKL
            clear hKL H3
            go_wp2_with fail
            refine wp_region_any (by kernel_rfl) ?_
            refine wpAny_hold 5 128 (KL) (spL [(108, RowSlot (Mut M KL) rid rvs), (109, RBoxSlot (Mut M KL) rid rvs)]) (by kernel_rfl) (by kernel_rfl) (by kernel_rfl) rfl ?_ (KN.drew) ?_
            · exact stays_cons rowSlot_mono (stays_cons rboxSlot_mono (stays_nil _))
            simp only [List.take_succ_cons, List.take_zero, List.drop_succ_cons, List.drop_zero, Act.put, List.getElem_toArray, List.getElem_cons_zero, List.getElem_cons_succ, List.setIfInBounds_toArray, List.set_cons_succ, List.set_cons_zero]
            refine dw_val rfl rfl rfl ?_; apply Exists.intro; refine ⟨fun wv HC => ?_, ?_⟩
            ·  go_simp <;> rfl
            simp only [Act.put, List.setIfInBounds_toArray, List.set_cons_succ, List.set_cons_zero]
            refine dw_val rfl rfl rfl ?_; apply Exists.intro; refine ⟨fun wv HC => ?_, ?_⟩
            · obtain ⟨⟨f0, f1⟩, f2, f3, f4⟩ := HF.out _ HC; go_simp <;> rfl
            simp only [Act.put, List.setIfInBounds_toArray, List.set_cons_succ, List.set_cons_zero]
            refine dw_val rfl rfl rfl ?_; apply Exists.intro; refine ⟨fun wv HC => ?_, ?_⟩
            · obtain ⟨⟨f0, f1⟩, f2, f3, f4⟩ := HF.out _ HC; go_simp <;> rfl
            simp only [Act.put, List.setIfInBounds_toArray, List.set_cons_succ, List.set_cons_zero]
            refine dw_callR 108 (RowSlot (Mut M KL) rid rvs) (f := 61) (args := #[.agg #[.int .i64 rid, .slice rA rn rc]]) rfl rfl rfl rfl (fun wv => ?_) (fun wv HC hrm hD => ?_) ?_
            · go_simp <;> rfl
            · refine (dcopied_any _ wv HC.mutLt rid rA rn rc rvs (HRX.out _ HC) (by omega)).mono ?_
              rintro e w5 ⟨A5, n5, c5, rfl, h50, h51, h52, h53, b5⟩
              exact ⟨_, rfl, ⟨A5, n5, c5, rfl, h50, h51, h52, h53⟩, HC.call b5, RM.below b5⟩
            rintro x_ wx HCx ⟨A5, n5, c5, rfl, -, -, -, -⟩
            clear HCx
            simp only [Act.put, List.setIfInBounds_toArray, List.set_cons_succ, List.set_cons_zero]
            refine dw_new #[.int .i64 rid, .slice A5 n5 c5] 53 109 (RBoxSlot (Mut M KL) rid rvs) (fun g => .slice (some ⟨g, 0, none⟩) 1 1) rfl rfl rfl rfl (fun wv => ?_) (fun wv HC _hrm hD hro => ?_) ?_
            · go_simp <;> rfl
            · have hsl : RowSlot (Mut M KL) rid rvs (.agg #[.int .i64 rid, .slice A5 n5 c5]) wv := deps_at hD 3 rfl (by kernel_rfl) rfl rfl
              obtain ⟨A6, n6, c6, e6, h1, h2, h3, h4⟩ := hsl
              obtain ⟨rfl, rfl, rfl⟩ : A5 = A6 ∧ n5 = n6 ∧ c5 = c6 := by
                injection e6 with e6
                simp at e6
                exact e6
              exact ⟨_, A5, n5, c5, rfl, h1, h2, h3, h4.step (by simp) (fun b hb _ => Below.heap_alloc wv _ b hb) (fun _ _ h => h), ro_block (hro _ HC.mutLt) rfl⟩
            rintro gn wg HCg hsl
            simp only [Act.put, List.setIfInBounds_toArray, List.set_cons_succ, List.set_cons_zero]
            clear hsl HCg
            refine rel_nil ?_
            rintro wx2 HX
            rintro _hrm HGW
            have hb2 : RBoxSlot (Mut M KL) rid rvs (.slice (some ⟨gn, 0, none⟩) 1 1) wx2 := (GW_on (d := 109) rfl).1 (HGW 4 _ rfl (by omega))
            clear HGW _hrm
            obtain ⟨gq, A6, n6, c6, e6, k0_, k1_, k2_, k3_, k4_⟩ := hb2
            obtain rfl : gn = gq := by injection e6 with e6; injection e6 with e6; injection e6
            clear e6
            rw [HKL.out] at HX k3_
            have k5 := hid k4_.now
            have HK0 := hid (And.intro k0_ (And.intro k1_ k2_))
            clear k4_ k0_ k1_ k2_ HF HRX KN
            have HRS := hid (show rwCells li ++ [.int .i64 rid, .slice A6 n6 c6] = rwCells (li ++ [⟨rid, A6, n6, c6, rvs⟩]) from rwCells_snoc1 _ _ _ _ _ _)
            have KA := HX.add k3_
            clear HX k3_
            have FKA := KA.facts
            simp only [World.size_alloc, World.size_drew, factsL, cellsF, Nat.reduceAdd, List.toList_toArray, List.set_cons_zero, List.set_cons_succ, List.setIfInBounds_toArray, and_true, true_and] at FKA
            go_wp2_with (at_builtin; go_must (refine wpList_appAllH KA 4 rfl Tryd.elRw k5.out rfl (.tmp 106) (.tmp 109) rfl rfl rfl (by intro z hz; simp at hz; rcases hz with rfl | rfl <;> rfl) (by omega) (by omega) ?_); intro C' cap' w6 hc6 hm6 KB; rw [HRS.out] at KB; simp only [List.set_cons_zero, List.set_cons_succ] at KB; (have F3 := KB.facts); simp only [World.size_alloc, World.size_drew, factsL, cellsF, Nat.reduceAdd, List.toList_toArray, List.set_cons_zero, List.set_cons_succ, List.setIfInBounds_toArray, and_true, true_and] at F3)
            have KD := KB.store 10 rfl 1 (.slice C' (ni + 1) cap')
            have KE := (KD.swapRo 7 rfl (vals_snoc (r := ⟨rid, A6, n6, c6, rvs⟩) (KD.ro 7 rfl) (KD.ro 0 rfl))).drop (List.sublist_cons_self _ _)
            clear KB KD FKA k5
            have HBN := hid (HBS.out.right HRR.out HRGT.out HRN.out (y := ⟨rid, A6, n6, c6, rvs⟩) rfl ⟨HRO.out.id, HK0.out.2.1, HK0.out.2.2, HRO.out.vs⟩)
            have KZ := KE.drop (List.Sublist.cons _ (List.sublist_cons_self _ _))
            go_roundg go
            case measure => omega
            case rel => exact ⟨j + 1, p, _, cp, ni + 1, cap', nd, cd, nu, cu, _, C', D, U, _, ld, lu, by omega, by first | rfl | go_num, rfl, by omega, by omega, by omega, by omega, by omega, by omega, by omega, HBN, KZ⟩
    | zero =>
      obtain rfl : j = bm := by omega
      have hd : decide ((j : Int) < (j : Int)) = false := by simp
      have HBJ := hid (show b.rs.length ≤ j by rw [← HBR.out, List.length_map, HBL.out]; exact Nat.le_refl _)
      go_wp2_with fail
      (try rw [Exit.noGoto_ret])
      go_loopw [115] (fun iv wr => ∃ (k nd cd : Nat) (D : Option Addr) (ld : List Rw), k ≤ np ∧ iv = .int .i64 k ∧ nd ≤ p + k ∧ Hid (BSt a b j (p + k) li ld lu) ∧ Hold M none w wr [.ro (RwsIn Ap np (la.drop p)), .own 53 2 (.slice I ni ci) ni (rwCells li), .own 53 2 (.slice D nd cd) nd (rwCells ld), .own 99 3 (.slice U nu cu) nu (prCells lu), .ro (ValsIn li), .ro (ValsIn ld), .ro (PrVals lu), .blk g6 41 #[.string a.nm, .slice I ni ci, .slice D nd cd, .slice U nu cu], .blk g4 41 #[.string ⟨#[]⟩, .slice none 0 0, .slice none 0 0, .slice none 0 0], .cst g3 27 #[.string b.nm, .slice bA bn bc, .int .i64 b.nx, .slice bB j bd], .cst g2 27 #[.string a.nm, .slice aA an ac, .int .i64 a.nx, .slice aB am ad], .ro (ColsIn aA an a.cs), .ro (RwsIn aB am la), .ro (ColsIn bA bn b.cs), .ro (RwsIn bB j lb)]) (fun iv _ => np - (intOf iv).toNat)
      case atStart => exact ⟨0, nd, cd, D, ld, by omega, rfl, by omega, HBS, H⟩
      case round =>
        clear H HBS hnd
        clear nd cd D ld
        obtain ⟨k, nd, cd, D, ld, hk, rfl, hnd, HBS, H⟩ := hrel
        by_cases hlt : k < np
        · have hd5 : decide ((k : Int) < (np : Int)) = true := by simp; omega
          have k0 : (0 : Int) ≤ (k : Int) := by omega
          have k1 : (k : Int) < (np : Int) := by omega
          obtain ⟨x, hx⟩ := get_of HAL.out (show p + k < am by omega)
          have HXX := hid (show a.rs[p + k]? = some x.row by rw [← HAR.out, List.getElem?_map, hx]; rfl)
          have HXO := hid (HAO.out x (List.mem_of_getElem? hx))
          have hxn6 := HSA.out x (List.mem_of_getElem? hx)
          have hx2 : (la.drop p)[k]? = some x := by rw [List.getElem?_drop]; exact hx
          obtain ⟨bx, ox, rfl, hbx', x0, x1, _⟩ := (H.ro 0 rfl).now.at_ hx2
          have hxx : Ro wr _ (VlsIn x.A x.n x.vs) := (H.ro 0 rfl).imp fun w2 h2 => h2.2 x (List.mem_of_getElem? hx2)
          clear hx hx2
          obtain ⟨xid, xA, xn, xc, xvs⟩ := x
          dsimp only at *
          have KX := (H.add hxx).alloc_cst #[.int .i64 xid, .slice xA xn xc] 53
          clear H hxx
          obtain ⟨KL, hKL, KN⟩ := KX.name
          have HF : Hid (∀ wv, Hold M none w wv KL → (wv.cell? ⟨g6, 2, none⟩ = some (.slice D nd cd) ∧ g6 < wv.heap.size) ∧ wv.cell? ⟨wr.heap.size, 0, none⟩ = some (.int .i64 xid) ∧ wv.cell? ⟨wr.heap.size, 1, none⟩ = some (.slice xA xn xc) ∧ wr.heap.size < wv.heap.size) := hid fun wv HC => by
            rw [hKL] at HC
            have y1 := HC.blk_ 9 rfl
            have y2 := HC.cst_ 0 rfl
            exact ⟨⟨cell_of_row _ _ 2 _ _ _ y1, Blk.lt y1⟩, cell_of_row _ _ 0 _ _ _ y2, cell_of_row _ _ 1 _ _ _ y2, Blk.lt y2⟩
          have HRX : Hid (∀ wv, Hold M none w wv KL → Ro wv (Mut M KL) (VlsIn xA xn xvs)) := hid fun wv HC => by
            rw [hKL] at HC ⊢
            exact HC.ro 1 rfl
          have HKL := hid hKL
          clear hKL KX
          go_wp2_with fail
          refine wp_region_any (by kernel_rfl) ?_
          refine wpAny_hold 5 128 (KL) (spL [(122, RowSlot (Mut M KL) xid xvs), (123, RBoxSlot (Mut M KL) xid xvs)]) (by kernel_rfl) (by kernel_rfl) (by kernel_rfl) rfl ?_ (KN.drew) ?_
          · exact stays_cons rowSlot_mono (stays_cons rboxSlot_mono (stays_nil _))
          simp only [List.take_succ_cons, List.take_zero, List.drop_succ_cons, List.drop_zero, Act.put, List.getElem_toArray, List.getElem_cons_zero, List.getElem_cons_succ, List.setIfInBounds_toArray, List.set_cons_succ, List.set_cons_zero]
          refine dw_val rfl rfl rfl ?_; apply Exists.intro; refine ⟨fun wv HC => ?_, ?_⟩
          ·  go_simp <;> rfl
          simp only [Act.put, List.setIfInBounds_toArray, List.set_cons_succ, List.set_cons_zero]
          refine dw_val rfl rfl rfl ?_; apply Exists.intro; refine ⟨fun wv HC => ?_, ?_⟩
          · obtain ⟨⟨f0, f1⟩, f2, f3, f4⟩ := HF.out _ HC; go_simp <;> rfl
          simp only [Act.put, List.setIfInBounds_toArray, List.set_cons_succ, List.set_cons_zero]
          refine dw_val rfl rfl rfl ?_; apply Exists.intro; refine ⟨fun wv HC => ?_, ?_⟩
          · obtain ⟨⟨f0, f1⟩, f2, f3, f4⟩ := HF.out _ HC; go_simp <;> rfl
          simp only [Act.put, List.setIfInBounds_toArray, List.set_cons_succ, List.set_cons_zero]
          refine dw_callR 122 (RowSlot (Mut M KL) xid xvs) (f := 61) (args := #[.agg #[.int .i64 xid, .slice xA xn xc]]) rfl rfl rfl rfl (fun wv => ?_) (fun wv HC hrm hD => ?_) ?_
          · go_simp <;> rfl
          · refine (dcopied_any _ wv HC.mutLt xid xA xn xc xvs (HRX.out _ HC) (by omega)).mono ?_
            rintro e w5 ⟨A5, n5, c5, rfl, h50, h51, h52, h53, b5⟩
            exact ⟨_, rfl, ⟨A5, n5, c5, rfl, h50, h51, h52, h53⟩, HC.call b5, RM.below b5⟩
          rintro x_ wx HCx ⟨A5, n5, c5, rfl, -, -, -, -⟩
          clear HCx
          simp only [Act.put, List.setIfInBounds_toArray, List.set_cons_succ, List.set_cons_zero]
          refine dw_new #[.int .i64 xid, .slice A5 n5 c5] 53 123 (RBoxSlot (Mut M KL) xid xvs) (fun g => .slice (some ⟨g, 0, none⟩) 1 1) rfl rfl rfl rfl (fun wv => ?_) (fun wv HC _hrm hD hro => ?_) ?_
          · go_simp <;> rfl
          · have hsl : RowSlot (Mut M KL) xid xvs (.agg #[.int .i64 xid, .slice A5 n5 c5]) wv := deps_at hD 3 rfl (by kernel_rfl) rfl rfl
            obtain ⟨A6, n6, c6, e6, h1, h2, h3, h4⟩ := hsl
            obtain ⟨rfl, rfl, rfl⟩ : A5 = A6 ∧ n5 = n6 ∧ c5 = c6 := by
              injection e6 with e6
              simp at e6
              exact e6
            exact ⟨_, A5, n5, c5, rfl, h1, h2, h3, h4.step (by simp) (fun b hb _ => Below.heap_alloc wv _ b hb) (fun _ _ h => h), ro_block (hro _ HC.mutLt) rfl⟩
          rintro gn wg HCg hsl
          simp only [Act.put, List.setIfInBounds_toArray, List.set_cons_succ, List.set_cons_zero]
          clear hsl HCg
          refine rel_nil ?_
          rintro wx2 HX
          rintro _hrm HGW
          have hb2 : RBoxSlot (Mut M KL) xid xvs (.slice (some ⟨gn, 0, none⟩) 1 1) wx2 := (GW_on (d := 123) rfl).1 (HGW 4 _ rfl (by omega))
          clear HGW _hrm
          obtain ⟨gq, A6, n6, c6, e6, k0_, k1_, k2_, k3_, k4_⟩ := hb2
          obtain rfl : gn = gq := by injection e6 with e6; injection e6 with e6; injection e6
          clear e6
          rw [HKL.out] at HX k3_
          have k5 := hid k4_.now
          have HK0 := hid (And.intro k0_ (And.intro k1_ k2_))
          clear k4_ k0_ k1_ k2_ HF HRX KN
          have HRS := hid (show rwCells ld ++ [.int .i64 xid, .slice A6 n6 c6] = rwCells (ld ++ [⟨xid, A6, n6, c6, xvs⟩]) from rwCells_snoc1 _ _ _ _ _ _)
          have KA := HX.add k3_
          clear HX k3_
          have FKA := KA.facts
          simp only [World.size_alloc, World.size_drew, factsL, cellsF, Nat.reduceAdd, List.toList_toArray, List.set_cons_zero, List.set_cons_succ, List.setIfInBounds_toArray, and_true, true_and] at FKA
          go_wp2_with (at_builtin; go_must (refine wpList_appAllH KA 5 rfl Tryd.elRw k5.out rfl (.tmp 120) (.tmp 123) rfl rfl rfl (by intro z hz; simp at hz; rcases hz with rfl | rfl <;> rfl) (by omega) (by omega) ?_); intro C' cap' w6 hc6 hm6 KB; rw [HRS.out] at KB; simp only [List.set_cons_zero, List.set_cons_succ] at KB; (have F3 := KB.facts); simp only [World.size_alloc, World.size_drew, factsL, cellsF, Nat.reduceAdd, List.toList_toArray, List.set_cons_zero, List.set_cons_succ, List.setIfInBounds_toArray, and_true, true_and] at F3)
          have KD := KB.store 10 rfl 2 (.slice C' (nd + 1) cap')
          have KE := (KD.swapRo 8 rfl (vals_snoc (r := ⟨xid, A6, n6, c6, xvs⟩) (KD.ro 8 rfl) (KD.ro 0 rfl))).drop (List.sublist_cons_self _ _)
          clear KB KD FKA k5
          have HBN := hid (HBS.out.tail HBJ.out HXX.out (y := ⟨xid, A6, n6, c6, xvs⟩) rfl ⟨HXO.out.id, HK0.out.2.1, HK0.out.2.2, HXO.out.vs⟩)
          have KZ := KE.drop (List.Sublist.cons _ (List.sublist_cons_self _ _))
          go_roundw
          case rel => exact ⟨k + 1, nd + 1, cap', C', _, by omega, by first | rfl | go_num, by omega, HBN, KZ⟩
          case measure => simp [intOf]; omega
        · obtain rfl : np = k := by omega
          have hd5 : decide ((np : Int) < (np : Int)) = false := by simp
          have HFIN := hid (HBS.out.fin HBJ.out (by rw [← HAR.out, List.length_map, HAL.out]; omega))
          have F := H.facts
          simp only [World.size_alloc, World.size_drew, factsL, cellsF, Nat.reduceAdd, List.toList_toArray, List.set_cons_zero, List.set_cons_succ, List.setIfInBounds_toArray, and_true, true_and] at F
          obtain ⟨hi1, hi2, _⟩ := own_caps (H.get 1 rfl)
          obtain ⟨hd1, hd2, _⟩ := own_caps (H.get 2 rfl)
          obtain ⟨hu1, hu2, _⟩ := own_caps (H.get 3 rfl)
          have KS := H.sealRow 1 rfl
          simp only [List.set_cons_zero, List.set_cons_succ] at KS
          have KS2 := KS.sealRow 2 rfl
          simp only [List.set_cons_zero, List.set_cons_succ] at KS2
          have KS3 := KS2.sealRow 3 rfl
          simp only [List.set_cons_zero, List.set_cons_succ] at KS3
          have KN := (((KS3.store 8 rfl 0 (.string a.nm)).store 8 rfl 1 (.slice I ni ci)).store 8 rfl 2 (.slice D nd cd)).store 8 rfl 3 (.slice U nu cu)
          have r1 := (KN.roOut 1 rfl).and (KN.roOut 4 rfl)
          have r2 := (KN.roOut 2 rfl).and (KN.roOut 5 rfl)
          have r3 := (KN.roOut 3 rfl).and (KN.roOut 6 rfl)
          have NK := H.nes
          simp only [nesL, neF, and_true, true_and] at NK
          clear KS KS2 KS3 H
          go_wp2_with fail
          (try rw [Exit.noGoto_ret])
          exact bodyPost_ret (v := .tuple #[.agg #[.string a.nm, .slice I ni ci, .slice D nd cd, .slice U nu cu], .bool true]) (by simp [results, Tryd.results22, go_sem, F, NK]) rfl ⟨_, by rw [HFIN.out], by rw [HFIN.out]; exact ⟨I, ni, ci, D, nd, cd, U, nu, cu, li, ld, lu, rfl, ⟨hi1, hi2⟩, ⟨hd1, hd2⟩, ⟨hu1, hu2⟩, r1, r2, r3, HBS.out.ok1, HBS.out.ok2, HBS.out.ok3, rfl, rfl, rfl⟩, KN.below⟩
end Go.Proofs.YtjpgbhakkfgecaaDoor

namespace Go.Proofs.YtjpgbhakkfgecaaDoor
open Go.RowKit
set_option linter.unusedVariables false
set_option linter.unusedSimpArgs false

set_option maxHeartbeats 4000000 in
set_option maxRecDepth 100000 in
theorem rsameschema_any (w : World) (nm : ByteArray) (A : Option Addr) (n c : Nat) (cs : List Col) (nm2 : ByteArray) (B : Option Addr) (m d : Nat) (ds : List Col) (hD : ColsIn A n cs w) (hE : ColsIn B m ds w) (hn : n ≤ 4398046511104) :
    Calls Tryd.prog 53 #[.agg #[.string nm, .slice A n c], .agg #[.string nm2, .slice B m d]] w fun e w' => e = .returned (.bool (decide (nm = nm2 ∧ cs = ds))) ∧ Below w.heap.size w w' := by
  have HL := hid (show cs.length = n from cols_n hD)
  have HK := hid (show ds.length = m from cols_n hE)
  have K0 := ((((Hold.start None_ w (fun b hb => hb.elim)).add (Rd.ro hE (Nat.le_refl _) (by simp [Mut, None_]) : Ro w _ (ColsIn B m ds))).add (Rd.ro hD (Nat.le_refl _) (by simp [Mut, None_, Hp.foot]) : Ro w _ (ColsIn A n cs))).alloc_cst #[.string nm, .slice A n c] 24).alloc_cst #[.string nm2, .slice B m d] 24
  rw [World.size_alloc] at K0
  have F0 := K0.facts
  simp only [World.size_alloc, World.size_drew, factsL, cellsF, Nat.reduceAdd, List.toList_toArray, List.set_cons_zero, List.set_cons_succ, List.setIfInBounds_toArray, and_true, true_and] at F0
  clear hD hE
  by_cases hi : nm = nm2
  · subst hi
    have h1 : (nm.toList == nm.toList) = true := by simp
    have h1' : (nm.toList != nm.toList) = false := by simp
    by_cases hnm : n = m
    · subst hnm
      have hb : ((n : Int) != (n : Int)) = false := by simp
      go_enter Tryd.func53, Tryd.ntmps53
      go_wp2_with fail
      obtain ⟨g2, hg2⟩ : ∃ g, g = w.heap.size := ⟨_, rfl⟩
      obtain ⟨g3, hg3⟩ : ∃ g, g = g2 + 1 := ⟨_, rfl⟩
      rw [← hg2, ← hg3] at K0 ⊢
      clear F0
      generalize (w.alloc _).alloc _ = w1 at K0 ⊢
      have HG := hid hg2
      clear hg2 hg3
      go_loopw [23] (fun iv wr => ∃ (k : Nat), k ≤ n ∧ iv = .int .i64 k ∧ Hid (cs.take k = ds.take k) ∧ Hold None_ none w wr [.cst g3 24 #[.string nm, .slice B n d], .cst g2 24 #[.string nm, .slice A n c], .ro (ColsIn A n cs), .ro (ColsIn B n ds)]) (fun iv _ => n - (intOf iv).toNat)
      case atStart => exact ⟨0, by omega, rfl, hid (by simp), K0⟩
      case round =>
        clear K0
        obtain ⟨k, hk, rfl, HTK, H⟩ := hrel
        have F := H.facts
        simp only [World.size_alloc, World.size_drew, factsL, cellsF, Nat.reduceAdd, List.toList_toArray, List.set_cons_zero, List.set_cons_succ, List.setIfInBounds_toArray, and_true, true_and] at F
        by_cases hlt : k < n
        · have hd : decide ((k : Int) < (n : Int)) = true := by simp; omega
          have i0 : (0 : Int) ≤ (k : Int) := by omega
          have i1 : (k : Int) < (n : Int) := by omega
          obtain ⟨x, hx⟩ := get_of HL.out hlt
          obtain ⟨y, hy⟩ := get_of HK.out hlt
          obtain ⟨g, o, rfl, hbx, x0, x1, x2, x3⟩ := (RdC.of_sl (H.ro 2 rfl).now).at_ hx
          obtain ⟨g', o', rfl, hby, y0, y1, y2, y3⟩ := (RdC.of_sl (H.ro 3 rfl).now).at_ hy
          have HX := hid hx; have HY := hid hy; clear hx hy
          by_cases h0 : x.name = y.name
          · have e0 : (x.name.toList == y.name.toList) = true := by simp [h0]
            by_cases h1 : x.ty = y.ty
            · have e1 : (x.ty == y.ty) = true := by simp [h1]
              by_cases h2 : x.nn = y.nn
              · have e2 : (x.nn == y.nn) = true := by simp [h2]
                by_cases h3 : x.key = y.key
                · have e3 : (x.key == y.key) = true := by simp [h3]
                  have HXY := hid (show x = y by cases x; cases y; simp_all)
                  clear h0 h1 h2 h3
                  go_wp2_with fail
                  go_quiet (fail)
                  have HZ := H.drewN nq
                  go_wp2_with fail
                  go_roundw
                  case rel => exact ⟨k + 1, by omega, by go_num, hid (takeEq_succ HX.out HY.out HTK.out HXY.out), HZ⟩
                  case measure => simp [intOf]; omega
                · have e3 : (x.key == y.key) = false := by simpa using h3
                  have HN := hid (show decide (nm = nm ∧ cs = ds) = false from by rw [decide_eq_false_iff_not]; rintro ⟨_, h⟩; exact take_ne HX.out HY.out (by intro h; exact h3 (by rw [h])) h)
                  clear h0 h1 h2 h3
                  go_wp2_with fail
                  go_quiet (fail)
                  have HZ := H.drewN nq
                  go_wp2_with fail
                  go_ret
                  exact ⟨by rw [HN.out] <;> rfl, HZ.below⟩
              · have e2 : (x.nn == y.nn) = false := by simpa using h2
                have HN := hid (show decide (nm = nm ∧ cs = ds) = false from by rw [decide_eq_false_iff_not]; rintro ⟨_, h⟩; exact take_ne HX.out HY.out (by intro h; exact h2 (by rw [h])) h)
                clear h0 h1 h2
                go_wp2_with fail
                go_quiet (fail)
                have HZ := H.drewN nq
                go_wp2_with fail
                go_ret
                exact ⟨by rw [HN.out] <;> rfl, HZ.below⟩
            · have e1 : (x.ty == y.ty) = false := by simpa using h1
              have HN := hid (show decide (nm = nm ∧ cs = ds) = false from by rw [decide_eq_false_iff_not]; rintro ⟨_, h⟩; exact take_ne HX.out HY.out (by intro h; exact h1 (by rw [h])) h)
              clear h0 h1
              go_wp2_with fail
              go_quiet (fail)
              have HZ := H.drewN nq
              go_wp2_with fail
              go_ret
              exact ⟨by rw [HN.out] <;> rfl, HZ.below⟩
          · have e0 : (x.name.toList == y.name.toList) = false := by rw [beq_eq_false_iff_ne]; exact fun h => h0 (bytesEq h)
            have HN := hid (show decide (nm = nm ∧ cs = ds) = false from by rw [decide_eq_false_iff_not]; rintro ⟨_, h⟩; exact take_ne HX.out HY.out (by intro h; exact h0 (by rw [h])) h)
            clear h0
            go_wp2_with fail
            go_quiet (fail)
            have HZ := H.drewN nq
            go_wp2_with fail
            go_ret
            exact ⟨by rw [HN.out] <;> rfl, HZ.below⟩
        · obtain rfl : n = k := by omega
          have hd : decide ((n : Int) < (n : Int)) = false := by simp
          have HE := hid (show cs = ds from by
            have h := HTK.out
            rw [List.take_of_length_le (by rw [HL.out]; exact Nat.le_refl _), List.take_of_length_le (by rw [HK.out]; exact Nat.le_refl _)] at h
            simp [h])
          go_wp2_with fail
          go_ret
          exact ⟨congrArg (fun b => Ending.returned (Value.bool b)) (a₁ := true) (by simp [HE.out]), H.below⟩
    · have hb : ((n : Int) != (m : Int)) = true := by simp; omega
      have HB := hid (show ¬ cs = ds from by rintro rfl; have := HL.out; have := HK.out; omega)
      go_enter Tryd.func53, Tryd.ntmps53
      go_wp2_with fail
      go_ret
      exact ⟨congrArg (fun b => Ending.returned (Value.bool b)) (a₁ := false) (by simp [HB.out]), K0.below⟩
  · have h1 : (nm.toList == nm2.toList) = false := by rw [beq_eq_false_iff_ne]; exact fun h => hi (bytesEq h)
    have h1' : (nm.toList != nm2.toList) = true := by rw [bne_iff_ne]; exact fun h => hi (bytesEq h)
    have HB := hid (show decide (nm = nm2 ∧ cs = ds) = false by simp [hi])
    clear hi
    go_enter Tryd.func53, Tryd.ntmps53
    go_wp2_with fail
    go_ret
    exact ⟨by rw [HB.out] <;> rfl, K0.below⟩
end Go.Proofs.YtjpgbhakkfgecaaDoor

namespace Go.Proofs.YtjpgbhakkfgecaaDoor
open Go.RowKit
set_option linter.unusedVariables false
set_option linter.unusedSimpArgs false

set_option maxHeartbeats 8000000 in
set_option maxRecDepth 100000 in
theorem rbetw_any (M : Nat → Prop) (w : World) (hM : ∀ b, M b → b < w.heap.size) (va vb : Value) (a b : Tb) (hTa : TbAt w M va a) (hTb : TbAt w M vb b) (hsa : a.nm.size ≤ maxLen) (hca : ∀ x ∈ a.cs, x.name.size ≤ maxLen) (hra : a.rs.length ≤ 4398046511104) (hsb : b.nm.size ≤ maxLen) (hcb : ∀ x ∈ b.cs, x.name.size ≤ maxLen) (hrb : b.rs.length ≤ 4398046511104) :
    Calls Tryd.prog 19 #[va, vb] w fun e w' => BetRet w M (betweenC a b) e w' := by
  obtain ⟨aA, an, ac, aB, am, ad, la, rfl, a1, a2, a3, a4, a5, a6, a7, a8⟩ := hTa
  obtain ⟨bA, bn, bc, bB, bm, bd, lb, rfl, b1, b2, b3, b4, b5, b6, b7, b8⟩ := hTb
  have HAL := hid (show la.length = am from a6.now.len)
  have HBL := hid (show lb.length = bm from b6.now.len)
  have HAR := hid a8
  have HBR := hid b8
  have HAO := hid a7
  have HBO := hid b7
  have HAE := hid a6.now
  have HBE := hid b6.now
  have HAC := hid (show a.cs.length = an from cols_n a5.now)
  have ham : am ≤ 4398046511104 := by have := HAL.out; have h := congrArg List.length a8; rw [List.length_map] at h; omega
  have hbm : bm ≤ 4398046511104 := by have := HBL.out; have h := congrArg List.length b8; rw [List.length_map] at h; omega
  have K0 := (((((((Hold.start M w hM).add (b6.less (by simp [Mut]))).add (b5.less (by simp [Mut, Hp.foot]))).add (a6.less (by simp [Mut, Hp.foot]))).add (a5.less (by simp [Mut, Hp.foot]))).alloc_cst #[.string a.nm, .slice aA an ac, .int .i64 a.nx, .slice aB am ad] 27).alloc_cst #[.string b.nm, .slice bA bn bc, .int .i64 b.nx, .slice bB bm bd] 27).alloc #[.string ⟨#[]⟩, .slice none 0 0, .slice none 0 0, .slice none 0 0] 41
  simp only [World.size_alloc] at K0
  have F0 := K0.facts
  simp only [World.size_alloc, World.size_drew, factsL, cellsF, Nat.reduceAdd, List.toList_toArray, List.set_cons_zero, List.set_cons_succ, List.setIfInBounds_toArray, and_true, true_and] at F0
  clear a5 a6 a7 a8 b5 b6 b7 b8
  go_enter Tryd.func19, Tryd.ntmps19
  go_wp2_with fail
  obtain ⟨g2, hg2⟩ : ∃ g, g = w.heap.size := ⟨_, rfl⟩
  obtain ⟨g3, hg3⟩ : ∃ g, g = g2 + 1 := ⟨_, rfl⟩
  obtain ⟨g4, hg4⟩ : ∃ g, g = g3 + 1 := ⟨_, rfl⟩
  rw [← hg2, ← hg3, ← hg4] at K0 ⊢
  clear F0
  generalize ((w.alloc _).alloc _).alloc _ = w1 at K0 ⊢
  have HGX := hid hg2
  clear hg2 hg3 hg4
  have hv := rtvalid_any _ _ K0.mutLt a.nm aA an ac a.cs a.nx aB am ad la (K0.ro 3 rfl) (K0.ro 4 rfl) (by omega) (by omega) HAO.out hsa hca
  rw [HAR.out] at hv
  refine hv.mono ?_
  clear hv
  rintro e w2 ⟨rfl, b1_⟩
  have K1 := K0.call b1_
  clear K0 b1_
  have F1 := K1.facts
  simp only [World.size_alloc, World.size_drew, factsL, cellsF, Nat.reduceAdd, List.toList_toArray, List.set_cons_zero, List.set_cons_succ, List.setIfInBounds_toArray, and_true, true_and] at F1
  cases hva : tabB a.nm a.cs a.nx a.rs
  · have HN := hid (betC_a (b := b) hva)
    clear hva
    have KN := (((K1.store 0 rfl 0 (.string ⟨#[]⟩)).store 0 rfl 1 (.slice none 0 0)).store 0 rfl 2 (.slice none 0 0)).store 0 rfl 3 (.slice none 0 0)
    go_wp2_with fail
    exact bodyPost_ret (v := .tuple #[.agg #[.string ⟨#[]⟩, .slice none 0 0, .slice none 0 0, .slice none 0 0], .bool false]) (by simp [results, Tryd.results19, go_sem, F1]) rfl ⟨_, by rw [HN.out], by rw [HN.out]; exact dlAt_zero, KN.below⟩
  have HVA := hid hva
  clear hva
  go_wp2_with fail
  have hv := rtvalid_any _ _ K1.mutLt b.nm bA bn bc b.cs b.nx bB bm bd lb (K1.ro 5 rfl) (K1.ro 6 rfl) (by omega) (by omega) HBO.out hsb hcb
  rw [HBR.out] at hv
  refine hv.mono ?_
  clear hv
  rintro e w3 ⟨rfl, b1_⟩
  have K2 := K1.call b1_
  clear K1 b1_ F1
  have F2 := K2.facts
  simp only [World.size_alloc, World.size_drew, factsL, cellsF, Nat.reduceAdd, List.toList_toArray, List.set_cons_zero, List.set_cons_succ, List.setIfInBounds_toArray, and_true, true_and] at F2
  cases hvb : tabB b.nm b.cs b.nx b.rs
  · have HN := hid (betC_b (a := a) hvb)
    clear hvb
    have KN := (((K2.store 0 rfl 0 (.string ⟨#[]⟩)).store 0 rfl 1 (.slice none 0 0)).store 0 rfl 2 (.slice none 0 0)).store 0 rfl 3 (.slice none 0 0)
    go_wp2_with fail
    exact bodyPost_ret (v := .tuple #[.agg #[.string ⟨#[]⟩, .slice none 0 0, .slice none 0 0, .slice none 0 0], .bool false]) (by simp [results, Tryd.results19, go_sem, F2]) rfl ⟨_, by rw [HN.out], by rw [HN.out]; exact dlAt_zero, KN.below⟩
  have HVB := hid hvb
  clear hvb hsa hca hsb hcb
  have han6 : an ≤ 6 := by have := tabB_cols HVA.out; have := HAC.out; omega
  have ham1 : am ≤ 100 := by have := (tabB_rows HVA.out).1; have h := congrArg List.length HAR.out; rw [List.length_map] at h; have := HAL.out; omega
  have hbm1 : bm ≤ 100 := by have := (tabB_rows HVB.out).1; have h := congrArg List.length HBR.out; rw [List.length_map] at h; have := HBL.out; omega
  have HSA := hid (rw_short HAE.out (by rw [HAR.out]; exact HVA.out))
  have HSB := hid (rw_short HBE.out (by rw [HBR.out]; exact HVB.out))
  clear ham hbm hra hrb
  go_wp2_with fail
  refine (rsameschema_any _ a.nm aA an ac a.cs b.nm bA bn bc b.cs (K2.ro 3 rfl).now (K2.ro 5 rfl).now (by omega)).mono ?_
  rintro e w4 ⟨rfl, b1_⟩
  have K3 := K2.call b1_
  clear K2 b1_ F2
  have F3 := K3.facts
  simp only [World.size_alloc, World.size_drew, factsL, cellsF, Nat.reduceAdd, List.toList_toArray, List.set_cons_zero, List.set_cons_succ, List.setIfInBounds_toArray, and_true, true_and] at F3
  cases hss : decide (a.nm = b.nm ∧ a.cs = b.cs)
  · have HN := hid (betC_s hss)
    clear hss
    have KN := (((K3.store 0 rfl 0 (.string ⟨#[]⟩)).store 0 rfl 1 (.slice none 0 0)).store 0 rfl 2 (.slice none 0 0)).store 0 rfl 3 (.slice none 0 0)
    go_wp2_with fail
    exact bodyPost_ret (v := .tuple #[.agg #[.string ⟨#[]⟩, .slice none 0 0, .slice none 0 0, .slice none 0 0], .bool false]) (by simp [results, Tryd.results19, go_sem, F3]) rfl ⟨_, by rw [HN.out], by rw [HN.out]; exact dlAt_zero, KN.below⟩
  have HEQ := hid (of_decide_eq_true hss)
  clear hss
  by_cases hnx : b.nx < a.nx
  · have hd : decide (b.nx < a.nx) = true := by simpa using hnx
    have HN := hid (betC_n hnx)
    clear hnx
    have KN := (((K3.store 0 rfl 0 (.string ⟨#[]⟩)).store 0 rfl 1 (.slice none 0 0)).store 0 rfl 2 (.slice none 0 0)).store 0 rfl 3 (.slice none 0 0)
    go_wp2_with fail
    exact bodyPost_ret (v := .tuple #[.agg #[.string ⟨#[]⟩, .slice none 0 0, .slice none 0 0, .slice none 0 0], .bool false]) (by simp [results, Tryd.results19, go_sem, F3]) rfl ⟨_, by rw [HN.out], by rw [HN.out]; exact dlAt_zero, KN.below⟩
  have hd : decide (b.nx < a.nx) = false := by simpa using hnx
  have HST := hid (RSt.zero HVA.out HVB.out HEQ.out (show a.nx ≤ b.nx by omega))
  clear hnx
  have K4 := K3.alloc #[.string a.nm, .slice none 0 0, .slice none 0 0, .slice none 0 0] 41
  go_wp2_with fail
  obtain ⟨g6, hg6⟩ : ∃ g, g = w4.heap.size := ⟨_, rfl⟩
  rw [← hg6] at K4 ⊢
  have HG6 := hid hg6
  clear hg6 hd F3 K3
  generalize World.alloc w4 _ = w5 at K4 ⊢
  have K6 := ((((((K4.add (show Ro _ _ (PrVals []) from fun _ _ _ r hr => nomatch hr)).add (ro_vals_nil _ _)).add (ro_vals_nil _ _)).nil 99 3).nil 53 2).nil 53 2)
  clear K4
  go_loopw [46] (fun iv wr => ∃ (j ni ci nu cu : Nat) (I U : Option Addr) (li : List Rw) (lu : List Pr), j ≤ bm ∧ iv = .int .i64 j ∧ ni ≤ j ∧ nu ≤ j ∧ Hid (RSt a b j 0 li [] lu) ∧ Hold M none w wr [.own 53 2 (.slice I ni ci) ni (rwCells li), .own 53 2 (.slice none 0 0) 0 (rwCells []), .own 99 3 (.slice U nu cu) nu (prCells lu), .ro (ValsIn li), .ro (ValsIn []), .ro (PrVals lu), .blk g6 41 #[.string a.nm, .slice I ni ci, .slice none 0 0, .slice U nu cu], .blk g4 41 #[.string ⟨#[]⟩, .slice none 0 0, .slice none 0 0, .slice none 0 0], .cst g3 27 #[.string b.nm, .slice bA bn bc, .int .i64 b.nx, .slice bB bm bd], .cst g2 27 #[.string a.nm, .slice aA an ac, .int .i64 a.nx, .slice aB am ad], .ro (ColsIn aA an a.cs), .ro (RwsIn aB am la), .ro (ColsIn bA bn b.cs), .ro (RwsIn bB bm lb)]) (fun iv _ => bm - (intOf iv).toNat)
  case atStart => exact ⟨0, 0, 0, 0, 0, none, none, [], [], by omega, rfl, by omega, by omega, HST, K6⟩
  case round =>
    clear K6 HST
    obtain ⟨j, ni, ci, nu, cu, I, U, li, lu, hj, rfl, hni, hnu, HBS, H⟩ := hrel
    by_cases hlt : j < bm
    · have hd : decide ((j : Int) < (bm : Int)) = true := by simp; omega
      have j0 : (0 : Int) ≤ (j : Int) := by omega
      have j1 : (j : Int) < (bm : Int) := by omega
      obtain ⟨r, hr⟩ := get_of HBL.out hlt
      obtain ⟨bb, bo, rfl, hbb, c0, c1, _⟩ := (H.ro 13 rfl).now.at_ hr
      have HRR := hid (show b.rs[j]? = some r.row by rw [← HBR.out, List.getElem?_map, hr]; rfl)
      have HRO := hid (HBO.out r (List.mem_of_getElem? hr))
      have hrn6 := HSB.out r (List.mem_of_getElem? hr)
      have hxr : Ro wr _ (VlsIn r.A r.n r.vs) := (H.ro 13 rfl).imp fun w2 h2 => h2.2 r (List.mem_of_getElem? hr)
      obtain ⟨rid, rA, rn, rc, rvs⟩ := r
      dsimp only at *
      clear hr
      have K1 := (H.add hxr).alloc_cst #[.int .i64 rid, .slice rA rn rc] 53
      clear H hxr
      obtain ⟨g8, hg8⟩ : ∃ g, g = wr.heap.size := ⟨_, rfl⟩
      rw [← hg8] at K1
      have F1 := K1.facts
      simp only [World.size_alloc, World.size_drew, factsL, cellsF, Nat.reduceAdd, List.toList_toArray, List.set_cons_zero, List.set_cons_succ, List.setIfInBounds_toArray, and_true, true_and] at F1
      go_wp2_with fail
      rw [← hg8]
      have HG8 := hid hg8
      clear hg8 c0 c1
      have hg := rtget_any _ _ K1.mutLt (.string a.nm) (.slice aA an ac) (.int .i64 a.nx) aB am ad la rid (K1.ro 13 rfl) (by omega) (fun r hr => by have := HSA.out r hr; omega)
      rw [HAR.out] at hg
      refine hg.mono ?_
      clear hg
      rintro e w6 ⟨Ag, ng, cg, rfl, hng, hgc1, hgc2, rg, bg⟩
      have K2 := K1.call bg
      clear K1 bg F1
      have F2 := K2.facts
      simp only [World.size_alloc, World.size_drew, factsL, cellsF, Nat.reduceAdd, List.toList_toArray, List.set_cons_zero, List.set_cons_succ, List.setIfInBounds_toArray, and_true, true_and] at F2
      cases hgt : getR a.rs rid with
      | none =>
        have HGG := hid hgt
        simp only [Option.isSome_none]
        clear rg hng hgc1 hgc2 hgt
        by_cases hrn : rid < a.nx
        · have hd3 : decide (rid < a.nx) = true := by simpa using hrn
          have HN := hid (HBS.out.bad HRR.out HGG.out hrn)
          clear hrn
          have KN := (((K2.store 9 rfl 0 (.string ⟨#[]⟩)).store 9 rfl 1 (.slice none 0 0)).store 9 rfl 2 (.slice none 0 0)).store 9 rfl 3 (.slice none 0 0)
          go_wp2_with fail
          exact bodyPost_ret (v := .tuple #[.agg #[.string ⟨#[]⟩, .slice none 0 0, .slice none 0 0, .slice none 0 0], .bool false]) (by simp [results, Tryd.results19, go_sem, F2]) rfl ⟨_, by rw [HN.out], by rw [HN.out]; exact dlAt_zero, KN.below⟩
        · have hd3 : decide (rid < a.nx) = false := by simpa using hrn
          have HRN := hid (show a.nx ≤ rid by omega)
          clear hrn
          obtain ⟨KL, hKL, KN⟩ := K2.name
          have HF : Hid (∀ wv, Hold M none w wv KL → (wv.cell? ⟨g6, 1, none⟩ = some (.slice I ni ci) ∧ g6 < wv.heap.size) ∧ wv.cell? ⟨g8, 0, none⟩ = some (.int .i64 rid) ∧ wv.cell? ⟨g8, 1, none⟩ = some (.slice rA rn rc) ∧ g8 < wv.heap.size) := hid fun wv HC => by
            rw [hKL] at HC
            have y1 := HC.blk_ 8 rfl
            have y2 := HC.cst_ 0 rfl
            exact ⟨⟨cell_of_row _ _ 1 _ _ _ y1, Blk.lt y1⟩, cell_of_row _ _ 0 _ _ _ y2, cell_of_row _ _ 1 _ _ _ y2, Blk.lt y2⟩
          have HRX : Hid (∀ wv, Hold M none w wv KL → Ro wv (Mut M KL) (VlsIn rA rn rvs)) := hid fun wv HC => by
            rw [hKL] at HC ⊢
            exact HC.ro 1 rfl
          have HKL := hid hKL
          clear hKL K2
          go_wp2_with fail
          refine wp_region_any (by kernel_rfl) ?_
          refine wpAny_hold 5 119 (KL) (spL [(72, RowSlot (Mut M KL) rid rvs), (73, RBoxSlot (Mut M KL) rid rvs)]) (by kernel_rfl) (by kernel_rfl) (by kernel_rfl) rfl ?_ (KN.drew) ?_
          · exact stays_cons rowSlot_mono (stays_cons rboxSlot_mono (stays_nil _))
          simp only [List.take_succ_cons, List.take_zero, List.drop_succ_cons, List.drop_zero, Act.put, List.getElem_toArray, List.getElem_cons_zero, List.getElem_cons_succ, List.setIfInBounds_toArray, List.set_cons_succ, List.set_cons_zero]
          refine dw_val rfl rfl rfl ?_; apply Exists.intro; refine ⟨fun wv HC => ?_, ?_⟩
          ·  go_simp <;> rfl
          simp only [Act.put, List.setIfInBounds_toArray, List.set_cons_succ, List.set_cons_zero]
          refine dw_val rfl rfl rfl ?_; apply Exists.intro; refine ⟨fun wv HC => ?_, ?_⟩
          · obtain ⟨⟨f0, f1⟩, f2, f3, f4⟩ := HF.out _ HC; go_simp <;> rfl
          simp only [Act.put, List.setIfInBounds_toArray, List.set_cons_succ, List.set_cons_zero]
          refine dw_val rfl rfl rfl ?_; apply Exists.intro; refine ⟨fun wv HC => ?_, ?_⟩
          · obtain ⟨⟨f0, f1⟩, f2, f3, f4⟩ := HF.out _ HC; go_simp <;> rfl
          simp only [Act.put, List.setIfInBounds_toArray, List.set_cons_succ, List.set_cons_zero]
          refine dw_callR 72 (RowSlot (Mut M KL) rid rvs) (f := 55) (args := #[.agg #[.int .i64 rid, .slice rA rn rc]]) rfl rfl rfl rfl (fun wv => ?_) (fun wv HC hrm hD => ?_) ?_
          · go_simp <;> rfl
          · refine (rcopyrow_any _ wv HC.mutLt rid rA rn rc rvs (HRX.out _ HC) (by omega)).mono ?_
            rintro e w5 ⟨A5, n5, c5, rfl, h50, h51, h52, h53, b5⟩
            exact ⟨_, rfl, ⟨A5, n5, c5, rfl, h50, h51, h52, h53⟩, HC.call b5, RM.below b5⟩
          rintro x_ wx HCx ⟨A5, n5, c5, rfl, -, -, -, -⟩
          clear HCx
          simp only [Act.put, List.setIfInBounds_toArray, List.set_cons_succ, List.set_cons_zero]
          refine dw_new #[.int .i64 rid, .slice A5 n5 c5] 53 73 (RBoxSlot (Mut M KL) rid rvs) (fun g => .slice (some ⟨g, 0, none⟩) 1 1) rfl rfl rfl rfl (fun wv => ?_) (fun wv HC _hrm hD hro => ?_) ?_
          · go_simp <;> rfl
          · have hsl : RowSlot (Mut M KL) rid rvs (.agg #[.int .i64 rid, .slice A5 n5 c5]) wv := deps_at hD 3 rfl (by kernel_rfl) rfl rfl
            obtain ⟨A6, n6, c6, e6, h1, h2, h3, h4⟩ := hsl
            obtain ⟨rfl, rfl, rfl⟩ : A5 = A6 ∧ n5 = n6 ∧ c5 = c6 := by
              injection e6 with e6
              simp at e6
              exact e6
            exact ⟨_, A5, n5, c5, rfl, h1, h2, h3, h4.step (by simp) (fun b hb _ => Below.heap_alloc wv _ b hb) (fun _ _ h => h), ro_block (hro _ HC.mutLt) rfl⟩
          rintro gn wg HCg hsl
          simp only [Act.put, List.setIfInBounds_toArray, List.set_cons_succ, List.set_cons_zero]
          clear hsl HCg
          refine rel_nil ?_
          rintro wx2 HX
          rintro _hrm HGW
          have hb2 : RBoxSlot (Mut M KL) rid rvs (.slice (some ⟨gn, 0, none⟩) 1 1) wx2 := (GW_on (d := 73) rfl).1 (HGW 4 _ rfl (by omega))
          clear HGW _hrm
          obtain ⟨gq, A6, n6, c6, e6, k0_, k1_, k2_, k3_, k4_⟩ := hb2
          obtain rfl : gn = gq := by injection e6 with e6; injection e6 with e6; injection e6
          clear e6
          rw [HKL.out] at HX k3_
          have k5 := hid k4_.now
          have HK0 := hid (And.intro k0_ (And.intro k1_ k2_))
          clear k4_ k0_ k1_ k2_ HF HRX KN
          have HRS := hid (show rwCells li ++ [.int .i64 rid, .slice A6 n6 c6] = rwCells (li ++ [⟨rid, A6, n6, c6, rvs⟩]) from rwCells_snoc1 _ _ _ _ _ _)
          have KA := HX.add k3_
          clear HX k3_
          have FKA := KA.facts
          simp only [World.size_alloc, World.size_drew, factsL, cellsF, Nat.reduceAdd, List.toList_toArray, List.set_cons_zero, List.set_cons_succ, List.setIfInBounds_toArray, and_true, true_and] at FKA
          go_wp2_with (at_builtin; go_must (refine wpList_appAllH KA 3 rfl Tryd.elRw k5.out rfl (.tmp 70) (.tmp 73) rfl rfl rfl (by intro z hz; simp at hz; rcases hz with rfl | rfl <;> rfl) (by omega) (by omega) ?_); intro C' cap' w6 hc6 hm6 KB; rw [HRS.out] at KB; simp only [List.set_cons_zero, List.set_cons_succ] at KB; (have F3 := KB.facts); simp only [World.size_alloc, World.size_drew, factsL, cellsF, Nat.reduceAdd, List.toList_toArray, List.set_cons_zero, List.set_cons_succ, List.setIfInBounds_toArray, and_true, true_and] at F3)
          have KD := KB.store 9 rfl 1 (.slice C' (ni + 1) cap')
          have KE := (KD.swapRo 6 rfl (vals_snoc (r := ⟨rid, A6, n6, c6, rvs⟩) (KD.ro 6 rfl) (KD.ro 0 rfl))).drop (List.sublist_cons_self _ _)
          clear KB KD FKA k5
          have HBN := hid (HBS.out.ins_ HRR.out HGG.out HRN.out (y := ⟨rid, A6, n6, c6, rvs⟩) rfl ⟨HRO.out.id, HK0.out.2.1, HK0.out.2.2, HRO.out.vs⟩)
          have KZ := KE.drop (List.Sublist.cons _ (List.sublist_cons_self _ _))
          go_roundw
          case rel => exact ⟨j + 1, ni + 1, cap', nu, cu, C', U, _, lu, by omega, by first | rfl | go_num, by omega, by omega, HBN, KZ⟩
          case measure => simp [intOf]; omega
      | some o =>
        rw [hgt] at rg hng
        simp only [Option.getD_some] at rg hng
        have HGG := hid hgt
        have HGC := hid (And.intro hng (And.intro hgc1 hgc2))
        have HGO := hid (show ∀ v ∈ o, v.ok from fun v hv => by
          have h1 := getR_out hgt
          rw [← HAR.out] at h1
          obtain ⟨z, hz, hzr⟩ := List.mem_map.1 h1
          have h2 : z.vs = o := congrArg Prod.snd hzr
          exact (HAO.out z hz).vs v (by rw [h2]; exact hv))
        simp only [Option.isSome_some]
        have hng6 : ng ≤ 9223372036854775807 := by omega
        clear hgt hng hgc1 hgc2
        have K3 := K2.add rg
        clear K2 rg F2
        have F3 := K3.facts
        simp only [World.size_alloc, World.size_drew, factsL, cellsF, Nat.reduceAdd, List.toList_toArray, List.set_cons_zero, List.set_cons_succ, List.setIfInBounds_toArray, and_true, true_and] at F3
        go_wp2_with fail
        refine (rcmprows_any _ _ K3.mutLt Ag ng cg o rA rn rc rvs (K3.ro 0 rfl) (K3.ro 2 rfl) (by omega) (by omega)).mono ?_
        rintro e w7 ⟨⟨r0, rfl, hr0⟩, b7⟩
        have K6 := K3.call b7
        clear K3 b7 F3
        have F6 := K6.facts
        simp only [World.size_alloc, World.size_drew, factsL, cellsF, Nat.reduceAdd, List.toList_toArray, List.set_cons_zero, List.set_cons_succ, List.setIfInBounds_toArray, and_true, true_and] at F6
        by_cases hov : o = rvs
        · obtain rfl : r0 = 0 := hr0.2 hov
          have HBN := hid (HBS.out.same HRR.out HGG.out hov)
          clear hr0 hov
          have KZ := K6.drop (List.Sublist.cons _ (List.Sublist.cons _ (List.sublist_cons_self _ _)))
          go_wp2_with fail
          go_roundw
          case rel => exact ⟨j + 1, ni, ci, nu, cu, I, U, li, lu, by omega, by first | rfl | go_num, by omega, by omega, HBN, KZ⟩
          case measure => simp [intOf]; omega
        · have hrz : (r0 != 0) = true := by simpa using fun h => hov (hr0.1 h)
          have HNE := hid hov
          clear hr0 hov
          obtain ⟨KL, hKL, KN⟩ := K6.name
          have HF : Hid (∀ wv, Hold M none w wv KL → (wv.cell? ⟨g6, 3, none⟩ = some (.slice U nu cu) ∧ g6 < wv.heap.size) ∧ wv.cell? ⟨g8, 0, none⟩ = some (.int .i64 rid) ∧ wv.cell? ⟨g8, 1, none⟩ = some (.slice rA rn rc) ∧ g8 < wv.heap.size) := hid fun wv HC => by
            rw [hKL] at HC
            have y1 := HC.blk_ 9 rfl
            have y2 := HC.cst_ 1 rfl
            exact ⟨⟨cell_of_row _ _ 3 _ _ _ y1, Blk.lt y1⟩, cell_of_row _ _ 0 _ _ _ y2, cell_of_row _ _ 1 _ _ _ y2, Blk.lt y2⟩
          have HRX : Hid (∀ wv, Hold M none w wv KL → Ro wv (Mut M KL) (VlsIn Ag ng o) ∧ Ro wv (Mut M KL) (VlsIn rA rn rvs)) := hid fun wv HC => by
            rw [hKL] at HC ⊢
            exact ⟨HC.ro 0 rfl, HC.ro 2 rfl⟩
          have HKL := hid hKL
          clear hKL K6
          go_wp2_with fail
          refine wp_region_any (by kernel_rfl) ?_
          refine wpAny_hold 10 119 (KL) (spL [(88, VlsSlot (Mut M KL) rvs), (89, PrSlot (Mut M KL) (rid, o, rvs)), (90, PrsSlot (Mut M KL) [(rid, o, rvs)])]) (by kernel_rfl) (by kernel_rfl) (by kernel_rfl) rfl ?_ (KN.drew) ?_
          · exact stays_cons vlsSlot_mono (stays_cons prSlot_mono (stays_cons prsSlot_mono (stays_nil _)))
          simp only [List.take_succ_cons, List.take_zero, List.drop_succ_cons, List.drop_zero, Act.put, List.getElem_toArray, List.getElem_cons_zero, List.getElem_cons_succ, List.setIfInBounds_toArray, List.set_cons_succ, List.set_cons_zero]
          refine dw_val rfl rfl rfl ?_; apply Exists.intro; refine ⟨fun wv HC => ?_, ?_⟩
          ·  go_simp <;> rfl
          simp only [Act.put, List.setIfInBounds_toArray, List.set_cons_succ, List.set_cons_zero]
          refine dw_val rfl rfl rfl ?_; apply Exists.intro; refine ⟨fun wv HC => ?_, ?_⟩
          · obtain ⟨⟨f0, f1⟩, f2, f3, f4⟩ := HF.out _ HC; go_simp <;> rfl
          simp only [Act.put, List.setIfInBounds_toArray, List.set_cons_succ, List.set_cons_zero]
          refine dw_val rfl rfl rfl ?_; apply Exists.intro; refine ⟨fun wv HC => ?_, ?_⟩
          ·  go_simp <;> rfl
          simp only [Act.put, List.setIfInBounds_toArray, List.set_cons_succ, List.set_cons_zero]
          refine dw_val rfl rfl rfl ?_; apply Exists.intro; refine ⟨fun wv HC => ?_, ?_⟩
          · obtain ⟨⟨f0, f1⟩, f2, f3, f4⟩ := HF.out _ HC; go_simp <;> rfl
          simp only [Act.put, List.setIfInBounds_toArray, List.set_cons_succ, List.set_cons_zero]
          refine dw_val rfl rfl rfl ?_; apply Exists.intro; refine ⟨fun wv HC => ?_, ?_⟩
          ·  go_simp <;> rfl
          simp only [Act.put, List.setIfInBounds_toArray, List.set_cons_succ, List.set_cons_zero]
          refine dw_val rfl rfl rfl ?_; apply Exists.intro; refine ⟨fun wv HC => ?_, ?_⟩
          ·  go_simp <;> rfl
          simp only [Act.put, List.setIfInBounds_toArray, List.set_cons_succ, List.set_cons_zero]
          refine dw_val rfl rfl rfl ?_; apply Exists.intro; refine ⟨fun wv HC => ?_, ?_⟩
          · obtain ⟨⟨f0, f1⟩, f2, f3, f4⟩ := HF.out _ HC; go_simp <;> rfl
          simp only [Act.put, List.setIfInBounds_toArray, List.set_cons_succ, List.set_cons_zero]
          refine dw_callR 88 (VlsSlot (Mut M KL) rvs) (f := 56) (args := #[.slice rA rn rc]) rfl rfl rfl rfl (fun wv => ?_) (fun wv HC hrm hD => ?_) ?_
          · go_simp <;> rfl
          · refine (copyVls_any _ wv HC.mutLt rA rn rc rvs (HRX.out _ HC).2 (by omega)).mono ?_
            rintro e w5 ⟨A5, n5, c5, rfl, h50, h51, h52, h53, b5⟩
            exact ⟨_, rfl, ⟨A5, n5, c5, rfl, h50, h51, h52, h53⟩, HC.call b5, RM.below b5⟩
          rintro x_ wx HCx ⟨A94, n94, c94, rfl, -, -, -, -⟩
          clear HCx
          simp only [Act.put, List.setIfInBounds_toArray, List.set_cons_succ, List.set_cons_zero]
          refine dw_valC 89 (PrSlot (Mut M KL) (rid, o, rvs)) rfl rfl rfl rfl (.agg #[.int .i64 rid, .slice Ag ng cg, .slice A94 n94 c94]) (fun wv HC => ?_) (fun wv HC hD => ?_) ?_
          · go_simp <;> rfl
          · have hb : VlsSlot (Mut M KL) rvs (.slice A94 n94 c94) wv := deps_at hD 7 rfl (by kernel_rfl) rfl rfl
            exact prSlot_of HRO.out.id HGO.out HRO.out.vs ⟨Ag, ng, cg, rfl, HGC.out.1, HGC.out.2.1, HGC.out.2.2, (HRX.out _ HC).1⟩ hb
          simp only [Act.put, List.setIfInBounds_toArray, List.set_cons_succ, List.set_cons_zero]
          refine dw_new #[.int .i64 rid, .slice Ag ng cg, .slice A94 n94 c94] 99 90 (PrsSlot (Mut M KL) [(rid, o, rvs)]) (fun g => .slice (some ⟨g, 0, none⟩) 1 1) rfl rfl rfl rfl (fun wv => ?_) (fun wv HC _hrm hD hro => ?_) ?_
          · go_simp <;> rfl
          · have hrr := RM.alloc (Mut M KL) wv (.cells #[.int .i64 rid, .slice Ag ng cg, .slice A94 n94 c94] 99)
            have h0 : PrSlot (Mut M KL) (rid, o, rvs) (.agg #[.int .i64 rid, .slice Ag ng cg, .slice A94 n94 c94]) wv := deps_at hD 8 rfl (by kernel_rfl) rfl rfl
            replace h0 := prSlot_mono _ _ _ hrr h0
            exact prsSlot_one (hro _ HC.mutLt) (fun i j k e1 => Value.agg.inj e1) h0
          rintro g96 wg HCg hsl
          simp only [Act.put, List.setIfInBounds_toArray, List.set_cons_succ, List.set_cons_zero]
          clear hsl HCg
          refine rel_nil ?_
          rintro wx5 HX5
          rintro _hrm HGW
          have hb2 : PrsSlot (Mut M KL) [(rid, o, rvs)] (.slice (some ⟨g96, 0, none⟩) 1 1) wx5 := (GW_on (d := 90) rfl).1 (HGW 9 _ rfl (by omega))
          clear HGW _hrm
          obtain ⟨Aq, nq, cq, pq, heq, -, -, hpm, hpok, hpr⟩ := hb2
          obtain ⟨rfl, rfl, rfl⟩ : some ⟨g96, 0, none⟩ = Aq ∧ 1 = nq ∧ 1 = cq := by injection heq with h1 h2 h3; exact ⟨h1, h2, h3⟩
          clear heq
          obtain ⟨pr, rfl, hpu⟩ : ∃ pr, pq = [pr] ∧ pr.upd = (rid, o, rvs) := by
            obtain ⟨pr, h1, h2⟩ := List.map_eq_singleton_iff.1 hpm
            exact ⟨pr, h1, h2⟩
          rw [HKL.out] at HX5 hpr
          have HPE := hid (show prCells lu ++ prCells [pr] = prCells (lu ++ [pr]) by simp [prCells])
          have KA := HX5.add (hpr.imp fun w h => (h.2 : PrVals [pr] w))
          have k5 := hid ((hpr.imp fun w h => h.1).now)
          have HBN := hid (HBS.out.turn HRR.out HGG.out HNE.out hpu (hpok pr (List.mem_singleton.2 rfl)))
          clear HX5 hpr hpm hpok hpu HF HRX KN
          have FKA := KA.facts
          simp only [World.size_alloc, World.size_drew, factsL, cellsF, Nat.reduceAdd, List.toList_toArray, List.set_cons_zero, List.set_cons_succ, List.setIfInBounds_toArray, and_true, true_and] at FKA
          go_wp2_with (at_builtin; go_must (refine wpList_appAllH KA 6 rfl Tryd.elPr k5.out rfl (.tmp 82) (.tmp 90) rfl rfl rfl (prCells_one _) (by omega) (by omega) ?_); intro C' cap' w6 hc6 hm6 KB; rw [HPE.out] at KB; simp only [List.set_cons_zero, List.set_cons_succ] at KB; (have FB := KB.facts); simp only [World.size_alloc, World.size_drew, factsL, cellsF, Nat.reduceAdd, List.toList_toArray, List.set_cons_zero, List.set_cons_succ, List.setIfInBounds_toArray, and_true, true_and] at FB)
          have KD := KB.store 10 rfl 3 (.slice C' (nu + 1) cap')
          have KZ := (KD.swapRo 9 rfl (prVals_app (KD.ro 9 rfl) (KD.ro 0 rfl))).drop (List.Sublist.cons _ (List.Sublist.cons _ (List.Sublist.cons _ (List.sublist_cons_self _ _))))
          clear KB KD FKA k5
          go_roundw
          case rel => exact ⟨j + 1, ni, ci, nu + 1, cap', I, C', li, _, by omega, by first | rfl | go_num, by omega, by omega, HBN, KZ⟩
          case measure => simp [intOf]; omega
    · obtain rfl : j = bm := by omega
      have hd : decide ((j : Int) < (j : Int)) = false := by simp
      have HBJ := hid (show b.rs.length ≤ j by rw [← HBR.out, List.length_map, HBL.out]; exact Nat.le_refl _)
      clear hlt
      have F1 := H.facts
      simp only [World.size_alloc, World.size_drew, factsL, cellsF, Nat.reduceAdd, List.toList_toArray, List.set_cons_zero, List.set_cons_succ, List.setIfInBounds_toArray, and_true, true_and] at F1
      go_wp2_with fail
      clear F1
      go_loopw [97] (fun iv wr => ∃ (k nd cd : Nat) (D : Option Addr) (ld : List Rw), k ≤ am ∧ iv = .int .i64 k ∧ nd ≤ k ∧ Hid (RSt a b j k li ld lu) ∧ Hold M none w wr [.own 53 2 (.slice I ni ci) ni (rwCells li), .own 53 2 (.slice D nd cd) nd (rwCells ld), .own 99 3 (.slice U nu cu) nu (prCells lu), .ro (ValsIn li), .ro (ValsIn ld), .ro (PrVals lu), .blk g6 41 #[.string a.nm, .slice I ni ci, .slice D nd cd, .slice U nu cu], .blk g4 41 #[.string ⟨#[]⟩, .slice none 0 0, .slice none 0 0, .slice none 0 0], .cst g3 27 #[.string b.nm, .slice bA bn bc, .int .i64 b.nx, .slice bB j bd], .cst g2 27 #[.string a.nm, .slice aA an ac, .int .i64 a.nx, .slice aB am ad], .ro (ColsIn aA an a.cs), .ro (RwsIn aB am la), .ro (ColsIn bA bn b.cs), .ro (RwsIn bB j lb)]) (fun iv _ => am - (intOf iv).toNat)
      case atStart => exact ⟨0, 0, 0, none, [], by omega, rfl, by omega, HBS, H⟩
      case round =>
        clear H HBS
        obtain ⟨k, nd, cd, D, ld, hk, rfl, hnd, HBS, H⟩ := hrel
        by_cases hlt : k < am
        · have hd5 : decide ((k : Int) < (am : Int)) = true := by simp; omega
          have k0 : (0 : Int) ≤ (k : Int) := by omega
          have k1 : (k : Int) < (am : Int) := by omega
          obtain ⟨x, hx⟩ := get_of HAL.out hlt
          have HXX := hid (show a.rs[k]? = some x.row by rw [← HAR.out, List.getElem?_map, hx]; rfl)
          have HXO := hid (HAO.out x (List.mem_of_getElem? hx))
          have hxn6 := HSA.out x (List.mem_of_getElem? hx)
          obtain ⟨bx, ox, rfl, hbx', x0, x1, _⟩ := (H.ro 11 rfl).now.at_ hx
          have hxx : Ro wr _ (VlsIn x.A x.n x.vs) := (H.ro 11 rfl).imp fun w2 h2 => h2.2 x (List.mem_of_getElem? hx)
          clear hx
          obtain ⟨xid, xA, xn, xc, xvs⟩ := x
          dsimp only at *
          have K1 := (H.add hxx).alloc_cst #[.int .i64 xid, .slice xA xn xc] 53
          clear H hxx
          obtain ⟨gx, hgx⟩ : ∃ g, g = wr.heap.size := ⟨_, rfl⟩
          rw [← hgx] at K1
          have F1 := K1.facts
          simp only [World.size_alloc, World.size_drew, factsL, cellsF, Nat.reduceAdd, List.toList_toArray, List.set_cons_zero, List.set_cons_succ, List.setIfInBounds_toArray, and_true, true_and] at F1
          go_wp2_with fail
          rw [← hgx]
          have HGX2 := hid hgx
          clear hgx x0 x1
          have hg := rtget_any _ _ K1.mutLt (.string b.nm) (.slice bA bn bc) (.int .i64 b.nx) bB j bd lb xid (K1.ro 15 rfl) (by omega) (fun r hr => by have := HSB.out r hr; omega)
          rw [HBR.out] at hg
          refine hg.mono ?_
          clear hg
          rintro e w6 ⟨Ag, ng, cg, rfl, -, -, -, -, bg⟩
          have K2 := K1.call bg
          clear K1 bg F1
          have F2 := K2.facts
          simp only [World.size_alloc, World.size_drew, factsL, cellsF, Nat.reduceAdd, List.toList_toArray, List.set_cons_zero, List.set_cons_succ, List.setIfInBounds_toArray, and_true, true_and] at F2
          cases hgt : getR b.rs xid with
          | none =>
            have HGG := hid hgt
            simp only [Option.isSome_none]
            clear hgt
            obtain ⟨KL, hKL, KN⟩ := K2.name
            have HF : Hid (∀ wv, Hold M none w wv KL → (wv.cell? ⟨g6, 2, none⟩ = some (.slice D nd cd) ∧ g6 < wv.heap.size) ∧ wv.cell? ⟨gx, 0, none⟩ = some (.int .i64 xid) ∧ wv.cell? ⟨gx, 1, none⟩ = some (.slice xA xn xc) ∧ gx < wv.heap.size) := hid fun wv HC => by
              rw [hKL] at HC
              have y1 := HC.blk_ 8 rfl
              have y2 := HC.cst_ 0 rfl
              exact ⟨⟨cell_of_row _ _ 2 _ _ _ y1, Blk.lt y1⟩, cell_of_row _ _ 0 _ _ _ y2, cell_of_row _ _ 1 _ _ _ y2, Blk.lt y2⟩
            have HRX : Hid (∀ wv, Hold M none w wv KL → Ro wv (Mut M KL) (VlsIn xA xn xvs)) := hid fun wv HC => by
              rw [hKL] at HC ⊢
              exact HC.ro 1 rfl
            have HKL := hid hKL
            clear hKL K2
            go_wp2_with fail
            refine wp_region_any (by kernel_rfl) ?_
            refine wpAny_hold 5 119 (KL) (spL [(113, RowSlot (Mut M KL) xid xvs), (114, RBoxSlot (Mut M KL) xid xvs)]) (by kernel_rfl) (by kernel_rfl) (by kernel_rfl) rfl ?_ (KN.drew) ?_
            · exact stays_cons rowSlot_mono (stays_cons rboxSlot_mono (stays_nil _))
            simp only [List.take_succ_cons, List.take_zero, List.drop_succ_cons, List.drop_zero, Act.put, List.getElem_toArray, List.getElem_cons_zero, List.getElem_cons_succ, List.setIfInBounds_toArray, List.set_cons_succ, List.set_cons_zero]
            refine dw_val rfl rfl rfl ?_; apply Exists.intro; refine ⟨fun wv HC => ?_, ?_⟩
            ·  go_simp <;> rfl
            simp only [Act.put, List.setIfInBounds_toArray, List.set_cons_succ, List.set_cons_zero]
            refine dw_val rfl rfl rfl ?_; apply Exists.intro; refine ⟨fun wv HC => ?_, ?_⟩
            · obtain ⟨⟨f0, f1⟩, f2, f3, f4⟩ := HF.out _ HC; go_simp <;> rfl
            simp only [Act.put, List.setIfInBounds_toArray, List.set_cons_succ, List.set_cons_zero]
            refine dw_val rfl rfl rfl ?_; apply Exists.intro; refine ⟨fun wv HC => ?_, ?_⟩
            · obtain ⟨⟨f0, f1⟩, f2, f3, f4⟩ := HF.out _ HC; go_simp <;> rfl
            simp only [Act.put, List.setIfInBounds_toArray, List.set_cons_succ, List.set_cons_zero]
            refine dw_callR 113 (RowSlot (Mut M KL) xid xvs) (f := 55) (args := #[.agg #[.int .i64 xid, .slice xA xn xc]]) rfl rfl rfl rfl (fun wv => ?_) (fun wv HC hrm hD => ?_) ?_
            · go_simp <;> rfl
            · refine (rcopyrow_any _ wv HC.mutLt xid xA xn xc xvs (HRX.out _ HC) (by omega)).mono ?_
              rintro e w5 ⟨A5, n5, c5, rfl, h50, h51, h52, h53, b5⟩
              exact ⟨_, rfl, ⟨A5, n5, c5, rfl, h50, h51, h52, h53⟩, HC.call b5, RM.below b5⟩
            rintro x_ wx HCx ⟨A5, n5, c5, rfl, -, -, -, -⟩
            clear HCx
            simp only [Act.put, List.setIfInBounds_toArray, List.set_cons_succ, List.set_cons_zero]
            refine dw_new #[.int .i64 xid, .slice A5 n5 c5] 53 114 (RBoxSlot (Mut M KL) xid xvs) (fun g => .slice (some ⟨g, 0, none⟩) 1 1) rfl rfl rfl rfl (fun wv => ?_) (fun wv HC _hrm hD hro => ?_) ?_
            · go_simp <;> rfl
            · have hsl : RowSlot (Mut M KL) xid xvs (.agg #[.int .i64 xid, .slice A5 n5 c5]) wv := deps_at hD 3 rfl (by kernel_rfl) rfl rfl
              obtain ⟨A6, n6, c6, e6, h1, h2, h3, h4⟩ := hsl
              obtain ⟨rfl, rfl, rfl⟩ : A5 = A6 ∧ n5 = n6 ∧ c5 = c6 := by
                injection e6 with e6
                simp at e6
                exact e6
              exact ⟨_, A5, n5, c5, rfl, h1, h2, h3, h4.step (by simp) (fun b hb _ => Below.heap_alloc wv _ b hb) (fun _ _ h => h), ro_block (hro _ HC.mutLt) rfl⟩
            rintro gn wg HCg hsl
            simp only [Act.put, List.setIfInBounds_toArray, List.set_cons_succ, List.set_cons_zero]
            clear hsl HCg
            refine rel_nil ?_
            rintro wx2 HX
            rintro _hrm HGW
            have hb2 : RBoxSlot (Mut M KL) xid xvs (.slice (some ⟨gn, 0, none⟩) 1 1) wx2 := (GW_on (d := 114) rfl).1 (HGW 4 _ rfl (by omega))
            clear HGW _hrm
            obtain ⟨gq, A6, n6, c6, e6, k0_, k1_, k2_, k3_, k4_⟩ := hb2
            obtain rfl : gn = gq := by injection e6 with e6; injection e6 with e6; injection e6
            clear e6
            rw [HKL.out] at HX k3_
            have k5 := hid k4_.now
            have HK0 := hid (And.intro k0_ (And.intro k1_ k2_))
            clear k4_ k0_ k1_ k2_ HF HRX KN
            have HRS := hid (show rwCells ld ++ [.int .i64 xid, .slice A6 n6 c6] = rwCells (ld ++ [⟨xid, A6, n6, c6, xvs⟩]) from rwCells_snoc1 _ _ _ _ _ _)
            have KA := HX.add k3_
            clear HX k3_
            have FKA := KA.facts
            simp only [World.size_alloc, World.size_drew, factsL, cellsF, Nat.reduceAdd, List.toList_toArray, List.set_cons_zero, List.set_cons_succ, List.setIfInBounds_toArray, and_true, true_and] at FKA
            go_wp2_with (at_builtin; go_must (refine wpList_appAllH KA 4 rfl Tryd.elRw k5.out rfl (.tmp 111) (.tmp 114) rfl rfl rfl (by intro z hz; simp at hz; rcases hz with rfl | rfl <;> rfl) (by omega) (by omega) ?_); intro C' cap' w6 hc6 hm6 KB; rw [HRS.out] at KB; simp only [List.set_cons_zero, List.set_cons_succ] at KB; (have F3 := KB.facts); simp only [World.size_alloc, World.size_drew, factsL, cellsF, Nat.reduceAdd, List.toList_toArray, List.set_cons_zero, List.set_cons_succ, List.setIfInBounds_toArray, and_true, true_and] at F3)
            have KD := KB.store 9 rfl 2 (.slice C' (nd + 1) cap')
            have KE := (KD.swapRo 7 rfl (vals_snoc (r := ⟨xid, A6, n6, c6, xvs⟩) (KD.ro 7 rfl) (KD.ro 0 rfl))).drop (List.sublist_cons_self _ _)
            clear KB KD FKA k5
            have HBN := hid (HBS.out.left HXX.out HGG.out (y := ⟨xid, A6, n6, c6, xvs⟩) rfl ⟨HXO.out.id, HK0.out.2.1, HK0.out.2.2, HXO.out.vs⟩)
            have KZ := KE.drop (List.Sublist.cons _ (List.sublist_cons_self _ _))
            go_roundw
            case rel => exact ⟨k + 1, nd + 1, cap', C', _, by omega, by first | rfl | go_num, by omega, HBN, KZ⟩
            case measure => simp [intOf]; omega
          | some v =>
            have HBN := hid (HBS.out.keep HXX.out hgt)
            simp only [Option.isSome_some]
            clear hgt
            have KZ := K2.drop (List.Sublist.cons _ (List.sublist_cons_self _ _))
            go_wp2_with fail
            go_roundw
            case rel => exact ⟨k + 1, nd, cd, D, ld, by omega, by first | rfl | go_num, by omega, HBN, KZ⟩
            case measure => simp [intOf]; omega
        · obtain rfl : k = am := by omega
          have hd5 : decide ((k : Int) < (k : Int)) = false := by simp
          have HFIN := hid (HBS.out.fin HBJ.out (by rw [← HAR.out, List.length_map, HAL.out]; exact Nat.le_refl _))
          have F := H.facts
          simp only [World.size_alloc, World.size_drew, factsL, cellsF, Nat.reduceAdd, List.toList_toArray, List.set_cons_zero, List.set_cons_succ, List.setIfInBounds_toArray, and_true, true_and] at F
          obtain ⟨hi1, hi2, _⟩ := own_caps (H.get 0 rfl)
          obtain ⟨hd1, hd2, _⟩ := own_caps (H.get 1 rfl)
          obtain ⟨hu1, hu2, _⟩ := own_caps (H.get 2 rfl)
          have KS := H.sealRow 0 rfl
          simp only [List.set_cons_zero, List.set_cons_succ] at KS
          have KS2 := KS.sealRow 1 rfl
          simp only [List.set_cons_zero, List.set_cons_succ] at KS2
          have KS3 := KS2.sealRow 2 rfl
          simp only [List.set_cons_zero, List.set_cons_succ] at KS3
          have KN := (((KS3.store 7 rfl 0 (.string a.nm)).store 7 rfl 1 (.slice I ni ci)).store 7 rfl 2 (.slice D nd cd)).store 7 rfl 3 (.slice U nu cu)
          have r1 := (KN.roOut 0 rfl).and (KN.roOut 3 rfl)
          have r2 := (KN.roOut 1 rfl).and (KN.roOut 4 rfl)
          have r3 := (KN.roOut 2 rfl).and (KN.roOut 5 rfl)
          have NK := H.nes
          simp only [nesL, neF, and_true, true_and] at NK
          clear KS KS2 KS3 H
          go_wp2_with fail
          exact bodyPost_ret (v := .tuple #[.agg #[.string a.nm, .slice I ni ci, .slice D nd cd, .slice U nu cu], .bool true]) (by simp [results, Tryd.results19, go_sem, F, NK]) rfl ⟨_, by rw [HFIN.out], by rw [HFIN.out]; exact ⟨I, ni, ci, D, nd, cd, U, nu, cu, li, ld, lu, rfl, ⟨hi1, hi2⟩, ⟨hd1, hd2⟩, ⟨hu1, hu2⟩, r1, r2, r3, HBS.out.ok1, HBS.out.ok2, HBS.out.ok3, rfl, rfl, rfl⟩, KN.below⟩
end Go.Proofs.YtjpgbhakkfgecaaDoor

namespace Go.Proofs.YtjpgbhakkfgecaaDoor
open Go.RowKit
set_option linter.unusedVariables false
set_option linter.unusedSimpArgs false

/-- a difference whose rows are short -/
structure DlShort (d : Dl) : Prop where
  fi : d.ins.length ≤ 4398046511104
  fd : d.del.length ≤ 4398046511104
  fu : d.upd.length ≤ 4398046511104
  ri : ∀ r ∈ d.ins, r.2.length ≤ 4398046511104
  rd : ∀ r ∈ d.del, r.2.length ≤ 4398046511104
  ru : ∀ u ∈ d.upd, u.2.1.length ≤ 4398046511104 ∧ u.2.2.length ≤ 4398046511104

set_option maxHeartbeats 2000000 in
set_option maxRecDepth 100000 in
theorem samedelta_any (w : World) (v1 v2 : Value) (d1 d2 : Dl) (h1 : DlAt w None_ v1 d1) (h2 : DlAt w None_ v2 d2) (hs : DlShort d1) :
    Calls Tryd.prog 51 #[v1, v2] w fun e w' => e = .returned (.bool (decide (d1 = d2))) ∧ Below w.heap.size w w' := by
  obtain ⟨I, ni, ci, D, nd, cd, U, nu, cu, li, ld, lu, rfl, -, -, -, r1, r2, r3, -, -, -, e1, e2, e3⟩ := h1
  obtain ⟨I', ni', ci', D', nd', cd', U', nu', cu', li', ld', lu', rfl, -, -, -, s1, s2, s3, -, -, -, f1, f2, f3⟩ := h2
  have HE := hid (And.intro e1 (And.intro e2 e3))
  have HF := hid (And.intro f1 (And.intro f2 f3))
  have hni : ni ≤ 4398046511104 := by have h := r1.now.len; have h2 := congrArg List.length e1; rw [List.length_map] at h2; have := hs.fi; omega
  have hnd : nd ≤ 4398046511104 := by have h := r2.now.len; have h2 := congrArg List.length e2; rw [List.length_map] at h2; have := hs.fd; omega
  have hnu : nu ≤ 4398046511104 := by have h := r3.now.len; have h2 := congrArg List.length e3; rw [List.length_map] at h2; have := hs.fu; omega
  have HRI := hid (show ∀ r ∈ li, r.n ≤ 4398046511104 from fun r hr => by
    have h := hs.ri r.row (by rw [← e1]; exact List.mem_map_of_mem hr)
    have h2 : r.vs.length = r.n := VlsIn.len (r1.now.2 r hr)
    have h3 : r.row.2 = r.vs := rfl
    rw [h3] at h; omega)
  have HRD := hid (show ∀ r ∈ ld, r.n ≤ 4398046511104 from fun r hr => by
    have h := hs.rd r.row (by rw [← e2]; exact List.mem_map_of_mem hr)
    have h2 : r.vs.length = r.n := VlsIn.len (r2.now.2 r hr)
    have h3 : r.row.2 = r.vs := rfl
    rw [h3] at h; omega)
  have HRU := hid (show ∀ r ∈ lu, r.on ≤ 4398046511104 ∧ r.nn ≤ 4398046511104 from fun r hr => by
    have h := hs.ru r.upd (by rw [← e3]; exact List.mem_map_of_mem hr)
    have h2 : r.old.length = r.on := VlsIn.len (r3.now.2 r hr).1
    have h3 : r.new.length = r.nn := VlsIn.len (r3.now.2 r hr).2
    have h4 : r.upd.2.1 = r.old := rfl
    have h5 : r.upd.2.2 = r.new := rfl
    rw [h4, h5] at h; omega)
  have K0 := (((((((Hold.start None_ w (fun b hb => hb.elim)).add (s3.less (by simp [Mut]))).add (s2.less (by simp [Mut, Hp.foot]))).add (s1.less (by simp [Mut, Hp.foot]))).add (r3.less (by simp [Mut, Hp.foot]))).add (r2.less (by simp [Mut, Hp.foot]))).add (r1.less (by simp [Mut, Hp.foot]))).alloc_cst #[.string d1.nm, .slice I ni ci, .slice D nd cd, .slice U nu cu] 41 |>.alloc_cst #[.string d2.nm, .slice I' ni' ci', .slice D' nd' cd', .slice U' nu' cu'] 41
  rw [World.size_alloc] at K0
  have F0 := K0.facts
  simp only [World.size_alloc, World.size_drew, factsL, cellsF, Nat.reduceAdd, List.toList_toArray, List.set_cons_zero, List.set_cons_succ, List.setIfInBounds_toArray, and_true, true_and] at F0
  clear r1 r2 r3 s1 s2 s3 e1 e2 e3 f1 f2 f3
  obtain ⟨nm1, i1, x1, u1⟩ := d1
  obtain ⟨nm2, i2, x2, u2⟩ := d2
  dsimp only at *
  have hdec : ∀ b : Bool, (b = true ↔ (nm1 = nm2 ∧ i1 = i2 ∧ x1 = x2 ∧ u1 = u2)) → b = decide ((⟨nm1, i1, x1, u1⟩ : Dl) = ⟨nm2, i2, x2, u2⟩) := fun b h => by
    rw [Bool.eq_iff_iff, h, decide_eq_true_iff]
    simp
  have HDEC := hid hdec
  clear hdec
  by_cases hi : nm1 = nm2
  · have h1 : (nm1.toList == nm2.toList) = true := by simp [hi]
    have HI := hid hi; clear hi
    go_enter Tryd.func51, Tryd.ntmps51
    go_wp2_with fail
    have hq := eqRws_any _ I ni ci li I' ni' ci' li' (K0.ro 2 rfl).now (K0.ro 5 rfl).now hni HRI.out
    rw [HE.out.1, HF.out.1] at hq
    refine hq.mono ?_
    clear hq
    rintro e w1 ⟨rfl, b1⟩
    have K1 := K0.call b1
    have F1 := K1.facts
    simp only [World.size_alloc, World.size_drew, factsL, cellsF, Nat.reduceAdd, List.toList_toArray, List.set_cons_zero, List.set_cons_succ, List.setIfInBounds_toArray, and_true, true_and] at F1
    clear K0 F0 b1
    by_cases hii : i1 = i2
    · rw [decide_eq_true hii]
      have HII := hid hii; clear hii
      go_wp2_with fail
      have hq := eqRws_any _ D nd cd ld D' nd' cd' ld' (K1.ro 3 rfl).now (K1.ro 6 rfl).now hnd HRD.out
      rw [HE.out.2.1, HF.out.2.1] at hq
      refine hq.mono ?_
      clear hq
      rintro e w2 ⟨rfl, b1⟩
      have K2 := K1.call b1
      have F2 := K2.facts
      simp only [World.size_alloc, World.size_drew, factsL, cellsF, Nat.reduceAdd, List.toList_toArray, List.set_cons_zero, List.set_cons_succ, List.setIfInBounds_toArray, and_true, true_and] at F2
      clear K1 F1 b1
      by_cases hxx : x1 = x2
      · rw [decide_eq_true hxx]
        have HXX := hid hxx; clear hxx
        go_wp2_with fail
        have hq := eqPrs_any _ U nu cu lu U' nu' cu' lu' (K2.ro 4 rfl).now (K2.ro 7 rfl).now hnu HRU.out
        rw [HE.out.2.2, HF.out.2.2] at hq
        refine hq.mono ?_
        clear hq
        rintro e w3 ⟨rfl, b1⟩
        have K3 := K2.call b1
        have HB := hid (HDEC.out (decide (u1 = u2)) (by rw [decide_eq_true_iff]; exact ⟨fun h => ⟨HI.out, HII.out, HXX.out, h⟩, fun h => h.2.2.2⟩))
        clear K2 F2 b1
        go_wp2_with fail
        go_ret
        exact ⟨by rw [← HB.out] <;> first | rfl | simp, K3.below⟩
      · rw [decide_eq_false hxx]
        have HB := hid (HDEC.out (false) ⟨fun h => (nomatch h), fun h => absurd h.2.2.1 hxx⟩)
        clear hxx
        go_wp2_with fail
        go_ret
        exact ⟨by rw [← HB.out] <;> first | rfl | simp, K2.below⟩
    · rw [decide_eq_false hii]
      have HB := hid (HDEC.out (false) ⟨fun h => (nomatch h), fun h => absurd h.2.1 hii⟩)
      clear hii
      go_wp2_with fail
      go_ret
      exact ⟨by rw [← HB.out] <;> first | rfl | simp, K1.below⟩
  · have h1 : (nm1.toList == nm2.toList) = false := by rw [beq_eq_false_iff_ne]; exact fun h => hi (bytesEq h)
    have HB := hid (HDEC.out (false) ⟨fun h => (nomatch h), fun h => absurd h.1 hi⟩)
    clear hi
    go_enter Tryd.func51, Tryd.ntmps51
    go_wp2_with fail
    go_ret
    exact ⟨by rw [← HB.out] <;> first | rfl | simp, K0.below⟩
end Go.Proofs.YtjpgbhakkfgecaaDoor

namespace Go.Proofs.YtjpgbhakkfgecaaDoor
open Go.RowKit
set_option linter.unusedVariables false
set_option linter.unusedSimpArgs false

theorem mem_offR {rs l : List Row} {r : Row} (h : r ∈ offR rs l) : r ∈ l := (List.mem_filter.1 h).1
theorem mem_turnR {rs l : List Row} {u : Upd} (h : u ∈ turnR rs l) : ∃ r ∈ l, ∃ o, getR rs r.1 = some o ∧ u = (r.1, o, r.2) := by
  obtain ⟨r, hr, h2⟩ := List.mem_filterMap.1 h
  split at h2
  · rename_i o ho
    split at h2
    · cases h2
    · injection h2 with h2
      exact ⟨r, hr, o, ho, h2.symm⟩
  · cases h2
theorem betC_short {a b : Tb} : DlShort (betweenC a b).2 := by
  unfold betweenC
  split
  · rename_i h
    unfold betB at h
    simp only [Bool.and_eq_true] at h
    obtain ⟨⟨⟨⟨ha, hb⟩, _⟩, _⟩, _⟩ := h
    have h1 := (tabB_rows ha).1
    have h2 := (tabB_rows hb).1
    have h3 := tabB_cols ha
    have h4 := tabB_cols hb
    refine ⟨?_, ?_, ?_, fun r hr => ?_, fun r hr => ?_, fun u hu => ?_⟩
    · have : (offR a.rs b.rs).length ≤ b.rs.length := List.length_filter_le _ _
      show (offR a.rs b.rs).length ≤ _
      omega
    · have : (offR b.rs a.rs).length ≤ a.rs.length := List.length_filter_le _ _
      show (offR b.rs a.rs).length ≤ _
      omega
    · have : (turnR a.rs b.rs).length ≤ b.rs.length := List.length_filterMap_le _ _
      show (turnR a.rs b.rs).length ≤ _
      omega
    · have := tabB_row hb (mem_offR hr); omega
    · have := tabB_row ha (mem_offR hr); omega
    · obtain ⟨r, hr, o, ho, rfl⟩ := mem_turnR hu
      have k1 := tabB_row hb hr
      have k2 := tabB_row ha (getR_out ho)
      dsimp only at k1 k2 ⊢
      omega
  · refine ⟨?_, ?_, ?_, fun r hr => (nomatch hr), fun r hr => (nomatch hr), fun u hu => (nomatch hu)⟩ <;> exact Nat.zero_le _
set_option maxHeartbeats 4000000 in
set_option maxRecDepth 100000 in
theorem betw8_any (M : Nat → Prop) (w : World) (hM : ∀ b, M b → b < w.heap.size) (va vb : Value) (a b : Tb) (hTa : TbAt w M va a) (hTb : TbAt w M vb b) (hsa : a.nm.size ≤ maxLen) (hca : ∀ x ∈ a.cs, x.name.size ≤ maxLen) (hra : a.rs.length ≤ 4398046511104) (hsb : b.nm.size ≤ maxLen) (hcb : ∀ x ∈ b.cs, x.name.size ≤ maxLen) (hrb : b.rs.length ≤ 4398046511104) :
    Calls Tryd.prog 17 #[va, vb] w fun e w' => e = .returned (.bool true) ∧ Below w.heap.size w w' := by
  obtain ⟨aA, an, ac, aB, am, ad, la, rfl, a1, a2, a3, a4, a5, a6, a7, a8⟩ := hTa
  obtain ⟨bA, bn, bc, bB, bm, bd, lb, rfl, b1, b2, b3, b4, b5, b6, b7, b8⟩ := hTb
  have HQ := hid (And.intro a1 (And.intro a2 (And.intro a3 (And.intro a4 True.intro))))
  have HP := hid (And.intro b1 (And.intro b2 (And.intro b3 (And.intro b4 True.intro))))
  have HO := hid (And.intro a7 (And.intro a8 (And.intro b7 b8)))
  have HS := hid (And.intro hsa (And.intro hca (And.intro hra (And.intro hsb (And.intro hcb hrb)))))
  have K0 := (((((Hold.start M w hM).add (b6.less (by simp [Mut]))).add (b5.less (by simp [Mut, Hp.foot]))).add (a6.less (by simp [Mut, Hp.foot]))).add (a5.less (by simp [Mut, Hp.foot]))).alloc_cst #[.string a.nm, .slice aA an ac, .int .i64 a.nx, .slice aB am ad] 27 |>.alloc_cst #[.string b.nm, .slice bA bn bc, .int .i64 b.nx, .slice bB bm bd] 27
  simp only [World.size_alloc] at K0
  have F0 := K0.facts
  simp only [World.size_alloc, World.size_drew, factsL, cellsF, Nat.reduceAdd, List.toList_toArray, List.set_cons_zero, List.set_cons_succ, List.setIfInBounds_toArray, and_true, true_and] at F0
  clear a1 a2 a3 a4 a5 a6 a7 a8 b1 b2 b3 b4 b5 b6 b7 b8 hsa hca hra hsb hcb hrb
  obtain ⟨T, hT⟩ : ∃ T, T = betweenC a b := ⟨_, rfl⟩
  have HT := hid hT
  have HSH := hid (show DlShort T.2 by rw [hT]; exact betC_short)
  clear hT
  go_enter Tryd.func17, Tryd.ntmps17
  go_wp2_with fail
  clear F0
  have hTa : TbAt _ (Mut M _) (.agg #[.string a.nm, .slice aA an ac, .int .i64 a.nx, .slice aB am ad]) a := ⟨aA, an, ac, aB, am, ad, la, rfl, HQ.out.1, HQ.out.2.1, HQ.out.2.2.1, HQ.out.2.2.2.1, K0.ro 2 rfl, K0.ro 3 rfl, HO.out.1, HO.out.2.1⟩
  have hTb : TbAt _ (Mut M _) (.agg #[.string b.nm, .slice bA bn bc, .int .i64 b.nx, .slice bB bm bd]) b := ⟨bA, bn, bc, bB, bm, bd, lb, rfl, HP.out.1, HP.out.2.1, HP.out.2.2.1, HP.out.2.2.2.1, K0.ro 4 rfl, K0.ro 5 rfl, HO.out.2.2.1, HO.out.2.2.2⟩
  have hk := dbetw_any _ _ K0.mutLt _ _ a b hTa hTb HS.out.1 HS.out.2.1 HS.out.2.2.1 HS.out.2.2.2.1 HS.out.2.2.2.2.1 HS.out.2.2.2.2.2
  rw [← HT.out] at hk
  refine hk.mono ?_
  clear hk hTa hTb
  rintro e w1 ⟨v, rfl, ⟨I1, ni1, ci1, D1, nd1, cd1, U1, nu1, cu1, li1, ld1, lu1, rfl, q11, q12, q13, r1, r2, r3, o11, o12, o13, e11, e12, e13⟩, b1⟩
  have K1 := (((K0.call b1).add r3).add (r2.less (mut_none rfl))).add ((r1.less (mut_none rfl)).less (mut_none rfl)) |>.alloc_cst #[.string T.2.nm, .slice I1 ni1 ci1, .slice D1 nd1 cd1, .slice U1 nu1 cu1] 41
  have HD1 := hid (And.intro q11 (And.intro q12 (And.intro q13 (And.intro o11 (And.intro o12 (And.intro o13 (And.intro e11 (And.intro e12 e13))))))))
  clear K0 b1 r1 r2 r3 q11 q12 q13 o11 o12 o13 e11 e12 e13
  have F1 := K1.facts
  simp only [World.size_alloc, World.size_drew, factsL, cellsF, Nat.reduceAdd, List.toList_toArray, List.set_cons_zero, List.set_cons_succ, List.setIfInBounds_toArray, and_true, true_and] at F1
  go_wp2_with fail
  generalize World.alloc w1 _ = w1' at K1 F1 ⊢
  obtain ⟨g5, hg⟩ : ∃ g, g = w1.heap.size := ⟨_, rfl⟩
  rw [← hg] at K1 F1 ⊢
  have HG1 := hid hg
  clear hg
  have hTa : TbAt _ (Mut M _) (.agg #[.string a.nm, .slice aA an ac, .int .i64 a.nx, .slice aB am ad]) a := ⟨aA, an, ac, aB, am, ad, la, rfl, HQ.out.1, HQ.out.2.1, HQ.out.2.2.1, HQ.out.2.2.2.1, K1.ro 6 rfl, K1.ro 7 rfl, HO.out.1, HO.out.2.1⟩
  have hTb : TbAt _ (Mut M _) (.agg #[.string b.nm, .slice bA bn bc, .int .i64 b.nx, .slice bB bm bd]) b := ⟨bA, bn, bc, bB, bm, bd, lb, rfl, HP.out.1, HP.out.2.1, HP.out.2.2.1, HP.out.2.2.2.1, K1.ro 8 rfl, K1.ro 9 rfl, HO.out.2.2.1, HO.out.2.2.2⟩
  have hk := rbetw_any _ _ K1.mutLt _ _ a b hTa hTb HS.out.1 HS.out.2.1 HS.out.2.2.1 HS.out.2.2.2.1 HS.out.2.2.2.2.1 HS.out.2.2.2.2.2
  rw [← HT.out] at hk
  refine hk.mono ?_
  clear hk hTa hTb
  rintro e w2 ⟨v, rfl, ⟨I2, ni2, ci2, D2, nd2, cd2, U2, nu2, cu2, li2, ld2, lu2, rfl, q21, q22, q23, r1, r2, r3, o21, o22, o23, e21, e22, e23⟩, b1⟩
  have K2 := (((K1.call b1).add r3).add (r2.less (mut_none rfl))).add ((r1.less (mut_none rfl)).less (mut_none rfl)) |>.alloc_cst #[.string T.2.nm, .slice I2 ni2 ci2, .slice D2 nd2 cd2, .slice U2 nu2 cu2] 41
  have HD2 := hid (And.intro q21 (And.intro q22 (And.intro q23 (And.intro o21 (And.intro o22 (And.intro o23 (And.intro e21 (And.intro e22 e23))))))))
  clear K1 b1 r1 r2 r3 q21 q22 q23 o21 o22 o23 e21 e22 e23
  have F2 := K2.facts
  simp only [World.size_alloc, World.size_drew, factsL, cellsF, Nat.reduceAdd, List.toList_toArray, List.set_cons_zero, List.set_cons_succ, List.setIfInBounds_toArray, and_true, true_and] at F2
  go_wp2_with fail
  generalize World.alloc w2 _ = w2' at K2 F2 ⊢
  obtain ⟨g7, hg⟩ : ∃ g, g = w2.heap.size := ⟨_, rfl⟩
  rw [← hg] at K2 F2 ⊢
  have HG2 := hid hg
  clear hg
  have h1 : DlAt w2' None_ (.agg #[.string T.2.nm, .slice I1 ni1 ci1, .slice D1 nd1 cd1, .slice U1 nu1 cu1]) T.2 := ⟨I1, ni1, ci1, D1, nd1, cd1, U1, nu1, cu1, li1, ld1, lu1, rfl, HD1.out.1, HD1.out.2.1, HD1.out.2.2.1, (K2.ro 5 rfl).less (fun b h => h.elim), (K2.ro 6 rfl).less (fun b h => h.elim), (K2.ro 7 rfl).less (fun b h => h.elim), HD1.out.2.2.2.1, HD1.out.2.2.2.2.1, HD1.out.2.2.2.2.2.1, HD1.out.2.2.2.2.2.2.1, HD1.out.2.2.2.2.2.2.2.1, HD1.out.2.2.2.2.2.2.2.2⟩
  have h2 : DlAt w2' None_ (.agg #[.string T.2.nm, .slice I2 ni2 ci2, .slice D2 nd2 cd2, .slice U2 nu2 cu2]) T.2 := ⟨I2, ni2, ci2, D2, nd2, cd2, U2, nu2, cu2, li2, ld2, lu2, rfl, HD2.out.1, HD2.out.2.1, HD2.out.2.2.1, (K2.ro 1 rfl).less (fun b h => h.elim), (K2.ro 2 rfl).less (fun b h => h.elim), (K2.ro 3 rfl).less (fun b h => h.elim), HD2.out.2.2.2.1, HD2.out.2.2.2.2.1, HD2.out.2.2.2.2.2.1, HD2.out.2.2.2.2.2.2.1, HD2.out.2.2.2.2.2.2.2.1, HD2.out.2.2.2.2.2.2.2.2⟩
  have hs := samedelta_any w2' _ _ _ _ h1 h2 HSH.out
  rw [decide_eq_true rfl] at hs
  have HSS := hid hs
  clear h1 h2 hs
  refine HSS.out.mono ?_
  rintro e w3 ⟨rfl, b3⟩
  have K3 := K2.call b3
  go_wp2_with fail
  go_ret
  exact ⟨by first | rfl | simp, K3.below⟩
end Go.Proofs.YtjpgbhakkfgecaaDoor

namespace Go.Proofs.YtjpgbhakkfgecaaDoor
open Go.RowKit
set_option linter.unusedVariables false
set_option linter.unusedSimpArgs false

def rowsN (ni nd nu : Nat) (e : Int) : Int := if e = 1 then ni else if e = 2 then nu else if e = 3 then nd else 0
set_option maxHeartbeats 1000000 in
theorem drows_any (w : World) (s : ByteArray) (I : Option Addr) (ni ci : Nat) (D : Option Addr) (nd cd : Nat) (U : Option Addr) (nu cu : Nat) (e : Int) : Calls Tryd.prog 47 #[.agg #[.string s, .slice I ni ci, .slice D nd cd, .slice U nu cu], .int .i64 e] w fun e' w' => e' = .returned (.int .i64 (rowsN ni nd nu e)) ∧ Below w.heap.size w w' := by
  have K0 := (Hold.begin_ w).alloc_cst #[.string s, .slice I ni ci, .slice D nd cd, .slice U nu cu] 41
  have F0 := K0.facts
  simp only [World.size_alloc, World.size_drew, factsL, cellsF, Nat.reduceAdd, List.toList_toArray, List.set_cons_zero, List.set_cons_succ, List.setIfInBounds_toArray, and_true, true_and] at F0
  by_cases h1 : e = 1
  · subst h1
    have HN := hid (show rowsN ni nd nu 1 = ni from rfl)
    go_enter Tryd.func47, Tryd.ntmps47
    go_wp2_with fail
    go_ret
    exact ⟨by rw [HN.out] <;> rfl, K0.below⟩
  · have e1 : (e == 1) = false := by simpa using h1
    by_cases h2 : e = 2
    · subst h2
      have HN := hid (show rowsN ni nd nu 2 = nu from rfl)
      clear h1
      go_enter Tryd.func47, Tryd.ntmps47
      go_wp2_with fail
      go_ret
      exact ⟨by rw [HN.out] <;> rfl, K0.below⟩
    · have e2 : (e == 2) = false := by simpa using h2
      by_cases h3 : e = 3
      · subst h3
        have HN := hid (show rowsN ni nd nu 3 = nd from rfl)
        clear h1 h2
        go_enter Tryd.func47, Tryd.ntmps47
        go_wp2_with fail
        go_ret
        exact ⟨by rw [HN.out] <;> rfl, K0.below⟩
      · have e3 : (e == 3) = false := by simpa using h3
        have HN := hid (show rowsN ni nd nu e = 0 by unfold rowsN; rw [if_neg h1, if_neg h2, if_neg h3])
        clear h1 h2 h3
        go_enter Tryd.func47, Tryd.ntmps47
        go_wp2_with fail
        go_ret
        exact ⟨by rw [HN.out] <;> rfl, K0.below⟩
set_option maxHeartbeats 1000000 in
theorem dempty_any (w : World) (s : ByteArray) (I : Option Addr) (ni ci : Nat) (D : Option Addr) (nd cd : Nat) (U : Option Addr) (nu cu : Nat) : Calls Tryd.prog 24 #[.agg #[.string s, .slice I ni ci, .slice D nd cd, .slice U nu cu]] w fun e' w' => e' = .returned (.bool (decide (ni = 0 ∧ nd = 0 ∧ nu = 0))) ∧ Below w.heap.size w w' := by
  have K0 := (Hold.begin_ w).alloc_cst #[.string s, .slice I ni ci, .slice D nd cd, .slice U nu cu] 41
  have F0 := K0.facts
  simp only [World.size_alloc, World.size_drew, factsL, cellsF, Nat.reduceAdd, List.toList_toArray, List.set_cons_zero, List.set_cons_succ, List.setIfInBounds_toArray, and_true, true_and] at F0
  by_cases h1 : ni = 0
  · have e1 : ((ni : Int) == 0) = true := by simp [h1]
    have HN1 := hid h1
    clear h1
    by_cases h2 : nd = 0
    · have e2 : ((nd : Int) == 0) = true := by simp [h2]
      have HN2 := hid h2
      clear h2
      by_cases h3 : nu = 0
      · have e3 : ((nu : Int) == 0) = true := by simp [h3]
        have HN := hid (show decide (ni = 0 ∧ nd = 0 ∧ nu = 0) = true by simp [HN1.out, HN2.out, h3])
        clear h3
        go_enter Tryd.func24, Tryd.ntmps24
        go_wp2_with fail
        go_ret
        exact ⟨by rw [HN.out] <;> first | rfl | simp, K0.below⟩
      · have e3 : ((nu : Int) == 0) = false := by simp; omega
        have HN := hid (show decide (ni = 0 ∧ nd = 0 ∧ nu = 0) = false by simp [h3])
        clear h3
        go_enter Tryd.func24, Tryd.ntmps24
        go_wp2_with fail
        go_ret
        exact ⟨by rw [HN.out] <;> first | rfl | simp, K0.below⟩
    · have e2 : ((nd : Int) == 0) = false := by simp; omega
      have HN := hid (show decide (ni = 0 ∧ nd = 0 ∧ nu = 0) = false by simp [h2])
      clear h2
      go_enter Tryd.func24, Tryd.ntmps24
      go_wp2_with fail
      go_ret
      exact ⟨by rw [HN.out] <;> first | rfl | simp, K0.below⟩
  · have e1 : ((ni : Int) == 0) = false := by simp; omega
    have HN := hid (show decide (ni = 0 ∧ nd = 0 ∧ nu = 0) = false by simp [h1])
    clear h1
    go_enter Tryd.func24, Tryd.ntmps24
    go_wp2_with fail
    go_ret
    exact ⟨by rw [HN.out] <;> first | rfl | simp, K0.below⟩
theorem k8_bet : betweenC ⟨nmLog, logCols, 2, [(1, [vNil, vNil])]⟩ ⟨nmLog, logCols, 3, [(2, [vNil, vNil])]⟩ = (true, ⟨nmLog, [(2, [vNil, vNil])], [(1, [vNil, vNil])], []⟩) := by decide +kernel
set_option maxHeartbeats 4000000 in
set_option maxRecDepth 100000 in
theorem known8 : Gives 11 #[] (.bool true) := by
  intro w
  have K0 := Hold.begin_ w
  have HS := hid small_u
  have HB := hid k8_bet
  go_enter Tryd.func11, Tryd.ntmps11
  go_wp2_with fail
  refine (schema_log _ _ K0.mutLt).mono ?_
  rintro e w1 ⟨A, n, c, rfl, h1, h2, r1, b1⟩
  have K1 := (K0.call b1).add r1
  clear K0 r1 b1
  generalize hU : nmLog = nl at *
  generalize hC : logCols = lc at *
  have HU := hid hU
  have HC := hid hC
  clear hU hC
  have hn2 : lc.length = n := cols_n (K1.ro 0 rfl).now
  have K2 := (((K1.alloc_cst #[.string nl, .slice A n c] 24).alloc_cst #[.int .i64 0, .int .i64 0, .string ⟨#[]⟩, .int .i64 0, .int .i64 0, .string ⟨#[]⟩] 71).alloc_cst #[.int .i64 1, .slice (some ⟨w1.heap.size + 1, 0, none⟩) 2 2] 53).alloc_cst #[.int .i64 2, .slice (some ⟨w1.heap.size + 1, 0, none⟩) 2 2] 53
  simp only [World.size_alloc] at K2
  have q1 : Ro _ _ (VlsIn (some ⟨w1.heap.size + 1, 0, none⟩) 2 [vNil, vNil]) := ro_block (t := 71) (cs := #[.int .i64 0, .int .i64 0, .string ⟨#[]⟩, .int .i64 0, .int .i64 0, .string ⟨#[]⟩]) (K2.get 2 rfl) rfl
  have q2 : Ro _ _ (SlR 2 (some ⟨w1.heap.size + 1 + 1, 0, none⟩) 1 (rwCells [⟨1, some ⟨w1.heap.size + 1, 0, none⟩, 2, 2, [vNil, vNil]⟩])) := ro_block (t := 53) (cs := #[.int .i64 1, .slice (some ⟨w1.heap.size + 1, 0, none⟩) 2 2]) (K2.get 1 rfl) rfl
  have q3 : Ro _ _ (SlR 2 (some ⟨w1.heap.size + 1 + 1 + 1, 0, none⟩) 1 (rwCells [⟨2, some ⟨w1.heap.size + 1, 0, none⟩, 2, 2, [vNil, vNil]⟩])) := ro_block (t := 53) (cs := #[.int .i64 2, .slice (some ⟨w1.heap.size + 1, 0, none⟩) 2 2]) (K2.get 0 rfl) rfl
  have q4 : Ro _ _ (RwsIn (some ⟨w1.heap.size + 1 + 1, 0, none⟩) 1 [⟨1, some ⟨w1.heap.size + 1, 0, none⟩, 2, 2, [vNil, vNil]⟩]) := q2.and (fun w2 h1 h2 r hr => by
    simp only [List.mem_cons, List.not_mem_nil, or_false] at hr
    subst hr
    exact q1 w2 h1 h2)
  have q5 : Ro _ _ (RwsIn (some ⟨w1.heap.size + 1 + 1 + 1, 0, none⟩) 1 [⟨2, some ⟨w1.heap.size + 1, 0, none⟩, 2, 2, [vNil, vNil]⟩]) := q3.and (fun w2 h1 h2 r hr => by
    simp only [List.mem_cons, List.not_mem_nil, or_false] at hr
    subst hr
    exact q1 w2 h1 h2)
  have F2 := K2.facts
  simp only [World.size_alloc, World.size_drew, factsL, cellsF, Nat.reduceAdd, List.toList_toArray, List.set_cons_zero, List.set_cons_succ, List.setIfInBounds_toArray, and_true, true_and] at F2
  have hok : ∀ (i : Int) (hi : I64 i), (Rw.ok ⟨i, some ⟨w1.heap.size + 1, 0, none⟩, 2, 2, [vNil, vNil]⟩) := fun i hi => ⟨hi, by simp, by simp, fun v hv => by
    simp only [List.mem_cons, List.not_mem_nil, or_false] at hv
    rcases hv with rfl | rfl <;> exact vNil_ok⟩
  have ha : TbAt _ (Mut None_ _) (.agg #[.string nl, .slice A n c, .int .i64 2, .slice (some ⟨w1.heap.size + 1 + 1, 0, none⟩) 1 1]) ⟨nl, lc, 2, [(1, [vNil, vNil])]⟩ := ⟨A, n, c, _, 1, 1, _, rfl, h1, by omega, by omega, by omega, K2.ro 4 rfl, q4, fun r hr => by simp only [List.mem_cons, List.not_mem_nil, or_false] at hr; subst hr; exact hok 1 (by unfold I64; omega), rfl⟩
  have hb : TbAt _ (Mut None_ _) (.agg #[.string nl, .slice A n c, .int .i64 3, .slice (some ⟨w1.heap.size + 1 + 1 + 1, 0, none⟩) 1 1]) ⟨nl, lc, 3, [(2, [vNil, vNil])]⟩ := ⟨A, n, c, _, 1, 1, _, rfl, h1, by omega, by omega, by omega, K2.ro 4 rfl, q5, fun r hr => by simp only [List.mem_cons, List.not_mem_nil, or_false] at hr; subst hr; exact hok 2 (by unfold I64; omega), rfl⟩
  go_wp2_with fail
  have hk := dbetw_any _ _ K2.mutLt _ _ _ _ ha hb HS.out.2.2.1 HS.out.2.2.2 (by show (1 : Nat) ≤ _; omega) HS.out.2.2.1 HS.out.2.2.2 (by show (1 : Nat) ≤ _; omega)
  rw [HB.out] at hk
  refine hk.mono ?_
  clear hk ha hb q1 q2 q3 q4 q5 hok F2
  rintro e w2 ⟨v, rfl, ⟨I, ni, ci, D, nd, cd, U, nu, cu, li, ld, lu, rfl, -, -, -, r1, r2, r3, -, -, -, e1, e2, e3⟩, b2⟩
  dsimp only at e1 e2 e3 ⊢
  obtain rfl : 1 = ni := by have h := r1.now.len; have h2 := congrArg List.length e1; rw [List.length_map] at h2; simp at h2; omega
  obtain rfl : 1 = nd := by have h := r2.now.len; have h2 := congrArg List.length e2; rw [List.length_map] at h2; simp at h2; omega
  obtain rfl : 0 = nu := by have h := r3.now.len; have h2 := congrArg List.length e3; rw [List.length_map] at h2; have h3 : lu.length = 0 := h2; omega
  have K3 := (K2.call b2).alloc_cst #[.string nl, .slice I 1 ci, .slice D 1 cd, .slice U 0 cu] 41
  clear K2 b2 r1 r2 r3 e1 e2 e3
  have F3 := K3.facts
  simp only [World.size_alloc, World.size_drew, factsL, cellsF, Nat.reduceAdd, List.toList_toArray, List.set_cons_zero, List.set_cons_succ, List.setIfInBounds_toArray, and_true, true_and] at F3
  go_wp2_with fail
  refine (drows_any _ nl I 1 ci D 1 cd U 0 cu 1).mono ?_
  rintro e w3 ⟨rfl, b3⟩
  have K4 := K3.call b3
  have F4 := K4.facts
  simp only [World.size_alloc, World.size_drew, factsL, cellsF, Nat.reduceAdd, List.toList_toArray, List.set_cons_zero, List.set_cons_succ, List.setIfInBounds_toArray, and_true, true_and] at F4
  rw [show rowsN 1 1 0 1 = 1 from rfl]
  clear K3 F3 b3
  go_wp2_with fail
  refine (drows_any _ nl I 1 ci D 1 cd U 0 cu 3).mono ?_
  rintro e w4 ⟨rfl, b3⟩
  have K5 := K4.call b3
  have F5 := K5.facts
  simp only [World.size_alloc, World.size_drew, factsL, cellsF, Nat.reduceAdd, List.toList_toArray, List.set_cons_zero, List.set_cons_succ, List.setIfInBounds_toArray, and_true, true_and] at F5
  rw [show rowsN 1 1 0 3 = 1 from rfl]
  clear K4 F4 b3
  go_wp2_with fail
  refine (drows_any _ nl I 1 ci D 1 cd U 0 cu 2).mono ?_
  rintro e w5 ⟨rfl, b3⟩
  have K6 := K5.call b3
  have F6 := K6.facts
  simp only [World.size_alloc, World.size_drew, factsL, cellsF, Nat.reduceAdd, List.toList_toArray, List.set_cons_zero, List.set_cons_succ, List.setIfInBounds_toArray, and_true, true_and] at F6
  rw [show rowsN 1 1 0 2 = 0 from rfl]
  clear K5 F5 b3
  go_wp2_with fail
  refine (dempty_any _ nl I 1 ci D 1 cd U 0 cu).mono ?_
  rintro e w6 ⟨rfl, b3⟩
  have K7 := K6.call b3
  rw [show decide (1 = 0 ∧ 1 = 0 ∧ 0 = 0) = false from rfl]
  clear K6 F6 b3
  go_wp2_with fail
  go_ret
  exact ⟨by first | rfl | simp, K7.below⟩
end Go.Proofs.YtjpgbhakkfgecaaDoor

namespace Go.Proofs.YtjpgbhakkfgecaaDoor
open Go.RowKit
set_option linter.unusedVariables false
set_option linter.unusedSimpArgs false

def SomeTabSl (M : Nat → Prop) (u : Value) (w : World) : Prop := ∃ t : Tb, TbAt w M u t ∧ t.nm.size ≤ maxLen ∧ (∀ x ∈ t.cs, x.name.size ≤ maxLen) ∧ t.cs.length ≤ 1001 ∧ t.rs.length ≤ 1000 ∧ ∀ r ∈ t.rs, r.2.length ≤ 1000
def VTabSl (M : Nat → Prop) (N : Nat) (u : Value) (w : World) : Prop := ∃ t : Tb, TbAt w M u t ∧ VTab t ∧ t.rs.length ≤ N
theorem someTabSl_mono {M : Nat → Prop} (u : Value) (w w' : World) (hr : RM M w w') (h : SomeTabSl M u w) : SomeTabSl M u w' := by
  obtain ⟨t, h1, h2⟩ := h
  exact ⟨t, tbAt_mono hr h1, h2⟩
theorem vTabSl_mono {M : Nat → Prop} {N : Nat} (u : Value) (w w' : World) (hr : RM M w w') (h : VTabSl M N u w) : VTabSl M N u w' := by
  obtain ⟨t, h1, h2⟩ := h
  exact ⟨t, tbAt_mono hr h1, h2⟩
set_option maxHeartbeats 8000000 in
set_option maxRecDepth 100000 in
theorem dbforms_walk (v0 v1 : Value) (tp tq : Tb) (A : Option Addr) (n c : Nat) (zs : List Int) (w : World) (hT0 : TbAt w None_ v0 tp) (hT1' : TbAt w None_ v1 tq) (hs0 : tp.nm.size ≤ maxLen) (hcs0 : ∀ x ∈ tp.cs, x.name.size ≤ maxLen) (hs1 : tq.nm.size ≤ maxLen) (hcs1 : ∀ x ∈ tq.cs, x.name.size ≤ maxLen)
    (hr : Rd w w.heap.size 1 A n (zs.map (Value.int .i64))) (hz : Ints zs) (hn : n ≤ c) (hc : c ≤ 9223372036854775807) (hw : Wds w) :
    Calls Tryd.prog 3 #[v0, v1, .slice A n c] w fun e w' => e = .returned (.bool true) ∧ Below w.heap.size w w' := by
  obtain ⟨A0, n0, c0, B0, m0, d0, l0, rfl, a01, a02, a03, a04, a05, a06, a07, a08⟩ := hT0
  obtain ⟨A1, n1, c1, B1, m1, d1, l1, rfl, a11, a12, a13, a14, a15, a16, a17, a18⟩ := hT1'
  have hwl := hw.lt
  have HML := hid (show tp.rs.length = m0 by rw [← a08, List.length_map]; exact a06.now.len)
  have HNL := hid (show tq.rs.length = m1 by rw [← a18, List.length_map]; exact a16.now.len)
  have HQ := hid (show ((n0 ≤ c0 ∧ c0 ≤ 9223372036854775807) ∧ (m0 ≤ d0 ∧ d0 ≤ 9223372036854775807) ∧ (∀ r ∈ l0, r.ok) ∧ l0.map Rw.row = tp.rs) ∧ ((n1 ≤ c1 ∧ c1 ≤ 9223372036854775807) ∧ (m1 ≤ d1 ∧ d1 ≤ 9223372036854775807) ∧ (∀ r ∈ l1, r.ok) ∧ l1.map Rw.row = tq.rs) from ⟨⟨⟨a01, a02⟩, ⟨a03, a04⟩, a07, a08⟩, ⟨⟨a11, a12⟩, ⟨a13, a14⟩, a17, a18⟩⟩)
  have K0 := (((((Hold.begin_ w).add (a16.less (by simp [Mut]))).add (a15.less (by simp [Mut, Hp.foot]))).add (a06.less (by simp [Mut, Hp.foot]))).add (a05.less (by simp [Mut, Hp.foot]))).alloc_cst #[.string tp.nm, .slice A0 n0 c0, .int .i64 tp.nx, .slice B0 m0 d0] 27 |>.alloc_cst #[.string tq.nm, .slice A1 n1 c1, .int .i64 tq.nx, .slice B1 m1 d1] 27
  rw [World.size_alloc] at K0
  have F0 := K0.facts
  simp only [World.size_alloc, World.size_drew, factsL, cellsF, Nat.reduceAdd, List.toList_toArray, List.set_cons_zero, List.set_cons_succ, List.setIfInBounds_toArray, and_true, true_and] at F0
  clear a01 a02 a03 a04 a05 a06 a07 a08 a11 a12 a13 a14 a15 a16 a17 a18
  go_enter Tryd.func3, Tryd.ntmps3
  obtain ⟨g3, hg3⟩ : ∃ g3, g3 = w.heap.size := ⟨_, rfl⟩
  obtain ⟨g4, hg4⟩ : ∃ g4, g4 = g3 + 1 := ⟨_, rfl⟩
  by_cases hm30 : 30 < m0
  · have hb1 : decide ((m0 : Int) > 30) = true := by simp; omega
    go_wp2_with fail
    refine (known8 _).mono ?_
    rintro e w9 ⟨rfl, b9⟩
    have K9 := K0.call b9
    go_wp2_with fail
    go_ret
    exact ⟨by first | rfl | simp, K9.below⟩
  have hb1 : decide ((m0 : Int) > 30) = false := by simp; omega
  have hb1' : decide (30 < m0) = false := by simp; omega
  by_cases hi30 : 30 < m1
  · have hb2 : decide ((m1 : Int) > 30) = true := by simp; omega
    go_wp2_with fail
    refine (known8 _).mono ?_
    rintro e w9 ⟨rfl, b9⟩
    have K9 := K0.call b9
    go_wp2_with fail
    go_ret
    exact ⟨by first | rfl | simp, K9.below⟩
  have hb2 : decide ((m1 : Int) > 30) = false := by simp; omega
  have hb2' : decide (30 < m1) = false := by simp; omega
  have HBP := hid (show tp.nm.size ≤ maxLen ∧ (∀ x ∈ tp.cs, x.name.size ≤ maxLen) ∧ tp.rs.length ≤ 4398046511104 from ⟨hs0, hcs0, by rw [HML.out]; omega⟩)
  have HBQ := hid (show tq.nm.size ≤ maxLen ∧ (∀ x ∈ tq.cs, x.name.size ≤ maxLen) ∧ tq.rs.length ≤ 4398046511104 from ⟨hs1, hcs1, by rw [HNL.out]; omega⟩)
  clear hs0 hcs0 hs1 hcs1
  go_wp2_with fail
  rw [← hg3, ← hg4] at K0 ⊢
  clear F0 hb1 hb1' hb2 hb2' hm30 hi30
  generalize (w.alloc _).alloc _ = w1 at K0 ⊢
  have hr1 : Rd w1 w1.heap.size 1 A n (zs.map (Value.int .i64)) := (hr.keep fun p hp => World.cell?_of_block (w := w) (K0.below.block p.block hp)).more K0.grow.size
  have wd1 : Wds w1 := hw.below K0.below hwl
  have hle1 : w.heap.size ≤ w1.heap.size := K0.grow.size
  clear hr hw
  refine (new_any A n c zs _ hr1 hz hn hc).mono ?_
  rintro e w2 ⟨T, rfl, hT, t1, b1⟩
  have K1 := Hold.newTape K0 b1 t1 hT (by simp [Mut, None_, Hp.foot])
  have hT1 : 1 < T := by omega
  have wd0 : Wds w2 := wd1.below b1 (by omega)
  have K2 := K1.add (wd0.ro2 (show ¬ Mut None_ _ 1 from fun h => by simp [Mut, None_, Hp.foot] at h; omega))
  clear K1 K0 wd0 wd1 t1 b1 hr1 hT
  have HGX := hid (And.intro hg3 hg4)
  clear hg3 hg4
  go_wp2_with fail
  refine (tname_any (Mut None_ _) T _ K2.mutLt (K2.tp_ 1 rfl) (K2.get 1 rfl).2).mono ?_
  rintro e w3 ⟨s, rfl, hs, t2, g2⟩
  have K3 := Hold.callT K2 1 rfl g2 t2
  clear K2 t2 g2
  have HSO0 := hid (schOk_name hs)
  clear hs
  go_wp2_with fail
  refine (schema_any (Mut None_ _) _ K3.mutLt s).mono ?_
  rintro e w4 ⟨A2, n2, c2, rfl, hc1, hc2, r3, b3⟩
  have K4 := (K3.call b3).add r3
  clear K3 b3 r3
  go_wp2_with fail
  have hn2 : (schemaOf s).2.length = n2 := cols_n (K4.ro 0 rfl).now
  have hl2 := HSO0.out.len
  refine (tof_slot (Mut None_ _) T _ K4.mutLt (K4.tp_ 2 rfl) (K4.get 2 rfl).2 _ A2 n2 c2 _ 6 ((K4.ro 0 rfl).less (mut_tp (i := 2) rfl)) hc1 (by omega) HSO0.out ((K4.ro 1 rfl).less (mut_tp (i := 2) rfl)) hT1 (by omega)).mono ?_
  clear hn2 hl2
  rintro e w5 ⟨v, t, rfl, ⟨A3, n3, c3, B, m, d, l, rfl, h31, h32, hmd, hd2, r4c, r4, hlk, hlr⟩, htv, -, -, hrl, t4, g4'⟩
  dsimp only at r4c hlr ⊢
  have K5 := ((Hold.callT K4 2 rfl g4' t4).add r4).add (r4c.less (mut_none rfl))
  have HVT := hid htv
  have HSO := hid htv.sch
  have HBX := hid (show t.rs.length ≤ 4398046511104 ∧ ∀ r ∈ t.rs, r.2.length ≤ 4398046511104 from ⟨by omega, fun r hr => by have := htv.len r hr; omega⟩)
  have HRL := hid hrl
  have HLK := hid hlk
  have HLR := hid hlr
  have HMD := hid (And.intro hmd hd2)
  clear K4 t4 g4' hc1 hc2 r4 r4c hlk hlr htv hrl hmd hd2
  have K6 := K5.alloc_cst #[.string t.nm, .slice A3 n3 c3, .int .i64 t.nx, .slice B m d] 27
  clear K5
  obtain ⟨g8, hg8⟩ : ∃ g8, g8 = w5.heap.size := ⟨_, rfl⟩
  rw [← hg8] at K6
  have FA := K6.facts
  simp only [World.size_alloc, World.size_drew, factsL, cellsF, Nat.reduceAdd, List.toList_toArray, List.set_cons_zero, List.set_cons_succ, List.setIfInBounds_toArray, and_true, true_and] at FA
  go_wp2_with fail
  rw [← hg8]
  have HG8 := hid hg8
  clear hg8
  have hT : TbAt _ (Mut (Mut None_ _) [.tp T]) (.agg #[.string t.nm, .slice A3 n3 c3, .int .i64 t.nx, .slice B m d]) t := ⟨A3, n3, c3, B, m, d, l, rfl, h31, h32, HMD.out.1, HMD.out.2, (K6.ro 1 rfl).less (mut_tp (i := 5) rfl), (K6.ro 2 rfl).less (mut_tp (i := 5) rfl), HLK.out, HLR.out⟩
  refine (later_any (Mut None_ _) T _ K6.mutLt (K6.tp_ 5 rfl) (K6.get 5 rfl).2 _ t hT HVT.out ((K6.ro 4 rfl).less (mut_tp (i := 5) rfl)) hT1).mono ?_
  clear hT
  rintro e w6 ⟨v, u, rfl, ⟨A5, n5, c5, B5, m5, d5, l5, rfl, h51, h52, h53, h54, r5c, r5, h57, h58⟩, huv, -, t5, g5'⟩
  have K7 := (((Hold.callT K6 5 rfl g5' t5).add r5).add (r5c.less (mut_none rfl))).alloc_cst #[.string u.nm, .slice A5 n5 c5, .int .i64 u.nx, .slice B5 m5 d5] 27
  have HVU := hid huv
  have HU5 := hid (show (n5 ≤ c5 ∧ c5 ≤ 9223372036854775807) ∧ (m5 ≤ d5 ∧ d5 ≤ 9223372036854775807) ∧ (∀ r ∈ l5, r.ok) ∧ l5.map Rw.row = u.rs from ⟨⟨h51, h52⟩, ⟨h53, h54⟩, h57, h58⟩)
  have HBA := hid (show t.nm.size ≤ maxLen ∧ (∀ x ∈ t.cs, x.name.size ≤ maxLen) ∧ t.rs.length ≤ 4398046511104 from ⟨HSO.out.nm, HSO.out.cs, HBX.out.1⟩)
  have HBB := hid (show u.nm.size ≤ maxLen ∧ (∀ x ∈ u.cs, x.name.size ≤ maxLen) ∧ u.rs.length ≤ 4398046511104 from ⟨huv.sch.nm, huv.sch.cs, by have := huv.rows; omega⟩)
  clear K6 FA t5 g5' r5c r5 h51 h52 h53 h54 h57 h58 huv
  obtain ⟨g9, hg9⟩ : ∃ g9, g9 = w6.heap.size := ⟨_, rfl⟩
  rw [← hg9] at K7
  have FA := K7.facts
  simp only [World.size_alloc, World.size_drew, factsL, cellsF, Nat.reduceAdd, List.toList_toArray, List.set_cons_zero, List.set_cons_succ, List.setIfInBounds_toArray, and_true, true_and] at FA
  go_wp2_with fail
  rw [← hg9]
  have HG9 := hid hg9
  clear hg9 FA
  generalize World.alloc w6 _ = w7 at K7 ⊢
  obtain ⟨KL, hKL, KN⟩ := K7.name
  have HF : Hid (∀ wv, Hold None_ none w wv KL → (wv.cell? ⟨g3, 0, none⟩ = some (.string tp.nm) ∧ wv.cell? ⟨g3, 1, none⟩ = some (.slice A0 n0 c0) ∧ wv.cell? ⟨g3, 2, none⟩ = some (.int .i64 tp.nx) ∧ wv.cell? ⟨g3, 3, none⟩ = some (.slice B0 m0 d0) ∧ g3 < wv.heap.size) ∧ (wv.cell? ⟨g4, 0, none⟩ = some (.string tq.nm) ∧ wv.cell? ⟨g4, 1, none⟩ = some (.slice A1 n1 c1) ∧ wv.cell? ⟨g4, 2, none⟩ = some (.int .i64 tq.nx) ∧ wv.cell? ⟨g4, 3, none⟩ = some (.slice B1 m1 d1) ∧ g4 < wv.heap.size) ∧ (wv.cell? ⟨g8, 0, none⟩ = some (.string t.nm) ∧ wv.cell? ⟨g8, 1, none⟩ = some (.slice A3 n3 c3) ∧ wv.cell? ⟨g8, 2, none⟩ = some (.int .i64 t.nx) ∧ wv.cell? ⟨g8, 3, none⟩ = some (.slice B m d) ∧ g8 < wv.heap.size) ∧ (wv.cell? ⟨g9, 0, none⟩ = some (.string u.nm) ∧ wv.cell? ⟨g9, 1, none⟩ = some (.slice A5 n5 c5) ∧ wv.cell? ⟨g9, 2, none⟩ = some (.int .i64 u.nx) ∧ wv.cell? ⟨g9, 3, none⟩ = some (.slice B5 m5 d5) ∧ g9 < wv.heap.size)) := hid fun wv HC => by
    rw [hKL] at HC
    have y0 := HC.cst_ 10 rfl
    have y1 := HC.cst_ 9 rfl
    have y2 := HC.cst_ 3 rfl
    have y3 := HC.cst_ 0 rfl
    exact ⟨⟨cell_of_row _ _ 0 _ _ _ y0, cell_of_row _ _ 1 _ _ _ y0, cell_of_row _ _ 2 _ _ _ y0, cell_of_row _ _ 3 _ _ _ y0, Blk.lt y0⟩, ⟨cell_of_row _ _ 0 _ _ _ y1, cell_of_row _ _ 1 _ _ _ y1, cell_of_row _ _ 2 _ _ _ y1, cell_of_row _ _ 3 _ _ _ y1, Blk.lt y1⟩, ⟨cell_of_row _ _ 0 _ _ _ y2, cell_of_row _ _ 1 _ _ _ y2, cell_of_row _ _ 2 _ _ _ y2, cell_of_row _ _ 3 _ _ _ y2, Blk.lt y2⟩, ⟨cell_of_row _ _ 0 _ _ _ y3, cell_of_row _ _ 1 _ _ _ y3, cell_of_row _ _ 2 _ _ _ y3, cell_of_row _ _ 3 _ _ _ y3, Blk.lt y3⟩⟩
  have HX : Hid (∀ wv, Hold None_ none w wv KL → TbAt wv (Mut None_ KL) (.agg #[.string tp.nm, .slice A0 n0 c0, .int .i64 tp.nx, .slice B0 m0 d0]) tp ∧ TbAt wv (Mut None_ KL) (.agg #[.string tq.nm, .slice A1 n1 c1, .int .i64 tq.nx, .slice B1 m1 d1]) tq ∧ TbAt wv (Mut None_ KL) (.agg #[.string t.nm, .slice A3 n3 c3, .int .i64 t.nx, .slice B m d]) t ∧ TbAt wv (Mut None_ KL) (.agg #[.string u.nm, .slice A5 n5 c5, .int .i64 u.nx, .slice B5 m5 d5]) u ∧ Tp wv T ∧ (∀ b, (Mut None_ KL) b → T ≤ b) ∧ Ro wv (Mut None_ KL) Wds) := hid fun wv HC => by
    rw [hKL] at HC ⊢
    obtain ⟨⟨⟨a01, a02⟩, ⟨a03, a04⟩, a07, a08⟩, ⟨⟨a11, a12⟩, ⟨a13, a14⟩, a17, a18⟩⟩ := HQ.out
    obtain ⟨⟨h51, h52⟩, ⟨h53, h54⟩, h57, h58⟩ := HU5.out
    exact ⟨⟨A0, n0, c0, B0, m0, d0, l0, rfl, a01, a02, a03, a04, HC.ro 11 rfl, HC.ro 12 rfl, a07, a08⟩, ⟨A1, n1, c1, B1, m1, d1, l1, rfl, a11, a12, a13, a14, HC.ro 13 rfl, HC.ro 14 rfl, a17, a18⟩, ⟨A3, n3, c3, B, m, d, l, rfl, h31, h32, HMD.out.1, HMD.out.2, HC.ro 4 rfl, HC.ro 5 rfl, HLK.out, HLR.out⟩, ⟨A5, n5, c5, B5, m5, d5, l5, rfl, h51, h52, h53, h54, HC.ro 1 rfl, HC.ro 2 rfl, h57, h58⟩, HC.tp_ 8 rfl, (HC.get 8 rfl).2, HC.ro 7 rfl⟩
  have XC : Hid (∀ wv, Hold None_ none w wv KL → Ro wv (Mut None_ KL) (ColsIn A3 n3 t.cs)) := hid fun wv HC => by
    rw [hKL] at HC ⊢
    exact HC.ro 4 rfl
  have HKL := hid hKL
  clear hKL K7
  refine wp_region_any (by kernel_rfl) ?_
  refine wpAny_hold 38 69 (KL) (spL [(33, IsV (.bool true)), (37, IsV (.bool true)), (42, IsV (.bool true)), (48, SomeTabSl (Mut None_ KL)), (49, IsV (.bool true)), (54, SomeTabSl (Mut None_ KL)), (56, IsV (.bool true)), (63, VTabSl (Mut None_ KL) 5), (64, IsV (.bool true)), (67, IsV (.bool true))]) (by kernel_rfl) (by kernel_rfl) (by kernel_rfl) rfl ?_ (KN.drew) ?_
  · exact stays_cons isV_mono (stays_cons isV_mono (stays_cons isV_mono (stays_cons someTabSl_mono (stays_cons isV_mono (stays_cons someTabSl_mono (stays_cons isV_mono (stays_cons vTabSl_mono (stays_cons isV_mono (stays_cons isV_mono (stays_nil _))))))))))
  simp only [List.take_succ_cons, List.take_zero, List.drop_succ_cons, List.drop_zero, Act.put, List.getElem_toArray, List.getElem_cons_zero, List.getElem_cons_succ, List.setIfInBounds_toArray, List.set_cons_succ, List.set_cons_zero]
  refine dw_val rfl rfl rfl ?_; apply Exists.intro; refine ⟨fun wv HC => ?_, ?_⟩
  · obtain ⟨⟨f0, f1, f2, f3, f4⟩, ⟨f5, f6, f7, f8, f9⟩, ⟨f10, f11, f12, f13, f14⟩, ⟨f15, f16, f17, f18, f19⟩⟩ := HF.out _ HC; go_simp <;> rfl
  simp only [Act.put, List.setIfInBounds_toArray, List.set_cons_succ, List.set_cons_zero]
  refine dw_val rfl rfl rfl ?_; apply Exists.intro; refine ⟨fun wv HC => ?_, ?_⟩
  · obtain ⟨⟨f0, f1, f2, f3, f4⟩, ⟨f5, f6, f7, f8, f9⟩, ⟨f10, f11, f12, f13, f14⟩, ⟨f15, f16, f17, f18, f19⟩⟩ := HF.out _ HC; go_simp <;> rfl
  simp only [Act.put, List.setIfInBounds_toArray, List.set_cons_succ, List.set_cons_zero]
  refine dw_callR 33 (IsV (.bool true)) (f := 17) (args := #[.agg #[.string tp.nm, .slice A0 n0 c0, .int .i64 tp.nx, .slice B0 m0 d0], .agg #[.string tq.nm, .slice A1 n1 c1, .int .i64 tq.nx, .slice B1 m1 d1]]) rfl rfl rfl rfl (fun wv => ?_) (fun wv HC hrm hD => ?_) ?_
  · go_simp <;> rfl
  · obtain ⟨X0, X1, X2, X3, X4, X5, X6⟩ := HX.out _ HC
    refine (betw8_any _ wv HC.mutLt _ _ _ _ X0 X1 HBP.out.1 HBP.out.2.1 HBP.out.2.2 HBQ.out.1 HBQ.out.2.1 HBQ.out.2.2).mono ?_
    rintro e w5 ⟨rfl, b5⟩
    exact ⟨_, rfl, rfl, HC.call b5, RM.below b5⟩
  rintro u_ wx HCx rfl
  clear HCx
  simp only [Act.put, List.setIfInBounds_toArray, List.set_cons_succ, List.set_cons_zero]
  refine dw_val rfl rfl rfl ?_; apply Exists.intro; refine ⟨fun wv HC => ?_, ?_⟩
  ·  go_simp <;> rfl
  simp only [Act.put, List.setIfInBounds_toArray, List.set_cons_succ, List.set_cons_zero]
  refine dw_val rfl rfl rfl ?_; apply Exists.intro; refine ⟨fun wv HC => ?_, ?_⟩
  · obtain ⟨⟨f0, f1, f2, f3, f4⟩, ⟨f5, f6, f7, f8, f9⟩, ⟨f10, f11, f12, f13, f14⟩, ⟨f15, f16, f17, f18, f19⟩⟩ := HF.out _ HC; go_simp <;> rfl
  simp only [Act.put, List.setIfInBounds_toArray, List.set_cons_succ, List.set_cons_zero]
  refine dw_val rfl rfl rfl ?_; apply Exists.intro; refine ⟨fun wv HC => ?_, ?_⟩
  · obtain ⟨⟨f0, f1, f2, f3, f4⟩, ⟨f5, f6, f7, f8, f9⟩, ⟨f10, f11, f12, f13, f14⟩, ⟨f15, f16, f17, f18, f19⟩⟩ := HF.out _ HC; go_simp <;> rfl
  simp only [Act.put, List.setIfInBounds_toArray, List.set_cons_succ, List.set_cons_zero]
  refine dw_callR 37 (IsV (.bool true)) (f := 17) (args := #[.agg #[.string t.nm, .slice A3 n3 c3, .int .i64 t.nx, .slice B m d], .agg #[.string u.nm, .slice A5 n5 c5, .int .i64 u.nx, .slice B5 m5 d5]]) rfl rfl rfl rfl (fun wv => ?_) (fun wv HC hrm hD => ?_) ?_
  · go_simp <;> rfl
  · obtain ⟨X0, X1, X2, X3, X4, X5, X6⟩ := HX.out _ HC
    refine (betw8_any _ wv HC.mutLt _ _ _ _ X2 X3 HBA.out.1 HBA.out.2.1 HBA.out.2.2 HBB.out.1 HBB.out.2.1 HBB.out.2.2).mono ?_
    rintro e w5 ⟨rfl, b5⟩
    exact ⟨_, rfl, rfl, HC.call b5, RM.below b5⟩
  rintro u_ wx HCx rfl
  clear HCx
  simp only [Act.put, List.setIfInBounds_toArray, List.set_cons_succ, List.set_cons_zero]
  refine dw_val rfl rfl rfl ?_; apply Exists.intro; refine ⟨fun wv HC => ?_, ?_⟩
  ·  go_simp <;> rfl
  simp only [Act.put, List.setIfInBounds_toArray, List.set_cons_succ, List.set_cons_zero]
  refine dw_val rfl rfl rfl ?_; apply Exists.intro; refine ⟨fun wv HC => ?_, ?_⟩
  ·  go_simp <;> rfl
  simp only [Act.put, List.setIfInBounds_toArray, List.set_cons_succ, List.set_cons_zero]
  refine dw_val rfl rfl rfl ?_; apply Exists.intro; refine ⟨fun wv HC => ?_, ?_⟩
  · obtain ⟨⟨f0, f1, f2, f3, f4⟩, ⟨f5, f6, f7, f8, f9⟩, ⟨f10, f11, f12, f13, f14⟩, ⟨f15, f16, f17, f18, f19⟩⟩ := HF.out _ HC; go_simp <;> rfl
  simp only [Act.put, List.setIfInBounds_toArray, List.set_cons_succ, List.set_cons_zero]
  refine dw_val rfl rfl rfl ?_; apply Exists.intro; refine ⟨fun wv HC => ?_, ?_⟩
  · obtain ⟨⟨f0, f1, f2, f3, f4⟩, ⟨f5, f6, f7, f8, f9⟩, ⟨f10, f11, f12, f13, f14⟩, ⟨f15, f16, f17, f18, f19⟩⟩ := HF.out _ HC; go_simp <;> rfl
  simp only [Act.put, List.setIfInBounds_toArray, List.set_cons_succ, List.set_cons_zero]
  refine dw_callR 42 (IsV (.bool true)) (f := 17) (args := #[.agg #[.string u.nm, .slice A5 n5 c5, .int .i64 u.nx, .slice B5 m5 d5], .agg #[.string t.nm, .slice A3 n3 c3, .int .i64 t.nx, .slice B m d]]) rfl rfl rfl rfl (fun wv => ?_) (fun wv HC hrm hD => ?_) ?_
  · go_simp <;> rfl
  · obtain ⟨X0, X1, X2, X3, X4, X5, X6⟩ := HX.out _ HC
    refine (betw8_any _ wv HC.mutLt _ _ _ _ X3 X2 HBB.out.1 HBB.out.2.1 HBB.out.2.2 HBA.out.1 HBA.out.2.1 HBA.out.2.2).mono ?_
    rintro e w5 ⟨rfl, b5⟩
    exact ⟨_, rfl, rfl, HC.call b5, RM.below b5⟩
  rintro u_ wx HCx rfl
  clear HCx
  simp only [Act.put, List.setIfInBounds_toArray, List.set_cons_succ, List.set_cons_zero]
  refine dw_val rfl rfl rfl ?_; apply Exists.intro; refine ⟨fun wv HC => ?_, ?_⟩
  ·  go_simp <;> rfl
  simp only [Act.put, List.setIfInBounds_toArray, List.set_cons_succ, List.set_cons_zero]
  refine dw_val rfl rfl rfl ?_; apply Exists.intro; refine ⟨fun wv HC => ?_, ?_⟩
  ·  go_simp <;> rfl
  simp only [Act.put, List.setIfInBounds_toArray, List.set_cons_succ, List.set_cons_zero]
  refine dw_val rfl rfl rfl ?_; apply Exists.intro; refine ⟨fun wv HC => ?_, ?_⟩
  · obtain ⟨⟨f0, f1, f2, f3, f4⟩, ⟨f5, f6, f7, f8, f9⟩, ⟨f10, f11, f12, f13, f14⟩, ⟨f15, f16, f17, f18, f19⟩⟩ := HF.out _ HC; go_simp <;> rfl
  simp only [Act.put, List.setIfInBounds_toArray, List.set_cons_succ, List.set_cons_zero]
  refine dw_val rfl rfl rfl ?_; apply Exists.intro; refine ⟨fun wv HC => ?_, ?_⟩
  ·  go_simp <;> rfl
  simp only [Act.put, List.setIfInBounds_toArray, List.set_cons_succ, List.set_cons_zero]
  refine dw_val rfl rfl rfl ?_; apply Exists.intro; refine ⟨fun wv HC => ?_, ?_⟩
  · obtain ⟨⟨f0, f1, f2, f3, f4⟩, ⟨f5, f6, f7, f8, f9⟩, ⟨f10, f11, f12, f13, f14⟩, ⟨f15, f16, f17, f18, f19⟩⟩ := HF.out _ HC; go_simp <;> rfl
  simp only [Act.put, List.setIfInBounds_toArray, List.set_cons_succ, List.set_cons_zero]
  refine dw_callR 48 (SomeTabSl (Mut None_ KL)) (f := 18) (args := #[.pointer (some ⟨T, 0, none⟩), .agg #[.string u.nm, .slice A5 n5 c5, .int .i64 u.nx, .slice B5 m5 d5]]) rfl rfl rfl rfl (fun wv => ?_) (fun wv HC hrm hD => ?_) ?_
  · go_simp <;> rfl
  · obtain ⟨X0, X1, X2, X3, X4, X5, X6⟩ := HX.out _ HC
    refine (tspoil_slot (Mut None_ KL) T wv HC.mutLt X4 X5 _ _ (tbAt_less X3 (mut_tp (i := 8) (by rw [HKL.out]; rfl))) HVU.out (X6.less (mut_tp (i := 8) (by rw [HKL.out]; rfl))) hT1).mono ?_
    rintro e w5 ⟨v5, t5', rfl, hc5, hb5, t5, g5'⟩
    exact ⟨_, rfl, ⟨t5', hc5, hb5⟩, Hold.callT HC 8 (by rw [HKL.out]; rfl) g5' t5, RM.grown g5' (.inr ⟨_, List.mem_of_getElem? (i := 8) (by rw [HKL.out]; rfl), rfl⟩)⟩
  rintro s48 wx HCx hs48
  clear HCx hs48
  simp only [Act.put, List.setIfInBounds_toArray, List.set_cons_succ, List.set_cons_zero]
  refine dw_callR 49 (IsV (.bool true)) (f := 17) (args := #[.agg #[.string t.nm, .slice A3 n3 c3, .int .i64 t.nx, .slice B m d], s48]) rfl rfl rfl rfl (fun wv => ?_) (fun wv HC hrm hD => ?_) ?_
  · go_simp <;> rfl
  · obtain ⟨X0, X1, X2, X3, X4, X5, X6⟩ := HX.out _ HC
    have hsl : SomeTabSl (Mut None_ KL) s48 wv := deps_at hD 17 rfl (by kernel_rfl) rfl rfl
    obtain ⟨t5, h5, hb1, hb2, hb3, hb4, hb5⟩ := hsl
    refine (betw8_any _ wv HC.mutLt _ _ _ _ X2 h5 HBA.out.1 HBA.out.2.1 HBA.out.2.2 hb1 hb2 (by omega)).mono ?_
    rintro e w5 ⟨rfl, b5⟩
    exact ⟨_, rfl, rfl, HC.call b5, RM.below b5⟩
  rintro u_ wx HCx rfl
  clear HCx
  simp only [Act.put, List.setIfInBounds_toArray, List.set_cons_succ, List.set_cons_zero]
  refine dw_val rfl rfl rfl ?_; apply Exists.intro; refine ⟨fun wv HC => ?_, ?_⟩
  ·  go_simp <;> rfl
  simp only [Act.put, List.setIfInBounds_toArray, List.set_cons_succ, List.set_cons_zero]
  refine dw_val rfl rfl rfl ?_; apply Exists.intro; refine ⟨fun wv HC => ?_, ?_⟩
  ·  go_simp <;> rfl
  simp only [Act.put, List.setIfInBounds_toArray, List.set_cons_succ, List.set_cons_zero]
  refine dw_val rfl rfl rfl ?_; apply Exists.intro; refine ⟨fun wv HC => ?_, ?_⟩
  ·  go_simp <;> rfl
  simp only [Act.put, List.setIfInBounds_toArray, List.set_cons_succ, List.set_cons_zero]
  refine dw_val rfl rfl rfl ?_; apply Exists.intro; refine ⟨fun wv HC => ?_, ?_⟩
  · obtain ⟨⟨f0, f1, f2, f3, f4⟩, ⟨f5, f6, f7, f8, f9⟩, ⟨f10, f11, f12, f13, f14⟩, ⟨f15, f16, f17, f18, f19⟩⟩ := HF.out _ HC; go_simp <;> rfl
  simp only [Act.put, List.setIfInBounds_toArray, List.set_cons_succ, List.set_cons_zero]
  refine dw_callR 54 (SomeTabSl (Mut None_ KL)) (f := 18) (args := #[.pointer (some ⟨T, 0, none⟩), .agg #[.string t.nm, .slice A3 n3 c3, .int .i64 t.nx, .slice B m d]]) rfl rfl rfl rfl (fun wv => ?_) (fun wv HC hrm hD => ?_) ?_
  · go_simp <;> rfl
  · obtain ⟨X0, X1, X2, X3, X4, X5, X6⟩ := HX.out _ HC
    refine (tspoil_slot (Mut None_ KL) T wv HC.mutLt X4 X5 _ _ (tbAt_less X2 (mut_tp (i := 8) (by rw [HKL.out]; rfl))) HVT.out (X6.less (mut_tp (i := 8) (by rw [HKL.out]; rfl))) hT1).mono ?_
    rintro e w5 ⟨v5, t5', rfl, hc5, hb5, t5, g5'⟩
    exact ⟨_, rfl, ⟨t5', hc5, hb5⟩, Hold.callT HC 8 (by rw [HKL.out]; rfl) g5' t5, RM.grown g5' (.inr ⟨_, List.mem_of_getElem? (i := 8) (by rw [HKL.out]; rfl), rfl⟩)⟩
  rintro s54 wx HCx hs54
  clear HCx hs54
  simp only [Act.put, List.setIfInBounds_toArray, List.set_cons_succ, List.set_cons_zero]
  refine dw_val rfl rfl rfl ?_; apply Exists.intro; refine ⟨fun wv HC => ?_, ?_⟩
  · obtain ⟨⟨f0, f1, f2, f3, f4⟩, ⟨f5, f6, f7, f8, f9⟩, ⟨f10, f11, f12, f13, f14⟩, ⟨f15, f16, f17, f18, f19⟩⟩ := HF.out _ HC; go_simp <;> rfl
  simp only [Act.put, List.setIfInBounds_toArray, List.set_cons_succ, List.set_cons_zero]
  refine dw_callR 56 (IsV (.bool true)) (f := 17) (args := #[s54, .agg #[.string u.nm, .slice A5 n5 c5, .int .i64 u.nx, .slice B5 m5 d5]]) rfl rfl rfl rfl (fun wv => ?_) (fun wv HC hrm hD => ?_) ?_
  · go_simp <;> rfl
  · obtain ⟨X0, X1, X2, X3, X4, X5, X6⟩ := HX.out _ HC
    have hsl : SomeTabSl (Mut None_ KL) s54 wv := deps_at hD 23 rfl (by kernel_rfl) rfl rfl
    obtain ⟨t5, h5, hb1, hb2, hb3, hb4, hb5⟩ := hsl
    refine (betw8_any _ wv HC.mutLt _ _ _ _ h5 X3 hb1 hb2 (by omega) HBB.out.1 HBB.out.2.1 HBB.out.2.2).mono ?_
    rintro e w5 ⟨rfl, b5⟩
    exact ⟨_, rfl, rfl, HC.call b5, RM.below b5⟩
  rintro u_ wx HCx rfl
  clear HCx
  simp only [Act.put, List.setIfInBounds_toArray, List.set_cons_succ, List.set_cons_zero]
  refine dw_val rfl rfl rfl ?_; apply Exists.intro; refine ⟨fun wv HC => ?_, ?_⟩
  ·  go_simp <;> rfl
  simp only [Act.put, List.setIfInBounds_toArray, List.set_cons_succ, List.set_cons_zero]
  refine dw_val rfl rfl rfl ?_; apply Exists.intro; refine ⟨fun wv HC => ?_, ?_⟩
  ·  go_simp <;> rfl
  simp only [Act.put, List.setIfInBounds_toArray, List.set_cons_succ, List.set_cons_zero]
  refine dw_val rfl rfl rfl ?_; apply Exists.intro; refine ⟨fun wv HC => ?_, ?_⟩
  · obtain ⟨⟨f0, f1, f2, f3, f4⟩, ⟨f5, f6, f7, f8, f9⟩, ⟨f10, f11, f12, f13, f14⟩, ⟨f15, f16, f17, f18, f19⟩⟩ := HF.out _ HC; go_simp <;> rfl
  simp only [Act.put, List.setIfInBounds_toArray, List.set_cons_succ, List.set_cons_zero]
  refine dw_val rfl rfl rfl ?_; apply Exists.intro; refine ⟨fun wv HC => ?_, ?_⟩
  ·  go_simp <;> rfl
  simp only [Act.put, List.setIfInBounds_toArray, List.set_cons_succ, List.set_cons_zero]
  refine dw_val rfl rfl rfl ?_; apply Exists.intro; refine ⟨fun wv HC => ?_, ?_⟩
  ·  go_simp <;> rfl
  simp only [Act.put, List.setIfInBounds_toArray, List.set_cons_succ, List.set_cons_zero]
  refine dw_val rfl rfl rfl ?_; apply Exists.intro; refine ⟨fun wv HC => ?_, ?_⟩
  · obtain ⟨⟨f0, f1, f2, f3, f4⟩, ⟨f5, f6, f7, f8, f9⟩, ⟨f10, f11, f12, f13, f14⟩, ⟨f15, f16, f17, f18, f19⟩⟩ := HF.out _ HC; go_simp <;> rfl
  simp only [Act.put, List.setIfInBounds_toArray, List.set_cons_succ, List.set_cons_zero]
  refine dw_callR 63 (VTabSl (Mut None_ KL) 5) (f := 13) (args := #[.pointer (some ⟨T, 0, none⟩), .agg #[.string t.nm, .slice A3 n3 c3], .int .i64 5]) rfl rfl rfl rfl (fun wv => ?_) (fun wv HC hrm hD => ?_) ?_
  · go_simp <;> rfl
  · obtain ⟨X0, X1, X2, X3, X4, X5, X6⟩ := HX.out _ HC
    refine (tof_slot (Mut None_ KL) T wv HC.mutLt X4 X5 t.nm A3 n3 c3 t.cs 5 ((XC.out _ HC).less (mut_tp (i := 8) (by rw [HKL.out]; rfl))) h31 h32 HSO.out (X6.less (mut_tp (i := 8) (by rw [HKL.out]; rfl))) hT1 (by omega)).mono ?_
    rintro e w5 ⟨v5, t5', rfl, hc5, hv5, hn5, hs5, hr5, t5, g5'⟩
    exact ⟨_, rfl, ⟨t5', hc5, hv5, hr5⟩, Hold.callT HC 8 (by rw [HKL.out]; rfl) g5' t5, RM.grown g5' (.inr ⟨_, List.mem_of_getElem? (i := 8) (by rw [HKL.out]; rfl), rfl⟩)⟩
  rintro s63 wx HCx hs63
  clear HCx hs63
  simp only [Act.put, List.setIfInBounds_toArray, List.set_cons_succ, List.set_cons_zero]
  refine dw_callR 64 (IsV (.bool true)) (f := 17) (args := #[.agg #[.string t.nm, .slice A3 n3 c3, .int .i64 t.nx, .slice B m d], s63]) rfl rfl rfl rfl (fun wv => ?_) (fun wv HC hrm hD => ?_) ?_
  · go_simp <;> rfl
  · obtain ⟨X0, X1, X2, X3, X4, X5, X6⟩ := HX.out _ HC
    have hsl : VTabSl (Mut None_ KL) 5 s63 wv := deps_at hD 32 rfl (by kernel_rfl) rfl rfl
    obtain ⟨tt, h5, hv5, hr5⟩ := hsl
    refine (betw8_any _ wv HC.mutLt _ _ _ _ X2 h5 HBA.out.1 HBA.out.2.1 HBA.out.2.2 hv5.sch.nm hv5.sch.cs (by omega)).mono ?_
    rintro e w5 ⟨rfl, b5⟩
    exact ⟨_, rfl, rfl, HC.call b5, RM.below b5⟩
  rintro u_ wx HCx rfl
  clear HCx
  simp only [Act.put, List.setIfInBounds_toArray, List.set_cons_succ, List.set_cons_zero]
  refine dw_val rfl rfl rfl ?_; apply Exists.intro; refine ⟨fun wv HC => ?_, ?_⟩
  ·  go_simp <;> rfl
  simp only [Act.put, List.setIfInBounds_toArray, List.set_cons_succ, List.set_cons_zero]
  refine dw_val rfl rfl rfl ?_; apply Exists.intro; refine ⟨fun wv HC => ?_, ?_⟩
  ·  go_simp <;> rfl
  simp only [Act.put, List.setIfInBounds_toArray, List.set_cons_succ, List.set_cons_zero]
  refine dw_callR 67 (IsV (.bool true)) (f := 11) (args := #[]) rfl rfl rfl rfl (fun wv => ?_) (fun wv HC hrm hD => ?_) ?_
  · go_simp <;> rfl
  · obtain ⟨X0, X1, X2, X3, X4, X5, X6⟩ := HX.out _ HC
    refine (known8 _).mono ?_
    rintro e w5 ⟨rfl, b5⟩
    exact ⟨_, rfl, rfl, HC.call b5, RM.below b5⟩
  rintro u_ wx HCx rfl
  clear HCx
  simp only [Act.put, List.setIfInBounds_toArray, List.set_cons_succ, List.set_cons_zero]
  refine dw_val rfl rfl rfl ?_; apply Exists.intro; refine ⟨fun wv HC => ?_, ?_⟩
  ·  go_simp <;> rfl
  simp only [Act.put, List.setIfInBounds_toArray, List.set_cons_succ, List.set_cons_zero]
  refine rel_nil ?_
  rintro wx9 HX9
  rintro _hrm _HG
  clear _hrm _HG
  go_wp2_with fail
  go_ret
  exact ⟨by first | rfl | simp, HX9.below⟩
end Go.Proofs.YtjpgbhakkfgecaaDoor

namespace Go.Proofs.YtjpgbhakkfgecaaDoor
open Go.ChangeShapes Go.WideShapes Go.ChangeAt Go.RowKit
set_option linter.unusedVariables false
set_option linter.unusedSimpArgs false

namespace LawDeltaBetween
set_option maxRecDepth 100000 in
theorem contract (H : Type) (enc : TypeId × Value → H) (W : World) (base : Nat) (args : Array Value) (ds gs : List (DataW H)) (before : List MemPlace)
    (hval0 : ∀ (j : Nat) t v, Tryd.f3.params[j]? = some t → args[j]? = some v → Value.okWide Tryd.prog W .any base t v)
    (hsz0 : (DataW.weightsEach Tryd.prog (Tryd.f3.params.toList ++ Rows.deltaBetweenSpec.plain.varTypes Tryd.prog) (ds ++ gs)).all (· ≤ reachBytes) = true)
    (hW : DataW.Whole enc Tryd.prog Tryd.f3.params.toList Rows.deltaBetweenSpec.vars false W args.toList ds gs before) (hL : laidMetH Tryd.prog Rows.deltaBetweenRow.laid W) (hsh : W.ShapedOpen Tryd.prog) :
    Calls Tryd.prog 3 args W fun e W' => ∃ v, e = .returned v ∧ Rows.deltaBetweenSpec.post enc Tryd.prog Tryd.f3 false true false false W args v W' := by
  have hsz : (DataW.weightsEach Tryd.prog (Tryd.f3.params.toList ++ Rows.deltaBetweenSpec.plain.varTypes Tryd.prog) (ds ++ gs)).all (· ≤ reachBytes) = true := hsz0
  have hval : ∀ (j : Nat) t v, Tryd.f3.params[j]? = some t → args[j]? = some v → Value.okWide Tryd.prog W .any base t v := hval0
  have hW' := hW
  obtain ⟨p, q, hA0, hV, rfl, hfz, hnd⟩ := hW
  have hA : DataW.TrodAll enc Tryd.prog W 0 (fun _ => true) true Tryd.f3.params.toList args.toList ds p := hA0
  rw [Tryd.params3] at hA hval hsz
  obtain ⟨v0, vs0, d0, ds0, p0, q0, hargs, rfl, rfl, h0, r0⟩ := trodAll_cons hA
  obtain ⟨v1, vs1, d1, ds1, p1, q1, rfl, rfl, rfl, h1, r1⟩ := trodAll_cons r0
  obtain ⟨v2, vs2, d2, ds2, p2, q2, rfl, rfl, rfl, h2, r2⟩ := trodAll_cons r1
  obtain ⟨rfl, rfl, rfl⟩ := trodAll_nil r2
  obtain rfl : args = #[v0, v1, v2] := by cases args; simp_all
  obtain ⟨rfl, rfl⟩ := trodVars_none hV
  obtain ⟨tb0, ok0, rfl⟩ := opens_tb.agg Tryd.underlying27 (hval 0 27 v0 rfl rfl) h0 (sz_arg hsz (j := 0) rfl rfl)
  obtain ⟨tb1, ok1, rfl⟩ := opens_tb.agg Tryd.underlying27 (hval 1 27 v1 rfl rfl) h1 (sz_arg hsz (j := 1) rfl rfl)
  obtain ⟨A2, n2, c2, zs2, rfl, k2, z2, l2, m2, e2⟩ := open_i64s Tryd.underlying28 Tryd.underlying3 (by kernel_rfl) (hval 2 28 v2 rfl rfl) h2
  refine (dbforms_walk _ _ _ _ A2 n2 c2 zs2 W (tbAt_arg ok0 fun _ _ h => h) (tbAt_arg ok1 fun _ _ h => h) ok0.nm (tbArg_cs ok0) ok1.nm (tbArg_cs ok1) k2 z2 l2 (by unfold maxLen at m2; omega) (wds_of_laid (rest := []) hL)).mono fun e W' ⟨he, hb⟩ => ?_
  exact ⟨_, he, law_post rfl laidOut (by kernel_rfl) (by kernel_rfl) Tryd.underlying4 rfl hW' hb⟩

theorem laid_met (os : Os) : laidMet Tryd.prog Rows.deltaBetweenRow.laid ((wordsWorld os).forCall (fun _ _ => 0) ⟨#[], #[.agg #[.string ⟨#[]⟩, .slice none 0 0, .int .i64 0, .slice none 0 0], .agg #[.string ⟨#[]⟩, .slice none 0 0, .int .i64 0, .slice none 0 0], .slice none 0 0], []⟩).memory :=
  laidMet_of_run' 16 (by kernel_rfl) (by kernel_rfl)
theorem reads (os : Os) {H : Type} (enc : TypeId × Value → H) : ∃ places, DataW.whole enc Tryd.prog ((wordsWorld os).forCall (fun _ _ => 0) ⟨#[], #[.agg #[.string ⟨#[]⟩, .slice none 0 0, .int .i64 0, .slice none 0 0], .agg #[.string ⟨#[]⟩, .slice none 0 0, .int .i64 0, .slice none 0 0], .slice none 0 0], []⟩).memory Tryd.f3.params.toList Rows.deltaBetweenSpec.vars false #[.agg #[.string ⟨#[]⟩, .slice none 0 0, .int .i64 0, .slice none 0 0], .agg #[.string ⟨#[]⟩, .slice none 0 0, .int .i64 0, .slice none 0 0], .slice none 0 0].toList 8 = some ([.agg [.agg [.lit (.string []), .nil], .lit (.int .i64 0), .nil], .agg [.agg [.lit (.string []), .nil], .lit (.int .i64 0), .nil], .nil], [], places) :=
  ⟨[], by kernel_rfl⟩

set_option maxRecDepth 100000 in
theorem lifted (os : Os) (started : os.Started) (H : Type) (enc : TypeId × Value → H) (F : Stop.Interp) :
    ReturnsInHanded {} Tryd.checked os 3 .any ((OpenSpec.ofChange Rows.deltaBetweenSpec).preRow enc Tryd.prog Tryd.f3 Rows.deltaBetweenRow.domain false Rows.deltaBetweenRow.laid) (((OpenSpec.ofChange Rows.deltaBetweenSpec).at F).post enc Tryd.prog Tryd.f3 false true false false) := by
  obtain ⟨places, hx⟩ := reads os enc
  refine returnsInHanded_of_row (C := Tryd.checked) (s := OpenSpec.ofChange Rows.deltaBetweenSpec) own started (by kernel_rfl) Tryd.func3
    (witness_row_at (enc := enc) (C := Tryd.checked) false (wordsWorld os) #[.agg #[.string ⟨#[]⟩, .slice none 0 0, .int .i64 0, .slice none 0 0], .agg #[.string ⟨#[]⟩, .slice none 0 0, .int .i64 0, .slice none 0 0], .slice none 0 0] rfl (by kernel_rfl) (by kernel_rfl) (by kernel_rfl)
      (OpenSpec.preRow_of_cond 8 hx (by kernel_rfl) (fun k hk => by cases hk) (by kernel_rfl) (laid_met os))) ?_
  intro W base args ds gs before hval hW _ _ hsz0 hL hsh _
  exact contract H enc W base args ds gs before hval hsz0 hW hL hsh

theorem said : Rows.DeltaBetweenSaid :=
  OpenClaim.holds_of_cond 3 Tryd.f3 rfl rfl rfl rfl rfl rfl rfl ⟨rfl, rfl, rfl, rfl, rfl⟩ rfl rfl rfl rfl rfl (by kernel_rfl) Tryd.func3 (by kernel_rfl)
    (of_decide_eq_true (by kernel_rfl)) (by unfold Func.isWrapper; first | (rw [if_pos (by decide +kernel)]; kernel_rfl) | (rw [if_neg (by decide +kernel)]; exact ⟨rfl, rfl⟩))
    (fun os started H enc _ F => by rw [OpenClaim.pre_eq_preRow]; exact lifted os started H enc F)

theorem plain (f : FuncId) (fn : Func) (hf : Tryd.pinned.checked.prog.funcNamed "triggerstore/triggerstorelaw8.DeltaBetween" = some f) (hfn : Tryd.pinned.checked.prog.funcs[f]? = some fn) :
    false = Tryd.pinned.checked.prog.looks [] ∧ ∀ (j : Nat) t, fn.params[j]? = some t → Tryd.pinned.checked.prog.wantsStandIn t = false := by
  obtain rfl : f = 3 := Option.some.inj ((show Tryd.prog.funcNamed "triggerstore/triggerstorelaw8.DeltaBetween" = some 3 by kernel_rfl).symm.trans hf) |>.symm
  obtain rfl : fn = Tryd.f3 := (Option.some.inj (Tryd.func3.symm.trans hfn)).symm
  refine ⟨by kernel_rfl, fun j t ht => ?_⟩
  rw [Tryd.params3] at ht
  have hm := Array.mem_of_getElem? ht
  simp only [List.mem_toArray, List.mem_cons, List.not_mem_nil, or_false] at hm
  rcases hm with rfl | rfl | rfl
  · exact (show Tryd.prog.wantsStandIn 27 = false by kernel_rfl)
  · exact (show Tryd.prog.wantsStandIn 27 = false by kernel_rfl)
  · exact (show Tryd.prog.wantsStandIn 28 = false by kernel_rfl)
end LawDeltaBetween

theorem deltaBetween_holds : Rows.DeltaBetweenCardSaid :=
  Claim7.holds_tied_plain_at .later [] _ _ _ _ LawDeltaBetween.said (fun _ h => by cases h) (by kernel_rfl) (fun _ h => by cases h) deltaBetween_row_tie rfl ⟨rfl, rfl⟩ (by kernel_rfl) rfl LawDeltaBetween.plain (by kernel_rfl)
#print axioms deltaBetween_holds
end Go.Proofs.YtjpgbhakkfgecaaDoor

/- IntC: Clone over numbers, by the walk. -/
import Derived.Test.YtedogodccblfeaaGreatDoorSDiffSaidME
import Derived.Test.YtedogodccblfeaaGreatDoorSDiffSaidMB
import Derived.Test.YtedogodccblfeaaGreatDoorSDiffSaidMA
import Derived.Test.YtedogodccblfeaaGreatDoorSDiffSaidMD
import Derived.Test.YtedogodccblfeaaGreatDoorSDiffSaidMF
namespace Go.Proofs.YtedogodccblfeaaGreatDoor
open Go.RowKit
set_option linter.unusedVariables false
set_option linter.unusedSimpArgs false

set_option maxHeartbeats 8000000 in
set_option maxRecDepth 100000 in
theorem dbetw_any (M : Nat → Prop) (w : World) (hM : ∀ b, M b → b < w.heap.size) (va vb : Value) (a b : Tb) (hTa : TbAt w M va a) (hTb : TbAt w M vb b) (hsa : a.nm.size ≤ maxLen) (hca : ∀ x ∈ a.cs, x.name.size ≤ maxLen) (hra : a.rs.length ≤ 4398046511104) (hsb : b.nm.size ≤ maxLen) (hcb : ∀ x ∈ b.cs, x.name.size ≤ maxLen) (hrb : b.rs.length ≤ 4398046511104) :
    Calls Tryz.prog 81 #[va, vb] w fun e w' => BetRet w M (betweenC a b) e w' := by
  obtain ⟨aA, an, ac, aB, am, ad, la, rfl, a1, a2, a3, a4, a5, a6, a7, a8⟩ := hTa
  obtain ⟨bA, bn, bc, bB, bm, bd, lb, rfl, b1, b2, b3, b4, b5, b6, b7, b8⟩ := hTb
  have HAL := hid (show la.length = am from a6.now.len)
  have HBL := hid (show lb.length = bm from b6.now.len)
  have HAR := hid a8
  have HBR := hid b8
  have HAO := hid a7
  have HBO := hid b7
  have HAE := hid a6.now
  have HBE := hid b6.now
  have HAC := hid (show a.cs.length = an from cols_n a5.now)
  have ham : am ≤ 4398046511104 := by have := HAL.out; have h := congrArg List.length a8; rw [List.length_map] at h; omega
  have hbm : bm ≤ 4398046511104 := by have := HBL.out; have h := congrArg List.length b8; rw [List.length_map] at h; omega
  have K0 := (((((((Hold.start M w hM).add (b6.less (by simp [Mut]))).add (b5.less (by simp [Mut, Hp.foot]))).add (a6.less (by simp [Mut, Hp.foot]))).add (a5.less (by simp [Mut, Hp.foot]))).alloc_cst #[.string a.nm, .slice aA an ac, .int .i64 a.nx, .slice aB am ad] 58).alloc_cst #[.string b.nm, .slice bA bn bc, .int .i64 b.nx, .slice bB bm bd] 58).alloc #[.string ⟨#[]⟩, .slice none 0 0, .slice none 0 0, .slice none 0 0] 44
  simp only [World.size_alloc] at K0
  have F0 := K0.facts
  simp only [factsL, cellsF, Nat.reduceAdd, zf, zl] at F0
  clear a5 a6 a7 a8 b5 b6 b7 b8
  go_enter Tryz.func81, Tryz.ntmps81
  go_wp2
  go_step3
  go_wp2_with fail
  obtain ⟨g2, hg2⟩ : ∃ g, g = w.heap.size := ⟨_, rfl⟩
  obtain ⟨g3, hg3⟩ : ∃ g, g = g2 + 1 := ⟨_, rfl⟩
  obtain ⟨g4, hg4⟩ : ∃ g, g = g3 + 1 := ⟨_, rfl⟩
  rw [← hg2, ← hg3, ← hg4] at K0 ⊢
  clear F0
  generalize ((w.alloc _).alloc _).alloc _ = w1 at K0 ⊢
  have HGX := hid hg2
  clear hg2 hg3 hg4
  have hv := tvalid_any _ _ K0.mutLt a.nm aA an ac a.cs a.nx aB am ad la (K0.ro 3 rfl) (K0.ro 4 rfl) (by omega) (by omega) HAO.out hsa hca
  rw [HAR.out] at hv
  refine hv.mono ?_
  clear hv
  rintro e w2 ⟨rfl, b1_⟩
  have K1 := K0.call b1_
  clear K0 b1_
  have F1 := K1.facts
  simp only [factsL, cellsF, Nat.reduceAdd, zf, zl] at F1
  cases hva : tabB a.nm a.cs a.nx a.rs
  · have HN := hid (betC_a (b := b) hva)
    clear hva
    have KN := (((K1.store 0 rfl 0 (.string ⟨#[]⟩)).store 0 rfl 1 (.slice none 0 0)).store 0 rfl 2 (.slice none 0 0)).store 0 rfl 3 (.slice none 0 0)
    go_wp2_with fail
    exact bodyPost_ret (v := .tuple #[.agg #[.string ⟨#[]⟩, .slice none 0 0, .slice none 0 0, .slice none 0 0], .bool false]) (by simp [results, Tryz.results81, go_sem, F1]) rfl ⟨_, by rw [HN.out], by rw [HN.out]; exact dlAt_zero, KN.below⟩
  have HVA := hid hva
  clear hva
  go_wp2_with fail
  have hv := tvalid_any _ _ K1.mutLt b.nm bA bn bc b.cs b.nx bB bm bd lb (K1.ro 5 rfl) (K1.ro 6 rfl) (by omega) (by omega) HBO.out hsb hcb
  rw [HBR.out] at hv
  refine hv.mono ?_
  clear hv
  rintro e w3 ⟨rfl, b1_⟩
  have K2 := K1.call b1_
  clear K1 b1_ F1
  have F2 := K2.facts
  simp only [factsL, cellsF, Nat.reduceAdd, zf, zl] at F2
  cases hvb : tabB b.nm b.cs b.nx b.rs
  · have HN := hid (betC_b (a := a) hvb)
    clear hvb
    have KN := (((K2.store 0 rfl 0 (.string ⟨#[]⟩)).store 0 rfl 1 (.slice none 0 0)).store 0 rfl 2 (.slice none 0 0)).store 0 rfl 3 (.slice none 0 0)
    go_wp2_with fail
    exact bodyPost_ret (v := .tuple #[.agg #[.string ⟨#[]⟩, .slice none 0 0, .slice none 0 0, .slice none 0 0], .bool false]) (by simp [results, Tryz.results81, go_sem, F2]) rfl ⟨_, by rw [HN.out], by rw [HN.out]; exact dlAt_zero, KN.below⟩
  have HVB := hid hvb
  clear hvb hsa hca hsb hcb
  have han6 : an ≤ 6 := by have := tabB_cols HVA.out; have := HAC.out; omega
  have ham1 : am ≤ 100 := by have := (tabB_rows HVA.out).1; have h := congrArg List.length HAR.out; rw [List.length_map] at h; have := HAL.out; omega
  have hbm1 : bm ≤ 100 := by have := (tabB_rows HVB.out).1; have h := congrArg List.length HBR.out; rw [List.length_map] at h; have := HBL.out; omega
  have HSA := hid (rw_short HAE.out (by rw [HAR.out]; exact HVA.out))
  have HSB := hid (rw_short HBE.out (by rw [HBR.out]; exact HVB.out))
  clear ham hbm hra hrb
  go_wp2_with fail
  refine (dsameschema_any _ a.nm aA an ac a.cs b.nm bA bn bc b.cs (K2.ro 3 rfl).now (K2.ro 5 rfl).now (by omega)).mono ?_
  rintro e w4 ⟨rfl, b1_⟩
  have K3 := K2.call b1_
  clear K2 b1_ F2
  have F3 := K3.facts
  simp only [factsL, cellsF, Nat.reduceAdd, zf, zl] at F3
  cases hss : decide (a.nm = b.nm ∧ a.cs = b.cs)
  · have HN := hid (betC_s hss)
    clear hss
    have KN := (((K3.store 0 rfl 0 (.string ⟨#[]⟩)).store 0 rfl 1 (.slice none 0 0)).store 0 rfl 2 (.slice none 0 0)).store 0 rfl 3 (.slice none 0 0)
    go_wp2_with fail
    exact bodyPost_ret (v := .tuple #[.agg #[.string ⟨#[]⟩, .slice none 0 0, .slice none 0 0, .slice none 0 0], .bool false]) (by simp [results, Tryz.results81, go_sem, F3]) rfl ⟨_, by rw [HN.out], by rw [HN.out]; exact dlAt_zero, KN.below⟩
  have HEQ := hid (of_decide_eq_true hss)
  clear hss
  by_cases hnx : b.nx < a.nx
  · have hd : decide (b.nx < a.nx) = true := by simpa using hnx
    have HN := hid (betC_n hnx)
    clear hnx
    have KN := (((K3.store 0 rfl 0 (.string ⟨#[]⟩)).store 0 rfl 1 (.slice none 0 0)).store 0 rfl 2 (.slice none 0 0)).store 0 rfl 3 (.slice none 0 0)
    go_wp2_with fail
    exact bodyPost_ret (v := .tuple #[.agg #[.string ⟨#[]⟩, .slice none 0 0, .slice none 0 0, .slice none 0 0], .bool false]) (by simp [results, Tryz.results81, go_sem, F3]) rfl ⟨_, by rw [HN.out], by rw [HN.out]; exact dlAt_zero, KN.below⟩
  have hd : decide (b.nx < a.nx) = false := by simpa using hnx
  have HST := hid (BSt.zero HVA.out HVB.out HEQ.out (show a.nx ≤ b.nx by omega))
  clear hnx
  have K4 := K3.alloc #[.string a.nm, .slice none 0 0, .slice none 0 0, .slice none 0 0] 44
  go_wp2
  go_step3
  go_wp2
  obtain ⟨g6, hg6⟩ : ∃ g, g = w4.heap.size := ⟨_, rfl⟩
  rw [← hg6] at K4 ⊢
  have HG6 := hid hg6
  clear hg6 hd F3 K3
  generalize World.alloc w4 _ = w5 at K4 ⊢
  have K5 := ((((((K4.add (show Ro _ _ (PrVals []) from fun _ _ _ r hr => nomatch hr)).add (ro_vals_nil _ _)).add (ro_vals_nil _ _)).nil 110 3).nil 119 2).nil 119 2)
  have K6 := K5.add (show Ro _ _ (RwsIn aB am (la.drop 0)) from K5.ro 11 rfl)
  clear K4 K5
  go_loopg [7, 46] bm (fun gh bv iv wr => ∃ (j p np cp ni ci nd cd nu cu : Nat) (Ap I D U : Option Addr) (li ld : List Rw) (lu : List Pr), j + gh = bm ∧ iv = .int .i64 j ∧ bv = .slice Ap np cp ∧ np + p = am ∧ p ≤ am ∧ ni ≤ j ∧ nd ≤ p ∧ nu ≤ j ∧ np ≤ cp ∧ cp ≤ 9223372036854775807 ∧ Hid (BSt a b j p li ld lu) ∧ Hold M none w wr [.ro (RwsIn Ap np (la.drop p)), .own 119 2 (.slice I ni ci) ni (rwCells li), .own 119 2 (.slice D nd cd) nd (rwCells ld), .own 110 3 (.slice U nu cu) nu (prCells lu), .ro (ValsIn li), .ro (ValsIn ld), .ro (PrVals lu), .blk g6 44 #[.string a.nm, .slice I ni ci, .slice D nd cd, .slice U nu cu], .blk g4 44 #[.string ⟨#[]⟩, .slice none 0 0, .slice none 0 0, .slice none 0 0], .cst g3 58 #[.string b.nm, .slice bA bn bc, .int .i64 b.nx, .slice bB bm bd], .cst g2 58 #[.string a.nm, .slice aA an ac, .int .i64 a.nx, .slice aB am ad], .ro (ColsIn aA an a.cs), .ro (RwsIn aB am la), .ro (ColsIn bA bn b.cs), .ro (RwsIn bB bm lb)])
  case atStart => exact ⟨0, 0, am, ad, 0, 0, 0, 0, 0, 0, aB, none, none, none, [], [], [], by omega, rfl, rfl, by omega, by omega, by omega, by omega, by omega, a3, a4, HST, K6⟩
  case round =>
    clear K6
    obtain ⟨j, p, np, cp, ni, ci, nd, cd, nu, cu, Ap, I, D, U, li, ld, lu, hj, rfl, rfl, hnp, hpm, hni, hnd, hnu, hncp, hcp, HBS, H⟩ := hrel
    obtain ⟨wo, rfl⟩ : ∃ wo : World, wo = wr := ⟨_, rfl⟩
    cases gk with
    | succ go =>
      have hlt : j < bm := by omega
      have hd : decide ((j : Int) < (bm : Int)) = true := by simp; omega
      have j0 : (0 : Int) ≤ (j : Int) := by omega
      have j1 : (j : Int) < (bm : Int) := by omega
      obtain ⟨r, hr⟩ := get_of HBL.out hlt
      obtain ⟨bb, bo, rfl, hbb, c0, c1, _⟩ := (H.ro 14 rfl).now.at_ hr
      have HRR := hid (show b.rs[j]? = some r.row by rw [← HBR.out, List.getElem?_map, hr]; rfl)
      have HRO := hid (HBO.out r (List.mem_of_getElem? hr))
      have hrn6 := HSB.out r (List.mem_of_getElem? hr)
      have hxr : Ro wo _ (VlsIn r.A r.n r.vs) := (H.ro 14 rfl).imp fun w2 h2 => h2.2 r (List.mem_of_getElem? hr)
      obtain ⟨rid, rA, rn, rc, rvs⟩ := r
      dsimp only at *
      clear hr
      have K1 := (H.add hxr).alloc_cst #[.int .i64 rid, .slice rA rn rc] 119
      clear H hxr
      obtain ⟨g9, hg9⟩ : ∃ g, g = wo.heap.size := ⟨_, rfl⟩
      rw [← hg9] at K1
      go_wp2_with fail
      rw [← hg9]
      have HG9 := hid hg9
      clear hg9 c0 c1
      generalize World.alloc wo _ = wo2 at K1 ⊢
      go_loopg [7] np (fun gh bv wq => ∃ (p np cp nd cd : Nat) (Ap D : Option Addr) (ld : List Rw), gh = np ∧ bv = .slice Ap np cp ∧ np + p = am ∧ p ≤ am ∧ nd ≤ p ∧ np ≤ cp ∧ cp ≤ 9223372036854775807 ∧ Hid (BSt a b j p li ld lu) ∧ Hold M none w wq [.cst g9 119 #[.int .i64 rid, .slice rA rn rc], .ro (VlsIn rA rn rvs), .ro (RwsIn Ap np (la.drop p)), .own 119 2 (.slice I ni ci) ni (rwCells li), .own 119 2 (.slice D nd cd) nd (rwCells ld), .own 110 3 (.slice U nu cu) nu (prCells lu), .ro (ValsIn li), .ro (ValsIn ld), .ro (PrVals lu), .blk g6 44 #[.string a.nm, .slice I ni ci, .slice D nd cd, .slice U nu cu], .blk g4 44 #[.string ⟨#[]⟩, .slice none 0 0, .slice none 0 0, .slice none 0 0], .cst g3 58 #[.string b.nm, .slice bA bn bc, .int .i64 b.nx, .slice (some ⟨bb, bo, none⟩) bm bd], .cst g2 58 #[.string a.nm, .slice aA an ac, .int .i64 a.nx, .slice aB am ad], .ro (ColsIn aA an a.cs), .ro (RwsIn aB am la), .ro (ColsIn bA bn b.cs), .ro (RwsIn (some ⟨bb, bo, none⟩) bm lb)])
      case atStart => exact ⟨p, np, cp, nd, cd, Ap, D, ld, rfl, rfl, hnp, hpm, hnd, hncp, hcp, HBS, K1⟩
      case round =>
        clear K1 HBS hnp hpm hnd hncp hcp
        clear p np cp nd cd Ap D ld
        obtain ⟨p, np, cp, nd, cd, Ap, D, ld, hgh, rfl, hnp, hpm, hnd, hncp, hcp, HBS, H2⟩ := hrel
        cases gk with
        | succ gi =>
          have hnp0 : 0 < np := by omega
          have hq1 : decide ((np : Int) > 0) = true := by rw [decide_eq_true_iff]; omega
          have hq2 : ((0 : Int) < (np : Int)) := by omega
          obtain ⟨x, hx⟩ := get_of HAL.out (show p < am by omega)
          have HXX := hid (show a.rs[p]? = some x.row by rw [← HAR.out, List.getElem?_map, hx]; rfl)
          have HXO := hid (HAO.out x (List.mem_of_getElem? hx))
          have hxn6 := HSA.out x (List.mem_of_getElem? hx)
          have hdr := drop_cons hx
          have hbf := H2.ro 2 rfl
          rw [hdr] at hbf
          obtain ⟨bx, ox, rfl, _⟩ := hbf.tailRws
          have HDR := hid hdr
          obtain ⟨b', o', e', hbx', x0, x1, _⟩ := hbf.now.at_ (k := 0) rfl
          obtain ⟨rfl, rfl⟩ : bx = b' ∧ ox = o' := by injection e' with e'; injection e' with e1 e2; exact ⟨e1, e2⟩
          simp only [Nat.zero_mul, Nat.add_zero] at x0 x1
          clear hx hdr hbf e'
          obtain ⟨xid, xA, xn, xc, xvs⟩ := x
          dsimp only at *
          have F2 := H2.facts
          simp only [factsL, cellsF, Nat.reduceAdd, zf, zl] at F2
          by_cases hle : xid ≤ rid
          · have hd2 : decide (xid ≤ rid) = true := by simpa using hle
            go_wp2_with fail
            go_quiet (fail)
            have H3 := H2.drewN nq
            clear H2 F2 x0 x1
            obtain ⟨w3, hw3⟩ : ∃ w3, w3 = wr.drewN nq := ⟨_, rfl⟩
            rw [← hw3] at H3 ⊢
            clear hw3
            have hbf : Ro w3 _ (RwsIn (some ⟨bx, ox, none⟩) np (⟨xid, xA, xn, xc, xvs⟩ :: la.drop (p + 1))) := (H3.ro 2 rfl).imp fun w2 h2 => by rw [← HDR.out]; exact h2
            obtain ⟨bx', ox', e', hnxt⟩ := hbf.tailRws
            obtain ⟨rfl, rfl⟩ : bx = bx' ∧ ox = ox' := by injection e' with e'; injection e' with e1 e2; exact ⟨e1, e2⟩
            obtain ⟨b', o', e2', hbx', x0, x1, _⟩ := hbf.now.at_ (k := 0) rfl
            obtain ⟨rfl, rfl⟩ : bx = b' ∧ ox = o' := by injection e2' with e2'; injection e2' with e1 e2; exact ⟨e1, e2⟩
            simp only [Nat.zero_mul, Nat.add_zero] at x0 x1
            have hxx : Ro w3 _ (VlsIn xA xn xvs) := hbf.imp fun w2 h2 => h2.2 _ (List.mem_cons_self ..)
            have K2 := (H3.add hxx).alloc_cst #[.int .i64 xid, .slice xA xn xc] 119
            clear e' e2' hbf hxx
            have hnp1 : 1 ≤ np := by omega
            by_cases hc1 : cp = 1
            · have HZ := hid (show la.drop (p + 1) = [] from List.drop_of_length_le (by rw [HAL.out]; omega))
              have KX := K2.swapRo 4 rfl (Ro.nilRws (A := some ⟨bx, ox, none⟩) (n := np - 1) (l := la.drop (p + 1)) (by omega) HZ.out)
              simp only [List.set_cons_zero, List.set_cons_succ] at KX
              clear K2 H3 hnxt
              have FK := KX.facts
              simp only [factsL, cellsF, Nat.reduceAdd, zf, zl] at FK
              by_cases hlt3 : xid < rid
              · have hd4 : decide (xid < rid) = true := by simpa using hlt3
                obtain ⟨KL, hKL, KN⟩ := KX.name
                have HF : Hid (∀ wv, Hold M none w wv KL → (wv.cell? ⟨g6, 2, none⟩ = some (.slice D nd cd) ∧ g6 < wv.heap.size) ∧ wv.cell? ⟨w3.heap.size, 0, none⟩ = some (.int .i64 xid) ∧ wv.cell? ⟨w3.heap.size, 1, none⟩ = some (.slice xA xn xc) ∧ w3.heap.size < wv.heap.size) := hid fun wv HC => by
                  rw [hKL] at HC
                  have y1 := HC.blk_ 11 rfl
                  have y2 := HC.cst_ 0 rfl
                  exact ⟨⟨cell_of_row _ _ 2 _ _ _ y1, Blk.lt y1⟩, cell_of_row _ _ 0 _ _ _ y2, cell_of_row _ _ 1 _ _ _ y2, Blk.lt y2⟩
                have HRX : Hid (∀ wv, Hold M none w wv KL → Ro wv (Mut M KL) (VlsIn xA xn xvs)) := hid fun wv HC => by
                  rw [hKL] at HC ⊢
                  exact HC.ro 1 rfl
                have HKL := hid hKL
                clear hKL KX
                go_wp2_with fail
                refine wp_region_any (by kernel_rfl) ?_
                refine wpAny_hold 5 128 (KL) (spL [(75, RowSlot (Mut M KL) xid xvs), (76, RBoxSlot (Mut M KL) xid xvs)]) (by kernel_rfl) (by kernel_rfl) (by kernel_rfl) rfl ?_ (KN.drew) ?_
                · exact stays_cons rowSlot_mono (stays_cons rboxSlot_mono (stays_nil _))
                simp only [zd, Act.put, List.getElem_toArray, List.getElem_cons_zero, List.getElem_cons_succ, zl]
                refine dw_val rfl rfl rfl ?_; apply Exists.intro; refine ⟨fun wv HC => ?_, ?_⟩
                ·  go_simp <;> rfl
                simp only [Act.put, zl]
                refine dw_val rfl rfl rfl ?_; apply Exists.intro; refine ⟨fun wv HC => ?_, ?_⟩
                · obtain ⟨⟨f0, f1⟩, f2, f3, f4⟩ := HF.out _ HC; go_simp <;> rfl
                simp only [Act.put, zl]
                refine dw_val rfl rfl rfl ?_; apply Exists.intro; refine ⟨fun wv HC => ?_, ?_⟩
                · obtain ⟨⟨f0, f1⟩, f2, f3, f4⟩ := HF.out _ HC; go_simp <;> rfl
                simp only [Act.put, zl]
                refine dw_callR 75 (RowSlot (Mut M KL) xid xvs) (f := 147) (args := #[.agg #[.int .i64 xid, .slice xA xn xc]]) rfl rfl rfl rfl (fun wv => ?_) (fun wv HC hrm hD => ?_) ?_
                · go_simp <;> rfl
                · refine (dcopied_any _ wv HC.mutLt xid xA xn xc xvs (HRX.out _ HC) (by omega)).mono ?_
                  rintro e w5 ⟨A5, n5, c5, rfl, h50, h51, h52, h53, b5⟩
                  exact ⟨_, rfl, ⟨A5, n5, c5, rfl, h50, h51, h52, h53⟩, HC.call b5, RM.below b5⟩
                rintro x_ wx HCx ⟨A5, n5, c5, rfl, -, -, -, -⟩
                clear HCx
                simp only [Act.put, zl]
                refine dw_new #[.int .i64 xid, .slice A5 n5 c5] 119 76 (RBoxSlot (Mut M KL) xid xvs) (fun g => .slice (some ⟨g, 0, none⟩) 1 1) rfl rfl rfl rfl (fun wv => ?_) (fun wv HC _hrm hD hro => ?_) ?_
                · go_simp <;> rfl
                · have hsl : RowSlot (Mut M KL) xid xvs (.agg #[.int .i64 xid, .slice A5 n5 c5]) wv := deps_at hD 3 rfl (by kernel_rfl) rfl rfl
                  obtain ⟨A6, n6, c6, e6, h1, h2, h3, h4⟩ := hsl
                  obtain ⟨rfl, rfl, rfl⟩ : A5 = A6 ∧ n5 = n6 ∧ c5 = c6 := by
                    injection e6 with e6
                    simp at e6
                    exact e6
                  exact ⟨_, A5, n5, c5, rfl, h1, h2, h3, h4.step (by simp) (fun b hb _ => Below.heap_alloc wv _ b hb) (fun _ _ h => h), ro_block (hro _ HC.mutLt) rfl⟩
                rintro gn wg HCg hsl
                simp only [Act.put, zl]
                clear hsl HCg
                refine rel_nil ?_
                rintro wx2 HX
                rintro _hrm HGW
                have hb2 : RBoxSlot (Mut M KL) xid xvs (.slice (some ⟨gn, 0, none⟩) 1 1) wx2 := (GW_on (d := 76) rfl).1 (HGW 4 _ rfl (by omega))
                clear HGW _hrm
                obtain ⟨gq, A6, n6, c6, e6, k0_, k1_, k2_, k3_, k4_⟩ := hb2
                obtain rfl : gn = gq := by injection e6 with e6; injection e6 with e6; injection e6
                clear e6
                rw [HKL.out] at HX k3_
                have k5 := hid k4_.now
                have HK0 := hid (And.intro k0_ (And.intro k1_ k2_))
                clear k4_ k0_ k1_ k2_ HF HRX KN
                have HRS := hid (show rwCells ld ++ [.int .i64 xid, .slice A6 n6 c6] = rwCells (ld ++ [⟨xid, A6, n6, c6, xvs⟩]) from rwCells_snoc1 _ _ _ _ _ _)
                have KA := HX.add k3_
                clear HX k3_
                have FKA := KA.facts
                simp only [factsL, cellsF, Nat.reduceAdd, zf, zl] at FKA
                go_wp2_with (at_builtin; go_must (refine wpList_appAllH KA 7 rfl Tryz.elRw k5.out rfl (.tmp 73) (.tmp 76) rfl rfl rfl (by intro z hz; simp at hz; rcases hz with rfl | rfl <;> rfl) (by omega) (by omega) ?_); intro C' cap' w6 hc6 hm6 KB; rw [HRS.out] at KB; simp only [List.set_cons_zero, List.set_cons_succ] at KB; (have F3 := KB.facts); simp only [factsL, cellsF, Nat.reduceAdd, zf, zl] at F3)
                have KD := KB.store 12 rfl 2 (.slice C' (nd + 1) cap')
                have KE := (KD.swapRo 10 rfl (vals_snoc (r := ⟨xid, A6, n6, c6, xvs⟩) (KD.ro 10 rfl) (KD.ro 0 rfl))).drop (List.sublist_cons_self _ _)
                clear KB KD FKA k5
                have HBN := hid (HBS.out.left HXX.out HRR.out hlt3 (y := ⟨xid, A6, n6, c6, xvs⟩) rfl ⟨HXO.out.id, HK0.out.2.1, HK0.out.2.2, HXO.out.vs⟩)
                have KZ := KE.drop (List.Sublist.cons _ (List.sublist_cons_self _ _))
                go_roundg gi
                case measure => omega
                case rel => exact ⟨p + 1, np - 1, 0, nd + 1, cap', (some ⟨bx, ox, none⟩), C', _, by omega, by first | rfl | (simp <;> omega), by omega, by omega, by omega, by omega, by omega, HBN, KZ⟩
              · obtain rfl : xid = rid := by omega
                have hd4 : decide (xid < xid) = false := by simp
                clear hlt3
                go_wp2_with fail
                refine (eqVls_any _ xA xn xc xvs rA rn rc rvs (KX.ro 1 rfl).now (KX.ro 3 rfl).now (by omega)).mono ?_
                rintro e w7 ⟨rfl, q7, rfl⟩
                have KY := KX.drewN q7
                clear KX FK
                have FK := KY.facts
                simp only [factsL, cellsF, Nat.reduceAdd, zf, zl] at FK
                by_cases hvv : xvs = rvs
                · rw [decide_eq_true hvv]
                  have HBN := hid (HBS.out.same HXX.out HRR.out rfl hvv)
                  clear hvv
                  have KZ := KY.drop (List.Sublist.cons _ (List.Sublist.cons _ (List.Sublist.cons _ (List.sublist_cons_self _ _))))
                  go_wp2_with fail
                  go_roundg go
                  case measure => omega
                  case rel => exact ⟨j + 1, p + 1, np - 1, 0, ni, ci, nd, cd, nu, cu, (some ⟨bx, ox, none⟩), I, D, U, li, ld, lu, by omega, by first | rfl | go_num, by first | rfl | (simp <;> omega), by omega, by omega, by omega, by omega, by omega, by omega, by omega, HBN, KZ⟩
                · rw [decide_eq_false hvv]
                  have HNE := hid hvv
                  clear hvv
                  obtain ⟨KL, hKL, KN⟩ := KY.name
                  have HF : Hid (∀ wv, Hold M none w wv KL → (wv.cell? ⟨g6, 3, none⟩ = some (.slice U nu cu) ∧ g6 < wv.heap.size) ∧ wv.cell? ⟨g9, 0, none⟩ = some (.int .i64 xid) ∧ wv.cell? ⟨g9, 1, none⟩ = some (.slice rA rn rc) ∧ g9 < wv.heap.size ∧ wv.cell? ⟨w3.heap.size, 0, none⟩ = some (.int .i64 xid) ∧ wv.cell? ⟨w3.heap.size, 1, none⟩ = some (.slice xA xn xc) ∧ w3.heap.size < wv.heap.size) := hid fun wv HC => by
                    rw [hKL] at HC
                    have y1 := HC.blk_ 11 rfl
                    have y2 := HC.cst_ 2 rfl
                    have y3 := HC.cst_ 0 rfl
                    exact ⟨⟨cell_of_row _ _ 3 _ _ _ y1, Blk.lt y1⟩, cell_of_row _ _ 0 _ _ _ y2, cell_of_row _ _ 1 _ _ _ y2, Blk.lt y2, cell_of_row _ _ 0 _ _ _ y3, cell_of_row _ _ 1 _ _ _ y3, Blk.lt y3⟩
                  have HRX : Hid (∀ wv, Hold M none w wv KL → Ro wv (Mut M KL) (VlsIn xA xn xvs) ∧ Ro wv (Mut M KL) (VlsIn rA rn rvs)) := hid fun wv HC => by
                    rw [hKL] at HC ⊢
                    exact ⟨HC.ro 1 rfl, HC.ro 3 rfl⟩
                  have HKL := hid hKL
                  clear hKL KY
                  go_wp2_with fail
                  refine wp_region_any (by kernel_rfl) ?_
                  refine wpAny_hold 12 128 (KL) (spL [(91, VlsSlot (Mut M KL) xvs), (94, VlsSlot (Mut M KL) rvs), (95, PrSlot (Mut M KL) (xid, xvs, rvs)), (96, PrsSlot (Mut M KL) [(xid, xvs, rvs)])]) (by kernel_rfl) (by kernel_rfl) (by kernel_rfl) rfl ?_ (KN.drew) ?_
                  · exact stays_cons vlsSlot_mono (stays_cons vlsSlot_mono (stays_cons prSlot_mono (stays_cons prsSlot_mono (stays_nil _))))
                  simp only [zd, Act.put, List.getElem_toArray, List.getElem_cons_zero, List.getElem_cons_succ, zl]
                  refine dw_val rfl rfl rfl ?_; apply Exists.intro; refine ⟨fun wv HC => ?_, ?_⟩
                  ·  go_simp <;> rfl
                  simp only [Act.put, zl]
                  refine dw_val rfl rfl rfl ?_; apply Exists.intro; refine ⟨fun wv HC => ?_, ?_⟩
                  · obtain ⟨⟨f0, f1⟩, f2, f3, f4, f5, f6, f7⟩ := HF.out _ HC; go_simp <;> rfl
                  simp only [Act.put, zl]
                  refine dw_val rfl rfl rfl ?_; apply Exists.intro; refine ⟨fun wv HC => ?_, ?_⟩
                  ·  go_simp <;> rfl
                  simp only [Act.put, zl]
                  refine dw_val rfl rfl rfl ?_; apply Exists.intro; refine ⟨fun wv HC => ?_, ?_⟩
                  · obtain ⟨⟨f0, f1⟩, f2, f3, f4, f5, f6, f7⟩ := HF.out _ HC; go_simp <;> rfl
                  simp only [Act.put, zl]
                  refine dw_val rfl rfl rfl ?_; apply Exists.intro; refine ⟨fun wv HC => ?_, ?_⟩
                  ·  go_simp <;> rfl
                  simp only [Act.put, zl]
                  refine dw_val rfl rfl rfl ?_; apply Exists.intro; refine ⟨fun wv HC => ?_, ?_⟩
                  · obtain ⟨⟨f0, f1⟩, f2, f3, f4, f5, f6, f7⟩ := HF.out _ HC; go_simp <;> rfl
                  simp only [Act.put, zl]
                  refine dw_callR 91 (VlsSlot (Mut M KL) xvs) (f := 149) (args := #[.slice xA xn xc]) rfl rfl rfl rfl (fun wv => ?_) (fun wv HC hrm hD => ?_) ?_
                  · go_simp <;> rfl
                  · refine (cloneVls_any _ wv HC.mutLt xA xn xc xvs (HRX.out _ HC).1 (by omega)).mono ?_
                    rintro e w5 ⟨A5, n5, c5, rfl, h50, h51, h52, h53, b5⟩
                    exact ⟨_, rfl, ⟨A5, n5, c5, rfl, h50, h51, h52, h53⟩, HC.call b5, RM.below b5⟩
                  rintro x_ wx HCx ⟨A91, n91, c91, rfl, -, -, -, -⟩
                  clear HCx
                  simp only [Act.put, zl]
                  refine dw_val rfl rfl rfl ?_; apply Exists.intro; refine ⟨fun wv HC => ?_, ?_⟩
                  ·  go_simp <;> rfl
                  simp only [Act.put, zl]
                  refine dw_val rfl rfl rfl ?_; apply Exists.intro; refine ⟨fun wv HC => ?_, ?_⟩
                  · obtain ⟨⟨f0, f1⟩, f2, f3, f4, f5, f6, f7⟩ := HF.out _ HC; go_simp <;> rfl
                  simp only [Act.put, zl]
                  refine dw_callR 94 (VlsSlot (Mut M KL) rvs) (f := 149) (args := #[.slice rA rn rc]) rfl rfl rfl rfl (fun wv => ?_) (fun wv HC hrm hD => ?_) ?_
                  · go_simp <;> rfl
                  · refine (cloneVls_any _ wv HC.mutLt rA rn rc rvs (HRX.out _ HC).2 (by omega)).mono ?_
                    rintro e w5 ⟨A5, n5, c5, rfl, h50, h51, h52, h53, b5⟩
                    exact ⟨_, rfl, ⟨A5, n5, c5, rfl, h50, h51, h52, h53⟩, HC.call b5, RM.below b5⟩
                  rintro x_ wx HCx ⟨A94, n94, c94, rfl, -, -, -, -⟩
                  clear HCx
                  simp only [Act.put, zl]
                  refine dw_valC 95 (PrSlot (Mut M KL) (xid, xvs, rvs)) rfl rfl rfl rfl (.agg #[.int .i64 xid, .slice A91 n91 c91, .slice A94 n94 c94]) (fun wv HC => ?_) (fun wv HC hD => ?_) ?_
                  · go_simp <;> rfl
                  · have ha : VlsSlot (Mut M KL) xvs (.slice A91 n91 c91) wv := deps_at hD 6 rfl (by kernel_rfl) rfl rfl
                    have hb : VlsSlot (Mut M KL) rvs (.slice A94 n94 c94) wv := deps_at hD 9 rfl (by kernel_rfl) rfl rfl
                    exact prSlot_of HXO.out.id HXO.out.vs HRO.out.vs ha hb
                  simp only [Act.put, zl]
                  refine dw_new #[.int .i64 xid, .slice A91 n91 c91, .slice A94 n94 c94] 110 96 (PrsSlot (Mut M KL) [(xid, xvs, rvs)]) (fun g => .slice (some ⟨g, 0, none⟩) 1 1) rfl rfl rfl rfl (fun wv => ?_) (fun wv HC _hrm hD hro => ?_) ?_
                  · go_simp <;> rfl
                  · have hrr := RM.alloc (Mut M KL) wv (.cells #[.int .i64 xid, .slice A91 n91 c91, .slice A94 n94 c94] 110)
                    have h0 : PrSlot (Mut M KL) (xid, xvs, rvs) (.agg #[.int .i64 xid, .slice A91 n91 c91, .slice A94 n94 c94]) wv := deps_at hD 10 rfl (by kernel_rfl) rfl rfl
                    replace h0 := prSlot_mono _ _ _ hrr h0
                    exact prsSlot_one (hro _ HC.mutLt) (fun i j k e1 => Value.agg.inj e1) h0
                  rintro g96 wg HCg hsl
                  simp only [Act.put, zl]
                  clear hsl HCg
                  refine rel_nil ?_
                  rintro wx5 HX5
                  rintro _hrm HGW
                  have hb2 : PrsSlot (Mut M KL) [(xid, xvs, rvs)] (.slice (some ⟨g96, 0, none⟩) 1 1) wx5 := (GW_on (d := 96) rfl).1 (HGW 11 _ rfl (by omega))
                  clear HGW _hrm
                  obtain ⟨Aq, nq, cq, pq, heq, -, -, hpm, hpok, hpr⟩ := hb2
                  obtain ⟨rfl, rfl, rfl⟩ : some ⟨g96, 0, none⟩ = Aq ∧ 1 = nq ∧ 1 = cq := by injection heq with h1 h2 h3; exact ⟨h1, h2, h3⟩
                  clear heq
                  obtain ⟨pr, rfl, hpu⟩ : ∃ pr, pq = [pr] ∧ pr.upd = (xid, xvs, rvs) := by
                    obtain ⟨pr, h1, h2⟩ := List.map_eq_singleton_iff.1 hpm
                    exact ⟨pr, h1, h2⟩
                  rw [HKL.out] at HX5 hpr
                  have HPE := hid (show prCells lu ++ prCells [pr] = prCells (lu ++ [pr]) by simp [prCells])
                  have KA := HX5.add (hpr.imp fun w h => (h.2 : PrVals [pr] w))
                  have k5 := hid ((hpr.imp fun w h => h.1).now)
                  have HBN := hid (HBS.out.turn HXX.out HRR.out rfl HNE.out hpu (hpok pr (List.mem_singleton.2 rfl)))
                  clear HX5 hpr hpm hpok hpu HF HRX KN
                  have FKA := KA.facts
                  simp only [factsL, cellsF, Nat.reduceAdd, zf, zl] at FKA
                  go_wp2_with (at_builtin; go_must (refine wpList_appAllH KA 8 rfl Tryz.elPr k5.out rfl (.tmp 86) (.tmp 96) rfl rfl rfl (prCells_one _) (by omega) (by omega) ?_); intro C' cap' w6 hc6 hm6 KB; rw [HPE.out] at KB; simp only [List.set_cons_zero, List.set_cons_succ] at KB; (have FB := KB.facts); simp only [factsL, cellsF, Nat.reduceAdd, zf, zl] at FB)
                  have KD := KB.store 12 rfl 3 (.slice C' (nu + 1) cap')
                  have KZ := (KD.swapRo 11 rfl (prVals_app (KD.ro 11 rfl) (KD.ro 0 rfl))).drop (List.Sublist.cons _ (List.Sublist.cons _ (List.Sublist.cons _ (List.Sublist.cons _ (List.sublist_cons_self _ _)))))
                  clear KB KD FKA k5
                  go_roundg go
                  case measure => omega
                  case rel => exact ⟨j + 1, p + 1, np - 1, 0, ni, ci, nd, cd, nu + 1, cap', (some ⟨bx, ox, none⟩), I, D, C', li, ld, _, by omega, by first | rfl | go_num, by first | rfl | (simp <;> omega), by omega, by omega, by omega, by omega, by omega, by omega, by omega, HBN, KZ⟩
            · have KX := K2.swapRo 4 rfl (hnxt.step (by simp) (fun b hb _ => Below.heap_alloc w3 _ b hb) (fun b hb h => (mut_none rfl b ((mut_none rfl b h)))))
              simp only [List.set_cons_zero, List.set_cons_succ] at KX
              clear K2 H3 hnxt
              have FK := KX.facts
              simp only [factsL, cellsF, Nat.reduceAdd, zf, zl] at FK
              by_cases hlt3 : xid < rid
              · have hd4 : decide (xid < rid) = true := by simpa using hlt3
                obtain ⟨KL, hKL, KN⟩ := KX.name
                have HF : Hid (∀ wv, Hold M none w wv KL → (wv.cell? ⟨g6, 2, none⟩ = some (.slice D nd cd) ∧ g6 < wv.heap.size) ∧ wv.cell? ⟨w3.heap.size, 0, none⟩ = some (.int .i64 xid) ∧ wv.cell? ⟨w3.heap.size, 1, none⟩ = some (.slice xA xn xc) ∧ w3.heap.size < wv.heap.size) := hid fun wv HC => by
                  rw [hKL] at HC
                  have y1 := HC.blk_ 11 rfl
                  have y2 := HC.cst_ 0 rfl
                  exact ⟨⟨cell_of_row _ _ 2 _ _ _ y1, Blk.lt y1⟩, cell_of_row _ _ 0 _ _ _ y2, cell_of_row _ _ 1 _ _ _ y2, Blk.lt y2⟩
                have HRX : Hid (∀ wv, Hold M none w wv KL → Ro wv (Mut M KL) (VlsIn xA xn xvs)) := hid fun wv HC => by
                  rw [hKL] at HC ⊢
                  exact HC.ro 1 rfl
                have HKL := hid hKL
                clear hKL KX
                go_wp2_with fail
                refine wp_region_any (by kernel_rfl) ?_
                refine wpAny_hold 5 128 (KL) (spL [(75, RowSlot (Mut M KL) xid xvs), (76, RBoxSlot (Mut M KL) xid xvs)]) (by kernel_rfl) (by kernel_rfl) (by kernel_rfl) rfl ?_ (KN.drew) ?_
                · exact stays_cons rowSlot_mono (stays_cons rboxSlot_mono (stays_nil _))
                simp only [zd, Act.put, List.getElem_toArray, List.getElem_cons_zero, List.getElem_cons_succ, zl]
                refine dw_val rfl rfl rfl ?_; apply Exists.intro; refine ⟨fun wv HC => ?_, ?_⟩
                ·  go_simp <;> rfl
                simp only [Act.put, zl]
                refine dw_val rfl rfl rfl ?_; apply Exists.intro; refine ⟨fun wv HC => ?_, ?_⟩
                · obtain ⟨⟨f0, f1⟩, f2, f3, f4⟩ := HF.out _ HC; go_simp <;> rfl
                simp only [Act.put, zl]
                refine dw_val rfl rfl rfl ?_; apply Exists.intro; refine ⟨fun wv HC => ?_, ?_⟩
                · obtain ⟨⟨f0, f1⟩, f2, f3, f4⟩ := HF.out _ HC; go_simp <;> rfl
                simp only [Act.put, zl]
                refine dw_callR 75 (RowSlot (Mut M KL) xid xvs) (f := 147) (args := #[.agg #[.int .i64 xid, .slice xA xn xc]]) rfl rfl rfl rfl (fun wv => ?_) (fun wv HC hrm hD => ?_) ?_
                · go_simp <;> rfl
                · refine (dcopied_any _ wv HC.mutLt xid xA xn xc xvs (HRX.out _ HC) (by omega)).mono ?_
                  rintro e w5 ⟨A5, n5, c5, rfl, h50, h51, h52, h53, b5⟩
                  exact ⟨_, rfl, ⟨A5, n5, c5, rfl, h50, h51, h52, h53⟩, HC.call b5, RM.below b5⟩
                rintro x_ wx HCx ⟨A5, n5, c5, rfl, -, -, -, -⟩
                clear HCx
                simp only [Act.put, zl]
                refine dw_new #[.int .i64 xid, .slice A5 n5 c5] 119 76 (RBoxSlot (Mut M KL) xid xvs) (fun g => .slice (some ⟨g, 0, none⟩) 1 1) rfl rfl rfl rfl (fun wv => ?_) (fun wv HC _hrm hD hro => ?_) ?_
                · go_simp <;> rfl
                · have hsl : RowSlot (Mut M KL) xid xvs (.agg #[.int .i64 xid, .slice A5 n5 c5]) wv := deps_at hD 3 rfl (by kernel_rfl) rfl rfl
                  obtain ⟨A6, n6, c6, e6, h1, h2, h3, h4⟩ := hsl
                  obtain ⟨rfl, rfl, rfl⟩ : A5 = A6 ∧ n5 = n6 ∧ c5 = c6 := by
                    injection e6 with e6
                    simp at e6
                    exact e6
                  exact ⟨_, A5, n5, c5, rfl, h1, h2, h3, h4.step (by simp) (fun b hb _ => Below.heap_alloc wv _ b hb) (fun _ _ h => h), ro_block (hro _ HC.mutLt) rfl⟩
                rintro gn wg HCg hsl
                simp only [Act.put, zl]
                clear hsl HCg
                refine rel_nil ?_
                rintro wx2 HX
                rintro _hrm HGW
                have hb2 : RBoxSlot (Mut M KL) xid xvs (.slice (some ⟨gn, 0, none⟩) 1 1) wx2 := (GW_on (d := 76) rfl).1 (HGW 4 _ rfl (by omega))
                clear HGW _hrm
                obtain ⟨gq, A6, n6, c6, e6, k0_, k1_, k2_, k3_, k4_⟩ := hb2
                obtain rfl : gn = gq := by injection e6 with e6; injection e6 with e6; injection e6
                clear e6
                rw [HKL.out] at HX k3_
                have k5 := hid k4_.now
                have HK0 := hid (And.intro k0_ (And.intro k1_ k2_))
                clear k4_ k0_ k1_ k2_ HF HRX KN
                have HRS := hid (show rwCells ld ++ [.int .i64 xid, .slice A6 n6 c6] = rwCells (ld ++ [⟨xid, A6, n6, c6, xvs⟩]) from rwCells_snoc1 _ _ _ _ _ _)
                have KA := HX.add k3_
                clear HX k3_
                have FKA := KA.facts
                simp only [factsL, cellsF, Nat.reduceAdd, zf, zl] at FKA
                go_wp2_with (at_builtin; go_must (refine wpList_appAllH KA 7 rfl Tryz.elRw k5.out rfl (.tmp 73) (.tmp 76) rfl rfl rfl (by intro z hz; simp at hz; rcases hz with rfl | rfl <;> rfl) (by omega) (by omega) ?_); intro C' cap' w6 hc6 hm6 KB; rw [HRS.out] at KB; simp only [List.set_cons_zero, List.set_cons_succ] at KB; (have F3 := KB.facts); simp only [factsL, cellsF, Nat.reduceAdd, zf, zl] at F3)
                have KD := KB.store 12 rfl 2 (.slice C' (nd + 1) cap')
                have KE := (KD.swapRo 10 rfl (vals_snoc (r := ⟨xid, A6, n6, c6, xvs⟩) (KD.ro 10 rfl) (KD.ro 0 rfl))).drop (List.sublist_cons_self _ _)
                clear KB KD FKA k5
                have HBN := hid (HBS.out.left HXX.out HRR.out hlt3 (y := ⟨xid, A6, n6, c6, xvs⟩) rfl ⟨HXO.out.id, HK0.out.2.1, HK0.out.2.2, HXO.out.vs⟩)
                have KZ := KE.drop (List.Sublist.cons _ (List.sublist_cons_self _ _))
                go_roundg gi
                case measure => omega
                case rel => exact ⟨p + 1, np - 1, (cp - 1), nd + 1, cap', (some ⟨bx, ox + 2, none⟩), C', _, by omega, by first | rfl | (simp <;> omega), by omega, by omega, by omega, by omega, by omega, HBN, KZ⟩
              · obtain rfl : xid = rid := by omega
                have hd4 : decide (xid < xid) = false := by simp
                clear hlt3
                go_wp2_with fail
                refine (eqVls_any _ xA xn xc xvs rA rn rc rvs (KX.ro 1 rfl).now (KX.ro 3 rfl).now (by omega)).mono ?_
                rintro e w7 ⟨rfl, q7, rfl⟩
                have KY := KX.drewN q7
                clear KX FK
                have FK := KY.facts
                simp only [factsL, cellsF, Nat.reduceAdd, zf, zl] at FK
                by_cases hvv : xvs = rvs
                · rw [decide_eq_true hvv]
                  have HBN := hid (HBS.out.same HXX.out HRR.out rfl hvv)
                  clear hvv
                  have KZ := KY.drop (List.Sublist.cons _ (List.Sublist.cons _ (List.Sublist.cons _ (List.sublist_cons_self _ _))))
                  go_wp2_with fail
                  go_roundg go
                  case measure => omega
                  case rel => exact ⟨j + 1, p + 1, np - 1, (cp - 1), ni, ci, nd, cd, nu, cu, (some ⟨bx, ox + 2, none⟩), I, D, U, li, ld, lu, by omega, by first | rfl | go_num, by first | rfl | (simp <;> omega), by omega, by omega, by omega, by omega, by omega, by omega, by omega, HBN, KZ⟩
                · rw [decide_eq_false hvv]
                  have HNE := hid hvv
                  clear hvv
                  obtain ⟨KL, hKL, KN⟩ := KY.name
                  have HF : Hid (∀ wv, Hold M none w wv KL → (wv.cell? ⟨g6, 3, none⟩ = some (.slice U nu cu) ∧ g6 < wv.heap.size) ∧ wv.cell? ⟨g9, 0, none⟩ = some (.int .i64 xid) ∧ wv.cell? ⟨g9, 1, none⟩ = some (.slice rA rn rc) ∧ g9 < wv.heap.size ∧ wv.cell? ⟨w3.heap.size, 0, none⟩ = some (.int .i64 xid) ∧ wv.cell? ⟨w3.heap.size, 1, none⟩ = some (.slice xA xn xc) ∧ w3.heap.size < wv.heap.size) := hid fun wv HC => by
                    rw [hKL] at HC
                    have y1 := HC.blk_ 11 rfl
                    have y2 := HC.cst_ 2 rfl
                    have y3 := HC.cst_ 0 rfl
                    exact ⟨⟨cell_of_row _ _ 3 _ _ _ y1, Blk.lt y1⟩, cell_of_row _ _ 0 _ _ _ y2, cell_of_row _ _ 1 _ _ _ y2, Blk.lt y2, cell_of_row _ _ 0 _ _ _ y3, cell_of_row _ _ 1 _ _ _ y3, Blk.lt y3⟩
                  have HRX : Hid (∀ wv, Hold M none w wv KL → Ro wv (Mut M KL) (VlsIn xA xn xvs) ∧ Ro wv (Mut M KL) (VlsIn rA rn rvs)) := hid fun wv HC => by
                    rw [hKL] at HC ⊢
                    exact ⟨HC.ro 1 rfl, HC.ro 3 rfl⟩
                  have HKL := hid hKL
                  clear hKL KY
                  go_wp2_with fail
                  refine wp_region_any (by kernel_rfl) ?_
                  refine wpAny_hold 12 128 (KL) (spL [(91, VlsSlot (Mut M KL) xvs), (94, VlsSlot (Mut M KL) rvs), (95, PrSlot (Mut M KL) (xid, xvs, rvs)), (96, PrsSlot (Mut M KL) [(xid, xvs, rvs)])]) (by kernel_rfl) (by kernel_rfl) (by kernel_rfl) rfl ?_ (KN.drew) ?_
                  · exact stays_cons vlsSlot_mono (stays_cons vlsSlot_mono (stays_cons prSlot_mono (stays_cons prsSlot_mono (stays_nil _))))
                  simp only [zd, Act.put, List.getElem_toArray, List.getElem_cons_zero, List.getElem_cons_succ, zl]
                  refine dw_val rfl rfl rfl ?_; apply Exists.intro; refine ⟨fun wv HC => ?_, ?_⟩
                  ·  go_simp <;> rfl
                  simp only [Act.put, zl]
                  refine dw_val rfl rfl rfl ?_; apply Exists.intro; refine ⟨fun wv HC => ?_, ?_⟩
                  · obtain ⟨⟨f0, f1⟩, f2, f3, f4, f5, f6, f7⟩ := HF.out _ HC; go_simp <;> rfl
                  simp only [Act.put, zl]
                  refine dw_val rfl rfl rfl ?_; apply Exists.intro; refine ⟨fun wv HC => ?_, ?_⟩
                  ·  go_simp <;> rfl
                  simp only [Act.put, zl]
                  refine dw_val rfl rfl rfl ?_; apply Exists.intro; refine ⟨fun wv HC => ?_, ?_⟩
                  · obtain ⟨⟨f0, f1⟩, f2, f3, f4, f5, f6, f7⟩ := HF.out _ HC; go_simp <;> rfl
                  simp only [Act.put, zl]
                  refine dw_val rfl rfl rfl ?_; apply Exists.intro; refine ⟨fun wv HC => ?_, ?_⟩
                  ·  go_simp <;> rfl
                  simp only [Act.put, zl]
                  refine dw_val rfl rfl rfl ?_; apply Exists.intro; refine ⟨fun wv HC => ?_, ?_⟩
                  · obtain ⟨⟨f0, f1⟩, f2, f3, f4, f5, f6, f7⟩ := HF.out _ HC; go_simp <;> rfl
                  simp only [Act.put, zl]
                  refine dw_callR 91 (VlsSlot (Mut M KL) xvs) (f := 149) (args := #[.slice xA xn xc]) rfl rfl rfl rfl (fun wv => ?_) (fun wv HC hrm hD => ?_) ?_
                  · go_simp <;> rfl
                  · refine (cloneVls_any _ wv HC.mutLt xA xn xc xvs (HRX.out _ HC).1 (by omega)).mono ?_
                    rintro e w5 ⟨A5, n5, c5, rfl, h50, h51, h52, h53, b5⟩
                    exact ⟨_, rfl, ⟨A5, n5, c5, rfl, h50, h51, h52, h53⟩, HC.call b5, RM.below b5⟩
                  rintro x_ wx HCx ⟨A91, n91, c91, rfl, -, -, -, -⟩
                  clear HCx
                  simp only [Act.put, zl]
                  refine dw_val rfl rfl rfl ?_; apply Exists.intro; refine ⟨fun wv HC => ?_, ?_⟩
                  ·  go_simp <;> rfl
                  simp only [Act.put, zl]
                  refine dw_val rfl rfl rfl ?_; apply Exists.intro; refine ⟨fun wv HC => ?_, ?_⟩
                  · obtain ⟨⟨f0, f1⟩, f2, f3, f4, f5, f6, f7⟩ := HF.out _ HC; go_simp <;> rfl
                  simp only [Act.put, zl]
                  refine dw_callR 94 (VlsSlot (Mut M KL) rvs) (f := 149) (args := #[.slice rA rn rc]) rfl rfl rfl rfl (fun wv => ?_) (fun wv HC hrm hD => ?_) ?_
                  · go_simp <;> rfl
                  · refine (cloneVls_any _ wv HC.mutLt rA rn rc rvs (HRX.out _ HC).2 (by omega)).mono ?_
                    rintro e w5 ⟨A5, n5, c5, rfl, h50, h51, h52, h53, b5⟩
                    exact ⟨_, rfl, ⟨A5, n5, c5, rfl, h50, h51, h52, h53⟩, HC.call b5, RM.below b5⟩
                  rintro x_ wx HCx ⟨A94, n94, c94, rfl, -, -, -, -⟩
                  clear HCx
                  simp only [Act.put, zl]
                  refine dw_valC 95 (PrSlot (Mut M KL) (xid, xvs, rvs)) rfl rfl rfl rfl (.agg #[.int .i64 xid, .slice A91 n91 c91, .slice A94 n94 c94]) (fun wv HC => ?_) (fun wv HC hD => ?_) ?_
                  · go_simp <;> rfl
                  · have ha : VlsSlot (Mut M KL) xvs (.slice A91 n91 c91) wv := deps_at hD 6 rfl (by kernel_rfl) rfl rfl
                    have hb : VlsSlot (Mut M KL) rvs (.slice A94 n94 c94) wv := deps_at hD 9 rfl (by kernel_rfl) rfl rfl
                    exact prSlot_of HXO.out.id HXO.out.vs HRO.out.vs ha hb
                  simp only [Act.put, zl]
                  refine dw_new #[.int .i64 xid, .slice A91 n91 c91, .slice A94 n94 c94] 110 96 (PrsSlot (Mut M KL) [(xid, xvs, rvs)]) (fun g => .slice (some ⟨g, 0, none⟩) 1 1) rfl rfl rfl rfl (fun wv => ?_) (fun wv HC _hrm hD hro => ?_) ?_
                  · go_simp <;> rfl
                  · have hrr := RM.alloc (Mut M KL) wv (.cells #[.int .i64 xid, .slice A91 n91 c91, .slice A94 n94 c94] 110)
                    have h0 : PrSlot (Mut M KL) (xid, xvs, rvs) (.agg #[.int .i64 xid, .slice A91 n91 c91, .slice A94 n94 c94]) wv := deps_at hD 10 rfl (by kernel_rfl) rfl rfl
                    replace h0 := prSlot_mono _ _ _ hrr h0
                    exact prsSlot_one (hro _ HC.mutLt) (fun i j k e1 => Value.agg.inj e1) h0
                  rintro g96 wg HCg hsl
                  simp only [Act.put, zl]
                  clear hsl HCg
                  refine rel_nil ?_
                  rintro wx5 HX5
                  rintro _hrm HGW
                  have hb2 : PrsSlot (Mut M KL) [(xid, xvs, rvs)] (.slice (some ⟨g96, 0, none⟩) 1 1) wx5 := (GW_on (d := 96) rfl).1 (HGW 11 _ rfl (by omega))
                  clear HGW _hrm
                  obtain ⟨Aq, nq, cq, pq, heq, -, -, hpm, hpok, hpr⟩ := hb2
                  obtain ⟨rfl, rfl, rfl⟩ : some ⟨g96, 0, none⟩ = Aq ∧ 1 = nq ∧ 1 = cq := by injection heq with h1 h2 h3; exact ⟨h1, h2, h3⟩
                  clear heq
                  obtain ⟨pr, rfl, hpu⟩ : ∃ pr, pq = [pr] ∧ pr.upd = (xid, xvs, rvs) := by
                    obtain ⟨pr, h1, h2⟩ := List.map_eq_singleton_iff.1 hpm
                    exact ⟨pr, h1, h2⟩
                  rw [HKL.out] at HX5 hpr
                  have HPE := hid (show prCells lu ++ prCells [pr] = prCells (lu ++ [pr]) by simp [prCells])
                  have KA := HX5.add (hpr.imp fun w h => (h.2 : PrVals [pr] w))
                  have k5 := hid ((hpr.imp fun w h => h.1).now)
                  have HBN := hid (HBS.out.turn HXX.out HRR.out rfl HNE.out hpu (hpok pr (List.mem_singleton.2 rfl)))
                  clear HX5 hpr hpm hpok hpu HF HRX KN
                  have FKA := KA.facts
                  simp only [factsL, cellsF, Nat.reduceAdd, zf, zl] at FKA
                  go_wp2_with (at_builtin; go_must (refine wpList_appAllH KA 8 rfl Tryz.elPr k5.out rfl (.tmp 86) (.tmp 96) rfl rfl rfl (prCells_one _) (by omega) (by omega) ?_); intro C' cap' w6 hc6 hm6 KB; rw [HPE.out] at KB; simp only [List.set_cons_zero, List.set_cons_succ] at KB; (have FB := KB.facts); simp only [factsL, cellsF, Nat.reduceAdd, zf, zl] at FB)
                  have KD := KB.store 12 rfl 3 (.slice C' (nu + 1) cap')
                  have KZ := (KD.swapRo 11 rfl (prVals_app (KD.ro 11 rfl) (KD.ro 0 rfl))).drop (List.Sublist.cons _ (List.Sublist.cons _ (List.Sublist.cons _ (List.Sublist.cons _ (List.sublist_cons_self _ _)))))
                  clear KB KD FKA k5
                  go_roundg go
                  case measure => omega
                  case rel => exact ⟨j + 1, p + 1, np - 1, (cp - 1), ni, ci, nd, cd, nu + 1, cap', (some ⟨bx, ox + 2, none⟩), I, D, C', li, ld, _, by omega, by first | rfl | go_num, by first | rfl | (simp <;> omega), by omega, by omega, by omega, by omega, by omega, by omega, by omega, HBN, KZ⟩
          · have hd2 : decide (xid ≤ rid) = false := by simpa using hle
            have HRGT := hid (show ∀ x, a.rs[p]? = some x → rid < x.1 from fun x hx => by rw [HXX.out] at hx; injection hx with hx; subst hx; show rid < xid; omega)
            go_wp2_with fail
            go_quiet (fail)
            have H3 := H2.drewN nq
            clear H2 F2 x0 x1
            generalize wr.drewN nq = w3 at H3 ⊢
            by_cases hrn : rid < a.nx
            · have hd3 : decide (rid < a.nx) = true := by simpa using hrn
              have HN := hid (HBS.out.bad HRR.out HRGT.out hrn)
              clear hrn
              have FK := H3.facts
              simp only [factsL, cellsF, Nat.reduceAdd, zf, zl] at FK
              have KN := (((H3.store 10 rfl 0 (.string ⟨#[]⟩)).store 10 rfl 1 (.slice none 0 0)).store 10 rfl 2 (.slice none 0 0)).store 10 rfl 3 (.slice none 0 0)
              go_wp2_with fail
              (try rw [Exit.noGoto_ret])
              exact bodyPost_ret (v := .tuple #[.agg #[.string ⟨#[]⟩, .slice none 0 0, .slice none 0 0, .slice none 0 0], .bool false]) (by simp [results, Tryz.results81, go_sem, FK]) rfl ⟨_, by rw [HN.out], by rw [HN.out]; exact dlAt_zero, KN.below⟩
            · have hd3 : decide (rid < a.nx) = false := by simpa using hrn
              have HRN := hid (show a.nx ≤ rid by omega)
              clear hrn
              have FK := H3.facts
              simp only [factsL, cellsF, Nat.reduceAdd, zf, zl] at FK
              obtain ⟨KL, hKL, KN⟩ := H3.name
              have HF : Hid (∀ wv, Hold M none w wv KL → (wv.cell? ⟨g6, 1, none⟩ = some (.slice I ni ci) ∧ g6 < wv.heap.size) ∧ wv.cell? ⟨g9, 0, none⟩ = some (.int .i64 rid) ∧ wv.cell? ⟨g9, 1, none⟩ = some (.slice rA rn rc) ∧ g9 < wv.heap.size) := hid fun wv HC => by
                rw [hKL] at HC
                have y1 := HC.blk_ 9 rfl
                have y2 := HC.cst_ 0 rfl
                exact ⟨⟨cell_of_row _ _ 1 _ _ _ y1, Blk.lt y1⟩, cell_of_row _ _ 0 _ _ _ y2, cell_of_row _ _ 1 _ _ _ y2, Blk.lt y2⟩
              have HRX : Hid (∀ wv, Hold M none w wv KL → Ro wv (Mut M KL) (VlsIn rA rn rvs)) := hid fun wv HC => by
                rw [hKL] at HC ⊢
                exact HC.ro 1 rfl
              have HKL := hid hKL
              clear hKL H3
              go_wp2_with fail
              refine wp_region_any (by kernel_rfl) ?_
              refine wpAny_hold 5 128 (KL) (spL [(108, RowSlot (Mut M KL) rid rvs), (109, RBoxSlot (Mut M KL) rid rvs)]) (by kernel_rfl) (by kernel_rfl) (by kernel_rfl) rfl ?_ (KN.drew) ?_
              · exact stays_cons rowSlot_mono (stays_cons rboxSlot_mono (stays_nil _))
              simp only [zd, Act.put, List.getElem_toArray, List.getElem_cons_zero, List.getElem_cons_succ, zl]
              refine dw_val rfl rfl rfl ?_; apply Exists.intro; refine ⟨fun wv HC => ?_, ?_⟩
              ·  go_simp <;> rfl
              simp only [Act.put, zl]
              refine dw_val rfl rfl rfl ?_; apply Exists.intro; refine ⟨fun wv HC => ?_, ?_⟩
              · obtain ⟨⟨f0, f1⟩, f2, f3, f4⟩ := HF.out _ HC; go_simp <;> rfl
              simp only [Act.put, zl]
              refine dw_val rfl rfl rfl ?_; apply Exists.intro; refine ⟨fun wv HC => ?_, ?_⟩
              · obtain ⟨⟨f0, f1⟩, f2, f3, f4⟩ := HF.out _ HC; go_simp <;> rfl
              simp only [Act.put, zl]
              refine dw_callR 108 (RowSlot (Mut M KL) rid rvs) (f := 147) (args := #[.agg #[.int .i64 rid, .slice rA rn rc]]) rfl rfl rfl rfl (fun wv => ?_) (fun wv HC hrm hD => ?_) ?_
              · go_simp <;> rfl
              · refine (dcopied_any _ wv HC.mutLt rid rA rn rc rvs (HRX.out _ HC) (by omega)).mono ?_
                rintro e w5 ⟨A5, n5, c5, rfl, h50, h51, h52, h53, b5⟩
                exact ⟨_, rfl, ⟨A5, n5, c5, rfl, h50, h51, h52, h53⟩, HC.call b5, RM.below b5⟩
              rintro x_ wx HCx ⟨A5, n5, c5, rfl, -, -, -, -⟩
              clear HCx
              simp only [Act.put, zl]
              refine dw_new #[.int .i64 rid, .slice A5 n5 c5] 119 109 (RBoxSlot (Mut M KL) rid rvs) (fun g => .slice (some ⟨g, 0, none⟩) 1 1) rfl rfl rfl rfl (fun wv => ?_) (fun wv HC _hrm hD hro => ?_) ?_
              · go_simp <;> rfl
              · have hsl : RowSlot (Mut M KL) rid rvs (.agg #[.int .i64 rid, .slice A5 n5 c5]) wv := deps_at hD 3 rfl (by kernel_rfl) rfl rfl
                obtain ⟨A6, n6, c6, e6, h1, h2, h3, h4⟩ := hsl
                obtain ⟨rfl, rfl, rfl⟩ : A5 = A6 ∧ n5 = n6 ∧ c5 = c6 := by
                  injection e6 with e6
                  simp at e6
                  exact e6
                exact ⟨_, A5, n5, c5, rfl, h1, h2, h3, h4.step (by simp) (fun b hb _ => Below.heap_alloc wv _ b hb) (fun _ _ h => h), ro_block (hro _ HC.mutLt) rfl⟩
              rintro gn wg HCg hsl
              simp only [Act.put, zl]
              clear hsl HCg
              refine rel_nil ?_
              rintro wx2 HX
              rintro _hrm HGW
              have hb2 : RBoxSlot (Mut M KL) rid rvs (.slice (some ⟨gn, 0, none⟩) 1 1) wx2 := (GW_on (d := 109) rfl).1 (HGW 4 _ rfl (by omega))
              clear HGW _hrm
              obtain ⟨gq, A6, n6, c6, e6, k0_, k1_, k2_, k3_, k4_⟩ := hb2
              obtain rfl : gn = gq := by injection e6 with e6; injection e6 with e6; injection e6
              clear e6
              rw [HKL.out] at HX k3_
              have k5 := hid k4_.now
              have HK0 := hid (And.intro k0_ (And.intro k1_ k2_))
              clear k4_ k0_ k1_ k2_ HF HRX KN
              have HRS := hid (show rwCells li ++ [.int .i64 rid, .slice A6 n6 c6] = rwCells (li ++ [⟨rid, A6, n6, c6, rvs⟩]) from rwCells_snoc1 _ _ _ _ _ _)
              have KA := HX.add k3_
              clear HX k3_
              have FKA := KA.facts
              simp only [factsL, cellsF, Nat.reduceAdd, zf, zl] at FKA
              go_wp2_with (at_builtin; go_must (refine wpList_appAllH KA 4 rfl Tryz.elRw k5.out rfl (.tmp 106) (.tmp 109) rfl rfl rfl (by intro z hz; simp at hz; rcases hz with rfl | rfl <;> rfl) (by omega) (by omega) ?_); intro C' cap' w6 hc6 hm6 KB; rw [HRS.out] at KB; simp only [List.set_cons_zero, List.set_cons_succ] at KB; (have F3 := KB.facts); simp only [factsL, cellsF, Nat.reduceAdd, zf, zl] at F3)
              have KD := KB.store 10 rfl 1 (.slice C' (ni + 1) cap')
              have KE := (KD.swapRo 7 rfl (vals_snoc (r := ⟨rid, A6, n6, c6, rvs⟩) (KD.ro 7 rfl) (KD.ro 0 rfl))).drop (List.sublist_cons_self _ _)
              clear KB KD FKA k5
              have HBN := hid (HBS.out.right HRR.out HRGT.out HRN.out (y := ⟨rid, A6, n6, c6, rvs⟩) rfl ⟨HRO.out.id, HK0.out.2.1, HK0.out.2.2, HRO.out.vs⟩)
              have KZ := KE.drop (List.Sublist.cons _ (List.sublist_cons_self _ _))
              go_roundg go
              case measure => omega
              case rel => exact ⟨j + 1, p, _, cp, ni + 1, cap', nd, cd, nu, cu, _, C', D, U, _, ld, lu, by omega, by first | rfl | go_num, rfl, by omega, by omega, by omega, by omega, by omega, by omega, by omega, HBN, KZ⟩
        | zero =>
          obtain rfl : np = 0 := by omega
          have HRGT := hid (show ∀ x, a.rs[p]? = some x → rid < x.1 from fun x hx => by
            have h1 := (List.getElem?_eq_some_iff.1 hx).1
            have h2 := congrArg List.length HAR.out
            rw [List.length_map, HAL.out] at h2
            omega)
          have F2 := H2.facts
          simp only [factsL, cellsF, Nat.reduceAdd, zf, zl] at F2
          go_wp2_with fail
          go_quiet (fail)
          have H3 := H2.drewN nq
          clear H2 F2
          generalize wr.drewN nq = w3 at H3 ⊢
          by_cases hrn : rid < a.nx
          · have hd3 : decide (rid < a.nx) = true := by simpa using hrn
            have HN := hid (HBS.out.bad HRR.out HRGT.out hrn)
            clear hrn
            have FK := H3.facts
            simp only [factsL, cellsF, Nat.reduceAdd, zf, zl] at FK
            have KN := (((H3.store 10 rfl 0 (.string ⟨#[]⟩)).store 10 rfl 1 (.slice none 0 0)).store 10 rfl 2 (.slice none 0 0)).store 10 rfl 3 (.slice none 0 0)
            go_wp2_with fail
            (try rw [Exit.noGoto_ret])
            exact bodyPost_ret (v := .tuple #[.agg #[.string ⟨#[]⟩, .slice none 0 0, .slice none 0 0, .slice none 0 0], .bool false]) (by simp [results, Tryz.results81, go_sem, FK]) rfl ⟨_, by rw [HN.out], by rw [HN.out]; exact dlAt_zero, KN.below⟩
          · have hd3 : decide (rid < a.nx) = false := by simpa using hrn
            have HRN := hid (show a.nx ≤ rid by omega)
            clear hrn
            have FK := H3.facts
            simp only [factsL, cellsF, Nat.reduceAdd, zf, zl] at FK
            obtain ⟨KL, hKL, KN⟩ := H3.name
            have HF : Hid (∀ wv, Hold M none w wv KL → (wv.cell? ⟨g6, 1, none⟩ = some (.slice I ni ci) ∧ g6 < wv.heap.size) ∧ wv.cell? ⟨g9, 0, none⟩ = some (.int .i64 rid) ∧ wv.cell? ⟨g9, 1, none⟩ = some (.slice rA rn rc) ∧ g9 < wv.heap.size) := hid fun wv HC => by
              rw [hKL] at HC
              have y1 := HC.blk_ 9 rfl
              have y2 := HC.cst_ 0 rfl
              exact ⟨⟨cell_of_row _ _ 1 _ _ _ y1, Blk.lt y1⟩, cell_of_row _ _ 0 _ _ _ y2, cell_of_row _ _ 1 _ _ _ y2, Blk.lt y2⟩
            have HRX : Hid (∀ wv, Hold M none w wv KL → Ro wv (Mut M KL) (VlsIn rA rn rvs)) := hid fun wv HC => by
              rw [hKL] at HC ⊢
              exact HC.ro 1 rfl
            have HKL := hid hKL
            clear hKL H3
            go_wp2_with fail
            refine wp_region_any (by kernel_rfl) ?_
            refine wpAny_hold 5 128 (KL) (spL [(108, RowSlot (Mut M KL) rid rvs), (109, RBoxSlot (Mut M KL) rid rvs)]) (by kernel_rfl) (by kernel_rfl) (by kernel_rfl) rfl ?_ (KN.drew) ?_
            · exact stays_cons rowSlot_mono (stays_cons rboxSlot_mono (stays_nil _))
            simp only [zd, Act.put, List.getElem_toArray, List.getElem_cons_zero, List.getElem_cons_succ, zl]
            refine dw_val rfl rfl rfl ?_; apply Exists.intro; refine ⟨fun wv HC => ?_, ?_⟩
            ·  go_simp <;> rfl
            simp only [Act.put, zl]
            refine dw_val rfl rfl rfl ?_; apply Exists.intro; refine ⟨fun wv HC => ?_, ?_⟩
            · obtain ⟨⟨f0, f1⟩, f2, f3, f4⟩ := HF.out _ HC; go_simp <;> rfl
            simp only [Act.put, zl]
            refine dw_val rfl rfl rfl ?_; apply Exists.intro; refine ⟨fun wv HC => ?_, ?_⟩
            · obtain ⟨⟨f0, f1⟩, f2, f3, f4⟩ := HF.out _ HC; go_simp <;> rfl
            simp only [Act.put, zl]
            refine dw_callR 108 (RowSlot (Mut M KL) rid rvs) (f := 147) (args := #[.agg #[.int .i64 rid, .slice rA rn rc]]) rfl rfl rfl rfl (fun wv => ?_) (fun wv HC hrm hD => ?_) ?_
            · go_simp <;> rfl
            · refine (dcopied_any _ wv HC.mutLt rid rA rn rc rvs (HRX.out _ HC) (by omega)).mono ?_
              rintro e w5 ⟨A5, n5, c5, rfl, h50, h51, h52, h53, b5⟩
              exact ⟨_, rfl, ⟨A5, n5, c5, rfl, h50, h51, h52, h53⟩, HC.call b5, RM.below b5⟩
            rintro x_ wx HCx ⟨A5, n5, c5, rfl, -, -, -, -⟩
            clear HCx
            simp only [Act.put, zl]
            refine dw_new #[.int .i64 rid, .slice A5 n5 c5] 119 109 (RBoxSlot (Mut M KL) rid rvs) (fun g => .slice (some ⟨g, 0, none⟩) 1 1) rfl rfl rfl rfl (fun wv => ?_) (fun wv HC _hrm hD hro => ?_) ?_
            · go_simp <;> rfl
            · have hsl : RowSlot (Mut M KL) rid rvs (.agg #[.int .i64 rid, .slice A5 n5 c5]) wv := deps_at hD 3 rfl (by kernel_rfl) rfl rfl
              obtain ⟨A6, n6, c6, e6, h1, h2, h3, h4⟩ := hsl
              obtain ⟨rfl, rfl, rfl⟩ : A5 = A6 ∧ n5 = n6 ∧ c5 = c6 := by
                injection e6 with e6
                simp at e6
                exact e6
              exact ⟨_, A5, n5, c5, rfl, h1, h2, h3, h4.step (by simp) (fun b hb _ => Below.heap_alloc wv _ b hb) (fun _ _ h => h), ro_block (hro _ HC.mutLt) rfl⟩
            rintro gn wg HCg hsl
            simp only [Act.put, zl]
            clear hsl HCg
            refine rel_nil ?_
            rintro wx2 HX
            rintro _hrm HGW
            have hb2 : RBoxSlot (Mut M KL) rid rvs (.slice (some ⟨gn, 0, none⟩) 1 1) wx2 := (GW_on (d := 109) rfl).1 (HGW 4 _ rfl (by omega))
            clear HGW _hrm
            obtain ⟨gq, A6, n6, c6, e6, k0_, k1_, k2_, k3_, k4_⟩ := hb2
            obtain rfl : gn = gq := by injection e6 with e6; injection e6 with e6; injection e6
            clear e6
            rw [HKL.out] at HX k3_
            have k5 := hid k4_.now
            have HK0 := hid (And.intro k0_ (And.intro k1_ k2_))
            clear k4_ k0_ k1_ k2_ HF HRX KN
            have HRS := hid (show rwCells li ++ [.int .i64 rid, .slice A6 n6 c6] = rwCells (li ++ [⟨rid, A6, n6, c6, rvs⟩]) from rwCells_snoc1 _ _ _ _ _ _)
            have KA := HX.add k3_
            clear HX k3_
            have FKA := KA.facts
            simp only [factsL, cellsF, Nat.reduceAdd, zf, zl] at FKA
            go_wp2_with (at_builtin; go_must (refine wpList_appAllH KA 4 rfl Tryz.elRw k5.out rfl (.tmp 106) (.tmp 109) rfl rfl rfl (by intro z hz; simp at hz; rcases hz with rfl | rfl <;> rfl) (by omega) (by omega) ?_); intro C' cap' w6 hc6 hm6 KB; rw [HRS.out] at KB; simp only [List.set_cons_zero, List.set_cons_succ] at KB; (have F3 := KB.facts); simp only [factsL, cellsF, Nat.reduceAdd, zf, zl] at F3)
            have KD := KB.store 10 rfl 1 (.slice C' (ni + 1) cap')
            have KE := (KD.swapRo 7 rfl (vals_snoc (r := ⟨rid, A6, n6, c6, rvs⟩) (KD.ro 7 rfl) (KD.ro 0 rfl))).drop (List.sublist_cons_self _ _)
            clear KB KD FKA k5
            have HBN := hid (HBS.out.right HRR.out HRGT.out HRN.out (y := ⟨rid, A6, n6, c6, rvs⟩) rfl ⟨HRO.out.id, HK0.out.2.1, HK0.out.2.2, HRO.out.vs⟩)
            have KZ := KE.drop (List.Sublist.cons _ (List.sublist_cons_self _ _))
            go_roundg go
            case measure => omega
            case rel => exact ⟨j + 1, p, _, cp, ni + 1, cap', nd, cd, nu, cu, _, C', D, U, _, ld, lu, by omega, by first | rfl | go_num, rfl, by omega, by omega, by omega, by omega, by omega, by omega, by omega, HBN, KZ⟩
    | zero =>
      obtain rfl : j = bm := by omega
      have hd : decide ((j : Int) < (j : Int)) = false := by simp
      have HBJ := hid (show b.rs.length ≤ j by rw [← HBR.out, List.length_map, HBL.out]; exact Nat.le_refl _)
      go_wp2_with fail
      (try rw [Exit.noGoto_ret])
      go_loopw [115] (fun iv wr => ∃ (k nd cd : Nat) (D : Option Addr) (ld : List Rw), k ≤ np ∧ iv = .int .i64 k ∧ nd ≤ p + k ∧ Hid (BSt a b j (p + k) li ld lu) ∧ Hold M none w wr [.ro (RwsIn Ap np (la.drop p)), .own 119 2 (.slice I ni ci) ni (rwCells li), .own 119 2 (.slice D nd cd) nd (rwCells ld), .own 110 3 (.slice U nu cu) nu (prCells lu), .ro (ValsIn li), .ro (ValsIn ld), .ro (PrVals lu), .blk g6 44 #[.string a.nm, .slice I ni ci, .slice D nd cd, .slice U nu cu], .blk g4 44 #[.string ⟨#[]⟩, .slice none 0 0, .slice none 0 0, .slice none 0 0], .cst g3 58 #[.string b.nm, .slice bA bn bc, .int .i64 b.nx, .slice bB j bd], .cst g2 58 #[.string a.nm, .slice aA an ac, .int .i64 a.nx, .slice aB am ad], .ro (ColsIn aA an a.cs), .ro (RwsIn aB am la), .ro (ColsIn bA bn b.cs), .ro (RwsIn bB j lb)]) (fun iv _ => np - (intOf iv).toNat)
      case atStart => exact ⟨0, nd, cd, D, ld, by omega, rfl, by omega, HBS, H⟩
      case round =>
        clear H HBS hnd
        clear nd cd D ld
        obtain ⟨k, nd, cd, D, ld, hk, rfl, hnd, HBS, H⟩ := hrel
        by_cases hlt : k < np
        · have hd5 : decide ((k : Int) < (np : Int)) = true := by simp; omega
          have k0 : (0 : Int) ≤ (k : Int) := by omega
          have k1 : (k : Int) < (np : Int) := by omega
          obtain ⟨x, hx⟩ := get_of HAL.out (show p + k < am by omega)
          have HXX := hid (show a.rs[p + k]? = some x.row by rw [← HAR.out, List.getElem?_map, hx]; rfl)
          have HXO := hid (HAO.out x (List.mem_of_getElem? hx))
          have hxn6 := HSA.out x (List.mem_of_getElem? hx)
          have hx2 : (la.drop p)[k]? = some x := by rw [List.getElem?_drop]; exact hx
          obtain ⟨bx, ox, rfl, hbx', x0, x1, _⟩ := (H.ro 0 rfl).now.at_ hx2
          have hxx : Ro wr _ (VlsIn x.A x.n x.vs) := (H.ro 0 rfl).imp fun w2 h2 => h2.2 x (List.mem_of_getElem? hx2)
          clear hx hx2
          obtain ⟨xid, xA, xn, xc, xvs⟩ := x
          dsimp only at *
          have KX := (H.add hxx).alloc_cst #[.int .i64 xid, .slice xA xn xc] 119
          clear H hxx
          obtain ⟨KL, hKL, KN⟩ := KX.name
          have HF : Hid (∀ wv, Hold M none w wv KL → (wv.cell? ⟨g6, 2, none⟩ = some (.slice D nd cd) ∧ g6 < wv.heap.size) ∧ wv.cell? ⟨wr.heap.size, 0, none⟩ = some (.int .i64 xid) ∧ wv.cell? ⟨wr.heap.size, 1, none⟩ = some (.slice xA xn xc) ∧ wr.heap.size < wv.heap.size) := hid fun wv HC => by
            rw [hKL] at HC
            have y1 := HC.blk_ 9 rfl
            have y2 := HC.cst_ 0 rfl
            exact ⟨⟨cell_of_row _ _ 2 _ _ _ y1, Blk.lt y1⟩, cell_of_row _ _ 0 _ _ _ y2, cell_of_row _ _ 1 _ _ _ y2, Blk.lt y2⟩
          have HRX : Hid (∀ wv, Hold M none w wv KL → Ro wv (Mut M KL) (VlsIn xA xn xvs)) := hid fun wv HC => by
            rw [hKL] at HC ⊢
            exact HC.ro 1 rfl
          have HKL := hid hKL
          clear hKL KX
          go_wp2_with fail
          refine wp_region_any (by kernel_rfl) ?_
          refine wpAny_hold 5 128 (KL) (spL [(122, RowSlot (Mut M KL) xid xvs), (123, RBoxSlot (Mut M KL) xid xvs)]) (by kernel_rfl) (by kernel_rfl) (by kernel_rfl) rfl ?_ (KN.drew) ?_
          · exact stays_cons rowSlot_mono (stays_cons rboxSlot_mono (stays_nil _))
          simp only [zd, Act.put, List.getElem_toArray, List.getElem_cons_zero, List.getElem_cons_succ, zl]
          refine dw_val rfl rfl rfl ?_; apply Exists.intro; refine ⟨fun wv HC => ?_, ?_⟩
          ·  go_simp <;> rfl
          simp only [Act.put, zl]
          refine dw_val rfl rfl rfl ?_; apply Exists.intro; refine ⟨fun wv HC => ?_, ?_⟩
          · obtain ⟨⟨f0, f1⟩, f2, f3, f4⟩ := HF.out _ HC; go_simp <;> rfl
          simp only [Act.put, zl]
          refine dw_val rfl rfl rfl ?_; apply Exists.intro; refine ⟨fun wv HC => ?_, ?_⟩
          · obtain ⟨⟨f0, f1⟩, f2, f3, f4⟩ := HF.out _ HC; go_simp <;> rfl
          simp only [Act.put, zl]
          refine dw_callR 122 (RowSlot (Mut M KL) xid xvs) (f := 147) (args := #[.agg #[.int .i64 xid, .slice xA xn xc]]) rfl rfl rfl rfl (fun wv => ?_) (fun wv HC hrm hD => ?_) ?_
          · go_simp <;> rfl
          · refine (dcopied_any _ wv HC.mutLt xid xA xn xc xvs (HRX.out _ HC) (by omega)).mono ?_
            rintro e w5 ⟨A5, n5, c5, rfl, h50, h51, h52, h53, b5⟩
            exact ⟨_, rfl, ⟨A5, n5, c5, rfl, h50, h51, h52, h53⟩, HC.call b5, RM.below b5⟩
          rintro x_ wx HCx ⟨A5, n5, c5, rfl, -, -, -, -⟩
          clear HCx
          simp only [Act.put, zl]
          refine dw_new #[.int .i64 xid, .slice A5 n5 c5] 119 123 (RBoxSlot (Mut M KL) xid xvs) (fun g => .slice (some ⟨g, 0, none⟩) 1 1) rfl rfl rfl rfl (fun wv => ?_) (fun wv HC _hrm hD hro => ?_) ?_
          · go_simp <;> rfl
          · have hsl : RowSlot (Mut M KL) xid xvs (.agg #[.int .i64 xid, .slice A5 n5 c5]) wv := deps_at hD 3 rfl (by kernel_rfl) rfl rfl
            obtain ⟨A6, n6, c6, e6, h1, h2, h3, h4⟩ := hsl
            obtain ⟨rfl, rfl, rfl⟩ : A5 = A6 ∧ n5 = n6 ∧ c5 = c6 := by
              injection e6 with e6
              simp at e6
              exact e6
            exact ⟨_, A5, n5, c5, rfl, h1, h2, h3, h4.step (by simp) (fun b hb _ => Below.heap_alloc wv _ b hb) (fun _ _ h => h), ro_block (hro _ HC.mutLt) rfl⟩
          rintro gn wg HCg hsl
          simp only [Act.put, zl]
          clear hsl HCg
          refine rel_nil ?_
          rintro wx2 HX
          rintro _hrm HGW
          have hb2 : RBoxSlot (Mut M KL) xid xvs (.slice (some ⟨gn, 0, none⟩) 1 1) wx2 := (GW_on (d := 123) rfl).1 (HGW 4 _ rfl (by omega))
          clear HGW _hrm
          obtain ⟨gq, A6, n6, c6, e6, k0_, k1_, k2_, k3_, k4_⟩ := hb2
          obtain rfl : gn = gq := by injection e6 with e6; injection e6 with e6; injection e6
          clear e6
          rw [HKL.out] at HX k3_
          have k5 := hid k4_.now
          have HK0 := hid (And.intro k0_ (And.intro k1_ k2_))
          clear k4_ k0_ k1_ k2_ HF HRX KN
          have HRS := hid (show rwCells ld ++ [.int .i64 xid, .slice A6 n6 c6] = rwCells (ld ++ [⟨xid, A6, n6, c6, xvs⟩]) from rwCells_snoc1 _ _ _ _ _ _)
          have KA := HX.add k3_
          clear HX k3_
          have FKA := KA.facts
          simp only [factsL, cellsF, Nat.reduceAdd, zf, zl] at FKA
          go_wp2_with (at_builtin; go_must (refine wpList_appAllH KA 5 rfl Tryz.elRw k5.out rfl (.tmp 120) (.tmp 123) rfl rfl rfl (by intro z hz; simp at hz; rcases hz with rfl | rfl <;> rfl) (by omega) (by omega) ?_); intro C' cap' w6 hc6 hm6 KB; rw [HRS.out] at KB; simp only [List.set_cons_zero, List.set_cons_succ] at KB; (have F3 := KB.facts); simp only [factsL, cellsF, Nat.reduceAdd, zf, zl] at F3)
          have KD := KB.store 10 rfl 2 (.slice C' (nd + 1) cap')
          have KE := (KD.swapRo 8 rfl (vals_snoc (r := ⟨xid, A6, n6, c6, xvs⟩) (KD.ro 8 rfl) (KD.ro 0 rfl))).drop (List.sublist_cons_self _ _)
          clear KB KD FKA k5
          have HBN := hid (HBS.out.tail HBJ.out HXX.out (y := ⟨xid, A6, n6, c6, xvs⟩) rfl ⟨HXO.out.id, HK0.out.2.1, HK0.out.2.2, HXO.out.vs⟩)
          have KZ := KE.drop (List.Sublist.cons _ (List.sublist_cons_self _ _))
          go_roundw
          case rel => exact ⟨k + 1, nd + 1, cap', C', _, by omega, by first | rfl | go_num, by omega, HBN, KZ⟩
          case measure => simp [intOf]; omega
        · obtain rfl : np = k := by omega
          have hd5 : decide ((np : Int) < (np : Int)) = false := by simp
          have HFIN := hid (HBS.out.fin HBJ.out (by rw [← HAR.out, List.length_map, HAL.out]; omega))
          have F := H.facts
          simp only [factsL, cellsF, Nat.reduceAdd, zf, zl] at F
          obtain ⟨hi1, hi2, _⟩ := own_caps (H.get 1 rfl)
          obtain ⟨hd1, hd2, _⟩ := own_caps (H.get 2 rfl)
          obtain ⟨hu1, hu2, _⟩ := own_caps (H.get 3 rfl)
          have KS := H.sealRow 1 rfl
          simp only [List.set_cons_zero, List.set_cons_succ] at KS
          have KS2 := KS.sealRow 2 rfl
          simp only [List.set_cons_zero, List.set_cons_succ] at KS2
          have KS3 := KS2.sealRow 3 rfl
          simp only [List.set_cons_zero, List.set_cons_succ] at KS3
          have KN := (((KS3.store 8 rfl 0 (.string a.nm)).store 8 rfl 1 (.slice I ni ci)).store 8 rfl 2 (.slice D nd cd)).store 8 rfl 3 (.slice U nu cu)
          have r1 := (KN.roOut 1 rfl).and (KN.roOut 4 rfl)
          have r2 := (KN.roOut 2 rfl).and (KN.roOut 5 rfl)
          have r3 := (KN.roOut 3 rfl).and (KN.roOut 6 rfl)
          have NK := H.nes
          simp only [nesL, neF, and_true, true_and] at NK
          clear KS KS2 KS3 H
          go_wp2_with fail
          (try rw [Exit.noGoto_ret])
          exact bodyPost_ret (v := .tuple #[.agg #[.string a.nm, .slice I ni ci, .slice D nd cd, .slice U nu cu], .bool true]) (by simp [results, Tryz.results81, go_sem, F, NK]) rfl ⟨_, by rw [HFIN.out], by rw [HFIN.out]; exact ⟨I, ni, ci, D, nd, cd, U, nu, cu, li, ld, lu, rfl, ⟨hi1, hi2⟩, ⟨hd1, hd2⟩, ⟨hu1, hu2⟩, r1, r2, r3, HBS.out.ok1, HBS.out.ok2, HBS.out.ok3, rfl, rfl, rfl⟩, KN.below⟩
end Go.Proofs.YtedogodccblfeaaGreatDoor

namespace Go.Proofs.YtedogodccblfeaaGreatDoor
open Go.RowKit
set_option linter.unusedVariables false
set_option linter.unusedSimpArgs false

set_option maxHeartbeats 1000000 in
theorem dempty_any (w : World) (s : ByteArray) (I : Option Addr) (ni ci : Nat) (D : Option Addr) (nd cd : Nat) (U : Option Addr) (nu cu : Nat) : Calls Tryz.prog 82 #[.agg #[.string s, .slice I ni ci, .slice D nd cd, .slice U nu cu]] w fun e' w' => e' = .returned (.bool (decide (ni = 0 ∧ nd = 0 ∧ nu = 0))) ∧ Below w.heap.size w w' := by
  have K0 := (Hold.begin_ w).alloc_cst #[.string s, .slice I ni ci, .slice D nd cd, .slice U nu cu] 44
  have F0 := K0.facts
  simp only [factsL, cellsF, Nat.reduceAdd, zf, zl] at F0
  by_cases h1 : ni = 0
  · have e1 : ((ni : Int) == 0) = true := by simp [h1]
    have HN1 := hid h1
    clear h1
    by_cases h2 : nd = 0
    · have e2 : ((nd : Int) == 0) = true := by simp [h2]
      have HN2 := hid h2
      clear h2
      by_cases h3 : nu = 0
      · have e3 : ((nu : Int) == 0) = true := by simp [h3]
        have HN := hid (show decide (ni = 0 ∧ nd = 0 ∧ nu = 0) = true by simp [HN1.out, HN2.out, h3])
        clear h3
        go_enter Tryz.func82, Tryz.ntmps82
        go_wp2_with fail
        go_ret
        exact ⟨by rw [HN.out] <;> first | rfl | simp, K0.below⟩
      · have e3 : ((nu : Int) == 0) = false := by simp; omega
        have HN := hid (show decide (ni = 0 ∧ nd = 0 ∧ nu = 0) = false by simp [h3])
        clear h3
        go_enter Tryz.func82, Tryz.ntmps82
        go_wp2_with fail
        go_ret
        exact ⟨by rw [HN.out] <;> first | rfl | simp, K0.below⟩
    · have e2 : ((nd : Int) == 0) = false := by simp; omega
      have HN := hid (show decide (ni = 0 ∧ nd = 0 ∧ nu = 0) = false by simp [h2])
      clear h2
      go_enter Tryz.func82, Tryz.ntmps82
      go_wp2_with fail
      go_ret
      exact ⟨by rw [HN.out] <;> first | rfl | simp, K0.below⟩
  · have e1 : ((ni : Int) == 0) = false := by simp; omega
    have HN := hid (show decide (ni = 0 ∧ nd = 0 ∧ nu = 0) = false by simp [h1])
    clear h1
    go_enter Tryz.func82, Tryz.ntmps82
    go_wp2_with fail
    go_ret
    exact ⟨by rw [HN.out] <;> first | rfl | simp, K0.below⟩
end Go.Proofs.YtedogodccblfeaaGreatDoor

namespace Go.Proofs.YtedogodccblfeaaGreatDoor
open Go.RowKit
set_option linter.unusedVariables false
set_option linter.unusedSimpArgs false

set_option maxHeartbeats 4000000 in
set_option maxRecDepth 100000 in
theorem rsameschema_any (w : World) (nm : ByteArray) (A : Option Addr) (n c : Nat) (cs : List Col) (nm2 : ByteArray) (B : Option Addr) (m d : Nat) (ds : List Col) (hD : ColsIn A n cs w) (hE : ColsIn B m ds w) (hn : n ≤ 4398046511104) :
    Calls Tryz.prog 59 #[.agg #[.string nm, .slice A n c], .agg #[.string nm2, .slice B m d]] w fun e w' => e = .returned (.bool (decide (nm = nm2 ∧ cs = ds))) ∧ Below w.heap.size w w' := by
  have HL := hid (show cs.length = n from cols_n hD)
  have HK := hid (show ds.length = m from cols_n hE)
  have K0 := ((((Hold.start None_ w (fun b hb => hb.elim)).add (Rd.ro hE (Nat.le_refl _) (by simp [Mut, None_]) : Ro w _ (ColsIn B m ds))).add (Rd.ro hD (Nat.le_refl _) (by simp [Mut, None_, Hp.foot]) : Ro w _ (ColsIn A n cs))).alloc_cst #[.string nm, .slice A n c] 49).alloc_cst #[.string nm2, .slice B m d] 49
  rw [World.size_alloc] at K0
  have F0 := K0.facts
  simp only [factsL, cellsF, Nat.reduceAdd, zf, zl] at F0
  clear hD hE
  by_cases hi : nm = nm2
  · subst hi
    have h1 : (nm.toList == nm.toList) = true := by simp
    have h1' : (nm.toList != nm.toList) = false := by simp
    by_cases hnm : n = m
    · subst hnm
      have hb : ((n : Int) != (n : Int)) = false := by simp
      go_enter Tryz.func59, Tryz.ntmps59
      go_wp2_with fail
      obtain ⟨g2, hg2⟩ : ∃ g, g = w.heap.size := ⟨_, rfl⟩
      obtain ⟨g3, hg3⟩ : ∃ g, g = g2 + 1 := ⟨_, rfl⟩
      rw [← hg2, ← hg3] at K0 ⊢
      clear F0
      generalize (w.alloc _).alloc _ = w1 at K0 ⊢
      have HG := hid hg2
      clear hg2 hg3
      go_loopw [23] (fun iv wr => ∃ (k : Nat), k ≤ n ∧ iv = .int .i64 k ∧ Hid (cs.take k = ds.take k) ∧ Hold None_ none w wr [.cst g3 49 #[.string nm, .slice B n d], .cst g2 49 #[.string nm, .slice A n c], .ro (ColsIn A n cs), .ro (ColsIn B n ds)]) (fun iv _ => n - (intOf iv).toNat)
      case atStart => exact ⟨0, by omega, rfl, hid (by simp), K0⟩
      case round =>
        clear K0
        obtain ⟨k, hk, rfl, HTK, H⟩ := hrel
        have F := H.facts
        simp only [factsL, cellsF, Nat.reduceAdd, zf, zl] at F
        by_cases hlt : k < n
        · have hd : decide ((k : Int) < (n : Int)) = true := by simp; omega
          have i0 : (0 : Int) ≤ (k : Int) := by omega
          have i1 : (k : Int) < (n : Int) := by omega
          obtain ⟨x, hx⟩ := get_of HL.out hlt
          obtain ⟨y, hy⟩ := get_of HK.out hlt
          obtain ⟨g, o, rfl, hbx, x0, x1, x2, x3⟩ := (RdC.of_sl (H.ro 2 rfl).now).at_ hx
          obtain ⟨g', o', rfl, hby, y0, y1, y2, y3⟩ := (RdC.of_sl (H.ro 3 rfl).now).at_ hy
          have HX := hid hx; have HY := hid hy; clear hx hy
          by_cases h0 : x.name = y.name
          · have e0 : (x.name.toList == y.name.toList) = true := by simp [h0]
            by_cases h1 : x.ty = y.ty
            · have e1 : (x.ty == y.ty) = true := by simp [h1]
              by_cases h2 : x.nn = y.nn
              · have e2 : (x.nn == y.nn) = true := by simp [h2]
                by_cases h3 : x.key = y.key
                · have e3 : (x.key == y.key) = true := by simp [h3]
                  have HXY := hid (show x = y by cases x; cases y; simp_all)
                  clear h0 h1 h2 h3
                  go_wp2_with fail
                  go_quiet (fail)
                  have HZ := H.drewN nq
                  go_wp2_with fail
                  go_roundw
                  case rel => exact ⟨k + 1, by omega, by go_num, hid (takeEq_succ HX.out HY.out HTK.out HXY.out), HZ⟩
                  case measure => simp [intOf]; omega
                · have e3 : (x.key == y.key) = false := by simpa using h3
                  have HN := hid (show decide (nm = nm ∧ cs = ds) = false from by rw [decide_eq_false_iff_not]; rintro ⟨_, h⟩; exact take_ne HX.out HY.out (by intro h; exact h3 (by rw [h])) h)
                  clear h0 h1 h2 h3
                  go_wp2_with fail
                  go_quiet (fail)
                  have HZ := H.drewN nq
                  go_wp2_with fail
                  go_ret
                  exact ⟨by rw [HN.out] <;> rfl, HZ.below⟩
              · have e2 : (x.nn == y.nn) = false := by simpa using h2
                have HN := hid (show decide (nm = nm ∧ cs = ds) = false from by rw [decide_eq_false_iff_not]; rintro ⟨_, h⟩; exact take_ne HX.out HY.out (by intro h; exact h2 (by rw [h])) h)
                clear h0 h1 h2
                go_wp2_with fail
                go_quiet (fail)
                have HZ := H.drewN nq
                go_wp2_with fail
                go_ret
                exact ⟨by rw [HN.out] <;> rfl, HZ.below⟩
            · have e1 : (x.ty == y.ty) = false := by simpa using h1
              have HN := hid (show decide (nm = nm ∧ cs = ds) = false from by rw [decide_eq_false_iff_not]; rintro ⟨_, h⟩; exact take_ne HX.out HY.out (by intro h; exact h1 (by rw [h])) h)
              clear h0 h1
              go_wp2_with fail
              go_quiet (fail)
              have HZ := H.drewN nq
              go_wp2_with fail
              go_ret
              exact ⟨by rw [HN.out] <;> rfl, HZ.below⟩
          · have e0 : (x.name.toList == y.name.toList) = false := by rw [beq_eq_false_iff_ne]; exact fun h => h0 (bytesEq h)
            have HN := hid (show decide (nm = nm ∧ cs = ds) = false from by rw [decide_eq_false_iff_not]; rintro ⟨_, h⟩; exact take_ne HX.out HY.out (by intro h; exact h0 (by rw [h])) h)
            clear h0
            go_wp2_with fail
            go_quiet (fail)
            have HZ := H.drewN nq
            go_wp2_with fail
            go_ret
            exact ⟨by rw [HN.out] <;> rfl, HZ.below⟩
        · obtain rfl : n = k := by omega
          have hd : decide ((n : Int) < (n : Int)) = false := by simp
          have HE := hid (show cs = ds from by
            have h := HTK.out
            rw [List.take_of_length_le (by rw [HL.out]; exact Nat.le_refl _), List.take_of_length_le (by rw [HK.out]; exact Nat.le_refl _)] at h
            simp [h])
          go_wp2_with fail
          go_ret
          exact ⟨congrArg (fun b => Ending.returned (Value.bool b)) (a₁ := true) (by simp [HE.out]), H.below⟩
    · have hb : ((n : Int) != (m : Int)) = true := by simp; omega
      have HB := hid (show ¬ cs = ds from by rintro rfl; have := HL.out; have := HK.out; omega)
      go_enter Tryz.func59, Tryz.ntmps59
      go_wp2_with fail
      go_ret
      exact ⟨congrArg (fun b => Ending.returned (Value.bool b)) (a₁ := false) (by simp [HB.out]), K0.below⟩
  · have h1 : (nm.toList == nm2.toList) = false := by rw [beq_eq_false_iff_ne]; exact fun h => hi (bytesEq h)
    have h1' : (nm.toList != nm2.toList) = true := by rw [bne_iff_ne]; exact fun h => hi (bytesEq h)
    have HB := hid (show decide (nm = nm2 ∧ cs = ds) = false by simp [hi])
    clear hi
    go_enter Tryz.func59, Tryz.ntmps59
    go_wp2_with fail
    go_ret
    exact ⟨by rw [HB.out] <;> rfl, K0.below⟩
end Go.Proofs.YtedogodccblfeaaGreatDoor

namespace Go.Proofs.YtedogodccblfeaaGreatDoor
open Go.RowKit
set_option linter.unusedVariables false
set_option linter.unusedSimpArgs false

set_option maxHeartbeats 8000000 in
set_option maxRecDepth 100000 in
theorem rbetw_any (M : Nat → Prop) (w : World) (hM : ∀ b, M b → b < w.heap.size) (va vb : Value) (a b : Tb) (hTa : TbAt w M va a) (hTb : TbAt w M vb b) (hsa : a.nm.size ≤ maxLen) (hca : ∀ x ∈ a.cs, x.name.size ≤ maxLen) (hra : a.rs.length ≤ 4398046511104) (hsb : b.nm.size ≤ maxLen) (hcb : ∀ x ∈ b.cs, x.name.size ≤ maxLen) (hrb : b.rs.length ≤ 4398046511104) :
    Calls Tryz.prog 17 #[va, vb] w fun e w' => BetRet w M (betweenC a b) e w' := by
  obtain ⟨aA, an, ac, aB, am, ad, la, rfl, a1, a2, a3, a4, a5, a6, a7, a8⟩ := hTa
  obtain ⟨bA, bn, bc, bB, bm, bd, lb, rfl, b1, b2, b3, b4, b5, b6, b7, b8⟩ := hTb
  have HAL := hid (show la.length = am from a6.now.len)
  have HBL := hid (show lb.length = bm from b6.now.len)
  have HAR := hid a8
  have HBR := hid b8
  have HAO := hid a7
  have HBO := hid b7
  have HAE := hid a6.now
  have HBE := hid b6.now
  have HAC := hid (show a.cs.length = an from cols_n a5.now)
  have ham : am ≤ 4398046511104 := by have := HAL.out; have h := congrArg List.length a8; rw [List.length_map] at h; omega
  have hbm : bm ≤ 4398046511104 := by have := HBL.out; have h := congrArg List.length b8; rw [List.length_map] at h; omega
  have K0 := (((((((Hold.start M w hM).add (b6.less (by simp [Mut]))).add (b5.less (by simp [Mut, Hp.foot]))).add (a6.less (by simp [Mut, Hp.foot]))).add (a5.less (by simp [Mut, Hp.foot]))).alloc_cst #[.string a.nm, .slice aA an ac, .int .i64 a.nx, .slice aB am ad] 58).alloc_cst #[.string b.nm, .slice bA bn bc, .int .i64 b.nx, .slice bB bm bd] 58).alloc #[.string ⟨#[]⟩, .slice none 0 0, .slice none 0 0, .slice none 0 0] 44
  simp only [World.size_alloc] at K0
  have F0 := K0.facts
  simp only [factsL, cellsF, Nat.reduceAdd, zf, zl] at F0
  clear a5 a6 a7 a8 b5 b6 b7 b8
  go_enter Tryz.func17, Tryz.ntmps17
  go_wp2_with fail
  obtain ⟨g2, hg2⟩ : ∃ g, g = w.heap.size := ⟨_, rfl⟩
  obtain ⟨g3, hg3⟩ : ∃ g, g = g2 + 1 := ⟨_, rfl⟩
  obtain ⟨g4, hg4⟩ : ∃ g, g = g3 + 1 := ⟨_, rfl⟩
  rw [← hg2, ← hg3, ← hg4] at K0 ⊢
  clear F0
  generalize ((w.alloc _).alloc _).alloc _ = w1 at K0 ⊢
  have HGX := hid hg2
  clear hg2 hg3 hg4
  have hv := rtvalid_any _ _ K0.mutLt a.nm aA an ac a.cs a.nx aB am ad la (K0.ro 3 rfl) (K0.ro 4 rfl) (by omega) (by omega) HAO.out hsa hca
  rw [HAR.out] at hv
  refine hv.mono ?_
  clear hv
  rintro e w2 ⟨rfl, b1_⟩
  have K1 := K0.call b1_
  clear K0 b1_
  have F1 := K1.facts
  simp only [factsL, cellsF, Nat.reduceAdd, zf, zl] at F1
  cases hva : tabB a.nm a.cs a.nx a.rs
  · have HN := hid (betC_a (b := b) hva)
    clear hva
    have KN := (((K1.store 0 rfl 0 (.string ⟨#[]⟩)).store 0 rfl 1 (.slice none 0 0)).store 0 rfl 2 (.slice none 0 0)).store 0 rfl 3 (.slice none 0 0)
    go_wp2_with fail
    exact bodyPost_ret (v := .tuple #[.agg #[.string ⟨#[]⟩, .slice none 0 0, .slice none 0 0, .slice none 0 0], .bool false]) (by simp [results, Tryz.results17, go_sem, F1]) rfl ⟨_, by rw [HN.out], by rw [HN.out]; exact dlAt_zero, KN.below⟩
  have HVA := hid hva
  clear hva
  go_wp2_with fail
  have hv := rtvalid_any _ _ K1.mutLt b.nm bA bn bc b.cs b.nx bB bm bd lb (K1.ro 5 rfl) (K1.ro 6 rfl) (by omega) (by omega) HBO.out hsb hcb
  rw [HBR.out] at hv
  refine hv.mono ?_
  clear hv
  rintro e w3 ⟨rfl, b1_⟩
  have K2 := K1.call b1_
  clear K1 b1_ F1
  have F2 := K2.facts
  simp only [factsL, cellsF, Nat.reduceAdd, zf, zl] at F2
  cases hvb : tabB b.nm b.cs b.nx b.rs
  · have HN := hid (betC_b (a := a) hvb)
    clear hvb
    have KN := (((K2.store 0 rfl 0 (.string ⟨#[]⟩)).store 0 rfl 1 (.slice none 0 0)).store 0 rfl 2 (.slice none 0 0)).store 0 rfl 3 (.slice none 0 0)
    go_wp2_with fail
    exact bodyPost_ret (v := .tuple #[.agg #[.string ⟨#[]⟩, .slice none 0 0, .slice none 0 0, .slice none 0 0], .bool false]) (by simp [results, Tryz.results17, go_sem, F2]) rfl ⟨_, by rw [HN.out], by rw [HN.out]; exact dlAt_zero, KN.below⟩
  have HVB := hid hvb
  clear hvb hsa hca hsb hcb
  have han6 : an ≤ 6 := by have := tabB_cols HVA.out; have := HAC.out; omega
  have ham1 : am ≤ 100 := by have := (tabB_rows HVA.out).1; have h := congrArg List.length HAR.out; rw [List.length_map] at h; have := HAL.out; omega
  have hbm1 : bm ≤ 100 := by have := (tabB_rows HVB.out).1; have h := congrArg List.length HBR.out; rw [List.length_map] at h; have := HBL.out; omega
  have HSA := hid (rw_short HAE.out (by rw [HAR.out]; exact HVA.out))
  have HSB := hid (rw_short HBE.out (by rw [HBR.out]; exact HVB.out))
  clear ham hbm hra hrb
  go_wp2_with fail
  refine (rsameschema_any _ a.nm aA an ac a.cs b.nm bA bn bc b.cs (K2.ro 3 rfl).now (K2.ro 5 rfl).now (by omega)).mono ?_
  rintro e w4 ⟨rfl, b1_⟩
  have K3 := K2.call b1_
  clear K2 b1_ F2
  have F3 := K3.facts
  simp only [factsL, cellsF, Nat.reduceAdd, zf, zl] at F3
  cases hss : decide (a.nm = b.nm ∧ a.cs = b.cs)
  · have HN := hid (betC_s hss)
    clear hss
    have KN := (((K3.store 0 rfl 0 (.string ⟨#[]⟩)).store 0 rfl 1 (.slice none 0 0)).store 0 rfl 2 (.slice none 0 0)).store 0 rfl 3 (.slice none 0 0)
    go_wp2_with fail
    exact bodyPost_ret (v := .tuple #[.agg #[.string ⟨#[]⟩, .slice none 0 0, .slice none 0 0, .slice none 0 0], .bool false]) (by simp [results, Tryz.results17, go_sem, F3]) rfl ⟨_, by rw [HN.out], by rw [HN.out]; exact dlAt_zero, KN.below⟩
  have HEQ := hid (of_decide_eq_true hss)
  clear hss
  by_cases hnx : b.nx < a.nx
  · have hd : decide (b.nx < a.nx) = true := by simpa using hnx
    have HN := hid (betC_n hnx)
    clear hnx
    have KN := (((K3.store 0 rfl 0 (.string ⟨#[]⟩)).store 0 rfl 1 (.slice none 0 0)).store 0 rfl 2 (.slice none 0 0)).store 0 rfl 3 (.slice none 0 0)
    go_wp2_with fail
    exact bodyPost_ret (v := .tuple #[.agg #[.string ⟨#[]⟩, .slice none 0 0, .slice none 0 0, .slice none 0 0], .bool false]) (by simp [results, Tryz.results17, go_sem, F3]) rfl ⟨_, by rw [HN.out], by rw [HN.out]; exact dlAt_zero, KN.below⟩
  have hd : decide (b.nx < a.nx) = false := by simpa using hnx
  have HST := hid (RSt.zero HVA.out HVB.out HEQ.out (show a.nx ≤ b.nx by omega))
  clear hnx
  have K4 := K3.alloc #[.string a.nm, .slice none 0 0, .slice none 0 0, .slice none 0 0] 44
  go_wp2_with fail
  obtain ⟨g6, hg6⟩ : ∃ g, g = w4.heap.size := ⟨_, rfl⟩
  rw [← hg6] at K4 ⊢
  have HG6 := hid hg6
  clear hg6 hd F3 K3
  generalize World.alloc w4 _ = w5 at K4 ⊢
  have K6 := ((((((K4.add (show Ro _ _ (PrVals []) from fun _ _ _ r hr => nomatch hr)).add (ro_vals_nil _ _)).add (ro_vals_nil _ _)).nil 110 3).nil 119 2).nil 119 2)
  clear K4
  go_loopw [46] (fun iv wr => ∃ (j ni ci nu cu : Nat) (I U : Option Addr) (li : List Rw) (lu : List Pr), j ≤ bm ∧ iv = .int .i64 j ∧ ni ≤ j ∧ nu ≤ j ∧ Hid (RSt a b j 0 li [] lu) ∧ Hold M none w wr [.own 119 2 (.slice I ni ci) ni (rwCells li), .own 119 2 (.slice none 0 0) 0 (rwCells []), .own 110 3 (.slice U nu cu) nu (prCells lu), .ro (ValsIn li), .ro (ValsIn []), .ro (PrVals lu), .blk g6 44 #[.string a.nm, .slice I ni ci, .slice none 0 0, .slice U nu cu], .blk g4 44 #[.string ⟨#[]⟩, .slice none 0 0, .slice none 0 0, .slice none 0 0], .cst g3 58 #[.string b.nm, .slice bA bn bc, .int .i64 b.nx, .slice bB bm bd], .cst g2 58 #[.string a.nm, .slice aA an ac, .int .i64 a.nx, .slice aB am ad], .ro (ColsIn aA an a.cs), .ro (RwsIn aB am la), .ro (ColsIn bA bn b.cs), .ro (RwsIn bB bm lb)]) (fun iv _ => bm - (intOf iv).toNat)
  case atStart => exact ⟨0, 0, 0, 0, 0, none, none, [], [], by omega, rfl, by omega, by omega, HST, K6⟩
  case round =>
    clear K6 HST
    obtain ⟨j, ni, ci, nu, cu, I, U, li, lu, hj, rfl, hni, hnu, HBS, H⟩ := hrel
    by_cases hlt : j < bm
    · have hd : decide ((j : Int) < (bm : Int)) = true := by simp; omega
      have j0 : (0 : Int) ≤ (j : Int) := by omega
      have j1 : (j : Int) < (bm : Int) := by omega
      obtain ⟨r, hr⟩ := get_of HBL.out hlt
      obtain ⟨bb, bo, rfl, hbb, c0, c1, _⟩ := (H.ro 13 rfl).now.at_ hr
      have HRR := hid (show b.rs[j]? = some r.row by rw [← HBR.out, List.getElem?_map, hr]; rfl)
      have HRO := hid (HBO.out r (List.mem_of_getElem? hr))
      have hrn6 := HSB.out r (List.mem_of_getElem? hr)
      have hxr : Ro wr _ (VlsIn r.A r.n r.vs) := (H.ro 13 rfl).imp fun w2 h2 => h2.2 r (List.mem_of_getElem? hr)
      obtain ⟨rid, rA, rn, rc, rvs⟩ := r
      dsimp only at *
      clear hr
      have K1 := (H.add hxr).alloc_cst #[.int .i64 rid, .slice rA rn rc] 119
      clear H hxr
      obtain ⟨g8, hg8⟩ : ∃ g, g = wr.heap.size := ⟨_, rfl⟩
      rw [← hg8] at K1
      have F1 := K1.facts
      simp only [factsL, cellsF, Nat.reduceAdd, zf, zl] at F1
      go_wp2_with fail
      rw [← hg8]
      have HG8 := hid hg8
      clear hg8 c0 c1
      have hg := rtget_any _ _ K1.mutLt (.string a.nm) (.slice aA an ac) (.int .i64 a.nx) aB am ad la rid (K1.ro 13 rfl) (by omega) (fun r hr => by have := HSA.out r hr; omega)
      rw [HAR.out] at hg
      refine hg.mono ?_
      clear hg
      rintro e w6 ⟨Ag, ng, cg, rfl, hng, hgc1, hgc2, rg, bg⟩
      have K2 := K1.call bg
      clear K1 bg F1
      have F2 := K2.facts
      simp only [factsL, cellsF, Nat.reduceAdd, zf, zl] at F2
      cases hgt : getR a.rs rid with
      | none =>
        have HGG := hid hgt
        simp only [Option.isSome_none]
        clear rg hng hgc1 hgc2 hgt
        by_cases hrn : rid < a.nx
        · have hd3 : decide (rid < a.nx) = true := by simpa using hrn
          have HN := hid (HBS.out.bad HRR.out HGG.out hrn)
          clear hrn
          have KN := (((K2.store 9 rfl 0 (.string ⟨#[]⟩)).store 9 rfl 1 (.slice none 0 0)).store 9 rfl 2 (.slice none 0 0)).store 9 rfl 3 (.slice none 0 0)
          go_wp2_with fail
          exact bodyPost_ret (v := .tuple #[.agg #[.string ⟨#[]⟩, .slice none 0 0, .slice none 0 0, .slice none 0 0], .bool false]) (by simp [results, Tryz.results17, go_sem, F2]) rfl ⟨_, by rw [HN.out], by rw [HN.out]; exact dlAt_zero, KN.below⟩
        · have hd3 : decide (rid < a.nx) = false := by simpa using hrn
          have HRN := hid (show a.nx ≤ rid by omega)
          clear hrn
          obtain ⟨KL, hKL, KN⟩ := K2.name
          have HF : Hid (∀ wv, Hold M none w wv KL → (wv.cell? ⟨g6, 1, none⟩ = some (.slice I ni ci) ∧ g6 < wv.heap.size) ∧ wv.cell? ⟨g8, 0, none⟩ = some (.int .i64 rid) ∧ wv.cell? ⟨g8, 1, none⟩ = some (.slice rA rn rc) ∧ g8 < wv.heap.size) := hid fun wv HC => by
            rw [hKL] at HC
            have y1 := HC.blk_ 8 rfl
            have y2 := HC.cst_ 0 rfl
            exact ⟨⟨cell_of_row _ _ 1 _ _ _ y1, Blk.lt y1⟩, cell_of_row _ _ 0 _ _ _ y2, cell_of_row _ _ 1 _ _ _ y2, Blk.lt y2⟩
          have HRX : Hid (∀ wv, Hold M none w wv KL → Ro wv (Mut M KL) (VlsIn rA rn rvs)) := hid fun wv HC => by
            rw [hKL] at HC ⊢
            exact HC.ro 1 rfl
          have HKL := hid hKL
          clear hKL K2
          go_wp2_with fail
          refine wp_region_any (by kernel_rfl) ?_
          refine wpAny_hold 5 119 (KL) (spL [(72, RowSlot (Mut M KL) rid rvs), (73, RBoxSlot (Mut M KL) rid rvs)]) (by kernel_rfl) (by kernel_rfl) (by kernel_rfl) rfl ?_ (KN.drew) ?_
          · exact stays_cons rowSlot_mono (stays_cons rboxSlot_mono (stays_nil _))
          simp only [zd, Act.put, List.getElem_toArray, List.getElem_cons_zero, List.getElem_cons_succ, zl]
          refine dw_val rfl rfl rfl ?_; apply Exists.intro; refine ⟨fun wv HC => ?_, ?_⟩
          ·  go_simp <;> rfl
          simp only [Act.put, zl]
          refine dw_val rfl rfl rfl ?_; apply Exists.intro; refine ⟨fun wv HC => ?_, ?_⟩
          · obtain ⟨⟨f0, f1⟩, f2, f3, f4⟩ := HF.out _ HC; go_simp <;> rfl
          simp only [Act.put, zl]
          refine dw_val rfl rfl rfl ?_; apply Exists.intro; refine ⟨fun wv HC => ?_, ?_⟩
          · obtain ⟨⟨f0, f1⟩, f2, f3, f4⟩ := HF.out _ HC; go_simp <;> rfl
          simp only [Act.put, zl]
          refine dw_callR 72 (RowSlot (Mut M KL) rid rvs) (f := 61) (args := #[.agg #[.int .i64 rid, .slice rA rn rc]]) rfl rfl rfl rfl (fun wv => ?_) (fun wv HC hrm hD => ?_) ?_
          · go_simp <;> rfl
          · refine (rcopyrow_any _ wv HC.mutLt rid rA rn rc rvs (HRX.out _ HC) (by omega)).mono ?_
            rintro e w5 ⟨A5, n5, c5, rfl, h50, h51, h52, h53, b5⟩
            exact ⟨_, rfl, ⟨A5, n5, c5, rfl, h50, h51, h52, h53⟩, HC.call b5, RM.below b5⟩
          rintro x_ wx HCx ⟨A5, n5, c5, rfl, -, -, -, -⟩
          clear HCx
          simp only [Act.put, zl]
          refine dw_new #[.int .i64 rid, .slice A5 n5 c5] 119 73 (RBoxSlot (Mut M KL) rid rvs) (fun g => .slice (some ⟨g, 0, none⟩) 1 1) rfl rfl rfl rfl (fun wv => ?_) (fun wv HC _hrm hD hro => ?_) ?_
          · go_simp <;> rfl
          · have hsl : RowSlot (Mut M KL) rid rvs (.agg #[.int .i64 rid, .slice A5 n5 c5]) wv := deps_at hD 3 rfl (by kernel_rfl) rfl rfl
            obtain ⟨A6, n6, c6, e6, h1, h2, h3, h4⟩ := hsl
            obtain ⟨rfl, rfl, rfl⟩ : A5 = A6 ∧ n5 = n6 ∧ c5 = c6 := by
              injection e6 with e6
              simp at e6
              exact e6
            exact ⟨_, A5, n5, c5, rfl, h1, h2, h3, h4.step (by simp) (fun b hb _ => Below.heap_alloc wv _ b hb) (fun _ _ h => h), ro_block (hro _ HC.mutLt) rfl⟩
          rintro gn wg HCg hsl
          simp only [Act.put, zl]
          clear hsl HCg
          refine rel_nil ?_
          rintro wx2 HX
          rintro _hrm HGW
          have hb2 : RBoxSlot (Mut M KL) rid rvs (.slice (some ⟨gn, 0, none⟩) 1 1) wx2 := (GW_on (d := 73) rfl).1 (HGW 4 _ rfl (by omega))
          clear HGW _hrm
          obtain ⟨gq, A6, n6, c6, e6, k0_, k1_, k2_, k3_, k4_⟩ := hb2
          obtain rfl : gn = gq := by injection e6 with e6; injection e6 with e6; injection e6
          clear e6
          rw [HKL.out] at HX k3_
          have k5 := hid k4_.now
          have HK0 := hid (And.intro k0_ (And.intro k1_ k2_))
          clear k4_ k0_ k1_ k2_ HF HRX KN
          have HRS := hid (show rwCells li ++ [.int .i64 rid, .slice A6 n6 c6] = rwCells (li ++ [⟨rid, A6, n6, c6, rvs⟩]) from rwCells_snoc1 _ _ _ _ _ _)
          have KA := HX.add k3_
          clear HX k3_
          have FKA := KA.facts
          simp only [factsL, cellsF, Nat.reduceAdd, zf, zl] at FKA
          go_wp2_with (at_builtin; go_must (refine wpList_appAllH KA 3 rfl Tryz.elRw k5.out rfl (.tmp 70) (.tmp 73) rfl rfl rfl (by intro z hz; simp at hz; rcases hz with rfl | rfl <;> rfl) (by omega) (by omega) ?_); intro C' cap' w6 hc6 hm6 KB; rw [HRS.out] at KB; simp only [List.set_cons_zero, List.set_cons_succ] at KB; (have F3 := KB.facts); simp only [factsL, cellsF, Nat.reduceAdd, zf, zl] at F3)
          have KD := KB.store 9 rfl 1 (.slice C' (ni + 1) cap')
          have KE := (KD.swapRo 6 rfl (vals_snoc (r := ⟨rid, A6, n6, c6, rvs⟩) (KD.ro 6 rfl) (KD.ro 0 rfl))).drop (List.sublist_cons_self _ _)
          clear KB KD FKA k5
          have HBN := hid (HBS.out.ins_ HRR.out HGG.out HRN.out (y := ⟨rid, A6, n6, c6, rvs⟩) rfl ⟨HRO.out.id, HK0.out.2.1, HK0.out.2.2, HRO.out.vs⟩)
          have KZ := KE.drop (List.Sublist.cons _ (List.sublist_cons_self _ _))
          go_roundw
          case rel => exact ⟨j + 1, ni + 1, cap', nu, cu, C', U, _, lu, by omega, by first | rfl | go_num, by omega, by omega, HBN, KZ⟩
          case measure => simp [intOf]; omega
      | some o =>
        rw [hgt] at rg hng
        simp only [Option.getD_some] at rg hng
        have HGG := hid hgt
        have HGC := hid (And.intro hng (And.intro hgc1 hgc2))
        have HGO := hid (show ∀ v ∈ o, v.ok from fun v hv => by
          have h1 := getR_out hgt
          rw [← HAR.out] at h1
          obtain ⟨z, hz, hzr⟩ := List.mem_map.1 h1
          have h2 : z.vs = o := congrArg Prod.snd hzr
          exact (HAO.out z hz).vs v (by rw [h2]; exact hv))
        simp only [Option.isSome_some]
        have hng6 : ng ≤ 9223372036854775807 := by omega
        clear hgt hng hgc1 hgc2
        have K3 := K2.add rg
        clear K2 rg F2
        have F3 := K3.facts
        simp only [factsL, cellsF, Nat.reduceAdd, zf, zl] at F3
        go_wp2_with fail
        refine (rcmprows_any _ _ K3.mutLt Ag ng cg o rA rn rc rvs (K3.ro 0 rfl) (K3.ro 2 rfl) (by omega) (by omega)).mono ?_
        rintro e w7 ⟨⟨r0, rfl, hr0⟩, b7⟩
        have K6 := K3.call b7
        clear K3 b7 F3
        have F6 := K6.facts
        simp only [factsL, cellsF, Nat.reduceAdd, zf, zl] at F6
        by_cases hov : o = rvs
        · obtain rfl : r0 = 0 := hr0.2 hov
          have HBN := hid (HBS.out.same HRR.out HGG.out hov)
          clear hr0 hov
          have KZ := K6.drop (List.Sublist.cons _ (List.Sublist.cons _ (List.sublist_cons_self _ _)))
          go_wp2_with fail
          go_roundw
          case rel => exact ⟨j + 1, ni, ci, nu, cu, I, U, li, lu, by omega, by first | rfl | go_num, by omega, by omega, HBN, KZ⟩
          case measure => simp [intOf]; omega
        · have hrz : (r0 != 0) = true := by simpa using fun h => hov (hr0.1 h)
          have HNE := hid hov
          clear hr0 hov
          obtain ⟨KL, hKL, KN⟩ := K6.name
          have HF : Hid (∀ wv, Hold M none w wv KL → (wv.cell? ⟨g6, 3, none⟩ = some (.slice U nu cu) ∧ g6 < wv.heap.size) ∧ wv.cell? ⟨g8, 0, none⟩ = some (.int .i64 rid) ∧ wv.cell? ⟨g8, 1, none⟩ = some (.slice rA rn rc) ∧ g8 < wv.heap.size) := hid fun wv HC => by
            rw [hKL] at HC
            have y1 := HC.blk_ 9 rfl
            have y2 := HC.cst_ 1 rfl
            exact ⟨⟨cell_of_row _ _ 3 _ _ _ y1, Blk.lt y1⟩, cell_of_row _ _ 0 _ _ _ y2, cell_of_row _ _ 1 _ _ _ y2, Blk.lt y2⟩
          have HRX : Hid (∀ wv, Hold M none w wv KL → Ro wv (Mut M KL) (VlsIn Ag ng o) ∧ Ro wv (Mut M KL) (VlsIn rA rn rvs)) := hid fun wv HC => by
            rw [hKL] at HC ⊢
            exact ⟨HC.ro 0 rfl, HC.ro 2 rfl⟩
          have HKL := hid hKL
          clear hKL K6
          go_wp2_with fail
          refine wp_region_any (by kernel_rfl) ?_
          refine wpAny_hold 10 119 (KL) (spL [(88, VlsSlot (Mut M KL) rvs), (89, PrSlot (Mut M KL) (rid, o, rvs)), (90, PrsSlot (Mut M KL) [(rid, o, rvs)])]) (by kernel_rfl) (by kernel_rfl) (by kernel_rfl) rfl ?_ (KN.drew) ?_
          · exact stays_cons vlsSlot_mono (stays_cons prSlot_mono (stays_cons prsSlot_mono (stays_nil _)))
          simp only [zd, Act.put, List.getElem_toArray, List.getElem_cons_zero, List.getElem_cons_succ, zl]
          refine dw_val rfl rfl rfl ?_; apply Exists.intro; refine ⟨fun wv HC => ?_, ?_⟩
          ·  go_simp <;> rfl
          simp only [Act.put, zl]
          refine dw_val rfl rfl rfl ?_; apply Exists.intro; refine ⟨fun wv HC => ?_, ?_⟩
          · obtain ⟨⟨f0, f1⟩, f2, f3, f4⟩ := HF.out _ HC; go_simp <;> rfl
          simp only [Act.put, zl]
          refine dw_val rfl rfl rfl ?_; apply Exists.intro; refine ⟨fun wv HC => ?_, ?_⟩
          ·  go_simp <;> rfl
          simp only [Act.put, zl]
          refine dw_val rfl rfl rfl ?_; apply Exists.intro; refine ⟨fun wv HC => ?_, ?_⟩
          · obtain ⟨⟨f0, f1⟩, f2, f3, f4⟩ := HF.out _ HC; go_simp <;> rfl
          simp only [Act.put, zl]
          refine dw_val rfl rfl rfl ?_; apply Exists.intro; refine ⟨fun wv HC => ?_, ?_⟩
          ·  go_simp <;> rfl
          simp only [Act.put, zl]
          refine dw_val rfl rfl rfl ?_; apply Exists.intro; refine ⟨fun wv HC => ?_, ?_⟩
          ·  go_simp <;> rfl
          simp only [Act.put, zl]
          refine dw_val rfl rfl rfl ?_; apply Exists.intro; refine ⟨fun wv HC => ?_, ?_⟩
          · obtain ⟨⟨f0, f1⟩, f2, f3, f4⟩ := HF.out _ HC; go_simp <;> rfl
          simp only [Act.put, zl]
          refine dw_callR 88 (VlsSlot (Mut M KL) rvs) (f := 56) (args := #[.slice rA rn rc]) rfl rfl rfl rfl (fun wv => ?_) (fun wv HC hrm hD => ?_) ?_
          · go_simp <;> rfl
          · refine (copyVls_any _ wv HC.mutLt rA rn rc rvs (HRX.out _ HC).2 (by omega)).mono ?_
            rintro e w5 ⟨A5, n5, c5, rfl, h50, h51, h52, h53, b5⟩
            exact ⟨_, rfl, ⟨A5, n5, c5, rfl, h50, h51, h52, h53⟩, HC.call b5, RM.below b5⟩
          rintro x_ wx HCx ⟨A94, n94, c94, rfl, -, -, -, -⟩
          clear HCx
          simp only [Act.put, zl]
          refine dw_valC 89 (PrSlot (Mut M KL) (rid, o, rvs)) rfl rfl rfl rfl (.agg #[.int .i64 rid, .slice Ag ng cg, .slice A94 n94 c94]) (fun wv HC => ?_) (fun wv HC hD => ?_) ?_
          · go_simp <;> rfl
          · have hb : VlsSlot (Mut M KL) rvs (.slice A94 n94 c94) wv := deps_at hD 7 rfl (by kernel_rfl) rfl rfl
            exact prSlot_of HRO.out.id HGO.out HRO.out.vs ⟨Ag, ng, cg, rfl, HGC.out.1, HGC.out.2.1, HGC.out.2.2, (HRX.out _ HC).1⟩ hb
          simp only [Act.put, zl]
          refine dw_new #[.int .i64 rid, .slice Ag ng cg, .slice A94 n94 c94] 110 90 (PrsSlot (Mut M KL) [(rid, o, rvs)]) (fun g => .slice (some ⟨g, 0, none⟩) 1 1) rfl rfl rfl rfl (fun wv => ?_) (fun wv HC _hrm hD hro => ?_) ?_
          · go_simp <;> rfl
          · have hrr := RM.alloc (Mut M KL) wv (.cells #[.int .i64 rid, .slice Ag ng cg, .slice A94 n94 c94] 110)
            have h0 : PrSlot (Mut M KL) (rid, o, rvs) (.agg #[.int .i64 rid, .slice Ag ng cg, .slice A94 n94 c94]) wv := deps_at hD 8 rfl (by kernel_rfl) rfl rfl
            replace h0 := prSlot_mono _ _ _ hrr h0
            exact prsSlot_one (hro _ HC.mutLt) (fun i j k e1 => Value.agg.inj e1) h0
          rintro g96 wg HCg hsl
          simp only [Act.put, zl]
          clear hsl HCg
          refine rel_nil ?_
          rintro wx5 HX5
          rintro _hrm HGW
          have hb2 : PrsSlot (Mut M KL) [(rid, o, rvs)] (.slice (some ⟨g96, 0, none⟩) 1 1) wx5 := (GW_on (d := 90) rfl).1 (HGW 9 _ rfl (by omega))
          clear HGW _hrm
          obtain ⟨Aq, nq, cq, pq, heq, -, -, hpm, hpok, hpr⟩ := hb2
          obtain ⟨rfl, rfl, rfl⟩ : some ⟨g96, 0, none⟩ = Aq ∧ 1 = nq ∧ 1 = cq := by injection heq with h1 h2 h3; exact ⟨h1, h2, h3⟩
          clear heq
          obtain ⟨pr, rfl, hpu⟩ : ∃ pr, pq = [pr] ∧ pr.upd = (rid, o, rvs) := by
            obtain ⟨pr, h1, h2⟩ := List.map_eq_singleton_iff.1 hpm
            exact ⟨pr, h1, h2⟩
          rw [HKL.out] at HX5 hpr
          have HPE := hid (show prCells lu ++ prCells [pr] = prCells (lu ++ [pr]) by simp [prCells])
          have KA := HX5.add (hpr.imp fun w h => (h.2 : PrVals [pr] w))
          have k5 := hid ((hpr.imp fun w h => h.1).now)
          have HBN := hid (HBS.out.turn HRR.out HGG.out HNE.out hpu (hpok pr (List.mem_singleton.2 rfl)))
          clear HX5 hpr hpm hpok hpu HF HRX KN
          have FKA := KA.facts
          simp only [factsL, cellsF, Nat.reduceAdd, zf, zl] at FKA
          go_wp2_with (at_builtin; go_must (refine wpList_appAllH KA 6 rfl Tryz.elPr k5.out rfl (.tmp 82) (.tmp 90) rfl rfl rfl (prCells_one _) (by omega) (by omega) ?_); intro C' cap' w6 hc6 hm6 KB; rw [HPE.out] at KB; simp only [List.set_cons_zero, List.set_cons_succ] at KB; (have FB := KB.facts); simp only [factsL, cellsF, Nat.reduceAdd, zf, zl] at FB)
          have KD := KB.store 10 rfl 3 (.slice C' (nu + 1) cap')
          have KZ := (KD.swapRo 9 rfl (prVals_app (KD.ro 9 rfl) (KD.ro 0 rfl))).drop (List.Sublist.cons _ (List.Sublist.cons _ (List.Sublist.cons _ (List.sublist_cons_self _ _))))
          clear KB KD FKA k5
          go_roundw
          case rel => exact ⟨j + 1, ni, ci, nu + 1, cap', I, C', li, _, by omega, by first | rfl | go_num, by omega, by omega, HBN, KZ⟩
          case measure => simp [intOf]; omega
    · obtain rfl : j = bm := by omega
      have hd : decide ((j : Int) < (j : Int)) = false := by simp
      have HBJ := hid (show b.rs.length ≤ j by rw [← HBR.out, List.length_map, HBL.out]; exact Nat.le_refl _)
      clear hlt
      have F1 := H.facts
      simp only [factsL, cellsF, Nat.reduceAdd, zf, zl] at F1
      go_wp2_with fail
      clear F1
      go_loopw [97] (fun iv wr => ∃ (k nd cd : Nat) (D : Option Addr) (ld : List Rw), k ≤ am ∧ iv = .int .i64 k ∧ nd ≤ k ∧ Hid (RSt a b j k li ld lu) ∧ Hold M none w wr [.own 119 2 (.slice I ni ci) ni (rwCells li), .own 119 2 (.slice D nd cd) nd (rwCells ld), .own 110 3 (.slice U nu cu) nu (prCells lu), .ro (ValsIn li), .ro (ValsIn ld), .ro (PrVals lu), .blk g6 44 #[.string a.nm, .slice I ni ci, .slice D nd cd, .slice U nu cu], .blk g4 44 #[.string ⟨#[]⟩, .slice none 0 0, .slice none 0 0, .slice none 0 0], .cst g3 58 #[.string b.nm, .slice bA bn bc, .int .i64 b.nx, .slice bB j bd], .cst g2 58 #[.string a.nm, .slice aA an ac, .int .i64 a.nx, .slice aB am ad], .ro (ColsIn aA an a.cs), .ro (RwsIn aB am la), .ro (ColsIn bA bn b.cs), .ro (RwsIn bB j lb)]) (fun iv _ => am - (intOf iv).toNat)
      case atStart => exact ⟨0, 0, 0, none, [], by omega, rfl, by omega, HBS, H⟩
      case round =>
        clear H HBS
        obtain ⟨k, nd, cd, D, ld, hk, rfl, hnd, HBS, H⟩ := hrel
        by_cases hlt : k < am
        · have hd5 : decide ((k : Int) < (am : Int)) = true := by simp; omega
          have k0 : (0 : Int) ≤ (k : Int) := by omega
          have k1 : (k : Int) < (am : Int) := by omega
          obtain ⟨x, hx⟩ := get_of HAL.out hlt
          have HXX := hid (show a.rs[k]? = some x.row by rw [← HAR.out, List.getElem?_map, hx]; rfl)
          have HXO := hid (HAO.out x (List.mem_of_getElem? hx))
          have hxn6 := HSA.out x (List.mem_of_getElem? hx)
          obtain ⟨bx, ox, rfl, hbx', x0, x1, _⟩ := (H.ro 11 rfl).now.at_ hx
          have hxx : Ro wr _ (VlsIn x.A x.n x.vs) := (H.ro 11 rfl).imp fun w2 h2 => h2.2 x (List.mem_of_getElem? hx)
          clear hx
          obtain ⟨xid, xA, xn, xc, xvs⟩ := x
          dsimp only at *
          have K1 := (H.add hxx).alloc_cst #[.int .i64 xid, .slice xA xn xc] 119
          clear H hxx
          obtain ⟨gx, hgx⟩ : ∃ g, g = wr.heap.size := ⟨_, rfl⟩
          rw [← hgx] at K1
          have F1 := K1.facts
          simp only [factsL, cellsF, Nat.reduceAdd, zf, zl] at F1
          go_wp2_with fail
          rw [← hgx]
          have HGX2 := hid hgx
          clear hgx x0 x1
          have hg := rtget_any _ _ K1.mutLt (.string b.nm) (.slice bA bn bc) (.int .i64 b.nx) bB j bd lb xid (K1.ro 15 rfl) (by omega) (fun r hr => by have := HSB.out r hr; omega)
          rw [HBR.out] at hg
          refine hg.mono ?_
          clear hg
          rintro e w6 ⟨Ag, ng, cg, rfl, -, -, -, -, bg⟩
          have K2 := K1.call bg
          clear K1 bg F1
          have F2 := K2.facts
          simp only [factsL, cellsF, Nat.reduceAdd, zf, zl] at F2
          cases hgt : getR b.rs xid with
          | none =>
            have HGG := hid hgt
            simp only [Option.isSome_none]
            clear hgt
            obtain ⟨KL, hKL, KN⟩ := K2.name
            have HF : Hid (∀ wv, Hold M none w wv KL → (wv.cell? ⟨g6, 2, none⟩ = some (.slice D nd cd) ∧ g6 < wv.heap.size) ∧ wv.cell? ⟨gx, 0, none⟩ = some (.int .i64 xid) ∧ wv.cell? ⟨gx, 1, none⟩ = some (.slice xA xn xc) ∧ gx < wv.heap.size) := hid fun wv HC => by
              rw [hKL] at HC
              have y1 := HC.blk_ 8 rfl
              have y2 := HC.cst_ 0 rfl
              exact ⟨⟨cell_of_row _ _ 2 _ _ _ y1, Blk.lt y1⟩, cell_of_row _ _ 0 _ _ _ y2, cell_of_row _ _ 1 _ _ _ y2, Blk.lt y2⟩
            have HRX : Hid (∀ wv, Hold M none w wv KL → Ro wv (Mut M KL) (VlsIn xA xn xvs)) := hid fun wv HC => by
              rw [hKL] at HC ⊢
              exact HC.ro 1 rfl
            have HKL := hid hKL
            clear hKL K2
            go_wp2_with fail
            refine wp_region_any (by kernel_rfl) ?_
            refine wpAny_hold 5 119 (KL) (spL [(113, RowSlot (Mut M KL) xid xvs), (114, RBoxSlot (Mut M KL) xid xvs)]) (by kernel_rfl) (by kernel_rfl) (by kernel_rfl) rfl ?_ (KN.drew) ?_
            · exact stays_cons rowSlot_mono (stays_cons rboxSlot_mono (stays_nil _))
            simp only [zd, Act.put, List.getElem_toArray, List.getElem_cons_zero, List.getElem_cons_succ, zl]
            refine dw_val rfl rfl rfl ?_; apply Exists.intro; refine ⟨fun wv HC => ?_, ?_⟩
            ·  go_simp <;> rfl
            simp only [Act.put, zl]
            refine dw_val rfl rfl rfl ?_; apply Exists.intro; refine ⟨fun wv HC => ?_, ?_⟩
            · obtain ⟨⟨f0, f1⟩, f2, f3, f4⟩ := HF.out _ HC; go_simp <;> rfl
            simp only [Act.put, zl]
            refine dw_val rfl rfl rfl ?_; apply Exists.intro; refine ⟨fun wv HC => ?_, ?_⟩
            · obtain ⟨⟨f0, f1⟩, f2, f3, f4⟩ := HF.out _ HC; go_simp <;> rfl
            simp only [Act.put, zl]
            refine dw_callR 113 (RowSlot (Mut M KL) xid xvs) (f := 61) (args := #[.agg #[.int .i64 xid, .slice xA xn xc]]) rfl rfl rfl rfl (fun wv => ?_) (fun wv HC hrm hD => ?_) ?_
            · go_simp <;> rfl
            · refine (rcopyrow_any _ wv HC.mutLt xid xA xn xc xvs (HRX.out _ HC) (by omega)).mono ?_
              rintro e w5 ⟨A5, n5, c5, rfl, h50, h51, h52, h53, b5⟩
              exact ⟨_, rfl, ⟨A5, n5, c5, rfl, h50, h51, h52, h53⟩, HC.call b5, RM.below b5⟩
            rintro x_ wx HCx ⟨A5, n5, c5, rfl, -, -, -, -⟩
            clear HCx
            simp only [Act.put, zl]
            refine dw_new #[.int .i64 xid, .slice A5 n5 c5] 119 114 (RBoxSlot (Mut M KL) xid xvs) (fun g => .slice (some ⟨g, 0, none⟩) 1 1) rfl rfl rfl rfl (fun wv => ?_) (fun wv HC _hrm hD hro => ?_) ?_
            · go_simp <;> rfl
            · have hsl : RowSlot (Mut M KL) xid xvs (.agg #[.int .i64 xid, .slice A5 n5 c5]) wv := deps_at hD 3 rfl (by kernel_rfl) rfl rfl
              obtain ⟨A6, n6, c6, e6, h1, h2, h3, h4⟩ := hsl
              obtain ⟨rfl, rfl, rfl⟩ : A5 = A6 ∧ n5 = n6 ∧ c5 = c6 := by
                injection e6 with e6
                simp at e6
                exact e6
              exact ⟨_, A5, n5, c5, rfl, h1, h2, h3, h4.step (by simp) (fun b hb _ => Below.heap_alloc wv _ b hb) (fun _ _ h => h), ro_block (hro _ HC.mutLt) rfl⟩
            rintro gn wg HCg hsl
            simp only [Act.put, zl]
            clear hsl HCg
            refine rel_nil ?_
            rintro wx2 HX
            rintro _hrm HGW
            have hb2 : RBoxSlot (Mut M KL) xid xvs (.slice (some ⟨gn, 0, none⟩) 1 1) wx2 := (GW_on (d := 114) rfl).1 (HGW 4 _ rfl (by omega))
            clear HGW _hrm
            obtain ⟨gq, A6, n6, c6, e6, k0_, k1_, k2_, k3_, k4_⟩ := hb2
            obtain rfl : gn = gq := by injection e6 with e6; injection e6 with e6; injection e6
            clear e6
            rw [HKL.out] at HX k3_
            have k5 := hid k4_.now
            have HK0 := hid (And.intro k0_ (And.intro k1_ k2_))
            clear k4_ k0_ k1_ k2_ HF HRX KN
            have HRS := hid (show rwCells ld ++ [.int .i64 xid, .slice A6 n6 c6] = rwCells (ld ++ [⟨xid, A6, n6, c6, xvs⟩]) from rwCells_snoc1 _ _ _ _ _ _)
            have KA := HX.add k3_
            clear HX k3_
            have FKA := KA.facts
            simp only [factsL, cellsF, Nat.reduceAdd, zf, zl] at FKA
            go_wp2_with (at_builtin; go_must (refine wpList_appAllH KA 4 rfl Tryz.elRw k5.out rfl (.tmp 111) (.tmp 114) rfl rfl rfl (by intro z hz; simp at hz; rcases hz with rfl | rfl <;> rfl) (by omega) (by omega) ?_); intro C' cap' w6 hc6 hm6 KB; rw [HRS.out] at KB; simp only [List.set_cons_zero, List.set_cons_succ] at KB; (have F3 := KB.facts); simp only [factsL, cellsF, Nat.reduceAdd, zf, zl] at F3)
            have KD := KB.store 9 rfl 2 (.slice C' (nd + 1) cap')
            have KE := (KD.swapRo 7 rfl (vals_snoc (r := ⟨xid, A6, n6, c6, xvs⟩) (KD.ro 7 rfl) (KD.ro 0 rfl))).drop (List.sublist_cons_self _ _)
            clear KB KD FKA k5
            have HBN := hid (HBS.out.left HXX.out HGG.out (y := ⟨xid, A6, n6, c6, xvs⟩) rfl ⟨HXO.out.id, HK0.out.2.1, HK0.out.2.2, HXO.out.vs⟩)
            have KZ := KE.drop (List.Sublist.cons _ (List.sublist_cons_self _ _))
            go_roundw
            case rel => exact ⟨k + 1, nd + 1, cap', C', _, by omega, by first | rfl | go_num, by omega, HBN, KZ⟩
            case measure => simp [intOf]; omega
          | some v =>
            have HBN := hid (HBS.out.keep HXX.out hgt)
            simp only [Option.isSome_some]
            clear hgt
            have KZ := K2.drop (List.Sublist.cons _ (List.sublist_cons_self _ _))
            go_wp2_with fail
            go_roundw
            case rel => exact ⟨k + 1, nd, cd, D, ld, by omega, by first | rfl | go_num, by omega, HBN, KZ⟩
            case measure => simp [intOf]; omega
        · obtain rfl : k = am := by omega
          have hd5 : decide ((k : Int) < (k : Int)) = false := by simp
          have HFIN := hid (HBS.out.fin HBJ.out (by rw [← HAR.out, List.length_map, HAL.out]; exact Nat.le_refl _))
          have F := H.facts
          simp only [factsL, cellsF, Nat.reduceAdd, zf, zl] at F
          obtain ⟨hi1, hi2, _⟩ := own_caps (H.get 0 rfl)
          obtain ⟨hd1, hd2, _⟩ := own_caps (H.get 1 rfl)
          obtain ⟨hu1, hu2, _⟩ := own_caps (H.get 2 rfl)
          have KS := H.sealRow 0 rfl
          simp only [List.set_cons_zero, List.set_cons_succ] at KS
          have KS2 := KS.sealRow 1 rfl
          simp only [List.set_cons_zero, List.set_cons_succ] at KS2
          have KS3 := KS2.sealRow 2 rfl
          simp only [List.set_cons_zero, List.set_cons_succ] at KS3
          have KN := (((KS3.store 7 rfl 0 (.string a.nm)).store 7 rfl 1 (.slice I ni ci)).store 7 rfl 2 (.slice D nd cd)).store 7 rfl 3 (.slice U nu cu)
          have r1 := (KN.roOut 0 rfl).and (KN.roOut 3 rfl)
          have r2 := (KN.roOut 1 rfl).and (KN.roOut 4 rfl)
          have r3 := (KN.roOut 2 rfl).and (KN.roOut 5 rfl)
          have NK := H.nes
          simp only [nesL, neF, and_true, true_and] at NK
          clear KS KS2 KS3 H
          go_wp2_with fail
          exact bodyPost_ret (v := .tuple #[.agg #[.string a.nm, .slice I ni ci, .slice D nd cd, .slice U nu cu], .bool true]) (by simp [results, Tryz.results17, go_sem, F, NK]) rfl ⟨_, by rw [HFIN.out], by rw [HFIN.out]; exact ⟨I, ni, ci, D, nd, cd, U, nu, cu, li, ld, lu, rfl, ⟨hi1, hi2⟩, ⟨hd1, hd2⟩, ⟨hu1, hu2⟩, r1, r2, r3, HBS.out.ok1, HBS.out.ok2, HBS.out.ok3, rfl, rfl, rfl⟩, KN.below⟩
end Go.Proofs.YtedogodccblfeaaGreatDoor

namespace Go.Proofs.YtedogodccblfeaaGreatDoor
open Go.RowKit
set_option linter.unusedVariables false
set_option linter.unusedSimpArgs false

def DelsRet (w : World) (M : Nat → Prop) (E : Bool × List Dl) (e : Ending) (w' : World) : Prop := ∃ (A : Option Addr) (n c : Nat) (l : List El), e = .returned (.tuple #[.slice A n c, .bool E.1]) ∧ n ≤ c ∧ c ≤ 9223372036854775807 ∧ l.map El.dl = E.2 ∧ (∀ x ∈ l, x.good 100 6) ∧ Ro w' M (ElsIn A n l) ∧ Below w.heap.size w w'
def BetSl (M : Nat → Prop) (T : Bool × Dl) (u : Value) (w : World) : Prop := ∃ z : El, u = .tuple #[z.val, .bool T.1] ∧ z.dl = T.2 ∧ z.good 100 6 ∧ Ro w M (ElIn z)
theorem betSl_mono {M : Nat → Prop} {T : Bool × Dl} (u : Value) (w w' : World) (hr : RM M w w') (h : BetSl M T u w) : BetSl M T u w' := by
  obtain ⟨z, h1, h2, h3, h4⟩ := h
  exact ⟨z, h1, h2, h3, hr.ro h4⟩
theorem elsIn_nil (w : World) (M : Nat → Prop) : Ro w M (ElsIn none 0 []) := fun _ _ _ => ⟨⟨rfl, fun h => absurd h (Nat.lt_irrefl 0)⟩, fun x hx => (nomatch hx)⟩
theorem Tryz.elEl : ElemT Tryz.prog 30 44 4 88 (.agg #[.string ⟨#[]⟩, .slice none 0 0, .slice none 0 0, .slice none 0 0]) := ⟨Tryz.underlying30, by kernel_rfl, rfl, by omega⟩
set_option maxHeartbeats 16000000 in
set_option maxRecDepth 100000 in
theorem sdeltas_any (M : Nat → Prop) (w : World) (hM : ∀ b, M b → b < w.heap.size) (A : Option Addr) (n c : Nat) (l : List Te) (B : Option Addr) (m d : Nat) (k : List Te) (hl : Ro w M (TesIn A n l)) (hk : Ro w M (TesIn B m k)) (hokl : ∀ x ∈ l, x.ok ∧ TbM x.tb) (hokk : ∀ x ∈ k, x.ok ∧ TbM x.tb) (hn : n ≤ 1000) (hm : m ≤ 1000) :
    Calls Tryz.prog 27 #[.slice A n c, .slice B m d] w fun e w' => DelsRet w M (delsC (l.map Te.tb) (k.map Te.tb)) e w' := by
  have HOL := hid hokl
  have HOK := hid hokk
  have HLL := hid hl.now.len
  have HLK := hid hk.now.len
  have K0 := ((Hold.start M w hM).add (hk.less (by simp [Mut]))).add (hl.less (by simp [Mut, Hp.foot]))
  obtain ⟨E, hE⟩ : ∃ E, E = delsC (l.map Te.tb) (k.map Te.tb) := ⟨_, rfl⟩
  rw [← hE]
  have HE := hid hE
  clear hl hk hokl hokk hE
  go_enter Tryz.func27, Tryz.ntmps27
  go_wp2_with fail
  refine (stvalid_any _ _ K0.mutLt A n c l (K0.ro 0 rfl) HOL.out (by omega)).mono ?_
  cases hv1 : storB (l.map Te.tb) with
  | false =>
    have hz : E = (false, []) := by rw [HE.out]; exact delsC_a hv1
    subst hz
    rintro e w1 ⟨rfl, b1⟩
    have HB := hid (K0.call b1).below
    clear K0 b1 hv1 HE
    go_wp2_with fail
    (try simp only [Exit.inBlock, Exit.then])
    refine bodyPost_ret (results_tmp2 rfl _ _ _) rfl ?_
    exact ⟨none, 0, 0, [], rfl, by omega, by omega, rfl, fun x hx => (nomatch hx), elsIn_nil _ _, HB.out⟩
  | true =>
    rintro e w1 ⟨rfl, b1⟩
    have K1 := K0.call b1
    clear K0 b1
    have HV1 := hid hv1
    clear hv1
    go_wp2_with fail
    refine (stvalid_any _ _ K1.mutLt B m d k (K1.ro 1 rfl) HOK.out (by omega)).mono ?_
    cases hv2 : storB (k.map Te.tb) with
    | false =>
      have hz : E = (false, []) := by rw [HE.out]; exact delsC_b hv2
      subst hz
      rintro e w2 ⟨rfl, b1⟩
      have HB := hid (K1.call b1).below
      clear K1 b1 hv2 HE
      go_wp2_with fail
      (try simp only [Exit.inBlock, Exit.then])
      refine bodyPost_ret (results_tmp2 rfl _ _ _) rfl ?_
      exact ⟨none, 0, 0, [], rfl, by omega, by omega, rfl, fun x hx => (nomatch hx), elsIn_nil _ _, HB.out⟩
    | true =>
      rintro e w2 ⟨rfl, b1⟩
      have K2 := K1.call b1
      clear K1 b1
      have HV2 := hid hv2
      clear hv2
      by_cases hnm : n = m
      · subst hnm
        have hb : ((n : Int) != (n : Int)) = false := by simp
        have hb1 : ((n : Int) == (n : Int)) = true := by simp
        have hb2 : decide ((n : Int) = (n : Int)) = true := by simp
        have K3 := (K2.add (elVals_nil _ _)).nil 44 4
        clear K2
        go_wp2_with fail
        go_loopw [4, 5, 6, 27] (fun r4 r5 ov iv wr => ∃ (i q cap : Nat) (O : Option Addr) (outs : List El), i ≤ n ∧ q ≤ i ∧ r4 = .slice none 0 0 ∧ r5 = .bool false ∧ iv = .int .i64 i ∧ ov = .slice O q cap ∧ Hid (betsOk (l.map Te.tb) (k.map Te.tb) i = true ∧ outs.map El.dl = betsD (l.map Te.tb) (k.map Te.tb) i ∧ ∀ x ∈ outs, x.good 100 6) ∧ Hold M none w wr [.own 44 4 (.slice O q cap) q (elCells outs), .ro (ElVals outs), .ro (TesIn A n l), .ro (TesIn B n k)]) (fun _ _ _ iv _ => n - (intOf iv).toNat)
        case atStart => exact ⟨0, 0, 0, none, [], by omega, by omega, rfl, rfl, rfl, rfl, hid ⟨rfl, rfl, fun x hx => (nomatch hx)⟩, K3⟩
        case round =>
          clear K3
          obtain ⟨i, q, cap, O, outs, hi, hq, rfl, rfl, rfl, rfl, HS, H⟩ := hrel
          by_cases hlt : i < n
          · have hd : decide ((i : Int) < (n : Int)) = true := by simp; omega
            have i0 : (0 : Int) ≤ (i : Int) := by omega
            have i1 : (i : Int) < (n : Int) := by omega
            obtain ⟨x, hx⟩ := get_of HLL.out hlt
            obtain ⟨y, hy⟩ := get_of HLK.out hlt
            have HX1 := hid hx
            have HY1 := hid hy
            have HXO := hid (HOL.out x (List.mem_of_getElem? hx))
            have HYO := hid (HOK.out y (List.mem_of_getElem? hy))
            obtain ⟨gA, oA, hA, -, -, -, -, -, -⟩ := (H.ro 2 rfl).now.at_ hx
            obtain ⟨gB, oB, hB, -, -, -, -, -, -⟩ := (H.ro 3 rfl).now.at_ hy
            subst hA hB
            clear hx hy
            obtain ⟨T, hT⟩ : ∃ T, T = betweenC x.tb y.tb := ⟨_, rfl⟩
            have HT := hid hT
            have HTS := hid (show T.2.ins.length ≤ 100 ∧ T.2.del.length ≤ 100 ∧ T.2.upd.length ≤ 100 ∧ (∀ r ∈ T.2.ins, r.2.length ≤ 6) ∧ (∀ r ∈ T.2.del, r.2.length ≤ 6) ∧ ∀ u ∈ T.2.upd, u.2.1.length ≤ 6 ∧ u.2.2.length ≤ 6 by
              rw [hT]
              exact betC_small (storB_tab HV1.out _ (List.mem_map_of_mem (List.mem_of_getElem? HX1.out))) (storB_tab HV2.out _ (List.mem_map_of_mem (List.mem_of_getElem? HY1.out))))
            clear hT
            go_wp2_with fail
            obtain ⟨KL, hKL, KN⟩ := H.name
            have HF : Hid (∀ wv, Hold M none w wv KL → (wv.cell? ⟨gA, oA + i * 4, none⟩ = some (.string x.nm) ∧ wv.cell? ⟨gA, oA + i * 4 + 1, none⟩ = some (.slice x.A x.n x.c) ∧ wv.cell? ⟨gA, oA + i * 4 + 2, none⟩ = some (.int .i64 x.nx) ∧ wv.cell? ⟨gA, oA + i * 4 + 3, none⟩ = some (.slice x.B x.m x.d) ∧ gA < wv.heap.size) ∧ wv.cell? ⟨gB, oB + i * 4, none⟩ = some (.string y.nm) ∧ wv.cell? ⟨gB, oB + i * 4 + 1, none⟩ = some (.slice y.A y.n y.c) ∧ wv.cell? ⟨gB, oB + i * 4 + 2, none⟩ = some (.int .i64 y.nx) ∧ wv.cell? ⟨gB, oB + i * 4 + 3, none⟩ = some (.slice y.B y.m y.d) ∧ gB < wv.heap.size) := hid fun wv HC => by
              rw [hKL] at HC
              obtain ⟨b1, o1, e, hb1, d0, d1, d2, d3, -⟩ := (HC.ro 2 rfl).now.at_ HX1.out
              injection e with e
              injection e with e1 e2
              subst e1 e2
              obtain ⟨b1, o1, e, hb2, c0, c1, c2, c3, -⟩ := (HC.ro 3 rfl).now.at_ HY1.out
              injection e with e
              injection e with e1 e2
              subst e1 e2
              exact ⟨⟨d0, d1, d2, d3, hb1⟩, c0, c1, c2, c3, hb2⟩
            have HX : Hid (∀ wv, Hold M none w wv KL → Ro wv (Mut M KL) (TeIn x) ∧ Ro wv (Mut M KL) (TeIn y)) := hid fun wv HC => by
              rw [hKL] at HC ⊢
              exact ⟨(HC.ro 2 rfl).imp fun w2 h2 => h2.2 x (List.mem_of_getElem? HX1.out), (HC.ro 3 rfl).imp fun w2 h2 => h2.2 y (List.mem_of_getElem? HY1.out)⟩
            have HKL := hid hKL
            clear hKL H
            obtain ⟨Hb, hHb⟩ : ∃ Hb, Hb = wr.drew.heap.size := ⟨_, rfl⟩
            have HHb := hid hHb
            clear hHb
            refine wp_region_any (by kernel_rfl) ?_
            refine wpAny_holdE [11] 13 53 (KL) (spL [(39, BetSl (Mut M KL) T), (8, NewSlot (Mut M KL) Hb 44 #[.string ⟨#[]⟩, .slice none 0 0, .slice none 0 0, .slice none 0 0])]) (by kernel_rfl) (fun _ d _ _ _ h => by cases d <;> exact h) (by kernel_rfl) (by kernel_rfl) rfl ?_ (KN.drew) ?_
            · exact stays_cons betSl_mono (stays_cons newSlot_mono (stays_nil _))
            simp only [zd, Act.put, List.getElem_toArray, List.getElem_cons_zero, List.getElem_cons_succ, zl]
            repeat (first | (refine dw_skip rfl rfl rfl ?_; simp only [Act.put, zl]) | (refine dw_val rfl rfl rfl ?_; apply Exists.intro; refine ⟨fun wv HC => ?_, ?_⟩; (focus (obtain ⟨⟨f0, f1, f2, f3, f4⟩, q0, q1, q2, q3, q4⟩ := HF.out _ HC; go_simp <;> rfl; done)); simp only [Act.put, zl]))
            refine dw_callR 39 (BetSl (Mut M KL) T) (f := 81) (args := #[.agg #[.string x.nm, .slice x.A x.n x.c, .int .i64 x.nx, .slice x.B x.m x.d], .agg #[.string y.nm, .slice y.A y.n y.c, .int .i64 y.nx, .slice y.B y.m y.d]]) rfl rfl rfl rfl (fun wv => ?_) (fun wv HC hrm hD => ?_) ?_
            · go_simp <;> rfl
            · obtain ⟨x1, x2⟩ := HX.out _ HC
              have hk := dbetw_any _ wv HC.mutLt _ _ x.tb y.tb (te_tb HXO.out.1 x1) (te_tb HYO.out.1 x2) HXO.out.2.nm HXO.out.2.cs HXO.out.2.rs HYO.out.2.nm HYO.out.2.cs HYO.out.2.rs
              rw [← HT.out] at hk
              refine hk.mono ?_
              rintro e w5 ⟨v5, rfl, hd5, b5⟩
              obtain ⟨z, rfl, hz, hzg, rz⟩ := dl_el hd5 HTS.out.1 HTS.out.2.1 HTS.out.2.2.1 HTS.out.2.2.2.1 HTS.out.2.2.2.2.1 HTS.out.2.2.2.2.2
              exact ⟨_, rfl, ⟨z, rfl, hz, hzg, rz⟩, HC.call b5, RM.below b5⟩
            rintro u_ wx HCx ⟨z, rfl, -, -, -⟩
            clear HCx
            have hzv : z.val = .agg #[.string z.nm, .slice z.I z.ni z.ci, .slice z.D z.nd z.cd, .slice z.U z.nu z.cu] := rfl
            rw [hzv]
            clear hzv
            simp only [Act.put, zl]
            repeat (first | (refine dw_skip rfl rfl rfl ?_; simp only [Act.put, zl]) | (refine dw_val rfl rfl rfl ?_; apply Exists.intro; refine ⟨fun wv HC => ?_, ?_⟩; (focus ( go_simp <;> rfl; done)); simp only [Act.put, zl]))
            refine dw_new #[.string ⟨#[]⟩, .slice none 0 0, .slice none 0 0, .slice none 0 0] 44 8 (NewSlot (Mut M KL) Hb 44 #[.string ⟨#[]⟩, .slice none 0 0, .slice none 0 0, .slice none 0 0]) (fun g => .pointer (some ⟨g, 0, none⟩)) rfl rfl rfl rfl (fun wv => ?_) (fun wv HC hrm hD hro => ?_) ?_
            · go_simp <;> rfl
            · exact ⟨_, rfl, by have := hrm.1; rw [HHb.out]; exact this, hro _ HC.mutLt⟩
            rintro gb wg HCg hsl
            simp only [Act.put, zl]
            clear hsl HCg
            refine rel_nil ?_
            rintro wxb HY
            rintro _hrm HGW
            have hap : BetSl (Mut M KL) T (.tuple #[.agg #[.string z.nm, .slice z.I z.ni z.ci, .slice z.D z.nd z.cd, .slice z.U z.nu z.cu], .bool T.1]) wxb := (GW_on (d := 39) rfl).1 (HGW 8 _ rfl (by omega))
            have hns : NewSlot (Mut M KL) Hb 44 #[.string ⟨#[]⟩, .slice none 0 0, .slice none 0 0, .slice none 0 0] (.pointer (some ⟨gb, 0, none⟩)) wxb := (GW_on (d := 8) rfl).1 (HGW 12 _ rfl (by omega))
            clear HGW
            obtain ⟨g7, hg7, hgH, hgB⟩ := hns
            obtain rfl : gb = g7 := by injection hg7 with hg7; injection hg7 with hg7; injection hg7
            clear hg7
            rw [HHb.out] at hgH
            have HB := Hold.addFreshBlk KN.drew HY _hrm hgH hgB.now
            have hgn := hgB.now
            obtain ⟨z2, e2, hz, hzg, rz⟩ := hap
            have ev : Value.agg #[.string z.nm, .slice z.I z.ni z.ci, .slice z.D z.nd z.cd, .slice z.U z.nu z.cu] = .agg #[.string z2.nm, .slice z2.I z2.ni z2.ci, .slice z2.D z2.nd z2.cd, .slice z2.U z2.nu z2.cu] := by
              have h := e2
              simp only [El.val, Value.tuple.injEq, Array.mk.injEq, List.cons.injEq, and_true] at h
              exact h
            rw [ev]
            clear ev e2
            have HZ := hid (And.intro hz hzg)
            have K4 := HB.add ((el_apart rz hgn noInt_delta).less fun b hb => (mut_cons.1 hb).elim (fun hf => Or.inl (by have hf : some gb = some b := hf; injection hf with hf; exact hf.symm)) Or.inr)
            clear rz hz hzg hgn hgB hgH HY _hrm HHb KN HF HX HB z
            rw [HKL.out] at K4
            clear HKL
            clear KL
            have FB := K4.facts
            simp only [factsL, cellsF, Nat.reduceAdd, zf, zl] at FB
            have K5 := ((((K4.store 1 rfl 0 (.string z2.nm)).store 1 rfl 1 (.slice z2.I z2.ni z2.ci)).store 1 rfl 2 (.slice z2.D z2.nd z2.cd)).store 1 rfl 3 (.slice z2.U z2.nu z2.cu)).fix_ 1 rfl
            simp only [List.set_cons_zero, List.set_cons_succ, List.setIfInBounds_toArray] at K5
            cases hT1 : T.1 with
            | false =>
              have hz : E = (false, []) := by rw [HE.out]; exact delsC_bad (te_at HX1.out) (te_at HY1.out) (by rw [← HT.out]; exact hT1)
              subst hz
              have HB := hid K5.below
              clear HE hT1
              go_wp2_with fail
              (try simp only [Exit.inBlock, Exit.then])
              refine bodyPost_ret (results_tmp2 rfl _ _ _) rfl ?_
              exact ⟨none, 0, 0, [], rfl, by omega, by omega, rfl, fun x hx => (nomatch hx), elsIn_nil _ _, HB.out⟩
            | true =>
              have HOKN := hid (betsOk_next (te_at HX1.out) (te_at HY1.out) HS.out.1 (by rw [← HT.out]; exact hT1))
              have HEM := hid (show emptyD (betweenC x.tb y.tb).2 = decide (z2.ni = 0 ∧ z2.nd = 0 ∧ z2.nu = 0) by rw [← HT.out, ← HZ.out.1]; exact emptyD_el (K5.ro 0 rfl).now)
              clear hT1
              go_wp2_with fail
              clear FB K4
              generalize World.setCell _ _ _ = w7 at K5 ⊢
              refine (dempty_any w7 z2.nm z2.I z2.ni z2.ci z2.D z2.nd z2.cd z2.U z2.nu z2.cu).mono ?_
              cases hEm : decide (z2.ni = 0 ∧ z2.nd = 0 ∧ z2.nu = 0) with
              | true =>
                rintro e w8 ⟨rfl, b8⟩
                have K6 := (K5.call b8).drop (.cons _ (List.sublist_cons_self _ _))
                have HA2 := hid (show outs.map El.dl = betsD (l.map Te.tb) (k.map Te.tb) (i + 1) by rw [betsD_next (te_at HX1.out) (te_at HY1.out), HEM.out, hEm, if_pos rfl, List.append_nil]; exact HS.out.2.1)
                clear K5 b8 hEm
                go_wp2_with fail
                go_roundw
                case rel => exact ⟨i + 1, q, cap, O, outs, by omega, by omega, rfl, rfl, by first | rfl | go_num, rfl, hid ⟨HOKN.out, HA2.out, HS.out.2.2⟩, K6⟩
                case measure => simp [intOf] <;> omega
              | false =>
                rintro e w8 ⟨rfl, b8⟩
                have K6 := K5.call b8
                have HA2 := hid (show (outs ++ [z2]).map El.dl = betsD (l.map Te.tb) (k.map Te.tb) (i + 1) by rw [betsD_next (te_at HX1.out) (te_at HY1.out), HEM.out, hEm, if_neg (by simp), List.map_append, HS.out.2.1, ← HT.out, ← HZ.out.1]; rfl)
                clear K5 b8 hEm
                have FB := K6.facts
                simp only [factsL, cellsF, Nat.reduceAdd, zf, zl] at FB
                have e9 : elCells outs ++ (#[.string z2.nm, .slice z2.I z2.ni z2.ci, .slice z2.D z2.nd z2.cd, .slice z2.U z2.nu z2.cu]).toList = elCells (outs ++ [z2]) := (elCells_snoc outs z2).symm
                have HE9 := hid e9
                clear e9
                go_wp2_with (at_builtin; go_must (refine wpList_appH K6 2 rfl Tryz.elEl #[.string z2.nm, .slice z2.I z2.ni z2.ci, .slice z2.D z2.nd z2.cd, .slice z2.U z2.nu z2.cu] rfl (.tmp 47) (.tmp 49) rfl rfl _ (by first | rfl | simp) rfl rfl (by intro u hu; simp at hu; rcases hu with rfl | rfl | rfl | rfl <;> rfl) (by omega) (by omega) ?_); intro g9 cap9 w9 hc9 hm9 KB; rw [HE9.out] at KB; simp only [List.set_cons_zero, List.set_cons_succ] at KB)
                have KC0 := KB.swapRo 3 rfl (elVals_snoc (r := z2) (KB.ro 3 rfl) (KB.ro 0 rfl))
                simp only [List.set_cons_zero, List.set_cons_succ, List.setIfInBounds_toArray] at KC0
                have KC := KC0.drop (.cons _ (List.sublist_cons_self _ _))
                go_roundw
                case rel => exact ⟨i + 1, q + 1, cap9, _, outs ++ [z2], by omega, by omega, rfl, rfl, by first | rfl | go_num, rfl, hid ⟨HOKN.out, HA2.out, fun x hx => by
                  rcases List.mem_append.1 hx with hx | hx
                  · exact HS.out.2.2 x hx
                  · simp at hx; subst hx; exact HZ.out.2⟩, KC⟩
                case measure => simp [intOf] <;> omega
          · obtain rfl : i = n := by omega
            have hd : decide ((i : Int) < (i : Int)) = false := by simp
            have hz : E = (true, betsD (l.map Te.tb) (k.map Te.tb) i) := by rw [HE.out]; exact delsC_end (by rw [List.length_map]; exact HLL.out) HV1.out HV2.out (by rw [List.length_map, List.length_map, HLL.out, HLK.out]) HS.out.1
            subst hz
            have hcap := own_caps (H.get 0 rfl)
            have KS := H.sealRow 0 rfl
            simp only [List.set_cons_zero] at KS
            have r1 := (KS.roOut 0 rfl).and (KS.roOut 1 rfl)
            have HG := hid KS.below
            clear H HE KS
            go_wp2_with fail
            (try simp only [Exit.inBlock, Exit.then])
            refine bodyPost_ret (results_tmp2 rfl _ _ _) rfl ?_
            exact ⟨O, q, cap, outs, rfl, hcap.1, hcap.2.1, HS.out.2.1, HS.out.2.2, r1, HG.out⟩
      · have hb : ((n : Int) != (m : Int)) = true := by simp; omega
        have hb1 : ((n : Int) == (m : Int)) = false := by rw [beq_eq_false_iff_ne]; omega
        have hb2 : decide ((n : Int) = (m : Int)) = false := by rw [decide_eq_false_iff_not]; omega
        have hz : E = (false, []) := by rw [HE.out]; exact delsC_n (by rw [List.length_map, List.length_map, HLL.out, HLK.out]; exact hnm)
        subst hz
        have HB := hid K2.below
        clear K2 HE hnm
        go_wp2_with fail
        (try simp only [Exit.inBlock, Exit.then])
        refine bodyPost_ret (results_tmp2 rfl _ _ _) rfl ?_
        exact ⟨none, 0, 0, [], rfl, by omega, by omega, rfl, fun x hx => (nomatch hx), elsIn_nil _ _, HB.out⟩
set_option maxHeartbeats 16000000 in
set_option maxRecDepth 100000 in
theorem rsdeltas_any (M : Nat → Prop) (w : World) (hM : ∀ b, M b → b < w.heap.size) (A : Option Addr) (n c : Nat) (l : List Te) (B : Option Addr) (m d : Nat) (k : List Te) (hl : Ro w M (TesIn A n l)) (hk : Ro w M (TesIn B m k)) (hokl : ∀ x ∈ l, x.ok ∧ TbM x.tb) (hokk : ∀ x ∈ k, x.ok ∧ TbM x.tb) (hn : n ≤ 1000) (hm : m ≤ 1000) :
    Calls Tryz.prog 28 #[.slice A n c, .slice B m d] w fun e w' => DelsRet w M (delsC (l.map Te.tb) (k.map Te.tb)) e w' := by
  have HOL := hid hokl
  have HOK := hid hokk
  have HLL := hid hl.now.len
  have HLK := hid hk.now.len
  have K0 := ((Hold.start M w hM).add (hk.less (by simp [Mut]))).add (hl.less (by simp [Mut, Hp.foot]))
  obtain ⟨E, hE⟩ : ∃ E, E = delsC (l.map Te.tb) (k.map Te.tb) := ⟨_, rfl⟩
  rw [← hE]
  have HE := hid hE
  clear hl hk hokl hokk hE
  go_enter Tryz.func28, Tryz.ntmps28
  go_wp2_with fail
  refine (rstvalid_any _ _ K0.mutLt A n c l (K0.ro 0 rfl) HOL.out (by omega)).mono ?_
  cases hv1 : storB (l.map Te.tb) with
  | false =>
    have hz : E = (false, []) := by rw [HE.out]; exact delsC_a hv1
    subst hz
    rintro e w1 ⟨rfl, b1⟩
    have HB := hid (K0.call b1).below
    clear K0 b1 hv1 HE
    go_wp2_with fail
    (try simp only [Exit.inBlock, Exit.then])
    refine bodyPost_ret (results_tmp2 rfl _ _ _) rfl ?_
    exact ⟨none, 0, 0, [], rfl, by omega, by omega, rfl, fun x hx => (nomatch hx), elsIn_nil _ _, HB.out⟩
  | true =>
    rintro e w1 ⟨rfl, b1⟩
    have K1 := K0.call b1
    clear K0 b1
    have HV1 := hid hv1
    clear hv1
    go_wp2_with fail
    refine (rstvalid_any _ _ K1.mutLt B m d k (K1.ro 1 rfl) HOK.out (by omega)).mono ?_
    cases hv2 : storB (k.map Te.tb) with
    | false =>
      have hz : E = (false, []) := by rw [HE.out]; exact delsC_b hv2
      subst hz
      rintro e w2 ⟨rfl, b1⟩
      have HB := hid (K1.call b1).below
      clear K1 b1 hv2 HE
      go_wp2_with fail
      (try simp only [Exit.inBlock, Exit.then])
      refine bodyPost_ret (results_tmp2 rfl _ _ _) rfl ?_
      exact ⟨none, 0, 0, [], rfl, by omega, by omega, rfl, fun x hx => (nomatch hx), elsIn_nil _ _, HB.out⟩
    | true =>
      rintro e w2 ⟨rfl, b1⟩
      have K2 := K1.call b1
      clear K1 b1
      have HV2 := hid hv2
      clear hv2
      by_cases hnm : n = m
      · subst hnm
        have hb : ((n : Int) != (n : Int)) = false := by simp
        have hb1 : ((n : Int) == (n : Int)) = true := by simp
        have hb2 : decide ((n : Int) = (n : Int)) = true := by simp
        have K3 := (K2.add (elVals_nil _ _)).nil 44 4
        clear K2
        go_wp2_with fail
        go_loopw [4, 5, 6, 27] (fun r4 r5 ov iv wr => ∃ (i q cap : Nat) (O : Option Addr) (outs : List El), i ≤ n ∧ q ≤ i ∧ r4 = .slice none 0 0 ∧ r5 = .bool false ∧ iv = .int .i64 i ∧ ov = .slice O q cap ∧ Hid (betsOk (l.map Te.tb) (k.map Te.tb) i = true ∧ outs.map El.dl = betsD (l.map Te.tb) (k.map Te.tb) i ∧ ∀ x ∈ outs, x.good 100 6) ∧ Hold M none w wr [.own 44 4 (.slice O q cap) q (elCells outs), .ro (ElVals outs), .ro (TesIn A n l), .ro (TesIn B n k)]) (fun _ _ _ iv _ => n - (intOf iv).toNat)
        case atStart => exact ⟨0, 0, 0, none, [], by omega, by omega, rfl, rfl, rfl, rfl, hid ⟨rfl, rfl, fun x hx => (nomatch hx)⟩, K3⟩
        case round =>
          clear K3
          obtain ⟨i, q, cap, O, outs, hi, hq, rfl, rfl, rfl, rfl, HS, H⟩ := hrel
          by_cases hlt : i < n
          · have hd : decide ((i : Int) < (n : Int)) = true := by simp; omega
            have i0 : (0 : Int) ≤ (i : Int) := by omega
            have i1 : (i : Int) < (n : Int) := by omega
            obtain ⟨x, hx⟩ := get_of HLL.out hlt
            obtain ⟨y, hy⟩ := get_of HLK.out hlt
            have HX1 := hid hx
            have HY1 := hid hy
            have HXO := hid (HOL.out x (List.mem_of_getElem? hx))
            have HYO := hid (HOK.out y (List.mem_of_getElem? hy))
            obtain ⟨gA, oA, hA, -, -, -, -, -, -⟩ := (H.ro 2 rfl).now.at_ hx
            obtain ⟨gB, oB, hB, -, -, -, -, -, -⟩ := (H.ro 3 rfl).now.at_ hy
            subst hA hB
            clear hx hy
            obtain ⟨T, hT⟩ : ∃ T, T = betweenC x.tb y.tb := ⟨_, rfl⟩
            have HT := hid hT
            have HTS := hid (show T.2.ins.length ≤ 100 ∧ T.2.del.length ≤ 100 ∧ T.2.upd.length ≤ 100 ∧ (∀ r ∈ T.2.ins, r.2.length ≤ 6) ∧ (∀ r ∈ T.2.del, r.2.length ≤ 6) ∧ ∀ u ∈ T.2.upd, u.2.1.length ≤ 6 ∧ u.2.2.length ≤ 6 by
              rw [hT]
              exact betC_small (storB_tab HV1.out _ (List.mem_map_of_mem (List.mem_of_getElem? HX1.out))) (storB_tab HV2.out _ (List.mem_map_of_mem (List.mem_of_getElem? HY1.out))))
            clear hT
            go_wp2_with fail
            obtain ⟨KL, hKL, KN⟩ := H.name
            have HF : Hid (∀ wv, Hold M none w wv KL → (wv.cell? ⟨gA, oA + i * 4, none⟩ = some (.string x.nm) ∧ wv.cell? ⟨gA, oA + i * 4 + 1, none⟩ = some (.slice x.A x.n x.c) ∧ wv.cell? ⟨gA, oA + i * 4 + 2, none⟩ = some (.int .i64 x.nx) ∧ wv.cell? ⟨gA, oA + i * 4 + 3, none⟩ = some (.slice x.B x.m x.d) ∧ gA < wv.heap.size) ∧ wv.cell? ⟨gB, oB + i * 4, none⟩ = some (.string y.nm) ∧ wv.cell? ⟨gB, oB + i * 4 + 1, none⟩ = some (.slice y.A y.n y.c) ∧ wv.cell? ⟨gB, oB + i * 4 + 2, none⟩ = some (.int .i64 y.nx) ∧ wv.cell? ⟨gB, oB + i * 4 + 3, none⟩ = some (.slice y.B y.m y.d) ∧ gB < wv.heap.size) := hid fun wv HC => by
              rw [hKL] at HC
              obtain ⟨b1, o1, e, hb1, d0, d1, d2, d3, -⟩ := (HC.ro 2 rfl).now.at_ HX1.out
              injection e with e
              injection e with e1 e2
              subst e1 e2
              obtain ⟨b1, o1, e, hb2, c0, c1, c2, c3, -⟩ := (HC.ro 3 rfl).now.at_ HY1.out
              injection e with e
              injection e with e1 e2
              subst e1 e2
              exact ⟨⟨d0, d1, d2, d3, hb1⟩, c0, c1, c2, c3, hb2⟩
            have HX : Hid (∀ wv, Hold M none w wv KL → Ro wv (Mut M KL) (TeIn x) ∧ Ro wv (Mut M KL) (TeIn y)) := hid fun wv HC => by
              rw [hKL] at HC ⊢
              exact ⟨(HC.ro 2 rfl).imp fun w2 h2 => h2.2 x (List.mem_of_getElem? HX1.out), (HC.ro 3 rfl).imp fun w2 h2 => h2.2 y (List.mem_of_getElem? HY1.out)⟩
            have HKL := hid hKL
            clear hKL H
            obtain ⟨Hb, hHb⟩ : ∃ Hb, Hb = wr.drew.heap.size := ⟨_, rfl⟩
            have HHb := hid hHb
            clear hHb
            refine wp_region_any (by kernel_rfl) ?_
            refine wpAny_holdE [11] 13 53 (KL) (spL [(39, BetSl (Mut M KL) T), (8, NewSlot (Mut M KL) Hb 44 #[.string ⟨#[]⟩, .slice none 0 0, .slice none 0 0, .slice none 0 0])]) (by kernel_rfl) (fun _ d _ _ _ h => by cases d <;> exact h) (by kernel_rfl) (by kernel_rfl) rfl ?_ (KN.drew) ?_
            · exact stays_cons betSl_mono (stays_cons newSlot_mono (stays_nil _))
            simp only [zd, Act.put, List.getElem_toArray, List.getElem_cons_zero, List.getElem_cons_succ, zl]
            repeat (first | (refine dw_skip rfl rfl rfl ?_; simp only [Act.put, zl]) | (refine dw_val rfl rfl rfl ?_; apply Exists.intro; refine ⟨fun wv HC => ?_, ?_⟩; (focus (obtain ⟨⟨f0, f1, f2, f3, f4⟩, q0, q1, q2, q3, q4⟩ := HF.out _ HC; go_simp <;> rfl; done)); simp only [Act.put, zl]))
            refine dw_callR 39 (BetSl (Mut M KL) T) (f := 17) (args := #[.agg #[.string x.nm, .slice x.A x.n x.c, .int .i64 x.nx, .slice x.B x.m x.d], .agg #[.string y.nm, .slice y.A y.n y.c, .int .i64 y.nx, .slice y.B y.m y.d]]) rfl rfl rfl rfl (fun wv => ?_) (fun wv HC hrm hD => ?_) ?_
            · go_simp <;> rfl
            · obtain ⟨x1, x2⟩ := HX.out _ HC
              have hk := rbetw_any _ wv HC.mutLt _ _ x.tb y.tb (te_tb HXO.out.1 x1) (te_tb HYO.out.1 x2) HXO.out.2.nm HXO.out.2.cs HXO.out.2.rs HYO.out.2.nm HYO.out.2.cs HYO.out.2.rs
              rw [← HT.out] at hk
              refine hk.mono ?_
              rintro e w5 ⟨v5, rfl, hd5, b5⟩
              obtain ⟨z, rfl, hz, hzg, rz⟩ := dl_el hd5 HTS.out.1 HTS.out.2.1 HTS.out.2.2.1 HTS.out.2.2.2.1 HTS.out.2.2.2.2.1 HTS.out.2.2.2.2.2
              exact ⟨_, rfl, ⟨z, rfl, hz, hzg, rz⟩, HC.call b5, RM.below b5⟩
            rintro u_ wx HCx ⟨z, rfl, -, -, -⟩
            clear HCx
            have hzv : z.val = .agg #[.string z.nm, .slice z.I z.ni z.ci, .slice z.D z.nd z.cd, .slice z.U z.nu z.cu] := rfl
            rw [hzv]
            clear hzv
            simp only [Act.put, zl]
            repeat (first | (refine dw_skip rfl rfl rfl ?_; simp only [Act.put, zl]) | (refine dw_val rfl rfl rfl ?_; apply Exists.intro; refine ⟨fun wv HC => ?_, ?_⟩; (focus ( go_simp <;> rfl; done)); simp only [Act.put, zl]))
            refine dw_new #[.string ⟨#[]⟩, .slice none 0 0, .slice none 0 0, .slice none 0 0] 44 8 (NewSlot (Mut M KL) Hb 44 #[.string ⟨#[]⟩, .slice none 0 0, .slice none 0 0, .slice none 0 0]) (fun g => .pointer (some ⟨g, 0, none⟩)) rfl rfl rfl rfl (fun wv => ?_) (fun wv HC hrm hD hro => ?_) ?_
            · go_simp <;> rfl
            · exact ⟨_, rfl, by have := hrm.1; rw [HHb.out]; exact this, hro _ HC.mutLt⟩
            rintro gb wg HCg hsl
            simp only [Act.put, zl]
            clear hsl HCg
            refine rel_nil ?_
            rintro wxb HY
            rintro _hrm HGW
            have hap : BetSl (Mut M KL) T (.tuple #[.agg #[.string z.nm, .slice z.I z.ni z.ci, .slice z.D z.nd z.cd, .slice z.U z.nu z.cu], .bool T.1]) wxb := (GW_on (d := 39) rfl).1 (HGW 8 _ rfl (by omega))
            have hns : NewSlot (Mut M KL) Hb 44 #[.string ⟨#[]⟩, .slice none 0 0, .slice none 0 0, .slice none 0 0] (.pointer (some ⟨gb, 0, none⟩)) wxb := (GW_on (d := 8) rfl).1 (HGW 12 _ rfl (by omega))
            clear HGW
            obtain ⟨g7, hg7, hgH, hgB⟩ := hns
            obtain rfl : gb = g7 := by injection hg7 with hg7; injection hg7 with hg7; injection hg7
            clear hg7
            rw [HHb.out] at hgH
            have HB := Hold.addFreshBlk KN.drew HY _hrm hgH hgB.now
            have hgn := hgB.now
            obtain ⟨z2, e2, hz, hzg, rz⟩ := hap
            have ev : Value.agg #[.string z.nm, .slice z.I z.ni z.ci, .slice z.D z.nd z.cd, .slice z.U z.nu z.cu] = .agg #[.string z2.nm, .slice z2.I z2.ni z2.ci, .slice z2.D z2.nd z2.cd, .slice z2.U z2.nu z2.cu] := by
              have h := e2
              simp only [El.val, Value.tuple.injEq, Array.mk.injEq, List.cons.injEq, and_true] at h
              exact h
            rw [ev]
            clear ev e2
            have HZ := hid (And.intro hz hzg)
            have K4 := HB.add ((el_apart rz hgn noInt_delta).less fun b hb => (mut_cons.1 hb).elim (fun hf => Or.inl (by have hf : some gb = some b := hf; injection hf with hf; exact hf.symm)) Or.inr)
            clear rz hz hzg hgn hgB hgH HY _hrm HHb KN HF HX HB z
            rw [HKL.out] at K4
            clear HKL
            clear KL
            have FB := K4.facts
            simp only [factsL, cellsF, Nat.reduceAdd, zf, zl] at FB
            have K5 := ((((K4.store 1 rfl 0 (.string z2.nm)).store 1 rfl 1 (.slice z2.I z2.ni z2.ci)).store 1 rfl 2 (.slice z2.D z2.nd z2.cd)).store 1 rfl 3 (.slice z2.U z2.nu z2.cu)).fix_ 1 rfl
            simp only [List.set_cons_zero, List.set_cons_succ, List.setIfInBounds_toArray] at K5
            cases hT1 : T.1 with
            | false =>
              have hz : E = (false, []) := by rw [HE.out]; exact delsC_bad (te_at HX1.out) (te_at HY1.out) (by rw [← HT.out]; exact hT1)
              subst hz
              have HB := hid K5.below
              clear HE hT1
              go_wp2_with fail
              (try simp only [Exit.inBlock, Exit.then])
              refine bodyPost_ret (results_tmp2 rfl _ _ _) rfl ?_
              exact ⟨none, 0, 0, [], rfl, by omega, by omega, rfl, fun x hx => (nomatch hx), elsIn_nil _ _, HB.out⟩
            | true =>
              have HOKN := hid (betsOk_next (te_at HX1.out) (te_at HY1.out) HS.out.1 (by rw [← HT.out]; exact hT1))
              have HEM := hid (show emptyD (betweenC x.tb y.tb).2 = decide (z2.ni = 0 ∧ z2.nd = 0 ∧ z2.nu = 0) by rw [← HT.out, ← HZ.out.1]; exact emptyD_el (K5.ro 0 rfl).now)
              clear hT1
              go_wp2_with fail
              clear FB K4
              generalize World.setCell _ _ _ = w7 at K5 ⊢
              refine (rempty9_any w7 z2.nm z2.I z2.ni z2.ci z2.D z2.nd z2.cd z2.U z2.nu z2.cu (by have := HZ.out.2.i; omega) (by have := HZ.out.2.d; omega) (by have := HZ.out.2.u; omega)).mono ?_
              cases hEm : decide (z2.ni = 0 ∧ z2.nd = 0 ∧ z2.nu = 0) with
              | true =>
                rintro e w8 ⟨rfl, b8⟩
                have K6 := (K5.call b8).drop (.cons _ (List.sublist_cons_self _ _))
                have HA2 := hid (show outs.map El.dl = betsD (l.map Te.tb) (k.map Te.tb) (i + 1) by rw [betsD_next (te_at HX1.out) (te_at HY1.out), HEM.out, hEm, if_pos rfl, List.append_nil]; exact HS.out.2.1)
                clear K5 b8 hEm
                go_wp2_with fail
                go_roundw
                case rel => exact ⟨i + 1, q, cap, O, outs, by omega, by omega, rfl, rfl, by first | rfl | go_num, rfl, hid ⟨HOKN.out, HA2.out, HS.out.2.2⟩, K6⟩
                case measure => simp [intOf] <;> omega
              | false =>
                rintro e w8 ⟨rfl, b8⟩
                have K6 := K5.call b8
                have HA2 := hid (show (outs ++ [z2]).map El.dl = betsD (l.map Te.tb) (k.map Te.tb) (i + 1) by rw [betsD_next (te_at HX1.out) (te_at HY1.out), HEM.out, hEm, if_neg (by simp), List.map_append, HS.out.2.1, ← HT.out, ← HZ.out.1]; rfl)
                clear K5 b8 hEm
                have FB := K6.facts
                simp only [factsL, cellsF, Nat.reduceAdd, zf, zl] at FB
                have e9 : elCells outs ++ (#[.string z2.nm, .slice z2.I z2.ni z2.ci, .slice z2.D z2.nd z2.cd, .slice z2.U z2.nu z2.cu]).toList = elCells (outs ++ [z2]) := (elCells_snoc outs z2).symm
                have HE9 := hid e9
                clear e9
                go_wp2_with (at_builtin; go_must (refine wpList_appH K6 2 rfl Tryz.elEl #[.string z2.nm, .slice z2.I z2.ni z2.ci, .slice z2.D z2.nd z2.cd, .slice z2.U z2.nu z2.cu] rfl (.tmp 47) (.tmp 49) rfl rfl _ (by first | rfl | simp) rfl rfl (by intro u hu; simp at hu; rcases hu with rfl | rfl | rfl | rfl <;> rfl) (by omega) (by omega) ?_); intro g9 cap9 w9 hc9 hm9 KB; rw [HE9.out] at KB; simp only [List.set_cons_zero, List.set_cons_succ] at KB)
                have KC0 := KB.swapRo 3 rfl (elVals_snoc (r := z2) (KB.ro 3 rfl) (KB.ro 0 rfl))
                simp only [List.set_cons_zero, List.set_cons_succ, List.setIfInBounds_toArray] at KC0
                have KC := KC0.drop (.cons _ (List.sublist_cons_self _ _))
                go_roundw
                case rel => exact ⟨i + 1, q + 1, cap9, _, outs ++ [z2], by omega, by omega, rfl, rfl, by first | rfl | go_num, rfl, hid ⟨HOKN.out, HA2.out, fun x hx => by
                  rcases List.mem_append.1 hx with hx | hx
                  · exact HS.out.2.2 x hx
                  · simp at hx; subst hx; exact HZ.out.2⟩, KC⟩
                case measure => simp [intOf] <;> omega
          · obtain rfl : i = n := by omega
            have hd : decide ((i : Int) < (i : Int)) = false := by simp
            have hz : E = (true, betsD (l.map Te.tb) (k.map Te.tb) i) := by rw [HE.out]; exact delsC_end (by rw [List.length_map]; exact HLL.out) HV1.out HV2.out (by rw [List.length_map, List.length_map, HLL.out, HLK.out]) HS.out.1
            subst hz
            have hcap := own_caps (H.get 0 rfl)
            have KS := H.sealRow 0 rfl
            simp only [List.set_cons_zero] at KS
            have r1 := (KS.roOut 0 rfl).and (KS.roOut 1 rfl)
            have HG := hid KS.below
            clear H HE KS
            go_wp2_with fail
            (try simp only [Exit.inBlock, Exit.then])
            refine bodyPost_ret (results_tmp2 rfl _ _ _) rfl ?_
            exact ⟨O, q, cap, outs, rfl, hcap.1, hcap.2.1, HS.out.2.1, HS.out.2.2, r1, HG.out⟩
      · have hb : ((n : Int) != (m : Int)) = true := by simp; omega
        have hb1 : ((n : Int) == (m : Int)) = false := by rw [beq_eq_false_iff_ne]; omega
        have hb2 : decide ((n : Int) = (m : Int)) = false := by rw [decide_eq_false_iff_not]; omega
        have hz : E = (false, []) := by rw [HE.out]; exact delsC_n (by rw [List.length_map, List.length_map, HLL.out, HLK.out]; exact hnm)
        subst hz
        have HB := hid K2.below
        clear K2 HE hnm
        go_wp2_with fail
        (try simp only [Exit.inBlock, Exit.then])
        refine bodyPost_ret (results_tmp2 rfl _ _ _) rfl ?_
        exact ⟨none, 0, 0, [], rfl, by omega, by omega, rfl, fun x hx => (nomatch hx), elsIn_nil _ _, HB.out⟩
end Go.Proofs.YtedogodccblfeaaGreatDoor

namespace Go.Proofs.YtedogodccblfeaaGreatDoor
open Go.RowKit
set_option linter.unusedVariables false
set_option linter.unusedSimpArgs false

/-- An entry: the table's name, its next number of before, the numbers that came, the rows that left, the rows of before that turned. -/
structure Ud where
  nm : ByteArray
  nx : Int
  ins : List Int
  del : List Row
  upd : List Row
deriving DecidableEq
def udOf (nx : Int) (d : Dl) : Ud := ⟨d.nm, nx, d.ins.map (·.1), d.del, d.upd.map fun u => (u.1, u.2.1)⟩
def recD (a b : Tb) : Ud := udOf a.nx (betD a b)
def leftU (u : Ud) (rs : List Row) : List Row := (rs.filter fun r => !u.ins.contains r.1).map fun r => (r.1, (getR u.upd r.1).getD r.2)
theorem getR_turn {rs : List Row} : ∀ {l : List Row}, (l.map (·.1)).Pairwise (· < ·) → ∀ {x : Row}, x ∈ l → getR ((turnR rs l).map fun u => (u.1, u.2.1)) x.1 = (match getR rs x.1 with | some o => if o = x.2 then none else some o | none => none)
  | y :: l, h, x, hx => by
    rw [List.map_cons, List.pairwise_cons] at h
    rw [turnR_cons, List.map_append]
    rcases List.mem_cons.1 hx with rfl | hx
    · have hn : getR ((turnR rs l).map fun u => (u.1, u.2.1)) x.1 = none := getR_none fun z hz e => by
        obtain ⟨u, hu, rfl⟩ := List.mem_map.1 hz
        obtain ⟨r, hr, e2⟩ := turnR_ids hu
        have := h.1 r.1 (List.mem_map_of_mem hr)
        have e : u.1 = x.1 := e
        omega
      cases hg : getR rs x.1 with
      | none => simpa using hn
      | some o =>
        by_cases ho : o = x.2
        · simp only [ho, if_true, Option.toList_none, List.map_nil, List.nil_append]; exact hn
        · simp only [ho, if_false, Option.toList_some, List.map_cons, List.map_nil, List.cons_append, List.nil_append]
          simp [getR]
    · have hne : y.1 ≠ x.1 := by have := h.1 x.1 (List.mem_map_of_mem hx); omega
      have ih := getR_turn h.2 hx (rs := rs)
      cases hg : getR rs y.1 with
      | none => simpa using ih
      | some o =>
        by_cases ho : o = y.2
        · simp only [ho, if_true, Option.toList_none, List.map_nil, List.nil_append]; exact ih
        · simp only [ho, if_false, Option.toList_some, List.map_cons, List.map_nil, List.cons_append, List.nil_append]
          rw [← ih]
          unfold getR
          rw [List.find?_cons, show (((y.1, o) : Row).1 == x.1) = false by simpa using hne]
theorem getR_isNone {rs : List Row} {id : Int} (h : getR rs id = none) : id ∉ rs.map (·.1) := fun hm => by
  obtain ⟨r, hr, rfl⟩ := List.mem_map.1 hm
  unfold getR at h
  rw [Option.map_eq_none_iff, List.find?_eq_none] at h
  have := h r hr
  simp at this
theorem turnR_mem {rs l : List Row} {u : Upd} (h : u ∈ turnR rs l) : getR rs u.1 = some u.2.1 ∧ u.1 ∈ l.map (·.1) := by
  obtain ⟨r, hr, h2⟩ := List.mem_filterMap.1 h
  split at h2
  · rename_i o ho
    split at h2
    · cases h2
    · injection h2 with h2
      subst h2
      exact ⟨ho, List.mem_map_of_mem (f := fun x : Row => x.1) hr⟩
  · cases h2
theorem asc_nodup {l : List Row} (h : (l.map (·.1)).Pairwise (· < ·)) : (l.map (·.1)).Nodup := h.imp fun h => by omega
section
variable {a b : Tb} (ha : (a.rs.map (·.1)).Pairwise (· < ·)) (hb : (b.rs.map (·.1)).Pairwise (· < ·))
include ha hb
/-- the entry's numbers stand once -/
theorem rec_nodup : ((recD a b).ins ++ (recD a b).upd.map (·.1) ++ (recD a b).del.map (·.1)).Nodup := by
  have h1 : ((offR a.rs b.rs).map (·.1)).Nodup := asc_nodup (map_filter_asc hb)
  have h2 : ((offR b.rs a.rs).map (·.1)).Nodup := asc_nodup (map_filter_asc ha)
  have h3 : ((turnR a.rs b.rs).map (·.1)).Nodup := (turnR_asc hb).imp fun h => by omega
  have e3 : ((recD a b).upd.map (·.1)) = (turnR a.rs b.rs).map (·.1) := by simp [recD, udOf, betD, List.map_map, Function.comp_def]
  rw [e3]
  show ((offR a.rs b.rs).map (·.1) ++ (turnR a.rs b.rs).map (·.1) ++ (offR b.rs a.rs).map (·.1)).Nodup
  rw [List.nodup_append, List.nodup_append]
  refine ⟨⟨h1, h3, fun x hx y hy e => ?_⟩, h2, fun x hx y hy e => ?_⟩
  · subst e
    obtain ⟨r, hr, rfl⟩ := List.mem_map.1 hx
    obtain ⟨u, hu, e⟩ := List.mem_map.1 hy
    have k1 := offR_none hr
    have k2 := (turnR_mem hu).1
    rw [e, k1] at k2
    cases k2
  · subst e
    obtain ⟨r, hr, rfl⟩ := List.mem_map.1 hy
    have k1 := getR_isNone (offR_none hr)
    rcases List.mem_append.1 hx with hx | hx
    · obtain ⟨s, hs, e⟩ := List.mem_map.1 hx
      exact k1 (e ▸ List.mem_map_of_mem (f := fun x : Row => x.1) (List.mem_filter.1 hs).1)
    · obtain ⟨u, hu, e⟩ := List.mem_map.1 hx
      exact k1 (e ▸ (turnR_mem hu).2)
omit ha hb in
theorem rec_in : ∀ id ∈ (recD a b).ins ++ (recD a b).upd.map (·.1), id ∈ b.rs.map (·.1) := fun id h => by
  rcases List.mem_append.1 h with h | h
  · obtain ⟨r, hr, rfl⟩ := List.mem_map.1 h
    exact List.mem_map_of_mem (f := fun x : Row => x.1) (List.mem_filter.1 hr).1
  · obtain ⟨u, hu, rfl⟩ := List.mem_map.1 h
    obtain ⟨v, hv, rfl⟩ := List.mem_map.1 hu
    exact (turnR_mem hv).2
omit ha hb in
theorem rec_out : ∀ id ∈ (recD a b).del.map (·.1), id ∉ b.rs.map (·.1) := fun id h => by
  obtain ⟨r, hr, rfl⟩ := List.mem_map.1 h
  exact getR_isNone (offR_none hr)
theorem rec_left_mem (x : Row) : x ∈ leftU (recD a b) b.rs ++ (recD a b).del ↔ x ∈ a.rs := by
  rw [List.mem_append]
  constructor
  · rintro (h | h)
    · obtain ⟨r, hr, rfl⟩ := List.mem_map.1 h
      obtain ⟨hr1, hr2⟩ := List.mem_filter.1 hr
      have hu : getR (recD a b).upd r.1 = _ := getR_turn hb hr1 (rs := a.rs)
      cases hg : getR a.rs r.1 with
      | none =>
        have : r.1 ∈ (recD a b).ins := List.mem_map_of_mem (f := fun x : Row => x.1) (List.mem_filter.2 ⟨hr1, by rw [hg]; rfl⟩)
        simp [this] at hr2
      | some o =>
        rw [hg] at hu
        dsimp only at hu
        have hm := getR_out hg
        rw [hu]
        by_cases ho : o = r.2
        · subst ho; simpa using hm
        · simpa [ho] using hm
    · exact (List.mem_filter.1 h).1
  · intro hx
    cases hg : getR b.rs x.1 with
    | none => exact .inr (List.mem_filter.2 ⟨hx, by rw [hg]; rfl⟩)
    | some v =>
      left
      have hm := getR_out hg
      have ga := getR_of_mem ha hx
      have hu : getR (recD a b).upd (x.1, v).1 = _ := getR_turn hb hm (rs := a.rs)
      dsimp only at hu
      rw [ga] at hu
      dsimp only at hu
      refine List.mem_map.2 ⟨(x.1, v), List.mem_filter.2 ⟨hm, ?_⟩, ?_⟩
      · have : x.1 ∉ (recD a b).ins := fun h => by
          obtain ⟨r, hr, e⟩ := List.mem_map.1 h
          have := offR_none hr
          rw [e, ga] at this
          cases this
        simp [this]
      · dsimp only
        rw [hu]
        by_cases ho : x.2 = v
        · rw [if_pos ho]; subst ho; rfl
        · rw [if_neg ho]; rfl
theorem rec_left_nodup : ((leftU (recD a b) b.rs ++ (recD a b).del).map (·.1)).Nodup := by
  rw [List.map_append, List.nodup_append]
  have e : (leftU (recD a b) b.rs).map (·.1) = (b.rs.filter fun r => !(recD a b).ins.contains r.1).map (·.1) := by simp [leftU, List.map_map, Function.comp_def]
  refine ⟨by rw [e]; exact asc_nodup (map_filter_asc hb), asc_nodup (map_filter_asc ha), fun x hx y hy he => ?_⟩
  subst he
  rw [e] at hx
  obtain ⟨r, hr, rfl⟩ := List.mem_map.1 hx
  exact rec_out (a := a) (b := b) r.1 hy (List.mem_map_of_mem (f := fun x : Row => x.1) (List.mem_filter.1 hr).1)
theorem rec_left_len : (leftU (recD a b) b.rs ++ (recD a b).del).length = a.rs.length := by
  have h1 := rec_left_nodup ha hb
  have h2 := asc_nodup ha
  have hp : ((leftU (recD a b) b.rs ++ (recD a b).del).map (·.1)).Perm (a.rs.map (·.1)) := (List.perm_ext_iff_of_nodup h1 h2).2 fun id => by
    constructor
    · intro h
      obtain ⟨r, hr, rfl⟩ := List.mem_map.1 h
      exact List.mem_map_of_mem ((rec_left_mem ha hb r).1 hr)
    · intro h
      obtain ⟨r, hr, rfl⟩ := List.mem_map.1 h
      exact List.mem_map_of_mem ((rec_left_mem ha hb r).2 hr)
  simpa using hp.length_eq
/-- sorted by the numbers, the rows are those of before -/
theorem rec_back {S : List Row} (hp : S.Perm (leftU (recD a b) b.rs ++ (recD a b).del)) (hs : (S.map (·.1)).Pairwise (· ≤ ·)) : S = a.rs := by
  have hn : (S.map (·.1)).Nodup := (hp.map (·.1)).nodup_iff.2 (rec_left_nodup ha hb)
  refine asc_ext ?_ ha fun x => (hp.mem_iff).trans (rec_left_mem ha hb x)
  exact (List.pairwise_and_iff.2 ⟨hs, hn⟩).imp fun h => by omega
end
end Go.Proofs.YtedogodccblfeaaGreatDoor

namespace Go.Proofs.YtedogodccblfeaaGreatDoor
open Go.RowKit
set_option linter.unusedVariables false
set_option linter.unusedSimpArgs false

structure Ue where
  nm : ByteArray
  nx : Int
  I : Option Addr
  ni : Nat
  ci : Nat
  D : Option Addr
  nd : Nat
  cd : Nat
  U : Option Addr
  nu : Nat
  cu : Nat
  li : List Int
  ld : List Rw
  lu : List Rw
def Ue.cells (x : Ue) : List Value := [.string x.nm, .int .i64 x.nx, .slice x.I x.ni x.ci, .slice x.D x.nd x.cd, .slice x.U x.nu x.cu]
def Ue.val (x : Ue) : Value := .agg #[.string x.nm, .int .i64 x.nx, .slice x.I x.ni x.ci, .slice x.D x.nd x.cd, .slice x.U x.nu x.cu]
def Ue.ud (x : Ue) : Ud := ⟨x.nm, x.nx, x.li, x.ld.map Rw.row, x.lu.map Rw.row⟩
def UeIn (x : Ue) (w : World) : Prop := IsIn x.I x.ni x.li w ∧ RwsIn x.D x.nd x.ld w ∧ RwsIn x.U x.nu x.lu w
/-- an entry within limits: lists of at most N, rows of at most K values -/
structure Ue.good (x : Ue) (N K : Nat) : Prop where
  i : x.ni ≤ N
  d : x.nd ≤ N
  u : x.nu ≤ N
  ci : x.ni ≤ x.ci ∧ x.ci ≤ 9223372036854775807
  cd : x.nd ≤ x.cd ∧ x.cd ≤ 9223372036854775807
  cu : x.nu ≤ x.cu ∧ x.cu ≤ 9223372036854775807
  li : ∀ n ∈ x.li, I64 n
  ld : ∀ r ∈ x.ld, r.ok ∧ r.n ≤ K
  lu : ∀ r ∈ x.lu, r.ok ∧ r.n ≤ K
def ueCells (l : List Ue) : List Value := l.flatMap Ue.cells
theorem ueCells_len (l : List Ue) : (ueCells l).length = l.length * 5 := flat_len _ 5 (fun _ => rfl) l
def UesIn (A : Option Addr) (n : Nat) (l : List Ue) (w : World) : Prop := SlR 5 A n (ueCells l) w ∧ ∀ x ∈ l, UeIn x w
theorem UesIn.len {w : World} {A : Option Addr} {n : Nat} {l : List Ue} (h : UesIn A n l w) : l.length = n := by
  have := (show Rd w w.heap.size 5 A n (ueCells l) from h.1).1
  rw [ueCells_len] at this
  omega
theorem UesIn.at_ {w : World} {A : Option Addr} {n : Nat} {l : List Ue} (h : UesIn A n l w) {k : Nat} {x : Ue} (hx : l[k]? = some x) :
    ∃ b o, A = some ⟨b, o, none⟩ ∧ b < w.heap.size ∧ w.cell? ⟨b, o + k * 5, none⟩ = some (.string x.nm) ∧ w.cell? ⟨b, o + k * 5 + 1, none⟩ = some (.int .i64 x.nx) ∧ w.cell? ⟨b, o + k * 5 + 2, none⟩ = some (.slice x.I x.ni x.ci) ∧ w.cell? ⟨b, o + k * 5 + 3, none⟩ = some (.slice x.D x.nd x.cd) ∧ w.cell? ⟨b, o + k * 5 + 4, none⟩ = some (.slice x.U x.nu x.cu) ∧ UeIn x w := by
  have hk : k < n := by rw [← h.len]; exact (List.getElem?_eq_some_iff.1 hx).1
  obtain ⟨b, o, e, hb, hc⟩ := (show Rd w w.heap.size 5 A n (ueCells l) from h.1).2 (by omega)
  exact ⟨b, o, e, hb, hc _ _ (flat_get Ue.cells 5 (fun _ => rfl) l k 0 x (by omega) hx), hc _ _ (flat_get Ue.cells 5 (fun _ => rfl) l k 1 x (by omega) hx), hc _ _ (flat_get Ue.cells 5 (fun _ => rfl) l k 2 x (by omega) hx), hc _ _ (flat_get Ue.cells 5 (fun _ => rfl) l k 3 x (by omega) hx), hc _ _ (flat_get Ue.cells 5 (fun _ => rfl) l k 4 x (by omega) hx), h.2 x (List.mem_of_getElem? hx)⟩
theorem ueCells_snoc (l : List Ue) (x : Ue) : ueCells (l ++ [x]) = ueCells l ++ x.cells := by simp [ueCells]
theorem teCells_snoc (l : List Te) (x : Te) : teCells (l ++ [x]) = teCells l ++ x.cells := by simp [teCells]
def TeVals (l : List Te) (w : World) : Prop := ∀ x ∈ l, TeIn x w
def UeVals (l : List Ue) (w : World) : Prop := ∀ x ∈ l, UeIn x w
theorem teVals_snoc {M : Nat → Prop} {w : World} {rs : List Te} {r : Te} (h : Ro w M (TeVals rs)) (k : Ro w M (TeIn r)) : Ro w M (TeVals (rs ++ [r])) := fun w2 h1 h2 x hx => by
  rcases List.mem_append.1 hx with hx | hx
  · exact h w2 h1 h2 x hx
  · simp at hx; subst hx; exact k w2 h1 h2
theorem ueVals_snoc {M : Nat → Prop} {w : World} {rs : List Ue} {r : Ue} (h : Ro w M (UeVals rs)) (k : Ro w M (UeIn r)) : Ro w M (UeVals (rs ++ [r])) := fun w2 h1 h2 x hx => by
  rcases List.mem_append.1 hx with hx | hx
  · exact h w2 h1 h2 x hx
  · simp at hx; subst hx; exact k w2 h1 h2
theorem teVals_nil (w : World) (M : Nat → Prop) : Ro w M (TeVals []) := fun _ _ _ r hr => nomatch hr
theorem ueVals_nil (w : World) (M : Nat → Prop) : Ro w M (UeVals []) := fun _ _ _ r hr => nomatch hr
/-- an entry handed back -/
def UeRet (w : World) (M : Nat → Prop) (N K : Nat) (u : Ud) (e : Ending) (w' : World) : Prop := ∃ x : Ue, e = .returned x.val ∧ x.ud = u ∧ x.good N K ∧ Ro w' M (UeIn x) ∧ Below w.heap.size w w'
/-- a log handed back -/
def UesRet (w : World) (M : Nat → Prop) (N K : Nat) (us : List Ud) (e : Ending) (w' : World) : Prop := ∃ (A : Option Addr) (n c : Nat) (l : List Ue), e = .returned (.slice A n c) ∧ n ≤ c ∧ c ≤ 9223372036854775807 ∧ l.map Ue.ud = us ∧ (∀ x ∈ l, x.good N K) ∧ Ro w' M (UesIn A n l) ∧ Below w.heap.size w w'
/-- a table handed back -/
def TeRet (w : World) (M : Nat → Prop) (t : Tb) (e : Ending) (w' : World) : Prop := ∃ x : Te, e = .returned x.val ∧ x.tb = t ∧ x.ok ∧ Ro w' M (TeIn x) ∧ Below w.heap.size w w'
/-- a store handed back -/
def TesRet (w : World) (M : Nat → Prop) (ts : List Tb) (e : Ending) (w' : World) : Prop := ∃ (A : Option Addr) (n c : Nat) (l : List Te), e = .returned (.slice A n c) ∧ n ≤ c ∧ c ≤ 9223372036854775807 ∧ l.map Te.tb = ts ∧ (∀ x ∈ l, x.ok) ∧ Ro w' M (TesIn A n l) ∧ Below w.heap.size w w'
/-- rows handed back -/
def RwsRet (w : World) (M : Nat → Prop) (K : Nat) (rs : List Row) (e : Ending) (w' : World) : Prop := ∃ (A : Option Addr) (n c : Nat) (l : List Rw), e = .returned (.slice A n c) ∧ n ≤ c ∧ c ≤ 9223372036854775807 ∧ l.map Rw.row = rs ∧ (∀ r ∈ l, r.ok ∧ r.n ≤ K) ∧ Ro w' M (RwsIn A n l) ∧ Below w.heap.size w w'
end Go.Proofs.YtedogodccblfeaaGreatDoor

namespace Go.Proofs.YtedogodccblfeaaGreatDoor
open Go.RowKit
set_option linter.unusedVariables false
set_option linter.unusedSimpArgs false

theorem rowsCopy_step {l outs : List Rw} {j K : Nat} {x : Rw} {A : Option Addr} {n c : Nat} (h : outs.map Rw.row = (l.take j).map Rw.row ∧ ∀ r ∈ outs, r.ok ∧ r.n ≤ K) (hx : l[j]? = some x) (hk : x.ok ∧ x.n ≤ K) (h1 : n ≤ c) (h2 : c ≤ 9223372036854775807) (h3 : n ≤ K) :
    (outs ++ [(⟨x.id, A, n, c, x.vs⟩ : Rw)]).map Rw.row = (l.take (j + 1)).map Rw.row ∧ ∀ r ∈ outs ++ [(⟨x.id, A, n, c, x.vs⟩ : Rw)], r.ok ∧ r.n ≤ K := by
  constructor
  · rw [List.map_append, h.1, List.take_add_one, hx, List.map_append]; rfl
  · intro r hr
    rcases List.mem_append.1 hr with hr | hr
    · exact h.2 r hr
    · simp at hr; subst hr; exact ⟨⟨hk.1.id, h1, h2, hk.1.vs⟩, h3⟩
set_option maxHeartbeats 4000000 in
set_option maxRecDepth 100000 in
theorem srows_any (M : Nat → Prop) (w : World) (hM : ∀ b, M b → b < w.heap.size) (A : Option Addr) (n c K : Nat) (l : List Rw) (hE : Ro w M (RwsIn A n l)) (hn : n ≤ 1000000) (hK : K ≤ 4398046511104) (hrn : ∀ r ∈ l, r.ok ∧ r.n ≤ K) :
    Calls Tryz.prog 193 #[.slice A n c] w fun e w' => RwsRet w M K (l.map Rw.row) e w' := by
  have HRL := hid hE.now.len
  have HRN := hid hrn
  have HKK := hid hK
  clear hrn hK
  have KD := (((Hold.start M w hM).add (hE.less (by simp [Mut]))).add (ro_vals_nil _ _)).nil 119 2
  clear hE
  go_enter Tryz.func193, Tryz.ntmps193
  go_wp2_with fail
  go_loopw [3, 8] (fun ov iv wr => ∃ (j cap : Nat) (O : Option Addr) (outs : List Rw), j ≤ n ∧ iv = .int .i64 j ∧ ov = .slice O j cap ∧ Hid (outs.map Rw.row = (l.take j).map Rw.row ∧ ∀ r ∈ outs, r.ok ∧ r.n ≤ K) ∧ Hold M none w wr [.own 119 2 (.slice O j cap) j (rwCells outs), .ro (ValsIn outs), .ro (RwsIn A n l)]) (fun _ iv _ => n - (intOf iv).toNat)
  case atStart => exact ⟨0, 0, none, [], by omega, rfl, rfl, hid ⟨rfl, fun r hr => nomatch hr⟩, KD⟩
  case round =>
    clear KD
    obtain ⟨j, cap, O, outs, hj, rfl, rfl, HW, H⟩ := hrel
    by_cases hlt : j < n
    · have hd : decide ((j : Int) < (n : Int)) = true := by simp; omega
      have j0 : (0 : Int) ≤ (j : Int) := by omega
      have j1 : (j : Int) < (n : Int) := by omega
      obtain ⟨x, hx⟩ := get_of HRL.out hlt
      obtain ⟨b, o, rfl, hb, c0, c1, hxv⟩ := (H.ro 2 rfl).now.at_ hx
      have HXO := hid (HRN.out x (List.mem_of_getElem? hx))
      have hxn : x.n ≤ 4398046511104 := Nat.le_trans HXO.out.2 HKK.out
      have HXL := hid (show x.vs.length = x.n from hxv.len)
      have HXG := hid hx
      have hxr : Ro wr _ (VlsIn x.A x.n x.vs) := (H.ro 2 rfl).imp fun w2 h2 => h2.2 x (List.mem_of_getElem? hx)
      clear hx hxv
      have K1 := (H.add hxr).alloc_cst #[.int .i64 x.id, .slice x.A x.n x.c] 119
      clear H hxr
      obtain ⟨gr, hgr⟩ : ∃ gr, gr = wr.heap.size := ⟨_, rfl⟩
      rw [← hgr] at K1
      have F1 := K1.facts
      simp only [factsL, cellsF, Nat.reduceAdd, zf, zl] at F1
      go_wp2_with fail
      rw [← hgr]
      have HGR := hid hgr
      clear hgr c0 c1 F1
      obtain ⟨KL, hKL, KN⟩ := K1.name
      have HF : Hid (∀ wv, Hold M none w wv KL → wv.cell? ⟨gr, 0, none⟩ = some (.int .i64 x.id) ∧ wv.cell? ⟨gr, 1, none⟩ = some (.slice x.A x.n x.c) ∧ gr < wv.heap.size) := hid fun wv HC => by
        rw [hKL] at HC
        have y0 := HC.cst_ 0 rfl
        exact ⟨cell_of_row _ _ 0 _ _ _ y0, cell_of_row _ _ 1 _ _ _ y0, Blk.lt y0⟩
      have HRX : Hid (∀ wv, Hold M none w wv KL → Ro wv (Mut M KL) (VlsIn x.A x.n x.vs)) := hid fun wv HC => by
        rw [hKL] at HC ⊢
        exact HC.ro 1 rfl
      have HKL := hid hKL
      clear hKL K1
      go_wp2_with fail
      refine wp_region_any (by kernel_rfl) ?_
      refine wpAny_hold 8 23 (KL) (spL [(17, VlsSlot (Mut M KL) x.vs), (18, RowSlot (Mut M KL) x.id x.vs), (19, RBoxSlot (Mut M KL) x.id x.vs)]) (by kernel_rfl) (by kernel_rfl) (by kernel_rfl) rfl ?_ (KN.drew) ?_
      · exact stays_cons vlsSlot_mono (stays_cons rowSlot_mono (stays_cons rboxSlot_mono (stays_nil _)))
      simp only [zd, Act.put, List.getElem_toArray, List.getElem_cons_zero, List.getElem_cons_succ, zl]
      refine dw_val rfl rfl rfl ?_; apply Exists.intro; refine ⟨fun wv HC => ?_, ?_⟩
      ·  go_simp <;> rfl
      simp only [Act.put, zl]
      refine dw_val rfl rfl rfl ?_; apply Exists.intro; refine ⟨fun wv HC => ?_, ?_⟩
      ·  go_simp <;> rfl
      simp only [Act.put, zl]
      refine dw_val rfl rfl rfl ?_; apply Exists.intro; refine ⟨fun wv HC => ?_, ?_⟩
      · obtain ⟨f0, f1, f2⟩ := HF.out _ HC; go_simp <;> rfl
      simp only [Act.put, zl]
      refine dw_val rfl rfl rfl ?_; apply Exists.intro; refine ⟨fun wv HC => ?_, ?_⟩
      ·  go_simp <;> rfl
      simp only [Act.put, zl]
      refine dw_val rfl rfl rfl ?_; apply Exists.intro; refine ⟨fun wv HC => ?_, ?_⟩
      · obtain ⟨f0, f1, f2⟩ := HF.out _ HC; go_simp <;> rfl
      simp only [Act.put, zl]
      refine dw_callR 17 (VlsSlot (Mut M KL) x.vs) (f := 149) (args := #[.slice x.A x.n x.c]) rfl rfl rfl rfl (fun wv => ?_) (fun wv HC hrm hD => ?_) ?_
      · go_simp <;> rfl
      · refine (cloneVls_any _ wv HC.mutLt x.A x.n x.c x.vs (HRX.out _ HC) hxn).mono ?_
        rintro e w5 ⟨A5, n5, c5, rfl, h50, h51, h52, h53, b5⟩
        exact ⟨_, rfl, ⟨A5, n5, c5, rfl, h50, h51, h52, h53⟩, HC.call b5, RM.below b5⟩
      rintro x_ wx HCx ⟨A5, n5, c5, rfl, h50, h51, h52, h53⟩
      simp only [Act.put, zl]
      have H50 := hid h50
      clear HCx h53 h50
      refine dw_valC 18 (RowSlot (Mut M KL) x.id x.vs) rfl rfl rfl rfl (.agg #[.int .i64 x.id, .slice A5 n5 c5]) (fun wv HC => ?_) (fun wv HC hD => ?_) ?_
      · go_simp <;> rfl
      · have hsl : VlsSlot (Mut M KL) x.vs (.slice A5 n5 c5) wv := deps_at hD 5 rfl (by kernel_rfl) rfl rfl
        obtain ⟨A6, n6, c6, e6, h1, h2, h3, h4⟩ := hsl
        exact ⟨A6, n6, c6, by rw [e6], h1, h2, h3, h4⟩
      simp only [Act.put, zl]
      refine dw_new #[.int .i64 x.id, .slice A5 n5 c5] 119 19 (RBoxSlot (Mut M KL) x.id x.vs) (fun g => .slice (some ⟨g, 0, none⟩) 1 1) rfl rfl rfl rfl (fun wv => ?_) (fun wv HC _hrm hD hro => ?_) ?_
      · go_simp <;> rfl
      · have hsl : RowSlot (Mut M KL) x.id x.vs (.agg #[.int .i64 x.id, .slice A5 n5 c5]) wv := deps_at hD 6 rfl (by kernel_rfl) rfl rfl
        obtain ⟨A6, n6, c6, e6, h1, h2, h3, h4⟩ := hsl
        obtain ⟨rfl, rfl, rfl⟩ : A5 = A6 ∧ n5 = n6 ∧ c5 = c6 := by
          injection e6 with e6
          simp at e6
          exact e6
        exact ⟨_, A5, n5, c5, rfl, h1, h2, h3, h4.step (by simp) (fun b hb _ => Below.heap_alloc wv _ b hb) (fun _ _ h => h), ro_block (hro _ HC.mutLt) rfl⟩
      rintro g2 wg HCg hsl
      simp only [Act.put, zl]
      clear hsl HCg
      refine rel_nil ?_
      rintro wx2 HX
      rintro _hrm HGW
      have hb2 : RBoxSlot (Mut M KL) x.id x.vs (.slice (some ⟨g2, 0, none⟩) 1 1) wx2 := (GW_on (d := 19) rfl).1 (HGW 7 _ rfl (by omega))
      clear HGW _hrm
      obtain ⟨g3, A6, n6, c6, e6, k0_, k1_, k2_, k3_, k4_⟩ := hb2
      obtain rfl : g2 = g3 := by injection e6 with e6; injection e6 with e6; injection e6
      clear e6
      rw [HKL.out] at HX k3_
      have k5 := hid k4_.now
      have HK0 := hid k0_
      clear k4_ k0_ HF HRX KN
      have HRS := hid (show rwCells outs ++ [.int .i64 x.id, .slice A6 n6 c6] = rwCells (outs ++ [⟨x.id, A6, n6, c6, x.vs⟩]) from rwCells_snoc1 _ _ _ _ _ _)
      have KA := HX.add k3_
      clear HX k3_
      have FKA := KA.facts
      simp only [factsL, cellsF, Nat.reduceAdd, zf, zl] at FKA
      go_wp2_with (at_builtin; go_must (refine wpList_appAllH KA 3 rfl Tryz.elRw k5.out rfl (.tmp 12) (.tmp 19) rfl rfl rfl (by intro z hz; simp at hz; rcases hz with rfl | rfl <;> rfl) (by omega) (by omega) ?_); intro C' cap' w6 hc6 hm6 KB; rw [HRS.out] at KB; simp only [List.set_cons_zero, List.set_cons_succ] at KB; (have F3 := KB.facts); simp only [factsL, cellsF, Nat.reduceAdd, zf, zl] at F3)
      have KE := (KB.swapRo 4 rfl (vals_snoc (r := ⟨x.id, A6, n6, c6, x.vs⟩) (KB.ro 4 rfl) (KB.ro 0 rfl))).drop (List.Sublist.cons _ (List.Sublist.cons _ (List.sublist_cons_self _ _)))
      have HW2 := hid (rowsCopy_step (A := A6) HW.out HXG.out HXO.out k1_ k2_ (by rw [HK0.out, HXL.out]; exact HXO.out.2))
      go_roundw
      case rel => exact ⟨j + 1, cap', C', _, by omega, by go_num, by first | rfl | trivial, HW2, KE⟩
      case measure => simp [intOf]; omega
    · obtain rfl : n = j := by omega
      have hd : decide ((n : Int) < (n : Int)) = false := by simp
      have hcap := own_caps (H.get 0 rfl)
      have KS := H.sealRow 0 rfl
      simp only [List.set_cons_zero] at KS
      have r1 := (KS.roOut 0 rfl).and (KS.roOut 1 rfl)
      have HW2 := hid (show outs.map Rw.row = l.map Rw.row by have h := HW.out.1; rwa [List.take_of_length_le (by rw [HRL.out]; exact Nat.le_refl _)] at h)
      go_wp2_with fail
      go_ret
      exact ⟨O, n, cap, outs, rfl, hcap.1, hcap.2.1, HW2.out, HW.out.2, r1, KS.below⟩
set_option maxHeartbeats 4000000 in
set_option maxRecDepth 100000 in
theorem scopied_any (M : Nat → Prop) (w : World) (hM : ∀ b, M b → b < w.heap.size) (nm : ByteArray) (A : Option Addr) (n c : Nat) (cs : List Col) (nx : Int) (B : Option Addr) (m d K : Nat) (l : List Rw) (hC : Ro w M (ColsIn A n cs)) (hE : Ro w M (RwsIn B m l)) (hn : n ≤ 4398046511104) (hm : m ≤ 1000000) (hK : K ≤ 4398046511104) (hrn : ∀ r ∈ l, r.ok ∧ r.n ≤ K) :
    Calls Tryz.prog 93 #[.agg #[.string nm, .slice A n c, .int .i64 nx, .slice B m d]] w fun e w' => TeRet w M ⟨nm, cs, nx, l.map Rw.row⟩ e w' := by
  have HRL := hid hE.now.len
  have HRN := hid hrn
  have HKK := hid hK
  clear hrn hK
  have K0 := ((((Hold.start M w hM).add (hE.less (by simp [Mut]))).add (hC.less (by simp [Mut, Hp.foot]))).alloc #[.string nm, .slice A n c, .int .i64 nx, .slice B m d] 58).alloc #[.string ⟨#[]⟩, .slice none 0 0, .int .i64 0, .slice none 0 0] 58
  rw [World.size_alloc] at K0
  clear hC hE
  have F0 := K0.facts
  simp only [factsL, cellsF, Nat.reduceAdd, zf, zl] at F0
  go_enter Tryz.func93, Tryz.ntmps93
  go_wp2_with fail
  refine (cloneCols_any _ _ K0.mutLt A n c cs (K0.ro 2 rfl) (by omega)).mono ?_
  rintro e w5 ⟨C9, n9, cap9, rfl, hn9, hc9, hm9, r9, b9⟩
  have KB := (K0.call b9).add r9
  clear K0 F0 r9 b9 hn9
  have FB := KB.facts
  simp only [factsL, cellsF, Nat.reduceAdd, zf, zl] at FB
  have KC := KB.store 2 rfl 1 (.slice C9 n9 cap9)
  simp only [List.set_cons_zero, List.set_cons_succ, List.setIfInBounds_toArray] at KC
  have KD := (KC.add (ro_vals_nil _ _)).nil 119 2
  have FD := KD.facts
  simp only [factsL, cellsF, Nat.reduceAdd, zf, zl] at FD
  clear KB KC
  go_wp2_with fail
  generalize World.setCell _ _ _ = w10 at KD ⊢
  clear FB FD
  obtain ⟨g1, hg1⟩ : ∃ g1, g1 = w.heap.size := ⟨_, rfl⟩
  obtain ⟨g2, hg2⟩ : ∃ g2, g2 = g1 + 1 := ⟨_, rfl⟩
  rw [← hg1, ← hg2] at KD ⊢
  have HG1 := hid hg1
  clear hg1 hg2
  go_loopw [3, 15] (fun ov iv wr => ∃ (j cap : Nat) (O : Option Addr) (outs : List Rw), j ≤ m ∧ iv = .int .i64 j ∧ ov = .slice O j cap ∧ Hid (outs.map Rw.row = (l.take j).map Rw.row ∧ ∀ r ∈ outs, r.ok ∧ r.n ≤ K) ∧ Hold M none w wr [.own 119 2 (.slice O j cap) j (rwCells outs), .ro (ValsIn outs), .ro (ColsIn C9 n9 cs), .blk g2 58 #[.string ⟨#[]⟩, .slice none 0 0, .int .i64 0, .slice none 0 0], .blk g1 58 #[.string nm, .slice C9 n9 cap9, .int .i64 nx, .slice B m d], .ro (ColsIn A n cs), .ro (RwsIn B m l)]) (fun _ iv _ => m - (intOf iv).toNat)
  case atStart => exact ⟨0, 0, none, [], by omega, rfl, rfl, hid ⟨rfl, fun r hr => nomatch hr⟩, KD⟩
  case round =>
    clear KD
    obtain ⟨j, cap, O, outs, hj, rfl, rfl, HW, H⟩ := hrel
    by_cases hlt : j < m
    · have hd : decide ((j : Int) < (m : Int)) = true := by simp; omega
      have j0 : (0 : Int) ≤ (j : Int) := by omega
      have j1 : (j : Int) < (m : Int) := by omega
      obtain ⟨x, hx⟩ := get_of HRL.out hlt
      obtain ⟨b, o, rfl, hb, c0, c1, hxv⟩ := (H.ro 6 rfl).now.at_ hx
      have HXO := hid (HRN.out x (List.mem_of_getElem? hx))
      have hxn : x.n ≤ 4398046511104 := Nat.le_trans HXO.out.2 HKK.out
      have HXL := hid (show x.vs.length = x.n from hxv.len)
      have HXG := hid hx
      have hxr : Ro wr _ (VlsIn x.A x.n x.vs) := (H.ro 6 rfl).imp fun w2 h2 => h2.2 x (List.mem_of_getElem? hx)
      clear hx hxv
      have K1 := (H.add hxr).alloc_cst #[.int .i64 x.id, .slice x.A x.n x.c] 119
      clear H hxr
      obtain ⟨gr, hgr⟩ : ∃ gr, gr = wr.heap.size := ⟨_, rfl⟩
      rw [← hgr] at K1
      have F1 := K1.facts
      simp only [factsL, cellsF, Nat.reduceAdd, zf, zl] at F1
      go_wp2_with fail
      rw [← hgr]
      have HGR := hid hgr
      clear hgr c0 c1 F1
      obtain ⟨KL, hKL, KN⟩ := K1.name
      have HF : Hid (∀ wv, Hold M none w wv KL → wv.cell? ⟨gr, 0, none⟩ = some (.int .i64 x.id) ∧ wv.cell? ⟨gr, 1, none⟩ = some (.slice x.A x.n x.c) ∧ gr < wv.heap.size) := hid fun wv HC => by
        rw [hKL] at HC
        have y0 := HC.cst_ 0 rfl
        exact ⟨cell_of_row _ _ 0 _ _ _ y0, cell_of_row _ _ 1 _ _ _ y0, Blk.lt y0⟩
      have HRX : Hid (∀ wv, Hold M none w wv KL → Ro wv (Mut M KL) (VlsIn x.A x.n x.vs)) := hid fun wv HC => by
        rw [hKL] at HC ⊢
        exact HC.ro 1 rfl
      have HKL := hid hKL
      clear hKL K1
      go_wp2_with fail
      refine wp_region_any (by kernel_rfl) ?_
      refine wpAny_hold 8 32 (KL) (spL [(24, VlsSlot (Mut M KL) x.vs), (25, RowSlot (Mut M KL) x.id x.vs), (26, RBoxSlot (Mut M KL) x.id x.vs)]) (by kernel_rfl) (by kernel_rfl) (by kernel_rfl) rfl ?_ (KN.drew) ?_
      · exact stays_cons vlsSlot_mono (stays_cons rowSlot_mono (stays_cons rboxSlot_mono (stays_nil _)))
      simp only [zd, Act.put, List.getElem_toArray, List.getElem_cons_zero, List.getElem_cons_succ, zl]
      refine dw_val rfl rfl rfl ?_; apply Exists.intro; refine ⟨fun wv HC => ?_, ?_⟩
      ·  go_simp <;> rfl
      simp only [Act.put, zl]
      refine dw_val rfl rfl rfl ?_; apply Exists.intro; refine ⟨fun wv HC => ?_, ?_⟩
      ·  go_simp <;> rfl
      simp only [Act.put, zl]
      refine dw_val rfl rfl rfl ?_; apply Exists.intro; refine ⟨fun wv HC => ?_, ?_⟩
      · obtain ⟨f0, f1, f2⟩ := HF.out _ HC; go_simp <;> rfl
      simp only [Act.put, zl]
      refine dw_val rfl rfl rfl ?_; apply Exists.intro; refine ⟨fun wv HC => ?_, ?_⟩
      ·  go_simp <;> rfl
      simp only [Act.put, zl]
      refine dw_val rfl rfl rfl ?_; apply Exists.intro; refine ⟨fun wv HC => ?_, ?_⟩
      · obtain ⟨f0, f1, f2⟩ := HF.out _ HC; go_simp <;> rfl
      simp only [Act.put, zl]
      refine dw_callR 24 (VlsSlot (Mut M KL) x.vs) (f := 149) (args := #[.slice x.A x.n x.c]) rfl rfl rfl rfl (fun wv => ?_) (fun wv HC hrm hD => ?_) ?_
      · go_simp <;> rfl
      · refine (cloneVls_any _ wv HC.mutLt x.A x.n x.c x.vs (HRX.out _ HC) hxn).mono ?_
        rintro e w5 ⟨A5, n5, c5, rfl, h50, h51, h52, h53, b5⟩
        exact ⟨_, rfl, ⟨A5, n5, c5, rfl, h50, h51, h52, h53⟩, HC.call b5, RM.below b5⟩
      rintro x_ wx HCx ⟨A5, n5, c5, rfl, h50, h51, h52, h53⟩
      simp only [Act.put, zl]
      have H50 := hid h50
      clear HCx h53 h50
      refine dw_valC 25 (RowSlot (Mut M KL) x.id x.vs) rfl rfl rfl rfl (.agg #[.int .i64 x.id, .slice A5 n5 c5]) (fun wv HC => ?_) (fun wv HC hD => ?_) ?_
      · go_simp <;> rfl
      · have hsl : VlsSlot (Mut M KL) x.vs (.slice A5 n5 c5) wv := deps_at hD 5 rfl (by kernel_rfl) rfl rfl
        obtain ⟨A6, n6, c6, e6, h1, h2, h3, h4⟩ := hsl
        exact ⟨A6, n6, c6, by rw [e6], h1, h2, h3, h4⟩
      simp only [Act.put, zl]
      refine dw_new #[.int .i64 x.id, .slice A5 n5 c5] 119 26 (RBoxSlot (Mut M KL) x.id x.vs) (fun g => .slice (some ⟨g, 0, none⟩) 1 1) rfl rfl rfl rfl (fun wv => ?_) (fun wv HC _hrm hD hro => ?_) ?_
      · go_simp <;> rfl
      · have hsl : RowSlot (Mut M KL) x.id x.vs (.agg #[.int .i64 x.id, .slice A5 n5 c5]) wv := deps_at hD 6 rfl (by kernel_rfl) rfl rfl
        obtain ⟨A6, n6, c6, e6, h1, h2, h3, h4⟩ := hsl
        obtain ⟨rfl, rfl, rfl⟩ : A5 = A6 ∧ n5 = n6 ∧ c5 = c6 := by
          injection e6 with e6
          simp at e6
          exact e6
        exact ⟨_, A5, n5, c5, rfl, h1, h2, h3, h4.step (by simp) (fun b hb _ => Below.heap_alloc wv _ b hb) (fun _ _ h => h), ro_block (hro _ HC.mutLt) rfl⟩
      rintro g2 wg HCg hsl
      simp only [Act.put, zl]
      clear hsl HCg
      refine rel_nil ?_
      rintro wx2 HX
      rintro _hrm HGW
      have hb2 : RBoxSlot (Mut M KL) x.id x.vs (.slice (some ⟨g2, 0, none⟩) 1 1) wx2 := (GW_on (d := 26) rfl).1 (HGW 7 _ rfl (by omega))
      clear HGW _hrm
      obtain ⟨g3, A6, n6, c6, e6, k0_, k1_, k2_, k3_, k4_⟩ := hb2
      obtain rfl : g2 = g3 := by injection e6 with e6; injection e6 with e6; injection e6
      clear e6
      rw [HKL.out] at HX k3_
      have k5 := hid k4_.now
      have HK0 := hid k0_
      clear k4_ k0_ HF HRX KN
      have HRS := hid (show rwCells outs ++ [.int .i64 x.id, .slice A6 n6 c6] = rwCells (outs ++ [⟨x.id, A6, n6, c6, x.vs⟩]) from rwCells_snoc1 _ _ _ _ _ _)
      have KA := HX.add k3_
      clear HX k3_
      have FKA := KA.facts
      simp only [factsL, cellsF, Nat.reduceAdd, zf, zl] at FKA
      go_wp2_with (at_builtin; go_must (refine wpList_appAllH KA 3 rfl Tryz.elRw k5.out rfl (.tmp 19) (.tmp 26) rfl rfl rfl (by intro z hz; simp at hz; rcases hz with rfl | rfl <;> rfl) (by omega) (by omega) ?_); intro C' cap' w6 hc6 hm6 KB; rw [HRS.out] at KB; simp only [List.set_cons_zero, List.set_cons_succ] at KB; (have F3 := KB.facts); simp only [factsL, cellsF, Nat.reduceAdd, zf, zl] at F3)
      have KE := (KB.swapRo 4 rfl (vals_snoc (r := ⟨x.id, A6, n6, c6, x.vs⟩) (KB.ro 4 rfl) (KB.ro 0 rfl))).drop (List.Sublist.cons _ (List.Sublist.cons _ (List.sublist_cons_self _ _)))
      have HW2 := hid (rowsCopy_step (A := A6) HW.out HXG.out HXO.out k1_ k2_ (by rw [HK0.out, HXL.out]; exact HXO.out.2))
      go_roundw
      case rel => exact ⟨j + 1, cap', C', _, by omega, by go_num, by first | rfl | trivial, HW2, KE⟩
      case measure => simp [intOf]; omega
    · obtain rfl : m = j := by omega
      have hd : decide ((m : Int) < (m : Int)) = false := by simp
      have F := H.facts
      simp only [factsL, cellsF, Nat.reduceAdd, zf, zl] at F
      have N := H.nes
      simp only [World.size_alloc, nesL, neF, List.set_cons_zero, List.set_cons_succ, and_true, true_and] at N
      have hcap := own_caps (H.get 0 rfl)
      have KS := H.sealRow 0 rfl
      simp only [List.set_cons_zero] at KS
      have KN := ((((KS.store 4 rfl 3 (.slice O m cap)).store 3 rfl 0 (.string nm)).store 3 rfl 1 (.slice C9 n9 cap9)).store 3 rfl 2 (.int .i64 nx)).store 3 rfl 3 (.slice O m cap)
      have r0 := KN.roOut 2 rfl
      have r1 := (KN.roOut 0 rfl).and (KN.roOut 1 rfl)
      have HW2 := hid (show outs.map Rw.row = l.map Rw.row by have h := HW.out.1; rwa [List.take_of_length_le (by rw [HRL.out]; exact Nat.le_refl _)] at h)
      go_wp2_with fail
      exact bodyPost_ret (v := .agg #[.string nm, .slice C9 n9 cap9, .int .i64 nx, .slice O m cap]) (by simp [results, Tryz.results93, go_sem, F, N]) rfl ⟨⟨nm, C9, n9, cap9, cs, nx, O, m, cap, outs⟩, rfl, by simp only [Te.tb, HW2.out], ⟨hc9, hm9, hcap.1, hcap.2.1, fun r hr => (HW.out.2 r hr).1⟩, r0.and r1, KN.below⟩
end Go.Proofs.YtedogodccblfeaaGreatDoor

namespace Go.Proofs.YtedogodccblfeaaGreatDoor
open Go.RowKit
set_option linter.unusedVariables false
set_option linter.unusedSimpArgs false

theorem Tryz.elIntC : ElemT Tryz.prog 22 3 1 8 (.int .i64 0) := ⟨Tryz.underlying22, by kernel_rfl, rfl, by omega⟩
def OwnIs (w : World) (l : List Int) (e : Ending) (w' : World) : Prop :=
  ∃ (A : Option Addr) (n c : Nat), e = .returned (.slice A n c) ∧ n = l.length ∧ w'.ownsRow w.heap.size 3 1 (.slice A n c) n (iCells l) ∧ Below w.heap.size w w'
theorem one_is (l : List Int) : ∀ u ∈ iCells l, u.oneCell' = true := fun u hu => by
  obtain ⟨x, _, rfl⟩ := List.mem_map.1 hu
  rfl
set_option maxHeartbeats 4000000 in
set_option maxRecDepth 100000 in
theorem scloneI_any (w : World) (A : Option Addr) (n c : Nat) (l : List Int) (hD : IsIn A n l w) (hn : n ≤ 1000000000000) :
    Calls Tryz.prog 187 #[.slice A n c] w fun e w' => OwnIs w l e w' := by
  have hl := hid hD.len
  have hq : ∀ (w : World) (a : Option Addr) (n c : Nat), (binOp .eql 22 (.slice a n c) (.slice none 0 0)).run Tryz.prog w = .ok (.bool a.isNone) w := fun w a n c => Go.Lib.run_eql_slice_nil w _ _ a n c 0 0 Tryz.underlying22
  rcases A with _ | a
  · have h0 : n = 0 := by
      rcases Nat.eq_zero_or_pos n with h | h
      · exact h
      · obtain ⟨_, _, e, _⟩ := (show Rd w w.heap.size 1 none n (iCells l) from hD).2 h; cases e
    subst h0
    obtain rfl : l = [] := List.length_eq_zero_iff.1 hl.out
    go_enter Tryz.func187, Tryz.ntmps187
    go_wp2_with fail
    go_ret
    exact ⟨none, 0, 0, rfl, rfl, World.ownsRow_nil _ _ _ _, Below.refl _ _⟩
  · have K0 := (Hold.start None_ w (fun b hb => hb.elim)).add (show Ro w _ (IsIn (some a) n l) from Rd.ro hD (Nat.le_refl _) (by simp [Mut, None_]))
    have K1 := K0.alloc_own #[] 3 1 0 (by unfold maxLen; omega) rfl
    have hr := hid (show IsIn (some a) n l _ from (K1.ro 1 rfl).now)
    have h1 := hid (one_is l)
    go_enter Tryz.func187, Tryz.ntmps187
    go_wp2_with (at_builtin; go_must (refine wpList_appAllH K1 0 rfl Tryz.elIntC hr.out rfl (.tmp 5) (.tmp 6) rfl rfl rfl h1.out (by omega) (by omega) ?_); intro C' cap' w2 hc1 hm1 K2)
    go_ret
    have hb := K2.below
    have ho := K2.get 0 rfl
    simp only [Nat.zero_add, List.nil_append] at ho
    exact ⟨C', n, cap', by first | rfl | simp, hl.out.symm, ho, hb⟩
end Go.Proofs.YtedogodccblfeaaGreatDoor

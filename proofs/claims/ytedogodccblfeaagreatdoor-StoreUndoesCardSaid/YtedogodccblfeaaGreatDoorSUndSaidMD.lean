/- RKeys1: ref7.has, ref7.find. -/
import Derived.Test.YtedogodccblfeaaGreatDoorSUndSaidMB
import Derived.Test.YtedogodccblfeaaGreatDoorSUndSaidMA
import Derived.Shelf.Small.Strs
import Derived.Ground.NamesProg
import Derived.IntWalk
import Derived.Test.YtedogodccblfeaaGreatDoorSUndSaidMC
namespace Go.Proofs.YtedogodccblfeaaGreatDoor
open Go.RowKit
set_option linter.unusedVariables false
set_option linter.unusedSimpArgs false
set_option maxHeartbeats 4000000 in
set_option maxRecDepth 100000 in
theorem rtvalid_any (M : Nat → Prop) (w : World) (hM : ∀ b, M b → b < w.heap.size) (nm : ByteArray) (A : Option Addr) (n c : Nat) (cs : List Col) (nx : Int) (B : Option Addr) (m d : Nat) (l : List Rw) (hD : Ro w M (SlR 4 A n (colCells cs))) (hE : Ro w M (RwsIn B m l)) (hn : n ≤ 9223372036854775807) (hm : m ≤ 4611686018427387904) (hok : ∀ r ∈ l, r.ok) (hs : nm.size ≤ maxLen) (hcs : ∀ x ∈ cs, x.name.size ≤ maxLen) :
    Calls Tryz.prog 58 #[.agg #[.string nm, .slice A n c, .int .i64 nx, .slice B m d]] w fun e w' => e = .returned (.bool (tabB nm cs nx (l.map Rw.row))) ∧ Below w.heap.size w w' := by
  have HL := hid hE.now.len
  have HML := hid (show (l.map Rw.row).length = m by rw [List.length_map, HL.out])
  have K0 := (((Hold.start M w hM).add (hE.less (by simp [Mut]))).add (hD.less (by simp [Mut, Hp.foot]))).alloc_cst #[.string nm, .slice A n c, .int .i64 nx, .slice B m d] 58
  have F0 := K0.facts
  simp only [World.size_alloc, World.size_drew, factsL, cellsF, Nat.reduceAdd, List.toList_toArray, List.set_cons_zero, List.set_cons_succ, List.setIfInBounds_toArray, and_true, true_and] at F0
  clear hD hE
  go_enter Tryz.func58, Tryz.ntmps58
  go_wp2_with fail
  refine (rsvalid_any _ _ K0.mutLt nm A n c cs (K0.ro 1 rfl) hn hs hcs).mono ?_
  rintro e w1 ⟨rfl, b1⟩
  have K1 := K0.call b1
  clear K0 b1 F0
  have F1 := K1.facts
  simp only [World.size_alloc, World.size_drew, factsL, cellsF, Nat.reduceAdd, List.toList_toArray, List.set_cons_zero, List.set_cons_succ, List.setIfInBounds_toArray, and_true, true_and] at F1
  cases hsb : schemaB nm cs
  · have HN := hid (show tabB nm cs nx (l.map Rw.row) = false from tabB_1 hsb)
    go_wp2_with fail
    go_ret
    exact ⟨by rw [HN.out] <;> rfl, K1.below⟩
  have HSB := hid hsb; clear hsb
  by_cases h1 : 100 < m
  · have h1d : decide ((m : Int) > 100) = true := by simp; omega
    have HN := hid (show tabB nm cs nx (l.map Rw.row) = false from tabB_2 (by rw [HML.out]; exact h1))
    go_wp2_with fail
    go_ret
    exact ⟨by rw [HN.out] <;> rfl, K1.below⟩
  have h1d : decide ((m : Int) > 100) = false := by simp; omega
  by_cases h2 : nx < 1
  · have h2d : decide (nx < 1) = true := by simpa using h2
    have HN := hid (show tabB nm cs nx (l.map Rw.row) = false from tabB_3 h2)
    go_wp2_with fail
    go_ret
    exact ⟨by rw [HN.out] <;> rfl, K1.below⟩
  have h2d : decide (nx < 1) = false := by simpa using h2
  by_cases h3 : 2147483648 < nx
  · have h3d : decide (nx > 2147483648) = true := by simpa using h3
    have HN := hid (show tabB nm cs nx (l.map Rw.row) = false from tabB_4 h3)
    go_wp2_with fail
    go_ret
    exact ⟨by rw [HN.out] <;> rfl, K1.below⟩
  have h3d : decide (nx > 2147483648) = false := by simpa using h3
  go_wp2_with fail
  clear F1
  go_loopw [28] (fun iv wr => ∃ (j : Nat) (lst : Int), j ≤ m ∧ iv = .int .i64 j ∧ 0 ≤ lst ∧ Hid ((j = 0 → lst = 0) ∧ ∀ p, j = p + 1 → ∃ r : Rw, l[p]? = some r ∧ r.id = lst) ∧ Hid (okR cs nx 0 (l.map Rw.row) = okR cs nx lst ((l.map Rw.row).drop j)) ∧ Hold M none w wr [.cst w.heap.size 58 #[.string nm, .slice A n c, .int .i64 nx, .slice B m d], .ro (SlR 4 A n (colCells cs)), .ro (RwsIn B m l)]) (fun iv _ => m - (intOf iv).toNat)
  case atStart => exact ⟨0, 0, by omega, rfl, by omega, hid ⟨fun _ => rfl, fun p hp => by omega⟩, hid rfl, K1⟩
  case round =>
    clear K1
    obtain ⟨j, lst, hj, rfl, hl0, HP, HS, H⟩ := hrel
    by_cases hlt : j < m
    · have hdd : decide ((j : Int) < (m : Int)) = true := by simp; omega
      have j0 : (0 : Int) ≤ (j : Int) := by omega
      obtain ⟨x, hx⟩ := get_of HL.out hlt
      obtain ⟨g, o, rfl, hgb, c0, c1, hvi⟩ := (H.ro 2 rfl).now.at_ hx
      have hrok := hok x (List.mem_of_getElem? hx)
      have HX := hid (show (l.map Rw.row)[j]? = some (x.id, x.vs) by simp [hx, Rw.row])
      have HXM := hid (List.mem_of_getElem? hx)
      have HXL := hid hx
      have K2 := H.alloc_cst #[.int .i64 x.id, .slice x.A x.n x.c] 119
      clear hx
      have hxn : x.n ≤ 9223372036854775807 := Nat.le_trans hrok.nc hrok.c
      by_cases a1 : x.id < 1
      · have a1d : decide (x.id < 1) = true := by simpa using a1
        have HN := hid (show tabB nm cs nx (l.map Rw.row) = false from tabB_5 (by rw [HS.out]; exact okR_bad HX.out (.inl (show x.id ≤ lst by omega))))
        clear a1
        obtain ⟨gb, hgb2⟩ : ∃ gb, gb = wr.heap.size := ⟨_, rfl⟩
        obtain ⟨KL, hKL⟩ : ∃ KL : List Hp, KL = [Hp.cst wr.heap.size 119 #[.int .i64 x.id, .slice x.A x.n x.c], .cst w.heap.size 58 #[.string nm, .slice A n c, .int .i64 nx, .slice (some ⟨g, o, none⟩) m d], .ro (SlR 4 A n (colCells cs)), .ro (RwsIn (some ⟨g, o, none⟩) m l)] := ⟨_, rfl⟩
        rw [← hKL] at K2
        rw [← hgb2] at hKL
        have HF : Hid (∀ wv, Hold M none w wv KL → wv.cell? ⟨gb, 0, none⟩ = some (.int .i64 x.id) ∧ wv.cell? ⟨gb, 1, none⟩ = some (.slice x.A x.n x.c) ∧ gb < wv.heap.size ∧ wv.cell? ⟨w.heap.size, 0, none⟩ = some (.string nm) ∧ wv.cell? ⟨w.heap.size, 1, none⟩ = some (.slice A n c) ∧ wv.cell? ⟨w.heap.size, 2, none⟩ = some (.int .i64 nx) ∧ wv.cell? ⟨w.heap.size, 3, none⟩ = some (.slice (some ⟨g, o, none⟩) m d) ∧ w.heap.size < wv.heap.size) := hid fun wv HC => by
          rw [hKL] at HC
          have b0 := HC.cst_ 0 rfl
          have b1 := HC.cst_ 1 rfl
          exact ⟨cell_of_row _ _ 0 _ _ _ b0, cell_of_row _ _ 1 _ _ _ b0, Blk.lt b0, cell_of_row _ _ 0 _ _ _ b1, cell_of_row _ _ 1 _ _ _ b1, cell_of_row _ _ 2 _ _ _ b1, cell_of_row _ _ 3 _ _ _ b1, Blk.lt b1⟩
        have HKL : Hid (∀ wv, Hold M none w wv KL → Ro wv (Mut M KL) (SlR 4 A n (colCells cs)) ∧ Ro wv (Mut M KL) (VlsIn x.A x.n x.vs)) := hid fun wv HC => by
          rw [hKL] at HC ⊢
          exact ⟨HC.ro 2 rfl, (HC.ro 3 rfl).imp fun w2 h2 => h2.2 x HXM.out⟩
        go_wp2_with fail
        rw [← hgb2]
        have HGB := hid hgb2
        have HKE := hid hKL
        clear hgb2 hKL
        generalize wr.alloc (.cells #[.int .i64 x.id, .slice x.A x.n x.c] 119) = w2 at *
        refine wp_region_any (by kernel_rfl) ?_
        refine wpAny_hold 33 71 (KL) (spL []) (by kernel_rfl) (by kernel_rfl) (by kernel_rfl) rfl ?_ (K2.drew) ?_
        · exact stays_nil _
        simp only [List.take_succ_cons, List.take_zero, List.drop_succ_cons, List.drop_zero, Act.put, List.getElem_toArray, List.getElem_cons_zero, List.getElem_cons_succ, List.setIfInBounds_toArray, List.set_cons_succ, List.set_cons_zero]
        refine dw_val rfl rfl rfl ?_; apply Exists.intro; refine ⟨fun wv HC => ?_, ?_⟩
        · obtain ⟨f0, f1, f2, f3, f4, f5, f6, f7⟩ := HF.out _ HC; go_simp <;> rfl
        simp only [Act.put, List.setIfInBounds_toArray, List.set_cons_succ, List.set_cons_zero]
        refine dw_val rfl rfl rfl ?_; apply Exists.intro; refine ⟨fun wv HC => ?_, ?_⟩
        · obtain ⟨f0, f1, f2, f3, f4, f5, f6, f7⟩ := HF.out _ HC; go_simp <;> rfl
        simp only [Act.put, List.setIfInBounds_toArray, List.set_cons_succ, List.set_cons_zero]
        refine dw_val rfl rfl rfl ?_; apply Exists.intro; refine ⟨fun wv HC => ?_, ?_⟩
        · obtain ⟨f0, f1, f2, f3, f4, f5, f6, f7⟩ := HF.out _ HC; go_simp <;> rfl
        simp only [Act.put, List.setIfInBounds_toArray, List.set_cons_succ, List.set_cons_zero]
        refine dw_val rfl rfl rfl ?_; apply Exists.intro; refine ⟨fun wv HC => ?_, ?_⟩
        · obtain ⟨f0, f1, f2, f3, f4, f5, f6, f7⟩ := HF.out _ HC; go_simp <;> rfl
        simp only [Act.put, List.setIfInBounds_toArray, List.set_cons_succ, List.set_cons_zero]
        refine dw_skip rfl rfl rfl ?_
        simp only [Act.put, List.setIfInBounds_toArray, List.set_cons_succ, List.set_cons_zero]
        refine dw_skip rfl rfl rfl ?_
        simp only [Act.put, List.setIfInBounds_toArray, List.set_cons_succ, List.set_cons_zero]
        refine dw_skip rfl rfl rfl ?_
        simp only [Act.put, List.setIfInBounds_toArray, List.set_cons_succ, List.set_cons_zero]
        refine dw_skip rfl rfl rfl ?_
        simp only [Act.put, List.setIfInBounds_toArray, List.set_cons_succ, List.set_cons_zero]
        refine dw_skip rfl rfl rfl ?_
        simp only [Act.put, List.setIfInBounds_toArray, List.set_cons_succ, List.set_cons_zero]
        refine dw_val rfl rfl rfl ?_; apply Exists.intro; refine ⟨fun wv HC => ?_, ?_⟩
        · obtain ⟨f0, f1, f2, f3, f4, f5, f6, f7⟩ := HF.out _ HC; go_simp <;> rfl
        simp only [Act.put, List.setIfInBounds_toArray, List.set_cons_succ, List.set_cons_zero]
        refine dw_val rfl rfl rfl ?_; apply Exists.intro; refine ⟨fun wv HC => ?_, ?_⟩
        · obtain ⟨f0, f1, f2, f3, f4, f5, f6, f7⟩ := HF.out _ HC; go_simp <;> rfl
        simp only [Act.put, List.setIfInBounds_toArray, List.set_cons_succ, List.set_cons_zero]
        refine dw_skip rfl rfl rfl ?_
        simp only [Act.put, List.setIfInBounds_toArray, List.set_cons_succ, List.set_cons_zero]
        refine dw_skip rfl rfl rfl ?_
        simp only [Act.put, List.setIfInBounds_toArray, List.set_cons_succ, List.set_cons_zero]
        refine dw_skip rfl rfl rfl ?_
        simp only [Act.put, List.setIfInBounds_toArray, List.set_cons_succ, List.set_cons_zero]
        refine dw_skip rfl rfl rfl ?_
        simp only [Act.put, List.setIfInBounds_toArray, List.set_cons_succ, List.set_cons_zero]
        refine dw_skip rfl rfl rfl ?_
        simp only [Act.put, List.setIfInBounds_toArray, List.set_cons_succ, List.set_cons_zero]
        refine dw_skip rfl rfl rfl ?_
        simp only [Act.put, List.setIfInBounds_toArray, List.set_cons_succ, List.set_cons_zero]
        refine dw_skip rfl rfl rfl ?_
        simp only [Act.put, List.setIfInBounds_toArray, List.set_cons_succ, List.set_cons_zero]
        refine dw_skip rfl rfl rfl ?_
        simp only [Act.put, List.setIfInBounds_toArray, List.set_cons_succ, List.set_cons_zero]
        refine dw_skip rfl rfl rfl ?_
        simp only [Act.put, List.setIfInBounds_toArray, List.set_cons_succ, List.set_cons_zero]
        refine dw_skip rfl rfl rfl ?_
        simp only [Act.put, List.setIfInBounds_toArray, List.set_cons_succ, List.set_cons_zero]
        refine dw_skip rfl rfl rfl ?_
        simp only [Act.put, List.setIfInBounds_toArray, List.set_cons_succ, List.set_cons_zero]
        refine dw_skip rfl rfl rfl ?_
        simp only [Act.put, List.setIfInBounds_toArray, List.set_cons_succ, List.set_cons_zero]
        refine dw_skip rfl rfl rfl ?_
        simp only [Act.put, List.setIfInBounds_toArray, List.set_cons_succ, List.set_cons_zero]
        refine dw_skip rfl rfl rfl ?_
        simp only [Act.put, List.setIfInBounds_toArray, List.set_cons_succ, List.set_cons_zero]
        refine dw_val rfl rfl rfl ?_; apply Exists.intro; refine ⟨fun wv HC => ?_, ?_⟩
        · obtain ⟨f0, f1, f2, f3, f4, f5, f6, f7⟩ := HF.out _ HC; go_simp <;> rfl
        simp only [Act.put, List.setIfInBounds_toArray, List.set_cons_succ, List.set_cons_zero]
        refine dw_val rfl rfl rfl ?_; apply Exists.intro; refine ⟨fun wv HC => ?_, ?_⟩
        · obtain ⟨f0, f1, f2, f3, f4, f5, f6, f7⟩ := HF.out _ HC; go_simp <;> rfl
        simp only [Act.put, List.setIfInBounds_toArray, List.set_cons_succ, List.set_cons_zero]
        refine dw_skip rfl rfl rfl ?_
        simp only [Act.put, List.setIfInBounds_toArray, List.set_cons_succ, List.set_cons_zero]
        refine dw_skip rfl rfl rfl ?_
        simp only [Act.put, List.setIfInBounds_toArray, List.set_cons_succ, List.set_cons_zero]
        refine dw_skip rfl rfl rfl ?_
        simp only [Act.put, List.setIfInBounds_toArray, List.set_cons_succ, List.set_cons_zero]
        refine dw_skip rfl rfl rfl ?_
        simp only [Act.put, List.setIfInBounds_toArray, List.set_cons_succ, List.set_cons_zero]
        refine dw_skip rfl rfl rfl ?_
        simp only [Act.put, List.setIfInBounds_toArray, List.set_cons_succ, List.set_cons_zero]
        refine dw_skip rfl rfl rfl ?_
        simp only [Act.put, List.setIfInBounds_toArray, List.set_cons_succ, List.set_cons_zero]
        refine rel_nil ?_
        rintro wx2 HX2
        rintro _hrm _HG
        rw [HKE.out] at HX2
        clear _hrm _HG
        go_wp2_with fail
        go_ret
        exact ⟨by rw [HN.out] <;> rfl, HX2.below⟩
      have a1d : decide (x.id < 1) = false := by simpa using a1
      by_cases a2 : nx ≤ x.id
      · have a2d : decide (x.id ≥ nx) = true := by simpa using a2
        have HN := hid (show tabB nm cs nx (l.map Rw.row) = false from tabB_5 (by rw [HS.out]; exact okR_bad HX.out (.inr (.inl a2))))
        clear a1 a2
        obtain ⟨gb, hgb2⟩ : ∃ gb, gb = wr.heap.size := ⟨_, rfl⟩
        obtain ⟨KL, hKL⟩ : ∃ KL : List Hp, KL = [Hp.cst wr.heap.size 119 #[.int .i64 x.id, .slice x.A x.n x.c], .cst w.heap.size 58 #[.string nm, .slice A n c, .int .i64 nx, .slice (some ⟨g, o, none⟩) m d], .ro (SlR 4 A n (colCells cs)), .ro (RwsIn (some ⟨g, o, none⟩) m l)] := ⟨_, rfl⟩
        rw [← hKL] at K2
        rw [← hgb2] at hKL
        have HF : Hid (∀ wv, Hold M none w wv KL → wv.cell? ⟨gb, 0, none⟩ = some (.int .i64 x.id) ∧ wv.cell? ⟨gb, 1, none⟩ = some (.slice x.A x.n x.c) ∧ gb < wv.heap.size ∧ wv.cell? ⟨w.heap.size, 0, none⟩ = some (.string nm) ∧ wv.cell? ⟨w.heap.size, 1, none⟩ = some (.slice A n c) ∧ wv.cell? ⟨w.heap.size, 2, none⟩ = some (.int .i64 nx) ∧ wv.cell? ⟨w.heap.size, 3, none⟩ = some (.slice (some ⟨g, o, none⟩) m d) ∧ w.heap.size < wv.heap.size) := hid fun wv HC => by
          rw [hKL] at HC
          have b0 := HC.cst_ 0 rfl
          have b1 := HC.cst_ 1 rfl
          exact ⟨cell_of_row _ _ 0 _ _ _ b0, cell_of_row _ _ 1 _ _ _ b0, Blk.lt b0, cell_of_row _ _ 0 _ _ _ b1, cell_of_row _ _ 1 _ _ _ b1, cell_of_row _ _ 2 _ _ _ b1, cell_of_row _ _ 3 _ _ _ b1, Blk.lt b1⟩
        have HKL : Hid (∀ wv, Hold M none w wv KL → Ro wv (Mut M KL) (SlR 4 A n (colCells cs)) ∧ Ro wv (Mut M KL) (VlsIn x.A x.n x.vs)) := hid fun wv HC => by
          rw [hKL] at HC ⊢
          exact ⟨HC.ro 2 rfl, (HC.ro 3 rfl).imp fun w2 h2 => h2.2 x HXM.out⟩
        go_wp2_with fail
        rw [← hgb2]
        have HGB := hid hgb2
        have HKE := hid hKL
        clear hgb2 hKL
        generalize wr.alloc (.cells #[.int .i64 x.id, .slice x.A x.n x.c] 119) = w2 at *
        refine wp_region_any (by kernel_rfl) ?_
        refine wpAny_hold 33 71 (KL) (spL []) (by kernel_rfl) (by kernel_rfl) (by kernel_rfl) rfl ?_ (K2.drew) ?_
        · exact stays_nil _
        simp only [List.take_succ_cons, List.take_zero, List.drop_succ_cons, List.drop_zero, Act.put, List.getElem_toArray, List.getElem_cons_zero, List.getElem_cons_succ, List.setIfInBounds_toArray, List.set_cons_succ, List.set_cons_zero]
        refine dw_val rfl rfl rfl ?_; apply Exists.intro; refine ⟨fun wv HC => ?_, ?_⟩
        · obtain ⟨f0, f1, f2, f3, f4, f5, f6, f7⟩ := HF.out _ HC; go_simp <;> rfl
        simp only [Act.put, List.setIfInBounds_toArray, List.set_cons_succ, List.set_cons_zero]
        refine dw_val rfl rfl rfl ?_; apply Exists.intro; refine ⟨fun wv HC => ?_, ?_⟩
        · obtain ⟨f0, f1, f2, f3, f4, f5, f6, f7⟩ := HF.out _ HC; go_simp <;> rfl
        simp only [Act.put, List.setIfInBounds_toArray, List.set_cons_succ, List.set_cons_zero]
        refine dw_val rfl rfl rfl ?_; apply Exists.intro; refine ⟨fun wv HC => ?_, ?_⟩
        · obtain ⟨f0, f1, f2, f3, f4, f5, f6, f7⟩ := HF.out _ HC; go_simp <;> rfl
        simp only [Act.put, List.setIfInBounds_toArray, List.set_cons_succ, List.set_cons_zero]
        refine dw_val rfl rfl rfl ?_; apply Exists.intro; refine ⟨fun wv HC => ?_, ?_⟩
        · obtain ⟨f0, f1, f2, f3, f4, f5, f6, f7⟩ := HF.out _ HC; go_simp <;> rfl
        simp only [Act.put, List.setIfInBounds_toArray, List.set_cons_succ, List.set_cons_zero]
        refine dw_val rfl rfl rfl ?_; apply Exists.intro; refine ⟨fun wv HC => ?_, ?_⟩
        · obtain ⟨f0, f1, f2, f3, f4, f5, f6, f7⟩ := HF.out _ HC; go_simp <;> rfl
        simp only [Act.put, List.setIfInBounds_toArray, List.set_cons_succ, List.set_cons_zero]
        refine dw_val rfl rfl rfl ?_; apply Exists.intro; refine ⟨fun wv HC => ?_, ?_⟩
        · obtain ⟨f0, f1, f2, f3, f4, f5, f6, f7⟩ := HF.out _ HC; go_simp <;> rfl
        simp only [Act.put, List.setIfInBounds_toArray, List.set_cons_succ, List.set_cons_zero]
        refine dw_val rfl rfl rfl ?_; apply Exists.intro; refine ⟨fun wv HC => ?_, ?_⟩
        · obtain ⟨f0, f1, f2, f3, f4, f5, f6, f7⟩ := HF.out _ HC; go_simp <;> rfl
        simp only [Act.put, List.setIfInBounds_toArray, List.set_cons_succ, List.set_cons_zero]
        refine dw_val rfl rfl rfl ?_; apply Exists.intro; refine ⟨fun wv HC => ?_, ?_⟩
        · obtain ⟨f0, f1, f2, f3, f4, f5, f6, f7⟩ := HF.out _ HC; go_simp <;> rfl
        simp only [Act.put, List.setIfInBounds_toArray, List.set_cons_succ, List.set_cons_zero]
        refine dw_val rfl rfl rfl ?_; apply Exists.intro; refine ⟨fun wv HC => ?_, ?_⟩
        · obtain ⟨f0, f1, f2, f3, f4, f5, f6, f7⟩ := HF.out _ HC; go_simp <;> rfl
        simp only [Act.put, List.setIfInBounds_toArray, List.set_cons_succ, List.set_cons_zero]
        refine dw_val rfl rfl rfl ?_; apply Exists.intro; refine ⟨fun wv HC => ?_, ?_⟩
        · obtain ⟨f0, f1, f2, f3, f4, f5, f6, f7⟩ := HF.out _ HC; go_simp <;> rfl
        simp only [Act.put, List.setIfInBounds_toArray, List.set_cons_succ, List.set_cons_zero]
        refine dw_val rfl rfl rfl ?_; apply Exists.intro; refine ⟨fun wv HC => ?_, ?_⟩
        · obtain ⟨f0, f1, f2, f3, f4, f5, f6, f7⟩ := HF.out _ HC; go_simp <;> rfl
        simp only [Act.put, List.setIfInBounds_toArray, List.set_cons_succ, List.set_cons_zero]
        refine dw_skip rfl rfl rfl ?_
        simp only [Act.put, List.setIfInBounds_toArray, List.set_cons_succ, List.set_cons_zero]
        refine dw_skip rfl rfl rfl ?_
        simp only [Act.put, List.setIfInBounds_toArray, List.set_cons_succ, List.set_cons_zero]
        refine dw_skip rfl rfl rfl ?_
        simp only [Act.put, List.setIfInBounds_toArray, List.set_cons_succ, List.set_cons_zero]
        refine dw_skip rfl rfl rfl ?_
        simp only [Act.put, List.setIfInBounds_toArray, List.set_cons_succ, List.set_cons_zero]
        refine dw_skip rfl rfl rfl ?_
        simp only [Act.put, List.setIfInBounds_toArray, List.set_cons_succ, List.set_cons_zero]
        refine dw_skip rfl rfl rfl ?_
        simp only [Act.put, List.setIfInBounds_toArray, List.set_cons_succ, List.set_cons_zero]
        refine dw_skip rfl rfl rfl ?_
        simp only [Act.put, List.setIfInBounds_toArray, List.set_cons_succ, List.set_cons_zero]
        refine dw_skip rfl rfl rfl ?_
        simp only [Act.put, List.setIfInBounds_toArray, List.set_cons_succ, List.set_cons_zero]
        refine dw_skip rfl rfl rfl ?_
        simp only [Act.put, List.setIfInBounds_toArray, List.set_cons_succ, List.set_cons_zero]
        refine dw_skip rfl rfl rfl ?_
        simp only [Act.put, List.setIfInBounds_toArray, List.set_cons_succ, List.set_cons_zero]
        refine dw_skip rfl rfl rfl ?_
        simp only [Act.put, List.setIfInBounds_toArray, List.set_cons_succ, List.set_cons_zero]
        refine dw_skip rfl rfl rfl ?_
        simp only [Act.put, List.setIfInBounds_toArray, List.set_cons_succ, List.set_cons_zero]
        refine dw_skip rfl rfl rfl ?_
        simp only [Act.put, List.setIfInBounds_toArray, List.set_cons_succ, List.set_cons_zero]
        refine dw_skip rfl rfl rfl ?_
        simp only [Act.put, List.setIfInBounds_toArray, List.set_cons_succ, List.set_cons_zero]
        refine dw_val rfl rfl rfl ?_; apply Exists.intro; refine ⟨fun wv HC => ?_, ?_⟩
        · obtain ⟨f0, f1, f2, f3, f4, f5, f6, f7⟩ := HF.out _ HC; go_simp <;> rfl
        simp only [Act.put, List.setIfInBounds_toArray, List.set_cons_succ, List.set_cons_zero]
        refine dw_val rfl rfl rfl ?_; apply Exists.intro; refine ⟨fun wv HC => ?_, ?_⟩
        · obtain ⟨f0, f1, f2, f3, f4, f5, f6, f7⟩ := HF.out _ HC; go_simp <;> rfl
        simp only [Act.put, List.setIfInBounds_toArray, List.set_cons_succ, List.set_cons_zero]
        refine dw_skip rfl rfl rfl ?_
        simp only [Act.put, List.setIfInBounds_toArray, List.set_cons_succ, List.set_cons_zero]
        refine dw_skip rfl rfl rfl ?_
        simp only [Act.put, List.setIfInBounds_toArray, List.set_cons_succ, List.set_cons_zero]
        refine dw_skip rfl rfl rfl ?_
        simp only [Act.put, List.setIfInBounds_toArray, List.set_cons_succ, List.set_cons_zero]
        refine dw_skip rfl rfl rfl ?_
        simp only [Act.put, List.setIfInBounds_toArray, List.set_cons_succ, List.set_cons_zero]
        refine dw_skip rfl rfl rfl ?_
        simp only [Act.put, List.setIfInBounds_toArray, List.set_cons_succ, List.set_cons_zero]
        refine dw_skip rfl rfl rfl ?_
        simp only [Act.put, List.setIfInBounds_toArray, List.set_cons_succ, List.set_cons_zero]
        refine rel_nil ?_
        rintro wx2 HX2
        rintro _hrm _HG
        rw [HKE.out] at HX2
        clear _hrm _HG
        go_wp2_with fail
        go_ret
        exact ⟨by rw [HN.out] <;> rfl, HX2.below⟩
      have a2d : decide (x.id ≥ nx) = false := by simpa using a2
      have HA := hid (show ¬ x.id < 1 ∧ ¬ nx ≤ x.id from ⟨a1, a2⟩)
      clear a1 a2
      rcases Nat.eq_zero_or_pos j with hj0 | hj0
      · have HL0 := hid (HP.out.1 hj0)
        have HJ0 := hid hj0
        have hj0d : decide ((j : Int) > 0) = false := by simp; omega
        have hj0d2 : decide (0 < j) = false := by simp; omega
        have hj0d3 : decide ((0 : Int) < (j : Int)) = false := by simp; omega
        clear hj0
        obtain ⟨gb, hgb2⟩ : ∃ gb, gb = wr.heap.size := ⟨_, rfl⟩
        obtain ⟨KL, hKL⟩ : ∃ KL : List Hp, KL = [Hp.cst wr.heap.size 119 #[.int .i64 x.id, .slice x.A x.n x.c], .cst w.heap.size 58 #[.string nm, .slice A n c, .int .i64 nx, .slice (some ⟨g, o, none⟩) m d], .ro (SlR 4 A n (colCells cs)), .ro (RwsIn (some ⟨g, o, none⟩) m l)] := ⟨_, rfl⟩
        rw [← hKL] at K2
        rw [← hgb2] at hKL
        have HF : Hid (∀ wv, Hold M none w wv KL → wv.cell? ⟨gb, 0, none⟩ = some (.int .i64 x.id) ∧ wv.cell? ⟨gb, 1, none⟩ = some (.slice x.A x.n x.c) ∧ gb < wv.heap.size ∧ wv.cell? ⟨w.heap.size, 0, none⟩ = some (.string nm) ∧ wv.cell? ⟨w.heap.size, 1, none⟩ = some (.slice A n c) ∧ wv.cell? ⟨w.heap.size, 2, none⟩ = some (.int .i64 nx) ∧ wv.cell? ⟨w.heap.size, 3, none⟩ = some (.slice (some ⟨g, o, none⟩) m d) ∧ w.heap.size < wv.heap.size) := hid fun wv HC => by
          rw [hKL] at HC
          have b0 := HC.cst_ 0 rfl
          have b1 := HC.cst_ 1 rfl
          exact ⟨cell_of_row _ _ 0 _ _ _ b0, cell_of_row _ _ 1 _ _ _ b0, Blk.lt b0, cell_of_row _ _ 0 _ _ _ b1, cell_of_row _ _ 1 _ _ _ b1, cell_of_row _ _ 2 _ _ _ b1, cell_of_row _ _ 3 _ _ _ b1, Blk.lt b1⟩
        have HKL : Hid (∀ wv, Hold M none w wv KL → Ro wv (Mut M KL) (SlR 4 A n (colCells cs)) ∧ Ro wv (Mut M KL) (VlsIn x.A x.n x.vs)) := hid fun wv HC => by
          rw [hKL] at HC ⊢
          exact ⟨HC.ro 2 rfl, (HC.ro 3 rfl).imp fun w2 h2 => h2.2 x HXM.out⟩
        go_wp2_with fail
        rw [← hgb2]
        have HGB := hid hgb2
        have HKE := hid hKL
        clear hgb2 hKL
        generalize wr.alloc (.cells #[.int .i64 x.id, .slice x.A x.n x.c] 119) = w2 at *
        refine wp_region_any (by kernel_rfl) ?_
        refine wpAny_hold 33 71 (KL) (spL [(64, IsV (.int .i64 (fitsT cs x.vs)))]) (by kernel_rfl) (by kernel_rfl) (by kernel_rfl) rfl ?_ (K2.drew) ?_
        · exact stays_cons isV_mono (stays_nil _)
        simp only [List.take_succ_cons, List.take_zero, List.drop_succ_cons, List.drop_zero, Act.put, List.getElem_toArray, List.getElem_cons_zero, List.getElem_cons_succ, List.setIfInBounds_toArray, List.set_cons_succ, List.set_cons_zero]
        refine dw_val rfl rfl rfl ?_; apply Exists.intro; refine ⟨fun wv HC => ?_, ?_⟩
        · obtain ⟨f0, f1, f2, f3, f4, f5, f6, f7⟩ := HF.out _ HC; go_simp <;> rfl
        simp only [Act.put, List.setIfInBounds_toArray, List.set_cons_succ, List.set_cons_zero]
        refine dw_val rfl rfl rfl ?_; apply Exists.intro; refine ⟨fun wv HC => ?_, ?_⟩
        · obtain ⟨f0, f1, f2, f3, f4, f5, f6, f7⟩ := HF.out _ HC; go_simp <;> rfl
        simp only [Act.put, List.setIfInBounds_toArray, List.set_cons_succ, List.set_cons_zero]
        refine dw_val rfl rfl rfl ?_; apply Exists.intro; refine ⟨fun wv HC => ?_, ?_⟩
        · obtain ⟨f0, f1, f2, f3, f4, f5, f6, f7⟩ := HF.out _ HC; go_simp <;> rfl
        simp only [Act.put, List.setIfInBounds_toArray, List.set_cons_succ, List.set_cons_zero]
        refine dw_val rfl rfl rfl ?_; apply Exists.intro; refine ⟨fun wv HC => ?_, ?_⟩
        · obtain ⟨f0, f1, f2, f3, f4, f5, f6, f7⟩ := HF.out _ HC; go_simp <;> rfl
        simp only [Act.put, List.setIfInBounds_toArray, List.set_cons_succ, List.set_cons_zero]
        refine dw_val rfl rfl rfl ?_; apply Exists.intro; refine ⟨fun wv HC => ?_, ?_⟩
        · obtain ⟨f0, f1, f2, f3, f4, f5, f6, f7⟩ := HF.out _ HC; go_simp <;> rfl
        simp only [Act.put, List.setIfInBounds_toArray, List.set_cons_succ, List.set_cons_zero]
        refine dw_val rfl rfl rfl ?_; apply Exists.intro; refine ⟨fun wv HC => ?_, ?_⟩
        · obtain ⟨f0, f1, f2, f3, f4, f5, f6, f7⟩ := HF.out _ HC; go_simp <;> rfl
        simp only [Act.put, List.setIfInBounds_toArray, List.set_cons_succ, List.set_cons_zero]
        refine dw_val rfl rfl rfl ?_; apply Exists.intro; refine ⟨fun wv HC => ?_, ?_⟩
        · obtain ⟨f0, f1, f2, f3, f4, f5, f6, f7⟩ := HF.out _ HC; go_simp <;> rfl
        simp only [Act.put, List.setIfInBounds_toArray, List.set_cons_succ, List.set_cons_zero]
        refine dw_val rfl rfl rfl ?_; apply Exists.intro; refine ⟨fun wv HC => ?_, ?_⟩
        · obtain ⟨f0, f1, f2, f3, f4, f5, f6, f7⟩ := HF.out _ HC; go_simp <;> rfl
        simp only [Act.put, List.setIfInBounds_toArray, List.set_cons_succ, List.set_cons_zero]
        refine dw_val rfl rfl rfl ?_; apply Exists.intro; refine ⟨fun wv HC => ?_, ?_⟩
        · obtain ⟨f0, f1, f2, f3, f4, f5, f6, f7⟩ := HF.out _ HC; go_simp <;> rfl
        simp only [Act.put, List.setIfInBounds_toArray, List.set_cons_succ, List.set_cons_zero]
        refine dw_val rfl rfl rfl ?_; apply Exists.intro; refine ⟨fun wv HC => ?_, ?_⟩
        · obtain ⟨f0, f1, f2, f3, f4, f5, f6, f7⟩ := HF.out _ HC; go_simp <;> rfl
        simp only [Act.put, List.setIfInBounds_toArray, List.set_cons_succ, List.set_cons_zero]
        refine dw_val rfl rfl rfl ?_; apply Exists.intro; refine ⟨fun wv HC => ?_, ?_⟩
        · obtain ⟨f0, f1, f2, f3, f4, f5, f6, f7⟩ := HF.out _ HC; go_simp <;> rfl
        simp only [Act.put, List.setIfInBounds_toArray, List.set_cons_succ, List.set_cons_zero]
        refine dw_val rfl rfl rfl ?_; apply Exists.intro; refine ⟨fun wv HC => ?_, ?_⟩
        · obtain ⟨f0, f1, f2, f3, f4, f5, f6, f7⟩ := HF.out _ HC; go_simp <;> rfl
        simp only [Act.put, List.setIfInBounds_toArray, List.set_cons_succ, List.set_cons_zero]
        refine dw_val rfl rfl rfl ?_; apply Exists.intro; refine ⟨fun wv HC => ?_, ?_⟩
        · obtain ⟨f0, f1, f2, f3, f4, f5, f6, f7⟩ := HF.out _ HC; go_simp <;> rfl
        simp only [Act.put, List.setIfInBounds_toArray, List.set_cons_succ, List.set_cons_zero]
        refine dw_val rfl rfl rfl ?_; apply Exists.intro; refine ⟨fun wv HC => ?_, ?_⟩
        · obtain ⟨f0, f1, f2, f3, f4, f5, f6, f7⟩ := HF.out _ HC; go_simp <;> rfl
        simp only [Act.put, List.setIfInBounds_toArray, List.set_cons_succ, List.set_cons_zero]
        refine dw_skip rfl rfl rfl ?_
        simp only [Act.put, List.setIfInBounds_toArray, List.set_cons_succ, List.set_cons_zero]
        refine dw_skip rfl rfl rfl ?_
        simp only [Act.put, List.setIfInBounds_toArray, List.set_cons_succ, List.set_cons_zero]
        refine dw_skip rfl rfl rfl ?_
        simp only [Act.put, List.setIfInBounds_toArray, List.set_cons_succ, List.set_cons_zero]
        refine dw_skip rfl rfl rfl ?_
        simp only [Act.put, List.setIfInBounds_toArray, List.set_cons_succ, List.set_cons_zero]
        refine dw_skip rfl rfl rfl ?_
        simp only [Act.put, List.setIfInBounds_toArray, List.set_cons_succ, List.set_cons_zero]
        refine dw_skip rfl rfl rfl ?_
        simp only [Act.put, List.setIfInBounds_toArray, List.set_cons_succ, List.set_cons_zero]
        refine dw_skip rfl rfl rfl ?_
        simp only [Act.put, List.setIfInBounds_toArray, List.set_cons_succ, List.set_cons_zero]
        refine dw_skip rfl rfl rfl ?_
        simp only [Act.put, List.setIfInBounds_toArray, List.set_cons_succ, List.set_cons_zero]
        refine dw_skip rfl rfl rfl ?_
        simp only [Act.put, List.setIfInBounds_toArray, List.set_cons_succ, List.set_cons_zero]
        refine dw_skip rfl rfl rfl ?_
        simp only [Act.put, List.setIfInBounds_toArray, List.set_cons_succ, List.set_cons_zero]
        refine dw_val rfl rfl rfl ?_; apply Exists.intro; refine ⟨fun wv HC => ?_, ?_⟩
        · obtain ⟨f0, f1, f2, f3, f4, f5, f6, f7⟩ := HF.out _ HC; go_simp <;> rfl
        simp only [Act.put, List.setIfInBounds_toArray, List.set_cons_succ, List.set_cons_zero]
        refine dw_val rfl rfl rfl ?_; apply Exists.intro; refine ⟨fun wv HC => ?_, ?_⟩
        · obtain ⟨f0, f1, f2, f3, f4, f5, f6, f7⟩ := HF.out _ HC; go_simp <;> rfl
        simp only [Act.put, List.setIfInBounds_toArray, List.set_cons_succ, List.set_cons_zero]
        refine dw_val rfl rfl rfl ?_; apply Exists.intro; refine ⟨fun wv HC => ?_, ?_⟩
        · obtain ⟨f0, f1, f2, f3, f4, f5, f6, f7⟩ := HF.out _ HC; go_simp <;> rfl
        simp only [Act.put, List.setIfInBounds_toArray, List.set_cons_succ, List.set_cons_zero]
        refine dw_val rfl rfl rfl ?_; apply Exists.intro; refine ⟨fun wv HC => ?_, ?_⟩
        · obtain ⟨f0, f1, f2, f3, f4, f5, f6, f7⟩ := HF.out _ HC; go_simp <;> rfl
        simp only [Act.put, List.setIfInBounds_toArray, List.set_cons_succ, List.set_cons_zero]
        refine dw_val rfl rfl rfl ?_; apply Exists.intro; refine ⟨fun wv HC => ?_, ?_⟩
        · obtain ⟨f0, f1, f2, f3, f4, f5, f6, f7⟩ := HF.out _ HC; go_simp <;> rfl
        simp only [Act.put, List.setIfInBounds_toArray, List.set_cons_succ, List.set_cons_zero]
        refine dw_val rfl rfl rfl ?_; apply Exists.intro; refine ⟨fun wv HC => ?_, ?_⟩
        · obtain ⟨f0, f1, f2, f3, f4, f5, f6, f7⟩ := HF.out _ HC; go_simp <;> rfl
        simp only [Act.put, List.setIfInBounds_toArray, List.set_cons_succ, List.set_cons_zero]
        refine dw_val rfl rfl rfl ?_; apply Exists.intro; refine ⟨fun wv HC => ?_, ?_⟩
        · obtain ⟨f0, f1, f2, f3, f4, f5, f6, f7⟩ := HF.out _ HC; go_simp <;> rfl
        simp only [Act.put, List.setIfInBounds_toArray, List.set_cons_succ, List.set_cons_zero]
        refine dw_callR 64 (IsV (.int .i64 (fitsT cs x.vs))) (f := 73) (args := #[.agg #[.string nm, .slice A n c], .slice x.A x.n x.c]) rfl rfl rfl rfl (fun wv => ?_) (fun wv HC hrm hD => ?_) ?_
        · go_simp <;> rfl
        · refine (rtfits_any _ _ HC.mutLt nm A n c cs x.A x.n x.c x.vs ((HKL.out wv HC).1) ((HKL.out wv HC).2) hn hxn hrok.vs).mono ?_
          rintro e w5 ⟨rfl, b5⟩
          exact ⟨_, rfl, rfl, HC.call b5, RM.below b5⟩
        rintro u wx HCx hu
        obtain rfl : u = _ := hu
        clear HCx
        simp only [Act.put, List.setIfInBounds_toArray, List.set_cons_succ, List.set_cons_zero]
        refine dw_val rfl rfl rfl ?_; apply Exists.intro; refine ⟨fun wv HC => ?_, ?_⟩
        · obtain ⟨f0, f1, f2, f3, f4, f5, f6, f7⟩ := HF.out _ HC; go_simp <;> rfl
        simp only [Act.put, List.setIfInBounds_toArray, List.set_cons_succ, List.set_cons_zero]
        refine rel_nil ?_
        rintro wx2 HX2
        rintro _hrm _HG
        rw [HKE.out] at HX2
        clear _hrm _HG
        by_cases a3 : fitsT cs x.vs = 0
        · have HS2 := hid (show okR cs nx 0 (l.map Rw.row) = okR cs nx x.id ((l.map Rw.row).drop (j + 1)) by rw [HS.out]; exact okR_good HX.out (by have := HL0.out; have := HA.out; omega) (by have := HA.out; omega) a3)
          have HP2 := hid (show (j + 1 = 0 → x.id = 0) ∧ ∀ q, j + 1 = q + 1 → ∃ r : Rw, l[q]? = some r ∧ r.id = x.id from ⟨fun h => by omega, fun q hq => ⟨x, (show j = q by omega) ▸ HXL.out, rfl⟩⟩)
          have h0x : 0 ≤ x.id := by have := HA.out; omega
          rw [a3]
          clear a3
          go_wp2_with fail
          go_roundw
          case rel => exact ⟨j + 1, x.id, by omega, by go_num, h0x, HP2, HS2, HX2.drop (List.sublist_cons_self _ _)⟩
          case measure => simp [intOf]; omega
        · have a3d : (fitsT cs x.vs != 0) = true := by simp [a3]
          have HN := hid (show tabB nm cs nx (l.map Rw.row) = false from tabB_5 (by rw [HS.out]; exact okR_bad HX.out (.inr (.inr a3))))
          clear a3
          go_wp2_with fail
          go_ret
          exact ⟨by rw [HN.out] <;> rfl, HX2.below⟩
      · obtain ⟨p, hp⟩ : ∃ p, j = p + 1 := ⟨j - 1, by omega⟩
        obtain ⟨r, hr, hrl⟩ := HP.out.2 p hp
        have HR := hid hr
        have HRL := hid hrl
        clear hr hrl
        have hj0d : decide ((j : Int) > 0) = true := by simp; omega
        have hj0d2 : decide (0 < j) = true := by simp; omega
        have hj0d3 : decide ((0 : Int) < (j : Int)) = true := by simp; omega
        have hw1 : IntKind.i64.wrap ((j : Int) - 1) = (p : Int) := by rw [IntKind.wrap_i64]; omega
        have p0 : (0 : Int) ≤ (p : Int) := by omega
        have p1 : (p : Int) < (m : Int) := by omega
        have hpm : p < m := by omega
        have HPJ := hid hp
        clear hp hj0
        by_cases a4 : r.id ≥ x.id
        · have a4d : decide (r.id ≥ x.id) = true := by simpa using a4
          have HN := hid (show tabB nm cs nx (l.map Rw.row) = false from tabB_5 (by rw [HS.out]; exact okR_bad HX.out (.inl (show x.id ≤ lst by have := HRL.out; omega))))
          clear a4
          obtain ⟨gb, hgb2⟩ : ∃ gb, gb = wr.heap.size := ⟨_, rfl⟩
          obtain ⟨KL, hKL⟩ : ∃ KL : List Hp, KL = [Hp.cst wr.heap.size 119 #[.int .i64 x.id, .slice x.A x.n x.c], .cst w.heap.size 58 #[.string nm, .slice A n c, .int .i64 nx, .slice (some ⟨g, o, none⟩) m d], .ro (SlR 4 A n (colCells cs)), .ro (RwsIn (some ⟨g, o, none⟩) m l)] := ⟨_, rfl⟩
          rw [← hKL] at K2
          rw [← hgb2] at hKL
          have HF : Hid (∀ wv, Hold M none w wv KL → wv.cell? ⟨gb, 0, none⟩ = some (.int .i64 x.id) ∧ wv.cell? ⟨gb, 1, none⟩ = some (.slice x.A x.n x.c) ∧ gb < wv.heap.size ∧ wv.cell? ⟨w.heap.size, 0, none⟩ = some (.string nm) ∧ wv.cell? ⟨w.heap.size, 1, none⟩ = some (.slice A n c) ∧ wv.cell? ⟨w.heap.size, 2, none⟩ = some (.int .i64 nx) ∧ wv.cell? ⟨w.heap.size, 3, none⟩ = some (.slice (some ⟨g, o, none⟩) m d) ∧ w.heap.size < wv.heap.size ∧ wv.cell? ⟨g, o + p * 2, none⟩ = some (.int .i64 r.id) ∧ g < wv.heap.size) := hid fun wv HC => by
            rw [hKL] at HC
            have b0 := HC.cst_ 0 rfl
            have b1 := HC.cst_ 1 rfl
            obtain ⟨g', o', e', hl, e0, e1, _⟩ := (HC.ro 3 rfl).now.at_ HR.out
            obtain ⟨rfl, rfl⟩ : g = g' ∧ o = o' := by injection e' with e'; injection e' with a1 a2; exact ⟨a1, a2⟩
            exact ⟨cell_of_row _ _ 0 _ _ _ b0, cell_of_row _ _ 1 _ _ _ b0, Blk.lt b0, cell_of_row _ _ 0 _ _ _ b1, cell_of_row _ _ 1 _ _ _ b1, cell_of_row _ _ 2 _ _ _ b1, cell_of_row _ _ 3 _ _ _ b1, Blk.lt b1, e0, hl⟩
          have HKL : Hid (∀ wv, Hold M none w wv KL → Ro wv (Mut M KL) (SlR 4 A n (colCells cs)) ∧ Ro wv (Mut M KL) (VlsIn x.A x.n x.vs)) := hid fun wv HC => by
            rw [hKL] at HC ⊢
            exact ⟨HC.ro 2 rfl, (HC.ro 3 rfl).imp fun w2 h2 => h2.2 x HXM.out⟩
          go_wp2_with fail
          rw [← hgb2]
          have HGB := hid hgb2
          have HKE := hid hKL
          clear hgb2 hKL
          generalize wr.alloc (.cells #[.int .i64 x.id, .slice x.A x.n x.c] 119) = w2 at *
          refine wp_region_any (by kernel_rfl) ?_
          refine wpAny_hold 33 71 (KL) (spL []) (by kernel_rfl) (by kernel_rfl) (by kernel_rfl) rfl ?_ (K2.drew) ?_
          · exact stays_nil _
          simp only [List.take_succ_cons, List.take_zero, List.drop_succ_cons, List.drop_zero, Act.put, List.getElem_toArray, List.getElem_cons_zero, List.getElem_cons_succ, List.setIfInBounds_toArray, List.set_cons_succ, List.set_cons_zero]
          refine dw_val rfl rfl rfl ?_; apply Exists.intro; refine ⟨fun wv HC => ?_, ?_⟩
          · obtain ⟨f0, f1, f2, f3, f4, f5, f6, f7, f8, f9⟩ := HF.out _ HC; go_simp <;> rfl
          simp only [Act.put, List.setIfInBounds_toArray, List.set_cons_succ, List.set_cons_zero]
          refine dw_val rfl rfl rfl ?_; apply Exists.intro; refine ⟨fun wv HC => ?_, ?_⟩
          · obtain ⟨f0, f1, f2, f3, f4, f5, f6, f7, f8, f9⟩ := HF.out _ HC; go_simp <;> rfl
          simp only [Act.put, List.setIfInBounds_toArray, List.set_cons_succ, List.set_cons_zero]
          refine dw_val rfl rfl rfl ?_; apply Exists.intro; refine ⟨fun wv HC => ?_, ?_⟩
          · obtain ⟨f0, f1, f2, f3, f4, f5, f6, f7, f8, f9⟩ := HF.out _ HC; go_simp <;> rfl
          simp only [Act.put, List.setIfInBounds_toArray, List.set_cons_succ, List.set_cons_zero]
          refine dw_val rfl rfl rfl ?_; apply Exists.intro; refine ⟨fun wv HC => ?_, ?_⟩
          · obtain ⟨f0, f1, f2, f3, f4, f5, f6, f7, f8, f9⟩ := HF.out _ HC; go_simp <;> rfl
          simp only [Act.put, List.setIfInBounds_toArray, List.set_cons_succ, List.set_cons_zero]
          refine dw_val rfl rfl rfl ?_; apply Exists.intro; refine ⟨fun wv HC => ?_, ?_⟩
          · obtain ⟨f0, f1, f2, f3, f4, f5, f6, f7, f8, f9⟩ := HF.out _ HC; go_simp <;> rfl
          simp only [Act.put, List.setIfInBounds_toArray, List.set_cons_succ, List.set_cons_zero]
          refine dw_val rfl rfl rfl ?_; apply Exists.intro; refine ⟨fun wv HC => ?_, ?_⟩
          · obtain ⟨f0, f1, f2, f3, f4, f5, f6, f7, f8, f9⟩ := HF.out _ HC; go_simp <;> rfl
          simp only [Act.put, List.setIfInBounds_toArray, List.set_cons_succ, List.set_cons_zero]
          refine dw_val rfl rfl rfl ?_; apply Exists.intro; refine ⟨fun wv HC => ?_, ?_⟩
          · obtain ⟨f0, f1, f2, f3, f4, f5, f6, f7, f8, f9⟩ := HF.out _ HC; go_simp <;> rfl
          simp only [Act.put, List.setIfInBounds_toArray, List.set_cons_succ, List.set_cons_zero]
          refine dw_val rfl rfl rfl ?_; apply Exists.intro; refine ⟨fun wv HC => ?_, ?_⟩
          · obtain ⟨f0, f1, f2, f3, f4, f5, f6, f7, f8, f9⟩ := HF.out _ HC; go_simp <;> rfl
          simp only [Act.put, List.setIfInBounds_toArray, List.set_cons_succ, List.set_cons_zero]
          refine dw_val rfl rfl rfl ?_; apply Exists.intro; refine ⟨fun wv HC => ?_, ?_⟩
          · obtain ⟨f0, f1, f2, f3, f4, f5, f6, f7, f8, f9⟩ := HF.out _ HC; go_simp <;> rfl
          simp only [Act.put, List.setIfInBounds_toArray, List.set_cons_succ, List.set_cons_zero]
          refine dw_val rfl rfl rfl ?_; apply Exists.intro; refine ⟨fun wv HC => ?_, ?_⟩
          · obtain ⟨f0, f1, f2, f3, f4, f5, f6, f7, f8, f9⟩ := HF.out _ HC; go_simp <;> rfl
          simp only [Act.put, List.setIfInBounds_toArray, List.set_cons_succ, List.set_cons_zero]
          refine dw_val rfl rfl rfl ?_; apply Exists.intro; refine ⟨fun wv HC => ?_, ?_⟩
          · obtain ⟨f0, f1, f2, f3, f4, f5, f6, f7, f8, f9⟩ := HF.out _ HC; go_simp <;> rfl
          simp only [Act.put, List.setIfInBounds_toArray, List.set_cons_succ, List.set_cons_zero]
          refine dw_val rfl rfl rfl ?_; apply Exists.intro; refine ⟨fun wv HC => ?_, ?_⟩
          · obtain ⟨f0, f1, f2, f3, f4, f5, f6, f7, f8, f9⟩ := HF.out _ HC; go_simp <;> rfl
          simp only [Act.put, List.setIfInBounds_toArray, List.set_cons_succ, List.set_cons_zero]
          refine dw_val rfl rfl rfl ?_; apply Exists.intro; refine ⟨fun wv HC => ?_, ?_⟩
          · obtain ⟨f0, f1, f2, f3, f4, f5, f6, f7, f8, f9⟩ := HF.out _ HC; go_simp <;> rfl
          simp only [Act.put, List.setIfInBounds_toArray, List.set_cons_succ, List.set_cons_zero]
          refine dw_val rfl rfl rfl ?_; apply Exists.intro; refine ⟨fun wv HC => ?_, ?_⟩
          · obtain ⟨f0, f1, f2, f3, f4, f5, f6, f7, f8, f9⟩ := HF.out _ HC; go_simp <;> rfl
          simp only [Act.put, List.setIfInBounds_toArray, List.set_cons_succ, List.set_cons_zero]
          refine dw_val rfl rfl rfl ?_; apply Exists.intro; refine ⟨fun wv HC => ?_, ?_⟩
          · obtain ⟨f0, f1, f2, f3, f4, f5, f6, f7, f8, f9⟩ := HF.out _ HC; go_simp <;> rfl
          simp only [Act.put, List.setIfInBounds_toArray, List.set_cons_succ, List.set_cons_zero]
          refine dw_val rfl rfl rfl ?_; apply Exists.intro; refine ⟨fun wv HC => ?_, ?_⟩
          · obtain ⟨f0, f1, f2, f3, f4, f5, f6, f7, f8, f9⟩ := HF.out _ HC; go_simp <;> rfl
          simp only [Act.put, List.setIfInBounds_toArray, List.set_cons_succ, List.set_cons_zero]
          refine dw_val rfl rfl rfl ?_; apply Exists.intro; refine ⟨fun wv HC => ?_, ?_⟩
          · obtain ⟨f0, f1, f2, f3, f4, f5, f6, f7, f8, f9⟩ := HF.out _ HC; go_simp <;> rfl
          simp only [Act.put, List.setIfInBounds_toArray, List.set_cons_succ, List.set_cons_zero]
          refine dw_val rfl rfl rfl ?_; apply Exists.intro; refine ⟨fun wv HC => ?_, ?_⟩
          · obtain ⟨f0, f1, f2, f3, f4, f5, f6, f7, f8, f9⟩ := HF.out _ HC; go_simp <;> rfl
          simp only [Act.put, List.setIfInBounds_toArray, List.set_cons_succ, List.set_cons_zero]
          refine dw_val rfl rfl rfl ?_; apply Exists.intro; refine ⟨fun wv HC => ?_, ?_⟩
          · obtain ⟨f0, f1, f2, f3, f4, f5, f6, f7, f8, f9⟩ := HF.out _ HC; go_simp <;> rfl
          simp only [Act.put, List.setIfInBounds_toArray, List.set_cons_succ, List.set_cons_zero]
          refine dw_val rfl rfl rfl ?_; apply Exists.intro; refine ⟨fun wv HC => ?_, ?_⟩
          · obtain ⟨f0, f1, f2, f3, f4, f5, f6, f7, f8, f9⟩ := HF.out _ HC; go_simp <;> rfl
          simp only [Act.put, List.setIfInBounds_toArray, List.set_cons_succ, List.set_cons_zero]
          refine dw_val rfl rfl rfl ?_; apply Exists.intro; refine ⟨fun wv HC => ?_, ?_⟩
          · obtain ⟨f0, f1, f2, f3, f4, f5, f6, f7, f8, f9⟩ := HF.out _ HC; go_simp <;> rfl
          simp only [Act.put, List.setIfInBounds_toArray, List.set_cons_succ, List.set_cons_zero]
          refine dw_val rfl rfl rfl ?_; apply Exists.intro; refine ⟨fun wv HC => ?_, ?_⟩
          · obtain ⟨f0, f1, f2, f3, f4, f5, f6, f7, f8, f9⟩ := HF.out _ HC; go_simp <;> rfl
          simp only [Act.put, List.setIfInBounds_toArray, List.set_cons_succ, List.set_cons_zero]
          refine dw_val rfl rfl rfl ?_; apply Exists.intro; refine ⟨fun wv HC => ?_, ?_⟩
          · obtain ⟨f0, f1, f2, f3, f4, f5, f6, f7, f8, f9⟩ := HF.out _ HC; go_simp <;> rfl
          simp only [Act.put, List.setIfInBounds_toArray, List.set_cons_succ, List.set_cons_zero]
          refine dw_val rfl rfl rfl ?_; apply Exists.intro; refine ⟨fun wv HC => ?_, ?_⟩
          · obtain ⟨f0, f1, f2, f3, f4, f5, f6, f7, f8, f9⟩ := HF.out _ HC; go_simp <;> rfl
          simp only [Act.put, List.setIfInBounds_toArray, List.set_cons_succ, List.set_cons_zero]
          refine dw_val rfl rfl rfl ?_; apply Exists.intro; refine ⟨fun wv HC => ?_, ?_⟩
          · obtain ⟨f0, f1, f2, f3, f4, f5, f6, f7, f8, f9⟩ := HF.out _ HC; go_simp <;> rfl
          simp only [Act.put, List.setIfInBounds_toArray, List.set_cons_succ, List.set_cons_zero]
          refine dw_val rfl rfl rfl ?_; apply Exists.intro; refine ⟨fun wv HC => ?_, ?_⟩
          · obtain ⟨f0, f1, f2, f3, f4, f5, f6, f7, f8, f9⟩ := HF.out _ HC; go_simp <;> rfl
          simp only [Act.put, List.setIfInBounds_toArray, List.set_cons_succ, List.set_cons_zero]
          refine dw_val rfl rfl rfl ?_; apply Exists.intro; refine ⟨fun wv HC => ?_, ?_⟩
          · obtain ⟨f0, f1, f2, f3, f4, f5, f6, f7, f8, f9⟩ := HF.out _ HC; go_simp <;> rfl
          simp only [Act.put, List.setIfInBounds_toArray, List.set_cons_succ, List.set_cons_zero]
          refine dw_skip rfl rfl rfl ?_
          simp only [Act.put, List.setIfInBounds_toArray, List.set_cons_succ, List.set_cons_zero]
          refine dw_skip rfl rfl rfl ?_
          simp only [Act.put, List.setIfInBounds_toArray, List.set_cons_succ, List.set_cons_zero]
          refine dw_skip rfl rfl rfl ?_
          simp only [Act.put, List.setIfInBounds_toArray, List.set_cons_succ, List.set_cons_zero]
          refine dw_skip rfl rfl rfl ?_
          simp only [Act.put, List.setIfInBounds_toArray, List.set_cons_succ, List.set_cons_zero]
          refine dw_skip rfl rfl rfl ?_
          simp only [Act.put, List.setIfInBounds_toArray, List.set_cons_succ, List.set_cons_zero]
          refine dw_skip rfl rfl rfl ?_
          simp only [Act.put, List.setIfInBounds_toArray, List.set_cons_succ, List.set_cons_zero]
          refine rel_nil ?_
          rintro wx2 HX2
          rintro _hrm _HG
          rw [HKE.out] at HX2
          clear _hrm _HG
          go_wp2_with fail
          go_ret
          exact ⟨by rw [HN.out] <;> rfl, HX2.below⟩
        · have a4d : decide (r.id ≥ x.id) = false := by simpa using a4
          have HA4 := hid a4
          clear a4
          obtain ⟨gb, hgb2⟩ : ∃ gb, gb = wr.heap.size := ⟨_, rfl⟩
          obtain ⟨KL, hKL⟩ : ∃ KL : List Hp, KL = [Hp.cst wr.heap.size 119 #[.int .i64 x.id, .slice x.A x.n x.c], .cst w.heap.size 58 #[.string nm, .slice A n c, .int .i64 nx, .slice (some ⟨g, o, none⟩) m d], .ro (SlR 4 A n (colCells cs)), .ro (RwsIn (some ⟨g, o, none⟩) m l)] := ⟨_, rfl⟩
          rw [← hKL] at K2
          rw [← hgb2] at hKL
          have HF : Hid (∀ wv, Hold M none w wv KL → wv.cell? ⟨gb, 0, none⟩ = some (.int .i64 x.id) ∧ wv.cell? ⟨gb, 1, none⟩ = some (.slice x.A x.n x.c) ∧ gb < wv.heap.size ∧ wv.cell? ⟨w.heap.size, 0, none⟩ = some (.string nm) ∧ wv.cell? ⟨w.heap.size, 1, none⟩ = some (.slice A n c) ∧ wv.cell? ⟨w.heap.size, 2, none⟩ = some (.int .i64 nx) ∧ wv.cell? ⟨w.heap.size, 3, none⟩ = some (.slice (some ⟨g, o, none⟩) m d) ∧ w.heap.size < wv.heap.size ∧ wv.cell? ⟨g, o + p * 2, none⟩ = some (.int .i64 r.id) ∧ g < wv.heap.size) := hid fun wv HC => by
            rw [hKL] at HC
            have b0 := HC.cst_ 0 rfl
            have b1 := HC.cst_ 1 rfl
            obtain ⟨g', o', e', hl, e0, e1, _⟩ := (HC.ro 3 rfl).now.at_ HR.out
            obtain ⟨rfl, rfl⟩ : g = g' ∧ o = o' := by injection e' with e'; injection e' with a1 a2; exact ⟨a1, a2⟩
            exact ⟨cell_of_row _ _ 0 _ _ _ b0, cell_of_row _ _ 1 _ _ _ b0, Blk.lt b0, cell_of_row _ _ 0 _ _ _ b1, cell_of_row _ _ 1 _ _ _ b1, cell_of_row _ _ 2 _ _ _ b1, cell_of_row _ _ 3 _ _ _ b1, Blk.lt b1, e0, hl⟩
          have HKL : Hid (∀ wv, Hold M none w wv KL → Ro wv (Mut M KL) (SlR 4 A n (colCells cs)) ∧ Ro wv (Mut M KL) (VlsIn x.A x.n x.vs)) := hid fun wv HC => by
            rw [hKL] at HC ⊢
            exact ⟨HC.ro 2 rfl, (HC.ro 3 rfl).imp fun w2 h2 => h2.2 x HXM.out⟩
          go_wp2_with fail
          rw [← hgb2]
          have HGB := hid hgb2
          have HKE := hid hKL
          clear hgb2 hKL
          generalize wr.alloc (.cells #[.int .i64 x.id, .slice x.A x.n x.c] 119) = w2 at *
          refine wp_region_any (by kernel_rfl) ?_
          refine wpAny_hold 33 71 (KL) (spL [(64, IsV (.int .i64 (fitsT cs x.vs)))]) (by kernel_rfl) (by kernel_rfl) (by kernel_rfl) rfl ?_ (K2.drew) ?_
          · exact stays_cons isV_mono (stays_nil _)
          simp only [List.take_succ_cons, List.take_zero, List.drop_succ_cons, List.drop_zero, Act.put, List.getElem_toArray, List.getElem_cons_zero, List.getElem_cons_succ, List.setIfInBounds_toArray, List.set_cons_succ, List.set_cons_zero]
          refine dw_val rfl rfl rfl ?_; apply Exists.intro; refine ⟨fun wv HC => ?_, ?_⟩
          · obtain ⟨f0, f1, f2, f3, f4, f5, f6, f7, f8, f9⟩ := HF.out _ HC; go_simp <;> rfl
          simp only [Act.put, List.setIfInBounds_toArray, List.set_cons_succ, List.set_cons_zero]
          refine dw_val rfl rfl rfl ?_; apply Exists.intro; refine ⟨fun wv HC => ?_, ?_⟩
          · obtain ⟨f0, f1, f2, f3, f4, f5, f6, f7, f8, f9⟩ := HF.out _ HC; go_simp <;> rfl
          simp only [Act.put, List.setIfInBounds_toArray, List.set_cons_succ, List.set_cons_zero]
          refine dw_val rfl rfl rfl ?_; apply Exists.intro; refine ⟨fun wv HC => ?_, ?_⟩
          · obtain ⟨f0, f1, f2, f3, f4, f5, f6, f7, f8, f9⟩ := HF.out _ HC; go_simp <;> rfl
          simp only [Act.put, List.setIfInBounds_toArray, List.set_cons_succ, List.set_cons_zero]
          refine dw_val rfl rfl rfl ?_; apply Exists.intro; refine ⟨fun wv HC => ?_, ?_⟩
          · obtain ⟨f0, f1, f2, f3, f4, f5, f6, f7, f8, f9⟩ := HF.out _ HC; go_simp <;> rfl
          simp only [Act.put, List.setIfInBounds_toArray, List.set_cons_succ, List.set_cons_zero]
          refine dw_val rfl rfl rfl ?_; apply Exists.intro; refine ⟨fun wv HC => ?_, ?_⟩
          · obtain ⟨f0, f1, f2, f3, f4, f5, f6, f7, f8, f9⟩ := HF.out _ HC; go_simp <;> rfl
          simp only [Act.put, List.setIfInBounds_toArray, List.set_cons_succ, List.set_cons_zero]
          refine dw_val rfl rfl rfl ?_; apply Exists.intro; refine ⟨fun wv HC => ?_, ?_⟩
          · obtain ⟨f0, f1, f2, f3, f4, f5, f6, f7, f8, f9⟩ := HF.out _ HC; go_simp <;> rfl
          simp only [Act.put, List.setIfInBounds_toArray, List.set_cons_succ, List.set_cons_zero]
          refine dw_val rfl rfl rfl ?_; apply Exists.intro; refine ⟨fun wv HC => ?_, ?_⟩
          · obtain ⟨f0, f1, f2, f3, f4, f5, f6, f7, f8, f9⟩ := HF.out _ HC; go_simp <;> rfl
          simp only [Act.put, List.setIfInBounds_toArray, List.set_cons_succ, List.set_cons_zero]
          refine dw_val rfl rfl rfl ?_; apply Exists.intro; refine ⟨fun wv HC => ?_, ?_⟩
          · obtain ⟨f0, f1, f2, f3, f4, f5, f6, f7, f8, f9⟩ := HF.out _ HC; go_simp <;> rfl
          simp only [Act.put, List.setIfInBounds_toArray, List.set_cons_succ, List.set_cons_zero]
          refine dw_val rfl rfl rfl ?_; apply Exists.intro; refine ⟨fun wv HC => ?_, ?_⟩
          · obtain ⟨f0, f1, f2, f3, f4, f5, f6, f7, f8, f9⟩ := HF.out _ HC; go_simp <;> rfl
          simp only [Act.put, List.setIfInBounds_toArray, List.set_cons_succ, List.set_cons_zero]
          refine dw_val rfl rfl rfl ?_; apply Exists.intro; refine ⟨fun wv HC => ?_, ?_⟩
          · obtain ⟨f0, f1, f2, f3, f4, f5, f6, f7, f8, f9⟩ := HF.out _ HC; go_simp <;> rfl
          simp only [Act.put, List.setIfInBounds_toArray, List.set_cons_succ, List.set_cons_zero]
          refine dw_val rfl rfl rfl ?_; apply Exists.intro; refine ⟨fun wv HC => ?_, ?_⟩
          · obtain ⟨f0, f1, f2, f3, f4, f5, f6, f7, f8, f9⟩ := HF.out _ HC; go_simp <;> rfl
          simp only [Act.put, List.setIfInBounds_toArray, List.set_cons_succ, List.set_cons_zero]
          refine dw_val rfl rfl rfl ?_; apply Exists.intro; refine ⟨fun wv HC => ?_, ?_⟩
          · obtain ⟨f0, f1, f2, f3, f4, f5, f6, f7, f8, f9⟩ := HF.out _ HC; go_simp <;> rfl
          simp only [Act.put, List.setIfInBounds_toArray, List.set_cons_succ, List.set_cons_zero]
          refine dw_val rfl rfl rfl ?_; apply Exists.intro; refine ⟨fun wv HC => ?_, ?_⟩
          · obtain ⟨f0, f1, f2, f3, f4, f5, f6, f7, f8, f9⟩ := HF.out _ HC; go_simp <;> rfl
          simp only [Act.put, List.setIfInBounds_toArray, List.set_cons_succ, List.set_cons_zero]
          refine dw_val rfl rfl rfl ?_; apply Exists.intro; refine ⟨fun wv HC => ?_, ?_⟩
          · obtain ⟨f0, f1, f2, f3, f4, f5, f6, f7, f8, f9⟩ := HF.out _ HC; go_simp <;> rfl
          simp only [Act.put, List.setIfInBounds_toArray, List.set_cons_succ, List.set_cons_zero]
          refine dw_val rfl rfl rfl ?_; apply Exists.intro; refine ⟨fun wv HC => ?_, ?_⟩
          · obtain ⟨f0, f1, f2, f3, f4, f5, f6, f7, f8, f9⟩ := HF.out _ HC; go_simp <;> rfl
          simp only [Act.put, List.setIfInBounds_toArray, List.set_cons_succ, List.set_cons_zero]
          refine dw_val rfl rfl rfl ?_; apply Exists.intro; refine ⟨fun wv HC => ?_, ?_⟩
          · obtain ⟨f0, f1, f2, f3, f4, f5, f6, f7, f8, f9⟩ := HF.out _ HC; go_simp <;> rfl
          simp only [Act.put, List.setIfInBounds_toArray, List.set_cons_succ, List.set_cons_zero]
          refine dw_val rfl rfl rfl ?_; apply Exists.intro; refine ⟨fun wv HC => ?_, ?_⟩
          · obtain ⟨f0, f1, f2, f3, f4, f5, f6, f7, f8, f9⟩ := HF.out _ HC; go_simp <;> rfl
          simp only [Act.put, List.setIfInBounds_toArray, List.set_cons_succ, List.set_cons_zero]
          refine dw_val rfl rfl rfl ?_; apply Exists.intro; refine ⟨fun wv HC => ?_, ?_⟩
          · obtain ⟨f0, f1, f2, f3, f4, f5, f6, f7, f8, f9⟩ := HF.out _ HC; go_simp <;> rfl
          simp only [Act.put, List.setIfInBounds_toArray, List.set_cons_succ, List.set_cons_zero]
          refine dw_val rfl rfl rfl ?_; apply Exists.intro; refine ⟨fun wv HC => ?_, ?_⟩
          · obtain ⟨f0, f1, f2, f3, f4, f5, f6, f7, f8, f9⟩ := HF.out _ HC; go_simp <;> rfl
          simp only [Act.put, List.setIfInBounds_toArray, List.set_cons_succ, List.set_cons_zero]
          refine dw_val rfl rfl rfl ?_; apply Exists.intro; refine ⟨fun wv HC => ?_, ?_⟩
          · obtain ⟨f0, f1, f2, f3, f4, f5, f6, f7, f8, f9⟩ := HF.out _ HC; go_simp <;> rfl
          simp only [Act.put, List.setIfInBounds_toArray, List.set_cons_succ, List.set_cons_zero]
          refine dw_val rfl rfl rfl ?_; apply Exists.intro; refine ⟨fun wv HC => ?_, ?_⟩
          · obtain ⟨f0, f1, f2, f3, f4, f5, f6, f7, f8, f9⟩ := HF.out _ HC; go_simp <;> rfl
          simp only [Act.put, List.setIfInBounds_toArray, List.set_cons_succ, List.set_cons_zero]
          refine dw_val rfl rfl rfl ?_; apply Exists.intro; refine ⟨fun wv HC => ?_, ?_⟩
          · obtain ⟨f0, f1, f2, f3, f4, f5, f6, f7, f8, f9⟩ := HF.out _ HC; go_simp <;> rfl
          simp only [Act.put, List.setIfInBounds_toArray, List.set_cons_succ, List.set_cons_zero]
          refine dw_val rfl rfl rfl ?_; apply Exists.intro; refine ⟨fun wv HC => ?_, ?_⟩
          · obtain ⟨f0, f1, f2, f3, f4, f5, f6, f7, f8, f9⟩ := HF.out _ HC; go_simp <;> rfl
          simp only [Act.put, List.setIfInBounds_toArray, List.set_cons_succ, List.set_cons_zero]
          refine dw_val rfl rfl rfl ?_; apply Exists.intro; refine ⟨fun wv HC => ?_, ?_⟩
          · obtain ⟨f0, f1, f2, f3, f4, f5, f6, f7, f8, f9⟩ := HF.out _ HC; go_simp <;> rfl
          simp only [Act.put, List.setIfInBounds_toArray, List.set_cons_succ, List.set_cons_zero]
          refine dw_val rfl rfl rfl ?_; apply Exists.intro; refine ⟨fun wv HC => ?_, ?_⟩
          · obtain ⟨f0, f1, f2, f3, f4, f5, f6, f7, f8, f9⟩ := HF.out _ HC; go_simp <;> rfl
          simp only [Act.put, List.setIfInBounds_toArray, List.set_cons_succ, List.set_cons_zero]
          refine dw_val rfl rfl rfl ?_; apply Exists.intro; refine ⟨fun wv HC => ?_, ?_⟩
          · obtain ⟨f0, f1, f2, f3, f4, f5, f6, f7, f8, f9⟩ := HF.out _ HC; go_simp <;> rfl
          simp only [Act.put, List.setIfInBounds_toArray, List.set_cons_succ, List.set_cons_zero]
          refine dw_val rfl rfl rfl ?_; apply Exists.intro; refine ⟨fun wv HC => ?_, ?_⟩
          · obtain ⟨f0, f1, f2, f3, f4, f5, f6, f7, f8, f9⟩ := HF.out _ HC; go_simp <;> rfl
          simp only [Act.put, List.setIfInBounds_toArray, List.set_cons_succ, List.set_cons_zero]
          refine dw_val rfl rfl rfl ?_; apply Exists.intro; refine ⟨fun wv HC => ?_, ?_⟩
          · obtain ⟨f0, f1, f2, f3, f4, f5, f6, f7, f8, f9⟩ := HF.out _ HC; go_simp <;> rfl
          simp only [Act.put, List.setIfInBounds_toArray, List.set_cons_succ, List.set_cons_zero]
          refine dw_val rfl rfl rfl ?_; apply Exists.intro; refine ⟨fun wv HC => ?_, ?_⟩
          · obtain ⟨f0, f1, f2, f3, f4, f5, f6, f7, f8, f9⟩ := HF.out _ HC; go_simp <;> rfl
          simp only [Act.put, List.setIfInBounds_toArray, List.set_cons_succ, List.set_cons_zero]
          refine dw_val rfl rfl rfl ?_; apply Exists.intro; refine ⟨fun wv HC => ?_, ?_⟩
          · obtain ⟨f0, f1, f2, f3, f4, f5, f6, f7, f8, f9⟩ := HF.out _ HC; go_simp <;> rfl
          simp only [Act.put, List.setIfInBounds_toArray, List.set_cons_succ, List.set_cons_zero]
          refine dw_val rfl rfl rfl ?_; apply Exists.intro; refine ⟨fun wv HC => ?_, ?_⟩
          · obtain ⟨f0, f1, f2, f3, f4, f5, f6, f7, f8, f9⟩ := HF.out _ HC; go_simp <;> rfl
          simp only [Act.put, List.setIfInBounds_toArray, List.set_cons_succ, List.set_cons_zero]
          refine dw_callR 64 (IsV (.int .i64 (fitsT cs x.vs))) (f := 73) (args := #[.agg #[.string nm, .slice A n c], .slice x.A x.n x.c]) rfl rfl rfl rfl (fun wv => ?_) (fun wv HC hrm hD => ?_) ?_
          · go_simp <;> rfl
          · refine (rtfits_any _ _ HC.mutLt nm A n c cs x.A x.n x.c x.vs ((HKL.out wv HC).1) ((HKL.out wv HC).2) hn hxn hrok.vs).mono ?_
            rintro e w5 ⟨rfl, b5⟩
            exact ⟨_, rfl, rfl, HC.call b5, RM.below b5⟩
          rintro u wx HCx hu
          obtain rfl : u = _ := hu
          clear HCx
          simp only [Act.put, List.setIfInBounds_toArray, List.set_cons_succ, List.set_cons_zero]
          refine dw_val rfl rfl rfl ?_; apply Exists.intro; refine ⟨fun wv HC => ?_, ?_⟩
          · obtain ⟨f0, f1, f2, f3, f4, f5, f6, f7, f8, f9⟩ := HF.out _ HC; go_simp <;> rfl
          simp only [Act.put, List.setIfInBounds_toArray, List.set_cons_succ, List.set_cons_zero]
          refine rel_nil ?_
          rintro wx2 HX2
          rintro _hrm _HG
          rw [HKE.out] at HX2
          clear _hrm _HG
          by_cases a3 : fitsT cs x.vs = 0
          · have HS2 := hid (show okR cs nx 0 (l.map Rw.row) = okR cs nx x.id ((l.map Rw.row).drop (j + 1)) by rw [HS.out]; exact okR_good HX.out (by have := HA4.out; have := HRL.out; omega) (by have := HA.out; omega) a3)
            have HP2 := hid (show (j + 1 = 0 → x.id = 0) ∧ ∀ q, j + 1 = q + 1 → ∃ r : Rw, l[q]? = some r ∧ r.id = x.id from ⟨fun h => by omega, fun q hq => ⟨x, (show j = q by omega) ▸ HXL.out, rfl⟩⟩)
            have h0x : 0 ≤ x.id := by have := HA.out; omega
            rw [a3]
            clear a3
            go_wp2_with fail
            go_roundw
            case rel => exact ⟨j + 1, x.id, by omega, by go_num, h0x, HP2, HS2, HX2.drop (List.sublist_cons_self _ _)⟩
            case measure => simp [intOf]; omega
          · have a3d : (fitsT cs x.vs != 0) = true := by simp [a3]
            have HN := hid (show tabB nm cs nx (l.map Rw.row) = false from tabB_5 (by rw [HS.out]; exact okR_bad HX.out (.inr (.inr a3))))
            clear a3
            go_wp2_with fail
            go_ret
            exact ⟨by rw [HN.out] <;> rfl, HX2.below⟩
    · obtain rfl : j = m := by omega
      have hdd : decide ((j : Int) < (j : Int)) = false := by simp
      have HN := hid (show tabB nm cs nx (l.map Rw.row) = !dupB cs (l.map Rw.row) from tabB_6 HSB.out (by rw [HML.out]; omega) (by omega) (by omega) (by rw [HS.out]; exact okR_end (by rw [HML.out]; exact Nat.le_refl _)))
      have F3 := H.facts
      simp only [World.size_alloc, World.size_drew, factsL, cellsF, Nat.reduceAdd, List.toList_toArray, List.set_cons_zero, List.set_cons_succ, List.setIfInBounds_toArray, and_true, true_and] at F3
      go_wp2_with fail
      refine (rdup_any _ _ H.mutLt nm A n c cs nx B j d l (H.ro 1 rfl) (H.ro 2 rfl) hn hm hok).mono ?_
      rintro e w3 ⟨rfl, b3⟩
      have K3 := H.call b3
      go_wp2_with fail
      go_ret
      exact ⟨by rw [HN.out] <;> rfl, K3.below⟩
end Go.Proofs.YtedogodccblfeaaGreatDoor

namespace Go.Proofs.YtedogodccblfeaaGreatDoor
open Go.RowKit
set_option linter.unusedVariables false
set_option linter.unusedSimpArgs false

def Tryz.lays106_ren : Go.Shelf.Ren := ⟨fun | 106 => 186 | 213 => 219 | 265 => 233 | n => n, fun | 9 => 9 | 3 => 3 | n => n, fun | n => n⟩
theorem Tryz.lays106 : Go.Proofs.Lays.n106 Tryz.prog Tryz.lays106_ren := {
  mixed := by kernel_rfl
  f106 := Tryz.func186.trans (congrArg some (by kernel_rfl))
  f213 := Tryz.func219.trans (congrArg some (by kernel_rfl))
  f265 := Tryz.func233.trans (congrArg some (by kernel_rfl))
  t3 := Tryz.underlying3
  a3 := Tryz.isAgg3
  z3 := Tryz.sizeOf3
  v3 := Tryz.zeroValue3
  t9 := Tryz.underlying9
  a9 := Tryz.isAgg9
  z9 := Tryz.sizeOf9
  v9 := Tryz.zeroValue9 }
theorem cb_zero : ∀ x y : List UInt8, Lib.compareBytes x y = 0 ↔ x = y
  | [], [] => by simp [Lib.compareBytes]
  | [], b :: y => by simp [Lib.compareBytes]
  | a :: x, [] => by simp [Lib.compareBytes]
  | a :: x, b :: y => by
    simp only [Lib.compareBytes]
    by_cases h1 : a < b
    · have hne : a ≠ b := by
        rintro rfl
        have h' : a.toNat < a.toNat := h1
        omega
      simp [h1, hne]
    · by_cases h2 : b < a
      · have hne : a ≠ b := by
          rintro rfl
          exact h1 h2
        simp [h1, h2, hne]
      · have he : a = b := by
          have h1' : ¬ a.toNat < b.toNat := h1
          have h2' : ¬ b.toNat < a.toNat := h2
          exact UInt8.toNat_inj.1 (by omega)
        subst he
        have := cb_zero x y
        simp [h1, this]
/-- a number that is 0 just if p -/
def CmpIs (p : Prop) (e : Ending) : Prop := ∃ r : Int, e = .returned (.int .i64 r) ∧ (r = 0 ↔ p)
theorem scmp_any (a b : ByteArray) (w : World) : Calls Tryz.prog 186 #[.string a, .string b] w fun e w' => CmpIs (a = b) e ∧ w = w' := by
  have h := Any.strings_Compare Tryz.lays106 a b w
  change Calls Tryz.prog 186 _ _ _ at h
  refine h.mono ?_
  rintro e w' ⟨rfl, rfl⟩
  refine ⟨⟨_, rfl, ?_⟩, rfl⟩
  rw [cb_zero]
  exact ⟨fun h => bytesEq (by rw [ByteArray.toList_eq, ByteArray.toList_eq]; exact h), fun h => by rw [h]⟩
set_option maxHeartbeats 1000000 in
theorem rcompare_any (x y : Vl) (w : World) : Calls Tryz.prog 123 #[.agg #[.int .i64 x.k, .int .i64 x.i, .string x.s], .agg #[.int .i64 y.k, .int .i64 y.i, .string y.s]] w fun e w' => CmpIs (x = y) e ∧ Below w.heap.size w w' := by
  obtain ⟨xk, xi, xs⟩ := x
  obtain ⟨yk, yi, ys⟩ := y
  dsimp only
  have K0 := ((Hold.begin_ w).alloc_cst #[.int .i64 xk, .int .i64 xi, .string xs] 117).alloc_cst #[.int .i64 yk, .int .i64 yi, .string ys] 117
  rw [World.size_alloc] at K0
  have F0 := K0.facts
  simp only [World.size_alloc, World.size_drew, factsL, cellsF, Nat.reduceAdd, List.toList_toArray, List.set_cons_zero, List.set_cons_succ, List.setIfInBounds_toArray, and_true, true_and] at F0
  by_cases hk : xk = yk
  · subst hk
    have hb : (xk != xk) = false := by simp
    by_cases hi : xi = yi
    · subst hi
      have hb2 : (xi != xi) = false := by simp
      go_enter Tryz.func123, Tryz.ntmps123
      go_wp2_with fail
      refine (scmp_any xs ys _).mono ?_
      rintro e w1 ⟨⟨r, rfl, hr⟩, rfl⟩
      have HR := hid hr
      clear hr
      go_wp2_with fail
      go_ret
      refine ⟨⟨r, rfl, ?_⟩, K0.below⟩
      rw [HR.out]; simp
    · have hb2 : (xi != yi) = true := by simpa using hi
      have HI := hid hi
      rcases Int.lt_or_le xi yi with hl | hl
      · have hd : decide (xi < yi) = true := by simpa using hl
        clear hi hl
        go_enter Tryz.func123, Tryz.ntmps123
        go_wp2_with fail
        go_ret
        exact ⟨⟨-1, rfl, by have := HI.out; simp [this]⟩, K0.below⟩
      · have hd : decide (xi < yi) = false := by rw [decide_eq_false_iff_not]; omega
        clear hi hl
        go_enter Tryz.func123, Tryz.ntmps123
        go_wp2_with fail
        go_ret
        exact ⟨⟨1, rfl, by have := HI.out; simp [this]⟩, K0.below⟩
  · have hb : (xk != yk) = true := by simpa using hk
    have HI := hid hk
    rcases Int.lt_or_le xk yk with hl | hl
    · have hd : decide (xk < yk) = true := by simpa using hl
      clear hk hl
      go_enter Tryz.func123, Tryz.ntmps123
      go_wp2_with fail
      go_ret
      exact ⟨⟨-1, rfl, by have := HI.out; simp [this]⟩, K0.below⟩
    · have hd : decide (xk < yk) = false := by rw [decide_eq_false_iff_not]; omega
      clear hk hl
      go_enter Tryz.func123, Tryz.ntmps123
      go_wp2_with fail
      go_ret
      exact ⟨⟨1, rfl, by have := HI.out; simp [this]⟩, K0.below⟩
def CmpSlot (p : Prop) (u : Value) (_ : World) : Prop := ∃ r : Int, u = .int .i64 r ∧ (r = 0 ↔ p)
theorem take_ne {α : Type} {xs ys : List α} {k : Nat} {x y : α} (hx : xs[k]? = some x) (hy : ys[k]? = some y) (h : x ≠ y) : xs ≠ ys := by
  rintro rfl
  rw [hx] at hy
  injection hy with hy
  exact h hy
set_option maxHeartbeats 4000000 in
set_option maxRecDepth 100000 in
theorem rcmprows_any (M : Nat → Prop) (w : World) (hM : ∀ b, M b → b < w.heap.size) (A : Option Addr) (n c : Nat) (xs : List Vl) (B : Option Addr) (m d : Nat) (ys : List Vl) (hD : Ro w M (VlsIn A n xs)) (hE : Ro w M (VlsIn B m ys)) (hn : n ≤ 9223372036854775807) (hm : m ≤ 9223372036854775807) :
    Calls Tryz.prog 62 #[.slice A n c, .slice B m d] w fun e w' => CmpIs (xs = ys) e ∧ Below w.heap.size w w' := by
  have HX := hid hD.now.len
  have HY := hid hE.now.len
  have K0 := ((Hold.start M w hM).add (hE.less (by simp [Mut]))).add (hD.less (by simp [Mut, Hp.foot]))
  clear hD hE
  go_enter Tryz.func62, Tryz.ntmps62
  go_wp2_with fail
  go_loopw [5] (fun iv wr => ∃ k : Nat, k ≤ n ∧ k ≤ m ∧ iv = .int .i64 k ∧ Hid (xs.take k = ys.take k) ∧ Hold M none w wr [.ro (VlsIn A n xs), .ro (VlsIn B m ys)]) (fun iv _ => n - (intOf iv).toNat)
  case atStart => exact ⟨0, by omega, by omega, rfl, hid rfl, K0⟩
  case round =>
    clear K0
    obtain ⟨k, hk, hkm, rfl, HT, H⟩ := hrel
    by_cases hlt : k < n
    · have hd : decide ((k : Int) < (n : Int)) = true := by simp; omega
      by_cases hltm : k < m
      · have hdm : decide ((k : Int) < (m : Int)) = true := by simp; omega
        have k0 : (0 : Int) ≤ (k : Int) := by omega
        have k1 : (k : Int) < (n : Int) := by omega
        have k2 : (k : Int) < (m : Int) := by omega
        obtain ⟨x, hx⟩ := get_of HX.out hlt
        obtain ⟨y, hy⟩ := get_of HY.out hltm
        obtain ⟨b1, o1, rfl, r1⟩ := (H.ro 0 rfl).vlsAt hx
        obtain ⟨b2, o2, rfl, r2⟩ := (H.ro 1 rfl).vlsAt hy
        have HXX := hid hx
        have HYY := hid hy
        clear hx hy
        have K1 := (H.add r1).add (r2.less (mut_none rfl))
        clear r1 r2
        obtain ⟨KL, hKL, K2⟩ := K1.name
        clear K1
        have HF : Hid (∀ wv, Hold M none w wv KL → (b2 < wv.heap.size ∧ wv.cell? ⟨b2, o2 + k * 3, none⟩ = some (.int .i64 y.k) ∧ wv.cell? ⟨b2, o2 + k * 3 + 1, none⟩ = some (.int .i64 y.i) ∧ wv.cell? ⟨b2, o2 + k * 3 + 2, none⟩ = some (.string y.s)) ∧ b1 < wv.heap.size ∧ wv.cell? ⟨b1, o1 + k * 3, none⟩ = some (.int .i64 x.k) ∧ wv.cell? ⟨b1, o1 + k * 3 + 1, none⟩ = some (.int .i64 x.i) ∧ wv.cell? ⟨b1, o1 + k * 3 + 2, none⟩ = some (.string x.s)) := hid fun wv HC => by
          rw [hKL] at HC
          exact ⟨(HC.ro 0 rfl).now, (HC.ro 1 rfl).now⟩
        have HKL := hid hKL
        clear hKL
        go_wp2_with fail
        refine wp_region_any (by kernel_rfl) ?_
        refine wpAny_hold 10 41 (KL) (spL [(27, CmpSlot (x = y))]) (by kernel_rfl) (by kernel_rfl) (by kernel_rfl) rfl ?_ (K2.drew) ?_
        · exact stays_cons (fun _ _ _ _ h => h) (stays_nil _)
        simp only [List.take_succ_cons, List.take_zero, List.drop_succ_cons, List.drop_zero, Act.put, List.getElem_toArray, List.getElem_cons_zero, List.getElem_cons_succ, List.setIfInBounds_toArray, List.set_cons_succ, List.set_cons_zero]
        refine dw_val rfl rfl rfl ?_; apply Exists.intro; refine ⟨fun wv HC => ?_, ?_⟩
        ·  go_simp <;> rfl
        simp only [Act.put, List.setIfInBounds_toArray, List.set_cons_succ, List.set_cons_zero]
        refine dw_val rfl rfl rfl ?_; apply Exists.intro; refine ⟨fun wv HC => ?_, ?_⟩
        ·  go_simp <;> rfl
        simp only [Act.put, List.setIfInBounds_toArray, List.set_cons_succ, List.set_cons_zero]
        refine dw_val rfl rfl rfl ?_; apply Exists.intro; refine ⟨fun wv HC => ?_, ?_⟩
        ·  go_simp <;> rfl
        simp only [Act.put, List.setIfInBounds_toArray, List.set_cons_succ, List.set_cons_zero]
        refine dw_val rfl rfl rfl ?_; apply Exists.intro; refine ⟨fun wv HC => ?_, ?_⟩
        · obtain ⟨⟨f0, f1, f2, f3⟩, f4, f5, f6, f7⟩ := HF.out _ HC; go_simp <;> rfl
        simp only [Act.put, List.setIfInBounds_toArray, List.set_cons_succ, List.set_cons_zero]
        refine dw_val rfl rfl rfl ?_; apply Exists.intro; refine ⟨fun wv HC => ?_, ?_⟩
        ·  go_simp <;> rfl
        simp only [Act.put, List.setIfInBounds_toArray, List.set_cons_succ, List.set_cons_zero]
        refine dw_val rfl rfl rfl ?_; apply Exists.intro; refine ⟨fun wv HC => ?_, ?_⟩
        ·  go_simp <;> rfl
        simp only [Act.put, List.setIfInBounds_toArray, List.set_cons_succ, List.set_cons_zero]
        refine dw_val rfl rfl rfl ?_; apply Exists.intro; refine ⟨fun wv HC => ?_, ?_⟩
        ·  go_simp <;> rfl
        simp only [Act.put, List.setIfInBounds_toArray, List.set_cons_succ, List.set_cons_zero]
        refine dw_val rfl rfl rfl ?_; apply Exists.intro; refine ⟨fun wv HC => ?_, ?_⟩
        · obtain ⟨⟨f0, f1, f2, f3⟩, f4, f5, f6, f7⟩ := HF.out _ HC; go_simp <;> rfl
        simp only [Act.put, List.setIfInBounds_toArray, List.set_cons_succ, List.set_cons_zero]
        refine dw_callR 27 (CmpSlot (x = y)) (f := 123) (args := #[.agg #[.int .i64 x.k, .int .i64 x.i, .string x.s], .agg #[.int .i64 y.k, .int .i64 y.i, .string y.s]]) rfl rfl rfl rfl (fun wv => ?_) (fun wv HC hrm hD => ?_) ?_
        · go_simp <;> rfl
        · refine (rcompare_any x y wv).mono ?_
          rintro e w5 ⟨⟨r, rfl, hr⟩, b5⟩
          exact ⟨_, rfl, ⟨r, rfl, hr⟩, HC.call b5, RM.below b5⟩
        rintro u wx HCx ⟨r, rfl, hr⟩
        have HR := hid hr
        clear HCx hr
        simp only [Act.put, List.setIfInBounds_toArray, List.set_cons_succ, List.set_cons_zero]
        refine dw_val rfl rfl rfl ?_; apply Exists.intro; refine ⟨fun wv HC => ?_, ?_⟩
        ·  go_simp <;> rfl
        simp only [Act.put, List.setIfInBounds_toArray, List.set_cons_succ, List.set_cons_zero]
        refine rel_nil ?_
        rintro wx2 HX2
        rintro _hrm _HG
        rw [HKL.out] at HX2
        clear _hrm _HG
        have K3 := HX2.drop (List.Sublist.cons _ (List.sublist_cons_self _ _))
        by_cases hr0 : r = 0
        · have hb : (r != 0) = false := by simp [hr0]
          have HN := hid (takeEq_succ HXX.out HYY.out HT.out (HR.out.1 hr0))
          clear hr0
          go_wp2_with fail
          go_roundw
          case rel => exact ⟨k + 1, by omega, by omega, by go_num, HN, K3⟩
          case measure => simp [intOf]; omega
        · have hb : (r != 0) = true := by simpa using hr0
          have HN := hid (show r = 0 ↔ xs = ys from ⟨fun h => absurd h hr0, fun h => absurd h (take_ne HXX.out HYY.out fun e => hr0 (HR.out.2 e))⟩)
          clear hr0
          go_wp2_with fail
          go_ret
          exact ⟨⟨r, rfl, HN.out⟩, K3.below⟩
      · obtain rfl : k = m := by omega
        have hdm : decide ((k : Int) < (k : Int)) = false := by simp
        have hd2 : decide ((n : Int) < (k : Int)) = false := by rw [decide_eq_false_iff_not]; omega
        have hd3 : decide ((k : Int) < (n : Int)) = true := by simp; omega
        have hd4 : decide ((n : Int) > (k : Int)) = true := by simp; omega
        have HN := hid (show xs ≠ ys from fun e => by have h1 := HX.out; have h2 := HY.out; rw [e] at h1; omega)
        go_wp2_with fail
        go_ret
        exact ⟨⟨1, rfl, by have := HN.out; simp [this]⟩, H.below⟩
    · obtain rfl : k = n := by omega
      have hd : decide ((k : Int) < (k : Int)) = false := by simp
      by_cases hkm2 : k = m
      · subst hkm2
        have hd4 : decide ((k : Int) > (k : Int)) = false := by simp
        have HN := hid (show xs = ys by have h := HT.out; rwa [List.take_of_length_le (by rw [HX.out]; exact Nat.le_refl _), List.take_of_length_le (by rw [HY.out]; exact Nat.le_refl _)] at h)
        go_wp2_with fail
        go_ret
        exact ⟨⟨0, rfl, by have := HN.out; simp [this]⟩, H.below⟩
      · have hd2 : decide ((k : Int) < (m : Int)) = true := by simp; omega
        have HN := hid (show xs ≠ ys from fun e => by have h1 := HX.out; have h2 := HY.out; rw [e] at h1; omega)
        have hkm3 : k < m := by omega
        clear hkm2
        go_wp2_with fail
        go_ret
        exact ⟨⟨-1, rfl, by have := HN.out; simp [this]⟩, H.below⟩
end Go.Proofs.YtedogodccblfeaaGreatDoor

namespace Go.Proofs.YtedogodccblfeaaGreatDoor
open Go.RowKit Go.Maps
set_option linter.unusedVariables false
set_option linter.unusedSimpArgs false

/-- numbers as keys -/
def intFam : KeyFam Tryz.prog 3 Int where
  val := fun x => .int .i64 x
  ok := I64
  key := fun x h => ⟨_, keyOf_int_mk Tryz.underlying3 (wf_i64 h)⟩
  inj := fun x y h => by injection h
theorem Tryz.setI : SetT Tryz.prog 205 3 4 := ⟨Tryz.underlying205, Tryz.underlying4, fun w => by kernel_rfl, int_keyed Tryz.underlying3⟩
/-- the updates, one by one -/
def updV (rs : List Row) (W : Nat) (gone : List Int) : Option Int → List Upd → Bool
  | _, [] => true
  | last, u :: us => (getR rs u.1).isSome && !gone.contains u.1 && !(last.any fun p => decide (p ≥ u.1)) && decide (getR rs u.1 = some u.2.1) && decide (u.2.2.length = W) && updV rs W gone (some u.1) us
theorem updV_eq {rs : List Row} {W : Nat} {gone : List Int} : ∀ {last : Option Int} {us : List Upd}, updV rs W gone last us = (updK rs W us && rowsK rs gone last (us.map (·.1)))
  | _, [] => rfl
  | last, u :: us => by
    rw [updV, updV_eq]
    simp only [updK, List.all_cons, List.map_cons, rowsK]
    cases (getR rs u.1).isSome <;> cases gone.contains u.1 <;> cases (last.any fun p => decide (p ≥ u.1)) <;> cases decide (getR rs u.1 = some u.2.1) <;> cases decide (u.2.2.length = W) <;> simp
theorem updV_bad {rs : List Row} {W : Nat} {gone : List Int} {k : Nat} {u : Upd} {last : Option Int} {us : List Upd} (hu : us[k]? = some u) (h : (getR rs u.1).isSome = false ∨ gone.contains u.1 = true ∨ (last.any fun p => decide (p ≥ u.1)) = true ∨ getR rs u.1 ≠ some u.2.1 ∨ u.2.2.length ≠ W) : updV rs W gone last (us.drop k) = false := by
  rw [drop_cons hu, updV]
  rcases h with h | h | h | h | h
  · rw [h]; simp
  · rw [h]; simp
  · rw [h]; simp
  · rw [decide_eq_false h]; simp
  · rw [decide_eq_false h]; simp
theorem updV_good {rs : List Row} {W : Nat} {gone : List Int} {k : Nat} {u : Upd} {last : Option Int} {us : List Upd} (hu : us[k]? = some u) (h1 : (getR rs u.1).isSome = true) (h2 : gone.contains u.1 = false) (h3 : (last.any fun p => decide (p ≥ u.1)) = false) (h4 : getR rs u.1 = some u.2.1) (h5 : u.2.2.length = W) : updV rs W gone last (us.drop k) = updV rs W gone (some u.1) (us.drop (k + 1)) := by
  rw [drop_cons hu, updV, h1, h2, h3, decide_eq_true h4, decide_eq_true h5]; rfl
theorem updV_end {rs : List Row} {W : Nat} {gone : List Int} {k : Nat} {last : Option Int} {us : List Upd} (h : us.length ≤ k) : updV rs W gone last (us.drop k) = true := by rw [List.drop_of_length_le h]; rfl
section
variable {nm : ByteArray} {cs : List Col} {nx : Int} {rs : List Row} {ins : List (List Vl)} {dels : List Int} {us : List Upd}
theorem chgV_tab (h : tabB nm cs nx rs = false) : chgB nm cs nx rs ins dels us = false := by simp [chgB, h]
theorem chgV_del (h : rowsK rs [] none dels = false) : chgB nm cs nx rs ins dels us = false := by simp [chgB, h]
theorem chgV_upd {W : Nat} (hW : W = cs.length) (h : updV rs W dels none us = false) : chgB nm cs nx rs ins dels us = false := by
  subst hW
  rw [updV_eq] at h
  unfold chgB
  cases h1 : updK rs cs.length us
  · simp
  · rw [h1, Bool.true_and] at h
    simp [h]
theorem chgV_ins {W : Nat} (hW : W = cs.length) (h : (ins.any fun s => decide (s.length ≠ W)) = true) : chgB nm cs nx rs ins dels us = false := by
  subst hW
  unfold chgB
  rw [h]
  simp
theorem chgV_ok {W : Nat} (hW : W = cs.length) (h1 : tabB nm cs nx rs = true) (h2 : rowsK rs [] none dels = true) (h3 : updV rs W dels none us = true) (h4 : (ins.any fun s => decide (s.length ≠ W)) = false) : chgB nm cs nx rs ins dels us = true := by
  subst hW
  rw [updV_eq, Bool.and_eq_true] at h3
  unfold chgB
  rw [h1, h2, h3.1, h3.2, h4]; rfl
end
theorem getR_mem {l : List Rw} {id : Int} {vs : List Vl} (h : getR (l.map Rw.row) id = some vs) : ∃ r ∈ l, r.id = id ∧ r.vs = vs := by
  unfold getR at h
  obtain ⟨x, hx, hv⟩ := Option.map_eq_some_iff.1 h
  obtain ⟨r, hr, rfl⟩ := List.mem_map.1 (List.mem_of_find?_eq_some hx)
  have h2 := List.find?_some hx
  exact ⟨r, hr, by simpa [Rw.row] using h2, hv⟩
set_option maxHeartbeats 8000000 in
set_option maxRecDepth 100000 in
theorem rkvalid_any (M : Nat → Prop) (w : World) (hM : ∀ b, M b → b < w.heap.size) (nm : ByteArray) (A : Option Addr) (n c : Nat) (cs : List Col) (nx : Int) (B : Option Addr) (m d : Nat) (l : List Rw) (I : Option Addr) (ni ci : Nat) (ins : List Sl) (D : Option Addr) (nd cd : Nat) (dels : List Int) (U : Option Addr) (nu cu : Nat) (us : List Pr)
    (hC : Ro w M (SlR 4 A n (colCells cs))) (hE : Ro w M (RwsIn B m l)) (hI : Ro w M (SlsIn I ni ins)) (hD : Ro w M (IsIn D nd dels)) (hU : Ro w M (PrsIn U nu us)) (hn : n ≤ 9223372036854775807) (hm : m ≤ 4611686018427387904) (hok : ∀ r ∈ l, r.ok) (hrn : ∀ r ∈ l, r.n ≤ 4398046511104) (hpn : ∀ p ∈ us, p.on ≤ 9223372036854775807) (hs : nm.size ≤ maxLen) (hcs : ∀ x ∈ cs, x.name.size ≤ maxLen)
    (hni : ni ≤ 9223372036854775807) (hnd : nd ≤ 4611686018427387904) (hnu : nu ≤ 4398046511104) :
    Calls Tryz.prog 72 #[.agg #[.string nm, .slice A n c, .int .i64 nx, .slice B m d], .agg #[.slice I ni ci, .slice D nd cd, .slice U nu cu]] w fun e w' => e = .returned (.bool (chgB nm cs nx (l.map Rw.row) (ins.map Sl.vs) dels (us.map Pr.upd))) ∧ Below w.heap.size w w' := by
  have HUL := hid hU.now.len
  have HIL := hid hI.now.len
  have HDL := hid hD.now.len
  have HCL := hid (show cs.length = n from (RdC.of_sl hC.now).len)
  have HOK := hid hok
  have HRN := hid hrn
  have HPN := hid hpn
  clear hok hrn hpn
  have K0 := ((((((Hold.start M w hM).add (hU.less (by simp [Mut]))).add (hD.less (by simp [Mut, Hp.foot]))).add (hI.less (by simp [Mut, Hp.foot]))).add (hE.less (by simp [Mut, Hp.foot]))).add (hC.less (by simp [Mut, Hp.foot]))).alloc_cst #[.string nm, .slice A n c, .int .i64 nx, .slice B m d] 58 |>.alloc_cst #[.slice I ni ci, .slice D nd cd, .slice U nu cu] 76
  rw [World.size_alloc] at K0
  clear hC hE hI hD hU
  obtain ⟨gt, hgt⟩ : ∃ gt, gt = w.heap.size := ⟨_, rfl⟩
  obtain ⟨gc, hgc⟩ : ∃ gc, gc = gt + 1 := ⟨_, rfl⟩
  rw [← hgt, ← hgc] at K0
  have F0 := K0.facts
  simp only [World.size_alloc, World.size_drew, factsL, cellsF, Nat.reduceAdd, List.toList_toArray, List.set_cons_zero, List.set_cons_succ, List.setIfInBounds_toArray, and_true, true_and] at F0
  have hmm := @run_makeMap Tryz.prog
  rw [hgc, hgt] at K0 F0
  go_enter Tryz.func72, Tryz.ntmps72
  go_wp2_with fail
  rw [← hgt, ← hgc] at K0 ⊢
  have HGT := hid hgt
  clear hgt hgc F0
  generalize (w.alloc _).alloc _ = w0 at K0 ⊢
  refine (rtvalid_any _ _ K0.mutLt nm A n c cs nx B m d l (K0.ro 2 rfl) (K0.ro 3 rfl) hn hm HOK.out hs hcs).mono ?_
  rintro e w1 ⟨rfl, b1⟩
  have K1 := K0.call b1
  clear K0 b1
  cases htb : tabB nm cs nx (l.map Rw.row)
  · have HN := hid (show chgB nm cs nx (l.map Rw.row) (ins.map Sl.vs) dels (us.map Pr.upd) = false from chgV_tab htb)
    clear htb
    go_wp2_with fail
    go_ret
    exact ⟨by rw [HN.out] <;> rfl, K1.below⟩
  · have HTB := hid htb
    have HDK := hid HCL.out.symm
    clear htb
    have F1 := K1.facts
    simp only [World.size_alloc, World.size_drew, factsL, cellsF, Nat.reduceAdd, List.toList_toArray, List.set_cons_zero, List.set_cons_succ, List.setIfInBounds_toArray, and_true, true_and] at F1
    have KM := Hold.mset K1 4 intFam
    obtain ⟨gm, hgm⟩ : ∃ gm, gm = w1.heap.size := ⟨_, rfl⟩
    rw [← hgm, show (fun _ : Int => False) = (fun z => z ∈ dels.take 0) by funext z; simp] at KM
    go_wp2_with fail
    rw [← hgm]
    have HGM := hid hgm
    clear hgm K1 F1
    go_loopw [28] (fun iv wr => ∃ (k q : Nat) (last : Option Int), k ≤ nd ∧ iv = .int .i64 k ∧ q ≤ k ∧ Hid (PrevOk dels k last ∧ rowsK (l.map Rw.row) [] none dels = rowsK (l.map Rw.row) [] last (dels.drop k)) ∧ Hold M none w wr [.ob gm (MSet 4 intFam gm q (fun z => z ∈ dels.take k)), .cst gc 76 #[.slice I ni ci, .slice D nd cd, .slice U nu cu], .cst gt 58 #[.string nm, .slice A n c, .int .i64 nx, .slice B m d], .ro (SlR 4 A n (colCells cs)), .ro (RwsIn B m l), .ro (SlsIn I ni ins), .ro (IsIn D nd dels), .ro (PrsIn U nu us)]) (fun iv _ => nd - (intOf iv).toNat)
    case atStart => exact ⟨0, 0, none, by omega, rfl, by omega, hid ⟨⟨fun _ => rfl, fun p hp => by omega⟩, rfl⟩, KM⟩
    case round =>
      clear KM hmm
      obtain ⟨k, q, last, hk, rfl, hq, HP, H⟩ := hrel
      by_cases hlt : k < nd
      · have hdd : decide ((k : Int) < (nd : Int)) = true := by simp; omega
        have k0 : (0 : Int) ≤ (k : Int) := by omega
        have k1 : (k : Int) < (nd : Int) := by omega
        obtain ⟨id, hx⟩ := get_of HDL.out hlt
        obtain ⟨b, o, rfl, hb, hcc⟩ := (H.ro 6 rfl).now.cells (by omega)
        have hgd : ∀ j z, dels[j]? = some z → dels.getD j 0 = z := fun j z h => by simp [List.getD, h]
        have ck : wr.cell? ⟨b, o + k, none⟩ = some (.int .i64 id) := by rw [← hgd k id hx]; exact hcc k (by rw [HDL.out]; exact hlt)
        have HX := hid hx
        have F1 := H.facts
        simp only [World.size_alloc, World.size_drew, factsL, cellsF, Nat.reduceAdd, List.toList_toArray, List.set_cons_zero, List.set_cons_succ, List.setIfInBounds_toArray, and_true, true_and] at F1
        have HGD := hid hgd
        clear hx hcc hgd
        go_wp2_with fail
        refine (rtget_any _ _ H.mutLt (.string nm) (.slice A n c) (.int .i64 nx) B m d l id (H.ro 4 rfl) hm HRN.out).mono ?_
        rintro e w2 ⟨A1, n1, c1, rfl, hn1, _, _, r1, b1⟩
        have K1 := H.call b1
        clear F1 b1 r1 hn1 ck H
        have F1 := K1.facts
        simp only [World.size_alloc, World.size_drew, factsL, cellsF, Nat.reduceAdd, List.toList_toArray, List.set_cons_zero, List.set_cons_succ, List.setIfInBounds_toArray, and_true, true_and] at F1
        cases hg : getR (l.map Rw.row) id with
        | none =>
          have HN := hid (show chgB nm cs nx (l.map Rw.row) (ins.map Sl.vs) dels (us.map Pr.upd) = false from chgV_del (by rw [HP.out.2]; exact rowsK_bad HX.out (.inl (by rw [hg]; rfl))))
          simp only [Option.isSome_none]
          clear hg
          go_wp2_with fail
          go_ret
          exact ⟨by rw [HN.out] <;> rfl, K1.below⟩
        | some vs =>
          have HG := hid (show (getR (l.map Rw.row) id).isSome = true by rw [hg]; rfl)
          have HPI := hid (show I64 id by obtain ⟨r, hr, h1, _⟩ := getR_mem hg; rw [← h1]; exact (HOK.out r hr).id)
          have HMT := hid (show (fun z => z = id ∨ z ∈ dels.take k) = (fun z => z ∈ dels.take (k + 1)) by funext z; rw [List.take_add_one, HX.out]; simp [or_comm])
          simp only [Option.isSome_some]
          clear hg
          rcases Nat.eq_zero_or_pos k with hk0 | hk0
          · have HLN := hid (HP.out.1.1 hk0)
            have hd0 : decide ((k : Int) > 0) = false := by simp; omega
            have hd1 : decide (0 < k) = false := by simp; omega
            have hd2 : decide ((0 : Int) < (k : Int)) = false := by simp; omega
            have HPV := hid (show (last.any fun p => decide (p ≥ id)) = false by rw [HLN.out]; rfl)
            clear hk0
            go_wp2_with (at_mapUpdate; go_must (refine wpList_put K1 0 rfl Tryz.setI rfl (.tmp 55) (.tmp 56) _ rfl rfl id rfl rfl HPI.out (by unfold maxLen; omega) ?_); intro w5 K5)
            rw [HMT.out] at K5
            simp only [List.set_cons_zero] at K5
            have HS := hid (show rowsK (l.map Rw.row) [] none dels = rowsK (l.map Rw.row) [] (some id) (dels.drop (k + 1)) by rw [HP.out.2]; exact rowsK_good HX.out HG.out HPV.out rfl)
            have HPP := hid (show PrevOk dels (k + 1) (some id) from ⟨fun h => by omega, fun p hp => ⟨id, (show k = p by omega) ▸ HX.out, rfl⟩⟩)
            go_roundw
            case rel => exact ⟨k + 1, q + 1, some id, by omega, by go_num, by omega, hid ⟨HPP.out, HS.out⟩, K5⟩
            case measure => simp [intOf]; omega
          · obtain ⟨p, hp⟩ : ∃ p, k = p + 1 := ⟨k - 1, by omega⟩
            obtain ⟨z, hz, hzl⟩ := HP.out.1.2 p hp
            have HZL := hid hzl
            have hd0 : decide ((k : Int) > 0) = true := by simp; omega
            have hd1 : decide (0 < k) = true := by simp; omega
            have hd2 : decide ((0 : Int) < (k : Int)) = true := by simp; omega
            have hw1 : IntKind.i64.wrap ((k : Int) - 1) = (p : Int) := by rw [IntKind.wrap_i64]; omega
            have hw2 : (k : Int) - 1 = (p : Int) := by omega
            have p0 : (0 : Int) ≤ (p : Int) := by omega
            have p1 : (p : Int) < (nd : Int) := by omega
            have cz : w2.cell? ⟨b, o + p, none⟩ = some (.int .i64 z) := by
              obtain ⟨b', o', e', _, hcc⟩ := (K1.ro 6 rfl).now.cells (by omega)
              obtain ⟨rfl, rfl⟩ : b = b' ∧ o = o' := by injection e' with e'; injection e' with a1 a2; exact ⟨a1, a2⟩
              rw [← HGD.out p z hz]; exact hcc p (by rw [HDL.out]; omega)
            have HKP := hid hp
            clear hz hzl hk0 hp
            by_cases hzi : z ≥ id
            · have hzd : decide (z ≥ id) = true := by simpa using hzi
              have HN := hid (show chgB nm cs nx (l.map Rw.row) (ins.map Sl.vs) dels (us.map Pr.upd) = false from chgV_del (by rw [HP.out.2]; exact rowsK_bad HX.out (.inr (.inl (by rw [HZL.out]; simpa using hzi)))))
              clear hzi
              go_wp2_with fail
              go_ret
              exact ⟨by rw [HN.out] <;> rfl, K1.below⟩
            · have hzd : decide (z ≥ id) = false := by simpa using hzi
              have HPV := hid (show (last.any fun p => decide (p ≥ id)) = false by rw [HZL.out]; simpa using hzi)
              clear hzi
              go_wp2_with (at_mapUpdate; go_must (refine wpList_put K1 0 rfl Tryz.setI rfl (.tmp 55) (.tmp 56) _ rfl rfl id rfl rfl HPI.out (by unfold maxLen; omega) ?_); intro w5 K5)
              rw [HMT.out] at K5
              simp only [List.set_cons_zero] at K5
              have HS := hid (show rowsK (l.map Rw.row) [] none dels = rowsK (l.map Rw.row) [] (some id) (dels.drop (k + 1)) by rw [HP.out.2]; exact rowsK_good HX.out HG.out HPV.out rfl)
              have HPP := hid (show PrevOk dels (k + 1) (some id) from ⟨fun h => by omega, fun p hp => ⟨id, (show k = p by omega) ▸ HX.out, rfl⟩⟩)
              go_roundw
              case rel => exact ⟨k + 1, q + 1, some id, by omega, by go_num, by omega, hid ⟨HPP.out, HS.out⟩, K5⟩
              case measure => simp [intOf]; omega
      · obtain rfl : nd = k := by omega
        have hdd : decide ((nd : Int) < (nd : Int)) = false := by simp
        clear hlt
        have HRK := hid (show rowsK (l.map Rw.row) [] none dels = true by rw [HP.out.2]; exact rowsK_end (by rw [HDL.out]; exact Nat.le_refl _))
        rw [List.take_of_length_le (by rw [HDL.out]; exact Nat.le_refl _)] at H
        have F1 := H.facts
        simp only [World.size_alloc, World.size_drew, factsL, cellsF, Nat.reduceAdd, List.toList_toArray, List.set_cons_zero, List.set_cons_succ, List.setIfInBounds_toArray, and_true, true_and] at F1
        go_wp2_with fail
        clear F1 hdd HP
        go_loopw [61] (fun iv wr => ∃ (k : Nat) (last : Option Int), k ≤ nu ∧ iv = .int .i64 k ∧ Hid (PrevOk ((us.map Pr.upd).map (·.1)) k last ∧ updV (l.map Rw.row) n dels none (us.map Pr.upd) = updV (l.map Rw.row) n dels last ((us.map Pr.upd).drop k)) ∧ Hold M none w wr [.ob gm (MSet 4 intFam gm q (fun z => z ∈ dels)), .cst gc 76 #[.slice I ni ci, .slice D nd cd, .slice U nu cu], .cst gt 58 #[.string nm, .slice A n c, .int .i64 nx, .slice B m d], .ro (SlR 4 A n (colCells cs)), .ro (RwsIn B m l), .ro (SlsIn I ni ins), .ro (IsIn D nd dels), .ro (PrsIn U nu us)]) (fun iv _ => nu - (intOf iv).toNat)
        case atStart => exact ⟨0, none, by omega, rfl, hid ⟨⟨fun _ => rfl, fun p hp => by omega⟩, rfl⟩, H⟩
        case round =>
          clear H
          obtain ⟨k, last, hk, rfl, HP, H⟩ := hrel
          by_cases hlt : k < nu
          · have hdd : decide ((k : Int) < (nu : Int)) = true := by simp; omega
            have k0 : (0 : Int) ≤ (k : Int) := by omega
            have k1 : (k : Int) < (nu : Int) := by omega
            obtain ⟨p, hp⟩ := get_of HUL.out hlt
            obtain ⟨b, o, rfl, hb, c0, c1, c2, hv1, hv2⟩ := (H.ro 7 rfl).now.at_ hp
            have HU := hid (show (us.map Pr.upd)[k]? = some p.upd by rw [List.getElem?_map, hp]; rfl)
            have HPL := hid hv2.len
            have hpon := HPN.out p (List.mem_of_getElem? hp)
            have hpo : Ro wr _ (VlsIn p.oA p.on p.old) := (H.ro 7 rfl).imp fun w2 h2 => (h2.2 p (List.mem_of_getElem? hp)).1
            clear hp hv1 hv2
            have K1 := (H.add hpo).alloc_cst #[.int .i64 p.id, .slice p.oA p.on p.oc, .slice p.nA p.nn p.nc] 110
            clear H hpo
            obtain ⟨gp, hgp⟩ : ∃ gp, gp = wr.heap.size := ⟨_, rfl⟩
            rw [← hgp] at K1
            have F1 := K1.facts
            simp only [World.size_alloc, World.size_drew, factsL, cellsF, Nat.reduceAdd, List.toList_toArray, List.set_cons_zero, List.set_cons_succ, List.setIfInBounds_toArray, and_true, true_and] at F1
            go_wp2_with fail
            rw [← hgp]
            have HGP := hid hgp
            clear hgp c0 c1 c2
            refine (rtget_any _ _ K1.mutLt (.string nm) (.slice A n c) (.int .i64 nx) B m d l p.id (K1.ro 6 rfl) hm HRN.out).mono ?_
            rintro e w2 ⟨A1, n1, c1, rfl, hn1, _, _, r1, b1⟩
            clear F1
            cases hg : getR (l.map Rw.row) p.id with
            | none =>
              have HN := hid (show chgB nm cs nx (l.map Rw.row) (ins.map Sl.vs) dels (us.map Pr.upd) = false from chgV_upd HDK.out (by rw [HP.out.2]; exact updV_bad HU.out (.inl (by rw [show p.upd.1 = p.id from rfl, hg]; rfl))))
              simp only [Option.isSome_none]
              have K2 := (K1.call b1).add r1
              clear K1 b1 r1 hn1 hg
              obtain ⟨KL, hKL, K3⟩ := K2.name
              have HKL := hid hKL
              clear hKL K2
              go_wp2_with fail
              refine wp_region_any (by kernel_rfl) ?_
              refine wpAny_hold 38 124 (KL) (spL []) (by kernel_rfl) (by kernel_rfl) (by kernel_rfl) rfl ?_ (K3.drew) ?_
              · exact stays_nil _
              simp only [List.take_succ_cons, List.take_zero, List.drop_succ_cons, List.drop_zero, Act.put, List.getElem_toArray, List.getElem_cons_zero, List.getElem_cons_succ, List.setIfInBounds_toArray, List.set_cons_succ, List.set_cons_zero]
              refine dw_val rfl rfl rfl ?_; apply Exists.intro; refine ⟨fun wv HC => ?_, ?_⟩
              ·  go_simp <;> rfl
              simp only [Act.put, List.setIfInBounds_toArray, List.set_cons_succ, List.set_cons_zero]
              refine dw_val rfl rfl rfl ?_; apply Exists.intro; refine ⟨fun wv HC => ?_, ?_⟩
              ·  go_simp <;> rfl
              simp only [Act.put, List.setIfInBounds_toArray, List.set_cons_succ, List.set_cons_zero]
              refine dw_val rfl rfl rfl ?_; apply Exists.intro; refine ⟨fun wv HC => ?_, ?_⟩
              ·  go_simp <;> rfl
              simp only [Act.put, List.setIfInBounds_toArray, List.set_cons_succ, List.set_cons_zero]
              refine dw_skip rfl rfl rfl ?_
              simp only [Act.put, List.setIfInBounds_toArray, List.set_cons_succ, List.set_cons_zero]
              refine dw_skip rfl rfl rfl ?_
              simp only [Act.put, List.setIfInBounds_toArray, List.set_cons_succ, List.set_cons_zero]
              refine dw_skip rfl rfl rfl ?_
              simp only [Act.put, List.setIfInBounds_toArray, List.set_cons_succ, List.set_cons_zero]
              refine dw_skip rfl rfl rfl ?_
              simp only [Act.put, List.setIfInBounds_toArray, List.set_cons_succ, List.set_cons_zero]
              refine dw_val rfl rfl rfl ?_; apply Exists.intro; refine ⟨fun wv HC => ?_, ?_⟩
              ·  go_simp <;> rfl
              simp only [Act.put, List.setIfInBounds_toArray, List.set_cons_succ, List.set_cons_zero]
              refine dw_val rfl rfl rfl ?_; apply Exists.intro; refine ⟨fun wv HC => ?_, ?_⟩
              ·  go_simp <;> rfl
              simp only [Act.put, List.setIfInBounds_toArray, List.set_cons_succ, List.set_cons_zero]
              refine dw_skip rfl rfl rfl ?_
              simp only [Act.put, List.setIfInBounds_toArray, List.set_cons_succ, List.set_cons_zero]
              refine dw_skip rfl rfl rfl ?_
              simp only [Act.put, List.setIfInBounds_toArray, List.set_cons_succ, List.set_cons_zero]
              refine dw_skip rfl rfl rfl ?_
              simp only [Act.put, List.setIfInBounds_toArray, List.set_cons_succ, List.set_cons_zero]
              refine dw_skip rfl rfl rfl ?_
              simp only [Act.put, List.setIfInBounds_toArray, List.set_cons_succ, List.set_cons_zero]
              refine dw_skip rfl rfl rfl ?_
              simp only [Act.put, List.setIfInBounds_toArray, List.set_cons_succ, List.set_cons_zero]
              refine dw_skip rfl rfl rfl ?_
              simp only [Act.put, List.setIfInBounds_toArray, List.set_cons_succ, List.set_cons_zero]
              refine dw_skip rfl rfl rfl ?_
              simp only [Act.put, List.setIfInBounds_toArray, List.set_cons_succ, List.set_cons_zero]
              refine dw_skip rfl rfl rfl ?_
              simp only [Act.put, List.setIfInBounds_toArray, List.set_cons_succ, List.set_cons_zero]
              refine dw_skip rfl rfl rfl ?_
              simp only [Act.put, List.setIfInBounds_toArray, List.set_cons_succ, List.set_cons_zero]
              refine dw_skip rfl rfl rfl ?_
              simp only [Act.put, List.setIfInBounds_toArray, List.set_cons_succ, List.set_cons_zero]
              refine dw_skip rfl rfl rfl ?_
              simp only [Act.put, List.setIfInBounds_toArray, List.set_cons_succ, List.set_cons_zero]
              refine dw_skip rfl rfl rfl ?_
              simp only [Act.put, List.setIfInBounds_toArray, List.set_cons_succ, List.set_cons_zero]
              refine dw_skip rfl rfl rfl ?_
              simp only [Act.put, List.setIfInBounds_toArray, List.set_cons_succ, List.set_cons_zero]
              refine dw_skip rfl rfl rfl ?_
              simp only [Act.put, List.setIfInBounds_toArray, List.set_cons_succ, List.set_cons_zero]
              refine dw_val rfl rfl rfl ?_; apply Exists.intro; refine ⟨fun wv HC => ?_, ?_⟩
              ·  go_simp <;> rfl
              simp only [Act.put, List.setIfInBounds_toArray, List.set_cons_succ, List.set_cons_zero]
              refine dw_val rfl rfl rfl ?_; apply Exists.intro; refine ⟨fun wv HC => ?_, ?_⟩
              ·  go_simp <;> rfl
              simp only [Act.put, List.setIfInBounds_toArray, List.set_cons_succ, List.set_cons_zero]
              refine dw_skip rfl rfl rfl ?_
              simp only [Act.put, List.setIfInBounds_toArray, List.set_cons_succ, List.set_cons_zero]
              refine dw_skip rfl rfl rfl ?_
              simp only [Act.put, List.setIfInBounds_toArray, List.set_cons_succ, List.set_cons_zero]
              refine dw_skip rfl rfl rfl ?_
              simp only [Act.put, List.setIfInBounds_toArray, List.set_cons_succ, List.set_cons_zero]
              refine dw_skip rfl rfl rfl ?_
              simp only [Act.put, List.setIfInBounds_toArray, List.set_cons_succ, List.set_cons_zero]
              refine dw_skip rfl rfl rfl ?_
              simp only [Act.put, List.setIfInBounds_toArray, List.set_cons_succ, List.set_cons_zero]
              refine dw_val rfl rfl rfl ?_; apply Exists.intro; refine ⟨fun wv HC => ?_, ?_⟩
              ·  go_simp <;> rfl
              simp only [Act.put, List.setIfInBounds_toArray, List.set_cons_succ, List.set_cons_zero]
              refine dw_val rfl rfl rfl ?_; apply Exists.intro; refine ⟨fun wv HC => ?_, ?_⟩
              ·  go_simp <;> rfl
              simp only [Act.put, List.setIfInBounds_toArray, List.set_cons_succ, List.set_cons_zero]
              refine dw_skip rfl rfl rfl ?_
              simp only [Act.put, List.setIfInBounds_toArray, List.set_cons_succ, List.set_cons_zero]
              refine dw_skip rfl rfl rfl ?_
              simp only [Act.put, List.setIfInBounds_toArray, List.set_cons_succ, List.set_cons_zero]
              refine dw_skip rfl rfl rfl ?_
              simp only [Act.put, List.setIfInBounds_toArray, List.set_cons_succ, List.set_cons_zero]
              refine dw_skip rfl rfl rfl ?_
              simp only [Act.put, List.setIfInBounds_toArray, List.set_cons_succ, List.set_cons_zero]
              refine dw_skip rfl rfl rfl ?_
              simp only [Act.put, List.setIfInBounds_toArray, List.set_cons_succ, List.set_cons_zero]
              refine dw_val rfl rfl rfl ?_; apply Exists.intro; refine ⟨fun wv HC => ?_, ?_⟩
              ·  go_simp <;> rfl
              simp only [Act.put, List.setIfInBounds_toArray, List.set_cons_succ, List.set_cons_zero]
              refine rel_nil ?_
              rintro wx9 HX9
              rintro _hrm _HG
              rw [HKL.out] at HX9
              clear _hrm _HG
              go_wp2_with fail
              go_ret
              exact ⟨by rw [HN.out] <;> rfl, HX9.below⟩
            | some vs =>
              have HG2 := hid (show getR (l.map Rw.row) p.upd.1 = some vs from hg)
              have HGS := hid (show (getR (l.map Rw.row) p.upd.1).isSome = true by rw [show p.upd.1 = p.id from rfl, hg]; rfl)
              have HPI := hid (show I64 p.id by obtain ⟨r, hr, h1, _⟩ := getR_mem hg; rw [← h1]; exact (HOK.out r hr).id)
              have hn1m : n1 ≤ 4611686018427387904 := by
                obtain ⟨r, hr, _, h2⟩ := getR_mem hg
                have h3 := HRN.out r hr
                have h4 := ((K1.ro 6 rfl).now.2 r hr).len
                rw [hg] at hn1
                simp only [Option.getD_some] at hn1
                rw [h2] at h4
                omega
              rw [hg] at r1
              simp only [Option.isSome_some]
              simp only [Option.getD_some] at r1
              have K2 := (K1.call b1).add r1
              clear K1 b1 r1 hn1 hg
              obtain ⟨KL, hKL, K3⟩ := K2.name
              have HRX : Hid (∀ wv, Hold M none w wv KL → Ro wv (Mut M KL) (VlsIn A1 n1 vs) ∧ Ro wv (Mut M KL) (VlsIn p.oA p.on p.old)) := hid fun wv HC => by
                rw [hKL] at HC ⊢
                exact ⟨HC.ro 0 rfl, HC.ro 2 rfl⟩
              clear K2
              rcases Nat.eq_zero_or_pos k with hk0 | hk0
              · have HLN := hid (HP.out.1.1 hk0)
                have hd0 : decide ((k : Int) > 0) = false := by simp; omega
                have hd1 : decide (0 < k) = false := by simp; omega
                have hd2 : decide ((0 : Int) < (k : Int)) = false := by simp; omega
                have HPV := hid (show (last.any fun q => decide (q ≥ p.upd.1)) = false by rw [HLN.out]; rfl)
                clear hk0
                have HF : Hid (∀ wv, Hold M none w wv KL → wv.cell? ⟨gp, 0, none⟩ = some (.int .i64 p.id) ∧ wv.cell? ⟨gp, 1, none⟩ = some (.slice p.oA p.on p.oc) ∧ wv.cell? ⟨gp, 2, none⟩ = some (.slice p.nA p.nn p.nc) ∧ gp < wv.heap.size ∧ wv.cell? ⟨gc, 2, none⟩ = some (.slice (some ⟨b, o, none⟩) nu cu) ∧ gc < wv.heap.size) := hid fun wv HC => by
                  rw [hKL] at HC
                  have y0 := HC.cst_ 1 rfl
                  have y1 := HC.cst_ 4 rfl
                  exact ⟨cell_of_row _ _ 0 _ _ _ y0, cell_of_row _ _ 1 _ _ _ y0, cell_of_row _ _ 2 _ _ _ y0, Blk.lt y0, cell_of_row _ _ 2 _ _ _ y1, Blk.lt y1⟩
                have HKL := hid hKL
                clear hKL
                by_cases hin : p.id ∈ dels
                · have HN := hid (show chgB nm cs nx (l.map Rw.row) (ins.map Sl.vs) dels (us.map Pr.upd) = false from chgV_upd HDK.out (by rw [HP.out.2]; exact updV_bad HU.out (.inr (.inl (by show dels.contains p.id = true; simpa using hin)))))
                  have HINN := hid hin
                  clear hin
                  go_wp2_with fail
                  refine wp_region_any (by kernel_rfl) ?_
                  refine wpAny_hold 38 124 (KL) (spL []) (by kernel_rfl) (by kernel_rfl) (by kernel_rfl) rfl ?_ (K3.drew) ?_
                  · exact stays_nil _
                  simp only [List.take_succ_cons, List.take_zero, List.drop_succ_cons, List.drop_zero, Act.put, List.getElem_toArray, List.getElem_cons_zero, List.getElem_cons_succ, List.setIfInBounds_toArray, List.set_cons_succ, List.set_cons_zero]
                  refine dw_val rfl rfl rfl ?_; apply Exists.intro; refine ⟨fun wv HC => ?_, ?_⟩
                  ·  go_simp <;> rfl
                  simp only [Act.put, List.setIfInBounds_toArray, List.set_cons_succ, List.set_cons_zero]
                  refine dw_val rfl rfl rfl ?_; apply Exists.intro; refine ⟨fun wv HC => ?_, ?_⟩
                  ·  go_simp <;> rfl
                  simp only [Act.put, List.setIfInBounds_toArray, List.set_cons_succ, List.set_cons_zero]
                  refine dw_val rfl rfl rfl ?_; apply Exists.intro; refine ⟨fun wv HC => ?_, ?_⟩
                  ·  go_simp <;> rfl
                  simp only [Act.put, List.setIfInBounds_toArray, List.set_cons_succ, List.set_cons_zero]
                  refine dw_val rfl rfl rfl ?_; apply Exists.intro; refine ⟨fun wv HC => ?_, ?_⟩
                  ·  go_simp <;> rfl
                  simp only [Act.put, List.setIfInBounds_toArray, List.set_cons_succ, List.set_cons_zero]
                  refine dw_val rfl rfl rfl ?_; apply Exists.intro; refine ⟨fun wv HC => ?_, ?_⟩
                  ·  go_simp <;> rfl
                  simp only [Act.put, List.setIfInBounds_toArray, List.set_cons_succ, List.set_cons_zero]
                  refine dw_val rfl rfl rfl ?_; apply Exists.intro; refine ⟨fun wv HC => ?_, ?_⟩
                  · obtain ⟨f0, f1, f2, f3, f4, f5⟩ := HF.out _ HC; go_simp <;> rfl
                  simp only [Act.put, List.setIfInBounds_toArray, List.set_cons_succ, List.set_cons_zero]
                  refine dw_val rfl rfl rfl ⟨.bool true, fun wv HC => ?_, ?_⟩
                  · have hob := (show MSet 4 intFam gm q (fun z => z ∈ dels) wv by
                      have HC2 := HC
                      rw [HKL.out] at HC2
                      exact HC2.ob_ 3 rfl).look Tryz.setI (x := p.id) HPI.out
                    obtain ⟨cb, hrun, hcb⟩ := hob
                    obtain rfl : cb = true := hcb.2 HINN.out
                    simp [execOp, Act.eval, hrun, Result.andThen, intFam] at hrun ⊢
                    all_goals (try simp [hrun, Result.andThen])
                  simp only [Act.put, List.setIfInBounds_toArray, List.set_cons_succ, List.set_cons_zero]
                  refine dw_val rfl rfl rfl ?_; apply Exists.intro; refine ⟨fun wv HC => ?_, ?_⟩
                  ·  go_simp <;> rfl
                  simp only [Act.put, List.setIfInBounds_toArray, List.set_cons_succ, List.set_cons_zero]
                  refine dw_val rfl rfl rfl ?_; apply Exists.intro; refine ⟨fun wv HC => ?_, ?_⟩
                  ·  go_simp <;> rfl
                  simp only [Act.put, List.setIfInBounds_toArray, List.set_cons_succ, List.set_cons_zero]
                  refine dw_skip rfl rfl rfl ?_
                  simp only [Act.put, List.setIfInBounds_toArray, List.set_cons_succ, List.set_cons_zero]
                  refine dw_skip rfl rfl rfl ?_
                  simp only [Act.put, List.setIfInBounds_toArray, List.set_cons_succ, List.set_cons_zero]
                  refine dw_skip rfl rfl rfl ?_
                  simp only [Act.put, List.setIfInBounds_toArray, List.set_cons_succ, List.set_cons_zero]
                  refine dw_skip rfl rfl rfl ?_
                  simp only [Act.put, List.setIfInBounds_toArray, List.set_cons_succ, List.set_cons_zero]
                  refine dw_skip rfl rfl rfl ?_
                  simp only [Act.put, List.setIfInBounds_toArray, List.set_cons_succ, List.set_cons_zero]
                  refine dw_skip rfl rfl rfl ?_
                  simp only [Act.put, List.setIfInBounds_toArray, List.set_cons_succ, List.set_cons_zero]
                  refine dw_skip rfl rfl rfl ?_
                  simp only [Act.put, List.setIfInBounds_toArray, List.set_cons_succ, List.set_cons_zero]
                  refine dw_skip rfl rfl rfl ?_
                  simp only [Act.put, List.setIfInBounds_toArray, List.set_cons_succ, List.set_cons_zero]
                  refine dw_skip rfl rfl rfl ?_
                  simp only [Act.put, List.setIfInBounds_toArray, List.set_cons_succ, List.set_cons_zero]
                  refine dw_skip rfl rfl rfl ?_
                  simp only [Act.put, List.setIfInBounds_toArray, List.set_cons_succ, List.set_cons_zero]
                  refine dw_skip rfl rfl rfl ?_
                  simp only [Act.put, List.setIfInBounds_toArray, List.set_cons_succ, List.set_cons_zero]
                  refine dw_skip rfl rfl rfl ?_
                  simp only [Act.put, List.setIfInBounds_toArray, List.set_cons_succ, List.set_cons_zero]
                  refine dw_skip rfl rfl rfl ?_
                  simp only [Act.put, List.setIfInBounds_toArray, List.set_cons_succ, List.set_cons_zero]
                  refine dw_skip rfl rfl rfl ?_
                  simp only [Act.put, List.setIfInBounds_toArray, List.set_cons_succ, List.set_cons_zero]
                  refine dw_val rfl rfl rfl ?_; apply Exists.intro; refine ⟨fun wv HC => ?_, ?_⟩
                  ·  go_simp <;> rfl
                  simp only [Act.put, List.setIfInBounds_toArray, List.set_cons_succ, List.set_cons_zero]
                  refine dw_val rfl rfl rfl ?_; apply Exists.intro; refine ⟨fun wv HC => ?_, ?_⟩
                  ·  go_simp <;> rfl
                  simp only [Act.put, List.setIfInBounds_toArray, List.set_cons_succ, List.set_cons_zero]
                  refine dw_skip rfl rfl rfl ?_
                  simp only [Act.put, List.setIfInBounds_toArray, List.set_cons_succ, List.set_cons_zero]
                  refine dw_skip rfl rfl rfl ?_
                  simp only [Act.put, List.setIfInBounds_toArray, List.set_cons_succ, List.set_cons_zero]
                  refine dw_skip rfl rfl rfl ?_
                  simp only [Act.put, List.setIfInBounds_toArray, List.set_cons_succ, List.set_cons_zero]
                  refine dw_skip rfl rfl rfl ?_
                  simp only [Act.put, List.setIfInBounds_toArray, List.set_cons_succ, List.set_cons_zero]
                  refine dw_skip rfl rfl rfl ?_
                  simp only [Act.put, List.setIfInBounds_toArray, List.set_cons_succ, List.set_cons_zero]
                  refine dw_val rfl rfl rfl ?_; apply Exists.intro; refine ⟨fun wv HC => ?_, ?_⟩
                  ·  go_simp <;> rfl
                  simp only [Act.put, List.setIfInBounds_toArray, List.set_cons_succ, List.set_cons_zero]
                  refine dw_val rfl rfl rfl ?_; apply Exists.intro; refine ⟨fun wv HC => ?_, ?_⟩
                  ·  go_simp <;> rfl
                  simp only [Act.put, List.setIfInBounds_toArray, List.set_cons_succ, List.set_cons_zero]
                  refine dw_skip rfl rfl rfl ?_
                  simp only [Act.put, List.setIfInBounds_toArray, List.set_cons_succ, List.set_cons_zero]
                  refine dw_skip rfl rfl rfl ?_
                  simp only [Act.put, List.setIfInBounds_toArray, List.set_cons_succ, List.set_cons_zero]
                  refine dw_skip rfl rfl rfl ?_
                  simp only [Act.put, List.setIfInBounds_toArray, List.set_cons_succ, List.set_cons_zero]
                  refine dw_skip rfl rfl rfl ?_
                  simp only [Act.put, List.setIfInBounds_toArray, List.set_cons_succ, List.set_cons_zero]
                  refine dw_skip rfl rfl rfl ?_
                  simp only [Act.put, List.setIfInBounds_toArray, List.set_cons_succ, List.set_cons_zero]
                  refine dw_val rfl rfl rfl ?_; apply Exists.intro; refine ⟨fun wv HC => ?_, ?_⟩
                  ·  go_simp <;> rfl
                  simp only [Act.put, List.setIfInBounds_toArray, List.set_cons_succ, List.set_cons_zero]
                  refine rel_nil ?_
                  rintro wx9 HX9
                  rintro _hrm _HG
                  rw [HKL.out] at HX9
                  clear _hrm _HG
                  go_wp2_with fail
                  go_ret
                  exact ⟨by rw [HN.out] <;> rfl, HX9.below⟩
                · have HIN := hid (show dels.contains p.id = false by simpa using hin)
                  have HINN := hid hin
                  clear hin
                  go_wp2_with fail
                  refine wp_region_any (by kernel_rfl) ?_
                  refine wpAny_hold 38 124 (KL) (spL [(101, CmpSlot (vs = p.old))]) (by kernel_rfl) (by kernel_rfl) (by kernel_rfl) rfl ?_ (K3.drew) ?_
                  · exact stays_cons (fun _ _ _ _ h => h) (stays_nil _)
                  simp only [List.take_succ_cons, List.take_zero, List.drop_succ_cons, List.drop_zero, Act.put, List.getElem_toArray, List.getElem_cons_zero, List.getElem_cons_succ, List.setIfInBounds_toArray, List.set_cons_succ, List.set_cons_zero]
                  refine dw_val rfl rfl rfl ?_; apply Exists.intro; refine ⟨fun wv HC => ?_, ?_⟩
                  ·  go_simp <;> rfl
                  simp only [Act.put, List.setIfInBounds_toArray, List.set_cons_succ, List.set_cons_zero]
                  refine dw_val rfl rfl rfl ?_; apply Exists.intro; refine ⟨fun wv HC => ?_, ?_⟩
                  ·  go_simp <;> rfl
                  simp only [Act.put, List.setIfInBounds_toArray, List.set_cons_succ, List.set_cons_zero]
                  refine dw_val rfl rfl rfl ?_; apply Exists.intro; refine ⟨fun wv HC => ?_, ?_⟩
                  ·  go_simp <;> rfl
                  simp only [Act.put, List.setIfInBounds_toArray, List.set_cons_succ, List.set_cons_zero]
                  refine dw_val rfl rfl rfl ?_; apply Exists.intro; refine ⟨fun wv HC => ?_, ?_⟩
                  ·  go_simp <;> rfl
                  simp only [Act.put, List.setIfInBounds_toArray, List.set_cons_succ, List.set_cons_zero]
                  refine dw_val rfl rfl rfl ?_; apply Exists.intro; refine ⟨fun wv HC => ?_, ?_⟩
                  ·  go_simp <;> rfl
                  simp only [Act.put, List.setIfInBounds_toArray, List.set_cons_succ, List.set_cons_zero]
                  refine dw_val rfl rfl rfl ?_; apply Exists.intro; refine ⟨fun wv HC => ?_, ?_⟩
                  · obtain ⟨f0, f1, f2, f3, f4, f5⟩ := HF.out _ HC; go_simp <;> rfl
                  simp only [Act.put, List.setIfInBounds_toArray, List.set_cons_succ, List.set_cons_zero]
                  refine dw_val rfl rfl rfl ⟨.bool false, fun wv HC => ?_, ?_⟩
                  · have hob := (show MSet 4 intFam gm q (fun z => z ∈ dels) wv by
                      have HC2 := HC
                      rw [HKL.out] at HC2
                      exact HC2.ob_ 3 rfl).look Tryz.setI (x := p.id) HPI.out
                    obtain ⟨cb, hrun, hcb⟩ := hob
                    obtain rfl : cb = false := by cases cb; rfl; exact absurd (hcb.1 rfl) HINN.out
                    simp [execOp, Act.eval, hrun, Result.andThen, intFam] at hrun ⊢
                    all_goals (try simp [hrun, Result.andThen])
                  simp only [Act.put, List.setIfInBounds_toArray, List.set_cons_succ, List.set_cons_zero]
                  refine dw_val rfl rfl rfl ?_; apply Exists.intro; refine ⟨fun wv HC => ?_, ?_⟩
                  ·  go_simp <;> rfl
                  simp only [Act.put, List.setIfInBounds_toArray, List.set_cons_succ, List.set_cons_zero]
                  refine dw_val rfl rfl rfl ?_; apply Exists.intro; refine ⟨fun wv HC => ?_, ?_⟩
                  ·  go_simp <;> rfl
                  simp only [Act.put, List.setIfInBounds_toArray, List.set_cons_succ, List.set_cons_zero]
                  refine dw_val rfl rfl rfl ?_; apply Exists.intro; refine ⟨fun wv HC => ?_, ?_⟩
                  ·  go_simp <;> rfl
                  simp only [Act.put, List.setIfInBounds_toArray, List.set_cons_succ, List.set_cons_zero]
                  refine dw_val rfl rfl rfl ?_; apply Exists.intro; refine ⟨fun wv HC => ?_, ?_⟩
                  ·  go_simp <;> rfl
                  simp only [Act.put, List.setIfInBounds_toArray, List.set_cons_succ, List.set_cons_zero]
                  refine dw_val rfl rfl rfl ?_; apply Exists.intro; refine ⟨fun wv HC => ?_, ?_⟩
                  ·  go_simp <;> rfl
                  simp only [Act.put, List.setIfInBounds_toArray, List.set_cons_succ, List.set_cons_zero]
                  refine dw_skip rfl rfl rfl ?_
                  simp only [Act.put, List.setIfInBounds_toArray, List.set_cons_succ, List.set_cons_zero]
                  refine dw_skip rfl rfl rfl ?_
                  simp only [Act.put, List.setIfInBounds_toArray, List.set_cons_succ, List.set_cons_zero]
                  refine dw_skip rfl rfl rfl ?_
                  simp only [Act.put, List.setIfInBounds_toArray, List.set_cons_succ, List.set_cons_zero]
                  refine dw_skip rfl rfl rfl ?_
                  simp only [Act.put, List.setIfInBounds_toArray, List.set_cons_succ, List.set_cons_zero]
                  refine dw_skip rfl rfl rfl ?_
                  simp only [Act.put, List.setIfInBounds_toArray, List.set_cons_succ, List.set_cons_zero]
                  refine dw_skip rfl rfl rfl ?_
                  simp only [Act.put, List.setIfInBounds_toArray, List.set_cons_succ, List.set_cons_zero]
                  refine dw_skip rfl rfl rfl ?_
                  simp only [Act.put, List.setIfInBounds_toArray, List.set_cons_succ, List.set_cons_zero]
                  refine dw_skip rfl rfl rfl ?_
                  simp only [Act.put, List.setIfInBounds_toArray, List.set_cons_succ, List.set_cons_zero]
                  refine dw_skip rfl rfl rfl ?_
                  simp only [Act.put, List.setIfInBounds_toArray, List.set_cons_succ, List.set_cons_zero]
                  refine dw_skip rfl rfl rfl ?_
                  simp only [Act.put, List.setIfInBounds_toArray, List.set_cons_succ, List.set_cons_zero]
                  refine dw_val rfl rfl rfl ?_; apply Exists.intro; refine ⟨fun wv HC => ?_, ?_⟩
                  ·  go_simp <;> rfl
                  simp only [Act.put, List.setIfInBounds_toArray, List.set_cons_succ, List.set_cons_zero]
                  refine dw_val rfl rfl rfl ?_; apply Exists.intro; refine ⟨fun wv HC => ?_, ?_⟩
                  ·  go_simp <;> rfl
                  simp only [Act.put, List.setIfInBounds_toArray, List.set_cons_succ, List.set_cons_zero]
                  refine dw_val rfl rfl rfl ?_; apply Exists.intro; refine ⟨fun wv HC => ?_, ?_⟩
                  ·  go_simp <;> rfl
                  simp only [Act.put, List.setIfInBounds_toArray, List.set_cons_succ, List.set_cons_zero]
                  refine dw_val rfl rfl rfl ?_; apply Exists.intro; refine ⟨fun wv HC => ?_, ?_⟩
                  ·  go_simp <;> rfl
                  simp only [Act.put, List.setIfInBounds_toArray, List.set_cons_succ, List.set_cons_zero]
                  refine dw_val rfl rfl rfl ?_; apply Exists.intro; refine ⟨fun wv HC => ?_, ?_⟩
                  ·  go_simp <;> rfl
                  simp only [Act.put, List.setIfInBounds_toArray, List.set_cons_succ, List.set_cons_zero]
                  refine dw_val rfl rfl rfl ?_; apply Exists.intro; refine ⟨fun wv HC => ?_, ?_⟩
                  · obtain ⟨f0, f1, f2, f3, f4, f5⟩ := HF.out _ HC; go_simp <;> rfl
                  simp only [Act.put, List.setIfInBounds_toArray, List.set_cons_succ, List.set_cons_zero]
                  refine dw_callR 101 (CmpSlot (vs = p.old)) (f := 62) (args := #[.slice A1 n1 c1, .slice p.oA p.on p.oc]) rfl rfl rfl rfl (fun wv => ?_) (fun wv HC hrm hD => ?_) ?_
                  · go_simp <;> rfl
                  · refine (rcmprows_any (Mut M KL) wv HC.mutLt A1 n1 c1 vs p.oA p.on p.oc p.old (HRX.out _ HC).1 (HRX.out _ HC).2 (by omega) (by omega)).mono ?_
                    rintro e w5 ⟨⟨r, rfl, hr⟩, b5⟩
                    exact ⟨_, rfl, ⟨r, rfl, hr⟩, HC.call b5, RM.below b5⟩
                  rintro u wx HCx ⟨r, rfl, hr⟩
                  have HR := hid hr
                  clear HCx hr
                  simp only [Act.put, List.setIfInBounds_toArray, List.set_cons_succ, List.set_cons_zero]
                  by_cases hr0 : r = 0
                  · have hb0 : (r != 0) = false := by simp [hr0]
                    have HEQ := hid (HR.out.1 hr0)
                    clear hr0
                    refine dw_val rfl rfl rfl ?_; apply Exists.intro; refine ⟨fun wv HC => ?_, ?_⟩
                    ·  go_simp <;> rfl
                    simp only [Act.put, List.setIfInBounds_toArray, List.set_cons_succ, List.set_cons_zero]
                    refine dw_val rfl rfl rfl ?_; apply Exists.intro; refine ⟨fun wv HC => ?_, ?_⟩
                    ·  go_simp <;> rfl
                    simp only [Act.put, List.setIfInBounds_toArray, List.set_cons_succ, List.set_cons_zero]
                    refine dw_val rfl rfl rfl ?_; apply Exists.intro; refine ⟨fun wv HC => ?_, ?_⟩
                    ·  go_simp <;> rfl
                    simp only [Act.put, List.setIfInBounds_toArray, List.set_cons_succ, List.set_cons_zero]
                    refine dw_val rfl rfl rfl ?_; apply Exists.intro; refine ⟨fun wv HC => ?_, ?_⟩
                    ·  go_simp <;> rfl
                    simp only [Act.put, List.setIfInBounds_toArray, List.set_cons_succ, List.set_cons_zero]
                    refine dw_val rfl rfl rfl ?_; apply Exists.intro; refine ⟨fun wv HC => ?_, ?_⟩
                    · obtain ⟨f0, f1, f2, f3, f4, f5⟩ := HF.out _ HC; go_simp <;> rfl
                    simp only [Act.put, List.setIfInBounds_toArray, List.set_cons_succ, List.set_cons_zero]
                    refine dw_val rfl rfl rfl ?_; apply Exists.intro; refine ⟨fun wv HC => ?_, ?_⟩
                    · obtain ⟨f0, f1, f2, f3, f4, f5⟩ := HF.out _ HC; go_simp <;> rfl
                    simp only [Act.put, List.setIfInBounds_toArray, List.set_cons_succ, List.set_cons_zero]
                    by_cases hw : p.nn = n
                    · have hwb : ((p.nn : Int) != (n : Int)) = false := by simp [hw]
                      have HW := hid hw
                      clear hw
                      refine dw_val rfl rfl rfl ?_; apply Exists.intro; refine ⟨fun wv HC => ?_, ?_⟩
                      ·  go_simp <;> rfl
                      simp only [Act.put, List.setIfInBounds_toArray, List.set_cons_succ, List.set_cons_zero]
                      refine dw_val rfl rfl rfl ?_; apply Exists.intro; refine ⟨fun wv HC => ?_, ?_⟩
                      ·  go_simp <;> rfl
                      simp only [Act.put, List.setIfInBounds_toArray, List.set_cons_succ, List.set_cons_zero]
                      refine dw_val rfl rfl rfl ?_; apply Exists.intro; refine ⟨fun wv HC => ?_, ?_⟩
                      ·  go_simp <;> rfl
                      simp only [Act.put, List.setIfInBounds_toArray, List.set_cons_succ, List.set_cons_zero]
                      refine rel_nil ?_
                      rintro wx9 HX9
                      rintro _hrm _HG
                      rw [HKL.out] at HX9
                      clear _hrm _HG
                      have HS2 := hid (show updV (l.map Rw.row) n dels none (us.map Pr.upd) = updV (l.map Rw.row) n dels (some p.id) ((us.map Pr.upd).drop (k + 1)) by rw [HP.out.2]; exact updV_good HU.out HGS.out HIN.out HPV.out (HG2.out.trans (by rw [HEQ.out]; rfl)) (HPL.out.trans HW.out))
                      have HPP := hid (show PrevOk ((us.map Pr.upd).map (·.1)) (k + 1) (some p.id) from ⟨fun h => by omega, fun q hq => ⟨p.id, (show k = q by omega) ▸ (by rw [List.getElem?_map, HU.out]; rfl), rfl⟩⟩)
                      have K9 := HX9.drop (List.Sublist.cons _ (List.Sublist.cons _ (List.sublist_cons_self _ _)))
                      go_wp2_with fail
                      go_roundw
                      case rel => exact ⟨k + 1, some p.id, by omega, by go_num, hid ⟨HPP.out, HS2.out⟩, K9⟩
                      case measure => simp [intOf]; omega
                    · have hwb : ((p.nn : Int) != (n : Int)) = true := by rw [bne_iff_ne]; omega
                      have HN := hid (show chgB nm cs nx (l.map Rw.row) (ins.map Sl.vs) dels (us.map Pr.upd) = false from chgV_upd HDK.out (by rw [HP.out.2]; exact updV_bad HU.out (.inr (.inr (.inr (.inr (by rw [show p.upd.2.2.length = p.nn from HPL.out]; exact hw)))))))
                      clear hw
                      refine dw_val rfl rfl rfl ?_; apply Exists.intro; refine ⟨fun wv HC => ?_, ?_⟩
                      ·  go_simp <;> rfl
                      simp only [Act.put, List.setIfInBounds_toArray, List.set_cons_succ, List.set_cons_zero]
                      refine dw_val rfl rfl rfl ?_; apply Exists.intro; refine ⟨fun wv HC => ?_, ?_⟩
                      ·  go_simp <;> rfl
                      simp only [Act.put, List.setIfInBounds_toArray, List.set_cons_succ, List.set_cons_zero]
                      refine dw_val rfl rfl rfl ?_; apply Exists.intro; refine ⟨fun wv HC => ?_, ?_⟩
                      ·  go_simp <;> rfl
                      simp only [Act.put, List.setIfInBounds_toArray, List.set_cons_succ, List.set_cons_zero]
                      refine rel_nil ?_
                      rintro wx9 HX9
                      rintro _hrm _HG
                      rw [HKL.out] at HX9
                      clear _hrm _HG
                      go_wp2_with fail
                      go_ret
                      exact ⟨by rw [HN.out] <;> rfl, HX9.below⟩
                  · have hb0 : (r != 0) = true := by simpa using hr0
                    have HN := hid (show chgB nm cs nx (l.map Rw.row) (ins.map Sl.vs) dels (us.map Pr.upd) = false from chgV_upd HDK.out (by rw [HP.out.2]; exact updV_bad HU.out (.inr (.inr (.inr (.inl (by rw [HG2.out]; exact fun e => hr0 (HR.out.2 (Option.some.inj e)))))))))
                    clear hr0
                    refine dw_val rfl rfl rfl ?_; apply Exists.intro; refine ⟨fun wv HC => ?_, ?_⟩
                    ·  go_simp <;> rfl
                    simp only [Act.put, List.setIfInBounds_toArray, List.set_cons_succ, List.set_cons_zero]
                    refine dw_val rfl rfl rfl ?_; apply Exists.intro; refine ⟨fun wv HC => ?_, ?_⟩
                    ·  go_simp <;> rfl
                    simp only [Act.put, List.setIfInBounds_toArray, List.set_cons_succ, List.set_cons_zero]
                    refine dw_val rfl rfl rfl ?_; apply Exists.intro; refine ⟨fun wv HC => ?_, ?_⟩
                    ·  go_simp <;> rfl
                    simp only [Act.put, List.setIfInBounds_toArray, List.set_cons_succ, List.set_cons_zero]
                    refine dw_skip rfl rfl rfl ?_
                    simp only [Act.put, List.setIfInBounds_toArray, List.set_cons_succ, List.set_cons_zero]
                    refine dw_skip rfl rfl rfl ?_
                    simp only [Act.put, List.setIfInBounds_toArray, List.set_cons_succ, List.set_cons_zero]
                    refine dw_skip rfl rfl rfl ?_
                    simp only [Act.put, List.setIfInBounds_toArray, List.set_cons_succ, List.set_cons_zero]
                    refine dw_skip rfl rfl rfl ?_
                    simp only [Act.put, List.setIfInBounds_toArray, List.set_cons_succ, List.set_cons_zero]
                    refine dw_skip rfl rfl rfl ?_
                    simp only [Act.put, List.setIfInBounds_toArray, List.set_cons_succ, List.set_cons_zero]
                    refine dw_val rfl rfl rfl ?_; apply Exists.intro; refine ⟨fun wv HC => ?_, ?_⟩
                    ·  go_simp <;> rfl
                    simp only [Act.put, List.setIfInBounds_toArray, List.set_cons_succ, List.set_cons_zero]
                    refine rel_nil ?_
                    rintro wx9 HX9
                    rintro _hrm _HG
                    rw [HKL.out] at HX9
                    clear _hrm _HG
                    go_wp2_with fail
                    go_ret
                    exact ⟨by rw [HN.out] <;> rfl, HX9.below⟩
              · obtain ⟨q0, hq0⟩ : ∃ q0, k = q0 + 1 := ⟨k - 1, by omega⟩
                obtain ⟨z, hz, hzl⟩ := HP.out.1.2 q0 hq0
                have HZL := hid hzl
                have hd0 : decide ((k : Int) > 0) = true := by simp; omega
                have hd1 : decide (0 < k) = true := by simp; omega
                have hd2 : decide ((0 : Int) < (k : Int)) = true := by simp; omega
                have hw1 : IntKind.i64.wrap ((k : Int) - 1) = (q0 : Int) := by rw [IntKind.wrap_i64]; omega
                have hw2 : (k : Int) - 1 = (q0 : Int) := by omega
                have hw3 : IntKind.i64.wrap (q0 : Int) = (q0 : Int) := by rw [IntKind.wrap_i64]; omega
                have p0 : (0 : Int) ≤ (q0 : Int) := by omega
                have p1 : (q0 : Int) < (nu : Int) := by omega
                obtain ⟨pq, hpq⟩ := get_of HUL.out (show q0 < nu by omega)
                have hzq : pq.id = z := by
                  rw [List.getElem?_map, List.getElem?_map, hpq] at hz
                  injection hz
                have HF : Hid (∀ wv, Hold M none w wv KL → wv.cell? ⟨gp, 0, none⟩ = some (.int .i64 p.id) ∧ wv.cell? ⟨gp, 1, none⟩ = some (.slice p.oA p.on p.oc) ∧ wv.cell? ⟨gp, 2, none⟩ = some (.slice p.nA p.nn p.nc) ∧ gp < wv.heap.size ∧ wv.cell? ⟨gc, 2, none⟩ = some (.slice (some ⟨b, o, none⟩) nu cu) ∧ gc < wv.heap.size ∧ wv.cell? ⟨b, o + q0 * 3, none⟩ = some (.int .i64 z) ∧ b < wv.heap.size) := hid fun wv HC => by
                  rw [hKL] at HC
                  have y0 := HC.cst_ 1 rfl
                  have y1 := HC.cst_ 4 rfl
                  obtain ⟨b', o', e', hl', e0, _⟩ := (HC.ro 10 rfl).now.at_ hpq
                  obtain ⟨rfl, rfl⟩ : b = b' ∧ o = o' := by injection e' with e'; injection e' with a1 a2; exact ⟨a1, a2⟩
                  exact ⟨cell_of_row _ _ 0 _ _ _ y0, cell_of_row _ _ 1 _ _ _ y0, cell_of_row _ _ 2 _ _ _ y0, Blk.lt y0, cell_of_row _ _ 2 _ _ _ y1, Blk.lt y1, by rw [← hzq]; exact e0, hl'⟩
                have HKL := hid hKL
                have HKQ := hid hq0
                clear hKL hz hzl hk0 hq0 hpq hzq
                by_cases hin : p.id ∈ dels
                · have HN := hid (show chgB nm cs nx (l.map Rw.row) (ins.map Sl.vs) dels (us.map Pr.upd) = false from chgV_upd HDK.out (by rw [HP.out.2]; exact updV_bad HU.out (.inr (.inl (by show dels.contains p.id = true; simpa using hin)))))
                  have HINN := hid hin
                  clear hin
                  go_wp2_with fail
                  refine wp_region_any (by kernel_rfl) ?_
                  refine wpAny_hold 38 124 (KL) (spL []) (by kernel_rfl) (by kernel_rfl) (by kernel_rfl) rfl ?_ (K3.drew) ?_
                  · exact stays_nil _
                  simp only [List.take_succ_cons, List.take_zero, List.drop_succ_cons, List.drop_zero, Act.put, List.getElem_toArray, List.getElem_cons_zero, List.getElem_cons_succ, List.setIfInBounds_toArray, List.set_cons_succ, List.set_cons_zero]
                  refine dw_val rfl rfl rfl ?_; apply Exists.intro; refine ⟨fun wv HC => ?_, ?_⟩
                  ·  go_simp <;> rfl
                  simp only [Act.put, List.setIfInBounds_toArray, List.set_cons_succ, List.set_cons_zero]
                  refine dw_val rfl rfl rfl ?_; apply Exists.intro; refine ⟨fun wv HC => ?_, ?_⟩
                  ·  go_simp <;> rfl
                  simp only [Act.put, List.setIfInBounds_toArray, List.set_cons_succ, List.set_cons_zero]
                  refine dw_val rfl rfl rfl ?_; apply Exists.intro; refine ⟨fun wv HC => ?_, ?_⟩
                  ·  go_simp <;> rfl
                  simp only [Act.put, List.setIfInBounds_toArray, List.set_cons_succ, List.set_cons_zero]
                  refine dw_val rfl rfl rfl ?_; apply Exists.intro; refine ⟨fun wv HC => ?_, ?_⟩
                  ·  go_simp <;> rfl
                  simp only [Act.put, List.setIfInBounds_toArray, List.set_cons_succ, List.set_cons_zero]
                  refine dw_val rfl rfl rfl ?_; apply Exists.intro; refine ⟨fun wv HC => ?_, ?_⟩
                  ·  go_simp <;> rfl
                  simp only [Act.put, List.setIfInBounds_toArray, List.set_cons_succ, List.set_cons_zero]
                  refine dw_val rfl rfl rfl ?_; apply Exists.intro; refine ⟨fun wv HC => ?_, ?_⟩
                  · obtain ⟨f0, f1, f2, f3, f4, f5, f6, f7⟩ := HF.out _ HC; go_simp <;> rfl
                  simp only [Act.put, List.setIfInBounds_toArray, List.set_cons_succ, List.set_cons_zero]
                  refine dw_val rfl rfl rfl ⟨.bool true, fun wv HC => ?_, ?_⟩
                  · have hob := (show MSet 4 intFam gm q (fun z => z ∈ dels) wv by
                      have HC2 := HC
                      rw [HKL.out] at HC2
                      exact HC2.ob_ 3 rfl).look Tryz.setI (x := p.id) HPI.out
                    obtain ⟨cb, hrun, hcb⟩ := hob
                    obtain rfl : cb = true := hcb.2 HINN.out
                    simp [execOp, Act.eval, hrun, Result.andThen, intFam] at hrun ⊢
                    all_goals (try simp [hrun, Result.andThen])
                  simp only [Act.put, List.setIfInBounds_toArray, List.set_cons_succ, List.set_cons_zero]
                  refine dw_val rfl rfl rfl ?_; apply Exists.intro; refine ⟨fun wv HC => ?_, ?_⟩
                  ·  go_simp <;> rfl
                  simp only [Act.put, List.setIfInBounds_toArray, List.set_cons_succ, List.set_cons_zero]
                  refine dw_val rfl rfl rfl ?_; apply Exists.intro; refine ⟨fun wv HC => ?_, ?_⟩
                  ·  go_simp <;> rfl
                  simp only [Act.put, List.setIfInBounds_toArray, List.set_cons_succ, List.set_cons_zero]
                  refine dw_skip rfl rfl rfl ?_
                  simp only [Act.put, List.setIfInBounds_toArray, List.set_cons_succ, List.set_cons_zero]
                  refine dw_skip rfl rfl rfl ?_
                  simp only [Act.put, List.setIfInBounds_toArray, List.set_cons_succ, List.set_cons_zero]
                  refine dw_skip rfl rfl rfl ?_
                  simp only [Act.put, List.setIfInBounds_toArray, List.set_cons_succ, List.set_cons_zero]
                  refine dw_skip rfl rfl rfl ?_
                  simp only [Act.put, List.setIfInBounds_toArray, List.set_cons_succ, List.set_cons_zero]
                  refine dw_skip rfl rfl rfl ?_
                  simp only [Act.put, List.setIfInBounds_toArray, List.set_cons_succ, List.set_cons_zero]
                  refine dw_skip rfl rfl rfl ?_
                  simp only [Act.put, List.setIfInBounds_toArray, List.set_cons_succ, List.set_cons_zero]
                  refine dw_skip rfl rfl rfl ?_
                  simp only [Act.put, List.setIfInBounds_toArray, List.set_cons_succ, List.set_cons_zero]
                  refine dw_skip rfl rfl rfl ?_
                  simp only [Act.put, List.setIfInBounds_toArray, List.set_cons_succ, List.set_cons_zero]
                  refine dw_skip rfl rfl rfl ?_
                  simp only [Act.put, List.setIfInBounds_toArray, List.set_cons_succ, List.set_cons_zero]
                  refine dw_skip rfl rfl rfl ?_
                  simp only [Act.put, List.setIfInBounds_toArray, List.set_cons_succ, List.set_cons_zero]
                  refine dw_skip rfl rfl rfl ?_
                  simp only [Act.put, List.setIfInBounds_toArray, List.set_cons_succ, List.set_cons_zero]
                  refine dw_skip rfl rfl rfl ?_
                  simp only [Act.put, List.setIfInBounds_toArray, List.set_cons_succ, List.set_cons_zero]
                  refine dw_skip rfl rfl rfl ?_
                  simp only [Act.put, List.setIfInBounds_toArray, List.set_cons_succ, List.set_cons_zero]
                  refine dw_skip rfl rfl rfl ?_
                  simp only [Act.put, List.setIfInBounds_toArray, List.set_cons_succ, List.set_cons_zero]
                  refine dw_val rfl rfl rfl ?_; apply Exists.intro; refine ⟨fun wv HC => ?_, ?_⟩
                  ·  go_simp <;> rfl
                  simp only [Act.put, List.setIfInBounds_toArray, List.set_cons_succ, List.set_cons_zero]
                  refine dw_val rfl rfl rfl ?_; apply Exists.intro; refine ⟨fun wv HC => ?_, ?_⟩
                  ·  go_simp <;> rfl
                  simp only [Act.put, List.setIfInBounds_toArray, List.set_cons_succ, List.set_cons_zero]
                  refine dw_skip rfl rfl rfl ?_
                  simp only [Act.put, List.setIfInBounds_toArray, List.set_cons_succ, List.set_cons_zero]
                  refine dw_skip rfl rfl rfl ?_
                  simp only [Act.put, List.setIfInBounds_toArray, List.set_cons_succ, List.set_cons_zero]
                  refine dw_skip rfl rfl rfl ?_
                  simp only [Act.put, List.setIfInBounds_toArray, List.set_cons_succ, List.set_cons_zero]
                  refine dw_skip rfl rfl rfl ?_
                  simp only [Act.put, List.setIfInBounds_toArray, List.set_cons_succ, List.set_cons_zero]
                  refine dw_skip rfl rfl rfl ?_
                  simp only [Act.put, List.setIfInBounds_toArray, List.set_cons_succ, List.set_cons_zero]
                  refine dw_val rfl rfl rfl ?_; apply Exists.intro; refine ⟨fun wv HC => ?_, ?_⟩
                  ·  go_simp <;> rfl
                  simp only [Act.put, List.setIfInBounds_toArray, List.set_cons_succ, List.set_cons_zero]
                  refine dw_val rfl rfl rfl ?_; apply Exists.intro; refine ⟨fun wv HC => ?_, ?_⟩
                  ·  go_simp <;> rfl
                  simp only [Act.put, List.setIfInBounds_toArray, List.set_cons_succ, List.set_cons_zero]
                  refine dw_skip rfl rfl rfl ?_
                  simp only [Act.put, List.setIfInBounds_toArray, List.set_cons_succ, List.set_cons_zero]
                  refine dw_skip rfl rfl rfl ?_
                  simp only [Act.put, List.setIfInBounds_toArray, List.set_cons_succ, List.set_cons_zero]
                  refine dw_skip rfl rfl rfl ?_
                  simp only [Act.put, List.setIfInBounds_toArray, List.set_cons_succ, List.set_cons_zero]
                  refine dw_skip rfl rfl rfl ?_
                  simp only [Act.put, List.setIfInBounds_toArray, List.set_cons_succ, List.set_cons_zero]
                  refine dw_skip rfl rfl rfl ?_
                  simp only [Act.put, List.setIfInBounds_toArray, List.set_cons_succ, List.set_cons_zero]
                  refine dw_val rfl rfl rfl ?_; apply Exists.intro; refine ⟨fun wv HC => ?_, ?_⟩
                  ·  go_simp <;> rfl
                  simp only [Act.put, List.setIfInBounds_toArray, List.set_cons_succ, List.set_cons_zero]
                  refine rel_nil ?_
                  rintro wx9 HX9
                  rintro _hrm _HG
                  rw [HKL.out] at HX9
                  clear _hrm _HG
                  go_wp2_with fail
                  go_ret
                  exact ⟨by rw [HN.out] <;> rfl, HX9.below⟩
                · have HIN := hid (show dels.contains p.id = false by simpa using hin)
                  have HINN := hid hin
                  clear hin
                  by_cases hzi : z ≥ p.id
                  · have hzd : decide (z ≥ p.id) = true := by simpa using hzi
                    have HN := hid (show chgB nm cs nx (l.map Rw.row) (ins.map Sl.vs) dels (us.map Pr.upd) = false from chgV_upd HDK.out (by rw [HP.out.2]; exact updV_bad HU.out (.inr (.inr (.inl (by show (last.any fun q => decide (q ≥ p.id)) = true; rw [HZL.out]; simpa using hzi))))))
                    clear hzi
                    go_wp2_with fail
                    refine wp_region_any (by kernel_rfl) ?_
                    refine wpAny_hold 38 124 (KL) (spL []) (by kernel_rfl) (by kernel_rfl) (by kernel_rfl) rfl ?_ (K3.drew) ?_
                    · exact stays_nil _
                    simp only [List.take_succ_cons, List.take_zero, List.drop_succ_cons, List.drop_zero, Act.put, List.getElem_toArray, List.getElem_cons_zero, List.getElem_cons_succ, List.setIfInBounds_toArray, List.set_cons_succ, List.set_cons_zero]
                    refine dw_val rfl rfl rfl ?_; apply Exists.intro; refine ⟨fun wv HC => ?_, ?_⟩
                    ·  go_simp <;> rfl
                    simp only [Act.put, List.setIfInBounds_toArray, List.set_cons_succ, List.set_cons_zero]
                    refine dw_val rfl rfl rfl ?_; apply Exists.intro; refine ⟨fun wv HC => ?_, ?_⟩
                    ·  go_simp <;> rfl
                    simp only [Act.put, List.setIfInBounds_toArray, List.set_cons_succ, List.set_cons_zero]
                    refine dw_val rfl rfl rfl ?_; apply Exists.intro; refine ⟨fun wv HC => ?_, ?_⟩
                    ·  go_simp <;> rfl
                    simp only [Act.put, List.setIfInBounds_toArray, List.set_cons_succ, List.set_cons_zero]
                    refine dw_val rfl rfl rfl ?_; apply Exists.intro; refine ⟨fun wv HC => ?_, ?_⟩
                    ·  go_simp <;> rfl
                    simp only [Act.put, List.setIfInBounds_toArray, List.set_cons_succ, List.set_cons_zero]
                    refine dw_val rfl rfl rfl ?_; apply Exists.intro; refine ⟨fun wv HC => ?_, ?_⟩
                    ·  go_simp <;> rfl
                    simp only [Act.put, List.setIfInBounds_toArray, List.set_cons_succ, List.set_cons_zero]
                    refine dw_val rfl rfl rfl ?_; apply Exists.intro; refine ⟨fun wv HC => ?_, ?_⟩
                    · obtain ⟨f0, f1, f2, f3, f4, f5, f6, f7⟩ := HF.out _ HC; go_simp <;> rfl
                    simp only [Act.put, List.setIfInBounds_toArray, List.set_cons_succ, List.set_cons_zero]
                    refine dw_val rfl rfl rfl ⟨.bool false, fun wv HC => ?_, ?_⟩
                    · have hob := (show MSet 4 intFam gm q (fun z => z ∈ dels) wv by
                        have HC2 := HC
                        rw [HKL.out] at HC2
                        exact HC2.ob_ 3 rfl).look Tryz.setI (x := p.id) HPI.out
                      obtain ⟨cb, hrun, hcb⟩ := hob
                      obtain rfl : cb = false := by cases cb; rfl; exact absurd (hcb.1 rfl) HINN.out
                      simp [execOp, Act.eval, hrun, Result.andThen, intFam] at hrun ⊢
                      all_goals (try simp [hrun, Result.andThen])
                    simp only [Act.put, List.setIfInBounds_toArray, List.set_cons_succ, List.set_cons_zero]
                    refine dw_val rfl rfl rfl ?_; apply Exists.intro; refine ⟨fun wv HC => ?_, ?_⟩
                    ·  go_simp <;> rfl
                    simp only [Act.put, List.setIfInBounds_toArray, List.set_cons_succ, List.set_cons_zero]
                    refine dw_val rfl rfl rfl ?_; apply Exists.intro; refine ⟨fun wv HC => ?_, ?_⟩
                    ·  go_simp <;> rfl
                    simp only [Act.put, List.setIfInBounds_toArray, List.set_cons_succ, List.set_cons_zero]
                    refine dw_val rfl rfl rfl ?_; apply Exists.intro; refine ⟨fun wv HC => ?_, ?_⟩
                    ·  go_simp <;> rfl
                    simp only [Act.put, List.setIfInBounds_toArray, List.set_cons_succ, List.set_cons_zero]
                    refine dw_val rfl rfl rfl ?_; apply Exists.intro; refine ⟨fun wv HC => ?_, ?_⟩
                    ·  go_simp <;> rfl
                    simp only [Act.put, List.setIfInBounds_toArray, List.set_cons_succ, List.set_cons_zero]
                    refine dw_val rfl rfl rfl ?_; apply Exists.intro; refine ⟨fun wv HC => ?_, ?_⟩
                    ·  go_simp <;> rfl
                    simp only [Act.put, List.setIfInBounds_toArray, List.set_cons_succ, List.set_cons_zero]
                    refine dw_val rfl rfl rfl ?_; apply Exists.intro; refine ⟨fun wv HC => ?_, ?_⟩
                    ·  go_simp <;> rfl
                    simp only [Act.put, List.setIfInBounds_toArray, List.set_cons_succ, List.set_cons_zero]
                    refine dw_val rfl rfl rfl ?_; apply Exists.intro; refine ⟨fun wv HC => ?_, ?_⟩
                    · obtain ⟨f0, f1, f2, f3, f4, f5, f6, f7⟩ := HF.out _ HC; go_simp <;> rfl
                    simp only [Act.put, List.setIfInBounds_toArray, List.set_cons_succ, List.set_cons_zero]
                    refine dw_val rfl rfl rfl ?_; apply Exists.intro; refine ⟨fun wv HC => ?_, ?_⟩
                    ·  go_simp <;> rfl
                    simp only [Act.put, List.setIfInBounds_toArray, List.set_cons_succ, List.set_cons_zero]
                    refine dw_val rfl rfl rfl ?_; apply Exists.intro; refine ⟨fun wv HC => ?_, ?_⟩
                    ·  go_simp <;> rfl
                    simp only [Act.put, List.setIfInBounds_toArray, List.set_cons_succ, List.set_cons_zero]
                    refine dw_val rfl rfl rfl ?_; apply Exists.intro; refine ⟨fun wv HC => ?_, ?_⟩
                    ·  go_simp <;> rfl
                    simp only [Act.put, List.setIfInBounds_toArray, List.set_cons_succ, List.set_cons_zero]
                    refine dw_val rfl rfl rfl ?_; apply Exists.intro; refine ⟨fun wv HC => ?_, ?_⟩
                    ·  go_simp <;> rfl
                    simp only [Act.put, List.setIfInBounds_toArray, List.set_cons_succ, List.set_cons_zero]
                    refine dw_val rfl rfl rfl ?_; apply Exists.intro; refine ⟨fun wv HC => ?_, ?_⟩
                    · obtain ⟨f0, f1, f2, f3, f4, f5, f6, f7⟩ := HF.out _ HC; go_simp <;> rfl
                    simp only [Act.put, List.setIfInBounds_toArray, List.set_cons_succ, List.set_cons_zero]
                    refine dw_val rfl rfl rfl ?_; apply Exists.intro; refine ⟨fun wv HC => ?_, ?_⟩
                    ·  go_simp <;> rfl
                    simp only [Act.put, List.setIfInBounds_toArray, List.set_cons_succ, List.set_cons_zero]
                    refine dw_val rfl rfl rfl ?_; apply Exists.intro; refine ⟨fun wv HC => ?_, ?_⟩
                    · obtain ⟨f0, f1, f2, f3, f4, f5, f6, f7⟩ := HF.out _ HC; go_simp <;> rfl
                    simp only [Act.put, List.setIfInBounds_toArray, List.set_cons_succ, List.set_cons_zero]
                    refine dw_val rfl rfl rfl ?_; apply Exists.intro; refine ⟨fun wv HC => ?_, ?_⟩
                    ·  go_simp <;> rfl
                    simp only [Act.put, List.setIfInBounds_toArray, List.set_cons_succ, List.set_cons_zero]
                    refine dw_val rfl rfl rfl ?_; apply Exists.intro; refine ⟨fun wv HC => ?_, ?_⟩
                    ·  go_simp <;> rfl
                    simp only [Act.put, List.setIfInBounds_toArray, List.set_cons_succ, List.set_cons_zero]
                    refine dw_val rfl rfl rfl ?_; apply Exists.intro; refine ⟨fun wv HC => ?_, ?_⟩
                    ·  go_simp <;> rfl
                    simp only [Act.put, List.setIfInBounds_toArray, List.set_cons_succ, List.set_cons_zero]
                    refine dw_val rfl rfl rfl ?_; apply Exists.intro; refine ⟨fun wv HC => ?_, ?_⟩
                    ·  go_simp <;> rfl
                    simp only [Act.put, List.setIfInBounds_toArray, List.set_cons_succ, List.set_cons_zero]
                    refine dw_skip rfl rfl rfl ?_
                    simp only [Act.put, List.setIfInBounds_toArray, List.set_cons_succ, List.set_cons_zero]
                    refine dw_skip rfl rfl rfl ?_
                    simp only [Act.put, List.setIfInBounds_toArray, List.set_cons_succ, List.set_cons_zero]
                    refine dw_skip rfl rfl rfl ?_
                    simp only [Act.put, List.setIfInBounds_toArray, List.set_cons_succ, List.set_cons_zero]
                    refine dw_skip rfl rfl rfl ?_
                    simp only [Act.put, List.setIfInBounds_toArray, List.set_cons_succ, List.set_cons_zero]
                    refine dw_skip rfl rfl rfl ?_
                    simp only [Act.put, List.setIfInBounds_toArray, List.set_cons_succ, List.set_cons_zero]
                    refine dw_val rfl rfl rfl ?_; apply Exists.intro; refine ⟨fun wv HC => ?_, ?_⟩
                    ·  go_simp <;> rfl
                    simp only [Act.put, List.setIfInBounds_toArray, List.set_cons_succ, List.set_cons_zero]
                    refine dw_val rfl rfl rfl ?_; apply Exists.intro; refine ⟨fun wv HC => ?_, ?_⟩
                    ·  go_simp <;> rfl
                    simp only [Act.put, List.setIfInBounds_toArray, List.set_cons_succ, List.set_cons_zero]
                    refine dw_skip rfl rfl rfl ?_
                    simp only [Act.put, List.setIfInBounds_toArray, List.set_cons_succ, List.set_cons_zero]
                    refine dw_skip rfl rfl rfl ?_
                    simp only [Act.put, List.setIfInBounds_toArray, List.set_cons_succ, List.set_cons_zero]
                    refine dw_skip rfl rfl rfl ?_
                    simp only [Act.put, List.setIfInBounds_toArray, List.set_cons_succ, List.set_cons_zero]
                    refine dw_skip rfl rfl rfl ?_
                    simp only [Act.put, List.setIfInBounds_toArray, List.set_cons_succ, List.set_cons_zero]
                    refine dw_skip rfl rfl rfl ?_
                    simp only [Act.put, List.setIfInBounds_toArray, List.set_cons_succ, List.set_cons_zero]
                    refine dw_val rfl rfl rfl ?_; apply Exists.intro; refine ⟨fun wv HC => ?_, ?_⟩
                    ·  go_simp <;> rfl
                    simp only [Act.put, List.setIfInBounds_toArray, List.set_cons_succ, List.set_cons_zero]
                    refine rel_nil ?_
                    rintro wx9 HX9
                    rintro _hrm _HG
                    rw [HKL.out] at HX9
                    clear _hrm _HG
                    go_wp2_with fail
                    go_ret
                    exact ⟨by rw [HN.out] <;> rfl, HX9.below⟩
                  · have hzd : decide (z ≥ p.id) = false := by simpa using hzi
                    have HPV := hid (show (last.any fun q => decide (q ≥ p.upd.1)) = false by show (last.any fun q => decide (q ≥ p.id)) = false; rw [HZL.out]; simpa using hzi)
                    clear hzi
                    go_wp2_with fail
                    refine wp_region_any (by kernel_rfl) ?_
                    refine wpAny_hold 38 124 (KL) (spL [(101, CmpSlot (vs = p.old))]) (by kernel_rfl) (by kernel_rfl) (by kernel_rfl) rfl ?_ (K3.drew) ?_
                    · exact stays_cons (fun _ _ _ _ h => h) (stays_nil _)
                    simp only [List.take_succ_cons, List.take_zero, List.drop_succ_cons, List.drop_zero, Act.put, List.getElem_toArray, List.getElem_cons_zero, List.getElem_cons_succ, List.setIfInBounds_toArray, List.set_cons_succ, List.set_cons_zero]
                    refine dw_val rfl rfl rfl ?_; apply Exists.intro; refine ⟨fun wv HC => ?_, ?_⟩
                    ·  go_simp <;> rfl
                    simp only [Act.put, List.setIfInBounds_toArray, List.set_cons_succ, List.set_cons_zero]
                    refine dw_val rfl rfl rfl ?_; apply Exists.intro; refine ⟨fun wv HC => ?_, ?_⟩
                    ·  go_simp <;> rfl
                    simp only [Act.put, List.setIfInBounds_toArray, List.set_cons_succ, List.set_cons_zero]
                    refine dw_val rfl rfl rfl ?_; apply Exists.intro; refine ⟨fun wv HC => ?_, ?_⟩
                    ·  go_simp <;> rfl
                    simp only [Act.put, List.setIfInBounds_toArray, List.set_cons_succ, List.set_cons_zero]
                    refine dw_val rfl rfl rfl ?_; apply Exists.intro; refine ⟨fun wv HC => ?_, ?_⟩
                    ·  go_simp <;> rfl
                    simp only [Act.put, List.setIfInBounds_toArray, List.set_cons_succ, List.set_cons_zero]
                    refine dw_val rfl rfl rfl ?_; apply Exists.intro; refine ⟨fun wv HC => ?_, ?_⟩
                    ·  go_simp <;> rfl
                    simp only [Act.put, List.setIfInBounds_toArray, List.set_cons_succ, List.set_cons_zero]
                    refine dw_val rfl rfl rfl ?_; apply Exists.intro; refine ⟨fun wv HC => ?_, ?_⟩
                    · obtain ⟨f0, f1, f2, f3, f4, f5, f6, f7⟩ := HF.out _ HC; go_simp <;> rfl
                    simp only [Act.put, List.setIfInBounds_toArray, List.set_cons_succ, List.set_cons_zero]
                    refine dw_val rfl rfl rfl ⟨.bool false, fun wv HC => ?_, ?_⟩
                    · have hob := (show MSet 4 intFam gm q (fun z => z ∈ dels) wv by
                        have HC2 := HC
                        rw [HKL.out] at HC2
                        exact HC2.ob_ 3 rfl).look Tryz.setI (x := p.id) HPI.out
                      obtain ⟨cb, hrun, hcb⟩ := hob
                      obtain rfl : cb = false := by cases cb; rfl; exact absurd (hcb.1 rfl) HINN.out
                      simp [execOp, Act.eval, hrun, Result.andThen, intFam] at hrun ⊢
                      all_goals (try simp [hrun, Result.andThen])
                    simp only [Act.put, List.setIfInBounds_toArray, List.set_cons_succ, List.set_cons_zero]
                    refine dw_val rfl rfl rfl ?_; apply Exists.intro; refine ⟨fun wv HC => ?_, ?_⟩
                    ·  go_simp <;> rfl
                    simp only [Act.put, List.setIfInBounds_toArray, List.set_cons_succ, List.set_cons_zero]
                    refine dw_val rfl rfl rfl ?_; apply Exists.intro; refine ⟨fun wv HC => ?_, ?_⟩
                    ·  go_simp <;> rfl
                    simp only [Act.put, List.setIfInBounds_toArray, List.set_cons_succ, List.set_cons_zero]
                    refine dw_val rfl rfl rfl ?_; apply Exists.intro; refine ⟨fun wv HC => ?_, ?_⟩
                    ·  go_simp <;> rfl
                    simp only [Act.put, List.setIfInBounds_toArray, List.set_cons_succ, List.set_cons_zero]
                    refine dw_val rfl rfl rfl ?_; apply Exists.intro; refine ⟨fun wv HC => ?_, ?_⟩
                    ·  go_simp <;> rfl
                    simp only [Act.put, List.setIfInBounds_toArray, List.set_cons_succ, List.set_cons_zero]
                    refine dw_val rfl rfl rfl ?_; apply Exists.intro; refine ⟨fun wv HC => ?_, ?_⟩
                    ·  go_simp <;> rfl
                    simp only [Act.put, List.setIfInBounds_toArray, List.set_cons_succ, List.set_cons_zero]
                    refine dw_val rfl rfl rfl ?_; apply Exists.intro; refine ⟨fun wv HC => ?_, ?_⟩
                    ·  go_simp <;> rfl
                    simp only [Act.put, List.setIfInBounds_toArray, List.set_cons_succ, List.set_cons_zero]
                    refine dw_val rfl rfl rfl ?_; apply Exists.intro; refine ⟨fun wv HC => ?_, ?_⟩
                    · obtain ⟨f0, f1, f2, f3, f4, f5, f6, f7⟩ := HF.out _ HC; go_simp <;> rfl
                    simp only [Act.put, List.setIfInBounds_toArray, List.set_cons_succ, List.set_cons_zero]
                    refine dw_val rfl rfl rfl ?_; apply Exists.intro; refine ⟨fun wv HC => ?_, ?_⟩
                    ·  go_simp <;> rfl
                    simp only [Act.put, List.setIfInBounds_toArray, List.set_cons_succ, List.set_cons_zero]
                    refine dw_val rfl rfl rfl ?_; apply Exists.intro; refine ⟨fun wv HC => ?_, ?_⟩
                    ·  go_simp <;> rfl
                    simp only [Act.put, List.setIfInBounds_toArray, List.set_cons_succ, List.set_cons_zero]
                    refine dw_val rfl rfl rfl ?_; apply Exists.intro; refine ⟨fun wv HC => ?_, ?_⟩
                    ·  go_simp <;> rfl
                    simp only [Act.put, List.setIfInBounds_toArray, List.set_cons_succ, List.set_cons_zero]
                    refine dw_val rfl rfl rfl ?_; apply Exists.intro; refine ⟨fun wv HC => ?_, ?_⟩
                    ·  go_simp <;> rfl
                    simp only [Act.put, List.setIfInBounds_toArray, List.set_cons_succ, List.set_cons_zero]
                    refine dw_val rfl rfl rfl ?_; apply Exists.intro; refine ⟨fun wv HC => ?_, ?_⟩
                    · obtain ⟨f0, f1, f2, f3, f4, f5, f6, f7⟩ := HF.out _ HC; go_simp <;> rfl
                    simp only [Act.put, List.setIfInBounds_toArray, List.set_cons_succ, List.set_cons_zero]
                    refine dw_val rfl rfl rfl ?_; apply Exists.intro; refine ⟨fun wv HC => ?_, ?_⟩
                    ·  go_simp <;> rfl
                    simp only [Act.put, List.setIfInBounds_toArray, List.set_cons_succ, List.set_cons_zero]
                    refine dw_val rfl rfl rfl ?_; apply Exists.intro; refine ⟨fun wv HC => ?_, ?_⟩
                    · obtain ⟨f0, f1, f2, f3, f4, f5, f6, f7⟩ := HF.out _ HC; go_simp <;> rfl
                    simp only [Act.put, List.setIfInBounds_toArray, List.set_cons_succ, List.set_cons_zero]
                    refine dw_val rfl rfl rfl ?_; apply Exists.intro; refine ⟨fun wv HC => ?_, ?_⟩
                    ·  go_simp <;> rfl
                    simp only [Act.put, List.setIfInBounds_toArray, List.set_cons_succ, List.set_cons_zero]
                    refine dw_val rfl rfl rfl ?_; apply Exists.intro; refine ⟨fun wv HC => ?_, ?_⟩
                    ·  go_simp <;> rfl
                    simp only [Act.put, List.setIfInBounds_toArray, List.set_cons_succ, List.set_cons_zero]
                    refine dw_val rfl rfl rfl ?_; apply Exists.intro; refine ⟨fun wv HC => ?_, ?_⟩
                    ·  go_simp <;> rfl
                    simp only [Act.put, List.setIfInBounds_toArray, List.set_cons_succ, List.set_cons_zero]
                    refine dw_val rfl rfl rfl ?_; apply Exists.intro; refine ⟨fun wv HC => ?_, ?_⟩
                    ·  go_simp <;> rfl
                    simp only [Act.put, List.setIfInBounds_toArray, List.set_cons_succ, List.set_cons_zero]
                    refine dw_val rfl rfl rfl ?_; apply Exists.intro; refine ⟨fun wv HC => ?_, ?_⟩
                    ·  go_simp <;> rfl
                    simp only [Act.put, List.setIfInBounds_toArray, List.set_cons_succ, List.set_cons_zero]
                    refine dw_val rfl rfl rfl ?_; apply Exists.intro; refine ⟨fun wv HC => ?_, ?_⟩
                    ·  go_simp <;> rfl
                    simp only [Act.put, List.setIfInBounds_toArray, List.set_cons_succ, List.set_cons_zero]
                    refine dw_val rfl rfl rfl ?_; apply Exists.intro; refine ⟨fun wv HC => ?_, ?_⟩
                    · obtain ⟨f0, f1, f2, f3, f4, f5, f6, f7⟩ := HF.out _ HC; go_simp <;> rfl
                    simp only [Act.put, List.setIfInBounds_toArray, List.set_cons_succ, List.set_cons_zero]
                    refine dw_callR 101 (CmpSlot (vs = p.old)) (f := 62) (args := #[.slice A1 n1 c1, .slice p.oA p.on p.oc]) rfl rfl rfl rfl (fun wv => ?_) (fun wv HC hrm hD => ?_) ?_
                    · go_simp <;> rfl
                    · refine (rcmprows_any (Mut M KL) wv HC.mutLt A1 n1 c1 vs p.oA p.on p.oc p.old (HRX.out _ HC).1 (HRX.out _ HC).2 (by omega) (by omega)).mono ?_
                      rintro e w5 ⟨⟨r, rfl, hr⟩, b5⟩
                      exact ⟨_, rfl, ⟨r, rfl, hr⟩, HC.call b5, RM.below b5⟩
                    rintro u wx HCx ⟨r, rfl, hr⟩
                    have HR := hid hr
                    clear HCx hr
                    simp only [Act.put, List.setIfInBounds_toArray, List.set_cons_succ, List.set_cons_zero]
                    by_cases hr0 : r = 0
                    · have hb0 : (r != 0) = false := by simp [hr0]
                      have HEQ := hid (HR.out.1 hr0)
                      clear hr0
                      refine dw_val rfl rfl rfl ?_; apply Exists.intro; refine ⟨fun wv HC => ?_, ?_⟩
                      ·  go_simp <;> rfl
                      simp only [Act.put, List.setIfInBounds_toArray, List.set_cons_succ, List.set_cons_zero]
                      refine dw_val rfl rfl rfl ?_; apply Exists.intro; refine ⟨fun wv HC => ?_, ?_⟩
                      ·  go_simp <;> rfl
                      simp only [Act.put, List.setIfInBounds_toArray, List.set_cons_succ, List.set_cons_zero]
                      refine dw_val rfl rfl rfl ?_; apply Exists.intro; refine ⟨fun wv HC => ?_, ?_⟩
                      ·  go_simp <;> rfl
                      simp only [Act.put, List.setIfInBounds_toArray, List.set_cons_succ, List.set_cons_zero]
                      refine dw_val rfl rfl rfl ?_; apply Exists.intro; refine ⟨fun wv HC => ?_, ?_⟩
                      ·  go_simp <;> rfl
                      simp only [Act.put, List.setIfInBounds_toArray, List.set_cons_succ, List.set_cons_zero]
                      refine dw_val rfl rfl rfl ?_; apply Exists.intro; refine ⟨fun wv HC => ?_, ?_⟩
                      · obtain ⟨f0, f1, f2, f3, f4, f5, f6, f7⟩ := HF.out _ HC; go_simp <;> rfl
                      simp only [Act.put, List.setIfInBounds_toArray, List.set_cons_succ, List.set_cons_zero]
                      refine dw_val rfl rfl rfl ?_; apply Exists.intro; refine ⟨fun wv HC => ?_, ?_⟩
                      · obtain ⟨f0, f1, f2, f3, f4, f5, f6, f7⟩ := HF.out _ HC; go_simp <;> rfl
                      simp only [Act.put, List.setIfInBounds_toArray, List.set_cons_succ, List.set_cons_zero]
                      by_cases hw : p.nn = n
                      · have hwb : ((p.nn : Int) != (n : Int)) = false := by simp [hw]
                        have HW := hid hw
                        clear hw
                        refine dw_val rfl rfl rfl ?_; apply Exists.intro; refine ⟨fun wv HC => ?_, ?_⟩
                        ·  go_simp <;> rfl
                        simp only [Act.put, List.setIfInBounds_toArray, List.set_cons_succ, List.set_cons_zero]
                        refine dw_val rfl rfl rfl ?_; apply Exists.intro; refine ⟨fun wv HC => ?_, ?_⟩
                        ·  go_simp <;> rfl
                        simp only [Act.put, List.setIfInBounds_toArray, List.set_cons_succ, List.set_cons_zero]
                        refine dw_val rfl rfl rfl ?_; apply Exists.intro; refine ⟨fun wv HC => ?_, ?_⟩
                        ·  go_simp <;> rfl
                        simp only [Act.put, List.setIfInBounds_toArray, List.set_cons_succ, List.set_cons_zero]
                        refine rel_nil ?_
                        rintro wx9 HX9
                        rintro _hrm _HG
                        rw [HKL.out] at HX9
                        clear _hrm _HG
                        have HS2 := hid (show updV (l.map Rw.row) n dels none (us.map Pr.upd) = updV (l.map Rw.row) n dels (some p.id) ((us.map Pr.upd).drop (k + 1)) by rw [HP.out.2]; exact updV_good HU.out HGS.out HIN.out HPV.out (HG2.out.trans (by rw [HEQ.out]; rfl)) (HPL.out.trans HW.out))
                        have HPP := hid (show PrevOk ((us.map Pr.upd).map (·.1)) (k + 1) (some p.id) from ⟨fun h => by omega, fun q hq => ⟨p.id, (show k = q by omega) ▸ (by rw [List.getElem?_map, HU.out]; rfl), rfl⟩⟩)
                        have K9 := HX9.drop (List.Sublist.cons _ (List.Sublist.cons _ (List.sublist_cons_self _ _)))
                        go_wp2_with fail
                        go_roundw
                        case rel => exact ⟨k + 1, some p.id, by omega, by go_num, hid ⟨HPP.out, HS2.out⟩, K9⟩
                        case measure => simp [intOf]; omega
                      · have hwb : ((p.nn : Int) != (n : Int)) = true := by rw [bne_iff_ne]; omega
                        have HN := hid (show chgB nm cs nx (l.map Rw.row) (ins.map Sl.vs) dels (us.map Pr.upd) = false from chgV_upd HDK.out (by rw [HP.out.2]; exact updV_bad HU.out (.inr (.inr (.inr (.inr (by rw [show p.upd.2.2.length = p.nn from HPL.out]; exact hw)))))))
                        clear hw
                        refine dw_val rfl rfl rfl ?_; apply Exists.intro; refine ⟨fun wv HC => ?_, ?_⟩
                        ·  go_simp <;> rfl
                        simp only [Act.put, List.setIfInBounds_toArray, List.set_cons_succ, List.set_cons_zero]
                        refine dw_val rfl rfl rfl ?_; apply Exists.intro; refine ⟨fun wv HC => ?_, ?_⟩
                        ·  go_simp <;> rfl
                        simp only [Act.put, List.setIfInBounds_toArray, List.set_cons_succ, List.set_cons_zero]
                        refine dw_val rfl rfl rfl ?_; apply Exists.intro; refine ⟨fun wv HC => ?_, ?_⟩
                        ·  go_simp <;> rfl
                        simp only [Act.put, List.setIfInBounds_toArray, List.set_cons_succ, List.set_cons_zero]
                        refine rel_nil ?_
                        rintro wx9 HX9
                        rintro _hrm _HG
                        rw [HKL.out] at HX9
                        clear _hrm _HG
                        go_wp2_with fail
                        go_ret
                        exact ⟨by rw [HN.out] <;> rfl, HX9.below⟩
                    · have hb0 : (r != 0) = true := by simpa using hr0
                      have HN := hid (show chgB nm cs nx (l.map Rw.row) (ins.map Sl.vs) dels (us.map Pr.upd) = false from chgV_upd HDK.out (by rw [HP.out.2]; exact updV_bad HU.out (.inr (.inr (.inr (.inl (by rw [HG2.out]; exact fun e => hr0 (HR.out.2 (Option.some.inj e)))))))))
                      clear hr0
                      refine dw_val rfl rfl rfl ?_; apply Exists.intro; refine ⟨fun wv HC => ?_, ?_⟩
                      ·  go_simp <;> rfl
                      simp only [Act.put, List.setIfInBounds_toArray, List.set_cons_succ, List.set_cons_zero]
                      refine dw_val rfl rfl rfl ?_; apply Exists.intro; refine ⟨fun wv HC => ?_, ?_⟩
                      ·  go_simp <;> rfl
                      simp only [Act.put, List.setIfInBounds_toArray, List.set_cons_succ, List.set_cons_zero]
                      refine dw_val rfl rfl rfl ?_; apply Exists.intro; refine ⟨fun wv HC => ?_, ?_⟩
                      ·  go_simp <;> rfl
                      simp only [Act.put, List.setIfInBounds_toArray, List.set_cons_succ, List.set_cons_zero]
                      refine dw_skip rfl rfl rfl ?_
                      simp only [Act.put, List.setIfInBounds_toArray, List.set_cons_succ, List.set_cons_zero]
                      refine dw_skip rfl rfl rfl ?_
                      simp only [Act.put, List.setIfInBounds_toArray, List.set_cons_succ, List.set_cons_zero]
                      refine dw_skip rfl rfl rfl ?_
                      simp only [Act.put, List.setIfInBounds_toArray, List.set_cons_succ, List.set_cons_zero]
                      refine dw_skip rfl rfl rfl ?_
                      simp only [Act.put, List.setIfInBounds_toArray, List.set_cons_succ, List.set_cons_zero]
                      refine dw_skip rfl rfl rfl ?_
                      simp only [Act.put, List.setIfInBounds_toArray, List.set_cons_succ, List.set_cons_zero]
                      refine dw_val rfl rfl rfl ?_; apply Exists.intro; refine ⟨fun wv HC => ?_, ?_⟩
                      ·  go_simp <;> rfl
                      simp only [Act.put, List.setIfInBounds_toArray, List.set_cons_succ, List.set_cons_zero]
                      refine rel_nil ?_
                      rintro wx9 HX9
                      rintro _hrm _HG
                      rw [HKL.out] at HX9
                      clear _hrm _HG
                      go_wp2_with fail
                      go_ret
                      exact ⟨by rw [HN.out] <;> rfl, HX9.below⟩
          · obtain rfl : nu = k := by omega
            have hdd : decide ((nu : Int) < (nu : Int)) = false := by simp
            clear hlt
            have HUV := hid (show updV (l.map Rw.row) n dels none (us.map Pr.upd) = true by rw [HP.out.2]; exact updV_end (by rw [List.length_map, HUL.out]; exact Nat.le_refl _))
            have F1 := H.facts
            simp only [World.size_alloc, World.size_drew, factsL, cellsF, Nat.reduceAdd, List.toList_toArray, List.set_cons_zero, List.set_cons_succ, List.setIfInBounds_toArray, and_true, true_and] at F1
            go_wp2_with fail
            clear F1 hdd HP
            go_loopw [115] (fun iv wr => ∃ k : Nat, k ≤ ni ∧ iv = .int .i64 k ∧ Hid (((ins.map Sl.vs).take k).any (fun s => decide (s.length ≠ n)) = false) ∧ Hold M none w wr [.ob gm (MSet 4 intFam gm q (fun z => z ∈ dels)), .cst gc 76 #[.slice I ni ci, .slice D nd cd, .slice U nu cu], .cst gt 58 #[.string nm, .slice A n c, .int .i64 nx, .slice B m d], .ro (SlR 4 A n (colCells cs)), .ro (RwsIn B m l), .ro (SlsIn I ni ins), .ro (IsIn D nd dels), .ro (PrsIn U nu us)]) (fun iv _ => ni - (intOf iv).toNat)
            case atStart => exact ⟨0, by omega, rfl, hid rfl, H⟩
            case round =>
              clear H
              obtain ⟨k, hk, rfl, HA, H⟩ := hrel
              by_cases hlt : k < ni
              · have hdd : decide ((k : Int) < (ni : Int)) = true := by simp; omega
                have k0 : (0 : Int) ≤ (k : Int) := by omega
                have k1 : (k : Int) < (ni : Int) := by omega
                obtain ⟨x, hx⟩ := get_of HIL.out hlt
                obtain ⟨b, o, rfl, hb, c0, hv⟩ := (H.ro 5 rfl).now.at_ hx
                have HX := hid (show (ins.map Sl.vs)[k]? = some x.vs by rw [List.getElem?_map, hx]; rfl)
                have HXL := hid hv.len
                clear hx hv
                by_cases hw : x.n = n
                · have hwb : ((x.n : Int) != (n : Int)) = false := by simp [hw]
                  have HN := hid (show ((ins.map Sl.vs).take (k + 1)).any (fun s => decide (s.length ≠ n)) = false by rw [List.take_add_one, HX.out, List.any_append, HA.out]; simp [HXL.out, hw])
                  clear hw
                  go_wp2_with fail
                  go_roundw
                  case rel => exact ⟨k + 1, by omega, by go_num, HN, H⟩
                  case measure => simp [intOf]; omega
                · have hwb : ((x.n : Int) != (n : Int)) = true := by rw [bne_iff_ne]; omega
                  have HN := hid (show chgB nm cs nx (l.map Rw.row) (ins.map Sl.vs) dels (us.map Pr.upd) = false from chgV_ins HDK.out (List.any_eq_true.2 ⟨x.vs, List.mem_of_getElem? HX.out, by rw [HXL.out]; simpa using hw⟩))
                  clear hw
                  go_wp2_with fail
                  go_ret
                  exact ⟨by rw [HN.out] <;> rfl, H.below⟩
              · obtain rfl : ni = k := by omega
                have hdd : decide ((ni : Int) < (ni : Int)) = false := by simp
                have HN := hid (show chgB nm cs nx (l.map Rw.row) (ins.map Sl.vs) dels (us.map Pr.upd) = true from chgV_ok HDK.out HTB.out HRK.out HUV.out (by have h := HA.out; rwa [List.take_of_length_le (by rw [List.length_map, HIL.out]; exact Nat.le_refl _)] at h))
                go_wp2_with fail
                go_ret
                exact ⟨by rw [HN.out] <;> rfl, H.below⟩
end Go.Proofs.YtedogodccblfeaaGreatDoor

namespace Go.Proofs.YtedogodccblfeaaGreatDoor
open Go.RowKit
set_option linter.unusedVariables false
set_option linter.unusedSimpArgs false

def CopyRet (w : World) (M : Nat → Prop) (nm : ByteArray) (cs : List Col) (nx : Int) (e : Ending) (w' : World) : Prop :=
  ∃ (A : Option Addr) (n c : Nat) (B : Option Addr) (m d : Nat), e = .returned (.agg #[.string nm, .slice A n c, .int .i64 nx, .slice B m d]) ∧ n ≤ c ∧ c ≤ 9223372036854775807 ∧ Ro w' M (ColsIn A n cs) ∧ Below w.heap.size w w'
set_option maxHeartbeats 4000000 in
set_option maxRecDepth 100000 in
theorem rtcopy_any (M : Nat → Prop) (w : World) (hM : ∀ b, M b → b < w.heap.size) (nm : ByteArray) (A : Option Addr) (n c : Nat) (cs : List Col) (nx : Int) (B : Option Addr) (m d : Nat) (l : List Rw) (hC : Ro w M (ColsIn A n cs)) (hE : Ro w M (RwsIn B m l)) (hn : n ≤ 1000000) (hm : m ≤ 1000000) (hrn : ∀ r ∈ l, r.n ≤ 4398046511104) :
    Calls Tryz.prog 74 #[.agg #[.string nm, .slice A n c, .int .i64 nx, .slice B m d]] w fun e w' => CopyRet w M nm cs nx e w' := by
  have HRL := hid hE.now.len
  have HRN := hid hrn
  clear hrn
  have K0 := ((((Hold.start M w hM).add (hE.less (by simp [Mut]))).add (hC.less (by simp [Mut, Hp.foot]))).alloc #[.string nm, .slice A n c, .int .i64 nx, .slice B m d] 58).alloc #[.string ⟨#[]⟩, .slice none 0 0, .int .i64 0, .slice none 0 0] 58
  rw [World.size_alloc] at K0
  clear hC hE
  have F0 := K0.facts
  simp only [World.size_alloc, World.size_drew, factsL, cellsF, Nat.reduceAdd, List.toList_toArray, List.set_cons_zero, List.set_cons_succ, List.setIfInBounds_toArray, and_true, true_and] at F0
  have KN := K0.nil 147 4
  have k5 := hid ((K0.ro 2 rfl).now)
  go_enter Tryz.func74, Tryz.ntmps74
  go_wp2_with (at_builtin; go_must (refine wpList_appAllH KN 0 rfl Tryz.elCol k5.out rfl (.const (.slice none 0 0)) (.tmp 8) rfl rfl rfl (one_cols _) (by omega) (by omega) ?_); intro C9 cap9 w9 hc9 hm9 KB; (try simp only [Nat.zero_add] at hc9 ⊢); simp only [Nat.zero_add, List.nil_append, List.set_cons_zero, List.set_cons_succ] at KB; (have FB := KB.facts); simp only [World.size_alloc, World.size_drew, factsL, cellsF, Nat.reduceAdd, List.toList_toArray, List.set_cons_zero, List.set_cons_succ, List.setIfInBounds_toArray, and_true, true_and] at FB)
  have KC := (KB.sealRow 0 rfl).store 2 rfl 1 (.slice C9 n cap9)
  simp only [List.set_cons_zero, List.set_cons_succ, List.setIfInBounds_toArray] at KC
  have KD := (KC.add (ro_vals_nil _ _)).nil 119 2
  have FD := KD.facts
  simp only [World.size_alloc, World.size_drew, factsL, cellsF, Nat.reduceAdd, List.toList_toArray, List.set_cons_zero, List.set_cons_succ, List.setIfInBounds_toArray, and_true, true_and] at FD
  clear K0 KN F0 k5 KB KC
  go_wp2_with fail
  generalize World.setCell _ _ _ = w10 at KD ⊢
  clear FB FD
  obtain ⟨g1, hg1⟩ : ∃ g1, g1 = w.heap.size := ⟨_, rfl⟩
  obtain ⟨g2, hg2⟩ : ∃ g2, g2 = g1 + 1 := ⟨_, rfl⟩
  rw [← hg1, ← hg2] at KD ⊢
  have HG1 := hid hg1
  clear hg1 hg2
  go_loopw [3, 15] (fun ov iv wr => ∃ (j cap : Nat) (O : Option Addr) (outs : List Rw), j ≤ m ∧ iv = .int .i64 j ∧ ov = .slice O j cap ∧ Hold M none w wr [.own 119 2 (.slice O j cap) j (rwCells outs), .ro (ValsIn outs), .ro (ColsIn C9 n cs), .blk g2 58 #[.string ⟨#[]⟩, .slice none 0 0, .int .i64 0, .slice none 0 0], .blk g1 58 #[.string nm, .slice C9 n cap9, .int .i64 nx, .slice B m d], .ro (ColsIn A n cs), .ro (RwsIn B m l)]) (fun _ iv _ => m - (intOf iv).toNat)
  case atStart => exact ⟨0, 0, none, [], by omega, rfl, rfl, KD⟩
  case round =>
    clear KD
    obtain ⟨j, cap, O, outs, hj, rfl, rfl, H⟩ := hrel
    by_cases hlt : j < m
    · have hd : decide ((j : Int) < (m : Int)) = true := by simp; omega
      have j0 : (0 : Int) ≤ (j : Int) := by omega
      have j1 : (j : Int) < (m : Int) := by omega
      obtain ⟨x, hx⟩ := get_of HRL.out hlt
      obtain ⟨b, o, rfl, hb, c0, c1, hxv⟩ := (H.ro 6 rfl).now.at_ hx
      have hxn := HRN.out x (List.mem_of_getElem? hx)
      have hxr : Ro wr _ (VlsIn x.A x.n x.vs) := (H.ro 6 rfl).imp fun w2 h2 => h2.2 x (List.mem_of_getElem? hx)
      clear hx hxv
      have K1 := (H.add hxr).alloc_cst #[.int .i64 x.id, .slice x.A x.n x.c] 119
      clear H hxr
      obtain ⟨gr, hgr⟩ : ∃ gr, gr = wr.heap.size := ⟨_, rfl⟩
      rw [← hgr] at K1
      have F1 := K1.facts
      simp only [World.size_alloc, World.size_drew, factsL, cellsF, Nat.reduceAdd, List.toList_toArray, List.set_cons_zero, List.set_cons_succ, List.setIfInBounds_toArray, and_true, true_and] at F1
      go_wp2_with fail
      rw [← hgr]
      have HGR := hid hgr
      clear hgr c0 c1 F1
      obtain ⟨KL, hKL, KN⟩ := K1.name
      have HF : Hid (∀ wv, Hold M none w wv KL → wv.cell? ⟨gr, 0, none⟩ = some (.int .i64 x.id) ∧ wv.cell? ⟨gr, 1, none⟩ = some (.slice x.A x.n x.c) ∧ gr < wv.heap.size) := hid fun wv HC => by
        rw [hKL] at HC
        have y0 := HC.cst_ 0 rfl
        exact ⟨cell_of_row _ _ 0 _ _ _ y0, cell_of_row _ _ 1 _ _ _ y0, Blk.lt y0⟩
      have HRX : Hid (∀ wv, Hold M none w wv KL → Ro wv (Mut M KL) (VlsIn x.A x.n x.vs)) := hid fun wv HC => by
        rw [hKL] at HC ⊢
        exact HC.ro 1 rfl
      have HKL := hid hKL
      clear hKL K1
      go_wp2_with fail
      refine wp_region_any (by kernel_rfl) ?_
      refine wpAny_hold 8 32 (KL) (spL [(24, VlsSlot (Mut M KL) x.vs), (25, RowSlot (Mut M KL) x.id x.vs), (26, RBoxSlot (Mut M KL) x.id x.vs)]) (by kernel_rfl) (by kernel_rfl) (by kernel_rfl) rfl ?_ (KN.drew) ?_
      · exact stays_cons vlsSlot_mono (stays_cons rowSlot_mono (stays_cons rboxSlot_mono (stays_nil _)))
      simp only [List.take_succ_cons, List.take_zero, List.drop_succ_cons, List.drop_zero, Act.put, List.getElem_toArray, List.getElem_cons_zero, List.getElem_cons_succ, List.setIfInBounds_toArray, List.set_cons_succ, List.set_cons_zero]
      refine dw_val rfl rfl rfl ?_; apply Exists.intro; refine ⟨fun wv HC => ?_, ?_⟩
      ·  go_simp <;> rfl
      simp only [Act.put, List.setIfInBounds_toArray, List.set_cons_succ, List.set_cons_zero]
      refine dw_val rfl rfl rfl ?_; apply Exists.intro; refine ⟨fun wv HC => ?_, ?_⟩
      ·  go_simp <;> rfl
      simp only [Act.put, List.setIfInBounds_toArray, List.set_cons_succ, List.set_cons_zero]
      refine dw_val rfl rfl rfl ?_; apply Exists.intro; refine ⟨fun wv HC => ?_, ?_⟩
      · obtain ⟨f0, f1, f2⟩ := HF.out _ HC; go_simp <;> rfl
      simp only [Act.put, List.setIfInBounds_toArray, List.set_cons_succ, List.set_cons_zero]
      refine dw_val rfl rfl rfl ?_; apply Exists.intro; refine ⟨fun wv HC => ?_, ?_⟩
      ·  go_simp <;> rfl
      simp only [Act.put, List.setIfInBounds_toArray, List.set_cons_succ, List.set_cons_zero]
      refine dw_val rfl rfl rfl ?_; apply Exists.intro; refine ⟨fun wv HC => ?_, ?_⟩
      · obtain ⟨f0, f1, f2⟩ := HF.out _ HC; go_simp <;> rfl
      simp only [Act.put, List.setIfInBounds_toArray, List.set_cons_succ, List.set_cons_zero]
      refine dw_callR 24 (VlsSlot (Mut M KL) x.vs) (f := 56) (args := #[.slice x.A x.n x.c]) rfl rfl rfl rfl (fun wv => ?_) (fun wv HC hrm hD => ?_) ?_
      · go_simp <;> rfl
      · refine (copyVls_any _ wv HC.mutLt x.A x.n x.c x.vs (HRX.out _ HC) hxn).mono ?_
        rintro e w5 ⟨A5, n5, c5, rfl, h50, h51, h52, h53, b5⟩
        exact ⟨_, rfl, ⟨A5, n5, c5, rfl, h50, h51, h52, h53⟩, HC.call b5, RM.below b5⟩
      rintro x_ wx HCx ⟨A5, n5, c5, rfl, h50, h51, h52, h53⟩
      simp only [Act.put, List.setIfInBounds_toArray, List.set_cons_succ, List.set_cons_zero]
      have H50 := hid h50
      clear HCx h53 h50
      refine dw_valC 25 (RowSlot (Mut M KL) x.id x.vs) rfl rfl rfl rfl (.agg #[.int .i64 x.id, .slice A5 n5 c5]) (fun wv HC => ?_) (fun wv HC hD => ?_) ?_
      · go_simp <;> rfl
      · have hsl : VlsSlot (Mut M KL) x.vs (.slice A5 n5 c5) wv := deps_at hD 5 rfl (by kernel_rfl) rfl rfl
        obtain ⟨A6, n6, c6, e6, h1, h2, h3, h4⟩ := hsl
        exact ⟨A6, n6, c6, by rw [e6], h1, h2, h3, h4⟩
      simp only [Act.put, List.setIfInBounds_toArray, List.set_cons_succ, List.set_cons_zero]
      refine dw_new #[.int .i64 x.id, .slice A5 n5 c5] 119 26 (RBoxSlot (Mut M KL) x.id x.vs) (fun g => .slice (some ⟨g, 0, none⟩) 1 1) rfl rfl rfl rfl (fun wv => ?_) (fun wv HC _hrm hD hro => ?_) ?_
      · go_simp <;> rfl
      · have hsl : RowSlot (Mut M KL) x.id x.vs (.agg #[.int .i64 x.id, .slice A5 n5 c5]) wv := deps_at hD 6 rfl (by kernel_rfl) rfl rfl
        obtain ⟨A6, n6, c6, e6, h1, h2, h3, h4⟩ := hsl
        obtain ⟨rfl, rfl, rfl⟩ : A5 = A6 ∧ n5 = n6 ∧ c5 = c6 := by
          injection e6 with e6
          simp at e6
          exact e6
        exact ⟨_, A5, n5, c5, rfl, h1, h2, h3, h4.step (by simp) (fun b hb _ => Below.heap_alloc wv _ b hb) (fun _ _ h => h), ro_block (hro _ HC.mutLt) rfl⟩
      rintro g2 wg HCg hsl
      simp only [Act.put, List.setIfInBounds_toArray, List.set_cons_succ, List.set_cons_zero]
      clear hsl HCg
      refine rel_nil ?_
      rintro wx2 HX
      rintro _hrm HGW
      have hb2 : RBoxSlot (Mut M KL) x.id x.vs (.slice (some ⟨g2, 0, none⟩) 1 1) wx2 := (GW_on (d := 26) rfl).1 (HGW 7 _ rfl (by omega))
      clear HGW _hrm
      obtain ⟨g3, A6, n6, c6, e6, k0_, k1_, k2_, k3_, k4_⟩ := hb2
      obtain rfl : g2 = g3 := by injection e6 with e6; injection e6 with e6; injection e6
      clear e6
      rw [HKL.out] at HX k3_
      have k5 := hid k4_.now
      have HK0 := hid k0_
      clear k4_ k0_ HF HRX KN
      have HRS := hid (show rwCells outs ++ [.int .i64 x.id, .slice A6 n6 c6] = rwCells (outs ++ [⟨x.id, A6, n6, c6, x.vs⟩]) from rwCells_snoc1 _ _ _ _ _ _)
      have KA := HX.add k3_
      clear HX k3_
      have FKA := KA.facts
      simp only [World.size_alloc, World.size_drew, factsL, cellsF, Nat.reduceAdd, List.toList_toArray, List.set_cons_zero, List.set_cons_succ, List.setIfInBounds_toArray, and_true, true_and] at FKA
      go_wp2_with (at_builtin; go_must (refine wpList_appAllH KA 3 rfl Tryz.elRw k5.out rfl (.tmp 19) (.tmp 26) rfl rfl rfl (by intro z hz; simp at hz; rcases hz with rfl | rfl <;> rfl) (by omega) (by omega) ?_); intro C' cap' w6 hc6 hm6 KB; rw [HRS.out] at KB; simp only [List.set_cons_zero, List.set_cons_succ] at KB; (have F3 := KB.facts); simp only [World.size_alloc, World.size_drew, factsL, cellsF, Nat.reduceAdd, List.toList_toArray, List.set_cons_zero, List.set_cons_succ, List.setIfInBounds_toArray, and_true, true_and] at F3)
      have KE := (KB.swapRo 4 rfl (vals_snoc (r := ⟨x.id, A6, n6, c6, x.vs⟩) (KB.ro 4 rfl) (KB.ro 0 rfl))).drop (List.Sublist.cons _ (List.Sublist.cons _ (List.sublist_cons_self _ _)))
      go_roundw
      case rel => exact ⟨j + 1, cap', C', _, by omega, by go_num, by first | rfl | trivial, KE⟩
      case measure => simp [intOf]; omega
    · obtain rfl : m = j := by omega
      have hd : decide ((m : Int) < (m : Int)) = false := by simp
      have F := H.facts
      simp only [World.size_alloc, World.size_drew, factsL, cellsF, Nat.reduceAdd, List.toList_toArray, List.set_cons_zero, List.set_cons_succ, List.setIfInBounds_toArray, and_true, true_and] at F
      have N := H.nes
      simp only [World.size_alloc, nesL, neF, List.set_cons_zero, List.set_cons_succ, and_true, true_and] at N
      have KS := H.sealRow 0 rfl
      simp only [List.set_cons_zero] at KS
      have KN := ((((KS.store 4 rfl 3 (.slice O m cap)).store 3 rfl 0 (.string nm)).store 3 rfl 1 (.slice C9 n cap9)).store 3 rfl 2 (.int .i64 nx)).store 3 rfl 3 (.slice O m cap)
      have r0 := KN.roOut 2 rfl
      go_wp2_with fail
      exact bodyPost_ret (v := .agg #[.string nm, .slice C9 n cap9, .int .i64 nx, .slice O m cap]) (by simp [results, Tryz.results74, go_sem, F, N]) rfl ⟨C9, n, cap9, O, m, cap, rfl, hc9, hm9, r0, KN.below⟩
end Go.Proofs.YtedogodccblfeaaGreatDoor

namespace Go.Proofs.YtedogodccblfeaaGreatDoor
open Go.RowKit
set_option linter.unusedVariables false
set_option linter.unusedSimpArgs false

set_option maxHeartbeats 1000000 in
set_option maxRecDepth 100000 in
theorem rhas_any (w : World) (A : Option Addr) (n c : Nat) (xs : List Int) (x : Int) (hD : IsIn A n xs w) (hn : n ≤ 9223372036854775807) :
    Calls Tryz.prog 75 #[.slice A n c, .int .i64 x] w fun e w' => e = .returned (.bool (xs.contains x)) ∧ w = w' := by
  have HL := hid hD.len
  go_enter Tryz.func75, Tryz.ntmps75
  go_wp2_with fail
  go_loopw [9] (fun iv wr => ∃ (k : Nat), k ≤ n ∧ iv = .int .i64 k ∧ wr = w ∧ Hid ((xs.take k).contains x = false)) (fun iv _ => n - (intOf iv).toNat)
  case atStart => exact ⟨0, by omega, rfl, rfl, hid (by simp)⟩
  case round =>
    obtain ⟨k, hk, rfl, rfl, HC⟩ := hrel
    by_cases hlt : k < n
    · have hd : decide ((k : Int) < (n : Int)) = true := by simp; omega
      have i0 : (0 : Int) ≤ (k : Int) := by omega
      have i1 : (k : Int) < (n : Int) := by omega
      obtain ⟨b, o, rfl, _, hcc⟩ := hD.cells (by omega)
      have HX := hid (show xs[k]? = some (xs.getD k 0) by simp [List.getD, show k < xs.length by rw [HL.out]; exact hlt])
      have ck : wr.cell? ⟨b, o + k, none⟩ = some (.int .i64 (xs.getD k 0)) := hcc k (by rw [HL.out]; exact hlt)
      clear hcc
      generalize xs.getD k 0 = y at *
      by_cases hxy : x = y
      · have e1 : (y == x) = true := by simp [hxy]
        have HN := hid (cont_hit HX.out hxy)
        clear hxy
        go_wp2_with fail
        go_ret
        exact ⟨by rw [HN.out] <;> rfl, rfl⟩
      · have e1 : (y == x) = false := by rw [beq_eq_false_iff_ne]; exact fun e => hxy e.symm
        have HN := hid (cont_step HX.out hxy HC.out)
        clear hxy
        go_wp2_with fail
        go_roundw
        case rel => exact ⟨k + 1, by omega, by go_num, by first | rfl | trivial, HN⟩
        case measure => simp [intOf]; omega
    · obtain rfl : n = k := by omega
      have hd : decide ((n : Int) < (n : Int)) = false := by simp
      have HN := hid (show xs.contains x = false by have h := HC.out; rwa [List.take_of_length_le (by rw [HL.out]; exact Nat.le_refl _)] at h)
      go_wp2_with fail
      go_ret
      exact ⟨by rw [HN.out] <;> rfl, rfl⟩
/-- the first update of a row -/
def findU (us : List Upd) (id : Int) : Option (List Vl) := (us.find? fun u => u.1 == id).map (·.2.2)
theorem findU_hit {us : List Upd} {k : Nat} {u : Upd} {id : Int} (hu : us[k]? = some u) (h : u.1 = id) : findU (us.drop k) id = some u.2.2 := by
  unfold findU; rw [drop_cons hu, List.find?_cons, show (u.1 == id) = true by simpa using h]; rfl
theorem findU_miss {us : List Upd} {k : Nat} {u : Upd} {id : Int} (hu : us[k]? = some u) (h : u.1 ≠ id) : findU (us.drop k) id = findU (us.drop (k + 1)) id := by
  unfold findU; rw [drop_cons hu, List.find?_cons, show (u.1 == id) = false by simpa using h]
def FindRet (w : World) (M : Nat → Prop) (o : Option (List Vl)) (e : Ending) (w' : World) : Prop :=
  ∃ (A : Option Addr) (n c : Nat), e = .returned (.tuple #[.slice A n c, .bool o.isSome]) ∧ n = (o.getD []).length ∧ n ≤ c ∧ c ≤ 9223372036854775807 ∧ Ro w' M (VlsIn A n (o.getD [])) ∧ Below w.heap.size w w'
set_option maxHeartbeats 4000000 in
set_option maxRecDepth 100000 in
theorem rufind_any (M : Nat → Prop) (w : World) (hM : ∀ b, M b → b < w.heap.size) (U : Option Addr) (nu cu : Nat) (ps : List Pr) (id : Int) (hE : Ro w M (PrsIn U nu ps)) (hm : nu ≤ 4611686018427387904) (hok : ∀ p ∈ ps, p.ok) :
    Calls Tryz.prog 76 #[.slice U nu cu, .int .i64 id] w fun e w' => FindRet w M (findU (ps.map Pr.upd) id) e w' := by
  have HL := hid hE.now.len
  have K0 := (Hold.start M w hM).add (hE.less (by simp [Mut]))
  clear hE
  go_enter Tryz.func76, Tryz.ntmps76
  go_wp2_with fail
  go_loopw [10] (fun iv wr => ∃ (j : Nat), j ≤ nu ∧ iv = .int .i64 j ∧ Hid (findU (ps.map Pr.upd) id = findU ((ps.map Pr.upd).drop j) id) ∧ Hold M none w wr [.ro (PrsIn U nu ps)]) (fun iv _ => nu - (intOf iv).toNat)
  case atStart => exact ⟨0, by omega, rfl, hid rfl, K0⟩
  case round =>
    clear K0
    obtain ⟨j, hj, rfl, HS, H⟩ := hrel
    by_cases hlt : j < nu
    · have hd : decide ((j : Int) < (nu : Int)) = true := by simp; omega
      have j0 : (0 : Int) ≤ (j : Int) := by omega
      have j1 : (j : Int) < (nu : Int) := by omega
      obtain ⟨p, hp⟩ := get_of HL.out hlt
      obtain ⟨b, o, rfl, hb, c0, c1, c2, hv1, hv2⟩ := (H.ro 0 rfl).now.at_ hp
      have HU := hid (show (ps.map Pr.upd)[j]? = some p.upd by rw [List.getElem?_map, hp]; rfl)
      have HOK := hid (hok p (List.mem_of_getElem? hp))
      have HPL := hid hv2.len
      have hpr : Ro wr _ (VlsIn p.nA p.nn p.new) := (H.ro 0 rfl).imp fun w2 h2 => (h2.2 p (List.mem_of_getElem? hp)).2
      obtain ⟨pid, oA, on, oc, old, nA, nn, nc, new⟩ := p
      dsimp only at *
      clear hp hv1 hv2
      have K2 := (H.add hpr).alloc_cst #[.int .i64 pid, .slice oA on oc, .slice nA nn nc] 110
      have FA := K2.facts
      simp only [World.size_alloc, World.size_drew, factsL, cellsF, Nat.reduceAdd, List.toList_toArray, List.set_cons_zero, List.set_cons_succ, List.setIfInBounds_toArray, and_true, true_and] at FA
      clear H hpr
      by_cases hi : pid = id
      · have hb2 : (pid == id) = true := by simp [hi]
        have HN := hid (show findU (ps.map Pr.upd) id = some new from HS.out.trans (findU_hit HU.out hi))
        clear hi
        go_wp2_with fail
        go_ret2
        rw [HN.out]
        exact ⟨nA, nn, nc, rfl, HPL.out.symm, HOK.out.nc, HOK.out.nc2, K2.roOut 1 rfl, K2.below⟩
      · have hb2 : (pid == id) = false := by simpa using hi
        have HN := hid (show findU (ps.map Pr.upd) id = findU ((ps.map Pr.upd).drop (j + 1)) id from HS.out.trans (findU_miss HU.out hi))
        clear hi
        go_wp2_with fail
        go_roundw
        case rel => exact ⟨j + 1, by omega, by go_num, HN, K2.drop (List.Sublist.cons _ (List.sublist_cons_self _ _))⟩
        case measure => simp [intOf]; omega
    · obtain rfl : nu = j := by omega
      have hd : decide ((nu : Int) < (nu : Int)) = false := by simp
      have HN := hid (show findU (ps.map Pr.upd) id = none by rw [HS.out, List.drop_of_length_le (by rw [List.length_map, HL.out]; exact Nat.le_refl _)]; rfl)
      go_wp2_with fail
      go_ret2
      rw [HN.out]
      exact ⟨none, 0, 0, rfl, rfl, by omega, by omega, ro_nil, H.below⟩
end Go.Proofs.YtedogodccblfeaaGreatDoor

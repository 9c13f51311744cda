/- RAlike: law7.alike. -/
import Derived.Test.YtedogodccblfeaaGreatDoorSFormSaidMB
import Derived.Test.YtedogodccblfeaaGreatDoorSFormSaidMA
import Derived.Deep.RegionHeld3
import Derived.WalkSpells
import Derived.Orders
import Derived.Test.YtedogodccblfeaaGreatDoorSFormSaidMC
import Derived.Laws.CopyOwn
import Derived.Lib.AppendZerosOnto
import Derived.Lib.SliceRun
import Derived.Lib.Overlaps
import Derived.Shelf.Small.Strs
import Derived.Ground.NamesProg
import Derived.IntWalk
namespace Go.Proofs.YtedogodccblfeaaGreatDoor
open Go.RowKit
set_option linter.unusedVariables false
set_option linter.unusedSimpArgs false
set_option maxHeartbeats 4000000 in
set_option maxRecDepth 100000 in
theorem rtvalid_any (M : Nat → Prop) (w : World) (hM : ∀ b, M b → b < w.heap.size) (nm : ByteArray) (A : Option Addr) (n c : Nat) (cs : List Col) (nx : Int) (B : Option Addr) (m d : Nat) (l : List Rw) (hD : Ro w M (SlR 4 A n (colCells cs))) (hE : Ro w M (RwsIn B m l)) (hn : n ≤ 9223372036854775807) (hm : m ≤ 4611686018427387904) (hok : ∀ r ∈ l, r.ok) (hs : nm.size ≤ maxLen) (hcs : ∀ x ∈ cs, x.name.size ≤ maxLen) :
    Calls Tryz.prog 58 #[.agg #[.string nm, .slice A n c, .int .i64 nx, .slice B m d]] w fun e w' => e = .returned (.bool (tabB nm cs nx (l.map Rw.row))) ∧ Below w.heap.size w w' := by
  have HL := hid hE.now.len
  have HML := hid (show (l.map Rw.row).length = m by rw [List.length_map, HL.out])
  have K0 := (((Hold.start M w hM).add (hE.less (by simp [Mut]))).add (hD.less (by simp [Mut, Hp.foot]))).alloc_cst #[.string nm, .slice A n c, .int .i64 nx, .slice B m d] 58
  have F0 := K0.facts
  simp only [World.size_alloc, World.size_drew, factsL, cellsF, Nat.reduceAdd, List.toList_toArray, List.set_cons_zero, List.set_cons_succ, List.setIfInBounds_toArray, and_true, true_and] at F0
  clear hD hE
  go_enter Tryz.func58, Tryz.ntmps58
  go_wp2_with fail
  refine (rsvalid_any _ _ K0.mutLt nm A n c cs (K0.ro 1 rfl) hn hs hcs).mono ?_
  rintro e w1 ⟨rfl, b1⟩
  have K1 := K0.call b1
  clear K0 b1 F0
  have F1 := K1.facts
  simp only [World.size_alloc, World.size_drew, factsL, cellsF, Nat.reduceAdd, List.toList_toArray, List.set_cons_zero, List.set_cons_succ, List.setIfInBounds_toArray, and_true, true_and] at F1
  cases hsb : schemaB nm cs
  · have HN := hid (show tabB nm cs nx (l.map Rw.row) = false from tabB_1 hsb)
    go_wp2_with fail
    go_ret
    exact ⟨by rw [HN.out] <;> rfl, K1.below⟩
  have HSB := hid hsb; clear hsb
  by_cases h1 : 100 < m
  · have h1d : decide ((m : Int) > 100) = true := by simp; omega
    have HN := hid (show tabB nm cs nx (l.map Rw.row) = false from tabB_2 (by rw [HML.out]; exact h1))
    go_wp2_with fail
    go_ret
    exact ⟨by rw [HN.out] <;> rfl, K1.below⟩
  have h1d : decide ((m : Int) > 100) = false := by simp; omega
  by_cases h2 : nx < 1
  · have h2d : decide (nx < 1) = true := by simpa using h2
    have HN := hid (show tabB nm cs nx (l.map Rw.row) = false from tabB_3 h2)
    go_wp2_with fail
    go_ret
    exact ⟨by rw [HN.out] <;> rfl, K1.below⟩
  have h2d : decide (nx < 1) = false := by simpa using h2
  by_cases h3 : 2147483648 < nx
  · have h3d : decide (nx > 2147483648) = true := by simpa using h3
    have HN := hid (show tabB nm cs nx (l.map Rw.row) = false from tabB_4 h3)
    go_wp2_with fail
    go_ret
    exact ⟨by rw [HN.out] <;> rfl, K1.below⟩
  have h3d : decide (nx > 2147483648) = false := by simpa using h3
  go_wp2_with fail
  clear F1
  go_loopw [28] (fun iv wr => ∃ (j : Nat) (lst : Int), j ≤ m ∧ iv = .int .i64 j ∧ 0 ≤ lst ∧ Hid ((j = 0 → lst = 0) ∧ ∀ p, j = p + 1 → ∃ r : Rw, l[p]? = some r ∧ r.id = lst) ∧ Hid (okR cs nx 0 (l.map Rw.row) = okR cs nx lst ((l.map Rw.row).drop j)) ∧ Hold M none w wr [.cst w.heap.size 58 #[.string nm, .slice A n c, .int .i64 nx, .slice B m d], .ro (SlR 4 A n (colCells cs)), .ro (RwsIn B m l)]) (fun iv _ => m - (intOf iv).toNat)
  case atStart => exact ⟨0, 0, by omega, rfl, by omega, hid ⟨fun _ => rfl, fun p hp => by omega⟩, hid rfl, K1⟩
  case round =>
    clear K1
    obtain ⟨j, lst, hj, rfl, hl0, HP, HS, H⟩ := hrel
    by_cases hlt : j < m
    · have hdd : decide ((j : Int) < (m : Int)) = true := by simp; omega
      have j0 : (0 : Int) ≤ (j : Int) := by omega
      obtain ⟨x, hx⟩ := get_of HL.out hlt
      obtain ⟨g, o, rfl, hgb, c0, c1, hvi⟩ := (H.ro 2 rfl).now.at_ hx
      have hrok := hok x (List.mem_of_getElem? hx)
      have HX := hid (show (l.map Rw.row)[j]? = some (x.id, x.vs) by simp [hx, Rw.row])
      have HXM := hid (List.mem_of_getElem? hx)
      have HXL := hid hx
      have K2 := H.alloc_cst #[.int .i64 x.id, .slice x.A x.n x.c] 119
      clear hx
      have hxn : x.n ≤ 9223372036854775807 := Nat.le_trans hrok.nc hrok.c
      by_cases a1 : x.id < 1
      · have a1d : decide (x.id < 1) = true := by simpa using a1
        have HN := hid (show tabB nm cs nx (l.map Rw.row) = false from tabB_5 (by rw [HS.out]; exact okR_bad HX.out (.inl (show x.id ≤ lst by omega))))
        clear a1
        obtain ⟨gb, hgb2⟩ : ∃ gb, gb = wr.heap.size := ⟨_, rfl⟩
        obtain ⟨KL, hKL⟩ : ∃ KL : List Hp, KL = [Hp.cst wr.heap.size 119 #[.int .i64 x.id, .slice x.A x.n x.c], .cst w.heap.size 58 #[.string nm, .slice A n c, .int .i64 nx, .slice (some ⟨g, o, none⟩) m d], .ro (SlR 4 A n (colCells cs)), .ro (RwsIn (some ⟨g, o, none⟩) m l)] := ⟨_, rfl⟩
        rw [← hKL] at K2
        rw [← hgb2] at hKL
        have HF : Hid (∀ wv, Hold M none w wv KL → wv.cell? ⟨gb, 0, none⟩ = some (.int .i64 x.id) ∧ wv.cell? ⟨gb, 1, none⟩ = some (.slice x.A x.n x.c) ∧ gb < wv.heap.size ∧ wv.cell? ⟨w.heap.size, 0, none⟩ = some (.string nm) ∧ wv.cell? ⟨w.heap.size, 1, none⟩ = some (.slice A n c) ∧ wv.cell? ⟨w.heap.size, 2, none⟩ = some (.int .i64 nx) ∧ wv.cell? ⟨w.heap.size, 3, none⟩ = some (.slice (some ⟨g, o, none⟩) m d) ∧ w.heap.size < wv.heap.size) := hid fun wv HC => by
          rw [hKL] at HC
          have b0 := HC.cst_ 0 rfl
          have b1 := HC.cst_ 1 rfl
          exact ⟨cell_of_row _ _ 0 _ _ _ b0, cell_of_row _ _ 1 _ _ _ b0, Blk.lt b0, cell_of_row _ _ 0 _ _ _ b1, cell_of_row _ _ 1 _ _ _ b1, cell_of_row _ _ 2 _ _ _ b1, cell_of_row _ _ 3 _ _ _ b1, Blk.lt b1⟩
        have HKL : Hid (∀ wv, Hold M none w wv KL → Ro wv (Mut M KL) (SlR 4 A n (colCells cs)) ∧ Ro wv (Mut M KL) (VlsIn x.A x.n x.vs)) := hid fun wv HC => by
          rw [hKL] at HC ⊢
          exact ⟨HC.ro 2 rfl, (HC.ro 3 rfl).imp fun w2 h2 => h2.2 x HXM.out⟩
        go_wp2_with fail
        rw [← hgb2]
        have HGB := hid hgb2
        have HKE := hid hKL
        clear hgb2 hKL
        generalize wr.alloc (.cells #[.int .i64 x.id, .slice x.A x.n x.c] 119) = w2 at *
        refine wp_region_any (by kernel_rfl) ?_
        refine wpAny_hold 33 71 (KL) (spL []) (by kernel_rfl) (by kernel_rfl) (by kernel_rfl) rfl ?_ (K2.drew) ?_
        · exact stays_nil _
        simp only [List.take_succ_cons, List.take_zero, List.drop_succ_cons, List.drop_zero, Act.put, List.getElem_toArray, List.getElem_cons_zero, List.getElem_cons_succ, List.setIfInBounds_toArray, List.set_cons_succ, List.set_cons_zero]
        refine dw_val rfl rfl rfl ?_; apply Exists.intro; refine ⟨fun wv HC => ?_, ?_⟩
        · obtain ⟨f0, f1, f2, f3, f4, f5, f6, f7⟩ := HF.out _ HC; go_simp <;> rfl
        simp only [Act.put, List.setIfInBounds_toArray, List.set_cons_succ, List.set_cons_zero]
        refine dw_val rfl rfl rfl ?_; apply Exists.intro; refine ⟨fun wv HC => ?_, ?_⟩
        · obtain ⟨f0, f1, f2, f3, f4, f5, f6, f7⟩ := HF.out _ HC; go_simp <;> rfl
        simp only [Act.put, List.setIfInBounds_toArray, List.set_cons_succ, List.set_cons_zero]
        refine dw_val rfl rfl rfl ?_; apply Exists.intro; refine ⟨fun wv HC => ?_, ?_⟩
        · obtain ⟨f0, f1, f2, f3, f4, f5, f6, f7⟩ := HF.out _ HC; go_simp <;> rfl
        simp only [Act.put, List.setIfInBounds_toArray, List.set_cons_succ, List.set_cons_zero]
        refine dw_val rfl rfl rfl ?_; apply Exists.intro; refine ⟨fun wv HC => ?_, ?_⟩
        · obtain ⟨f0, f1, f2, f3, f4, f5, f6, f7⟩ := HF.out _ HC; go_simp <;> rfl
        simp only [Act.put, List.setIfInBounds_toArray, List.set_cons_succ, List.set_cons_zero]
        refine dw_skip rfl rfl rfl ?_
        simp only [Act.put, List.setIfInBounds_toArray, List.set_cons_succ, List.set_cons_zero]
        refine dw_skip rfl rfl rfl ?_
        simp only [Act.put, List.setIfInBounds_toArray, List.set_cons_succ, List.set_cons_zero]
        refine dw_skip rfl rfl rfl ?_
        simp only [Act.put, List.setIfInBounds_toArray, List.set_cons_succ, List.set_cons_zero]
        refine dw_skip rfl rfl rfl ?_
        simp only [Act.put, List.setIfInBounds_toArray, List.set_cons_succ, List.set_cons_zero]
        refine dw_skip rfl rfl rfl ?_
        simp only [Act.put, List.setIfInBounds_toArray, List.set_cons_succ, List.set_cons_zero]
        refine dw_val rfl rfl rfl ?_; apply Exists.intro; refine ⟨fun wv HC => ?_, ?_⟩
        · obtain ⟨f0, f1, f2, f3, f4, f5, f6, f7⟩ := HF.out _ HC; go_simp <;> rfl
        simp only [Act.put, List.setIfInBounds_toArray, List.set_cons_succ, List.set_cons_zero]
        refine dw_val rfl rfl rfl ?_; apply Exists.intro; refine ⟨fun wv HC => ?_, ?_⟩
        · obtain ⟨f0, f1, f2, f3, f4, f5, f6, f7⟩ := HF.out _ HC; go_simp <;> rfl
        simp only [Act.put, List.setIfInBounds_toArray, List.set_cons_succ, List.set_cons_zero]
        refine dw_skip rfl rfl rfl ?_
        simp only [Act.put, List.setIfInBounds_toArray, List.set_cons_succ, List.set_cons_zero]
        refine dw_skip rfl rfl rfl ?_
        simp only [Act.put, List.setIfInBounds_toArray, List.set_cons_succ, List.set_cons_zero]
        refine dw_skip rfl rfl rfl ?_
        simp only [Act.put, List.setIfInBounds_toArray, List.set_cons_succ, List.set_cons_zero]
        refine dw_skip rfl rfl rfl ?_
        simp only [Act.put, List.setIfInBounds_toArray, List.set_cons_succ, List.set_cons_zero]
        refine dw_skip rfl rfl rfl ?_
        simp only [Act.put, List.setIfInBounds_toArray, List.set_cons_succ, List.set_cons_zero]
        refine dw_skip rfl rfl rfl ?_
        simp only [Act.put, List.setIfInBounds_toArray, List.set_cons_succ, List.set_cons_zero]
        refine dw_skip rfl rfl rfl ?_
        simp only [Act.put, List.setIfInBounds_toArray, List.set_cons_succ, List.set_cons_zero]
        refine dw_skip rfl rfl rfl ?_
        simp only [Act.put, List.setIfInBounds_toArray, List.set_cons_succ, List.set_cons_zero]
        refine dw_skip rfl rfl rfl ?_
        simp only [Act.put, List.setIfInBounds_toArray, List.set_cons_succ, List.set_cons_zero]
        refine dw_skip rfl rfl rfl ?_
        simp only [Act.put, List.setIfInBounds_toArray, List.set_cons_succ, List.set_cons_zero]
        refine dw_skip rfl rfl rfl ?_
        simp only [Act.put, List.setIfInBounds_toArray, List.set_cons_succ, List.set_cons_zero]
        refine dw_skip rfl rfl rfl ?_
        simp only [Act.put, List.setIfInBounds_toArray, List.set_cons_succ, List.set_cons_zero]
        refine dw_skip rfl rfl rfl ?_
        simp only [Act.put, List.setIfInBounds_toArray, List.set_cons_succ, List.set_cons_zero]
        refine dw_skip rfl rfl rfl ?_
        simp only [Act.put, List.setIfInBounds_toArray, List.set_cons_succ, List.set_cons_zero]
        refine dw_val rfl rfl rfl ?_; apply Exists.intro; refine ⟨fun wv HC => ?_, ?_⟩
        · obtain ⟨f0, f1, f2, f3, f4, f5, f6, f7⟩ := HF.out _ HC; go_simp <;> rfl
        simp only [Act.put, List.setIfInBounds_toArray, List.set_cons_succ, List.set_cons_zero]
        refine dw_val rfl rfl rfl ?_; apply Exists.intro; refine ⟨fun wv HC => ?_, ?_⟩
        · obtain ⟨f0, f1, f2, f3, f4, f5, f6, f7⟩ := HF.out _ HC; go_simp <;> rfl
        simp only [Act.put, List.setIfInBounds_toArray, List.set_cons_succ, List.set_cons_zero]
        refine dw_skip rfl rfl rfl ?_
        simp only [Act.put, List.setIfInBounds_toArray, List.set_cons_succ, List.set_cons_zero]
        refine dw_skip rfl rfl rfl ?_
        simp only [Act.put, List.setIfInBounds_toArray, List.set_cons_succ, List.set_cons_zero]
        refine dw_skip rfl rfl rfl ?_
        simp only [Act.put, List.setIfInBounds_toArray, List.set_cons_succ, List.set_cons_zero]
        refine dw_skip rfl rfl rfl ?_
        simp only [Act.put, List.setIfInBounds_toArray, List.set_cons_succ, List.set_cons_zero]
        refine dw_skip rfl rfl rfl ?_
        simp only [Act.put, List.setIfInBounds_toArray, List.set_cons_succ, List.set_cons_zero]
        refine dw_skip rfl rfl rfl ?_
        simp only [Act.put, List.setIfInBounds_toArray, List.set_cons_succ, List.set_cons_zero]
        refine rel_nil ?_
        rintro wx2 HX2
        rintro _hrm _HG
        rw [HKE.out] at HX2
        clear _hrm _HG
        go_wp2_with fail
        go_ret
        exact ⟨by rw [HN.out] <;> rfl, HX2.below⟩
      have a1d : decide (x.id < 1) = false := by simpa using a1
      by_cases a2 : nx ≤ x.id
      · have a2d : decide (x.id ≥ nx) = true := by simpa using a2
        have HN := hid (show tabB nm cs nx (l.map Rw.row) = false from tabB_5 (by rw [HS.out]; exact okR_bad HX.out (.inr (.inl a2))))
        clear a1 a2
        obtain ⟨gb, hgb2⟩ : ∃ gb, gb = wr.heap.size := ⟨_, rfl⟩
        obtain ⟨KL, hKL⟩ : ∃ KL : List Hp, KL = [Hp.cst wr.heap.size 119 #[.int .i64 x.id, .slice x.A x.n x.c], .cst w.heap.size 58 #[.string nm, .slice A n c, .int .i64 nx, .slice (some ⟨g, o, none⟩) m d], .ro (SlR 4 A n (colCells cs)), .ro (RwsIn (some ⟨g, o, none⟩) m l)] := ⟨_, rfl⟩
        rw [← hKL] at K2
        rw [← hgb2] at hKL
        have HF : Hid (∀ wv, Hold M none w wv KL → wv.cell? ⟨gb, 0, none⟩ = some (.int .i64 x.id) ∧ wv.cell? ⟨gb, 1, none⟩ = some (.slice x.A x.n x.c) ∧ gb < wv.heap.size ∧ wv.cell? ⟨w.heap.size, 0, none⟩ = some (.string nm) ∧ wv.cell? ⟨w.heap.size, 1, none⟩ = some (.slice A n c) ∧ wv.cell? ⟨w.heap.size, 2, none⟩ = some (.int .i64 nx) ∧ wv.cell? ⟨w.heap.size, 3, none⟩ = some (.slice (some ⟨g, o, none⟩) m d) ∧ w.heap.size < wv.heap.size) := hid fun wv HC => by
          rw [hKL] at HC
          have b0 := HC.cst_ 0 rfl
          have b1 := HC.cst_ 1 rfl
          exact ⟨cell_of_row _ _ 0 _ _ _ b0, cell_of_row _ _ 1 _ _ _ b0, Blk.lt b0, cell_of_row _ _ 0 _ _ _ b1, cell_of_row _ _ 1 _ _ _ b1, cell_of_row _ _ 2 _ _ _ b1, cell_of_row _ _ 3 _ _ _ b1, Blk.lt b1⟩
        have HKL : Hid (∀ wv, Hold M none w wv KL → Ro wv (Mut M KL) (SlR 4 A n (colCells cs)) ∧ Ro wv (Mut M KL) (VlsIn x.A x.n x.vs)) := hid fun wv HC => by
          rw [hKL] at HC ⊢
          exact ⟨HC.ro 2 rfl, (HC.ro 3 rfl).imp fun w2 h2 => h2.2 x HXM.out⟩
        go_wp2_with fail
        rw [← hgb2]
        have HGB := hid hgb2
        have HKE := hid hKL
        clear hgb2 hKL
        generalize wr.alloc (.cells #[.int .i64 x.id, .slice x.A x.n x.c] 119) = w2 at *
        refine wp_region_any (by kernel_rfl) ?_
        refine wpAny_hold 33 71 (KL) (spL []) (by kernel_rfl) (by kernel_rfl) (by kernel_rfl) rfl ?_ (K2.drew) ?_
        · exact stays_nil _
        simp only [List.take_succ_cons, List.take_zero, List.drop_succ_cons, List.drop_zero, Act.put, List.getElem_toArray, List.getElem_cons_zero, List.getElem_cons_succ, List.setIfInBounds_toArray, List.set_cons_succ, List.set_cons_zero]
        refine dw_val rfl rfl rfl ?_; apply Exists.intro; refine ⟨fun wv HC => ?_, ?_⟩
        · obtain ⟨f0, f1, f2, f3, f4, f5, f6, f7⟩ := HF.out _ HC; go_simp <;> rfl
        simp only [Act.put, List.setIfInBounds_toArray, List.set_cons_succ, List.set_cons_zero]
        refine dw_val rfl rfl rfl ?_; apply Exists.intro; refine ⟨fun wv HC => ?_, ?_⟩
        · obtain ⟨f0, f1, f2, f3, f4, f5, f6, f7⟩ := HF.out _ HC; go_simp <;> rfl
        simp only [Act.put, List.setIfInBounds_toArray, List.set_cons_succ, List.set_cons_zero]
        refine dw_val rfl rfl rfl ?_; apply Exists.intro; refine ⟨fun wv HC => ?_, ?_⟩
        · obtain ⟨f0, f1, f2, f3, f4, f5, f6, f7⟩ := HF.out _ HC; go_simp <;> rfl
        simp only [Act.put, List.setIfInBounds_toArray, List.set_cons_succ, List.set_cons_zero]
        refine dw_val rfl rfl rfl ?_; apply Exists.intro; refine ⟨fun wv HC => ?_, ?_⟩
        · obtain ⟨f0, f1, f2, f3, f4, f5, f6, f7⟩ := HF.out _ HC; go_simp <;> rfl
        simp only [Act.put, List.setIfInBounds_toArray, List.set_cons_succ, List.set_cons_zero]
        refine dw_val rfl rfl rfl ?_; apply Exists.intro; refine ⟨fun wv HC => ?_, ?_⟩
        · obtain ⟨f0, f1, f2, f3, f4, f5, f6, f7⟩ := HF.out _ HC; go_simp <;> rfl
        simp only [Act.put, List.setIfInBounds_toArray, List.set_cons_succ, List.set_cons_zero]
        refine dw_val rfl rfl rfl ?_; apply Exists.intro; refine ⟨fun wv HC => ?_, ?_⟩
        · obtain ⟨f0, f1, f2, f3, f4, f5, f6, f7⟩ := HF.out _ HC; go_simp <;> rfl
        simp only [Act.put, List.setIfInBounds_toArray, List.set_cons_succ, List.set_cons_zero]
        refine dw_val rfl rfl rfl ?_; apply Exists.intro; refine ⟨fun wv HC => ?_, ?_⟩
        · obtain ⟨f0, f1, f2, f3, f4, f5, f6, f7⟩ := HF.out _ HC; go_simp <;> rfl
        simp only [Act.put, List.setIfInBounds_toArray, List.set_cons_succ, List.set_cons_zero]
        refine dw_val rfl rfl rfl ?_; apply Exists.intro; refine ⟨fun wv HC => ?_, ?_⟩
        · obtain ⟨f0, f1, f2, f3, f4, f5, f6, f7⟩ := HF.out _ HC; go_simp <;> rfl
        simp only [Act.put, List.setIfInBounds_toArray, List.set_cons_succ, List.set_cons_zero]
        refine dw_val rfl rfl rfl ?_; apply Exists.intro; refine ⟨fun wv HC => ?_, ?_⟩
        · obtain ⟨f0, f1, f2, f3, f4, f5, f6, f7⟩ := HF.out _ HC; go_simp <;> rfl
        simp only [Act.put, List.setIfInBounds_toArray, List.set_cons_succ, List.set_cons_zero]
        refine dw_val rfl rfl rfl ?_; apply Exists.intro; refine ⟨fun wv HC => ?_, ?_⟩
        · obtain ⟨f0, f1, f2, f3, f4, f5, f6, f7⟩ := HF.out _ HC; go_simp <;> rfl
        simp only [Act.put, List.setIfInBounds_toArray, List.set_cons_succ, List.set_cons_zero]
        refine dw_val rfl rfl rfl ?_; apply Exists.intro; refine ⟨fun wv HC => ?_, ?_⟩
        · obtain ⟨f0, f1, f2, f3, f4, f5, f6, f7⟩ := HF.out _ HC; go_simp <;> rfl
        simp only [Act.put, List.setIfInBounds_toArray, List.set_cons_succ, List.set_cons_zero]
        refine dw_skip rfl rfl rfl ?_
        simp only [Act.put, List.setIfInBounds_toArray, List.set_cons_succ, List.set_cons_zero]
        refine dw_skip rfl rfl rfl ?_
        simp only [Act.put, List.setIfInBounds_toArray, List.set_cons_succ, List.set_cons_zero]
        refine dw_skip rfl rfl rfl ?_
        simp only [Act.put, List.setIfInBounds_toArray, List.set_cons_succ, List.set_cons_zero]
        refine dw_skip rfl rfl rfl ?_
        simp only [Act.put, List.setIfInBounds_toArray, List.set_cons_succ, List.set_cons_zero]
        refine dw_skip rfl rfl rfl ?_
        simp only [Act.put, List.setIfInBounds_toArray, List.set_cons_succ, List.set_cons_zero]
        refine dw_skip rfl rfl rfl ?_
        simp only [Act.put, List.setIfInBounds_toArray, List.set_cons_succ, List.set_cons_zero]
        refine dw_skip rfl rfl rfl ?_
        simp only [Act.put, List.setIfInBounds_toArray, List.set_cons_succ, List.set_cons_zero]
        refine dw_skip rfl rfl rfl ?_
        simp only [Act.put, List.setIfInBounds_toArray, List.set_cons_succ, List.set_cons_zero]
        refine dw_skip rfl rfl rfl ?_
        simp only [Act.put, List.setIfInBounds_toArray, List.set_cons_succ, List.set_cons_zero]
        refine dw_skip rfl rfl rfl ?_
        simp only [Act.put, List.setIfInBounds_toArray, List.set_cons_succ, List.set_cons_zero]
        refine dw_skip rfl rfl rfl ?_
        simp only [Act.put, List.setIfInBounds_toArray, List.set_cons_succ, List.set_cons_zero]
        refine dw_skip rfl rfl rfl ?_
        simp only [Act.put, List.setIfInBounds_toArray, List.set_cons_succ, List.set_cons_zero]
        refine dw_skip rfl rfl rfl ?_
        simp only [Act.put, List.setIfInBounds_toArray, List.set_cons_succ, List.set_cons_zero]
        refine dw_skip rfl rfl rfl ?_
        simp only [Act.put, List.setIfInBounds_toArray, List.set_cons_succ, List.set_cons_zero]
        refine dw_val rfl rfl rfl ?_; apply Exists.intro; refine ⟨fun wv HC => ?_, ?_⟩
        · obtain ⟨f0, f1, f2, f3, f4, f5, f6, f7⟩ := HF.out _ HC; go_simp <;> rfl
        simp only [Act.put, List.setIfInBounds_toArray, List.set_cons_succ, List.set_cons_zero]
        refine dw_val rfl rfl rfl ?_; apply Exists.intro; refine ⟨fun wv HC => ?_, ?_⟩
        · obtain ⟨f0, f1, f2, f3, f4, f5, f6, f7⟩ := HF.out _ HC; go_simp <;> rfl
        simp only [Act.put, List.setIfInBounds_toArray, List.set_cons_succ, List.set_cons_zero]
        refine dw_skip rfl rfl rfl ?_
        simp only [Act.put, List.setIfInBounds_toArray, List.set_cons_succ, List.set_cons_zero]
        refine dw_skip rfl rfl rfl ?_
        simp only [Act.put, List.setIfInBounds_toArray, List.set_cons_succ, List.set_cons_zero]
        refine dw_skip rfl rfl rfl ?_
        simp only [Act.put, List.setIfInBounds_toArray, List.set_cons_succ, List.set_cons_zero]
        refine dw_skip rfl rfl rfl ?_
        simp only [Act.put, List.setIfInBounds_toArray, List.set_cons_succ, List.set_cons_zero]
        refine dw_skip rfl rfl rfl ?_
        simp only [Act.put, List.setIfInBounds_toArray, List.set_cons_succ, List.set_cons_zero]
        refine dw_skip rfl rfl rfl ?_
        simp only [Act.put, List.setIfInBounds_toArray, List.set_cons_succ, List.set_cons_zero]
        refine rel_nil ?_
        rintro wx2 HX2
        rintro _hrm _HG
        rw [HKE.out] at HX2
        clear _hrm _HG
        go_wp2_with fail
        go_ret
        exact ⟨by rw [HN.out] <;> rfl, HX2.below⟩
      have a2d : decide (x.id ≥ nx) = false := by simpa using a2
      have HA := hid (show ¬ x.id < 1 ∧ ¬ nx ≤ x.id from ⟨a1, a2⟩)
      clear a1 a2
      rcases Nat.eq_zero_or_pos j with hj0 | hj0
      · have HL0 := hid (HP.out.1 hj0)
        have HJ0 := hid hj0
        have hj0d : decide ((j : Int) > 0) = false := by simp; omega
        have hj0d2 : decide (0 < j) = false := by simp; omega
        have hj0d3 : decide ((0 : Int) < (j : Int)) = false := by simp; omega
        clear hj0
        obtain ⟨gb, hgb2⟩ : ∃ gb, gb = wr.heap.size := ⟨_, rfl⟩
        obtain ⟨KL, hKL⟩ : ∃ KL : List Hp, KL = [Hp.cst wr.heap.size 119 #[.int .i64 x.id, .slice x.A x.n x.c], .cst w.heap.size 58 #[.string nm, .slice A n c, .int .i64 nx, .slice (some ⟨g, o, none⟩) m d], .ro (SlR 4 A n (colCells cs)), .ro (RwsIn (some ⟨g, o, none⟩) m l)] := ⟨_, rfl⟩
        rw [← hKL] at K2
        rw [← hgb2] at hKL
        have HF : Hid (∀ wv, Hold M none w wv KL → wv.cell? ⟨gb, 0, none⟩ = some (.int .i64 x.id) ∧ wv.cell? ⟨gb, 1, none⟩ = some (.slice x.A x.n x.c) ∧ gb < wv.heap.size ∧ wv.cell? ⟨w.heap.size, 0, none⟩ = some (.string nm) ∧ wv.cell? ⟨w.heap.size, 1, none⟩ = some (.slice A n c) ∧ wv.cell? ⟨w.heap.size, 2, none⟩ = some (.int .i64 nx) ∧ wv.cell? ⟨w.heap.size, 3, none⟩ = some (.slice (some ⟨g, o, none⟩) m d) ∧ w.heap.size < wv.heap.size) := hid fun wv HC => by
          rw [hKL] at HC
          have b0 := HC.cst_ 0 rfl
          have b1 := HC.cst_ 1 rfl
          exact ⟨cell_of_row _ _ 0 _ _ _ b0, cell_of_row _ _ 1 _ _ _ b0, Blk.lt b0, cell_of_row _ _ 0 _ _ _ b1, cell_of_row _ _ 1 _ _ _ b1, cell_of_row _ _ 2 _ _ _ b1, cell_of_row _ _ 3 _ _ _ b1, Blk.lt b1⟩
        have HKL : Hid (∀ wv, Hold M none w wv KL → Ro wv (Mut M KL) (SlR 4 A n (colCells cs)) ∧ Ro wv (Mut M KL) (VlsIn x.A x.n x.vs)) := hid fun wv HC => by
          rw [hKL] at HC ⊢
          exact ⟨HC.ro 2 rfl, (HC.ro 3 rfl).imp fun w2 h2 => h2.2 x HXM.out⟩
        go_wp2_with fail
        rw [← hgb2]
        have HGB := hid hgb2
        have HKE := hid hKL
        clear hgb2 hKL
        generalize wr.alloc (.cells #[.int .i64 x.id, .slice x.A x.n x.c] 119) = w2 at *
        refine wp_region_any (by kernel_rfl) ?_
        refine wpAny_hold 33 71 (KL) (spL [(64, IsV (.int .i64 (fitsT cs x.vs)))]) (by kernel_rfl) (by kernel_rfl) (by kernel_rfl) rfl ?_ (K2.drew) ?_
        · exact stays_cons isV_mono (stays_nil _)
        simp only [List.take_succ_cons, List.take_zero, List.drop_succ_cons, List.drop_zero, Act.put, List.getElem_toArray, List.getElem_cons_zero, List.getElem_cons_succ, List.setIfInBounds_toArray, List.set_cons_succ, List.set_cons_zero]
        refine dw_val rfl rfl rfl ?_; apply Exists.intro; refine ⟨fun wv HC => ?_, ?_⟩
        · obtain ⟨f0, f1, f2, f3, f4, f5, f6, f7⟩ := HF.out _ HC; go_simp <;> rfl
        simp only [Act.put, List.setIfInBounds_toArray, List.set_cons_succ, List.set_cons_zero]
        refine dw_val rfl rfl rfl ?_; apply Exists.intro; refine ⟨fun wv HC => ?_, ?_⟩
        · obtain ⟨f0, f1, f2, f3, f4, f5, f6, f7⟩ := HF.out _ HC; go_simp <;> rfl
        simp only [Act.put, List.setIfInBounds_toArray, List.set_cons_succ, List.set_cons_zero]
        refine dw_val rfl rfl rfl ?_; apply Exists.intro; refine ⟨fun wv HC => ?_, ?_⟩
        · obtain ⟨f0, f1, f2, f3, f4, f5, f6, f7⟩ := HF.out _ HC; go_simp <;> rfl
        simp only [Act.put, List.setIfInBounds_toArray, List.set_cons_succ, List.set_cons_zero]
        refine dw_val rfl rfl rfl ?_; apply Exists.intro; refine ⟨fun wv HC => ?_, ?_⟩
        · obtain ⟨f0, f1, f2, f3, f4, f5, f6, f7⟩ := HF.out _ HC; go_simp <;> rfl
        simp only [Act.put, List.setIfInBounds_toArray, List.set_cons_succ, List.set_cons_zero]
        refine dw_val rfl rfl rfl ?_; apply Exists.intro; refine ⟨fun wv HC => ?_, ?_⟩
        · obtain ⟨f0, f1, f2, f3, f4, f5, f6, f7⟩ := HF.out _ HC; go_simp <;> rfl
        simp only [Act.put, List.setIfInBounds_toArray, List.set_cons_succ, List.set_cons_zero]
        refine dw_val rfl rfl rfl ?_; apply Exists.intro; refine ⟨fun wv HC => ?_, ?_⟩
        · obtain ⟨f0, f1, f2, f3, f4, f5, f6, f7⟩ := HF.out _ HC; go_simp <;> rfl
        simp only [Act.put, List.setIfInBounds_toArray, List.set_cons_succ, List.set_cons_zero]
        refine dw_val rfl rfl rfl ?_; apply Exists.intro; refine ⟨fun wv HC => ?_, ?_⟩
        · obtain ⟨f0, f1, f2, f3, f4, f5, f6, f7⟩ := HF.out _ HC; go_simp <;> rfl
        simp only [Act.put, List.setIfInBounds_toArray, List.set_cons_succ, List.set_cons_zero]
        refine dw_val rfl rfl rfl ?_; apply Exists.intro; refine ⟨fun wv HC => ?_, ?_⟩
        · obtain ⟨f0, f1, f2, f3, f4, f5, f6, f7⟩ := HF.out _ HC; go_simp <;> rfl
        simp only [Act.put, List.setIfInBounds_toArray, List.set_cons_succ, List.set_cons_zero]
        refine dw_val rfl rfl rfl ?_; apply Exists.intro; refine ⟨fun wv HC => ?_, ?_⟩
        · obtain ⟨f0, f1, f2, f3, f4, f5, f6, f7⟩ := HF.out _ HC; go_simp <;> rfl
        simp only [Act.put, List.setIfInBounds_toArray, List.set_cons_succ, List.set_cons_zero]
        refine dw_val rfl rfl rfl ?_; apply Exists.intro; refine ⟨fun wv HC => ?_, ?_⟩
        · obtain ⟨f0, f1, f2, f3, f4, f5, f6, f7⟩ := HF.out _ HC; go_simp <;> rfl
        simp only [Act.put, List.setIfInBounds_toArray, List.set_cons_succ, List.set_cons_zero]
        refine dw_val rfl rfl rfl ?_; apply Exists.intro; refine ⟨fun wv HC => ?_, ?_⟩
        · obtain ⟨f0, f1, f2, f3, f4, f5, f6, f7⟩ := HF.out _ HC; go_simp <;> rfl
        simp only [Act.put, List.setIfInBounds_toArray, List.set_cons_succ, List.set_cons_zero]
        refine dw_val rfl rfl rfl ?_; apply Exists.intro; refine ⟨fun wv HC => ?_, ?_⟩
        · obtain ⟨f0, f1, f2, f3, f4, f5, f6, f7⟩ := HF.out _ HC; go_simp <;> rfl
        simp only [Act.put, List.setIfInBounds_toArray, List.set_cons_succ, List.set_cons_zero]
        refine dw_val rfl rfl rfl ?_; apply Exists.intro; refine ⟨fun wv HC => ?_, ?_⟩
        · obtain ⟨f0, f1, f2, f3, f4, f5, f6, f7⟩ := HF.out _ HC; go_simp <;> rfl
        simp only [Act.put, List.setIfInBounds_toArray, List.set_cons_succ, List.set_cons_zero]
        refine dw_val rfl rfl rfl ?_; apply Exists.intro; refine ⟨fun wv HC => ?_, ?_⟩
        · obtain ⟨f0, f1, f2, f3, f4, f5, f6, f7⟩ := HF.out _ HC; go_simp <;> rfl
        simp only [Act.put, List.setIfInBounds_toArray, List.set_cons_succ, List.set_cons_zero]
        refine dw_skip rfl rfl rfl ?_
        simp only [Act.put, List.setIfInBounds_toArray, List.set_cons_succ, List.set_cons_zero]
        refine dw_skip rfl rfl rfl ?_
        simp only [Act.put, List.setIfInBounds_toArray, List.set_cons_succ, List.set_cons_zero]
        refine dw_skip rfl rfl rfl ?_
        simp only [Act.put, List.setIfInBounds_toArray, List.set_cons_succ, List.set_cons_zero]
        refine dw_skip rfl rfl rfl ?_
        simp only [Act.put, List.setIfInBounds_toArray, List.set_cons_succ, List.set_cons_zero]
        refine dw_skip rfl rfl rfl ?_
        simp only [Act.put, List.setIfInBounds_toArray, List.set_cons_succ, List.set_cons_zero]
        refine dw_skip rfl rfl rfl ?_
        simp only [Act.put, List.setIfInBounds_toArray, List.set_cons_succ, List.set_cons_zero]
        refine dw_skip rfl rfl rfl ?_
        simp only [Act.put, List.setIfInBounds_toArray, List.set_cons_succ, List.set_cons_zero]
        refine dw_skip rfl rfl rfl ?_
        simp only [Act.put, List.setIfInBounds_toArray, List.set_cons_succ, List.set_cons_zero]
        refine dw_skip rfl rfl rfl ?_
        simp only [Act.put, List.setIfInBounds_toArray, List.set_cons_succ, List.set_cons_zero]
        refine dw_skip rfl rfl rfl ?_
        simp only [Act.put, List.setIfInBounds_toArray, List.set_cons_succ, List.set_cons_zero]
        refine dw_val rfl rfl rfl ?_; apply Exists.intro; refine ⟨fun wv HC => ?_, ?_⟩
        · obtain ⟨f0, f1, f2, f3, f4, f5, f6, f7⟩ := HF.out _ HC; go_simp <;> rfl
        simp only [Act.put, List.setIfInBounds_toArray, List.set_cons_succ, List.set_cons_zero]
        refine dw_val rfl rfl rfl ?_; apply Exists.intro; refine ⟨fun wv HC => ?_, ?_⟩
        · obtain ⟨f0, f1, f2, f3, f4, f5, f6, f7⟩ := HF.out _ HC; go_simp <;> rfl
        simp only [Act.put, List.setIfInBounds_toArray, List.set_cons_succ, List.set_cons_zero]
        refine dw_val rfl rfl rfl ?_; apply Exists.intro; refine ⟨fun wv HC => ?_, ?_⟩
        · obtain ⟨f0, f1, f2, f3, f4, f5, f6, f7⟩ := HF.out _ HC; go_simp <;> rfl
        simp only [Act.put, List.setIfInBounds_toArray, List.set_cons_succ, List.set_cons_zero]
        refine dw_val rfl rfl rfl ?_; apply Exists.intro; refine ⟨fun wv HC => ?_, ?_⟩
        · obtain ⟨f0, f1, f2, f3, f4, f5, f6, f7⟩ := HF.out _ HC; go_simp <;> rfl
        simp only [Act.put, List.setIfInBounds_toArray, List.set_cons_succ, List.set_cons_zero]
        refine dw_val rfl rfl rfl ?_; apply Exists.intro; refine ⟨fun wv HC => ?_, ?_⟩
        · obtain ⟨f0, f1, f2, f3, f4, f5, f6, f7⟩ := HF.out _ HC; go_simp <;> rfl
        simp only [Act.put, List.setIfInBounds_toArray, List.set_cons_succ, List.set_cons_zero]
        refine dw_val rfl rfl rfl ?_; apply Exists.intro; refine ⟨fun wv HC => ?_, ?_⟩
        · obtain ⟨f0, f1, f2, f3, f4, f5, f6, f7⟩ := HF.out _ HC; go_simp <;> rfl
        simp only [Act.put, List.setIfInBounds_toArray, List.set_cons_succ, List.set_cons_zero]
        refine dw_val rfl rfl rfl ?_; apply Exists.intro; refine ⟨fun wv HC => ?_, ?_⟩
        · obtain ⟨f0, f1, f2, f3, f4, f5, f6, f7⟩ := HF.out _ HC; go_simp <;> rfl
        simp only [Act.put, List.setIfInBounds_toArray, List.set_cons_succ, List.set_cons_zero]
        refine dw_callR 64 (IsV (.int .i64 (fitsT cs x.vs))) (f := 73) (args := #[.agg #[.string nm, .slice A n c], .slice x.A x.n x.c]) rfl rfl rfl rfl (fun wv => ?_) (fun wv HC hrm hD => ?_) ?_
        · go_simp <;> rfl
        · refine (rtfits_any _ _ HC.mutLt nm A n c cs x.A x.n x.c x.vs ((HKL.out wv HC).1) ((HKL.out wv HC).2) hn hxn hrok.vs).mono ?_
          rintro e w5 ⟨rfl, b5⟩
          exact ⟨_, rfl, rfl, HC.call b5, RM.below b5⟩
        rintro u wx HCx hu
        obtain rfl : u = _ := hu
        clear HCx
        simp only [Act.put, List.setIfInBounds_toArray, List.set_cons_succ, List.set_cons_zero]
        refine dw_val rfl rfl rfl ?_; apply Exists.intro; refine ⟨fun wv HC => ?_, ?_⟩
        · obtain ⟨f0, f1, f2, f3, f4, f5, f6, f7⟩ := HF.out _ HC; go_simp <;> rfl
        simp only [Act.put, List.setIfInBounds_toArray, List.set_cons_succ, List.set_cons_zero]
        refine rel_nil ?_
        rintro wx2 HX2
        rintro _hrm _HG
        rw [HKE.out] at HX2
        clear _hrm _HG
        by_cases a3 : fitsT cs x.vs = 0
        · have HS2 := hid (show okR cs nx 0 (l.map Rw.row) = okR cs nx x.id ((l.map Rw.row).drop (j + 1)) by rw [HS.out]; exact okR_good HX.out (by have := HL0.out; have := HA.out; omega) (by have := HA.out; omega) a3)
          have HP2 := hid (show (j + 1 = 0 → x.id = 0) ∧ ∀ q, j + 1 = q + 1 → ∃ r : Rw, l[q]? = some r ∧ r.id = x.id from ⟨fun h => by omega, fun q hq => ⟨x, (show j = q by omega) ▸ HXL.out, rfl⟩⟩)
          have h0x : 0 ≤ x.id := by have := HA.out; omega
          rw [a3]
          clear a3
          go_wp2_with fail
          go_roundw
          case rel => exact ⟨j + 1, x.id, by omega, by go_num, h0x, HP2, HS2, HX2.drop (List.sublist_cons_self _ _)⟩
          case measure => simp [intOf]; omega
        · have a3d : (fitsT cs x.vs != 0) = true := by simp [a3]
          have HN := hid (show tabB nm cs nx (l.map Rw.row) = false from tabB_5 (by rw [HS.out]; exact okR_bad HX.out (.inr (.inr a3))))
          clear a3
          go_wp2_with fail
          go_ret
          exact ⟨by rw [HN.out] <;> rfl, HX2.below⟩
      · obtain ⟨p, hp⟩ : ∃ p, j = p + 1 := ⟨j - 1, by omega⟩
        obtain ⟨r, hr, hrl⟩ := HP.out.2 p hp
        have HR := hid hr
        have HRL := hid hrl
        clear hr hrl
        have hj0d : decide ((j : Int) > 0) = true := by simp; omega
        have hj0d2 : decide (0 < j) = true := by simp; omega
        have hj0d3 : decide ((0 : Int) < (j : Int)) = true := by simp; omega
        have hw1 : IntKind.i64.wrap ((j : Int) - 1) = (p : Int) := by rw [IntKind.wrap_i64]; omega
        have p0 : (0 : Int) ≤ (p : Int) := by omega
        have p1 : (p : Int) < (m : Int) := by omega
        have hpm : p < m := by omega
        have HPJ := hid hp
        clear hp hj0
        by_cases a4 : r.id ≥ x.id
        · have a4d : decide (r.id ≥ x.id) = true := by simpa using a4
          have HN := hid (show tabB nm cs nx (l.map Rw.row) = false from tabB_5 (by rw [HS.out]; exact okR_bad HX.out (.inl (show x.id ≤ lst by have := HRL.out; omega))))
          clear a4
          obtain ⟨gb, hgb2⟩ : ∃ gb, gb = wr.heap.size := ⟨_, rfl⟩
          obtain ⟨KL, hKL⟩ : ∃ KL : List Hp, KL = [Hp.cst wr.heap.size 119 #[.int .i64 x.id, .slice x.A x.n x.c], .cst w.heap.size 58 #[.string nm, .slice A n c, .int .i64 nx, .slice (some ⟨g, o, none⟩) m d], .ro (SlR 4 A n (colCells cs)), .ro (RwsIn (some ⟨g, o, none⟩) m l)] := ⟨_, rfl⟩
          rw [← hKL] at K2
          rw [← hgb2] at hKL
          have HF : Hid (∀ wv, Hold M none w wv KL → wv.cell? ⟨gb, 0, none⟩ = some (.int .i64 x.id) ∧ wv.cell? ⟨gb, 1, none⟩ = some (.slice x.A x.n x.c) ∧ gb < wv.heap.size ∧ wv.cell? ⟨w.heap.size, 0, none⟩ = some (.string nm) ∧ wv.cell? ⟨w.heap.size, 1, none⟩ = some (.slice A n c) ∧ wv.cell? ⟨w.heap.size, 2, none⟩ = some (.int .i64 nx) ∧ wv.cell? ⟨w.heap.size, 3, none⟩ = some (.slice (some ⟨g, o, none⟩) m d) ∧ w.heap.size < wv.heap.size ∧ wv.cell? ⟨g, o + p * 2, none⟩ = some (.int .i64 r.id) ∧ g < wv.heap.size) := hid fun wv HC => by
            rw [hKL] at HC
            have b0 := HC.cst_ 0 rfl
            have b1 := HC.cst_ 1 rfl
            obtain ⟨g', o', e', hl, e0, e1, _⟩ := (HC.ro 3 rfl).now.at_ HR.out
            obtain ⟨rfl, rfl⟩ : g = g' ∧ o = o' := by injection e' with e'; injection e' with a1 a2; exact ⟨a1, a2⟩
            exact ⟨cell_of_row _ _ 0 _ _ _ b0, cell_of_row _ _ 1 _ _ _ b0, Blk.lt b0, cell_of_row _ _ 0 _ _ _ b1, cell_of_row _ _ 1 _ _ _ b1, cell_of_row _ _ 2 _ _ _ b1, cell_of_row _ _ 3 _ _ _ b1, Blk.lt b1, e0, hl⟩
          have HKL : Hid (∀ wv, Hold M none w wv KL → Ro wv (Mut M KL) (SlR 4 A n (colCells cs)) ∧ Ro wv (Mut M KL) (VlsIn x.A x.n x.vs)) := hid fun wv HC => by
            rw [hKL] at HC ⊢
            exact ⟨HC.ro 2 rfl, (HC.ro 3 rfl).imp fun w2 h2 => h2.2 x HXM.out⟩
          go_wp2_with fail
          rw [← hgb2]
          have HGB := hid hgb2
          have HKE := hid hKL
          clear hgb2 hKL
          generalize wr.alloc (.cells #[.int .i64 x.id, .slice x.A x.n x.c] 119) = w2 at *
          refine wp_region_any (by kernel_rfl) ?_
          refine wpAny_hold 33 71 (KL) (spL []) (by kernel_rfl) (by kernel_rfl) (by kernel_rfl) rfl ?_ (K2.drew) ?_
          · exact stays_nil _
          simp only [List.take_succ_cons, List.take_zero, List.drop_succ_cons, List.drop_zero, Act.put, List.getElem_toArray, List.getElem_cons_zero, List.getElem_cons_succ, List.setIfInBounds_toArray, List.set_cons_succ, List.set_cons_zero]
          refine dw_val rfl rfl rfl ?_; apply Exists.intro; refine ⟨fun wv HC => ?_, ?_⟩
          · obtain ⟨f0, f1, f2, f3, f4, f5, f6, f7, f8, f9⟩ := HF.out _ HC; go_simp <;> rfl
          simp only [Act.put, List.setIfInBounds_toArray, List.set_cons_succ, List.set_cons_zero]
          refine dw_val rfl rfl rfl ?_; apply Exists.intro; refine ⟨fun wv HC => ?_, ?_⟩
          · obtain ⟨f0, f1, f2, f3, f4, f5, f6, f7, f8, f9⟩ := HF.out _ HC; go_simp <;> rfl
          simp only [Act.put, List.setIfInBounds_toArray, List.set_cons_succ, List.set_cons_zero]
          refine dw_val rfl rfl rfl ?_; apply Exists.intro; refine ⟨fun wv HC => ?_, ?_⟩
          · obtain ⟨f0, f1, f2, f3, f4, f5, f6, f7, f8, f9⟩ := HF.out _ HC; go_simp <;> rfl
          simp only [Act.put, List.setIfInBounds_toArray, List.set_cons_succ, List.set_cons_zero]
          refine dw_val rfl rfl rfl ?_; apply Exists.intro; refine ⟨fun wv HC => ?_, ?_⟩
          · obtain ⟨f0, f1, f2, f3, f4, f5, f6, f7, f8, f9⟩ := HF.out _ HC; go_simp <;> rfl
          simp only [Act.put, List.setIfInBounds_toArray, List.set_cons_succ, List.set_cons_zero]
          refine dw_val rfl rfl rfl ?_; apply Exists.intro; refine ⟨fun wv HC => ?_, ?_⟩
          · obtain ⟨f0, f1, f2, f3, f4, f5, f6, f7, f8, f9⟩ := HF.out _ HC; go_simp <;> rfl
          simp only [Act.put, List.setIfInBounds_toArray, List.set_cons_succ, List.set_cons_zero]
          refine dw_val rfl rfl rfl ?_; apply Exists.intro; refine ⟨fun wv HC => ?_, ?_⟩
          · obtain ⟨f0, f1, f2, f3, f4, f5, f6, f7, f8, f9⟩ := HF.out _ HC; go_simp <;> rfl
          simp only [Act.put, List.setIfInBounds_toArray, List.set_cons_succ, List.set_cons_zero]
          refine dw_val rfl rfl rfl ?_; apply Exists.intro; refine ⟨fun wv HC => ?_, ?_⟩
          · obtain ⟨f0, f1, f2, f3, f4, f5, f6, f7, f8, f9⟩ := HF.out _ HC; go_simp <;> rfl
          simp only [Act.put, List.setIfInBounds_toArray, List.set_cons_succ, List.set_cons_zero]
          refine dw_val rfl rfl rfl ?_; apply Exists.intro; refine ⟨fun wv HC => ?_, ?_⟩
          · obtain ⟨f0, f1, f2, f3, f4, f5, f6, f7, f8, f9⟩ := HF.out _ HC; go_simp <;> rfl
          simp only [Act.put, List.setIfInBounds_toArray, List.set_cons_succ, List.set_cons_zero]
          refine dw_val rfl rfl rfl ?_; apply Exists.intro; refine ⟨fun wv HC => ?_, ?_⟩
          · obtain ⟨f0, f1, f2, f3, f4, f5, f6, f7, f8, f9⟩ := HF.out _ HC; go_simp <;> rfl
          simp only [Act.put, List.setIfInBounds_toArray, List.set_cons_succ, List.set_cons_zero]
          refine dw_val rfl rfl rfl ?_; apply Exists.intro; refine ⟨fun wv HC => ?_, ?_⟩
          · obtain ⟨f0, f1, f2, f3, f4, f5, f6, f7, f8, f9⟩ := HF.out _ HC; go_simp <;> rfl
          simp only [Act.put, List.setIfInBounds_toArray, List.set_cons_succ, List.set_cons_zero]
          refine dw_val rfl rfl rfl ?_; apply Exists.intro; refine ⟨fun wv HC => ?_, ?_⟩
          · obtain ⟨f0, f1, f2, f3, f4, f5, f6, f7, f8, f9⟩ := HF.out _ HC; go_simp <;> rfl
          simp only [Act.put, List.setIfInBounds_toArray, List.set_cons_succ, List.set_cons_zero]
          refine dw_val rfl rfl rfl ?_; apply Exists.intro; refine ⟨fun wv HC => ?_, ?_⟩
          · obtain ⟨f0, f1, f2, f3, f4, f5, f6, f7, f8, f9⟩ := HF.out _ HC; go_simp <;> rfl
          simp only [Act.put, List.setIfInBounds_toArray, List.set_cons_succ, List.set_cons_zero]
          refine dw_val rfl rfl rfl ?_; apply Exists.intro; refine ⟨fun wv HC => ?_, ?_⟩
          · obtain ⟨f0, f1, f2, f3, f4, f5, f6, f7, f8, f9⟩ := HF.out _ HC; go_simp <;> rfl
          simp only [Act.put, List.setIfInBounds_toArray, List.set_cons_succ, List.set_cons_zero]
          refine dw_val rfl rfl rfl ?_; apply Exists.intro; refine ⟨fun wv HC => ?_, ?_⟩
          · obtain ⟨f0, f1, f2, f3, f4, f5, f6, f7, f8, f9⟩ := HF.out _ HC; go_simp <;> rfl
          simp only [Act.put, List.setIfInBounds_toArray, List.set_cons_succ, List.set_cons_zero]
          refine dw_val rfl rfl rfl ?_; apply Exists.intro; refine ⟨fun wv HC => ?_, ?_⟩
          · obtain ⟨f0, f1, f2, f3, f4, f5, f6, f7, f8, f9⟩ := HF.out _ HC; go_simp <;> rfl
          simp only [Act.put, List.setIfInBounds_toArray, List.set_cons_succ, List.set_cons_zero]
          refine dw_val rfl rfl rfl ?_; apply Exists.intro; refine ⟨fun wv HC => ?_, ?_⟩
          · obtain ⟨f0, f1, f2, f3, f4, f5, f6, f7, f8, f9⟩ := HF.out _ HC; go_simp <;> rfl
          simp only [Act.put, List.setIfInBounds_toArray, List.set_cons_succ, List.set_cons_zero]
          refine dw_val rfl rfl rfl ?_; apply Exists.intro; refine ⟨fun wv HC => ?_, ?_⟩
          · obtain ⟨f0, f1, f2, f3, f4, f5, f6, f7, f8, f9⟩ := HF.out _ HC; go_simp <;> rfl
          simp only [Act.put, List.setIfInBounds_toArray, List.set_cons_succ, List.set_cons_zero]
          refine dw_val rfl rfl rfl ?_; apply Exists.intro; refine ⟨fun wv HC => ?_, ?_⟩
          · obtain ⟨f0, f1, f2, f3, f4, f5, f6, f7, f8, f9⟩ := HF.out _ HC; go_simp <;> rfl
          simp only [Act.put, List.setIfInBounds_toArray, List.set_cons_succ, List.set_cons_zero]
          refine dw_val rfl rfl rfl ?_; apply Exists.intro; refine ⟨fun wv HC => ?_, ?_⟩
          · obtain ⟨f0, f1, f2, f3, f4, f5, f6, f7, f8, f9⟩ := HF.out _ HC; go_simp <;> rfl
          simp only [Act.put, List.setIfInBounds_toArray, List.set_cons_succ, List.set_cons_zero]
          refine dw_val rfl rfl rfl ?_; apply Exists.intro; refine ⟨fun wv HC => ?_, ?_⟩
          · obtain ⟨f0, f1, f2, f3, f4, f5, f6, f7, f8, f9⟩ := HF.out _ HC; go_simp <;> rfl
          simp only [Act.put, List.setIfInBounds_toArray, List.set_cons_succ, List.set_cons_zero]
          refine dw_val rfl rfl rfl ?_; apply Exists.intro; refine ⟨fun wv HC => ?_, ?_⟩
          · obtain ⟨f0, f1, f2, f3, f4, f5, f6, f7, f8, f9⟩ := HF.out _ HC; go_simp <;> rfl
          simp only [Act.put, List.setIfInBounds_toArray, List.set_cons_succ, List.set_cons_zero]
          refine dw_val rfl rfl rfl ?_; apply Exists.intro; refine ⟨fun wv HC => ?_, ?_⟩
          · obtain ⟨f0, f1, f2, f3, f4, f5, f6, f7, f8, f9⟩ := HF.out _ HC; go_simp <;> rfl
          simp only [Act.put, List.setIfInBounds_toArray, List.set_cons_succ, List.set_cons_zero]
          refine dw_val rfl rfl rfl ?_; apply Exists.intro; refine ⟨fun wv HC => ?_, ?_⟩
          · obtain ⟨f0, f1, f2, f3, f4, f5, f6, f7, f8, f9⟩ := HF.out _ HC; go_simp <;> rfl
          simp only [Act.put, List.setIfInBounds_toArray, List.set_cons_succ, List.set_cons_zero]
          refine dw_val rfl rfl rfl ?_; apply Exists.intro; refine ⟨fun wv HC => ?_, ?_⟩
          · obtain ⟨f0, f1, f2, f3, f4, f5, f6, f7, f8, f9⟩ := HF.out _ HC; go_simp <;> rfl
          simp only [Act.put, List.setIfInBounds_toArray, List.set_cons_succ, List.set_cons_zero]
          refine dw_val rfl rfl rfl ?_; apply Exists.intro; refine ⟨fun wv HC => ?_, ?_⟩
          · obtain ⟨f0, f1, f2, f3, f4, f5, f6, f7, f8, f9⟩ := HF.out _ HC; go_simp <;> rfl
          simp only [Act.put, List.setIfInBounds_toArray, List.set_cons_succ, List.set_cons_zero]
          refine dw_val rfl rfl rfl ?_; apply Exists.intro; refine ⟨fun wv HC => ?_, ?_⟩
          · obtain ⟨f0, f1, f2, f3, f4, f5, f6, f7, f8, f9⟩ := HF.out _ HC; go_simp <;> rfl
          simp only [Act.put, List.setIfInBounds_toArray, List.set_cons_succ, List.set_cons_zero]
          refine dw_val rfl rfl rfl ?_; apply Exists.intro; refine ⟨fun wv HC => ?_, ?_⟩
          · obtain ⟨f0, f1, f2, f3, f4, f5, f6, f7, f8, f9⟩ := HF.out _ HC; go_simp <;> rfl
          simp only [Act.put, List.setIfInBounds_toArray, List.set_cons_succ, List.set_cons_zero]
          refine dw_skip rfl rfl rfl ?_
          simp only [Act.put, List.setIfInBounds_toArray, List.set_cons_succ, List.set_cons_zero]
          refine dw_skip rfl rfl rfl ?_
          simp only [Act.put, List.setIfInBounds_toArray, List.set_cons_succ, List.set_cons_zero]
          refine dw_skip rfl rfl rfl ?_
          simp only [Act.put, List.setIfInBounds_toArray, List.set_cons_succ, List.set_cons_zero]
          refine dw_skip rfl rfl rfl ?_
          simp only [Act.put, List.setIfInBounds_toArray, List.set_cons_succ, List.set_cons_zero]
          refine dw_skip rfl rfl rfl ?_
          simp only [Act.put, List.setIfInBounds_toArray, List.set_cons_succ, List.set_cons_zero]
          refine dw_skip rfl rfl rfl ?_
          simp only [Act.put, List.setIfInBounds_toArray, List.set_cons_succ, List.set_cons_zero]
          refine rel_nil ?_
          rintro wx2 HX2
          rintro _hrm _HG
          rw [HKE.out] at HX2
          clear _hrm _HG
          go_wp2_with fail
          go_ret
          exact ⟨by rw [HN.out] <;> rfl, HX2.below⟩
        · have a4d : decide (r.id ≥ x.id) = false := by simpa using a4
          have HA4 := hid a4
          clear a4
          obtain ⟨gb, hgb2⟩ : ∃ gb, gb = wr.heap.size := ⟨_, rfl⟩
          obtain ⟨KL, hKL⟩ : ∃ KL : List Hp, KL = [Hp.cst wr.heap.size 119 #[.int .i64 x.id, .slice x.A x.n x.c], .cst w.heap.size 58 #[.string nm, .slice A n c, .int .i64 nx, .slice (some ⟨g, o, none⟩) m d], .ro (SlR 4 A n (colCells cs)), .ro (RwsIn (some ⟨g, o, none⟩) m l)] := ⟨_, rfl⟩
          rw [← hKL] at K2
          rw [← hgb2] at hKL
          have HF : Hid (∀ wv, Hold M none w wv KL → wv.cell? ⟨gb, 0, none⟩ = some (.int .i64 x.id) ∧ wv.cell? ⟨gb, 1, none⟩ = some (.slice x.A x.n x.c) ∧ gb < wv.heap.size ∧ wv.cell? ⟨w.heap.size, 0, none⟩ = some (.string nm) ∧ wv.cell? ⟨w.heap.size, 1, none⟩ = some (.slice A n c) ∧ wv.cell? ⟨w.heap.size, 2, none⟩ = some (.int .i64 nx) ∧ wv.cell? ⟨w.heap.size, 3, none⟩ = some (.slice (some ⟨g, o, none⟩) m d) ∧ w.heap.size < wv.heap.size ∧ wv.cell? ⟨g, o + p * 2, none⟩ = some (.int .i64 r.id) ∧ g < wv.heap.size) := hid fun wv HC => by
            rw [hKL] at HC
            have b0 := HC.cst_ 0 rfl
            have b1 := HC.cst_ 1 rfl
            obtain ⟨g', o', e', hl, e0, e1, _⟩ := (HC.ro 3 rfl).now.at_ HR.out
            obtain ⟨rfl, rfl⟩ : g = g' ∧ o = o' := by injection e' with e'; injection e' with a1 a2; exact ⟨a1, a2⟩
            exact ⟨cell_of_row _ _ 0 _ _ _ b0, cell_of_row _ _ 1 _ _ _ b0, Blk.lt b0, cell_of_row _ _ 0 _ _ _ b1, cell_of_row _ _ 1 _ _ _ b1, cell_of_row _ _ 2 _ _ _ b1, cell_of_row _ _ 3 _ _ _ b1, Blk.lt b1, e0, hl⟩
          have HKL : Hid (∀ wv, Hold M none w wv KL → Ro wv (Mut M KL) (SlR 4 A n (colCells cs)) ∧ Ro wv (Mut M KL) (VlsIn x.A x.n x.vs)) := hid fun wv HC => by
            rw [hKL] at HC ⊢
            exact ⟨HC.ro 2 rfl, (HC.ro 3 rfl).imp fun w2 h2 => h2.2 x HXM.out⟩
          go_wp2_with fail
          rw [← hgb2]
          have HGB := hid hgb2
          have HKE := hid hKL
          clear hgb2 hKL
          generalize wr.alloc (.cells #[.int .i64 x.id, .slice x.A x.n x.c] 119) = w2 at *
          refine wp_region_any (by kernel_rfl) ?_
          refine wpAny_hold 33 71 (KL) (spL [(64, IsV (.int .i64 (fitsT cs x.vs)))]) (by kernel_rfl) (by kernel_rfl) (by kernel_rfl) rfl ?_ (K2.drew) ?_
          · exact stays_cons isV_mono (stays_nil _)
          simp only [List.take_succ_cons, List.take_zero, List.drop_succ_cons, List.drop_zero, Act.put, List.getElem_toArray, List.getElem_cons_zero, List.getElem_cons_succ, List.setIfInBounds_toArray, List.set_cons_succ, List.set_cons_zero]
          refine dw_val rfl rfl rfl ?_; apply Exists.intro; refine ⟨fun wv HC => ?_, ?_⟩
          · obtain ⟨f0, f1, f2, f3, f4, f5, f6, f7, f8, f9⟩ := HF.out _ HC; go_simp <;> rfl
          simp only [Act.put, List.setIfInBounds_toArray, List.set_cons_succ, List.set_cons_zero]
          refine dw_val rfl rfl rfl ?_; apply Exists.intro; refine ⟨fun wv HC => ?_, ?_⟩
          · obtain ⟨f0, f1, f2, f3, f4, f5, f6, f7, f8, f9⟩ := HF.out _ HC; go_simp <;> rfl
          simp only [Act.put, List.setIfInBounds_toArray, List.set_cons_succ, List.set_cons_zero]
          refine dw_val rfl rfl rfl ?_; apply Exists.intro; refine ⟨fun wv HC => ?_, ?_⟩
          · obtain ⟨f0, f1, f2, f3, f4, f5, f6, f7, f8, f9⟩ := HF.out _ HC; go_simp <;> rfl
          simp only [Act.put, List.setIfInBounds_toArray, List.set_cons_succ, List.set_cons_zero]
          refine dw_val rfl rfl rfl ?_; apply Exists.intro; refine ⟨fun wv HC => ?_, ?_⟩
          · obtain ⟨f0, f1, f2, f3, f4, f5, f6, f7, f8, f9⟩ := HF.out _ HC; go_simp <;> rfl
          simp only [Act.put, List.setIfInBounds_toArray, List.set_cons_succ, List.set_cons_zero]
          refine dw_val rfl rfl rfl ?_; apply Exists.intro; refine ⟨fun wv HC => ?_, ?_⟩
          · obtain ⟨f0, f1, f2, f3, f4, f5, f6, f7, f8, f9⟩ := HF.out _ HC; go_simp <;> rfl
          simp only [Act.put, List.setIfInBounds_toArray, List.set_cons_succ, List.set_cons_zero]
          refine dw_val rfl rfl rfl ?_; apply Exists.intro; refine ⟨fun wv HC => ?_, ?_⟩
          · obtain ⟨f0, f1, f2, f3, f4, f5, f6, f7, f8, f9⟩ := HF.out _ HC; go_simp <;> rfl
          simp only [Act.put, List.setIfInBounds_toArray, List.set_cons_succ, List.set_cons_zero]
          refine dw_val rfl rfl rfl ?_; apply Exists.intro; refine ⟨fun wv HC => ?_, ?_⟩
          · obtain ⟨f0, f1, f2, f3, f4, f5, f6, f7, f8, f9⟩ := HF.out _ HC; go_simp <;> rfl
          simp only [Act.put, List.setIfInBounds_toArray, List.set_cons_succ, List.set_cons_zero]
          refine dw_val rfl rfl rfl ?_; apply Exists.intro; refine ⟨fun wv HC => ?_, ?_⟩
          · obtain ⟨f0, f1, f2, f3, f4, f5, f6, f7, f8, f9⟩ := HF.out _ HC; go_simp <;> rfl
          simp only [Act.put, List.setIfInBounds_toArray, List.set_cons_succ, List.set_cons_zero]
          refine dw_val rfl rfl rfl ?_; apply Exists.intro; refine ⟨fun wv HC => ?_, ?_⟩
          · obtain ⟨f0, f1, f2, f3, f4, f5, f6, f7, f8, f9⟩ := HF.out _ HC; go_simp <;> rfl
          simp only [Act.put, List.setIfInBounds_toArray, List.set_cons_succ, List.set_cons_zero]
          refine dw_val rfl rfl rfl ?_; apply Exists.intro; refine ⟨fun wv HC => ?_, ?_⟩
          · obtain ⟨f0, f1, f2, f3, f4, f5, f6, f7, f8, f9⟩ := HF.out _ HC; go_simp <;> rfl
          simp only [Act.put, List.setIfInBounds_toArray, List.set_cons_succ, List.set_cons_zero]
          refine dw_val rfl rfl rfl ?_; apply Exists.intro; refine ⟨fun wv HC => ?_, ?_⟩
          · obtain ⟨f0, f1, f2, f3, f4, f5, f6, f7, f8, f9⟩ := HF.out _ HC; go_simp <;> rfl
          simp only [Act.put, List.setIfInBounds_toArray, List.set_cons_succ, List.set_cons_zero]
          refine dw_val rfl rfl rfl ?_; apply Exists.intro; refine ⟨fun wv HC => ?_, ?_⟩
          · obtain ⟨f0, f1, f2, f3, f4, f5, f6, f7, f8, f9⟩ := HF.out _ HC; go_simp <;> rfl
          simp only [Act.put, List.setIfInBounds_toArray, List.set_cons_succ, List.set_cons_zero]
          refine dw_val rfl rfl rfl ?_; apply Exists.intro; refine ⟨fun wv HC => ?_, ?_⟩
          · obtain ⟨f0, f1, f2, f3, f4, f5, f6, f7, f8, f9⟩ := HF.out _ HC; go_simp <;> rfl
          simp only [Act.put, List.setIfInBounds_toArray, List.set_cons_succ, List.set_cons_zero]
          refine dw_val rfl rfl rfl ?_; apply Exists.intro; refine ⟨fun wv HC => ?_, ?_⟩
          · obtain ⟨f0, f1, f2, f3, f4, f5, f6, f7, f8, f9⟩ := HF.out _ HC; go_simp <;> rfl
          simp only [Act.put, List.setIfInBounds_toArray, List.set_cons_succ, List.set_cons_zero]
          refine dw_val rfl rfl rfl ?_; apply Exists.intro; refine ⟨fun wv HC => ?_, ?_⟩
          · obtain ⟨f0, f1, f2, f3, f4, f5, f6, f7, f8, f9⟩ := HF.out _ HC; go_simp <;> rfl
          simp only [Act.put, List.setIfInBounds_toArray, List.set_cons_succ, List.set_cons_zero]
          refine dw_val rfl rfl rfl ?_; apply Exists.intro; refine ⟨fun wv HC => ?_, ?_⟩
          · obtain ⟨f0, f1, f2, f3, f4, f5, f6, f7, f8, f9⟩ := HF.out _ HC; go_simp <;> rfl
          simp only [Act.put, List.setIfInBounds_toArray, List.set_cons_succ, List.set_cons_zero]
          refine dw_val rfl rfl rfl ?_; apply Exists.intro; refine ⟨fun wv HC => ?_, ?_⟩
          · obtain ⟨f0, f1, f2, f3, f4, f5, f6, f7, f8, f9⟩ := HF.out _ HC; go_simp <;> rfl
          simp only [Act.put, List.setIfInBounds_toArray, List.set_cons_succ, List.set_cons_zero]
          refine dw_val rfl rfl rfl ?_; apply Exists.intro; refine ⟨fun wv HC => ?_, ?_⟩
          · obtain ⟨f0, f1, f2, f3, f4, f5, f6, f7, f8, f9⟩ := HF.out _ HC; go_simp <;> rfl
          simp only [Act.put, List.setIfInBounds_toArray, List.set_cons_succ, List.set_cons_zero]
          refine dw_val rfl rfl rfl ?_; apply Exists.intro; refine ⟨fun wv HC => ?_, ?_⟩
          · obtain ⟨f0, f1, f2, f3, f4, f5, f6, f7, f8, f9⟩ := HF.out _ HC; go_simp <;> rfl
          simp only [Act.put, List.setIfInBounds_toArray, List.set_cons_succ, List.set_cons_zero]
          refine dw_val rfl rfl rfl ?_; apply Exists.intro; refine ⟨fun wv HC => ?_, ?_⟩
          · obtain ⟨f0, f1, f2, f3, f4, f5, f6, f7, f8, f9⟩ := HF.out _ HC; go_simp <;> rfl
          simp only [Act.put, List.setIfInBounds_toArray, List.set_cons_succ, List.set_cons_zero]
          refine dw_val rfl rfl rfl ?_; apply Exists.intro; refine ⟨fun wv HC => ?_, ?_⟩
          · obtain ⟨f0, f1, f2, f3, f4, f5, f6, f7, f8, f9⟩ := HF.out _ HC; go_simp <;> rfl
          simp only [Act.put, List.setIfInBounds_toArray, List.set_cons_succ, List.set_cons_zero]
          refine dw_val rfl rfl rfl ?_; apply Exists.intro; refine ⟨fun wv HC => ?_, ?_⟩
          · obtain ⟨f0, f1, f2, f3, f4, f5, f6, f7, f8, f9⟩ := HF.out _ HC; go_simp <;> rfl
          simp only [Act.put, List.setIfInBounds_toArray, List.set_cons_succ, List.set_cons_zero]
          refine dw_val rfl rfl rfl ?_; apply Exists.intro; refine ⟨fun wv HC => ?_, ?_⟩
          · obtain ⟨f0, f1, f2, f3, f4, f5, f6, f7, f8, f9⟩ := HF.out _ HC; go_simp <;> rfl
          simp only [Act.put, List.setIfInBounds_toArray, List.set_cons_succ, List.set_cons_zero]
          refine dw_val rfl rfl rfl ?_; apply Exists.intro; refine ⟨fun wv HC => ?_, ?_⟩
          · obtain ⟨f0, f1, f2, f3, f4, f5, f6, f7, f8, f9⟩ := HF.out _ HC; go_simp <;> rfl
          simp only [Act.put, List.setIfInBounds_toArray, List.set_cons_succ, List.set_cons_zero]
          refine dw_val rfl rfl rfl ?_; apply Exists.intro; refine ⟨fun wv HC => ?_, ?_⟩
          · obtain ⟨f0, f1, f2, f3, f4, f5, f6, f7, f8, f9⟩ := HF.out _ HC; go_simp <;> rfl
          simp only [Act.put, List.setIfInBounds_toArray, List.set_cons_succ, List.set_cons_zero]
          refine dw_val rfl rfl rfl ?_; apply Exists.intro; refine ⟨fun wv HC => ?_, ?_⟩
          · obtain ⟨f0, f1, f2, f3, f4, f5, f6, f7, f8, f9⟩ := HF.out _ HC; go_simp <;> rfl
          simp only [Act.put, List.setIfInBounds_toArray, List.set_cons_succ, List.set_cons_zero]
          refine dw_val rfl rfl rfl ?_; apply Exists.intro; refine ⟨fun wv HC => ?_, ?_⟩
          · obtain ⟨f0, f1, f2, f3, f4, f5, f6, f7, f8, f9⟩ := HF.out _ HC; go_simp <;> rfl
          simp only [Act.put, List.setIfInBounds_toArray, List.set_cons_succ, List.set_cons_zero]
          refine dw_val rfl rfl rfl ?_; apply Exists.intro; refine ⟨fun wv HC => ?_, ?_⟩
          · obtain ⟨f0, f1, f2, f3, f4, f5, f6, f7, f8, f9⟩ := HF.out _ HC; go_simp <;> rfl
          simp only [Act.put, List.setIfInBounds_toArray, List.set_cons_succ, List.set_cons_zero]
          refine dw_val rfl rfl rfl ?_; apply Exists.intro; refine ⟨fun wv HC => ?_, ?_⟩
          · obtain ⟨f0, f1, f2, f3, f4, f5, f6, f7, f8, f9⟩ := HF.out _ HC; go_simp <;> rfl
          simp only [Act.put, List.setIfInBounds_toArray, List.set_cons_succ, List.set_cons_zero]
          refine dw_val rfl rfl rfl ?_; apply Exists.intro; refine ⟨fun wv HC => ?_, ?_⟩
          · obtain ⟨f0, f1, f2, f3, f4, f5, f6, f7, f8, f9⟩ := HF.out _ HC; go_simp <;> rfl
          simp only [Act.put, List.setIfInBounds_toArray, List.set_cons_succ, List.set_cons_zero]
          refine dw_val rfl rfl rfl ?_; apply Exists.intro; refine ⟨fun wv HC => ?_, ?_⟩
          · obtain ⟨f0, f1, f2, f3, f4, f5, f6, f7, f8, f9⟩ := HF.out _ HC; go_simp <;> rfl
          simp only [Act.put, List.setIfInBounds_toArray, List.set_cons_succ, List.set_cons_zero]
          refine dw_callR 64 (IsV (.int .i64 (fitsT cs x.vs))) (f := 73) (args := #[.agg #[.string nm, .slice A n c], .slice x.A x.n x.c]) rfl rfl rfl rfl (fun wv => ?_) (fun wv HC hrm hD => ?_) ?_
          · go_simp <;> rfl
          · refine (rtfits_any _ _ HC.mutLt nm A n c cs x.A x.n x.c x.vs ((HKL.out wv HC).1) ((HKL.out wv HC).2) hn hxn hrok.vs).mono ?_
            rintro e w5 ⟨rfl, b5⟩
            exact ⟨_, rfl, rfl, HC.call b5, RM.below b5⟩
          rintro u wx HCx hu
          obtain rfl : u = _ := hu
          clear HCx
          simp only [Act.put, List.setIfInBounds_toArray, List.set_cons_succ, List.set_cons_zero]
          refine dw_val rfl rfl rfl ?_; apply Exists.intro; refine ⟨fun wv HC => ?_, ?_⟩
          · obtain ⟨f0, f1, f2, f3, f4, f5, f6, f7, f8, f9⟩ := HF.out _ HC; go_simp <;> rfl
          simp only [Act.put, List.setIfInBounds_toArray, List.set_cons_succ, List.set_cons_zero]
          refine rel_nil ?_
          rintro wx2 HX2
          rintro _hrm _HG
          rw [HKE.out] at HX2
          clear _hrm _HG
          by_cases a3 : fitsT cs x.vs = 0
          · have HS2 := hid (show okR cs nx 0 (l.map Rw.row) = okR cs nx x.id ((l.map Rw.row).drop (j + 1)) by rw [HS.out]; exact okR_good HX.out (by have := HA4.out; have := HRL.out; omega) (by have := HA.out; omega) a3)
            have HP2 := hid (show (j + 1 = 0 → x.id = 0) ∧ ∀ q, j + 1 = q + 1 → ∃ r : Rw, l[q]? = some r ∧ r.id = x.id from ⟨fun h => by omega, fun q hq => ⟨x, (show j = q by omega) ▸ HXL.out, rfl⟩⟩)
            have h0x : 0 ≤ x.id := by have := HA.out; omega
            rw [a3]
            clear a3
            go_wp2_with fail
            go_roundw
            case rel => exact ⟨j + 1, x.id, by omega, by go_num, h0x, HP2, HS2, HX2.drop (List.sublist_cons_self _ _)⟩
            case measure => simp [intOf]; omega
          · have a3d : (fitsT cs x.vs != 0) = true := by simp [a3]
            have HN := hid (show tabB nm cs nx (l.map Rw.row) = false from tabB_5 (by rw [HS.out]; exact okR_bad HX.out (.inr (.inr a3))))
            clear a3
            go_wp2_with fail
            go_ret
            exact ⟨by rw [HN.out] <;> rfl, HX2.below⟩
    · obtain rfl : j = m := by omega
      have hdd : decide ((j : Int) < (j : Int)) = false := by simp
      have HN := hid (show tabB nm cs nx (l.map Rw.row) = !dupB cs (l.map Rw.row) from tabB_6 HSB.out (by rw [HML.out]; omega) (by omega) (by omega) (by rw [HS.out]; exact okR_end (by rw [HML.out]; exact Nat.le_refl _)))
      have F3 := H.facts
      simp only [World.size_alloc, World.size_drew, factsL, cellsF, Nat.reduceAdd, List.toList_toArray, List.set_cons_zero, List.set_cons_succ, List.setIfInBounds_toArray, and_true, true_and] at F3
      go_wp2_with fail
      refine (rdup_any _ _ H.mutLt nm A n c cs nx B j d l (H.ro 1 rfl) (H.ro 2 rfl) hn hm hok).mono ?_
      rintro e w3 ⟨rfl, b3⟩
      have K3 := H.call b3
      go_wp2_with fail
      go_ret
      exact ⟨by rw [HN.out] <;> rfl, K3.below⟩
end Go.Proofs.YtedogodccblfeaaGreatDoor

namespace Go.Proofs.YtedogodccblfeaaGreatDoor
open Go.RowKit
set_option linter.unusedVariables false

def cmpI (a b : Int) : Int := if a < b then -1 else if b < a then 1 else 0
def cmpS (a b : ByteArray) : Int := if Op.bytesLess a.toList b.toList then -1 else if a.toList == b.toList then 0 else 1

theorem cmp_int (a b : Int) (w : World) :
    Calls Tryz.prog 136 #[.int .i64 a, .int .i64 b] w fun e w' => e = .returned (.int .i64 (cmpI a b)) ∧ w = w' := by
  by_cases h1 : a < b
  · go_enter Tryz.func136, Tryz.ntmps136
    go_wp2
    go_ret
    exact ⟨by simp [cmpI, h1], rfl⟩
  · by_cases h2 : b < a
    · go_enter Tryz.func136, Tryz.ntmps136
      go_wp2
      go_ret
      exact ⟨by simp [cmpI, h1, h2], rfl⟩
    · go_enter Tryz.func136, Tryz.ntmps136
      go_wp2
      go_ret
      exact ⟨by rw [show cmpI a b = 0 from by unfold cmpI; rw [if_neg (by omega), if_neg (by omega)]]; rfl, rfl⟩

theorem cmp_int64 (a b : Int) (w : World) :
    Calls Tryz.prog 247 #[.int .i64 a, .int .i64 b] w fun e w' => e = .returned (.int .i64 (cmpI a b)) ∧ w = w' := by
  by_cases h1 : a < b
  · go_enter Tryz.func247, Tryz.ntmps247
    go_wp2
    go_ret
    exact ⟨by simp [cmpI, h1], rfl⟩
  · by_cases h2 : b < a
    · go_enter Tryz.func247, Tryz.ntmps247
      go_wp2
      go_ret
      exact ⟨by simp [cmpI, h1, h2], rfl⟩
    · go_enter Tryz.func247, Tryz.ntmps247
      go_wp2
      go_ret
      exact ⟨by rw [show cmpI a b = 0 from by unfold cmpI; rw [if_neg (by omega), if_neg (by omega)]]; rfl, rfl⟩

theorem cmp_string (a b : ByteArray) (w : World) :
    Calls Tryz.prog 248 #[.string a, .string b] w fun e w' => e = .returned (.int .i64 (cmpS a b)) ∧ w = w' := by
  cases h1 : Op.bytesLess a.toList b.toList
  · cases h2 : (a.toList == b.toList)
    · go_enter Tryz.func248, Tryz.ntmps248
      go_wp2
      go_ret
      exact ⟨by simp [cmpS, h1, h2], rfl⟩
    · go_enter Tryz.func248, Tryz.ntmps248
      go_wp2
      go_ret
      exact ⟨by simp [cmpS, h1, h2], rfl⟩
  · go_enter Tryz.func248, Tryz.ntmps248
    go_wp2
    go_ret
    exact ⟨by simp [cmpS, h1], rfl⟩

/-- The first number that is not 0, or 0. -/
def firstNZ : List Int → Int
  | [] => 0
  | x :: r => if x = 0 then firstNZ r else x

theorem firstNZ_skip (l : List Int) (k : Nat) (h : ∀ j, j < k → l.getD j 0 = 0) : firstNZ l = firstNZ (l.drop k) := by
  induction k generalizing l with
  | zero => simp
  | succ k ih =>
    cases l with
    | nil => simp
    | cons x r =>
      have h0 : x = 0 := by simpa using h 0 (by omega)
      simp only [firstNZ, h0, if_true, List.drop_succ_cons]
      exact ih r (fun j hj => by simpa using h (j + 1) (by omega))

set_option maxHeartbeats 1000000 in
theorem or_int (A : Option Addr) (n c : Nat) (zs : List Int) (w : World) (B : Nat) (hr : Rd w B 1 A n (zs.map (Value.int .i64))) (hn : n ≤ 9223372036854775807) :
    Calls Tryz.prog 246 #[.slice A n c] w fun e w' => e = .returned (.int .i64 (firstNZ zs)) ∧ w = w' := by
  have hl : zs.length = n := by simpa using hr.1
  have HL := hid hl; clear hl
  go_enter Tryz.func246, Tryz.ntmps246
  go_wp2_with fail
  go_loop [8] (fun i => ∃ k : Nat, k ≤ n ∧ i = .int .i64 k ∧ ∀ j, j < k → zs.getD j 0 = 0) (fun i => n - (intOf i).toNat)
  case atStart => exact ⟨0, by omega, rfl, fun j hj => absurd hj (by omega)⟩
  case round =>
    obtain ⟨k, hk, rfl, hz⟩ := hrel
    have HZ := hid hz; clear hz
    by_cases hlt : k < n
    · obtain ⟨b, o, rfl, hb, hc⟩ := hr.at1 hlt
      rw [ints_get _ _ _ (by rw [HL.out]; omega)] at hc
      obtain ⟨x, hx⟩ : ∃ x, x = zs.getD k 0 := ⟨_, rfl⟩
      rw [← hx] at hc
      have HX := hid hx; clear hx
      by_cases h0 : x = 0
      · have k0 : (x != 0) = false := by simpa using h0
        have H0 := hid h0; clear h0
        go_wp2_with fail
        go_round
        case rel =>
          refine ⟨k + 1, by omega, by go_num, fun j hj => ?_⟩
          by_cases e : j = k
          · subst e; rw [← HX.out]; exact H0.out
          · exact HZ.out j (by omega)
        case measure => simp [intOf]; omega
      · have k0 : (x != 0) = true := by simpa using h0
        have HF : Hid (firstNZ zs = x) := by
          unfold Hid
          rw [firstNZ_skip zs k HZ.out, List.drop_eq_getElem_cons (by rw [HL.out]; omega)]
          have : zs[k]'(by rw [HL.out]; omega) = x := by rw [HX.out]; simp [List.getD, show k < zs.length by rw [HL.out]; omega]
          rw [this, firstNZ, if_neg h0]
        clear h0
        go_wp2_with fail
        go_ret
        exact ⟨by rw [HF.out]; rfl, rfl⟩
    · obtain rfl : k = n := by omega
      have HF : Hid (firstNZ zs = 0) := by
        unfold Hid
        rw [firstNZ_skip zs k HZ.out, List.drop_of_length_le (by rw [HL.out]; omega)]; rfl
      go_wp2
      go_ret
      exact ⟨by rw [HF.out]; rfl, rfl⟩

theorem six {w : World} {g g' : Nat} {t : TypeId} {x y z x' y' z' : Value} (h : Blk w g t #[x, y, z]) (h' : Blk w g' t #[x', y', z']) :
    w.cell? ⟨g, 0, none⟩ = some x ∧ w.cell? ⟨g, 1, none⟩ = some y ∧ w.cell? ⟨g, 2, none⟩ = some z ∧ w.cell? ⟨g', 0, none⟩ = some x' ∧ w.cell? ⟨g', 1, none⟩ = some y' ∧ w.cell? ⟨g', 2, none⟩ = some z' := ⟨h.cell 0, h.cell 1, h.cell 2, h'.cell 0, h'.cell 1, h'.cell 2⟩

/-- The comparison of two values. -/
def cmpV (k1 i1 : Int) (s1 : ByteArray) (k2 i2 : Int) (s2 : ByteArray) : Int := firstNZ [cmpI k1 k2, cmpI i1 i2, cmpS s1 s2]

end Go.Proofs.YtedogodccblfeaaGreatDoor

namespace Go.Proofs.YtedogodccblfeaaGreatDoor
open Go.RowKit
set_option linter.unusedVariables false
set_option linter.unusedSimpArgs false

theorem less_asymm : ∀ x y : List UInt8, Op.bytesLess x y = true → Op.bytesLess y x = false ∧ x ≠ y
  | _, [], h => by simp [Op.bytesLess] at h
  | [], b :: y, _ => ⟨by simp [Op.bytesLess], by simp⟩
  | a :: x, b :: y, h => by
    simp only [Op.bytesLess, Bool.or_eq_true, decide_eq_true_eq, Bool.and_eq_true, beq_iff_eq] at h
    rcases h with h | ⟨rfl, h⟩
    · have h1 : ¬ (b < a) := by
        intro k
        have h' : a.toNat < b.toNat := h
        have k' : b.toNat < a.toNat := k
        omega
      have h2 : a ≠ b := by
        rintro rfl
        have h' : a.toNat < a.toNat := h
        omega
      refine ⟨?_, fun e => h2 (by injection e)⟩
      simp only [Op.bytesLess, Bool.or_eq_false_iff, decide_eq_false_iff_not, Bool.and_eq_false_imp, beq_iff_eq]
      exact ⟨h1, fun e => absurd e.symm h2⟩
    · obtain ⟨i1, i2⟩ := less_asymm x y h
      have h1 : ¬ (a < a) := by
        intro k
        have k' : a.toNat < a.toNat := k
        omega
      refine ⟨?_, fun e => i2 (by injection e)⟩
      simp only [Op.bytesLess, Bool.or_eq_false_iff, decide_eq_false_iff_not, Bool.and_eq_false_imp, beq_iff_eq]
      exact ⟨h1, fun _ => i1⟩
theorem less_tri : ∀ x y : List UInt8, Op.bytesLess x y = false → Op.bytesLess y x = false → x = y
  | [], [], _, _ => rfl
  | [], b :: y, h, _ => by simp [Op.bytesLess] at h
  | a :: x, [], _, h => by simp [Op.bytesLess] at h
  | a :: x, b :: y, h, k => by
    simp only [Op.bytesLess, Bool.or_eq_false_iff, decide_eq_false_iff_not, Bool.and_eq_false_imp, beq_iff_eq] at h k
    have hab : a = b := by
      have h' : ¬ a.toNat < b.toNat := h.1
      have k' : ¬ b.toNat < a.toNat := k.1
      exact UInt8.toNat_inj.1 (by omega)
    subst hab
    rw [less_tri x y (h.2 rfl) (k.2 rfl)]

end Go.Proofs.YtedogodccblfeaaGreatDoor

namespace Go.Proofs.YtedogodccblfeaaGreatDoor
open Go.RowKit
set_option linter.unusedVariables false
set_option linter.unusedSimpArgs false

def ltS (a b : ByteArray) : Bool := Op.bytesLess a.toList b.toList
/-- lo is where t stands or would stand in l. -/
def BsAt (l : List ByteArray) (t : ByteArray) (lo hi : Nat) : Prop := (∀ j a, l[j]? = some a → j < lo → ltS a t = true) ∧ (∀ j a, l[j]? = some a → hi ≤ j → ltS a t = false)

theorem ltS_irrefl (a : ByteArray) : ltS a a = false := by
  cases h : ltS a a
  · rfl
  · exact absurd rfl (less_asymm _ _ h).2
theorem bs_up {l : List ByteArray} {t a : ByteArray} {lo hi h : Nat} (hs : l.Pairwise (fun a b => ltS a b = true)) (hb : BsAt l t lo hi) (ha : l[h]? = some a) (hl : ltS a t = true) (tr : ∀ x y z : ByteArray, ltS x y = true → ltS y z = true → ltS x z = true) : BsAt l t (h + 1) hi := by
  refine ⟨fun j x hj hlt => ?_, hb.2⟩
  rcases Nat.lt_or_ge j h with h1 | h1
  · obtain ⟨hj1, rfl⟩ := List.getElem?_eq_some_iff.1 hj
    obtain ⟨hl1, rfl⟩ := List.getElem?_eq_some_iff.1 ha
    exact tr _ _ _ (List.pairwise_iff_getElem.1 hs j h hj1 hl1 h1) hl
  · obtain rfl : j = h := by omega
    rw [hj] at ha; injection ha with ha; rw [ha]; exact hl
theorem bs_down {l : List ByteArray} {t a : ByteArray} {lo hi h : Nat} (hs : l.Pairwise (fun a b => ltS a b = true)) (hb : BsAt l t lo hi) (ha : l[h]? = some a) (hl : ltS a t = false) (tr : ∀ x y z : ByteArray, ltS x y = true → ltS y z = true → ltS x z = true) : BsAt l t lo h := by
  refine ⟨hb.1, fun j x hj hlt => ?_⟩
  rcases Nat.lt_or_ge h j with h1 | h1
  · obtain ⟨hj1, rfl⟩ := List.getElem?_eq_some_iff.1 hj
    obtain ⟨hl1, rfl⟩ := List.getElem?_eq_some_iff.1 ha
    cases e : ltS l[j] t
    · rfl
    · rw [tr _ _ _ (List.pairwise_iff_getElem.1 hs h j hl1 hj1 h1) e] at hl; cases hl
  · obtain rfl : j = h := by omega
    rw [hj] at ha; injection ha with ha; rw [ha]; exact hl
theorem less_trans_ : ∀ x y z : List UInt8, Op.bytesLess x y = true → Op.bytesLess y z = true → Op.bytesLess x z = true
  | [], [], _, h, _ => by simp [Op.bytesLess] at h
  | [], _ :: _, [], _, h => by simp [Op.bytesLess] at h
  | [], _ :: _, _ :: _, _, _ => by simp [Op.bytesLess]
  | _ :: _, [], _, h, _ => by simp [Op.bytesLess] at h
  | _ :: _, _ :: _, [], _, h => by simp [Op.bytesLess] at h
  | a :: x, b :: y, c :: z, h1, h2 => by
    simp only [Op.bytesLess, Bool.or_eq_true, Bool.and_eq_true, decide_eq_true_eq, beq_iff_eq] at h1 h2 ⊢
    rcases h1 with h1 | ⟨rfl, h1⟩ <;> rcases h2 with h2 | ⟨rfl, h2⟩
    · exact .inl (by rw [UInt8.lt_iff_toNat_lt] at *; omega)
    · exact .inl h1
    · exact .inl h2
    · exact .inr ⟨rfl, less_trans_ x y z h1 h2⟩
theorem ltS_trans (x y z : ByteArray) (h1 : ltS x y = true) (h2 : ltS y z = true) : ltS x z = true := less_trans_ _ _ _ h1 h2

end Go.Proofs.YtedogodccblfeaaGreatDoor

namespace Go.Proofs.YtedogodccblfeaaGreatDoor
open Go Go.RowKit
set_option linter.unusedVariables false
set_option linter.unusedSectionVars false
set_option linter.unusedSimpArgs false

section
variable {P : Program} {ops : Array Oper} {C : World → Prop} {G : Option Tmp → Value → World → Prop} {R : World → World → Prop} {n N : Nat} {F : Act → Prop}

/-- an operation that reads its slots alone -/
def plainOp (o : Oper) : Bool := match o.op with
  | .move _ => true
  | .extract _ _ => true
  | _ => false
theorem plain_run {o : Oper} (h : plainOp o = true) {a : Act} {w : World} {C : World → Prop} {G : Option Tmp → Value → World → Prop} {R : World → World → Prop} (hg : goodUpon P C G R o.dst w ((execOp a.eval o).run P w)) :
    ∃ v, (∀ w', (execOp a.eval o).run P w' = .ok (.value v) w') ∧ G o.dst v w ∧ C w ∧ R w w := by
  unfold plainOp at h
  split at h
  · rename_i x hx
    have e : ∀ w', (execOp a.eval o).run P w' = .ok (.value (a.eval x)) w' := fun w' => by
      unfold execOp; simp only [hx, Sem.run_pure]
    rw [e w] at hg
    exact ⟨_, e, hg⟩
  · rename_i t ix hx
    have e : ∀ w', (execOp a.eval o).run P w' = ((Instr.extract (a.eval t) ix).run P w').andThen fun u => (pure (.value u) : Sem Next).run P := fun w' => by
      unfold execOp; simp only [hx, Sem.run_bind]
    by_cases hv : ∃ vs v, a.eval t = .tuple vs ∧ vs[ix]? = some v
    · obtain ⟨vs, v, h1, h2⟩ := hv
      have e2 : ∀ w', (execOp a.eval o).run P w' = .ok (.value v) w' := fun w' => by
        rw [e w', h1]; unfold Instr.extract; simp only [h2, Sem.run_pure, Result.andThen_ok]
      rw [e2 w] at hg
      exact ⟨_, e2, hg⟩
    · exfalso
      have hh : ∃ x w2, (Instr.extract (a.eval t) ix).run P w = .halt x w2 := by
        unfold Instr.extract
        split
        · rename_i vs hvs
          split
          · rename_i v hvv; exact absurd ⟨vs, v, hvs, hvv⟩ hv
          · exact ⟨_, _, rfl⟩
        · exact ⟨_, _, rfl⟩
      obtain ⟨x, w2, hh⟩ := hh
      rw [e w, hh] at hg
      exact hg
  · cases h
/-- the exempt ones: they read their slots alone, and are apart from all that does not wait for them -/
def waitS (ops : Array Oper) (i : Nat) : Array Bool := ((List.range ops.size).map fun j => Region.waitsFor .any ops i j).toArray
def exB (ops : Array Oper) (E : List Nat) (n : Nat) : Bool := E.all fun i => decide (i < n) && (match ops[i]? with | some o => plainOp o | none => false) && Region.free .any ops (waitS ops i) i
def sinkE (ops : Array Oper) (S0 : Array Bool) (E : List Nat) (n : Nat) : Bool := (List.range n).all fun i => E.contains i || S0.getD i false || (List.range (n + 1)).any fun j => decide (i < j) && !E.contains j && Region.waitsFor .any ops j i
theorem free_mono {i : Nat} {oi : Oper} (hi : ops[i]? = some oi) (h : Region.free .any ops (waitS ops i) i = true) (S : Array Bool) (hS : S.size = ops.size) (hw : ∀ e ∈ oi.after, Region.binds .any e = true → S.getD e.on false = true) : Region.free .any ops S i = true := by
  simp only [Region.free, hi, List.all_eq_true, List.mem_range] at h ⊢
  intro j hj
  have h1 := h j hj
  simp only [Bool.or_eq_true] at h1 ⊢
  rcases h1 with (h1 | h1) | h1
  · exact .inl (.inl h1)
  · have h2 : Region.waitsFor .any ops i j = true := by simpa [waitS, hj] using h1
    obtain ⟨o', ho', e, he, hb, hon⟩ := Region.waitsFor_spec h2
    obtain rfl : oi = o' := Option.some.inj (hi.symm.trans ho')
    have h3 := hw e he hb
    rw [hon] at h3
    have hl : j < S.size := by omega
    exact .inl (.inr (by simpa [hl] using h3))
  · exact .inr h1
theorem tail_waitsE {S0 listed : Array Bool} {E : List Nat} (hs : sinkE ops S0 E n = true) (hc : laterB ops n = true) (hn : n < ops.size) (inv : HeadInv .any ops n listed) (h0 : ∀ j, S0.getD j false = true → listed.getD j false = true) :
    ∀ (d i : Nat), n - i = d → i < n → E.contains i = false → listed.getD i true = false → ∀ t, n ≤ t → t ∉ Region.ready .any ops listed := by
  intro d
  induction d using Nat.strongRecOn with
  | _ d ih =>
    intro i hd hi hE hun t ht hr
    obtain ⟨_, ot, hot, hall⟩ := mem_ready.1 hr
    have htlt : t < ops.size := (Array.getElem?_eq_some_iff.1 hot).1
    by_cases htn : t = n
    · subst htn
      have h1 := List.all_eq_true.1 hs i (List.mem_range.2 hi)
      have hnot : S0.getD i false = false := by
        cases hS : S0.getD i false with
        | false => rfl
        | true => have := h0 i hS; rw [getD_both hun] at this; cases this
      rw [hE, hnot, Bool.false_or, Bool.false_or] at h1
      obtain ⟨j, hj, hj2⟩ := List.any_eq_true.1 h1
      simp only [Bool.and_eq_true, decide_eq_true_eq, Bool.not_eq_true'] at hj2
      obtain ⟨oj, hoj, e, he, hb, hon⟩ := Region.waitsFor_spec hj2.2
      have hjle : j ≤ t := by have := List.mem_range.1 hj; omega
      by_cases hjt : j = t
      · subst hjt
        have : oj = ot := Option.some.inj (hoj.symm.trans hot)
        subst this
        have h2 := hall e he hb
        rw [hon, getD_both hun] at h2
        cases h2
      · cases hl : listed.getD j false with
        | true =>
          have h2 := inv.closed j oj hoj hl e he hb
          rw [hon, getD_both hun] at h2
          cases h2
        | false =>
          have hjs : j < listed.size := by rw [inv.size]; omega
          exact ih (t - j) (by omega) j rfl (by omega) hj2.1.2 (getD_in hjs hl) t (Nat.le_refl _) hr
    · have h1 := List.all_eq_true.1 hc t (List.mem_range.2 htlt)
      simp only [Bool.or_eq_true, decide_eq_true_eq] at h1
      rcases h1 with h1 | h1
      · omega
      · obtain ⟨j, hj, hj2⟩ := List.any_eq_true.1 h1
        simp only [Bool.and_eq_true, decide_eq_true_eq] at hj2
        obtain ⟨o', ho', e, he, hb, hon⟩ := Region.waitsFor_spec hj2.2
        have : o' = ot := Option.some.inj (ho'.symm.trans hot)
        subst this
        have h2 := hall e he hb
        rw [hon, getD_both (inv.tail j hj2.1 (List.mem_range.1 hj))] at h2
        cases h2
theorem wpAny_of_wkE (sh : Shape ops n N) (hmono : ∀ d u w w', R w w' → G d u w → G d u w') (hR : ∀ w, C w → R w w) (hu : ∀ w, C w → G none undef w) {g : Nat} {Q : Exit → Act → World → Prop} (S0 : Array Bool) (E : List Nat)
    (hE : ∀ i, E.contains i = true → i < n ∧ ∃ oi, ops[i]? = some oi ∧ plainOp oi = true ∧ ∀ S : Array Bool, S.size = ops.size → (∀ e ∈ oi.after, Region.binds .any e = true → S.getD e.on false = true) → Region.free .any ops S i = true) (hno : Region.noSelect ops = true) (hQ : ∀ c d v a w, Q (.panic c) (a.put d v) w → Q (.panic c) a w)
    (htail : ∀ S, HeadInv .any ops n S → (∀ j, S0.getD j false = true → S.getD j false = true) → (∃ i, i < n ∧ E.contains i = false ∧ S.getD i true = false) → ∀ t, n ≤ t → t ∉ Region.ready .any ops S)
    (hend : ∀ S a w, HeadInv .any ops n S → (∀ j, j < n → S.getD j false = true) → C w → (∀ j oj, ops[j]? = some oj → j < n → G oj.dst (slot a oj.dst) w) → F a → wpAny P .any ops Q g S a w) :
    ∀ (f : Nat) (S : Array Bool) (a : Act) (w : World), HeadInv .any ops n S → (∀ j, S0.getD j false = true → S.getD j false = true) → unl n S = f → a.tmps.size = N → Inv ops C G S a w → Wk P ops C G R S F n 0 a → wpAny P .any ops Q (f + g) S a w
  | 0, S, a, w, hd, h0s, hf, hN, hI, h => by
    have hall := unl_zero hf (by rw [hd.size]; exact sh.le)
    rw [Nat.zero_add]
    exact hend S a w hd hall hI.1 (fun j oj hj hjn => hI.2 j oj hj (hall j hjn)) (Wk.done sh hmono n 0 a w (by omega) hall hI.1 (fun j oj hj hs => hI.2 j oj hj (hs.resolve_right (by omega))) h)
  | f + 1, S, a, w, hd, h0s, hf, hN, hI, h => by
    obtain ⟨k0, hk0, hun0⟩ := unl_pos hf
    obtain ⟨k, ⟨hk, hun⟩, hmin⟩ := least (p := fun j => j < n ∧ S.getD j true = false) k0 ⟨hk0, hun0⟩
    have hrk : k ∈ Region.ready .any ops S := by
      have hks : k < ops.size := by have := sh.le; omega
      refine mem_ready.2 ⟨hun, ops[k], Array.getElem?_eq_getElem hks, fun e he hb => ?_⟩
      have hlt := sh.back k _ (Array.getElem?_eq_getElem hks) hk e he hb
      cases hS : S.getD e.on false with
      | true => rfl
      | false => exact absurd ⟨by omega, getD_in (by rw [hd.size]; have := sh.le; omega) hS⟩ (hmin e.on hlt)
    rw [show f + 1 + g = (f + g) + 1 by omega]
    have hstep : ∀ i, i < n → i ∈ Region.ready .any ops S → ∃ oi, ops[i]? = some oi ∧ StepOk P ops C G R oi a ∧ Deps ops G oi a w ∧ ∀ u w', May P ops C G oi a u → C w' → R w w' → G oi.dst u w' → wpAny P .any ops Q (f + g) (S.setIfInBounds i true) (a.put oi.dst u) w' := fun i hin hi => by
      obtain ⟨huni, oi, hoi, hall⟩ := mem_ready.1 hi
      have hunf : S.getD i false = false := getD_both huni
      have hst := Wk.ready sh hmono hR hu hoi hin hunf hall n 0 a w (by omega) (by omega) hN hI.1 (fun j oj hj hs => hI.2 j oj hj (hs.resolve_right (by omega))) h
      have hD : Deps ops G oi a w := fun e he hb oe hoe => hI.2 e.on oe hoe (hall e he hb)
      refine ⟨oi, hoi, hst, hD, fun u w' hm hC' hR' hG' => ?_⟩
      refine wpAny_of_wkE sh hmono hR hu S0 E hE hno hQ htail hend f _ _ w' (hd.set hi hin) (fun j hj => getD_set_true (h0s j hj)) ?_ (by rw [size_put]; exact hN) ⟨hC', fun j oj hj hs => ?_⟩ (Wk.front sh hmono hoi hin (by rw [hd.size]) hunf hall n 0 a (by omega) (by omega) hN hm h)
      · have := unl_set hin huni; omega
      · by_cases hji : j = i
        · subst hji
          obtain rfl : oi = oj := Option.some.inj (hoi.symm.trans hj)
          exact slots_new sh hmono hN hj hG' (fun _ => hu w' hC')
        · rw [slots_keep sh hmono (S := S) hoi hj hji]
          rw [getD_set_ne false (Ne.symm hji)] at hs
          exact hmono _ _ _ _ hR' (hI.2 j oj hj hs)
    cases hkE : E.contains k with
    | true =>
      obtain ⟨_, ok, hok, hpl, hfr⟩ := hE k hkE
      obtain ⟨oi, hoi, hst, hD, hnext⟩ := hstep k hk hrk
      obtain ⟨_, o3, ho3, hall⟩ := mem_ready.1 hrk
      obtain rfl : oi = o3 := Option.some.inj (hoi.symm.trans ho3)
      obtain rfl : ok = oi := Option.some.inj (hok.symm.trans hoi)
      by_cases hw : Region.wanted ok (yielded ops a.tmps) = true
      · unfold StepOk at hst
        simp only [hw, if_true] at hst
        have hg := hst w hI.1 hD
        unfold Good at hg
        obtain ⟨v, hv, hG, hC, hRR⟩ := plain_run hpl hg
        refine wpAny_take hok hno (hfr S hd.size hall) (by simpa using hrk) (fun c a w => hQ c _ _ a w) (.inl ⟨hw, hv⟩) (hnext v w ?_ hC hRR hG)
        unfold May
        rw [if_pos hw]
        exact ⟨w, hI.1, hD, by rw [hv w]; rfl⟩
      · unfold StepOk at hst
        rw [if_neg hw] at hst
        refine wpAny_take hok hno (hfr S hd.size hall) (by simpa using hrk) (fun c a w => hQ c _ _ a w) (.inr ⟨by simpa using hw, rfl⟩) (hnext undef w ?_ hI.1 (hR w hI.1) (hst w hI.1))
        unfold May
        rw [if_neg hw]
    | false =>
    refine ⟨fun h0 => (by rw [h0] at hrk; cases hrk), fun i hi => ?_⟩
    have hin : i < n := by
      rcases Nat.lt_or_ge i n with h' | h'
      · exact h'
      · exact absurd hi (htail S hd h0s ⟨k, hk, hkE, hun⟩ i h')
    obtain ⟨oi, hoi, hst, hD, hnext⟩ := hstep i hin hi
    unfold wpOp
    simp only [hoi]
    split
    · rename_i hw
      refine .inl (good_wp hI.1 hD hw ?_ hnext)
      unfold StepOk at hst
      simp only [hw, if_true] at hst
      exact hst w hI.1 hD
    · rename_i hw
      unfold StepOk at hst
      rw [if_neg hw] at hst
      exact hnext undef w (by unfold May; rw [if_neg hw]) hI.1 (hR w hI.1) (hst w hI.1)
def relE (ops : Array Oper) (S0 : Array Bool) (E : List Nat) (n N : Nat) : Bool :=
  Region.noSelect ops && dstsB ops N && decide (n ≤ ops.size) && backB ops n && asideB ops n && (decide (n = ops.size) || (decide (n < ops.size) && sinkE ops S0 E n && laterB ops n)) && closedB ops S0 n && exB ops E n && Region.seqB .any ops (ops.size - n) n (headList n ops.size)
theorem relE_shape {S0 : Array Bool} {E : List Nat} {n N : Nat} (h : relE ops S0 E n N = true) : Shape ops n N := by
  simp only [relE, Bool.and_eq_true, decide_eq_true_eq] at h
  obtain ⟨⟨⟨⟨⟨⟨⟨⟨hsel, hd⟩, hn⟩, hb⟩, ha⟩, _⟩, _⟩, _⟩, _⟩ := h
  refine ⟨hd, hn, fun k o hk hkn e he hbd => ?_, fun k i ok oi hki hin hk hi hno => ?_, Region.noSelect_spec hsel⟩
  · have h1 := List.all_eq_true.1 hb k (List.mem_range.2 hkn)
    simp only [hk] at h1
    have h2 := Array.all_eq_true'.1 h1 e he
    simp only [hbd, Bool.not_true, Bool.false_or, decide_eq_true_eq] at h2
    exact h2
  · have h1 := List.all_eq_true.1 (List.all_eq_true.1 ha i (List.mem_range.2 hin)) k (List.mem_range.2 hki)
    simp only [hk, hi, Bool.or_eq_true] at h1
    refine h1.resolve_left fun h2 => ?_
    obtain ⟨e, he, hb2⟩ := Array.any_eq_true'.1 h2
    simp only [Bool.and_eq_true, beq_iff_eq] at hb2
    exact hno e he hb2.1 hb2.2
/-- A region that draws its order, the operations of S0 done, E exempt: the first n operations in any order; then the others. -/
theorem wpAny_relE {Q : Exit → Act → World → Prop} {a : Act} {w : World} {l : List Oper} (S0 : Array Bool) (E : List Nat) (n N : Nat) (C : World → Prop) (G : Option Tmp → Value → World → Prop) (R : World → World → Prop) {fuel : Nat}
    (hB : relE l.toArray S0 E n N = true) (hQ : ∀ c d v a w, Q (.panic c) (a.put d v) w → Q (.panic c) a w) (hf : fuel = unl n S0 + (l.length - n)) (hN : a.tmps.size = N) (hmono : ∀ d u w w', R w w' → G d u w → G d u w') (hR : ∀ w, C w → R w w) (hu : ∀ w, C w → G none undef w) (hC : C w)
    (h0 : ∀ j oj, l[j]? = some oj → S0.getD j false = true → G oj.dst (slot a oj.dst) w)
    (h : wpRel P l.toArray C G R S0 (fun a' => ∀ w', C w' → (∀ j oj, l[j]? = some oj → j < n → G oj.dst (slot a' oj.dst) w') → wpList P l.toArray Q (l.drop n) a' w') 0 (l.take n) a) : wpAny P .any l.toArray Q fuel S0 a w := by
  have sh := relE_shape hB
  have hB' := hB
  simp only [relE, Bool.and_eq_true, Bool.or_eq_true, decide_eq_true_eq] at hB'
  obtain ⟨⟨⟨⟨⟨⟨⟨⟨hsel, hd⟩, hn⟩, hb⟩, ha⟩, hsc⟩, hcl⟩, hex⟩, hseq⟩ := hB'
  have hnl : n ≤ l.length := by simpa using hn
  have htl : (l.take n).length = n := by simp; omega
  have hw := wk_of_rel sh (l.take n) 0 a (fun j hj => by
    have hj' : j < n := by rw [htl] at hj; exact hj
    simp [hj']) (by simpa using htl) hN h
  rw [htl] at hw
  have := wpAny_of_wkE (Q := Q) (g := l.length - n) sh hmono hR hu S0 E (fun i hi => ?_) hsel hQ (fun S hI h0s hex t ht hr => ?_) (fun S a' w' hI hall hC' hg hF => ?_) _ S0 a w
    (closedB_head hcl) (fun _ h => h) rfl hN ⟨hC, fun j oj hj hs => h0 j oj (by simpa using hj) hs⟩ hw
  · rw [hf]; exact this
  · have h1 := List.all_eq_true.1 hex i (List.contains_iff_mem.1 hi)
    simp only [Bool.and_eq_true, decide_eq_true_eq] at h1
    obtain ⟨⟨h1, h2⟩, h3⟩ := h1
    have hil : i < l.toArray.size := by have : l.toArray.size = l.length := by simp
                                        omega
    have hio := Array.getElem?_eq_getElem hil
    rw [hio] at h2
    exact ⟨h1, _, hio, h2, fun S hS hw => free_mono hio h3 S hS hw⟩
  · obtain ⟨i, hi, hE, hun⟩ := hex
    rcases hsc with hsc | ⟨⟨hlt, hs⟩, hc⟩
    · have := (mem_ready.1 hr).2
      obtain ⟨o, ho, _⟩ := this
      have := (Array.getElem?_eq_some_iff.1 ho).1
      omega
    · exact tail_waitsE hs hc hlt hI h0s _ i rfl hi hE hun t ht hr
  · have hSeq := headList_eq hI.size hn hall hI.tail
    rw [show l.toArray.size = l.length from by simp] at hSeq
    rw [hSeq]
    have hdl : (l.drop n).length = l.length - n := by simp
    have := wpAny_of_seq (md := .any) (Q' := Q) (ops := l.toArray) (l.drop n) n (headList n l.length) a' w' (fun j => by simp [List.getElem?_drop]) (by rw [hdl]; simpa using hseq) (hF w' hC' fun j oj hj hjn => hg j oj (by simpa using hj) hjn)
    rwa [hdl] at this
end
section
variable {P : Program} {M : Nat → Prop} {row : Option Nat} {w0 w1 : World} {L : List Hp} {sp : SpW} {F : Act → Prop} {S0 : Array Bool}
theorem wpAny_holdE {Q : Exit → Act → World → Prop} {a : Act} {w : World} {l : List Oper} (E : List Nat) (n N : Nat) (L : List Hp) (sp : SpW) {fuel : Nat}
    (hB : relE l.toArray S0 E n N = true) (hQ : ∀ c d v a w, Q (.panic c) (a.put d v) w → Q (.panic c) a w) (hO : offW l.toArray S0 sp = true) (hf : fuel = unl n S0 + (l.length - n)) (hN : a.tmps.size = N) (hs : Stays (Mut M L) sp) (hC : Hold M row w0 w L)
    (h : wpRel P l.toArray (HC M row w0 w L) (GW sp) (RM (Mut M L)) S0 (fun a' => ∀ w', Hold M row w0 w' L → RM (Mut M L) w w' → (∀ j oj, l[j]? = some oj → j < n → GW sp oj.dst (slot a' oj.dst) w') → wpList P l.toArray Q (l.drop n) a' w') 0 (l.take n) a) : wpAny P .any l.toArray Q fuel S0 a w := by
  refine wpAny_relE S0 E n N (HC M row w0 w L) (GW sp) (RM (Mut M L)) hB hQ hf hN (fun d u w w' hr hg => ?_) (fun w _ => RM.refl _ w) (fun _ _ => trivial) ⟨hC, RM.refl _ _⟩ (fun j oj hj hs => offW_h hO (by simpa using hj) hs) (wpRel_mono (fun a' hF w' hC' hg => hF w' hC'.1 hC'.2 hg) _ _ _ h)
  unfold GW at hg ⊢
  cases hd : d.bind sp with
  | none => trivial
  | some V =>
    rw [hd] at hg
    obtain ⟨t, rfl, ht⟩ := Option.bind_eq_some_iff.1 hd
    exact hs t V ht u w w' hr hg
end
end Go.Proofs.YtedogodccblfeaaGreatDoor

namespace Go.Proofs.YtedogodccblfeaaGreatDoor
open Go.RowKit
set_option linter.unusedVariables false
set_option linter.unusedSimpArgs false

/-- is the table at a place valid, and its name behind the one before? -/
def stoOk (l : List Tb) (k : Nat) : Bool := match l[k]? with
  | none => true
  | some t => tabB t.nm t.cs t.nx t.rs && (k == 0 || match l[k - 1]? with | some p => Op.bytesLess p.nm.toList t.nm.toList | none => false)
def storB (l : List Tb) : Bool := decide (l.length ≤ 6) && (List.range l.length).all (stoOk l)
theorem storB_big {l : List Tb} (h : 6 < l.length) : storB l = false := by
  unfold storB; rw [decide_eq_false (by omega)]; rfl
theorem storB_bad {l : List Tb} {k : Nat} (hk : k < l.length) (h : stoOk l k = false) : storB l = false := by
  unfold storB
  rw [List.all_eq_false.2 ⟨k, List.mem_range.2 hk, by rw [h]; simp⟩, Bool.and_false]
theorem storB_end {l : List Tb} {n : Nat} (hn : l.length = n) (h6 : n ≤ 6) (h : (List.range n).all (stoOk l) = true) : storB l = true := by
  unfold storB
  rw [hn, h, decide_eq_true h6]; rfl
theorem range_next {p : Nat → Bool} {k : Nat} (h : (List.range k).all p = true) (hk : p k = true) : (List.range (k + 1)).all p = true := by
  rw [List.range_succ, List.all_append, h]; simp [hk]
theorem stoOk_tab {l : List Tb} {k : Nat} {t : Tb} (h : l[k]? = some t) (hb : tabB t.nm t.cs t.nx t.rs = false) : stoOk l k = false := by unfold stoOk; rw [h]; simp [hb]
theorem stoOk_zero {l : List Tb} {t : Tb} (h : l[0]? = some t) (hb : tabB t.nm t.cs t.nx t.rs = true) : stoOk l 0 = true := by unfold stoOk; rw [h]; simp [hb]
theorem stoOk_next {l : List Tb} {j : Nat} {t p : Tb} (h : l[j + 1]? = some t) (hp : l[j]? = some p) (hb : tabB t.nm t.cs t.nx t.rs = true) : stoOk l (j + 1) = Op.bytesLess p.nm.toList t.nm.toList := by
  unfold stoOk
  rw [h, show j + 1 - 1 = j from rfl, hp]
  simp [hb]
theorem te_at {l : List Te} {k : Nat} {x : Te} (h : l[k]? = some x) : (l.map Te.tb)[k]? = some x.tb := by rw [List.getElem?_map, h]; rfl
set_option maxHeartbeats 8000000 in
set_option maxRecDepth 100000 in
theorem stvalid_any (M : Nat → Prop) (w : World) (hM : ∀ b, M b → b < w.heap.size) (A : Option Addr) (n c : Nat) (l : List Te) (hL : Ro w M (TesIn A n l)) (hok : ∀ x ∈ l, x.ok ∧ TbM x.tb) (hn : n ≤ 4611686018427387904) :
    Calls Tryz.prog 33 #[.slice A n c] w fun e w' => e = .returned (.bool (storB (l.map Te.tb))) ∧ Below w.heap.size w w' := by
  have HL := hid hL.now.len
  have HOK := hid hok
  have K0 := (Hold.start M w hM).add (hL.less (by simp [Mut]))
  clear hok hL
  go_enter Tryz.func33, Tryz.ntmps33
  by_cases h6 : 6 < n
  · have hb : decide ((n : Int) > 6) = true := by simp; omega
    have hb' : decide (6 < n) = true := by simp; omega
    have HN := hid (storB_big (l := l.map Te.tb) (by rw [List.length_map, HL.out]; exact h6))
    clear h6
    go_wp2_with fail
    go_ret
    exact ⟨by rw [HN.out] <;> rfl, K0.below⟩
  have hb : decide ((n : Int) > 6) = false := by simp; omega
  have hb' : decide (6 < n) = false := by simp; omega
  go_wp2_with fail
  clear hb hb'
  go_loopw [10] (fun iv wr => ∃ (k : Nat), k ≤ n ∧ iv = .int .i64 k ∧ Hid ((List.range k).all (stoOk (l.map Te.tb)) = true) ∧ Hold M none w wr [.ro (TesIn A n l)]) (fun iv _ => n - (intOf iv).toNat)
  case atStart => exact ⟨0, by omega, rfl, hid rfl, K0⟩
  case round =>
    clear K0
    obtain ⟨k, hk, rfl, HR, H⟩ := hrel
    by_cases hlt : k < n
    · have hdd : decide ((k : Int) < (n : Int)) = true := by simp; omega
      have i0 : (0 : Int) ≤ (k : Int) := by omega
      have i1 : (k : Int) < (n : Int) := by omega
      obtain ⟨x, hx⟩ := get_of HL.out hlt
      have HXT := hid (te_at hx)
      have HXO := hid (HOK.out x (List.mem_of_getElem? hx)).1
      have HXM := hid (HOK.out x (List.mem_of_getElem? hx)).2
      have hxr : Ro wr _ (TeIn x) := (H.ro 0 rfl).imp fun w2 h2 => h2.2 x (List.mem_of_getElem? hx)
      have HXB := hid (show x.n ≤ 9223372036854775807 ∧ x.m ≤ 4611686018427387904 from ⟨Nat.le_trans HXO.out.nc HXO.out.c, by
        have h1 := HXM.out.rs
        have h2 : x.l.length = x.m := hxr.now.2.len
        have h3 : x.tb.rs.length = x.l.length := List.length_map ..
        omega⟩)
      obtain ⟨g, o, rfl, hgb, c0, c1, c2, c3, -⟩ := (H.ro 0 rfl).now.at_ hx
      have HIX := hid hx
      clear hx
      obtain ⟨VB, hVB⟩ : ∃ VB, tabB x.nm x.cs x.nx (x.l.map Rw.row) = VB := ⟨_, rfl⟩
      have HVB := hid hVB
      clear hVB
      have K2 := H.alloc_cst #[.string x.nm, .slice x.A x.n x.c, .int .i64 x.nx, .slice x.B x.m x.d] 58
      clear H hxr
      have FA := K2.facts
      simp only [World.size_alloc, World.size_drew, factsL, cellsF, Nat.reduceAdd, List.toList_toArray, List.set_cons_zero, List.set_cons_succ, List.setIfInBounds_toArray, and_true, true_and] at FA
      go_wp2_with fail
      obtain ⟨gx, hgx⟩ : ∃ gx, gx = wr.heap.size := ⟨_, rfl⟩
      rw [← hgx] at K2 FA ⊢
      have HGX := hid hgx
      clear hgx c0 c1 c2 c3 hgb FA
      generalize World.alloc wr _ = w2 at K2 ⊢
      obtain ⟨KL, hKL, KN⟩ := K2.name
      have HF : Hid (∀ wv, Hold M none w wv KL → wv.cell? ⟨gx, 0, none⟩ = some (.string x.nm) ∧ wv.cell? ⟨gx, 1, none⟩ = some (.slice x.A x.n x.c) ∧ wv.cell? ⟨gx, 2, none⟩ = some (.int .i64 x.nx) ∧ wv.cell? ⟨gx, 3, none⟩ = some (.slice x.B x.m x.d) ∧ gx < wv.heap.size) := hid fun wv HC => by
        rw [hKL] at HC
        have y0 := HC.cst_ 0 rfl
        exact ⟨cell_of_row _ _ 0 _ _ _ y0, cell_of_row _ _ 1 _ _ _ y0, cell_of_row _ _ 2 _ _ _ y0, cell_of_row _ _ 3 _ _ _ y0, Blk.lt y0⟩
      have HX : Hid (∀ wv, Hold M none w wv KL → Ro wv (Mut M KL) (TeIn x)) := hid fun wv HC => by
        rw [hKL] at HC ⊢
        exact (HC.ro 1 rfl).imp fun w2 h2 => h2.2 x (List.mem_of_getElem? HIX.out)
      have HKL := hid hKL
      have HKN := KN
      obtain rfl | rfl : VB = false ∨ VB = true := by cases VB <;> simp
      · skip
        have HN := hid (storB_bad (by rw [List.length_map, HL.out]; exact hlt) (stoOk_tab HXT.out HVB.out))
        clear hKL K2
        refine wp_region_any (by kernel_rfl) ?_
        refine wpAny_hold 20 36 (KL) (spL [(16, IsV (.bool false))]) (by kernel_rfl) (by kernel_rfl) (by kernel_rfl) rfl ?_ (KN.drew) ?_
        · exact stays_cons isV_mono (stays_nil _)
        simp only [List.take_succ_cons, List.take_zero, List.drop_succ_cons, List.drop_zero, Act.put, List.getElem_toArray, List.getElem_cons_zero, List.getElem_cons_succ, List.setIfInBounds_toArray, List.set_cons_succ, List.set_cons_zero]
        refine dw_val rfl rfl rfl ?_; apply Exists.intro; refine ⟨fun wv HC => ?_, ?_⟩
        · obtain ⟨f0, f1, f2, f3, f4⟩ := HF.out _ HC; go_simp <;> rfl
        simp only [Act.put, List.setIfInBounds_toArray, List.set_cons_succ, List.set_cons_zero]
        refine dw_callR 16 (IsV (.bool false)) (f := 87) (args := #[.agg #[.string x.nm, .slice x.A x.n x.c, .int .i64 x.nx, .slice x.B x.m x.d]]) rfl rfl rfl rfl (fun wv => ?_) (fun wv HC hrm hD => ?_) ?_
        · go_simp <;> rfl
        · refine (tvalid_any _ wv HC.mutLt x.nm x.A x.n x.c x.cs x.nx x.B x.m x.d x.l ((HX.out _ HC).imp fun w h => h.1) ((HX.out _ HC).imp fun w h => h.2) HXB.out.1 HXB.out.2 HXO.out.l HXM.out.nm HXM.out.cs).mono ?_
          rintro e w5 ⟨rfl, b5⟩
          exact ⟨_, rfl, by rw [HVB.out]; rfl, HC.call b5, RM.below b5⟩
        rintro u_ wx HCx rfl
        clear HCx
        simp only [Act.put, List.setIfInBounds_toArray, List.set_cons_succ, List.set_cons_zero]
        refine dw_val rfl rfl rfl ?_; apply Exists.intro; refine ⟨fun wv HC => ?_, ?_⟩
        ·  go_simp <;> rfl
        simp only [Act.put, List.setIfInBounds_toArray, List.set_cons_succ, List.set_cons_zero]
        refine dw_val rfl rfl rfl ?_; apply Exists.intro; refine ⟨fun wv HC => ?_, ?_⟩
        ·  go_simp <;> rfl
        simp only [Act.put, List.setIfInBounds_toArray, List.set_cons_succ, List.set_cons_zero]
        refine dw_skip rfl rfl rfl ?_
        simp only [Act.put, List.setIfInBounds_toArray, List.set_cons_succ, List.set_cons_zero]
        refine dw_skip rfl rfl rfl ?_
        simp only [Act.put, List.setIfInBounds_toArray, List.set_cons_succ, List.set_cons_zero]
        refine dw_skip rfl rfl rfl ?_
        simp only [Act.put, List.setIfInBounds_toArray, List.set_cons_succ, List.set_cons_zero]
        refine dw_skip rfl rfl rfl ?_
        simp only [Act.put, List.setIfInBounds_toArray, List.set_cons_succ, List.set_cons_zero]
        refine dw_skip rfl rfl rfl ?_
        simp only [Act.put, List.setIfInBounds_toArray, List.set_cons_succ, List.set_cons_zero]
        refine dw_skip rfl rfl rfl ?_
        simp only [Act.put, List.setIfInBounds_toArray, List.set_cons_succ, List.set_cons_zero]
        refine dw_skip rfl rfl rfl ?_
        simp only [Act.put, List.setIfInBounds_toArray, List.set_cons_succ, List.set_cons_zero]
        refine dw_skip rfl rfl rfl ?_
        simp only [Act.put, List.setIfInBounds_toArray, List.set_cons_succ, List.set_cons_zero]
        refine dw_skip rfl rfl rfl ?_
        simp only [Act.put, List.setIfInBounds_toArray, List.set_cons_succ, List.set_cons_zero]
        refine dw_skip rfl rfl rfl ?_
        simp only [Act.put, List.setIfInBounds_toArray, List.set_cons_succ, List.set_cons_zero]
        refine dw_skip rfl rfl rfl ?_
        simp only [Act.put, List.setIfInBounds_toArray, List.set_cons_succ, List.set_cons_zero]
        refine dw_skip rfl rfl rfl ?_
        simp only [Act.put, List.setIfInBounds_toArray, List.set_cons_succ, List.set_cons_zero]
        refine dw_skip rfl rfl rfl ?_
        simp only [Act.put, List.setIfInBounds_toArray, List.set_cons_succ, List.set_cons_zero]
        refine dw_skip rfl rfl rfl ?_
        simp only [Act.put, List.setIfInBounds_toArray, List.set_cons_succ, List.set_cons_zero]
        refine dw_skip rfl rfl rfl ?_
        simp only [Act.put, List.setIfInBounds_toArray, List.set_cons_succ, List.set_cons_zero]
        refine dw_val rfl rfl rfl ?_; apply Exists.intro; refine ⟨fun wv HC => ?_, ?_⟩
        ·  go_simp <;> rfl
        simp only [Act.put, List.setIfInBounds_toArray, List.set_cons_succ, List.set_cons_zero]
        refine rel_nil ?_
        rintro wx9 HX9
        rintro _hrm _HG
        clear _hrm _HG
        rw [HKL.out] at HX9
        go_wp2_with fail
        go_ret
        exact ⟨by rw [HN.out] <;> rfl, HX9.below⟩
      · skip
        have HVT := hid HVB.out
        cases k with
        | zero =>
          have hz : decide (((0 : Nat) : Int) > 0) = false := by decide
          (try simp only [Nat.zero_mul, Nat.add_zero] at HF)
          have HN := hid (range_next HR.out (stoOk_zero HXT.out HVT.out))
          clear hKL K2
          refine wp_region_any (by kernel_rfl) ?_
          refine wpAny_hold 20 36 (KL) (spL [(16, IsV (.bool true))]) (by kernel_rfl) (by kernel_rfl) (by kernel_rfl) rfl ?_ (KN.drew) ?_
          · exact stays_cons isV_mono (stays_nil _)
          simp only [List.take_succ_cons, List.take_zero, List.drop_succ_cons, List.drop_zero, Act.put, List.getElem_toArray, List.getElem_cons_zero, List.getElem_cons_succ, List.setIfInBounds_toArray, List.set_cons_succ, List.set_cons_zero]
          refine dw_val rfl rfl rfl ?_; apply Exists.intro; refine ⟨fun wv HC => ?_, ?_⟩
          · obtain ⟨f0, f1, f2, f3, f4⟩ := HF.out _ HC; go_simp <;> rfl
          simp only [Act.put, List.setIfInBounds_toArray, List.set_cons_succ, List.set_cons_zero]
          refine dw_callR 16 (IsV (.bool true)) (f := 87) (args := #[.agg #[.string x.nm, .slice x.A x.n x.c, .int .i64 x.nx, .slice x.B x.m x.d]]) rfl rfl rfl rfl (fun wv => ?_) (fun wv HC hrm hD => ?_) ?_
          · go_simp <;> rfl
          · refine (tvalid_any _ wv HC.mutLt x.nm x.A x.n x.c x.cs x.nx x.B x.m x.d x.l ((HX.out _ HC).imp fun w h => h.1) ((HX.out _ HC).imp fun w h => h.2) HXB.out.1 HXB.out.2 HXO.out.l HXM.out.nm HXM.out.cs).mono ?_
            rintro e w5 ⟨rfl, b5⟩
            exact ⟨_, rfl, by rw [HVB.out]; rfl, HC.call b5, RM.below b5⟩
          rintro u_ wx HCx rfl
          clear HCx
          simp only [Act.put, List.setIfInBounds_toArray, List.set_cons_succ, List.set_cons_zero]
          refine dw_val rfl rfl rfl ?_; apply Exists.intro; refine ⟨fun wv HC => ?_, ?_⟩
          ·  go_simp <;> rfl
          simp only [Act.put, List.setIfInBounds_toArray, List.set_cons_succ, List.set_cons_zero]
          refine dw_val rfl rfl rfl ?_; apply Exists.intro; refine ⟨fun wv HC => ?_, ?_⟩
          ·  go_simp <;> rfl
          simp only [Act.put, List.setIfInBounds_toArray, List.set_cons_succ, List.set_cons_zero]
          refine dw_val rfl rfl rfl ?_; apply Exists.intro; refine ⟨fun wv HC => ?_, ?_⟩
          ·  go_simp <;> rfl
          simp only [Act.put, List.setIfInBounds_toArray, List.set_cons_succ, List.set_cons_zero]
          refine dw_val rfl rfl rfl ?_; apply Exists.intro; refine ⟨fun wv HC => ?_, ?_⟩
          ·  go_simp <;> rfl
          simp only [Act.put, List.setIfInBounds_toArray, List.set_cons_succ, List.set_cons_zero]
          refine dw_val rfl rfl rfl ?_; apply Exists.intro; refine ⟨fun wv HC => ?_, ?_⟩
          ·  go_simp <;> rfl
          simp only [Act.put, List.setIfInBounds_toArray, List.set_cons_succ, List.set_cons_zero]
          refine dw_skip rfl rfl rfl ?_
          simp only [Act.put, List.setIfInBounds_toArray, List.set_cons_succ, List.set_cons_zero]
          refine dw_skip rfl rfl rfl ?_
          simp only [Act.put, List.setIfInBounds_toArray, List.set_cons_succ, List.set_cons_zero]
          refine dw_skip rfl rfl rfl ?_
          simp only [Act.put, List.setIfInBounds_toArray, List.set_cons_succ, List.set_cons_zero]
          refine dw_skip rfl rfl rfl ?_
          simp only [Act.put, List.setIfInBounds_toArray, List.set_cons_succ, List.set_cons_zero]
          refine dw_skip rfl rfl rfl ?_
          simp only [Act.put, List.setIfInBounds_toArray, List.set_cons_succ, List.set_cons_zero]
          refine dw_skip rfl rfl rfl ?_
          simp only [Act.put, List.setIfInBounds_toArray, List.set_cons_succ, List.set_cons_zero]
          refine dw_skip rfl rfl rfl ?_
          simp only [Act.put, List.setIfInBounds_toArray, List.set_cons_succ, List.set_cons_zero]
          refine dw_skip rfl rfl rfl ?_
          simp only [Act.put, List.setIfInBounds_toArray, List.set_cons_succ, List.set_cons_zero]
          refine dw_skip rfl rfl rfl ?_
          simp only [Act.put, List.setIfInBounds_toArray, List.set_cons_succ, List.set_cons_zero]
          refine dw_skip rfl rfl rfl ?_
          simp only [Act.put, List.setIfInBounds_toArray, List.set_cons_succ, List.set_cons_zero]
          refine dw_skip rfl rfl rfl ?_
          simp only [Act.put, List.setIfInBounds_toArray, List.set_cons_succ, List.set_cons_zero]
          refine dw_val rfl rfl rfl ?_; apply Exists.intro; refine ⟨fun wv HC => ?_, ?_⟩
          ·  go_simp <;> rfl
          simp only [Act.put, List.setIfInBounds_toArray, List.set_cons_succ, List.set_cons_zero]
          refine dw_val rfl rfl rfl ?_; apply Exists.intro; refine ⟨fun wv HC => ?_, ?_⟩
          ·  go_simp <;> rfl
          simp only [Act.put, List.setIfInBounds_toArray, List.set_cons_succ, List.set_cons_zero]
          refine rel_nil ?_
          rintro wx9 HX9
          rintro _hrm _HG
          clear _hrm _HG
          rw [HKL.out] at HX9
          go_wp2_with fail
          go_roundw
          case rel => exact ⟨0 + 1, by omega, by go_num, HN, HX9.drop (List.sublist_cons_self _ _)⟩
          case measure => simp [intOf]; omega
        | succ j =>
          have hz : decide (((j + 1 : Nat) : Int) > 0) = true := by simp <;> omega
          have hz2 : decide ((j : Int) + 1 > 0) = true := by simp <;> omega
          have s1 : IntKind.i64.wrap (((j + 1 : Nat) : Int) - 1) = (j : Int) := by rw [IntKind.wrap_i64]; omega
          have s2 : IntKind.i64.wrap ((j : Int) + 1 - 1) = (j : Int) := by rw [IntKind.wrap_i64]; omega
          have s3 : IntKind.i64.wrap (j : Int) = (j : Int) := by rw [IntKind.wrap_i64]; omega
          have j2 : (0 : Int) ≤ (j : Int) := by omega
          have j3 : (j : Int) < (n : Int) := by omega
          have i2 : (0 : Int) ≤ (j : Int) + 1 := by omega
          have i3 : (j : Int) + 1 < (n : Int) := by omega
          obtain ⟨y, hy⟩ := get_of HL.out (show j < n by omega)
          have HYT := hid (te_at hy)
          have HIY := hid hy
          clear hy
          have HP : Hid (∀ wv, Hold M none w wv KL → wv.cell? ⟨g, o + j * 4, none⟩ = some (.string y.nm) ∧ g < wv.heap.size) := hid fun wv HC => by
            rw [hKL] at HC
            obtain ⟨g', o', e', hl, e0, -⟩ := (HC.ro 1 rfl).now.at_ HIY.out
            obtain ⟨rfl, rfl⟩ : g = g' ∧ o = o' := by injection e' with e'; injection e' with a1 a2; exact ⟨a1, a2⟩
            exact ⟨e0, hl⟩
          clear hKL K2
          cases hlt3 : Op.bytesLess y.nm.toList x.nm.toList with
          | true =>
            have HN := hid (range_next HR.out ((stoOk_next HXT.out HYT.out HVT.out).trans hlt3))
            refine wp_region_any (by kernel_rfl) ?_
            refine wpAny_hold 20 36 (KL) (spL [(16, IsV (.bool true))]) (by kernel_rfl) (by kernel_rfl) (by kernel_rfl) rfl ?_ (KN.drew) ?_
            · exact stays_cons isV_mono (stays_nil _)
            simp only [List.take_succ_cons, List.take_zero, List.drop_succ_cons, List.drop_zero, Act.put, List.getElem_toArray, List.getElem_cons_zero, List.getElem_cons_succ, List.setIfInBounds_toArray, List.set_cons_succ, List.set_cons_zero]
            refine dw_val rfl rfl rfl ?_; apply Exists.intro; refine ⟨fun wv HC => ?_, ?_⟩
            · obtain ⟨f0, f1, f2, f3, f4⟩ := HF.out _ HC; go_simp <;> rfl
            simp only [Act.put, List.setIfInBounds_toArray, List.set_cons_succ, List.set_cons_zero]
            refine dw_callR 16 (IsV (.bool true)) (f := 87) (args := #[.agg #[.string x.nm, .slice x.A x.n x.c, .int .i64 x.nx, .slice x.B x.m x.d]]) rfl rfl rfl rfl (fun wv => ?_) (fun wv HC hrm hD => ?_) ?_
            · go_simp <;> rfl
            · refine (tvalid_any _ wv HC.mutLt x.nm x.A x.n x.c x.cs x.nx x.B x.m x.d x.l ((HX.out _ HC).imp fun w h => h.1) ((HX.out _ HC).imp fun w h => h.2) HXB.out.1 HXB.out.2 HXO.out.l HXM.out.nm HXM.out.cs).mono ?_
              rintro e w5 ⟨rfl, b5⟩
              exact ⟨_, rfl, by rw [HVB.out]; rfl, HC.call b5, RM.below b5⟩
            rintro u_ wx HCx rfl
            clear HCx
            simp only [Act.put, List.setIfInBounds_toArray, List.set_cons_succ, List.set_cons_zero]
            refine dw_val rfl rfl rfl ?_; apply Exists.intro; refine ⟨fun wv HC => ?_, ?_⟩
            ·  go_simp <;> rfl
            simp only [Act.put, List.setIfInBounds_toArray, List.set_cons_succ, List.set_cons_zero]
            refine dw_val rfl rfl rfl ?_; apply Exists.intro; refine ⟨fun wv HC => ?_, ?_⟩
            ·  go_simp <;> rfl
            simp only [Act.put, List.setIfInBounds_toArray, List.set_cons_succ, List.set_cons_zero]
            refine dw_val rfl rfl rfl ?_; apply Exists.intro; refine ⟨fun wv HC => ?_, ?_⟩
            ·  go_simp <;> rfl
            simp only [Act.put, List.setIfInBounds_toArray, List.set_cons_succ, List.set_cons_zero]
            refine dw_val rfl rfl rfl ?_; apply Exists.intro; refine ⟨fun wv HC => ?_, ?_⟩
            ·  go_simp <;> rfl
            simp only [Act.put, List.setIfInBounds_toArray, List.set_cons_succ, List.set_cons_zero]
            refine dw_val rfl rfl rfl ?_; apply Exists.intro; refine ⟨fun wv HC => ?_, ?_⟩
            ·  go_simp <;> rfl
            simp only [Act.put, List.setIfInBounds_toArray, List.set_cons_succ, List.set_cons_zero]
            refine dw_val rfl rfl rfl ?_; apply Exists.intro; refine ⟨fun wv HC => ?_, ?_⟩
            · obtain ⟨f0, f1, f2, f3, f4⟩ := HF.out _ HC; obtain ⟨p0, p1⟩ := HP.out _ HC; go_simp <;> rfl
            simp only [Act.put, List.setIfInBounds_toArray, List.set_cons_succ, List.set_cons_zero]
            refine dw_val rfl rfl rfl ?_; apply Exists.intro; refine ⟨fun wv HC => ?_, ?_⟩
            · obtain ⟨f0, f1, f2, f3, f4⟩ := HF.out _ HC; obtain ⟨p0, p1⟩ := HP.out _ HC; go_simp <;> rfl
            simp only [Act.put, List.setIfInBounds_toArray, List.set_cons_succ, List.set_cons_zero]
            refine dw_val rfl rfl rfl ?_; apply Exists.intro; refine ⟨fun wv HC => ?_, ?_⟩
            · obtain ⟨f0, f1, f2, f3, f4⟩ := HF.out _ HC; obtain ⟨p0, p1⟩ := HP.out _ HC; go_simp <;> rfl
            simp only [Act.put, List.setIfInBounds_toArray, List.set_cons_succ, List.set_cons_zero]
            refine dw_val rfl rfl rfl ?_; apply Exists.intro; refine ⟨fun wv HC => ?_, ?_⟩
            · obtain ⟨f0, f1, f2, f3, f4⟩ := HF.out _ HC; obtain ⟨p0, p1⟩ := HP.out _ HC; go_simp <;> rfl
            simp only [Act.put, List.setIfInBounds_toArray, List.set_cons_succ, List.set_cons_zero]
            refine dw_val rfl rfl rfl ?_; apply Exists.intro; refine ⟨fun wv HC => ?_, ?_⟩
            · obtain ⟨f0, f1, f2, f3, f4⟩ := HF.out _ HC; obtain ⟨p0, p1⟩ := HP.out _ HC; go_simp <;> rfl
            simp only [Act.put, List.setIfInBounds_toArray, List.set_cons_succ, List.set_cons_zero]
            refine dw_val rfl rfl rfl ?_; apply Exists.intro; refine ⟨fun wv HC => ?_, ?_⟩
            · obtain ⟨f0, f1, f2, f3, f4⟩ := HF.out _ HC; obtain ⟨p0, p1⟩ := HP.out _ HC; go_simp <;> rfl
            simp only [Act.put, List.setIfInBounds_toArray, List.set_cons_succ, List.set_cons_zero]
            refine dw_val rfl rfl rfl ?_; apply Exists.intro; refine ⟨fun wv HC => ?_, ?_⟩
            · obtain ⟨f0, f1, f2, f3, f4⟩ := HF.out _ HC; obtain ⟨p0, p1⟩ := HP.out _ HC; go_simp <;> rfl
            simp only [Act.put, List.setIfInBounds_toArray, List.set_cons_succ, List.set_cons_zero]
            refine dw_val rfl rfl rfl ?_; apply Exists.intro; refine ⟨fun wv HC => ?_, ?_⟩
            · obtain ⟨f0, f1, f2, f3, f4⟩ := HF.out _ HC; obtain ⟨p0, p1⟩ := HP.out _ HC; go_simp <;> rfl
            simp only [Act.put, List.setIfInBounds_toArray, List.set_cons_succ, List.set_cons_zero]
            refine dw_val rfl rfl rfl ?_; apply Exists.intro; refine ⟨fun wv HC => ?_, ?_⟩
            · obtain ⟨f0, f1, f2, f3, f4⟩ := HF.out _ HC; obtain ⟨p0, p1⟩ := HP.out _ HC; go_simp <;> rfl
            simp only [Act.put, List.setIfInBounds_toArray, List.set_cons_succ, List.set_cons_zero]
            refine dw_val rfl rfl rfl ?_; apply Exists.intro; refine ⟨fun wv HC => ?_, ?_⟩
            · obtain ⟨f0, f1, f2, f3, f4⟩ := HF.out _ HC; obtain ⟨p0, p1⟩ := HP.out _ HC; go_simp <;> rfl
            simp only [Act.put, List.setIfInBounds_toArray, List.set_cons_succ, List.set_cons_zero]
            refine dw_val rfl rfl rfl ?_; apply Exists.intro; refine ⟨fun wv HC => ?_, ?_⟩
            · obtain ⟨f0, f1, f2, f3, f4⟩ := HF.out _ HC; obtain ⟨p0, p1⟩ := HP.out _ HC; go_simp <;> rfl
            simp only [Act.put, List.setIfInBounds_toArray, List.set_cons_succ, List.set_cons_zero]
            refine dw_val rfl rfl rfl ?_; apply Exists.intro; refine ⟨fun wv HC => ?_, ?_⟩
            ·  go_simp <;> rfl
            simp only [Act.put, List.setIfInBounds_toArray, List.set_cons_succ, List.set_cons_zero]
            refine dw_val rfl rfl rfl ?_; apply Exists.intro; refine ⟨fun wv HC => ?_, ?_⟩
            ·  go_simp <;> rfl
            simp only [Act.put, List.setIfInBounds_toArray, List.set_cons_succ, List.set_cons_zero]
            refine rel_nil ?_
            rintro wx9 HX9
            rintro _hrm _HG
            clear _hrm _HG
            rw [HKL.out] at HX9
            go_wp2_with fail
            go_roundw
            case rel => exact ⟨(j + 1) + 1, by omega, by go_num, HN, HX9.drop (List.sublist_cons_self _ _)⟩
            case measure => simp [intOf]; omega
          | false =>
            have HN := hid (storB_bad (by rw [List.length_map, HL.out]; exact hlt) ((stoOk_next HXT.out HYT.out HVT.out).trans hlt3))
            refine wp_region_any (by kernel_rfl) ?_
            refine wpAny_hold 20 36 (KL) (spL [(16, IsV (.bool true))]) (by kernel_rfl) (by kernel_rfl) (by kernel_rfl) rfl ?_ (KN.drew) ?_
            · exact stays_cons isV_mono (stays_nil _)
            simp only [List.take_succ_cons, List.take_zero, List.drop_succ_cons, List.drop_zero, Act.put, List.getElem_toArray, List.getElem_cons_zero, List.getElem_cons_succ, List.setIfInBounds_toArray, List.set_cons_succ, List.set_cons_zero]
            refine dw_val rfl rfl rfl ?_; apply Exists.intro; refine ⟨fun wv HC => ?_, ?_⟩
            · obtain ⟨f0, f1, f2, f3, f4⟩ := HF.out _ HC; go_simp <;> rfl
            simp only [Act.put, List.setIfInBounds_toArray, List.set_cons_succ, List.set_cons_zero]
            refine dw_callR 16 (IsV (.bool true)) (f := 87) (args := #[.agg #[.string x.nm, .slice x.A x.n x.c, .int .i64 x.nx, .slice x.B x.m x.d]]) rfl rfl rfl rfl (fun wv => ?_) (fun wv HC hrm hD => ?_) ?_
            · go_simp <;> rfl
            · refine (tvalid_any _ wv HC.mutLt x.nm x.A x.n x.c x.cs x.nx x.B x.m x.d x.l ((HX.out _ HC).imp fun w h => h.1) ((HX.out _ HC).imp fun w h => h.2) HXB.out.1 HXB.out.2 HXO.out.l HXM.out.nm HXM.out.cs).mono ?_
              rintro e w5 ⟨rfl, b5⟩
              exact ⟨_, rfl, by rw [HVB.out]; rfl, HC.call b5, RM.below b5⟩
            rintro u_ wx HCx rfl
            clear HCx
            simp only [Act.put, List.setIfInBounds_toArray, List.set_cons_succ, List.set_cons_zero]
            refine dw_val rfl rfl rfl ?_; apply Exists.intro; refine ⟨fun wv HC => ?_, ?_⟩
            ·  go_simp <;> rfl
            simp only [Act.put, List.setIfInBounds_toArray, List.set_cons_succ, List.set_cons_zero]
            refine dw_val rfl rfl rfl ?_; apply Exists.intro; refine ⟨fun wv HC => ?_, ?_⟩
            ·  go_simp <;> rfl
            simp only [Act.put, List.setIfInBounds_toArray, List.set_cons_succ, List.set_cons_zero]
            refine dw_val rfl rfl rfl ?_; apply Exists.intro; refine ⟨fun wv HC => ?_, ?_⟩
            ·  go_simp <;> rfl
            simp only [Act.put, List.setIfInBounds_toArray, List.set_cons_succ, List.set_cons_zero]
            refine dw_val rfl rfl rfl ?_; apply Exists.intro; refine ⟨fun wv HC => ?_, ?_⟩
            ·  go_simp <;> rfl
            simp only [Act.put, List.setIfInBounds_toArray, List.set_cons_succ, List.set_cons_zero]
            refine dw_val rfl rfl rfl ?_; apply Exists.intro; refine ⟨fun wv HC => ?_, ?_⟩
            ·  go_simp <;> rfl
            simp only [Act.put, List.setIfInBounds_toArray, List.set_cons_succ, List.set_cons_zero]
            refine dw_val rfl rfl rfl ?_; apply Exists.intro; refine ⟨fun wv HC => ?_, ?_⟩
            · obtain ⟨f0, f1, f2, f3, f4⟩ := HF.out _ HC; obtain ⟨p0, p1⟩ := HP.out _ HC; go_simp <;> rfl
            simp only [Act.put, List.setIfInBounds_toArray, List.set_cons_succ, List.set_cons_zero]
            refine dw_val rfl rfl rfl ?_; apply Exists.intro; refine ⟨fun wv HC => ?_, ?_⟩
            · obtain ⟨f0, f1, f2, f3, f4⟩ := HF.out _ HC; obtain ⟨p0, p1⟩ := HP.out _ HC; go_simp <;> rfl
            simp only [Act.put, List.setIfInBounds_toArray, List.set_cons_succ, List.set_cons_zero]
            refine dw_val rfl rfl rfl ?_; apply Exists.intro; refine ⟨fun wv HC => ?_, ?_⟩
            · obtain ⟨f0, f1, f2, f3, f4⟩ := HF.out _ HC; obtain ⟨p0, p1⟩ := HP.out _ HC; go_simp <;> rfl
            simp only [Act.put, List.setIfInBounds_toArray, List.set_cons_succ, List.set_cons_zero]
            refine dw_val rfl rfl rfl ?_; apply Exists.intro; refine ⟨fun wv HC => ?_, ?_⟩
            · obtain ⟨f0, f1, f2, f3, f4⟩ := HF.out _ HC; obtain ⟨p0, p1⟩ := HP.out _ HC; go_simp <;> rfl
            simp only [Act.put, List.setIfInBounds_toArray, List.set_cons_succ, List.set_cons_zero]
            refine dw_val rfl rfl rfl ?_; apply Exists.intro; refine ⟨fun wv HC => ?_, ?_⟩
            · obtain ⟨f0, f1, f2, f3, f4⟩ := HF.out _ HC; obtain ⟨p0, p1⟩ := HP.out _ HC; go_simp <;> rfl
            simp only [Act.put, List.setIfInBounds_toArray, List.set_cons_succ, List.set_cons_zero]
            refine dw_val rfl rfl rfl ?_; apply Exists.intro; refine ⟨fun wv HC => ?_, ?_⟩
            · obtain ⟨f0, f1, f2, f3, f4⟩ := HF.out _ HC; obtain ⟨p0, p1⟩ := HP.out _ HC; go_simp <;> rfl
            simp only [Act.put, List.setIfInBounds_toArray, List.set_cons_succ, List.set_cons_zero]
            refine dw_val rfl rfl rfl ?_; apply Exists.intro; refine ⟨fun wv HC => ?_, ?_⟩
            · obtain ⟨f0, f1, f2, f3, f4⟩ := HF.out _ HC; obtain ⟨p0, p1⟩ := HP.out _ HC; go_simp <;> rfl
            simp only [Act.put, List.setIfInBounds_toArray, List.set_cons_succ, List.set_cons_zero]
            refine dw_val rfl rfl rfl ?_; apply Exists.intro; refine ⟨fun wv HC => ?_, ?_⟩
            · obtain ⟨f0, f1, f2, f3, f4⟩ := HF.out _ HC; obtain ⟨p0, p1⟩ := HP.out _ HC; go_simp <;> rfl
            simp only [Act.put, List.setIfInBounds_toArray, List.set_cons_succ, List.set_cons_zero]
            refine dw_val rfl rfl rfl ?_; apply Exists.intro; refine ⟨fun wv HC => ?_, ?_⟩
            · obtain ⟨f0, f1, f2, f3, f4⟩ := HF.out _ HC; obtain ⟨p0, p1⟩ := HP.out _ HC; go_simp <;> rfl
            simp only [Act.put, List.setIfInBounds_toArray, List.set_cons_succ, List.set_cons_zero]
            refine dw_val rfl rfl rfl ?_; apply Exists.intro; refine ⟨fun wv HC => ?_, ?_⟩
            · obtain ⟨f0, f1, f2, f3, f4⟩ := HF.out _ HC; obtain ⟨p0, p1⟩ := HP.out _ HC; go_simp <;> rfl
            simp only [Act.put, List.setIfInBounds_toArray, List.set_cons_succ, List.set_cons_zero]
            refine dw_val rfl rfl rfl ?_; apply Exists.intro; refine ⟨fun wv HC => ?_, ?_⟩
            · obtain ⟨f0, f1, f2, f3, f4⟩ := HF.out _ HC; obtain ⟨p0, p1⟩ := HP.out _ HC; go_simp <;> rfl
            simp only [Act.put, List.setIfInBounds_toArray, List.set_cons_succ, List.set_cons_zero]
            refine dw_val rfl rfl rfl ?_; apply Exists.intro; refine ⟨fun wv HC => ?_, ?_⟩
            ·  go_simp <;> rfl
            simp only [Act.put, List.setIfInBounds_toArray, List.set_cons_succ, List.set_cons_zero]
            refine dw_val rfl rfl rfl ?_; apply Exists.intro; refine ⟨fun wv HC => ?_, ?_⟩
            ·  go_simp <;> rfl
            simp only [Act.put, List.setIfInBounds_toArray, List.set_cons_succ, List.set_cons_zero]
            refine rel_nil ?_
            rintro wx9 HX9
            rintro _hrm _HG
            clear _hrm _HG
            rw [HKL.out] at HX9
            go_wp2_with fail
            go_ret
            exact ⟨by rw [HN.out] <;> rfl, HX9.below⟩
    · obtain rfl : k = n := by omega
      have hdd : decide ((k : Int) < (k : Int)) = false := by simp
      have HN := hid (storB_end (by rw [List.length_map]; exact HL.out) (by omega) HR.out)
      go_wp2_with fail
      go_ret
      exact ⟨by rw [HN.out] <;> rfl, H.below⟩
set_option maxHeartbeats 8000000 in
set_option maxRecDepth 100000 in
theorem rstvalid_any (M : Nat → Prop) (w : World) (hM : ∀ b, M b → b < w.heap.size) (A : Option Addr) (n c : Nat) (l : List Te) (hL : Ro w M (TesIn A n l)) (hok : ∀ x ∈ l, x.ok ∧ TbM x.tb) (hn : n ≤ 4611686018427387904) :
    Calls Tryz.prog 34 #[.slice A n c] w fun e w' => e = .returned (.bool (storB (l.map Te.tb))) ∧ Below w.heap.size w w' := by
  have HL := hid hL.now.len
  have HOK := hid hok
  have K0 := (Hold.start M w hM).add (hL.less (by simp [Mut]))
  clear hok hL
  go_enter Tryz.func34, Tryz.ntmps34
  by_cases h6 : 6 < n
  · have hb : decide ((n : Int) > 6) = true := by simp; omega
    have hb' : decide (6 < n) = true := by simp; omega
    have HN := hid (storB_big (l := l.map Te.tb) (by rw [List.length_map, HL.out]; exact h6))
    clear h6
    go_wp2_with fail
    go_ret
    exact ⟨by rw [HN.out] <;> rfl, K0.below⟩
  have hb : decide ((n : Int) > 6) = false := by simp; omega
  have hb' : decide (6 < n) = false := by simp; omega
  go_wp2_with fail
  clear hb hb'
  go_loopw [9] (fun iv wr => ∃ (k : Nat), k ≤ n ∧ iv = .int .i64 k ∧ Hid ((List.range k).all (stoOk (l.map Te.tb)) = true) ∧ Hold M none w wr [.ro (TesIn A n l)]) (fun iv _ => n - (intOf iv).toNat)
  case atStart => exact ⟨0, by omega, rfl, hid rfl, K0⟩
  case round =>
    clear K0
    obtain ⟨k, hk, rfl, HR, H⟩ := hrel
    by_cases hlt : k < n
    · have hdd : decide ((k : Int) < (n : Int)) = true := by simp; omega
      have i0 : (0 : Int) ≤ (k : Int) := by omega
      have i1 : (k : Int) < (n : Int) := by omega
      obtain ⟨x, hx⟩ := get_of HL.out hlt
      have HXT := hid (te_at hx)
      have HXO := hid (HOK.out x (List.mem_of_getElem? hx)).1
      have HXM := hid (HOK.out x (List.mem_of_getElem? hx)).2
      have hxr : Ro wr _ (TeIn x) := (H.ro 0 rfl).imp fun w2 h2 => h2.2 x (List.mem_of_getElem? hx)
      have HXB := hid (show x.n ≤ 9223372036854775807 ∧ x.m ≤ 4611686018427387904 from ⟨Nat.le_trans HXO.out.nc HXO.out.c, by
        have h1 := HXM.out.rs
        have h2 : x.l.length = x.m := hxr.now.2.len
        have h3 : x.tb.rs.length = x.l.length := List.length_map ..
        omega⟩)
      obtain ⟨g, o, rfl, hgb, c0, c1, c2, c3, -⟩ := (H.ro 0 rfl).now.at_ hx
      have HIX := hid hx
      clear hx
      obtain ⟨VB, hVB⟩ : ∃ VB, tabB x.nm x.cs x.nx (x.l.map Rw.row) = VB := ⟨_, rfl⟩
      have HVB := hid hVB
      clear hVB
      go_wp2_with fail
      clear c0 c1 c2 c3 hgb hxr
      obtain ⟨KL, hKL, KN⟩ := H.name
      have HF : Hid (∀ wv, Hold M none w wv KL → wv.cell? ⟨g, o + k * 4, none⟩ = some (.string x.nm) ∧ wv.cell? ⟨g, o + k * 4 + 1, none⟩ = some (.slice x.A x.n x.c) ∧ wv.cell? ⟨g, o + k * 4 + 2, none⟩ = some (.int .i64 x.nx) ∧ wv.cell? ⟨g, o + k * 4 + 3, none⟩ = some (.slice x.B x.m x.d) ∧ g < wv.heap.size) := hid fun wv HC => by
        rw [hKL] at HC
        obtain ⟨g', o', e', hl, e0, e1, e2, e3, -⟩ := (HC.ro 0 rfl).now.at_ HIX.out
        obtain ⟨rfl, rfl⟩ : g = g' ∧ o = o' := by injection e' with e'; injection e' with a1 a2; exact ⟨a1, a2⟩
        exact ⟨e0, e1, e2, e3, hl⟩
      have HX : Hid (∀ wv, Hold M none w wv KL → Ro wv (Mut M KL) (TeIn x)) := hid fun wv HC => by
        rw [hKL] at HC ⊢
        exact (HC.ro 0 rfl).imp fun w2 h2 => h2.2 x (List.mem_of_getElem? HIX.out)
      have HKL := hid hKL
      have HKN := KN
      obtain rfl | rfl : VB = false ∨ VB = true := by cases VB <;> simp
      · skip
        have HN := hid (storB_bad (by rw [List.length_map, HL.out]; exact hlt) (stoOk_tab HXT.out HVB.out))
        clear hKL H
        refine wp_region_any (by kernel_rfl) ?_
        refine wpAny_hold 26 39 (KL) (spL [(16, IsV (.bool false))]) (by kernel_rfl) (by kernel_rfl) (by kernel_rfl) rfl ?_ (KN.drew) ?_
        · exact stays_cons isV_mono (stays_nil _)
        simp only [List.take_succ_cons, List.take_zero, List.drop_succ_cons, List.drop_zero, Act.put, List.getElem_toArray, List.getElem_cons_zero, List.getElem_cons_succ, List.setIfInBounds_toArray, List.set_cons_succ, List.set_cons_zero]
        refine dw_val rfl rfl rfl ?_; apply Exists.intro; refine ⟨fun wv HC => ?_, ?_⟩
        ·  go_simp <;> rfl
        simp only [Act.put, List.setIfInBounds_toArray, List.set_cons_succ, List.set_cons_zero]
        refine dw_val rfl rfl rfl ?_; apply Exists.intro; refine ⟨fun wv HC => ?_, ?_⟩
        ·  go_simp <;> rfl
        simp only [Act.put, List.setIfInBounds_toArray, List.set_cons_succ, List.set_cons_zero]
        refine dw_val rfl rfl rfl ?_; apply Exists.intro; refine ⟨fun wv HC => ?_, ?_⟩
        · obtain ⟨f0, f1, f2, f3, f4⟩ := HF.out _ HC; go_simp <;> rfl
        simp only [Act.put, List.setIfInBounds_toArray, List.set_cons_succ, List.set_cons_zero]
        refine dw_val rfl rfl rfl ?_; apply Exists.intro; refine ⟨fun wv HC => ?_, ?_⟩
        · obtain ⟨f0, f1, f2, f3, f4⟩ := HF.out _ HC; go_simp <;> rfl
        simp only [Act.put, List.setIfInBounds_toArray, List.set_cons_succ, List.set_cons_zero]
        refine dw_callR 16 (IsV (.bool false)) (f := 58) (args := #[.agg #[.string x.nm, .slice x.A x.n x.c, .int .i64 x.nx, .slice x.B x.m x.d]]) rfl rfl rfl rfl (fun wv => ?_) (fun wv HC hrm hD => ?_) ?_
        · go_simp <;> rfl
        · refine (rtvalid_any _ wv HC.mutLt x.nm x.A x.n x.c x.cs x.nx x.B x.m x.d x.l ((HX.out _ HC).imp fun w h => h.1) ((HX.out _ HC).imp fun w h => h.2) HXB.out.1 HXB.out.2 HXO.out.l HXM.out.nm HXM.out.cs).mono ?_
          rintro e w5 ⟨rfl, b5⟩
          exact ⟨_, rfl, by rw [HVB.out]; rfl, HC.call b5, RM.below b5⟩
        rintro u_ wx HCx rfl
        clear HCx
        simp only [Act.put, List.setIfInBounds_toArray, List.set_cons_succ, List.set_cons_zero]
        refine dw_val rfl rfl rfl ?_; apply Exists.intro; refine ⟨fun wv HC => ?_, ?_⟩
        ·  go_simp <;> rfl
        simp only [Act.put, List.setIfInBounds_toArray, List.set_cons_succ, List.set_cons_zero]
        refine dw_val rfl rfl rfl ?_; apply Exists.intro; refine ⟨fun wv HC => ?_, ?_⟩
        ·  go_simp <;> rfl
        simp only [Act.put, List.setIfInBounds_toArray, List.set_cons_succ, List.set_cons_zero]
        refine dw_skip rfl rfl rfl ?_
        simp only [Act.put, List.setIfInBounds_toArray, List.set_cons_succ, List.set_cons_zero]
        refine dw_skip rfl rfl rfl ?_
        simp only [Act.put, List.setIfInBounds_toArray, List.set_cons_succ, List.set_cons_zero]
        refine dw_skip rfl rfl rfl ?_
        simp only [Act.put, List.setIfInBounds_toArray, List.set_cons_succ, List.set_cons_zero]
        refine dw_skip rfl rfl rfl ?_
        simp only [Act.put, List.setIfInBounds_toArray, List.set_cons_succ, List.set_cons_zero]
        refine dw_skip rfl rfl rfl ?_
        simp only [Act.put, List.setIfInBounds_toArray, List.set_cons_succ, List.set_cons_zero]
        refine dw_skip rfl rfl rfl ?_
        simp only [Act.put, List.setIfInBounds_toArray, List.set_cons_succ, List.set_cons_zero]
        refine dw_skip rfl rfl rfl ?_
        simp only [Act.put, List.setIfInBounds_toArray, List.set_cons_succ, List.set_cons_zero]
        refine dw_skip rfl rfl rfl ?_
        simp only [Act.put, List.setIfInBounds_toArray, List.set_cons_succ, List.set_cons_zero]
        refine dw_skip rfl rfl rfl ?_
        simp only [Act.put, List.setIfInBounds_toArray, List.set_cons_succ, List.set_cons_zero]
        refine dw_skip rfl rfl rfl ?_
        simp only [Act.put, List.setIfInBounds_toArray, List.set_cons_succ, List.set_cons_zero]
        refine dw_skip rfl rfl rfl ?_
        simp only [Act.put, List.setIfInBounds_toArray, List.set_cons_succ, List.set_cons_zero]
        refine dw_skip rfl rfl rfl ?_
        simp only [Act.put, List.setIfInBounds_toArray, List.set_cons_succ, List.set_cons_zero]
        refine dw_skip rfl rfl rfl ?_
        simp only [Act.put, List.setIfInBounds_toArray, List.set_cons_succ, List.set_cons_zero]
        refine dw_skip rfl rfl rfl ?_
        simp only [Act.put, List.setIfInBounds_toArray, List.set_cons_succ, List.set_cons_zero]
        refine dw_skip rfl rfl rfl ?_
        simp only [Act.put, List.setIfInBounds_toArray, List.set_cons_succ, List.set_cons_zero]
        refine dw_skip rfl rfl rfl ?_
        simp only [Act.put, List.setIfInBounds_toArray, List.set_cons_succ, List.set_cons_zero]
        refine dw_skip rfl rfl rfl ?_
        simp only [Act.put, List.setIfInBounds_toArray, List.set_cons_succ, List.set_cons_zero]
        refine dw_skip rfl rfl rfl ?_
        simp only [Act.put, List.setIfInBounds_toArray, List.set_cons_succ, List.set_cons_zero]
        refine dw_val rfl rfl rfl ?_; apply Exists.intro; refine ⟨fun wv HC => ?_, ?_⟩
        ·  go_simp <;> rfl
        simp only [Act.put, List.setIfInBounds_toArray, List.set_cons_succ, List.set_cons_zero]
        refine rel_nil ?_
        rintro wx9 HX9
        rintro _hrm _HG
        clear _hrm _HG
        rw [HKL.out] at HX9
        go_wp2_with fail
        go_ret
        exact ⟨by rw [HN.out] <;> rfl, HX9.below⟩
      · skip
        have HVT := hid HVB.out
        cases k with
        | zero =>
          have hz : decide (((0 : Nat) : Int) > 0) = false := by decide
          (try simp only [Nat.zero_mul, Nat.add_zero] at HF)
          have HN := hid (range_next HR.out (stoOk_zero HXT.out HVT.out))
          clear hKL H
          refine wp_region_any (by kernel_rfl) ?_
          refine wpAny_hold 26 39 (KL) (spL [(16, IsV (.bool true))]) (by kernel_rfl) (by kernel_rfl) (by kernel_rfl) rfl ?_ (KN.drew) ?_
          · exact stays_cons isV_mono (stays_nil _)
          simp only [List.take_succ_cons, List.take_zero, List.drop_succ_cons, List.drop_zero, Act.put, List.getElem_toArray, List.getElem_cons_zero, List.getElem_cons_succ, List.setIfInBounds_toArray, List.set_cons_succ, List.set_cons_zero]
          refine dw_val rfl rfl rfl ?_; apply Exists.intro; refine ⟨fun wv HC => ?_, ?_⟩
          ·  go_simp <;> rfl
          simp only [Act.put, List.setIfInBounds_toArray, List.set_cons_succ, List.set_cons_zero]
          refine dw_val rfl rfl rfl ?_; apply Exists.intro; refine ⟨fun wv HC => ?_, ?_⟩
          ·  go_simp <;> rfl
          simp only [Act.put, List.setIfInBounds_toArray, List.set_cons_succ, List.set_cons_zero]
          refine dw_val rfl rfl rfl ?_; apply Exists.intro; refine ⟨fun wv HC => ?_, ?_⟩
          · obtain ⟨f0, f1, f2, f3, f4⟩ := HF.out _ HC; go_simp <;> rfl
          simp only [Act.put, List.setIfInBounds_toArray, List.set_cons_succ, List.set_cons_zero]
          refine dw_val rfl rfl rfl ?_; apply Exists.intro; refine ⟨fun wv HC => ?_, ?_⟩
          · obtain ⟨f0, f1, f2, f3, f4⟩ := HF.out _ HC; go_simp <;> rfl
          simp only [Act.put, List.setIfInBounds_toArray, List.set_cons_succ, List.set_cons_zero]
          refine dw_callR 16 (IsV (.bool true)) (f := 58) (args := #[.agg #[.string x.nm, .slice x.A x.n x.c, .int .i64 x.nx, .slice x.B x.m x.d]]) rfl rfl rfl rfl (fun wv => ?_) (fun wv HC hrm hD => ?_) ?_
          · go_simp <;> rfl
          · refine (rtvalid_any _ wv HC.mutLt x.nm x.A x.n x.c x.cs x.nx x.B x.m x.d x.l ((HX.out _ HC).imp fun w h => h.1) ((HX.out _ HC).imp fun w h => h.2) HXB.out.1 HXB.out.2 HXO.out.l HXM.out.nm HXM.out.cs).mono ?_
            rintro e w5 ⟨rfl, b5⟩
            exact ⟨_, rfl, by rw [HVB.out]; rfl, HC.call b5, RM.below b5⟩
          rintro u_ wx HCx rfl
          clear HCx
          simp only [Act.put, List.setIfInBounds_toArray, List.set_cons_succ, List.set_cons_zero]
          refine dw_val rfl rfl rfl ?_; apply Exists.intro; refine ⟨fun wv HC => ?_, ?_⟩
          ·  go_simp <;> rfl
          simp only [Act.put, List.setIfInBounds_toArray, List.set_cons_succ, List.set_cons_zero]
          refine dw_val rfl rfl rfl ?_; apply Exists.intro; refine ⟨fun wv HC => ?_, ?_⟩
          ·  go_simp <;> rfl
          simp only [Act.put, List.setIfInBounds_toArray, List.set_cons_succ, List.set_cons_zero]
          refine dw_val rfl rfl rfl ?_; apply Exists.intro; refine ⟨fun wv HC => ?_, ?_⟩
          ·  go_simp <;> rfl
          simp only [Act.put, List.setIfInBounds_toArray, List.set_cons_succ, List.set_cons_zero]
          refine dw_val rfl rfl rfl ?_; apply Exists.intro; refine ⟨fun wv HC => ?_, ?_⟩
          ·  go_simp <;> rfl
          simp only [Act.put, List.setIfInBounds_toArray, List.set_cons_succ, List.set_cons_zero]
          refine dw_val rfl rfl rfl ?_; apply Exists.intro; refine ⟨fun wv HC => ?_, ?_⟩
          ·  go_simp <;> rfl
          simp only [Act.put, List.setIfInBounds_toArray, List.set_cons_succ, List.set_cons_zero]
          refine dw_skip rfl rfl rfl ?_
          simp only [Act.put, List.setIfInBounds_toArray, List.set_cons_succ, List.set_cons_zero]
          refine dw_skip rfl rfl rfl ?_
          simp only [Act.put, List.setIfInBounds_toArray, List.set_cons_succ, List.set_cons_zero]
          refine dw_skip rfl rfl rfl ?_
          simp only [Act.put, List.setIfInBounds_toArray, List.set_cons_succ, List.set_cons_zero]
          refine dw_skip rfl rfl rfl ?_
          simp only [Act.put, List.setIfInBounds_toArray, List.set_cons_succ, List.set_cons_zero]
          refine dw_skip rfl rfl rfl ?_
          simp only [Act.put, List.setIfInBounds_toArray, List.set_cons_succ, List.set_cons_zero]
          refine dw_skip rfl rfl rfl ?_
          simp only [Act.put, List.setIfInBounds_toArray, List.set_cons_succ, List.set_cons_zero]
          refine dw_skip rfl rfl rfl ?_
          simp only [Act.put, List.setIfInBounds_toArray, List.set_cons_succ, List.set_cons_zero]
          refine dw_skip rfl rfl rfl ?_
          simp only [Act.put, List.setIfInBounds_toArray, List.set_cons_succ, List.set_cons_zero]
          refine dw_skip rfl rfl rfl ?_
          simp only [Act.put, List.setIfInBounds_toArray, List.set_cons_succ, List.set_cons_zero]
          refine dw_skip rfl rfl rfl ?_
          simp only [Act.put, List.setIfInBounds_toArray, List.set_cons_succ, List.set_cons_zero]
          refine dw_skip rfl rfl rfl ?_
          simp only [Act.put, List.setIfInBounds_toArray, List.set_cons_succ, List.set_cons_zero]
          refine dw_skip rfl rfl rfl ?_
          simp only [Act.put, List.setIfInBounds_toArray, List.set_cons_succ, List.set_cons_zero]
          refine dw_skip rfl rfl rfl ?_
          simp only [Act.put, List.setIfInBounds_toArray, List.set_cons_succ, List.set_cons_zero]
          refine dw_skip rfl rfl rfl ?_
          simp only [Act.put, List.setIfInBounds_toArray, List.set_cons_succ, List.set_cons_zero]
          refine dw_val rfl rfl rfl ?_; apply Exists.intro; refine ⟨fun wv HC => ?_, ?_⟩
          ·  go_simp <;> rfl
          simp only [Act.put, List.setIfInBounds_toArray, List.set_cons_succ, List.set_cons_zero]
          refine dw_val rfl rfl rfl ?_; apply Exists.intro; refine ⟨fun wv HC => ?_, ?_⟩
          ·  go_simp <;> rfl
          simp only [Act.put, List.setIfInBounds_toArray, List.set_cons_succ, List.set_cons_zero]
          refine rel_nil ?_
          rintro wx9 HX9
          rintro _hrm _HG
          clear _hrm _HG
          rw [HKL.out] at HX9
          go_wp2_with fail
          go_roundw
          case rel => exact ⟨0 + 1, by omega, by go_num, HN, HX9⟩
          case measure => simp [intOf]; omega
        | succ j =>
          have hz : decide (((j + 1 : Nat) : Int) > 0) = true := by simp <;> omega
          have hz2 : decide ((j : Int) + 1 > 0) = true := by simp <;> omega
          have s1 : IntKind.i64.wrap (((j + 1 : Nat) : Int) - 1) = (j : Int) := by rw [IntKind.wrap_i64]; omega
          have s2 : IntKind.i64.wrap ((j : Int) + 1 - 1) = (j : Int) := by rw [IntKind.wrap_i64]; omega
          have s3 : IntKind.i64.wrap (j : Int) = (j : Int) := by rw [IntKind.wrap_i64]; omega
          have j2 : (0 : Int) ≤ (j : Int) := by omega
          have j3 : (j : Int) < (n : Int) := by omega
          have i2 : (0 : Int) ≤ (j : Int) + 1 := by omega
          have i3 : (j : Int) + 1 < (n : Int) := by omega
          obtain ⟨y, hy⟩ := get_of HL.out (show j < n by omega)
          have HYT := hid (te_at hy)
          have HIY := hid hy
          clear hy
          have HP : Hid (∀ wv, Hold M none w wv KL → wv.cell? ⟨g, o + j * 4, none⟩ = some (.string y.nm) ∧ g < wv.heap.size) := hid fun wv HC => by
            rw [hKL] at HC
            obtain ⟨g', o', e', hl, e0, -⟩ := (HC.ro 0 rfl).now.at_ HIY.out
            obtain ⟨rfl, rfl⟩ : g = g' ∧ o = o' := by injection e' with e'; injection e' with a1 a2; exact ⟨a1, a2⟩
            exact ⟨e0, hl⟩
          clear hKL H
          cases hlt3 : Op.bytesLess y.nm.toList x.nm.toList with
          | true =>
            have HN := hid (range_next HR.out ((stoOk_next HXT.out HYT.out HVT.out).trans hlt3))
            refine wp_region_any (by kernel_rfl) ?_
            refine wpAny_hold 26 39 (KL) (spL [(16, IsV (.bool true))]) (by kernel_rfl) (by kernel_rfl) (by kernel_rfl) rfl ?_ (KN.drew) ?_
            · exact stays_cons isV_mono (stays_nil _)
            simp only [List.take_succ_cons, List.take_zero, List.drop_succ_cons, List.drop_zero, Act.put, List.getElem_toArray, List.getElem_cons_zero, List.getElem_cons_succ, List.setIfInBounds_toArray, List.set_cons_succ, List.set_cons_zero]
            refine dw_val rfl rfl rfl ?_; apply Exists.intro; refine ⟨fun wv HC => ?_, ?_⟩
            ·  go_simp <;> rfl
            simp only [Act.put, List.setIfInBounds_toArray, List.set_cons_succ, List.set_cons_zero]
            refine dw_val rfl rfl rfl ?_; apply Exists.intro; refine ⟨fun wv HC => ?_, ?_⟩
            ·  go_simp <;> rfl
            simp only [Act.put, List.setIfInBounds_toArray, List.set_cons_succ, List.set_cons_zero]
            refine dw_val rfl rfl rfl ?_; apply Exists.intro; refine ⟨fun wv HC => ?_, ?_⟩
            · obtain ⟨f0, f1, f2, f3, f4⟩ := HF.out _ HC; go_simp <;> rfl
            simp only [Act.put, List.setIfInBounds_toArray, List.set_cons_succ, List.set_cons_zero]
            refine dw_val rfl rfl rfl ?_; apply Exists.intro; refine ⟨fun wv HC => ?_, ?_⟩
            · obtain ⟨f0, f1, f2, f3, f4⟩ := HF.out _ HC; go_simp <;> rfl
            simp only [Act.put, List.setIfInBounds_toArray, List.set_cons_succ, List.set_cons_zero]
            refine dw_callR 16 (IsV (.bool true)) (f := 58) (args := #[.agg #[.string x.nm, .slice x.A x.n x.c, .int .i64 x.nx, .slice x.B x.m x.d]]) rfl rfl rfl rfl (fun wv => ?_) (fun wv HC hrm hD => ?_) ?_
            · go_simp <;> rfl
            · refine (rtvalid_any _ wv HC.mutLt x.nm x.A x.n x.c x.cs x.nx x.B x.m x.d x.l ((HX.out _ HC).imp fun w h => h.1) ((HX.out _ HC).imp fun w h => h.2) HXB.out.1 HXB.out.2 HXO.out.l HXM.out.nm HXM.out.cs).mono ?_
              rintro e w5 ⟨rfl, b5⟩
              exact ⟨_, rfl, by rw [HVB.out]; rfl, HC.call b5, RM.below b5⟩
            rintro u_ wx HCx rfl
            clear HCx
            simp only [Act.put, List.setIfInBounds_toArray, List.set_cons_succ, List.set_cons_zero]
            refine dw_val rfl rfl rfl ?_; apply Exists.intro; refine ⟨fun wv HC => ?_, ?_⟩
            ·  go_simp <;> rfl
            simp only [Act.put, List.setIfInBounds_toArray, List.set_cons_succ, List.set_cons_zero]
            refine dw_val rfl rfl rfl ?_; apply Exists.intro; refine ⟨fun wv HC => ?_, ?_⟩
            ·  go_simp <;> rfl
            simp only [Act.put, List.setIfInBounds_toArray, List.set_cons_succ, List.set_cons_zero]
            refine dw_val rfl rfl rfl ?_; apply Exists.intro; refine ⟨fun wv HC => ?_, ?_⟩
            ·  go_simp <;> rfl
            simp only [Act.put, List.setIfInBounds_toArray, List.set_cons_succ, List.set_cons_zero]
            refine dw_val rfl rfl rfl ?_; apply Exists.intro; refine ⟨fun wv HC => ?_, ?_⟩
            ·  go_simp <;> rfl
            simp only [Act.put, List.setIfInBounds_toArray, List.set_cons_succ, List.set_cons_zero]
            refine dw_val rfl rfl rfl ?_; apply Exists.intro; refine ⟨fun wv HC => ?_, ?_⟩
            ·  go_simp <;> rfl
            simp only [Act.put, List.setIfInBounds_toArray, List.set_cons_succ, List.set_cons_zero]
            refine dw_val rfl rfl rfl ?_; apply Exists.intro; refine ⟨fun wv HC => ?_, ?_⟩
            · obtain ⟨f0, f1, f2, f3, f4⟩ := HF.out _ HC; obtain ⟨p0, p1⟩ := HP.out _ HC; go_simp <;> rfl
            simp only [Act.put, List.setIfInBounds_toArray, List.set_cons_succ, List.set_cons_zero]
            refine dw_val rfl rfl rfl ?_; apply Exists.intro; refine ⟨fun wv HC => ?_, ?_⟩
            · obtain ⟨f0, f1, f2, f3, f4⟩ := HF.out _ HC; obtain ⟨p0, p1⟩ := HP.out _ HC; go_simp <;> rfl
            simp only [Act.put, List.setIfInBounds_toArray, List.set_cons_succ, List.set_cons_zero]
            refine dw_val rfl rfl rfl ?_; apply Exists.intro; refine ⟨fun wv HC => ?_, ?_⟩
            · obtain ⟨f0, f1, f2, f3, f4⟩ := HF.out _ HC; obtain ⟨p0, p1⟩ := HP.out _ HC; go_simp <;> rfl
            simp only [Act.put, List.setIfInBounds_toArray, List.set_cons_succ, List.set_cons_zero]
            refine dw_val rfl rfl rfl ?_; apply Exists.intro; refine ⟨fun wv HC => ?_, ?_⟩
            · obtain ⟨f0, f1, f2, f3, f4⟩ := HF.out _ HC; obtain ⟨p0, p1⟩ := HP.out _ HC; go_simp <;> rfl
            simp only [Act.put, List.setIfInBounds_toArray, List.set_cons_succ, List.set_cons_zero]
            refine dw_val rfl rfl rfl ?_; apply Exists.intro; refine ⟨fun wv HC => ?_, ?_⟩
            · obtain ⟨f0, f1, f2, f3, f4⟩ := HF.out _ HC; obtain ⟨p0, p1⟩ := HP.out _ HC; go_simp <;> rfl
            simp only [Act.put, List.setIfInBounds_toArray, List.set_cons_succ, List.set_cons_zero]
            refine dw_val rfl rfl rfl ?_; apply Exists.intro; refine ⟨fun wv HC => ?_, ?_⟩
            · obtain ⟨f0, f1, f2, f3, f4⟩ := HF.out _ HC; obtain ⟨p0, p1⟩ := HP.out _ HC; go_simp <;> rfl
            simp only [Act.put, List.setIfInBounds_toArray, List.set_cons_succ, List.set_cons_zero]
            refine dw_val rfl rfl rfl ?_; apply Exists.intro; refine ⟨fun wv HC => ?_, ?_⟩
            · obtain ⟨f0, f1, f2, f3, f4⟩ := HF.out _ HC; obtain ⟨p0, p1⟩ := HP.out _ HC; go_simp <;> rfl
            simp only [Act.put, List.setIfInBounds_toArray, List.set_cons_succ, List.set_cons_zero]
            refine dw_val rfl rfl rfl ?_; apply Exists.intro; refine ⟨fun wv HC => ?_, ?_⟩
            · obtain ⟨f0, f1, f2, f3, f4⟩ := HF.out _ HC; obtain ⟨p0, p1⟩ := HP.out _ HC; go_simp <;> rfl
            simp only [Act.put, List.setIfInBounds_toArray, List.set_cons_succ, List.set_cons_zero]
            refine dw_val rfl rfl rfl ?_; apply Exists.intro; refine ⟨fun wv HC => ?_, ?_⟩
            · obtain ⟨f0, f1, f2, f3, f4⟩ := HF.out _ HC; obtain ⟨p0, p1⟩ := HP.out _ HC; go_simp <;> rfl
            simp only [Act.put, List.setIfInBounds_toArray, List.set_cons_succ, List.set_cons_zero]
            refine dw_val rfl rfl rfl ?_; apply Exists.intro; refine ⟨fun wv HC => ?_, ?_⟩
            · obtain ⟨f0, f1, f2, f3, f4⟩ := HF.out _ HC; obtain ⟨p0, p1⟩ := HP.out _ HC; go_simp <;> rfl
            simp only [Act.put, List.setIfInBounds_toArray, List.set_cons_succ, List.set_cons_zero]
            refine dw_val rfl rfl rfl ?_; apply Exists.intro; refine ⟨fun wv HC => ?_, ?_⟩
            · obtain ⟨f0, f1, f2, f3, f4⟩ := HF.out _ HC; obtain ⟨p0, p1⟩ := HP.out _ HC; go_simp <;> rfl
            simp only [Act.put, List.setIfInBounds_toArray, List.set_cons_succ, List.set_cons_zero]
            refine dw_val rfl rfl rfl ?_; apply Exists.intro; refine ⟨fun wv HC => ?_, ?_⟩
            · obtain ⟨f0, f1, f2, f3, f4⟩ := HF.out _ HC; obtain ⟨p0, p1⟩ := HP.out _ HC; go_simp <;> rfl
            simp only [Act.put, List.setIfInBounds_toArray, List.set_cons_succ, List.set_cons_zero]
            refine dw_val rfl rfl rfl ?_; apply Exists.intro; refine ⟨fun wv HC => ?_, ?_⟩
            · obtain ⟨f0, f1, f2, f3, f4⟩ := HF.out _ HC; obtain ⟨p0, p1⟩ := HP.out _ HC; go_simp <;> rfl
            simp only [Act.put, List.setIfInBounds_toArray, List.set_cons_succ, List.set_cons_zero]
            refine dw_val rfl rfl rfl ?_; apply Exists.intro; refine ⟨fun wv HC => ?_, ?_⟩
            · obtain ⟨f0, f1, f2, f3, f4⟩ := HF.out _ HC; obtain ⟨p0, p1⟩ := HP.out _ HC; go_simp <;> rfl
            simp only [Act.put, List.setIfInBounds_toArray, List.set_cons_succ, List.set_cons_zero]
            refine dw_val rfl rfl rfl ?_; apply Exists.intro; refine ⟨fun wv HC => ?_, ?_⟩
            ·  go_simp <;> rfl
            simp only [Act.put, List.setIfInBounds_toArray, List.set_cons_succ, List.set_cons_zero]
            refine dw_val rfl rfl rfl ?_; apply Exists.intro; refine ⟨fun wv HC => ?_, ?_⟩
            ·  go_simp <;> rfl
            simp only [Act.put, List.setIfInBounds_toArray, List.set_cons_succ, List.set_cons_zero]
            refine rel_nil ?_
            rintro wx9 HX9
            rintro _hrm _HG
            clear _hrm _HG
            rw [HKL.out] at HX9
            go_wp2_with fail
            go_roundw
            case rel => exact ⟨(j + 1) + 1, by omega, by go_num, HN, HX9⟩
            case measure => simp [intOf]; omega
          | false =>
            have HN := hid (storB_bad (by rw [List.length_map, HL.out]; exact hlt) ((stoOk_next HXT.out HYT.out HVT.out).trans hlt3))
            refine wp_region_any (by kernel_rfl) ?_
            refine wpAny_hold 26 39 (KL) (spL [(16, IsV (.bool true))]) (by kernel_rfl) (by kernel_rfl) (by kernel_rfl) rfl ?_ (KN.drew) ?_
            · exact stays_cons isV_mono (stays_nil _)
            simp only [List.take_succ_cons, List.take_zero, List.drop_succ_cons, List.drop_zero, Act.put, List.getElem_toArray, List.getElem_cons_zero, List.getElem_cons_succ, List.setIfInBounds_toArray, List.set_cons_succ, List.set_cons_zero]
            refine dw_val rfl rfl rfl ?_; apply Exists.intro; refine ⟨fun wv HC => ?_, ?_⟩
            ·  go_simp <;> rfl
            simp only [Act.put, List.setIfInBounds_toArray, List.set_cons_succ, List.set_cons_zero]
            refine dw_val rfl rfl rfl ?_; apply Exists.intro; refine ⟨fun wv HC => ?_, ?_⟩
            ·  go_simp <;> rfl
            simp only [Act.put, List.setIfInBounds_toArray, List.set_cons_succ, List.set_cons_zero]
            refine dw_val rfl rfl rfl ?_; apply Exists.intro; refine ⟨fun wv HC => ?_, ?_⟩
            · obtain ⟨f0, f1, f2, f3, f4⟩ := HF.out _ HC; go_simp <;> rfl
            simp only [Act.put, List.setIfInBounds_toArray, List.set_cons_succ, List.set_cons_zero]
            refine dw_val rfl rfl rfl ?_; apply Exists.intro; refine ⟨fun wv HC => ?_, ?_⟩
            · obtain ⟨f0, f1, f2, f3, f4⟩ := HF.out _ HC; go_simp <;> rfl
            simp only [Act.put, List.setIfInBounds_toArray, List.set_cons_succ, List.set_cons_zero]
            refine dw_callR 16 (IsV (.bool true)) (f := 58) (args := #[.agg #[.string x.nm, .slice x.A x.n x.c, .int .i64 x.nx, .slice x.B x.m x.d]]) rfl rfl rfl rfl (fun wv => ?_) (fun wv HC hrm hD => ?_) ?_
            · go_simp <;> rfl
            · refine (rtvalid_any _ wv HC.mutLt x.nm x.A x.n x.c x.cs x.nx x.B x.m x.d x.l ((HX.out _ HC).imp fun w h => h.1) ((HX.out _ HC).imp fun w h => h.2) HXB.out.1 HXB.out.2 HXO.out.l HXM.out.nm HXM.out.cs).mono ?_
              rintro e w5 ⟨rfl, b5⟩
              exact ⟨_, rfl, by rw [HVB.out]; rfl, HC.call b5, RM.below b5⟩
            rintro u_ wx HCx rfl
            clear HCx
            simp only [Act.put, List.setIfInBounds_toArray, List.set_cons_succ, List.set_cons_zero]
            refine dw_val rfl rfl rfl ?_; apply Exists.intro; refine ⟨fun wv HC => ?_, ?_⟩
            ·  go_simp <;> rfl
            simp only [Act.put, List.setIfInBounds_toArray, List.set_cons_succ, List.set_cons_zero]
            refine dw_val rfl rfl rfl ?_; apply Exists.intro; refine ⟨fun wv HC => ?_, ?_⟩
            ·  go_simp <;> rfl
            simp only [Act.put, List.setIfInBounds_toArray, List.set_cons_succ, List.set_cons_zero]
            refine dw_val rfl rfl rfl ?_; apply Exists.intro; refine ⟨fun wv HC => ?_, ?_⟩
            ·  go_simp <;> rfl
            simp only [Act.put, List.setIfInBounds_toArray, List.set_cons_succ, List.set_cons_zero]
            refine dw_val rfl rfl rfl ?_; apply Exists.intro; refine ⟨fun wv HC => ?_, ?_⟩
            ·  go_simp <;> rfl
            simp only [Act.put, List.setIfInBounds_toArray, List.set_cons_succ, List.set_cons_zero]
            refine dw_val rfl rfl rfl ?_; apply Exists.intro; refine ⟨fun wv HC => ?_, ?_⟩
            ·  go_simp <;> rfl
            simp only [Act.put, List.setIfInBounds_toArray, List.set_cons_succ, List.set_cons_zero]
            refine dw_val rfl rfl rfl ?_; apply Exists.intro; refine ⟨fun wv HC => ?_, ?_⟩
            · obtain ⟨f0, f1, f2, f3, f4⟩ := HF.out _ HC; obtain ⟨p0, p1⟩ := HP.out _ HC; go_simp <;> rfl
            simp only [Act.put, List.setIfInBounds_toArray, List.set_cons_succ, List.set_cons_zero]
            refine dw_val rfl rfl rfl ?_; apply Exists.intro; refine ⟨fun wv HC => ?_, ?_⟩
            · obtain ⟨f0, f1, f2, f3, f4⟩ := HF.out _ HC; obtain ⟨p0, p1⟩ := HP.out _ HC; go_simp <;> rfl
            simp only [Act.put, List.setIfInBounds_toArray, List.set_cons_succ, List.set_cons_zero]
            refine dw_val rfl rfl rfl ?_; apply Exists.intro; refine ⟨fun wv HC => ?_, ?_⟩
            · obtain ⟨f0, f1, f2, f3, f4⟩ := HF.out _ HC; obtain ⟨p0, p1⟩ := HP.out _ HC; go_simp <;> rfl
            simp only [Act.put, List.setIfInBounds_toArray, List.set_cons_succ, List.set_cons_zero]
            refine dw_val rfl rfl rfl ?_; apply Exists.intro; refine ⟨fun wv HC => ?_, ?_⟩
            · obtain ⟨f0, f1, f2, f3, f4⟩ := HF.out _ HC; obtain ⟨p0, p1⟩ := HP.out _ HC; go_simp <;> rfl
            simp only [Act.put, List.setIfInBounds_toArray, List.set_cons_succ, List.set_cons_zero]
            refine dw_val rfl rfl rfl ?_; apply Exists.intro; refine ⟨fun wv HC => ?_, ?_⟩
            · obtain ⟨f0, f1, f2, f3, f4⟩ := HF.out _ HC; obtain ⟨p0, p1⟩ := HP.out _ HC; go_simp <;> rfl
            simp only [Act.put, List.setIfInBounds_toArray, List.set_cons_succ, List.set_cons_zero]
            refine dw_val rfl rfl rfl ?_; apply Exists.intro; refine ⟨fun wv HC => ?_, ?_⟩
            · obtain ⟨f0, f1, f2, f3, f4⟩ := HF.out _ HC; obtain ⟨p0, p1⟩ := HP.out _ HC; go_simp <;> rfl
            simp only [Act.put, List.setIfInBounds_toArray, List.set_cons_succ, List.set_cons_zero]
            refine dw_val rfl rfl rfl ?_; apply Exists.intro; refine ⟨fun wv HC => ?_, ?_⟩
            · obtain ⟨f0, f1, f2, f3, f4⟩ := HF.out _ HC; obtain ⟨p0, p1⟩ := HP.out _ HC; go_simp <;> rfl
            simp only [Act.put, List.setIfInBounds_toArray, List.set_cons_succ, List.set_cons_zero]
            refine dw_val rfl rfl rfl ?_; apply Exists.intro; refine ⟨fun wv HC => ?_, ?_⟩
            · obtain ⟨f0, f1, f2, f3, f4⟩ := HF.out _ HC; obtain ⟨p0, p1⟩ := HP.out _ HC; go_simp <;> rfl
            simp only [Act.put, List.setIfInBounds_toArray, List.set_cons_succ, List.set_cons_zero]
            refine dw_val rfl rfl rfl ?_; apply Exists.intro; refine ⟨fun wv HC => ?_, ?_⟩
            · obtain ⟨f0, f1, f2, f3, f4⟩ := HF.out _ HC; obtain ⟨p0, p1⟩ := HP.out _ HC; go_simp <;> rfl
            simp only [Act.put, List.setIfInBounds_toArray, List.set_cons_succ, List.set_cons_zero]
            refine dw_val rfl rfl rfl ?_; apply Exists.intro; refine ⟨fun wv HC => ?_, ?_⟩
            · obtain ⟨f0, f1, f2, f3, f4⟩ := HF.out _ HC; obtain ⟨p0, p1⟩ := HP.out _ HC; go_simp <;> rfl
            simp only [Act.put, List.setIfInBounds_toArray, List.set_cons_succ, List.set_cons_zero]
            refine dw_val rfl rfl rfl ?_; apply Exists.intro; refine ⟨fun wv HC => ?_, ?_⟩
            · obtain ⟨f0, f1, f2, f3, f4⟩ := HF.out _ HC; obtain ⟨p0, p1⟩ := HP.out _ HC; go_simp <;> rfl
            simp only [Act.put, List.setIfInBounds_toArray, List.set_cons_succ, List.set_cons_zero]
            refine dw_val rfl rfl rfl ?_; apply Exists.intro; refine ⟨fun wv HC => ?_, ?_⟩
            · obtain ⟨f0, f1, f2, f3, f4⟩ := HF.out _ HC; obtain ⟨p0, p1⟩ := HP.out _ HC; go_simp <;> rfl
            simp only [Act.put, List.setIfInBounds_toArray, List.set_cons_succ, List.set_cons_zero]
            refine dw_val rfl rfl rfl ?_; apply Exists.intro; refine ⟨fun wv HC => ?_, ?_⟩
            · obtain ⟨f0, f1, f2, f3, f4⟩ := HF.out _ HC; obtain ⟨p0, p1⟩ := HP.out _ HC; go_simp <;> rfl
            simp only [Act.put, List.setIfInBounds_toArray, List.set_cons_succ, List.set_cons_zero]
            refine dw_val rfl rfl rfl ?_; apply Exists.intro; refine ⟨fun wv HC => ?_, ?_⟩
            · obtain ⟨f0, f1, f2, f3, f4⟩ := HF.out _ HC; obtain ⟨p0, p1⟩ := HP.out _ HC; go_simp <;> rfl
            simp only [Act.put, List.setIfInBounds_toArray, List.set_cons_succ, List.set_cons_zero]
            refine dw_val rfl rfl rfl ?_; apply Exists.intro; refine ⟨fun wv HC => ?_, ?_⟩
            ·  go_simp <;> rfl
            simp only [Act.put, List.setIfInBounds_toArray, List.set_cons_succ, List.set_cons_zero]
            refine dw_val rfl rfl rfl ?_; apply Exists.intro; refine ⟨fun wv HC => ?_, ?_⟩
            ·  go_simp <;> rfl
            simp only [Act.put, List.setIfInBounds_toArray, List.set_cons_succ, List.set_cons_zero]
            refine rel_nil ?_
            rintro wx9 HX9
            rintro _hrm _HG
            clear _hrm _HG
            rw [HKL.out] at HX9
            go_wp2_with fail
            go_ret
            exact ⟨by rw [HN.out] <;> rfl, HX9.below⟩
    · obtain rfl : k = n := by omega
      have hdd : decide ((k : Int) < (k : Int)) = false := by simp
      have HN := hid (storB_end (by rw [List.length_map]; exact HL.out) (by omega) HR.out)
      go_wp2_with fail
      go_ret
      exact ⟨by rw [HN.out] <;> rfl, H.below⟩
end Go.Proofs.YtedogodccblfeaaGreatDoor

namespace Go.Proofs.YtedogodccblfeaaGreatDoor
open Go.RowKit
set_option linter.unusedVariables false
set_option linter.unusedSimpArgs false

/-- the reference's way: t goes ahead of the first table whose name is not below its own; a table of its name falls out -/
def insT : Bool → Tb → List Tb → List Tb
  | done, t, [] => if done then [] else [t]
  | done, t, x :: r => (if !done && !ltS x.nm t.nm then [t] else []) ++ ((if t.nm.toList == x.nm.toList then [] else [x]) ++ insT (done || !ltS x.nm t.nm) t r)
def putC (l : List Tb) (t : Tb) : Bool × List Tb := if storB l && storB (insT false t l) then (true, insT false t l) else (false, [])
def NmAsc (l : List Tb) : Prop := (l.map Tb.nm).Pairwise (fun a b => ltS a b = true)
theorem storB_at {l : List Tb} (h : storB l = true) {k : Nat} (hk : k < l.length) : stoOk l k = true := by
  cases hb : stoOk l k with
  | true => rfl
  | false => have := storB_bad hk hb; rw [h] at this; cases this
theorem storB_next {l : List Tb} (h : storB l = true) {j : Nat} {p t : Tb} (hp : l[j]? = some p) (ht : l[j + 1]? = some t) : ltS p.nm t.nm = true := by
  have h1 := storB_at h (List.getElem?_eq_some_iff.1 ht).1
  cases hb : tabB t.nm t.cs t.nx t.rs with
  | true => rw [stoOk_next ht hp hb] at h1; exact h1
  | false => rw [stoOk_tab ht hb] at h1; cases h1
theorem storB_asc {l : List Tb} (h : storB l = true) : NmAsc l := by
  unfold NmAsc
  rw [List.pairwise_iff_getElem]
  intro i j hi hj hij
  simp only [List.length_map] at hi hj
  simp only [List.getElem_map]
  have key : ∀ d i, (hd : i + 1 + d < l.length) → ltS (l[i]'(by omega)).nm (l[i + 1 + d]'hd).nm = true := by
    intro d
    induction d with
    | zero => intro i hd; exact storB_next h (List.getElem?_eq_getElem _) (List.getElem?_eq_getElem _)
    | succ d ih =>
      intro i hd
      exact ltS_trans _ _ _ (ih i (by omega)) (storB_next h (List.getElem?_eq_getElem _) (List.getElem?_eq_getElem _))
  obtain ⟨d, rfl⟩ : ∃ d, j = i + 1 + d := ⟨j - (i + 1), by omega⟩
  exact key d i hj
theorem insT_done {t : Tb} : ∀ {l : List Tb}, (∀ x ∈ l, t.nm.toList ≠ x.nm.toList) → insT true t l = l
  | [], _ => rfl
  | x :: r, h => by
    have h1 : (t.nm.toList == x.nm.toList) = false := by rw [beq_eq_false_iff_ne]; exact h x (List.mem_cons_self ..)
    rw [insT, h1, Bool.true_or, insT_done fun y hy => h y (List.mem_cons_of_mem _ hy)]
    simp
theorem ltS_ne {a b : ByteArray} (h : ltS a b = true) : (b.toList == a.toList) = false := by
  rw [beq_eq_false_iff_ne]
  exact fun e => (less_asymm _ _ h).2 e.symm
theorem insT_low {t : Tb} : ∀ {a b : List Tb}, (∀ x ∈ a, ltS x.nm t.nm = true) → insT false t (a ++ b) = a ++ insT false t b
  | [], b, _ => rfl
  | x :: a, b, h => by
    have h1 := h x (List.mem_cons_self ..)
    rw [List.cons_append, insT, h1, ltS_ne h1, show (false || !true) = false from rfl, insT_low fun y hy => h y (List.mem_cons_of_mem _ hy)]
    simp
/-- does a table of the name stand at the place? -/
def hitB (l : List Tb) (s : ByteArray) (i : Nat) : Bool := match l[i]? with | some x => x.nm.toList == s.toList | none => false
theorem hitB_some {l : List Tb} {s : ByteArray} {i : Nat} {x : Tb} (h : l[i]? = some x) : hitB l s i = (x.nm.toList == s.toList) := by unfold hitB; rw [h]
theorem hitB_none {l : List Tb} {s : ByteArray} {i : Nat} (h : l[i]? = none) : hitB l s i = false := by unfold hitB; rw [h]
/-- where a search ends, and what putting does there -/
theorem insT_at {l : List Tb} {t : Tb} {i : Nat} (hi : i ≤ l.length) (ha : NmAsc l) (hb : BsAt (l.map Tb.nm) t.nm i i) :
    insT false t l = if hitB l t.nm i then l.set i t else l.take i ++ t :: l.drop i := by
  have hlow : ∀ x ∈ l.take i, ltS x.nm t.nm = true := fun x hx => by
    obtain ⟨j, hj⟩ := List.getElem?_of_mem hx
    rw [List.getElem?_take] at hj
    split at hj
    · rename_i hji
      exact hb.1 j x.nm (by rw [List.getElem?_map, hj]; rfl) hji
    · cases hj
  have e : insT false t l = l.take i ++ insT false t (l.drop i) := by
    have := insT_low (b := l.drop i) hlow
    rwa [List.take_append_drop] at this
  rw [e]
  cases hx : l[i]? with
  | none =>
    have : l.drop i = [] := by rw [List.drop_eq_nil_iff]; rw [List.getElem?_eq_none_iff] at hx; exact hx
    rw [this, hitB_none hx]
    rfl
  | some x =>
    have hil := (List.getElem?_eq_some_iff.1 hx).1
    have hdrop : l.drop i = x :: l.drop (i + 1) := by
      rw [List.drop_eq_getElem_cons hil]
      rw [(List.getElem?_eq_some_iff.1 hx).2]
    have hxn : ltS x.nm t.nm = false := hb.2 i x.nm (by rw [List.getElem?_map, hx]; rfl) (Nat.le_refl _)
    have hrest : ∀ y ∈ l.drop (i + 1), ltS x.nm y.nm = true := fun y hy => by
      obtain ⟨j, hj⟩ := List.getElem?_of_mem hy
      rw [List.getElem?_drop] at hj
      have hjl := (List.getElem?_eq_some_iff.1 hj).1
      have := List.pairwise_iff_getElem.1 ha i (i + 1 + j) (by simpa using hil) (by simpa using hjl) (by omega)
      simp only [List.getElem_map] at this
      rwa [(List.getElem?_eq_some_iff.1 hx).2, (List.getElem?_eq_some_iff.1 hj).2] at this
    rw [hdrop, insT, hxn, hitB_some hx]
    simp only [Bool.not_false, Bool.false_or, Bool.true_and, if_true, Bool.and_self]
    by_cases he : x.nm.toList = t.nm.toList
    · have h1 : (t.nm.toList == x.nm.toList) = true := by simp [he]
      have h2 : (x.nm.toList == t.nm.toList) = true := by simp [he]
      rw [h1, h2, insT_done fun y hy e => ?_]
      · simp only [if_true, List.nil_append, List.singleton_append]
        rw [List.set_eq_take_append_cons_drop, if_pos hil]
      · have h3 := ltS_ne (hrest y hy)
        rw [beq_eq_false_iff_ne] at h3
        exact h3 (by rw [← e, he])
    · have h1 : (t.nm.toList == x.nm.toList) = false := by rw [beq_eq_false_iff_ne]; exact fun e => he e.symm
      have h2 : (x.nm.toList == t.nm.toList) = false := by rw [beq_eq_false_iff_ne]; exact he
      have htx : ltS t.nm x.nm = true := by
        cases h : ltS t.nm x.nm with
        | true => rfl
        | false => exact absurd (less_tri _ _ hxn h) he
      rw [h1, h2, insT_done fun y hy e => ?_]
      · simp
      · have h3 := ltS_ne (ltS_trans _ _ _ htx (hrest y hy))
        rw [beq_eq_false_iff_ne] at h3
        exact h3 e.symm
theorem putC_a {l : List Tb} {t : Tb} (h : storB l = false) : putC l t = (false, []) := by unfold putC; rw [h]; rfl
theorem putC_b {l : List Tb} {t : Tb} (h : storB (insT false t l) = false) : putC l t = (false, []) := by unfold putC; rw [h]; simp
theorem putC_ok {l : List Tb} {t : Tb} (h : storB l = true) (k : storB (insT false t l) = true) : putC l t = (true, insT false t l) := by unfold putC; rw [h, k]; rfl
end Go.Proofs.YtedogodccblfeaaGreatDoor

namespace Go.Proofs.YtedogodccblfeaaGreatDoor
open Go.RowKit
set_option linter.unusedVariables false
set_option linter.unusedSimpArgs false

def cmp3 (a b : ByteArray) : Int := if ltS a b then -1 else if ltS b a then 1 else 0
set_option maxHeartbeats 2000000 in
theorem putcmp_any (w : World) (x : Te) (s : ByteArray) :
    Calls Tryz.prog 92 #[.agg #[.string x.nm, .slice x.A x.n x.c, .int .i64 x.nx, .slice x.B x.m x.d], .string s] w fun e w' => e = .returned (.int .i64 (cmp3 x.nm s)) ∧ Below w.heap.size w w' := by
  have K0 := (Hold.begin_ w).alloc_cst #[.string x.nm, .slice x.A x.n x.c, .int .i64 x.nx, .slice x.B x.m x.d] 58
  have F0 := K0.facts
  simp only [World.size_alloc, World.size_drew, factsL, cellsF, Nat.reduceAdd, List.toList_toArray, List.set_cons_zero, List.set_cons_succ, List.setIfInBounds_toArray, and_true, true_and] at F0
  obtain ⟨r, hr⟩ : ∃ r, r = cmp3 x.nm s := ⟨_, rfl⟩
  rw [← hr]
  have HR := hid hr
  clear hr
  cases h1 : Op.bytesLess x.nm.toList s.toList with
  | true =>
    have h : r = -1 := by rw [HR.out]; unfold cmp3 ltS; rw [h1]; rfl
    subst h
    go_enter Tryz.func92, Tryz.ntmps92
    go_wp2_with fail
    go_ret
    exact ⟨rfl, K0.below⟩
  | false =>
    cases h2 : Op.bytesLess s.toList x.nm.toList with
    | true =>
      have h : r = 1 := by rw [HR.out]; unfold cmp3 ltS; rw [h1, h2]; rfl
      have he : (x.nm.toList == s.toList) = false := by rw [beq_eq_false_iff_ne]; exact ((less_asymm _ _ h2).2).symm
      subst h
      go_enter Tryz.func92, Tryz.ntmps92
      go_wp2_with fail
      go_ret
      exact ⟨rfl, K0.below⟩
    | false =>
      have h : r = 0 := by rw [HR.out]; unfold cmp3 ltS; rw [h1, h2]; rfl
      have he : (x.nm.toList == s.toList) = true := by rw [less_tri _ _ h1 h2]; simp
      subst h
      go_enter Tryz.func92, Tryz.ntmps92
      go_wp2_with fail
      go_ret
      exact ⟨rfl, K0.below⟩
theorem cmp3_zero {a b : ByteArray} : (cmp3 a b == 0) = (a.toList == b.toList) := by
  unfold cmp3 ltS
  cases h1 : Op.bytesLess a.toList b.toList with
  | true =>
    have := (less_asymm _ _ h1).2
    simp [this]
  | false =>
    cases h2 : Op.bytesLess b.toList a.toList with
    | true =>
      have := (less_asymm _ _ h2).2
      simp [this.symm]
    | false => simp [less_tri _ _ h1 h2]
theorem cmp3_neg {a b : ByteArray} : decide (cmp3 a b < 0) = ltS a b := by
  unfold cmp3
  cases h1 : ltS a b with
  | true => rfl
  | false => cases h2 : ltS b a <;> rfl
set_option maxHeartbeats 4000000 in
set_option maxRecDepth 100000 in
theorem bsfunc_any (M : Nat → Prop) (w : World) (hM : ∀ b, M b → b < w.heap.size) (A : Option Addr) (n c : Nat) (l : List Te) (s : ByteArray) (hD : Ro w M (TesIn A n l)) (hn : n ≤ 4611686018427387904) :
    Calls Tryz.prog 91 #[.slice A n c, .string s, .func (.func 92) #[] #[]] w fun e w' => ∃ i : Nat, i ≤ n ∧ e = .returned (.tuple #[.int .i64 i, .bool (hitB (l.map Te.tb) s i)]) ∧ (NmAsc (l.map Te.tb) → BsAt ((l.map Te.tb).map Tb.nm) s i i) ∧ Below w.heap.size w w' := by
  have HL := hid hD.now.len
  have K0 := ((Hold.start M w hM).add (hD.less (by simp [Mut])))
  clear hD
  go_enter Tryz.func91, Tryz.ntmps91
  go_wp2_with fail
  go_loopw [9, 10] (fun iv jv wr => ∃ lo hi : Nat, lo ≤ hi ∧ hi ≤ n ∧ iv = .int .i64 lo ∧ jv = .int .i64 hi ∧ Hid (NmAsc (l.map Te.tb) → BsAt ((l.map Te.tb).map Tb.nm) s lo hi) ∧ Hold M none w wr [.ro (TesIn A n l)]) (fun iv jv _ => (intOf jv).toNat - (intOf iv).toNat)
  case atStart => exact ⟨0, n, by omega, by omega, rfl, rfl, hid fun _ => ⟨fun j a _ h => absurd h (by omega), fun j a h hj => absurd (List.getElem?_eq_some_iff.1 h).1 (by simp only [List.length_map]; have := HL.out; omega)⟩, K0⟩
  case round =>
    clear K0
    obtain ⟨lo, hi, h1, h2, rfl, rfl, HB, H⟩ := hrel
    by_cases hlt : lo < hi
    · have hd : decide ((lo : Int) < (hi : Int)) = true := by simp; omega
      obtain ⟨m, hm⟩ : ∃ m : Nat, m = (lo + hi) / 2 := ⟨_, rfl⟩
      have hm1 : lo ≤ m := by omega
      have hm2 : m < hi := by omega
      have hmi : ((lo : Int) + hi) / 2 = m := by omega
      have HM := hid hm; clear hm
      have j0 : (0 : Int) ≤ (m : Int) := by omega
      have j1 : (m : Int) < (n : Int) := by omega
      obtain ⟨x, hx⟩ := get_of HL.out (show m < n by omega)
      obtain ⟨g, o, rfl, hb, c0, c1, c2, c3, -⟩ := (H.ro 0 rfl).now.at_ hx
      have HX := hid hx
      have HN := hid (show ((l.map Te.tb).map Tb.nm)[m]? = some x.nm by rw [List.getElem?_map, te_at hx]; rfl)
      clear hx
      cases hl : ltS x.nm s with
      | true =>
        have hneg : decide (cmp3 x.nm s < 0) = true := cmp3_neg.trans hl
        have hneg2 : cmp3 x.nm s < 0 := of_decide_eq_true hneg
        have HB2 := hid (show NmAsc (l.map Te.tb) → BsAt ((l.map Te.tb).map Tb.nm) s (m + 1) hi from fun ha => bs_up ha (HB.out ha) HN.out hl ltS_trans)
        clear hl
        go_wp2_with fail
        refine (putcmp_any _ x s).mono ?_
        rintro e w1 ⟨rfl, b1⟩
        have K1 := H.call b1
        clear H b1 c0 c1 c2 c3
        obtain ⟨r9, hr9⟩ : ∃ r, r = cmp3 x.nm s := ⟨_, rfl⟩
        rw [← hr9] at hneg hneg2 ⊢
        clear hr9
        go_wp2_with fail
        go_roundw
        case rel => exact ⟨m + 1, hi, by omega, by omega, by first | rfl | go_num, rfl, HB2, K1⟩
        case measure => simp [intOf] <;> omega
      | false =>
        have hneg : decide (cmp3 x.nm s < 0) = false := cmp3_neg.trans hl
        have hneg2 : ¬ cmp3 x.nm s < 0 := of_decide_eq_false hneg
        have hneg3 : 0 ≤ cmp3 x.nm s := by omega
        have HB2 := hid (show NmAsc (l.map Te.tb) → BsAt ((l.map Te.tb).map Tb.nm) s lo m from fun ha => bs_down ha (HB.out ha) HN.out hl ltS_trans)
        clear hl
        go_wp2_with fail
        refine (putcmp_any _ x s).mono ?_
        rintro e w1 ⟨rfl, b1⟩
        have K1 := H.call b1
        clear H b1 c0 c1 c2 c3
        obtain ⟨r9, hr9⟩ : ∃ r, r = cmp3 x.nm s := ⟨_, rfl⟩
        rw [← hr9] at hneg hneg2 hneg3 ⊢
        clear hr9
        go_wp2_with fail
        go_roundw
        case rel => exact ⟨lo, m, by omega, by omega, by first | rfl | go_num, rfl, HB2, K1⟩
        case measure => simp [intOf] <;> omega
    · obtain rfl : lo = hi := by omega
      have hd : decide ((lo : Int) < (lo : Int)) = false := by simp
      by_cases hln : lo < n
      · have hd2 : decide ((lo : Int) < (n : Int)) = true := by simp; omega
        have j0 : (0 : Int) ≤ (lo : Int) := by omega
        have j1 : (lo : Int) < (n : Int) := by omega
        obtain ⟨x, hx⟩ := get_of HL.out hln
        obtain ⟨g, o, rfl, hb, c0, c1, c2, c3, -⟩ := (H.ro 0 rfl).now.at_ hx
        obtain ⟨h9, hh9⟩ : ∃ h, h = hitB (l.map Te.tb) s lo := ⟨_, rfl⟩
        have hz : (cmp3 x.nm s == 0) = h9 := by rw [hh9, hitB_some (te_at hx)]; exact cmp3_zero
        have HH := hid hh9
        clear hx hh9
        go_wp2_with fail
        refine (putcmp_any _ x s).mono ?_
        rintro e w1 ⟨rfl, b1⟩
        have K1 := H.call b1
        have HBE := hid K1.below
        clear H b1 c0 c1 c2 c3 K1
        obtain ⟨r9, hr9⟩ : ∃ r, r = cmp3 x.nm s := ⟨_, rfl⟩
        rw [← hr9] at hz ⊢
        clear hr9
        go_wp2_with fail
        (try simp only [Exit.inBlock, Exit.then])
        refine bodyPost_ret (results_tmp2 rfl _ _ _) rfl ?_
        exact ⟨lo, by omega, by rw [← HH.out]; rfl, HB.out, HBE.out⟩
      · have hd2 : decide ((lo : Int) < (n : Int)) = false := by simp; omega
        have HH := hid (show hitB (l.map Te.tb) s lo = false from hitB_none (by rw [List.getElem?_map, List.getElem?_eq_none (by rw [HL.out]; omega)]; rfl))
        have HBE := hid H.below
        go_wp2_with fail
        (try simp only [Exit.inBlock, Exit.then])
        refine bodyPost_ret (results_tmp2 rfl _ _ _) rfl ?_
        exact ⟨lo, by omega, by rw [HH.out]; rfl, HB.out, HBE.out⟩
end Go.Proofs.YtedogodccblfeaaGreatDoor

namespace Go.Proofs.YtedogodccblfeaaGreatDoor
open Go.RowKit
set_option linter.unusedVariables false
set_option linter.unusedSimpArgs false

section
variable {P : Program} {M : Nat → Prop} {row : Option Nat} {w0 w w' : World} {L L' : List Hp}
theorem run_copy_rowS (w : World) (dT sT ty elem : TypeId) (size g o dLen dCap : Nat) (a : Addr) (sLen sCap : Nat) (cur : Array Value) (t : TypeId) (cs : List Value)
    (hu : P.underlying dT = some (.slice elem)) (hs : (P.info? elem).map (·.size) = some size)
    (hg : w.heap[g]? = some (.cells cur t (0, 0))) (hn : cs.length = Nat.min sLen dLen * size)
    (hsrc : ∀ j v, cs[j]? = some v → w.cell? (a.add j) = some v) (hfit : o + cs.length ≤ cur.size) (h1 : ∀ v ∈ cs, v.oneCell' = true) :
    (Builtin.copy_ #[dT, sT] ty #[.slice (some ⟨g, o, none⟩) dLen dCap, .slice (some a) sLen sCap]).run P w =
      .ok (goInt (Nat.min sLen dLen)) (w.setRow g (cur.toList.take o ++ cs ++ cur.toList.drop (o + cs.length)).toArray) := by
  have hl := run_loadCells_list (P := P) w a cs hsrc
  have hst := run_storeCells_at P g o t cs 0 cur w hg (by simpa using hfit) h1
  cases hq : P.info? elem with
  | none => simp [hq] at hs
  | some i =>
    have hi : i.size = size := by simpa [hq] using hs
    simp [Builtin.copy_, run_underlying hu, Builtin.lenOf, Builtin.firstCells, sizeOf, typeInfo, hq, hi, ← hn, hl, hst]
/-- a row is taken with all its room -/
theorem Hold.fullRow (K : Hold M row w0 w L) (i : Nat) {e : TypeId} {size n cap g : Nat} {xs : List Value} (hi : L[i]? = some (.own e size (.slice (some ⟨g, 0, none⟩) n cap) n xs)) :
    ∃ ys : List Value, (xs ++ ys).length = cap * size ∧ Hold M row w0 w (L.set i (.own e size (.slice (some ⟨g, 0, none⟩) cap cap) cap (xs ++ ys))) := by
  have hown := K.get i hi
  have hkm := List.mem_of_getElem? hi
  rcases hown.2 with ⟨h, _⟩ | ⟨g', cap', cur, hv, hb, hg, hle, hm, hcs, ht⟩
  · cases h
  · obtain ⟨e1, _, e2⟩ := Value.slice.inj hv
    injection e1 with e1; injection e1 with e1
    subst e1 e2
    have e3 : xs ++ cur.toList.drop (n * size) = cur.toList := by rw [← ht, List.take_append_drop]
    refine ⟨cur.toList.drop (n * size), by rw [e3]; simpa using hcs, ?_⟩
    rw [e3]
    refine K.turn i hi (Nat.le_refl _) ⟨rfl, rfl, rfl⟩ (fun _ _ _ => rfl) (fun b hf => ⟨.inl hf, (K.fresh _ hkm b hf).2⟩) ?_ (fun T hT => by cases hT)
    exact ⟨by simpa using hcs, .inr ⟨g, cap, cur, rfl, hb, hg, Nat.le_refl _, hm, hcs, List.take_of_length_le (by rw [Array.length_toList, hcs]; exact Nat.le_refl _)⟩⟩
/-- all cells of a full row are set -/
theorem Hold.setFull (K : Hold M row w0 w L) (i : Nat) {e : TypeId} {size cap g : Nat} {xs : List Value} (hi : L[i]? = some (.own e size (.slice (some ⟨g, 0, none⟩) cap cap) cap xs)) (ys : List Value) (hl : ys.length = xs.length) :
    Hold M row w0 (w.setRow g ys.toArray) (L.set i (.own e size (.slice (some ⟨g, 0, none⟩) cap cap) cap ys)) := by
  have hown := K.get i hi
  have hkm := List.mem_of_getElem? hi
  have hx := hown.1
  rcases hown.2 with ⟨h, _⟩ | ⟨g', cap', cur, hv, hb, hg, hle, hm, hcs, ht⟩
  · cases h
  · obtain ⟨e1, _, e2⟩ := Value.slice.inj hv
    injection e1 with e1; injection e1 with e1
    subst e1 e2
    have hlt := (K.fresh _ hkm g rfl).2
    refine K.turn i hi (by simp [World.setRow]) ⟨rfl, rfl, rfl⟩ (fun b hl hne => setRow_other w g b ys.toArray fun e => hne (by rw [e]; rfl)) (fun b hf => ⟨.inl hf, ?_⟩) ?_ (fun T hT => by cases hT)
    · have hf' : some g = some b := hf
      injection hf' with hf'
      subst hf'
      simpa [World.setRow] using hlt
    · exact ⟨by rw [hl]; exact hx, .inr ⟨g, cap, ys.toArray, rfl, hb, setRow_heap w g cur _ e _ hg, Nat.le_refl _, hm, by simp [hl, hx], by rw [List.take_of_length_le (by simp [hl, hx])]⟩⟩
theorem own_full {B : Nat} {e : TypeId} {size cap g : Nat} {xs : List Value} (h : w.ownsRow B e size (.slice (some ⟨g, 0, none⟩) cap cap) cap xs) : w.heap[g]? = some (.cells xs.toArray e (0, 0)) := by
  rcases h.2 with ⟨h, _⟩ | ⟨g', cap', cur, hv, hb, hg, hle, hm, hcs, ht⟩
  · cases h
  · obtain ⟨e1, _, e2⟩ := Value.slice.inj hv
    injection e1 with e1; injection e1 with e1
    subst e1 e2
    rw [List.take_of_length_le (by rw [Array.length_toList, hcs]; exact Nat.le_refl _)] at ht
    rw [hg, ← ht]
/-- copy into a full row of the call's own -/
theorem wpList_copyS (K : Hold M row w0 w L) (i : Nat) {t e : TypeId} {size bytes cap g : Nat} {xs : List Value} {z : Value} (hi : L[i]? = some (.own e size (.slice (some ⟨g, 0, none⟩) cap cap) cap xs)) (hE : ElemT P t e size bytes z)
    {ops : Array Oper} {rest : List Oper} {o : Oper} {a : Act} {Q : Exit → Act → World → Prop} (hgd : o.guard = none) (d s : Operand) (ho : o.op = .call { callee := .builtin .copy, args := #[d, s], argTypes := #[t, t] })
    (p dLen dCap sLen sCap : Nat) (ad : Addr) (hd : a.eval d = .slice (some ⟨g, p, none⟩) dLen dCap) (hs : a.eval s = .slice (some ad) sLen sCap) (cs : List Value) (hn : cs.length = Nat.min sLen dLen * size)
    (hsrc : ∀ j v, cs[j]? = some v → w.cell? (ad.add j) = some v) (hfit : p + cs.length ≤ xs.length) (h1 : ∀ v ∈ cs, v.oneCell' = true)
    (h : ∀ w', Hold M row w0 w' (L.set i (.own e size (.slice (some ⟨g, 0, none⟩) cap cap) cap (splice xs p cs))) → wpList P ops Q rest (a.put o.dst (goInt (Nat.min sLen dLen))) w') : wpList P ops Q (o :: rest) a w := by
  refine wpList_plain hgd fun K' hK' => ?_
  have hg := own_full (K.get i hi)
  have hinf : (P.info? e).map (·.size) = some size := by
    obtain ⟨i0, hi1, hi2, hi3, hi4⟩ := info_parts hE.hi
    rw [hi1]; simp [hi3]
  have hrun := run_copy_rowS (P := P) w t t o.type e size g p dLen dCap ad sLen sCap xs.toArray e cs hE.ht hinf hg hn hsrc (by simpa using hfit) h1
  have K2 := K.setFull i hi (splice xs p cs) (length_splice _ _ _ hfit)
  unfold Oper.wp
  simp [execOp, ho, resolve, invoke, builtin, hd, hs, hrun, Result.andThen]
  refine hK' _ _ (h _ ?_)
  simpa [splice] using K2
/-- append(s[:n], make(..)...), no room: a new row, full -/
theorem wpList_appZerosH (K : Hold M row w0 w L) {t tn e : TypeId} {size bytes : Nat} {z : Value} (hE : ElemT P t e size bytes z) {kn : IntKind} (htn : P.underlying tn = some (.int kn))
    {ops : Array Oper} {rest : List Oper} {o : Oper} {a : Act} {Q : Exit → Act → World → Prop} (hgd : o.guard = none) (s x : Operand) (ho : o.op = .call { callee := .builtin .append, args := #[s, x], argTypes := #[t, tn] })
    (ad : Addr) (sLen sCap k : Nat) (kz : Int) (hkz : kz = (k : Int)) (kq : IntKind) (hs : a.eval s = .slice (some ad) sLen sCap) (hx : a.eval x = .int kq kz) (olds : List Value) (hl : olds.length = sLen * size) (hold : ∀ j v, olds[j]? = some v → w.cell? (ad.add j) = some v)
    (h0 : 0 < k) (hg : sCap < sLen + k) (hb : (sLen + k) * bytes ≤ 140737488355328) (h63 : sLen + k < 140737488355328)
    (h : ∀ g cap ys w', sLen + k ≤ cap → cap ≤ 9223372036854775807 → (olds ++ ys).length = cap * size → Hold M row w0 w' (.own e size (.slice (some ⟨g, 0, none⟩) cap cap) cap (olds ++ ys) :: L) → wpList P ops Q rest (a.put o.dst (.slice (some ⟨g, 0, none⟩) (sLen + k) cap)) w') :
    wpList P ops Q (o :: rest) a w := by
  subst hkz
  obtain ⟨i0, hi1, hi2, hi3, hi4⟩ := info_parts hE.hi
  have hlo := run_loadCells_list (P := P) w.drew ad olds hold
  have hold2 : (Builtin.firstCells i0.size sLen (.slice (some ad) sLen sCap)).run P w.drew = .ok olds.toArray w.drew := by
    have e1 : sLen * i0.size = olds.length := by rw [hi3, hl]
    simp [Builtin.firstCells, e1, hlo]
  have hrun := Lib.run_append_grow_zeros (P := P) w t tn o.type e i0 z kq kn hE.ht htn hi1 hi2 (some ad) sLen sCap olds hold2 k h0 (by rw [hi3]; exact hE.hsz) hg (by omega) (by rw [hi4]; have : k * bytes ≤ (sLen + k) * bytes := Nat.mul_le_mul_right _ (by omega); omega) (growslice_fits (by omega) (by rw [hi4]; omega))
  have hGn : sLen + k ≤ grownCap w (sLen + k) sCap e := grownCap_ge w _ _ _
  have hGm : grownCap w (sLen + k) sCap e ≤ maxLen := grownCap_le_maxLen w _ _ _ (by unfold maxLen; omega)
  obtain ⟨G, hG⟩ : ∃ G, G = grownCap w (sLen + k) sCap e := ⟨_, rfl⟩
  rw [← hG] at hrun hGn hGm
  have hzl : ∀ m, (Builtin.zeroCells z.cells m).size = m * size := fun m => by simp [Builtin.zeroCells, hE.hzs]
  have hsz : (olds.toArray ++ Builtin.zeroCells z.cells k ++ Builtin.zeroCells z.cells (G - (sLen + k))).size = G * size := by
    rw [Array.size_append, Array.size_append, hzl, hzl, List.size_toArray, hl, ← Nat.add_mul, ← Nat.add_mul]
    congr 1; omega
  have K1 := K.drew.alloc_own (olds.toArray ++ Builtin.zeroCells z.cells k ++ Builtin.zeroCells z.cells (G - (sLen + k))) e size G hGm hsz
  have e2 : (olds.toArray ++ Builtin.zeroCells z.cells k ++ Builtin.zeroCells z.cells (G - (sLen + k))).toList = olds ++ ((Builtin.zeroCells z.cells k).toList ++ (Builtin.zeroCells z.cells (G - (sLen + k))).toList) := by simp
  have hlen : (olds ++ ((Builtin.zeroCells z.cells k).toList ++ (Builtin.zeroCells z.cells (G - (sLen + k))).toList)).length = G * size := by rw [← e2]; simpa using hsz
  rw [e2, Array.append_assoc] at K1
  refine wpList_plain hgd fun K' hK' => ?_
  unfold Oper.wp
  simp [execOp, ho, resolve, invoke, builtin, hs, hx, hrun, Result.andThen]
  exact hK' _ _ (h _ G _ _ hGn (by unfold maxLen at hGm; omega) hlen K1)
theorem splice1 {α : Type} (a t b : List α) : splice (a ++ t) a.length b = a ++ (b ++ t.drop b.length) := by
  unfold splice
  rw [List.take_left', List.drop_append]
  · simp
  · rfl
theorem splice_grow {α : Type} (a b c ys : List α) : splice (splice (a ++ ys) a.length b) (a.length + b.length) c = a ++ (b ++ (c ++ (ys.drop b.length).drop c.length)) := by
  rw [splice1, ← List.append_assoc, ← List.length_append, splice1, List.append_assoc]
theorem splice_in {α : Type} (a b c ys : List α) (h : b.length ≤ (c ++ ys).length) : ∃ r, splice (splice ((a ++ c) ++ ys) (a.length + b.length) c) a.length b = a ++ (b ++ (c ++ r)) := by
  obtain ⟨p, q, hpq, hp⟩ : ∃ p q, c ++ ys = p ++ q ∧ p.length = b.length := ⟨(c ++ ys).take b.length, (c ++ ys).drop b.length, (List.take_append_drop _ _).symm, by rw [List.length_take]; omega⟩
  refine ⟨q.drop c.length, ?_⟩
  rw [List.append_assoc, hpq, ← List.append_assoc, ← hp, ← List.length_append, splice1, List.append_assoc, splice1]
  congr 2
  rw [← hp, List.drop_left']
  rfl
theorem take_three {α : Type} (a b c r : List α) {n : Nat} (h : n = a.length + b.length + c.length) : (a ++ (b ++ (c ++ r))).take n = a ++ (b ++ c) := by
  subst h
  have e : a ++ (b ++ (c ++ r)) = (a ++ (b ++ c)) ++ r := by simp
  rw [e, List.take_left']
  simp only [List.length_append]; omega
end
end Go.Proofs.YtedogodccblfeaaGreatDoor

namespace Go.Proofs.YtedogodccblfeaaGreatDoor
open Go.RowKit
set_option linter.unusedVariables false
set_option linter.unusedSimpArgs false

def Tryz.lays106_ren : Go.Shelf.Ren := ⟨fun | 106 => 186 | 213 => 219 | 265 => 233 | n => n, fun | 9 => 9 | 3 => 3 | n => n, fun | n => n⟩
theorem Tryz.lays106 : Go.Proofs.Lays.n106 Tryz.prog Tryz.lays106_ren := {
  mixed := by kernel_rfl
  f106 := Tryz.func186.trans (congrArg some (by kernel_rfl))
  f213 := Tryz.func219.trans (congrArg some (by kernel_rfl))
  f265 := Tryz.func233.trans (congrArg some (by kernel_rfl))
  t3 := Tryz.underlying3
  a3 := Tryz.isAgg3
  z3 := Tryz.sizeOf3
  v3 := Tryz.zeroValue3
  t9 := Tryz.underlying9
  a9 := Tryz.isAgg9
  z9 := Tryz.sizeOf9
  v9 := Tryz.zeroValue9 }
end Go.Proofs.YtedogodccblfeaaGreatDoor

namespace Go.Proofs.YtedogodccblfeaaGreatDoor
open Go.RowKit Go.Maps
set_option linter.unusedVariables false
set_option linter.unusedSimpArgs false

/-- numbers as keys -/
def intFam : KeyFam Tryz.prog 3 Int where
  val := fun x => .int .i64 x
  ok := I64
  key := fun x h => ⟨_, keyOf_int_mk Tryz.underlying3 (wf_i64 h)⟩
  inj := fun x y h => by injection h
theorem Tryz.setI : SetT Tryz.prog 205 3 4 := ⟨Tryz.underlying205, Tryz.underlying4, fun w => by kernel_rfl, int_keyed Tryz.underlying3⟩
section
variable {nm : ByteArray} {cs : List Col} {nx : Int} {rs : List Row} {ins : List (List Vl)} {dels : List Int} {us : List Upd}
end
end Go.Proofs.YtedogodccblfeaaGreatDoor

namespace Go.Proofs.YtedogodccblfeaaGreatDoor
open Go.RowKit
set_option linter.unusedVariables false
set_option linter.unusedSimpArgs false

end Go.Proofs.YtedogodccblfeaaGreatDoor

namespace Go.Proofs.YtedogodccblfeaaGreatDoor
open Go.RowKit
set_option linter.unusedVariables false
set_option linter.unusedSimpArgs false

end Go.Proofs.YtedogodccblfeaaGreatDoor

namespace Go.Proofs.YtedogodccblfeaaGreatDoor
open Go.RowKit
set_option linter.unusedVariables false
set_option linter.unusedSimpArgs false

/-- columns that are known lie in no fresh table -/
theorem Ro.colsOff {w : World} {M : Nat → Prop} {A : Option Addr} {n : Nat} {cs : List Col} (h : Ro w M (ColsIn A n cs)) {g : Nat} {t : TypeId} (hg : w.heap[g]? = some (.cells #[.string ⟨#[]⟩, .slice none 0 0, .int .i64 0, .slice none 0 0] t (0, 0))) : Ro w (fun b => M b ∨ b = g) (ColsIn A n cs) := by
  have h0 : Rd w w.heap.size 4 A n (colCells cs) := h.now
  rcases Nat.eq_zero_or_pos n with hn | hn
  · exact fun w2 _ _ => ⟨h0.1, fun k => absurd k (by omega)⟩
  · obtain ⟨b, o, hA, hb, hc⟩ := h0.2 hn
    obtain ⟨c, hc0⟩ := get_col (l := cs) (k := 0) (RdC.len h0) hn
    have hbg : b ≠ g := by
      rintro rfl
      obtain ⟨b', o', e, _, c0, c1, _⟩ := RdC.at_ (show RdC w w.heap.size A n cs from h0) hc0
      obtain ⟨rfl, rfl⟩ : b = b' ∧ o = o' := by rw [hA] at e; injection e with e; injection e with a1 a2; exact ⟨a1, a2⟩
      rw [cell_of_row w b _ _ t (0, 0) hg] at c0 c1
      rcases o with _ | _ | _ | _ | o <;> simp at c0 c1
    intro w2 h1 h2
    have hgl : g < w.heap.size := (List.getElem?_eq_some_iff.1 (by simpa using hg : w.heap.toList[g]? = _)).1
    have h3 := h { w2 with heap := w2.heap.setIfInBounds g (.cells #[.string ⟨#[]⟩, .slice none 0 0, .int .i64 0, .slice none 0 0] t (0, 0)) } (by simpa using h1) (fun x hx hm => by
      show (w2.heap.setIfInBounds g _)[x]? = _
      by_cases hxg : x = g
      · subst hxg
        rw [Array.getElem?_setIfInBounds_self_of_lt (by omega), hg]
      · rw [Array.getElem?_setIfInBounds_ne (by omega)]
        exact h2 x hx (fun k => k.elim hm hxg))
    obtain ⟨hl, h4⟩ := (show Rd _ _ 4 A n (colCells cs) from h3)
    obtain ⟨b', o', e, _, hc'⟩ := h4 hn
    obtain ⟨rfl, rfl⟩ : b = b' ∧ o = o' := by rw [hA] at e; injection e with e; injection e with a1 a2; exact ⟨a1, a2⟩
    refine ⟨hl, fun _ => ⟨b, o, hA, by omega, fun j u hu => ?_⟩⟩
    rw [← hc' j u hu]
    refine World.cell?_of_block ?_
    show _ = (w2.heap.setIfInBounds g _)[b]?
    rw [Array.getElem?_setIfInBounds_ne (by omega)]
end Go.Proofs.YtedogodccblfeaaGreatDoor

namespace Go.Proofs.YtedogodccblfeaaGreatDoor
open Go.RowKit
set_option linter.unusedVariables false
set_option linter.unusedSimpArgs false

end Go.Proofs.YtedogodccblfeaaGreatDoor

namespace Go.Proofs.YtedogodccblfeaaGreatDoor
open Go.RowKit
set_option linter.unusedVariables false
set_option linter.unusedSimpArgs false

end Go.Proofs.YtedogodccblfeaaGreatDoor

namespace Go.Proofs.YtedogodccblfeaaGreatDoor
open Go.RowKit
set_option linter.unusedVariables false
set_option linter.unusedSimpArgs false

end Go.Proofs.YtedogodccblfeaaGreatDoor

namespace Go.Proofs.YtedogodccblfeaaGreatDoor
open Go.RowKit
set_option linter.unusedVariables false
set_option linter.unusedSimpArgs false

end Go.Proofs.YtedogodccblfeaaGreatDoor

namespace Go.Proofs.YtedogodccblfeaaGreatDoor
open Go.RowKit
set_option linter.unusedVariables false
set_option linter.unusedSimpArgs false

end Go.Proofs.YtedogodccblfeaaGreatDoor

namespace Go.Proofs.YtedogodccblfeaaGreatDoor
open Go.RowKit
set_option linter.unusedVariables false
set_option linter.unusedSimpArgs false

end Go.Proofs.YtedogodccblfeaaGreatDoor

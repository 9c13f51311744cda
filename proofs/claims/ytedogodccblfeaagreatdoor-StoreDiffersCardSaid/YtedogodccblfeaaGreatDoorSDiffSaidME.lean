/- DEls: lists of differences in memory. No program in sight. -/
import Derived.Test.YtedogodccblfeaaGreatDoorSDiffSaidMD
import Derived.Test.YtedogodccblfeaaGreatDoorSDiffSaidMB
import Derived.Test.YtedogodccblfeaaGreatDoorSDiffSaidMC
import Derived.Shelf.SlGeneric
import Derived.Shelf.SlSortCmp.NoneTotal
import Derived.Ground.SlsfProg
import Derived.Test.YtedogodccblfeaaGreatDoorProg
import Derived.Test.YtedogodccblfeaaGreatDoorSDiffSaidMA
import Derived.Shelf.SlSortCmp.QuietGrown
import Derived.Sort.Statements
import Derived.Shelf.SlSortCmp.Insertion
import Derived.Laws.CopyOwn
import Derived.Shelf.Small.Strs
import Derived.Ground.NamesProg
import Derived.OrdersHeld
namespace Go.Proofs.YtedogodccblfeaaGreatDoor
open Go.RowKit
set_option linter.unusedVariables false
set_option linter.unusedSimpArgs false

/-- is the table at a place valid, and its name behind the one before? -/
def stoOk (l : List Tb) (k : Nat) : Bool := match l[k]? with
  | none => true
  | some t => tabB t.nm t.cs t.nx t.rs && (k == 0 || match l[k - 1]? with | some p => Op.bytesLess p.nm.toList t.nm.toList | none => false)
def storB (l : List Tb) : Bool := decide (l.length ≤ 6) && (List.range l.length).all (stoOk l)
theorem storB_big {l : List Tb} (h : 6 < l.length) : storB l = false := by
  unfold storB; rw [decide_eq_false (by omega)]; rfl
theorem storB_bad {l : List Tb} {k : Nat} (hk : k < l.length) (h : stoOk l k = false) : storB l = false := by
  unfold storB
  rw [List.all_eq_false.2 ⟨k, List.mem_range.2 hk, by rw [h]; simp⟩, Bool.and_false]
theorem storB_end {l : List Tb} {n : Nat} (hn : l.length = n) (h6 : n ≤ 6) (h : (List.range n).all (stoOk l) = true) : storB l = true := by
  unfold storB
  rw [hn, h, decide_eq_true h6]; rfl
theorem range_next {p : Nat → Bool} {k : Nat} (h : (List.range k).all p = true) (hk : p k = true) : (List.range (k + 1)).all p = true := by
  rw [List.range_succ, List.all_append, h]; simp [hk]
theorem stoOk_tab {l : List Tb} {k : Nat} {t : Tb} (h : l[k]? = some t) (hb : tabB t.nm t.cs t.nx t.rs = false) : stoOk l k = false := by unfold stoOk; rw [h]; simp [hb]
theorem stoOk_zero {l : List Tb} {t : Tb} (h : l[0]? = some t) (hb : tabB t.nm t.cs t.nx t.rs = true) : stoOk l 0 = true := by unfold stoOk; rw [h]; simp [hb]
theorem stoOk_next {l : List Tb} {j : Nat} {t p : Tb} (h : l[j + 1]? = some t) (hp : l[j]? = some p) (hb : tabB t.nm t.cs t.nx t.rs = true) : stoOk l (j + 1) = Op.bytesLess p.nm.toList t.nm.toList := by
  unfold stoOk
  rw [h, show j + 1 - 1 = j from rfl, hp]
  simp [hb]
theorem te_at {l : List Te} {k : Nat} {x : Te} (h : l[k]? = some x) : (l.map Te.tb)[k]? = some x.tb := by rw [List.getElem?_map, h]; rfl
set_option maxHeartbeats 8000000 in
set_option maxRecDepth 100000 in
theorem stvalid_any (M : Nat → Prop) (w : World) (hM : ∀ b, M b → b < w.heap.size) (A : Option Addr) (n c : Nat) (l : List Te) (hL : Ro w M (TesIn A n l)) (hok : ∀ x ∈ l, x.ok ∧ TbM x.tb) (hn : n ≤ 4611686018427387904) :
    Calls Tryz.prog 33 #[.slice A n c] w fun e w' => e = .returned (.bool (storB (l.map Te.tb))) ∧ Below w.heap.size w w' := by
  have HL := hid hL.now.len
  have HOK := hid hok
  have K0 := (Hold.start M w hM).add (hL.less (by simp [Mut]))
  clear hok hL
  go_enter Tryz.func33, Tryz.ntmps33
  by_cases h6 : 6 < n
  · have hb : decide ((n : Int) > 6) = true := by simp; omega
    have hb' : decide (6 < n) = true := by simp; omega
    have HN := hid (storB_big (l := l.map Te.tb) (by rw [List.length_map, HL.out]; exact h6))
    clear h6
    go_wp2_with fail
    go_ret
    exact ⟨by rw [HN.out] <;> rfl, K0.below⟩
  have hb : decide ((n : Int) > 6) = false := by simp; omega
  have hb' : decide (6 < n) = false := by simp; omega
  go_wp2_with fail
  clear hb hb'
  go_loopw [10] (fun iv wr => ∃ (k : Nat), k ≤ n ∧ iv = .int .i64 k ∧ Hid ((List.range k).all (stoOk (l.map Te.tb)) = true) ∧ Hold M none w wr [.ro (TesIn A n l)]) (fun iv _ => n - (intOf iv).toNat)
  case atStart => exact ⟨0, by omega, rfl, hid rfl, K0⟩
  case round =>
    clear K0
    obtain ⟨k, hk, rfl, HR, H⟩ := hrel
    by_cases hlt : k < n
    · have hdd : decide ((k : Int) < (n : Int)) = true := by simp; omega
      have i0 : (0 : Int) ≤ (k : Int) := by omega
      have i1 : (k : Int) < (n : Int) := by omega
      obtain ⟨x, hx⟩ := get_of HL.out hlt
      have HXT := hid (te_at hx)
      have HXO := hid (HOK.out x (List.mem_of_getElem? hx)).1
      have HXM := hid (HOK.out x (List.mem_of_getElem? hx)).2
      have hxr : Ro wr _ (TeIn x) := (H.ro 0 rfl).imp fun w2 h2 => h2.2 x (List.mem_of_getElem? hx)
      have HXB := hid (show x.n ≤ 9223372036854775807 ∧ x.m ≤ 4611686018427387904 from ⟨Nat.le_trans HXO.out.nc HXO.out.c, by
        have h1 := HXM.out.rs
        have h2 : x.l.length = x.m := hxr.now.2.len
        have h3 : x.tb.rs.length = x.l.length := List.length_map ..
        omega⟩)
      obtain ⟨g, o, rfl, hgb, c0, c1, c2, c3, -⟩ := (H.ro 0 rfl).now.at_ hx
      have HIX := hid hx
      clear hx
      obtain ⟨VB, hVB⟩ : ∃ VB, tabB x.nm x.cs x.nx (x.l.map Rw.row) = VB := ⟨_, rfl⟩
      have HVB := hid hVB
      clear hVB
      have K2 := H.alloc_cst #[.string x.nm, .slice x.A x.n x.c, .int .i64 x.nx, .slice x.B x.m x.d] 58
      clear H hxr
      have FA := K2.facts
      simp only [factsL, cellsF, Nat.reduceAdd, zf, zl] at FA
      go_wp2_with fail
      obtain ⟨gx, hgx⟩ : ∃ gx, gx = wr.heap.size := ⟨_, rfl⟩
      rw [← hgx] at K2 FA ⊢
      have HGX := hid hgx
      clear hgx c0 c1 c2 c3 hgb FA
      generalize World.alloc wr _ = w2 at K2 ⊢
      obtain ⟨KL, hKL, KN⟩ := K2.name
      have HF : Hid (∀ wv, Hold M none w wv KL → wv.cell? ⟨gx, 0, none⟩ = some (.string x.nm) ∧ wv.cell? ⟨gx, 1, none⟩ = some (.slice x.A x.n x.c) ∧ wv.cell? ⟨gx, 2, none⟩ = some (.int .i64 x.nx) ∧ wv.cell? ⟨gx, 3, none⟩ = some (.slice x.B x.m x.d) ∧ gx < wv.heap.size) := hid fun wv HC => by
        rw [hKL] at HC
        have y0 := HC.cst_ 0 rfl
        exact ⟨cell_of_row _ _ 0 _ _ _ y0, cell_of_row _ _ 1 _ _ _ y0, cell_of_row _ _ 2 _ _ _ y0, cell_of_row _ _ 3 _ _ _ y0, Blk.lt y0⟩
      have HX : Hid (∀ wv, Hold M none w wv KL → Ro wv (Mut M KL) (TeIn x)) := hid fun wv HC => by
        rw [hKL] at HC ⊢
        exact (HC.ro 1 rfl).imp fun w2 h2 => h2.2 x (List.mem_of_getElem? HIX.out)
      have HKL := hid hKL
      have HKN := KN
      obtain rfl | rfl : VB = false ∨ VB = true := by cases VB <;> simp
      · skip
        have HN := hid (storB_bad (by rw [List.length_map, HL.out]; exact hlt) (stoOk_tab HXT.out HVB.out))
        clear hKL K2
        refine wp_region_any (by kernel_rfl) ?_
        refine wpAny_hold 20 36 (KL) (spL [(16, IsV (.bool false))]) (by kernel_rfl) (by kernel_rfl) (by kernel_rfl) rfl ?_ (KN.drew) ?_
        · exact stays_cons isV_mono (stays_nil _)
        simp only [zd, Act.put, List.getElem_toArray, List.getElem_cons_zero, List.getElem_cons_succ, zl]
        refine dw_val rfl rfl rfl ?_; apply Exists.intro; refine ⟨fun wv HC => ?_, ?_⟩
        · obtain ⟨f0, f1, f2, f3, f4⟩ := HF.out _ HC; go_simp <;> rfl
        simp only [Act.put, zl]
        refine dw_callR 16 (IsV (.bool false)) (f := 87) (args := #[.agg #[.string x.nm, .slice x.A x.n x.c, .int .i64 x.nx, .slice x.B x.m x.d]]) rfl rfl rfl rfl (fun wv => ?_) (fun wv HC hrm hD => ?_) ?_
        · go_simp <;> rfl
        · refine (tvalid_any _ wv HC.mutLt x.nm x.A x.n x.c x.cs x.nx x.B x.m x.d x.l ((HX.out _ HC).imp fun w h => h.1) ((HX.out _ HC).imp fun w h => h.2) HXB.out.1 HXB.out.2 HXO.out.l HXM.out.nm HXM.out.cs).mono ?_
          rintro e w5 ⟨rfl, b5⟩
          exact ⟨_, rfl, by rw [HVB.out]; rfl, HC.call b5, RM.below b5⟩
        rintro u_ wx HCx rfl
        clear HCx
        simp only [Act.put, zl]
        refine dw_val rfl rfl rfl ?_; apply Exists.intro; refine ⟨fun wv HC => ?_, ?_⟩
        ·  go_simp <;> rfl
        simp only [Act.put, zl]
        refine dw_val rfl rfl rfl ?_; apply Exists.intro; refine ⟨fun wv HC => ?_, ?_⟩
        ·  go_simp <;> rfl
        simp only [Act.put, zl]
        refine dw_skip rfl rfl rfl ?_
        simp only [Act.put, zl]
        refine dw_skip rfl rfl rfl ?_
        simp only [Act.put, zl]
        refine dw_skip rfl rfl rfl ?_
        simp only [Act.put, zl]
        refine dw_skip rfl rfl rfl ?_
        simp only [Act.put, zl]
        refine dw_skip rfl rfl rfl ?_
        simp only [Act.put, zl]
        refine dw_skip rfl rfl rfl ?_
        simp only [Act.put, zl]
        refine dw_skip rfl rfl rfl ?_
        simp only [Act.put, zl]
        refine dw_skip rfl rfl rfl ?_
        simp only [Act.put, zl]
        refine dw_skip rfl rfl rfl ?_
        simp only [Act.put, zl]
        refine dw_skip rfl rfl rfl ?_
        simp only [Act.put, zl]
        refine dw_skip rfl rfl rfl ?_
        simp only [Act.put, zl]
        refine dw_skip rfl rfl rfl ?_
        simp only [Act.put, zl]
        refine dw_skip rfl rfl rfl ?_
        simp only [Act.put, zl]
        refine dw_skip rfl rfl rfl ?_
        simp only [Act.put, zl]
        refine dw_skip rfl rfl rfl ?_
        simp only [Act.put, zl]
        refine dw_val rfl rfl rfl ?_; apply Exists.intro; refine ⟨fun wv HC => ?_, ?_⟩
        ·  go_simp <;> rfl
        simp only [Act.put, zl]
        refine rel_nil ?_
        rintro wx9 HX9
        rintro _hrm _HG
        clear _hrm _HG
        rw [HKL.out] at HX9
        go_wp2_with fail
        go_ret
        exact ⟨by rw [HN.out] <;> rfl, HX9.below⟩
      · skip
        have HVT := hid HVB.out
        cases k with
        | zero =>
          have hz : decide (((0 : Nat) : Int) > 0) = false := by decide
          (try simp only [Nat.zero_mul, Nat.add_zero] at HF)
          have HN := hid (range_next HR.out (stoOk_zero HXT.out HVT.out))
          clear hKL K2
          refine wp_region_any (by kernel_rfl) ?_
          refine wpAny_hold 20 36 (KL) (spL [(16, IsV (.bool true))]) (by kernel_rfl) (by kernel_rfl) (by kernel_rfl) rfl ?_ (KN.drew) ?_
          · exact stays_cons isV_mono (stays_nil _)
          simp only [zd, Act.put, List.getElem_toArray, List.getElem_cons_zero, List.getElem_cons_succ, zl]
          refine dw_val rfl rfl rfl ?_; apply Exists.intro; refine ⟨fun wv HC => ?_, ?_⟩
          · obtain ⟨f0, f1, f2, f3, f4⟩ := HF.out _ HC; go_simp <;> rfl
          simp only [Act.put, zl]
          refine dw_callR 16 (IsV (.bool true)) (f := 87) (args := #[.agg #[.string x.nm, .slice x.A x.n x.c, .int .i64 x.nx, .slice x.B x.m x.d]]) rfl rfl rfl rfl (fun wv => ?_) (fun wv HC hrm hD => ?_) ?_
          · go_simp <;> rfl
          · refine (tvalid_any _ wv HC.mutLt x.nm x.A x.n x.c x.cs x.nx x.B x.m x.d x.l ((HX.out _ HC).imp fun w h => h.1) ((HX.out _ HC).imp fun w h => h.2) HXB.out.1 HXB.out.2 HXO.out.l HXM.out.nm HXM.out.cs).mono ?_
            rintro e w5 ⟨rfl, b5⟩
            exact ⟨_, rfl, by rw [HVB.out]; rfl, HC.call b5, RM.below b5⟩
          rintro u_ wx HCx rfl
          clear HCx
          simp only [Act.put, zl]
          refine dw_val rfl rfl rfl ?_; apply Exists.intro; refine ⟨fun wv HC => ?_, ?_⟩
          ·  go_simp <;> rfl
          simp only [Act.put, zl]
          refine dw_val rfl rfl rfl ?_; apply Exists.intro; refine ⟨fun wv HC => ?_, ?_⟩
          ·  go_simp <;> rfl
          simp only [Act.put, zl]
          refine dw_val rfl rfl rfl ?_; apply Exists.intro; refine ⟨fun wv HC => ?_, ?_⟩
          ·  go_simp <;> rfl
          simp only [Act.put, zl]
          refine dw_val rfl rfl rfl ?_; apply Exists.intro; refine ⟨fun wv HC => ?_, ?_⟩
          ·  go_simp <;> rfl
          simp only [Act.put, zl]
          refine dw_val rfl rfl rfl ?_; apply Exists.intro; refine ⟨fun wv HC => ?_, ?_⟩
          ·  go_simp <;> rfl
          simp only [Act.put, zl]
          refine dw_skip rfl rfl rfl ?_
          simp only [Act.put, zl]
          refine dw_skip rfl rfl rfl ?_
          simp only [Act.put, zl]
          refine dw_skip rfl rfl rfl ?_
          simp only [Act.put, zl]
          refine dw_skip rfl rfl rfl ?_
          simp only [Act.put, zl]
          refine dw_skip rfl rfl rfl ?_
          simp only [Act.put, zl]
          refine dw_skip rfl rfl rfl ?_
          simp only [Act.put, zl]
          refine dw_skip rfl rfl rfl ?_
          simp only [Act.put, zl]
          refine dw_skip rfl rfl rfl ?_
          simp only [Act.put, zl]
          refine dw_skip rfl rfl rfl ?_
          simp only [Act.put, zl]
          refine dw_skip rfl rfl rfl ?_
          simp only [Act.put, zl]
          refine dw_skip rfl rfl rfl ?_
          simp only [Act.put, zl]
          refine dw_val rfl rfl rfl ?_; apply Exists.intro; refine ⟨fun wv HC => ?_, ?_⟩
          ·  go_simp <;> rfl
          simp only [Act.put, zl]
          refine dw_val rfl rfl rfl ?_; apply Exists.intro; refine ⟨fun wv HC => ?_, ?_⟩
          ·  go_simp <;> rfl
          simp only [Act.put, zl]
          refine rel_nil ?_
          rintro wx9 HX9
          rintro _hrm _HG
          clear _hrm _HG
          rw [HKL.out] at HX9
          go_wp2_with fail
          go_roundw
          case rel => exact ⟨0 + 1, by omega, by go_num, HN, HX9.drop (List.sublist_cons_self _ _)⟩
          case measure => simp [intOf]; omega
        | succ j =>
          have hz : decide (((j + 1 : Nat) : Int) > 0) = true := by simp <;> omega
          have hz2 : decide ((j : Int) + 1 > 0) = true := by simp <;> omega
          have s1 : IntKind.i64.wrap (((j + 1 : Nat) : Int) - 1) = (j : Int) := by rw [IntKind.wrap_i64]; omega
          have s2 : IntKind.i64.wrap ((j : Int) + 1 - 1) = (j : Int) := by rw [IntKind.wrap_i64]; omega
          have s3 : IntKind.i64.wrap (j : Int) = (j : Int) := by rw [IntKind.wrap_i64]; omega
          have j2 : (0 : Int) ≤ (j : Int) := by omega
          have j3 : (j : Int) < (n : Int) := by omega
          have i2 : (0 : Int) ≤ (j : Int) + 1 := by omega
          have i3 : (j : Int) + 1 < (n : Int) := by omega
          obtain ⟨y, hy⟩ := get_of HL.out (show j < n by omega)
          have HYT := hid (te_at hy)
          have HIY := hid hy
          clear hy
          have HP : Hid (∀ wv, Hold M none w wv KL → wv.cell? ⟨g, o + j * 4, none⟩ = some (.string y.nm) ∧ g < wv.heap.size) := hid fun wv HC => by
            rw [hKL] at HC
            obtain ⟨g', o', e', hl, e0, -⟩ := (HC.ro 1 rfl).now.at_ HIY.out
            obtain ⟨rfl, rfl⟩ : g = g' ∧ o = o' := by injection e' with e'; injection e' with a1 a2; exact ⟨a1, a2⟩
            exact ⟨e0, hl⟩
          clear hKL K2
          cases hlt3 : Op.bytesLess y.nm.toList x.nm.toList with
          | true =>
            have HN := hid (range_next HR.out ((stoOk_next HXT.out HYT.out HVT.out).trans hlt3))
            refine wp_region_any (by kernel_rfl) ?_
            refine wpAny_hold 20 36 (KL) (spL [(16, IsV (.bool true))]) (by kernel_rfl) (by kernel_rfl) (by kernel_rfl) rfl ?_ (KN.drew) ?_
            · exact stays_cons isV_mono (stays_nil _)
            simp only [zd, Act.put, List.getElem_toArray, List.getElem_cons_zero, List.getElem_cons_succ, zl]
            refine dw_val rfl rfl rfl ?_; apply Exists.intro; refine ⟨fun wv HC => ?_, ?_⟩
            · obtain ⟨f0, f1, f2, f3, f4⟩ := HF.out _ HC; go_simp <;> rfl
            simp only [Act.put, zl]
            refine dw_callR 16 (IsV (.bool true)) (f := 87) (args := #[.agg #[.string x.nm, .slice x.A x.n x.c, .int .i64 x.nx, .slice x.B x.m x.d]]) rfl rfl rfl rfl (fun wv => ?_) (fun wv HC hrm hD => ?_) ?_
            · go_simp <;> rfl
            · refine (tvalid_any _ wv HC.mutLt x.nm x.A x.n x.c x.cs x.nx x.B x.m x.d x.l ((HX.out _ HC).imp fun w h => h.1) ((HX.out _ HC).imp fun w h => h.2) HXB.out.1 HXB.out.2 HXO.out.l HXM.out.nm HXM.out.cs).mono ?_
              rintro e w5 ⟨rfl, b5⟩
              exact ⟨_, rfl, by rw [HVB.out]; rfl, HC.call b5, RM.below b5⟩
            rintro u_ wx HCx rfl
            clear HCx
            simp only [Act.put, zl]
            refine dw_val rfl rfl rfl ?_; apply Exists.intro; refine ⟨fun wv HC => ?_, ?_⟩
            ·  go_simp <;> rfl
            simp only [Act.put, zl]
            refine dw_val rfl rfl rfl ?_; apply Exists.intro; refine ⟨fun wv HC => ?_, ?_⟩
            ·  go_simp <;> rfl
            simp only [Act.put, zl]
            refine dw_val rfl rfl rfl ?_; apply Exists.intro; refine ⟨fun wv HC => ?_, ?_⟩
            ·  go_simp <;> rfl
            simp only [Act.put, zl]
            refine dw_val rfl rfl rfl ?_; apply Exists.intro; refine ⟨fun wv HC => ?_, ?_⟩
            ·  go_simp <;> rfl
            simp only [Act.put, zl]
            refine dw_val rfl rfl rfl ?_; apply Exists.intro; refine ⟨fun wv HC => ?_, ?_⟩
            ·  go_simp <;> rfl
            simp only [Act.put, zl]
            refine dw_val rfl rfl rfl ?_; apply Exists.intro; refine ⟨fun wv HC => ?_, ?_⟩
            · obtain ⟨f0, f1, f2, f3, f4⟩ := HF.out _ HC; obtain ⟨p0, p1⟩ := HP.out _ HC; go_simp <;> rfl
            simp only [Act.put, zl]
            refine dw_val rfl rfl rfl ?_; apply Exists.intro; refine ⟨fun wv HC => ?_, ?_⟩
            · obtain ⟨f0, f1, f2, f3, f4⟩ := HF.out _ HC; obtain ⟨p0, p1⟩ := HP.out _ HC; go_simp <;> rfl
            simp only [Act.put, zl]
            refine dw_val rfl rfl rfl ?_; apply Exists.intro; refine ⟨fun wv HC => ?_, ?_⟩
            · obtain ⟨f0, f1, f2, f3, f4⟩ := HF.out _ HC; obtain ⟨p0, p1⟩ := HP.out _ HC; go_simp <;> rfl
            simp only [Act.put, zl]
            refine dw_val rfl rfl rfl ?_; apply Exists.intro; refine ⟨fun wv HC => ?_, ?_⟩
            · obtain ⟨f0, f1, f2, f3, f4⟩ := HF.out _ HC; obtain ⟨p0, p1⟩ := HP.out _ HC; go_simp <;> rfl
            simp only [Act.put, zl]
            refine dw_val rfl rfl rfl ?_; apply Exists.intro; refine ⟨fun wv HC => ?_, ?_⟩
            · obtain ⟨f0, f1, f2, f3, f4⟩ := HF.out _ HC; obtain ⟨p0, p1⟩ := HP.out _ HC; go_simp <;> rfl
            simp only [Act.put, zl]
            refine dw_val rfl rfl rfl ?_; apply Exists.intro; refine ⟨fun wv HC => ?_, ?_⟩
            · obtain ⟨f0, f1, f2, f3, f4⟩ := HF.out _ HC; obtain ⟨p0, p1⟩ := HP.out _ HC; go_simp <;> rfl
            simp only [Act.put, zl]
            refine dw_val rfl rfl rfl ?_; apply Exists.intro; refine ⟨fun wv HC => ?_, ?_⟩
            · obtain ⟨f0, f1, f2, f3, f4⟩ := HF.out _ HC; obtain ⟨p0, p1⟩ := HP.out _ HC; go_simp <;> rfl
            simp only [Act.put, zl]
            refine dw_val rfl rfl rfl ?_; apply Exists.intro; refine ⟨fun wv HC => ?_, ?_⟩
            · obtain ⟨f0, f1, f2, f3, f4⟩ := HF.out _ HC; obtain ⟨p0, p1⟩ := HP.out _ HC; go_simp <;> rfl
            simp only [Act.put, zl]
            refine dw_val rfl rfl rfl ?_; apply Exists.intro; refine ⟨fun wv HC => ?_, ?_⟩
            · obtain ⟨f0, f1, f2, f3, f4⟩ := HF.out _ HC; obtain ⟨p0, p1⟩ := HP.out _ HC; go_simp <;> rfl
            simp only [Act.put, zl]
            refine dw_val rfl rfl rfl ?_; apply Exists.intro; refine ⟨fun wv HC => ?_, ?_⟩
            · obtain ⟨f0, f1, f2, f3, f4⟩ := HF.out _ HC; obtain ⟨p0, p1⟩ := HP.out _ HC; go_simp <;> rfl
            simp only [Act.put, zl]
            refine dw_val rfl rfl rfl ?_; apply Exists.intro; refine ⟨fun wv HC => ?_, ?_⟩
            · obtain ⟨f0, f1, f2, f3, f4⟩ := HF.out _ HC; obtain ⟨p0, p1⟩ := HP.out _ HC; go_simp <;> rfl
            simp only [Act.put, zl]
            refine dw_val rfl rfl rfl ?_; apply Exists.intro; refine ⟨fun wv HC => ?_, ?_⟩
            ·  go_simp <;> rfl
            simp only [Act.put, zl]
            refine dw_val rfl rfl rfl ?_; apply Exists.intro; refine ⟨fun wv HC => ?_, ?_⟩
            ·  go_simp <;> rfl
            simp only [Act.put, zl]
            refine rel_nil ?_
            rintro wx9 HX9
            rintro _hrm _HG
            clear _hrm _HG
            rw [HKL.out] at HX9
            go_wp2_with fail
            go_roundw
            case rel => exact ⟨(j + 1) + 1, by omega, by go_num, HN, HX9.drop (List.sublist_cons_self _ _)⟩
            case measure => simp [intOf]; omega
          | false =>
            have HN := hid (storB_bad (by rw [List.length_map, HL.out]; exact hlt) ((stoOk_next HXT.out HYT.out HVT.out).trans hlt3))
            refine wp_region_any (by kernel_rfl) ?_
            refine wpAny_hold 20 36 (KL) (spL [(16, IsV (.bool true))]) (by kernel_rfl) (by kernel_rfl) (by kernel_rfl) rfl ?_ (KN.drew) ?_
            · exact stays_cons isV_mono (stays_nil _)
            simp only [zd, Act.put, List.getElem_toArray, List.getElem_cons_zero, List.getElem_cons_succ, zl]
            refine dw_val rfl rfl rfl ?_; apply Exists.intro; refine ⟨fun wv HC => ?_, ?_⟩
            · obtain ⟨f0, f1, f2, f3, f4⟩ := HF.out _ HC; go_simp <;> rfl
            simp only [Act.put, zl]
            refine dw_callR 16 (IsV (.bool true)) (f := 87) (args := #[.agg #[.string x.nm, .slice x.A x.n x.c, .int .i64 x.nx, .slice x.B x.m x.d]]) rfl rfl rfl rfl (fun wv => ?_) (fun wv HC hrm hD => ?_) ?_
            · go_simp <;> rfl
            · refine (tvalid_any _ wv HC.mutLt x.nm x.A x.n x.c x.cs x.nx x.B x.m x.d x.l ((HX.out _ HC).imp fun w h => h.1) ((HX.out _ HC).imp fun w h => h.2) HXB.out.1 HXB.out.2 HXO.out.l HXM.out.nm HXM.out.cs).mono ?_
              rintro e w5 ⟨rfl, b5⟩
              exact ⟨_, rfl, by rw [HVB.out]; rfl, HC.call b5, RM.below b5⟩
            rintro u_ wx HCx rfl
            clear HCx
            simp only [Act.put, zl]
            refine dw_val rfl rfl rfl ?_; apply Exists.intro; refine ⟨fun wv HC => ?_, ?_⟩
            ·  go_simp <;> rfl
            simp only [Act.put, zl]
            refine dw_val rfl rfl rfl ?_; apply Exists.intro; refine ⟨fun wv HC => ?_, ?_⟩
            ·  go_simp <;> rfl
            simp only [Act.put, zl]
            refine dw_val rfl rfl rfl ?_; apply Exists.intro; refine ⟨fun wv HC => ?_, ?_⟩
            ·  go_simp <;> rfl
            simp only [Act.put, zl]
            refine dw_val rfl rfl rfl ?_; apply Exists.intro; refine ⟨fun wv HC => ?_, ?_⟩
            ·  go_simp <;> rfl
            simp only [Act.put, zl]
            refine dw_val rfl rfl rfl ?_; apply Exists.intro; refine ⟨fun wv HC => ?_, ?_⟩
            ·  go_simp <;> rfl
            simp only [Act.put, zl]
            refine dw_val rfl rfl rfl ?_; apply Exists.intro; refine ⟨fun wv HC => ?_, ?_⟩
            · obtain ⟨f0, f1, f2, f3, f4⟩ := HF.out _ HC; obtain ⟨p0, p1⟩ := HP.out _ HC; go_simp <;> rfl
            simp only [Act.put, zl]
            refine dw_val rfl rfl rfl ?_; apply Exists.intro; refine ⟨fun wv HC => ?_, ?_⟩
            · obtain ⟨f0, f1, f2, f3, f4⟩ := HF.out _ HC; obtain ⟨p0, p1⟩ := HP.out _ HC; go_simp <;> rfl
            simp only [Act.put, zl]
            refine dw_val rfl rfl rfl ?_; apply Exists.intro; refine ⟨fun wv HC => ?_, ?_⟩
            · obtain ⟨f0, f1, f2, f3, f4⟩ := HF.out _ HC; obtain ⟨p0, p1⟩ := HP.out _ HC; go_simp <;> rfl
            simp only [Act.put, zl]
            refine dw_val rfl rfl rfl ?_; apply Exists.intro; refine ⟨fun wv HC => ?_, ?_⟩
            · obtain ⟨f0, f1, f2, f3, f4⟩ := HF.out _ HC; obtain ⟨p0, p1⟩ := HP.out _ HC; go_simp <;> rfl
            simp only [Act.put, zl]
            refine dw_val rfl rfl rfl ?_; apply Exists.intro; refine ⟨fun wv HC => ?_, ?_⟩
            · obtain ⟨f0, f1, f2, f3, f4⟩ := HF.out _ HC; obtain ⟨p0, p1⟩ := HP.out _ HC; go_simp <;> rfl
            simp only [Act.put, zl]
            refine dw_val rfl rfl rfl ?_; apply Exists.intro; refine ⟨fun wv HC => ?_, ?_⟩
            · obtain ⟨f0, f1, f2, f3, f4⟩ := HF.out _ HC; obtain ⟨p0, p1⟩ := HP.out _ HC; go_simp <;> rfl
            simp only [Act.put, zl]
            refine dw_val rfl rfl rfl ?_; apply Exists.intro; refine ⟨fun wv HC => ?_, ?_⟩
            · obtain ⟨f0, f1, f2, f3, f4⟩ := HF.out _ HC; obtain ⟨p0, p1⟩ := HP.out _ HC; go_simp <;> rfl
            simp only [Act.put, zl]
            refine dw_val rfl rfl rfl ?_; apply Exists.intro; refine ⟨fun wv HC => ?_, ?_⟩
            · obtain ⟨f0, f1, f2, f3, f4⟩ := HF.out _ HC; obtain ⟨p0, p1⟩ := HP.out _ HC; go_simp <;> rfl
            simp only [Act.put, zl]
            refine dw_val rfl rfl rfl ?_; apply Exists.intro; refine ⟨fun wv HC => ?_, ?_⟩
            · obtain ⟨f0, f1, f2, f3, f4⟩ := HF.out _ HC; obtain ⟨p0, p1⟩ := HP.out _ HC; go_simp <;> rfl
            simp only [Act.put, zl]
            refine dw_val rfl rfl rfl ?_; apply Exists.intro; refine ⟨fun wv HC => ?_, ?_⟩
            · obtain ⟨f0, f1, f2, f3, f4⟩ := HF.out _ HC; obtain ⟨p0, p1⟩ := HP.out _ HC; go_simp <;> rfl
            simp only [Act.put, zl]
            refine dw_val rfl rfl rfl ?_; apply Exists.intro; refine ⟨fun wv HC => ?_, ?_⟩
            · obtain ⟨f0, f1, f2, f3, f4⟩ := HF.out _ HC; obtain ⟨p0, p1⟩ := HP.out _ HC; go_simp <;> rfl
            simp only [Act.put, zl]
            refine dw_val rfl rfl rfl ?_; apply Exists.intro; refine ⟨fun wv HC => ?_, ?_⟩
            ·  go_simp <;> rfl
            simp only [Act.put, zl]
            refine dw_val rfl rfl rfl ?_; apply Exists.intro; refine ⟨fun wv HC => ?_, ?_⟩
            ·  go_simp <;> rfl
            simp only [Act.put, zl]
            refine rel_nil ?_
            rintro wx9 HX9
            rintro _hrm _HG
            clear _hrm _HG
            rw [HKL.out] at HX9
            go_wp2_with fail
            go_ret
            exact ⟨by rw [HN.out] <;> rfl, HX9.below⟩
    · obtain rfl : k = n := by omega
      have hdd : decide ((k : Int) < (k : Int)) = false := by simp
      have HN := hid (storB_end (by rw [List.length_map]; exact HL.out) (by omega) HR.out)
      go_wp2_with fail
      go_ret
      exact ⟨by rw [HN.out] <;> rfl, H.below⟩
set_option maxHeartbeats 8000000 in
set_option maxRecDepth 100000 in
theorem rstvalid_any (M : Nat → Prop) (w : World) (hM : ∀ b, M b → b < w.heap.size) (A : Option Addr) (n c : Nat) (l : List Te) (hL : Ro w M (TesIn A n l)) (hok : ∀ x ∈ l, x.ok ∧ TbM x.tb) (hn : n ≤ 4611686018427387904) :
    Calls Tryz.prog 34 #[.slice A n c] w fun e w' => e = .returned (.bool (storB (l.map Te.tb))) ∧ Below w.heap.size w w' := by
  have HL := hid hL.now.len
  have HOK := hid hok
  have K0 := (Hold.start M w hM).add (hL.less (by simp [Mut]))
  clear hok hL
  go_enter Tryz.func34, Tryz.ntmps34
  by_cases h6 : 6 < n
  · have hb : decide ((n : Int) > 6) = true := by simp; omega
    have hb' : decide (6 < n) = true := by simp; omega
    have HN := hid (storB_big (l := l.map Te.tb) (by rw [List.length_map, HL.out]; exact h6))
    clear h6
    go_wp2_with fail
    go_ret
    exact ⟨by rw [HN.out] <;> rfl, K0.below⟩
  have hb : decide ((n : Int) > 6) = false := by simp; omega
  have hb' : decide (6 < n) = false := by simp; omega
  go_wp2_with fail
  clear hb hb'
  go_loopw [9] (fun iv wr => ∃ (k : Nat), k ≤ n ∧ iv = .int .i64 k ∧ Hid ((List.range k).all (stoOk (l.map Te.tb)) = true) ∧ Hold M none w wr [.ro (TesIn A n l)]) (fun iv _ => n - (intOf iv).toNat)
  case atStart => exact ⟨0, by omega, rfl, hid rfl, K0⟩
  case round =>
    clear K0
    obtain ⟨k, hk, rfl, HR, H⟩ := hrel
    by_cases hlt : k < n
    · have hdd : decide ((k : Int) < (n : Int)) = true := by simp; omega
      have i0 : (0 : Int) ≤ (k : Int) := by omega
      have i1 : (k : Int) < (n : Int) := by omega
      obtain ⟨x, hx⟩ := get_of HL.out hlt
      have HXT := hid (te_at hx)
      have HXO := hid (HOK.out x (List.mem_of_getElem? hx)).1
      have HXM := hid (HOK.out x (List.mem_of_getElem? hx)).2
      have hxr : Ro wr _ (TeIn x) := (H.ro 0 rfl).imp fun w2 h2 => h2.2 x (List.mem_of_getElem? hx)
      have HXB := hid (show x.n ≤ 9223372036854775807 ∧ x.m ≤ 4611686018427387904 from ⟨Nat.le_trans HXO.out.nc HXO.out.c, by
        have h1 := HXM.out.rs
        have h2 : x.l.length = x.m := hxr.now.2.len
        have h3 : x.tb.rs.length = x.l.length := List.length_map ..
        omega⟩)
      obtain ⟨g, o, rfl, hgb, c0, c1, c2, c3, -⟩ := (H.ro 0 rfl).now.at_ hx
      have HIX := hid hx
      clear hx
      obtain ⟨VB, hVB⟩ : ∃ VB, tabB x.nm x.cs x.nx (x.l.map Rw.row) = VB := ⟨_, rfl⟩
      have HVB := hid hVB
      clear hVB
      go_wp2_with fail
      clear c0 c1 c2 c3 hgb hxr
      obtain ⟨KL, hKL, KN⟩ := H.name
      have HF : Hid (∀ wv, Hold M none w wv KL → wv.cell? ⟨g, o + k * 4, none⟩ = some (.string x.nm) ∧ wv.cell? ⟨g, o + k * 4 + 1, none⟩ = some (.slice x.A x.n x.c) ∧ wv.cell? ⟨g, o + k * 4 + 2, none⟩ = some (.int .i64 x.nx) ∧ wv.cell? ⟨g, o + k * 4 + 3, none⟩ = some (.slice x.B x.m x.d) ∧ g < wv.heap.size) := hid fun wv HC => by
        rw [hKL] at HC
        obtain ⟨g', o', e', hl, e0, e1, e2, e3, -⟩ := (HC.ro 0 rfl).now.at_ HIX.out
        obtain ⟨rfl, rfl⟩ : g = g' ∧ o = o' := by injection e' with e'; injection e' with a1 a2; exact ⟨a1, a2⟩
        exact ⟨e0, e1, e2, e3, hl⟩
      have HX : Hid (∀ wv, Hold M none w wv KL → Ro wv (Mut M KL) (TeIn x)) := hid fun wv HC => by
        rw [hKL] at HC ⊢
        exact (HC.ro 0 rfl).imp fun w2 h2 => h2.2 x (List.mem_of_getElem? HIX.out)
      have HKL := hid hKL
      have HKN := KN
      obtain rfl | rfl : VB = false ∨ VB = true := by cases VB <;> simp
      · skip
        have HN := hid (storB_bad (by rw [List.length_map, HL.out]; exact hlt) (stoOk_tab HXT.out HVB.out))
        clear hKL H
        refine wp_region_any (by kernel_rfl) ?_
        refine wpAny_hold 26 39 (KL) (spL [(16, IsV (.bool false))]) (by kernel_rfl) (by kernel_rfl) (by kernel_rfl) rfl ?_ (KN.drew) ?_
        · exact stays_cons isV_mono (stays_nil _)
        simp only [zd, Act.put, List.getElem_toArray, List.getElem_cons_zero, List.getElem_cons_succ, zl]
        refine dw_val rfl rfl rfl ?_; apply Exists.intro; refine ⟨fun wv HC => ?_, ?_⟩
        ·  go_simp <;> rfl
        simp only [Act.put, zl]
        refine dw_val rfl rfl rfl ?_; apply Exists.intro; refine ⟨fun wv HC => ?_, ?_⟩
        ·  go_simp <;> rfl
        simp only [Act.put, zl]
        refine dw_val rfl rfl rfl ?_; apply Exists.intro; refine ⟨fun wv HC => ?_, ?_⟩
        · obtain ⟨f0, f1, f2, f3, f4⟩ := HF.out _ HC; go_simp <;> rfl
        simp only [Act.put, zl]
        refine dw_val rfl rfl rfl ?_; apply Exists.intro; refine ⟨fun wv HC => ?_, ?_⟩
        · obtain ⟨f0, f1, f2, f3, f4⟩ := HF.out _ HC; go_simp <;> rfl
        simp only [Act.put, zl]
        refine dw_callR 16 (IsV (.bool false)) (f := 58) (args := #[.agg #[.string x.nm, .slice x.A x.n x.c, .int .i64 x.nx, .slice x.B x.m x.d]]) rfl rfl rfl rfl (fun wv => ?_) (fun wv HC hrm hD => ?_) ?_
        · go_simp <;> rfl
        · refine (rtvalid_any _ wv HC.mutLt x.nm x.A x.n x.c x.cs x.nx x.B x.m x.d x.l ((HX.out _ HC).imp fun w h => h.1) ((HX.out _ HC).imp fun w h => h.2) HXB.out.1 HXB.out.2 HXO.out.l HXM.out.nm HXM.out.cs).mono ?_
          rintro e w5 ⟨rfl, b5⟩
          exact ⟨_, rfl, by rw [HVB.out]; rfl, HC.call b5, RM.below b5⟩
        rintro u_ wx HCx rfl
        clear HCx
        simp only [Act.put, zl]
        refine dw_val rfl rfl rfl ?_; apply Exists.intro; refine ⟨fun wv HC => ?_, ?_⟩
        ·  go_simp <;> rfl
        simp only [Act.put, zl]
        refine dw_val rfl rfl rfl ?_; apply Exists.intro; refine ⟨fun wv HC => ?_, ?_⟩
        ·  go_simp <;> rfl
        simp only [Act.put, zl]
        refine dw_skip rfl rfl rfl ?_
        simp only [Act.put, zl]
        refine dw_skip rfl rfl rfl ?_
        simp only [Act.put, zl]
        refine dw_skip rfl rfl rfl ?_
        simp only [Act.put, zl]
        refine dw_skip rfl rfl rfl ?_
        simp only [Act.put, zl]
        refine dw_skip rfl rfl rfl ?_
        simp only [Act.put, zl]
        refine dw_skip rfl rfl rfl ?_
        simp only [Act.put, zl]
        refine dw_skip rfl rfl rfl ?_
        simp only [Act.put, zl]
        refine dw_skip rfl rfl rfl ?_
        simp only [Act.put, zl]
        refine dw_skip rfl rfl rfl ?_
        simp only [Act.put, zl]
        refine dw_skip rfl rfl rfl ?_
        simp only [Act.put, zl]
        refine dw_skip rfl rfl rfl ?_
        simp only [Act.put, zl]
        refine dw_skip rfl rfl rfl ?_
        simp only [Act.put, zl]
        refine dw_skip rfl rfl rfl ?_
        simp only [Act.put, zl]
        refine dw_skip rfl rfl rfl ?_
        simp only [Act.put, zl]
        refine dw_skip rfl rfl rfl ?_
        simp only [Act.put, zl]
        refine dw_skip rfl rfl rfl ?_
        simp only [Act.put, zl]
        refine dw_skip rfl rfl rfl ?_
        simp only [Act.put, zl]
        refine dw_skip rfl rfl rfl ?_
        simp only [Act.put, zl]
        refine dw_val rfl rfl rfl ?_; apply Exists.intro; refine ⟨fun wv HC => ?_, ?_⟩
        ·  go_simp <;> rfl
        simp only [Act.put, zl]
        refine rel_nil ?_
        rintro wx9 HX9
        rintro _hrm _HG
        clear _hrm _HG
        rw [HKL.out] at HX9
        go_wp2_with fail
        go_ret
        exact ⟨by rw [HN.out] <;> rfl, HX9.below⟩
      · skip
        have HVT := hid HVB.out
        cases k with
        | zero =>
          have hz : decide (((0 : Nat) : Int) > 0) = false := by decide
          (try simp only [Nat.zero_mul, Nat.add_zero] at HF)
          have HN := hid (range_next HR.out (stoOk_zero HXT.out HVT.out))
          clear hKL H
          refine wp_region_any (by kernel_rfl) ?_
          refine wpAny_hold 26 39 (KL) (spL [(16, IsV (.bool true))]) (by kernel_rfl) (by kernel_rfl) (by kernel_rfl) rfl ?_ (KN.drew) ?_
          · exact stays_cons isV_mono (stays_nil _)
          simp only [zd, Act.put, List.getElem_toArray, List.getElem_cons_zero, List.getElem_cons_succ, zl]
          refine dw_val rfl rfl rfl ?_; apply Exists.intro; refine ⟨fun wv HC => ?_, ?_⟩
          ·  go_simp <;> rfl
          simp only [Act.put, zl]
          refine dw_val rfl rfl rfl ?_; apply Exists.intro; refine ⟨fun wv HC => ?_, ?_⟩
          ·  go_simp <;> rfl
          simp only [Act.put, zl]
          refine dw_val rfl rfl rfl ?_; apply Exists.intro; refine ⟨fun wv HC => ?_, ?_⟩
          · obtain ⟨f0, f1, f2, f3, f4⟩ := HF.out _ HC; go_simp <;> rfl
          simp only [Act.put, zl]
          refine dw_val rfl rfl rfl ?_; apply Exists.intro; refine ⟨fun wv HC => ?_, ?_⟩
          · obtain ⟨f0, f1, f2, f3, f4⟩ := HF.out _ HC; go_simp <;> rfl
          simp only [Act.put, zl]
          refine dw_callR 16 (IsV (.bool true)) (f := 58) (args := #[.agg #[.string x.nm, .slice x.A x.n x.c, .int .i64 x.nx, .slice x.B x.m x.d]]) rfl rfl rfl rfl (fun wv => ?_) (fun wv HC hrm hD => ?_) ?_
          · go_simp <;> rfl
          · refine (rtvalid_any _ wv HC.mutLt x.nm x.A x.n x.c x.cs x.nx x.B x.m x.d x.l ((HX.out _ HC).imp fun w h => h.1) ((HX.out _ HC).imp fun w h => h.2) HXB.out.1 HXB.out.2 HXO.out.l HXM.out.nm HXM.out.cs).mono ?_
            rintro e w5 ⟨rfl, b5⟩
            exact ⟨_, rfl, by rw [HVB.out]; rfl, HC.call b5, RM.below b5⟩
          rintro u_ wx HCx rfl
          clear HCx
          simp only [Act.put, zl]
          refine dw_val rfl rfl rfl ?_; apply Exists.intro; refine ⟨fun wv HC => ?_, ?_⟩
          ·  go_simp <;> rfl
          simp only [Act.put, zl]
          refine dw_val rfl rfl rfl ?_; apply Exists.intro; refine ⟨fun wv HC => ?_, ?_⟩
          ·  go_simp <;> rfl
          simp only [Act.put, zl]
          refine dw_val rfl rfl rfl ?_; apply Exists.intro; refine ⟨fun wv HC => ?_, ?_⟩
          ·  go_simp <;> rfl
          simp only [Act.put, zl]
          refine dw_val rfl rfl rfl ?_; apply Exists.intro; refine ⟨fun wv HC => ?_, ?_⟩
          ·  go_simp <;> rfl
          simp only [Act.put, zl]
          refine dw_val rfl rfl rfl ?_; apply Exists.intro; refine ⟨fun wv HC => ?_, ?_⟩
          ·  go_simp <;> rfl
          simp only [Act.put, zl]
          refine dw_skip rfl rfl rfl ?_
          simp only [Act.put, zl]
          refine dw_skip rfl rfl rfl ?_
          simp only [Act.put, zl]
          refine dw_skip rfl rfl rfl ?_
          simp only [Act.put, zl]
          refine dw_skip rfl rfl rfl ?_
          simp only [Act.put, zl]
          refine dw_skip rfl rfl rfl ?_
          simp only [Act.put, zl]
          refine dw_skip rfl rfl rfl ?_
          simp only [Act.put, zl]
          refine dw_skip rfl rfl rfl ?_
          simp only [Act.put, zl]
          refine dw_skip rfl rfl rfl ?_
          simp only [Act.put, zl]
          refine dw_skip rfl rfl rfl ?_
          simp only [Act.put, zl]
          refine dw_skip rfl rfl rfl ?_
          simp only [Act.put, zl]
          refine dw_skip rfl rfl rfl ?_
          simp only [Act.put, zl]
          refine dw_skip rfl rfl rfl ?_
          simp only [Act.put, zl]
          refine dw_skip rfl rfl rfl ?_
          simp only [Act.put, zl]
          refine dw_skip rfl rfl rfl ?_
          simp only [Act.put, zl]
          refine dw_val rfl rfl rfl ?_; apply Exists.intro; refine ⟨fun wv HC => ?_, ?_⟩
          ·  go_simp <;> rfl
          simp only [Act.put, zl]
          refine dw_val rfl rfl rfl ?_; apply Exists.intro; refine ⟨fun wv HC => ?_, ?_⟩
          ·  go_simp <;> rfl
          simp only [Act.put, zl]
          refine rel_nil ?_
          rintro wx9 HX9
          rintro _hrm _HG
          clear _hrm _HG
          rw [HKL.out] at HX9
          go_wp2_with fail
          go_roundw
          case rel => exact ⟨0 + 1, by omega, by go_num, HN, HX9⟩
          case measure => simp [intOf]; omega
        | succ j =>
          have hz : decide (((j + 1 : Nat) : Int) > 0) = true := by simp <;> omega
          have hz2 : decide ((j : Int) + 1 > 0) = true := by simp <;> omega
          have s1 : IntKind.i64.wrap (((j + 1 : Nat) : Int) - 1) = (j : Int) := by rw [IntKind.wrap_i64]; omega
          have s2 : IntKind.i64.wrap ((j : Int) + 1 - 1) = (j : Int) := by rw [IntKind.wrap_i64]; omega
          have s3 : IntKind.i64.wrap (j : Int) = (j : Int) := by rw [IntKind.wrap_i64]; omega
          have j2 : (0 : Int) ≤ (j : Int) := by omega
          have j3 : (j : Int) < (n : Int) := by omega
          have i2 : (0 : Int) ≤ (j : Int) + 1 := by omega
          have i3 : (j : Int) + 1 < (n : Int) := by omega
          obtain ⟨y, hy⟩ := get_of HL.out (show j < n by omega)
          have HYT := hid (te_at hy)
          have HIY := hid hy
          clear hy
          have HP : Hid (∀ wv, Hold M none w wv KL → wv.cell? ⟨g, o + j * 4, none⟩ = some (.string y.nm) ∧ g < wv.heap.size) := hid fun wv HC => by
            rw [hKL] at HC
            obtain ⟨g', o', e', hl, e0, -⟩ := (HC.ro 0 rfl).now.at_ HIY.out
            obtain ⟨rfl, rfl⟩ : g = g' ∧ o = o' := by injection e' with e'; injection e' with a1 a2; exact ⟨a1, a2⟩
            exact ⟨e0, hl⟩
          clear hKL H
          cases hlt3 : Op.bytesLess y.nm.toList x.nm.toList with
          | true =>
            have HN := hid (range_next HR.out ((stoOk_next HXT.out HYT.out HVT.out).trans hlt3))
            refine wp_region_any (by kernel_rfl) ?_
            refine wpAny_hold 26 39 (KL) (spL [(16, IsV (.bool true))]) (by kernel_rfl) (by kernel_rfl) (by kernel_rfl) rfl ?_ (KN.drew) ?_
            · exact stays_cons isV_mono (stays_nil _)
            simp only [zd, Act.put, List.getElem_toArray, List.getElem_cons_zero, List.getElem_cons_succ, zl]
            refine dw_val rfl rfl rfl ?_; apply Exists.intro; refine ⟨fun wv HC => ?_, ?_⟩
            ·  go_simp <;> rfl
            simp only [Act.put, zl]
            refine dw_val rfl rfl rfl ?_; apply Exists.intro; refine ⟨fun wv HC => ?_, ?_⟩
            ·  go_simp <;> rfl
            simp only [Act.put, zl]
            refine dw_val rfl rfl rfl ?_; apply Exists.intro; refine ⟨fun wv HC => ?_, ?_⟩
            · obtain ⟨f0, f1, f2, f3, f4⟩ := HF.out _ HC; go_simp <;> rfl
            simp only [Act.put, zl]
            refine dw_val rfl rfl rfl ?_; apply Exists.intro; refine ⟨fun wv HC => ?_, ?_⟩
            · obtain ⟨f0, f1, f2, f3, f4⟩ := HF.out _ HC; go_simp <;> rfl
            simp only [Act.put, zl]
            refine dw_callR 16 (IsV (.bool true)) (f := 58) (args := #[.agg #[.string x.nm, .slice x.A x.n x.c, .int .i64 x.nx, .slice x.B x.m x.d]]) rfl rfl rfl rfl (fun wv => ?_) (fun wv HC hrm hD => ?_) ?_
            · go_simp <;> rfl
            · refine (rtvalid_any _ wv HC.mutLt x.nm x.A x.n x.c x.cs x.nx x.B x.m x.d x.l ((HX.out _ HC).imp fun w h => h.1) ((HX.out _ HC).imp fun w h => h.2) HXB.out.1 HXB.out.2 HXO.out.l HXM.out.nm HXM.out.cs).mono ?_
              rintro e w5 ⟨rfl, b5⟩
              exact ⟨_, rfl, by rw [HVB.out]; rfl, HC.call b5, RM.below b5⟩
            rintro u_ wx HCx rfl
            clear HCx
            simp only [Act.put, zl]
            refine dw_val rfl rfl rfl ?_; apply Exists.intro; refine ⟨fun wv HC => ?_, ?_⟩
            ·  go_simp <;> rfl
            simp only [Act.put, zl]
            refine dw_val rfl rfl rfl ?_; apply Exists.intro; refine ⟨fun wv HC => ?_, ?_⟩
            ·  go_simp <;> rfl
            simp only [Act.put, zl]
            refine dw_val rfl rfl rfl ?_; apply Exists.intro; refine ⟨fun wv HC => ?_, ?_⟩
            ·  go_simp <;> rfl
            simp only [Act.put, zl]
            refine dw_val rfl rfl rfl ?_; apply Exists.intro; refine ⟨fun wv HC => ?_, ?_⟩
            ·  go_simp <;> rfl
            simp only [Act.put, zl]
            refine dw_val rfl rfl rfl ?_; apply Exists.intro; refine ⟨fun wv HC => ?_, ?_⟩
            ·  go_simp <;> rfl
            simp only [Act.put, zl]
            refine dw_val rfl rfl rfl ?_; apply Exists.intro; refine ⟨fun wv HC => ?_, ?_⟩
            · obtain ⟨f0, f1, f2, f3, f4⟩ := HF.out _ HC; obtain ⟨p0, p1⟩ := HP.out _ HC; go_simp <;> rfl
            simp only [Act.put, zl]
            refine dw_val rfl rfl rfl ?_; apply Exists.intro; refine ⟨fun wv HC => ?_, ?_⟩
            · obtain ⟨f0, f1, f2, f3, f4⟩ := HF.out _ HC; obtain ⟨p0, p1⟩ := HP.out _ HC; go_simp <;> rfl
            simp only [Act.put, zl]
            refine dw_val rfl rfl rfl ?_; apply Exists.intro; refine ⟨fun wv HC => ?_, ?_⟩
            · obtain ⟨f0, f1, f2, f3, f4⟩ := HF.out _ HC; obtain ⟨p0, p1⟩ := HP.out _ HC; go_simp <;> rfl
            simp only [Act.put, zl]
            refine dw_val rfl rfl rfl ?_; apply Exists.intro; refine ⟨fun wv HC => ?_, ?_⟩
            · obtain ⟨f0, f1, f2, f3, f4⟩ := HF.out _ HC; obtain ⟨p0, p1⟩ := HP.out _ HC; go_simp <;> rfl
            simp only [Act.put, zl]
            refine dw_val rfl rfl rfl ?_; apply Exists.intro; refine ⟨fun wv HC => ?_, ?_⟩
            · obtain ⟨f0, f1, f2, f3, f4⟩ := HF.out _ HC; obtain ⟨p0, p1⟩ := HP.out _ HC; go_simp <;> rfl
            simp only [Act.put, zl]
            refine dw_val rfl rfl rfl ?_; apply Exists.intro; refine ⟨fun wv HC => ?_, ?_⟩
            · obtain ⟨f0, f1, f2, f3, f4⟩ := HF.out _ HC; obtain ⟨p0, p1⟩ := HP.out _ HC; go_simp <;> rfl
            simp only [Act.put, zl]
            refine dw_val rfl rfl rfl ?_; apply Exists.intro; refine ⟨fun wv HC => ?_, ?_⟩
            · obtain ⟨f0, f1, f2, f3, f4⟩ := HF.out _ HC; obtain ⟨p0, p1⟩ := HP.out _ HC; go_simp <;> rfl
            simp only [Act.put, zl]
            refine dw_val rfl rfl rfl ?_; apply Exists.intro; refine ⟨fun wv HC => ?_, ?_⟩
            · obtain ⟨f0, f1, f2, f3, f4⟩ := HF.out _ HC; obtain ⟨p0, p1⟩ := HP.out _ HC; go_simp <;> rfl
            simp only [Act.put, zl]
            refine dw_val rfl rfl rfl ?_; apply Exists.intro; refine ⟨fun wv HC => ?_, ?_⟩
            · obtain ⟨f0, f1, f2, f3, f4⟩ := HF.out _ HC; obtain ⟨p0, p1⟩ := HP.out _ HC; go_simp <;> rfl
            simp only [Act.put, zl]
            refine dw_val rfl rfl rfl ?_; apply Exists.intro; refine ⟨fun wv HC => ?_, ?_⟩
            · obtain ⟨f0, f1, f2, f3, f4⟩ := HF.out _ HC; obtain ⟨p0, p1⟩ := HP.out _ HC; go_simp <;> rfl
            simp only [Act.put, zl]
            refine dw_val rfl rfl rfl ?_; apply Exists.intro; refine ⟨fun wv HC => ?_, ?_⟩
            · obtain ⟨f0, f1, f2, f3, f4⟩ := HF.out _ HC; obtain ⟨p0, p1⟩ := HP.out _ HC; go_simp <;> rfl
            simp only [Act.put, zl]
            refine dw_val rfl rfl rfl ?_; apply Exists.intro; refine ⟨fun wv HC => ?_, ?_⟩
            · obtain ⟨f0, f1, f2, f3, f4⟩ := HF.out _ HC; obtain ⟨p0, p1⟩ := HP.out _ HC; go_simp <;> rfl
            simp only [Act.put, zl]
            refine dw_val rfl rfl rfl ?_; apply Exists.intro; refine ⟨fun wv HC => ?_, ?_⟩
            · obtain ⟨f0, f1, f2, f3, f4⟩ := HF.out _ HC; obtain ⟨p0, p1⟩ := HP.out _ HC; go_simp <;> rfl
            simp only [Act.put, zl]
            refine dw_val rfl rfl rfl ?_; apply Exists.intro; refine ⟨fun wv HC => ?_, ?_⟩
            · obtain ⟨f0, f1, f2, f3, f4⟩ := HF.out _ HC; obtain ⟨p0, p1⟩ := HP.out _ HC; go_simp <;> rfl
            simp only [Act.put, zl]
            refine dw_val rfl rfl rfl ?_; apply Exists.intro; refine ⟨fun wv HC => ?_, ?_⟩
            ·  go_simp <;> rfl
            simp only [Act.put, zl]
            refine dw_val rfl rfl rfl ?_; apply Exists.intro; refine ⟨fun wv HC => ?_, ?_⟩
            ·  go_simp <;> rfl
            simp only [Act.put, zl]
            refine rel_nil ?_
            rintro wx9 HX9
            rintro _hrm _HG
            clear _hrm _HG
            rw [HKL.out] at HX9
            go_wp2_with fail
            go_roundw
            case rel => exact ⟨(j + 1) + 1, by omega, by go_num, HN, HX9⟩
            case measure => simp [intOf]; omega
          | false =>
            have HN := hid (storB_bad (by rw [List.length_map, HL.out]; exact hlt) ((stoOk_next HXT.out HYT.out HVT.out).trans hlt3))
            refine wp_region_any (by kernel_rfl) ?_
            refine wpAny_hold 26 39 (KL) (spL [(16, IsV (.bool true))]) (by kernel_rfl) (by kernel_rfl) (by kernel_rfl) rfl ?_ (KN.drew) ?_
            · exact stays_cons isV_mono (stays_nil _)
            simp only [zd, Act.put, List.getElem_toArray, List.getElem_cons_zero, List.getElem_cons_succ, zl]
            refine dw_val rfl rfl rfl ?_; apply Exists.intro; refine ⟨fun wv HC => ?_, ?_⟩
            ·  go_simp <;> rfl
            simp only [Act.put, zl]
            refine dw_val rfl rfl rfl ?_; apply Exists.intro; refine ⟨fun wv HC => ?_, ?_⟩
            ·  go_simp <;> rfl
            simp only [Act.put, zl]
            refine dw_val rfl rfl rfl ?_; apply Exists.intro; refine ⟨fun wv HC => ?_, ?_⟩
            · obtain ⟨f0, f1, f2, f3, f4⟩ := HF.out _ HC; go_simp <;> rfl
            simp only [Act.put, zl]
            refine dw_val rfl rfl rfl ?_; apply Exists.intro; refine ⟨fun wv HC => ?_, ?_⟩
            · obtain ⟨f0, f1, f2, f3, f4⟩ := HF.out _ HC; go_simp <;> rfl
            simp only [Act.put, zl]
            refine dw_callR 16 (IsV (.bool true)) (f := 58) (args := #[.agg #[.string x.nm, .slice x.A x.n x.c, .int .i64 x.nx, .slice x.B x.m x.d]]) rfl rfl rfl rfl (fun wv => ?_) (fun wv HC hrm hD => ?_) ?_
            · go_simp <;> rfl
            · refine (rtvalid_any _ wv HC.mutLt x.nm x.A x.n x.c x.cs x.nx x.B x.m x.d x.l ((HX.out _ HC).imp fun w h => h.1) ((HX.out _ HC).imp fun w h => h.2) HXB.out.1 HXB.out.2 HXO.out.l HXM.out.nm HXM.out.cs).mono ?_
              rintro e w5 ⟨rfl, b5⟩
              exact ⟨_, rfl, by rw [HVB.out]; rfl, HC.call b5, RM.below b5⟩
            rintro u_ wx HCx rfl
            clear HCx
            simp only [Act.put, zl]
            refine dw_val rfl rfl rfl ?_; apply Exists.intro; refine ⟨fun wv HC => ?_, ?_⟩
            ·  go_simp <;> rfl
            simp only [Act.put, zl]
            refine dw_val rfl rfl rfl ?_; apply Exists.intro; refine ⟨fun wv HC => ?_, ?_⟩
            ·  go_simp <;> rfl
            simp only [Act.put, zl]
            refine dw_val rfl rfl rfl ?_; apply Exists.intro; refine ⟨fun wv HC => ?_, ?_⟩
            ·  go_simp <;> rfl
            simp only [Act.put, zl]
            refine dw_val rfl rfl rfl ?_; apply Exists.intro; refine ⟨fun wv HC => ?_, ?_⟩
            ·  go_simp <;> rfl
            simp only [Act.put, zl]
            refine dw_val rfl rfl rfl ?_; apply Exists.intro; refine ⟨fun wv HC => ?_, ?_⟩
            ·  go_simp <;> rfl
            simp only [Act.put, zl]
            refine dw_val rfl rfl rfl ?_; apply Exists.intro; refine ⟨fun wv HC => ?_, ?_⟩
            · obtain ⟨f0, f1, f2, f3, f4⟩ := HF.out _ HC; obtain ⟨p0, p1⟩ := HP.out _ HC; go_simp <;> rfl
            simp only [Act.put, zl]
            refine dw_val rfl rfl rfl ?_; apply Exists.intro; refine ⟨fun wv HC => ?_, ?_⟩
            · obtain ⟨f0, f1, f2, f3, f4⟩ := HF.out _ HC; obtain ⟨p0, p1⟩ := HP.out _ HC; go_simp <;> rfl
            simp only [Act.put, zl]
            refine dw_val rfl rfl rfl ?_; apply Exists.intro; refine ⟨fun wv HC => ?_, ?_⟩
            · obtain ⟨f0, f1, f2, f3, f4⟩ := HF.out _ HC; obtain ⟨p0, p1⟩ := HP.out _ HC; go_simp <;> rfl
            simp only [Act.put, zl]
            refine dw_val rfl rfl rfl ?_; apply Exists.intro; refine ⟨fun wv HC => ?_, ?_⟩
            · obtain ⟨f0, f1, f2, f3, f4⟩ := HF.out _ HC; obtain ⟨p0, p1⟩ := HP.out _ HC; go_simp <;> rfl
            simp only [Act.put, zl]
            refine dw_val rfl rfl rfl ?_; apply Exists.intro; refine ⟨fun wv HC => ?_, ?_⟩
            · obtain ⟨f0, f1, f2, f3, f4⟩ := HF.out _ HC; obtain ⟨p0, p1⟩ := HP.out _ HC; go_simp <;> rfl
            simp only [Act.put, zl]
            refine dw_val rfl rfl rfl ?_; apply Exists.intro; refine ⟨fun wv HC => ?_, ?_⟩
            · obtain ⟨f0, f1, f2, f3, f4⟩ := HF.out _ HC; obtain ⟨p0, p1⟩ := HP.out _ HC; go_simp <;> rfl
            simp only [Act.put, zl]
            refine dw_val rfl rfl rfl ?_; apply Exists.intro; refine ⟨fun wv HC => ?_, ?_⟩
            · obtain ⟨f0, f1, f2, f3, f4⟩ := HF.out _ HC; obtain ⟨p0, p1⟩ := HP.out _ HC; go_simp <;> rfl
            simp only [Act.put, zl]
            refine dw_val rfl rfl rfl ?_; apply Exists.intro; refine ⟨fun wv HC => ?_, ?_⟩
            · obtain ⟨f0, f1, f2, f3, f4⟩ := HF.out _ HC; obtain ⟨p0, p1⟩ := HP.out _ HC; go_simp <;> rfl
            simp only [Act.put, zl]
            refine dw_val rfl rfl rfl ?_; apply Exists.intro; refine ⟨fun wv HC => ?_, ?_⟩
            · obtain ⟨f0, f1, f2, f3, f4⟩ := HF.out _ HC; obtain ⟨p0, p1⟩ := HP.out _ HC; go_simp <;> rfl
            simp only [Act.put, zl]
            refine dw_val rfl rfl rfl ?_; apply Exists.intro; refine ⟨fun wv HC => ?_, ?_⟩
            · obtain ⟨f0, f1, f2, f3, f4⟩ := HF.out _ HC; obtain ⟨p0, p1⟩ := HP.out _ HC; go_simp <;> rfl
            simp only [Act.put, zl]
            refine dw_val rfl rfl rfl ?_; apply Exists.intro; refine ⟨fun wv HC => ?_, ?_⟩
            · obtain ⟨f0, f1, f2, f3, f4⟩ := HF.out _ HC; obtain ⟨p0, p1⟩ := HP.out _ HC; go_simp <;> rfl
            simp only [Act.put, zl]
            refine dw_val rfl rfl rfl ?_; apply Exists.intro; refine ⟨fun wv HC => ?_, ?_⟩
            · obtain ⟨f0, f1, f2, f3, f4⟩ := HF.out _ HC; obtain ⟨p0, p1⟩ := HP.out _ HC; go_simp <;> rfl
            simp only [Act.put, zl]
            refine dw_val rfl rfl rfl ?_; apply Exists.intro; refine ⟨fun wv HC => ?_, ?_⟩
            · obtain ⟨f0, f1, f2, f3, f4⟩ := HF.out _ HC; obtain ⟨p0, p1⟩ := HP.out _ HC; go_simp <;> rfl
            simp only [Act.put, zl]
            refine dw_val rfl rfl rfl ?_; apply Exists.intro; refine ⟨fun wv HC => ?_, ?_⟩
            · obtain ⟨f0, f1, f2, f3, f4⟩ := HF.out _ HC; obtain ⟨p0, p1⟩ := HP.out _ HC; go_simp <;> rfl
            simp only [Act.put, zl]
            refine dw_val rfl rfl rfl ?_; apply Exists.intro; refine ⟨fun wv HC => ?_, ?_⟩
            ·  go_simp <;> rfl
            simp only [Act.put, zl]
            refine dw_val rfl rfl rfl ?_; apply Exists.intro; refine ⟨fun wv HC => ?_, ?_⟩
            ·  go_simp <;> rfl
            simp only [Act.put, zl]
            refine rel_nil ?_
            rintro wx9 HX9
            rintro _hrm _HG
            clear _hrm _HG
            rw [HKL.out] at HX9
            go_wp2_with fail
            go_ret
            exact ⟨by rw [HN.out] <;> rfl, HX9.below⟩
    · obtain rfl : k = n := by omega
      have hdd : decide ((k : Int) < (k : Int)) = false := by simp
      have HN := hid (storB_end (by rw [List.length_map]; exact HL.out) (by omega) HR.out)
      go_wp2_with fail
      go_ret
      exact ⟨by rw [HN.out] <;> rfl, H.below⟩
end Go.Proofs.YtedogodccblfeaaGreatDoor

namespace Go.Proofs.YtedogodccblfeaaGreatDoor
open Go.RowKit
set_option linter.unusedVariables false
set_option linter.unusedSimpArgs false

/-- A difference: the table's name, the rows that came, those that left, the updates. -/
structure Dl where
  nm : ByteArray
  ins : List Row
  del : List Row
  upd : List Upd
deriving DecidableEq
def zeroD : Dl := ⟨⟨#[]⟩, [], [], []⟩
/-- the rows of l that rs does not have -/
def offR (rs l : List Row) : List Row := l.filter fun r => (getR rs r.1).isNone
/-- the rows of l that rs has with other values -/
def turnR (rs l : List Row) : List Upd := l.filterMap fun r => match getR rs r.1 with
  | some o => if o = r.2 then none else some (r.1, o, r.2)
  | none => none
def betB (a b : Tb) : Bool := tabB a.nm a.cs a.nx a.rs && tabB b.nm b.cs b.nx b.rs && decide (a.nm = b.nm ∧ a.cs = b.cs) && decide (a.nx ≤ b.nx) && b.rs.all fun r => (getR a.rs r.1).isSome || decide (a.nx ≤ r.1)
def betweenC (a b : Tb) : Bool × Dl := if betB a b then (true, ⟨a.nm, offR a.rs b.rs, offR b.rs a.rs, turnR a.rs b.rs⟩) else (false, zeroD)

theorem offR_hit {rs l : List Row} {j : Nat} {r : Row} (hr : l[j]? = some r) (h : getR rs r.1 = none) : offR rs (l.take (j + 1)) = offR rs (l.take j) ++ [r] := by
  unfold offR
  rw [List.take_add_one, hr, Option.toList_some, List.filter_append]
  simp [List.filter_cons, h]
theorem offR_miss {rs l : List Row} {j : Nat} {r : Row} {v : List Vl} (hr : l[j]? = some r) (h : getR rs r.1 = some v) : offR rs (l.take (j + 1)) = offR rs (l.take j) := by
  unfold offR
  rw [List.take_add_one, hr, Option.toList_some, List.filter_append]
  simp [List.filter_cons, h]
theorem turnR_none {rs l : List Row} {j : Nat} {r : Row} (hr : l[j]? = some r) (h : getR rs r.1 = none) : turnR rs (l.take (j + 1)) = turnR rs (l.take j) := by
  unfold turnR
  rw [List.take_add_one, hr, Option.toList_some, List.filterMap_append]
  simp [h]
theorem turnR_same {rs l : List Row} {j : Nat} {r : Row} (hr : l[j]? = some r) (h : getR rs r.1 = some r.2) : turnR rs (l.take (j + 1)) = turnR rs (l.take j) := by
  unfold turnR
  rw [List.take_add_one, hr, Option.toList_some, List.filterMap_append]
  simp [h]
theorem turnR_turn {rs l : List Row} {j : Nat} {r : Row} {o : List Vl} (hr : l[j]? = some r) (h : getR rs r.1 = some o) (hne : o ≠ r.2) : turnR rs (l.take (j + 1)) = turnR rs (l.take j) ++ [(r.1, o, r.2)] := by
  unfold turnR
  rw [List.take_add_one, hr, Option.toList_some, List.filterMap_append]
  simp [h, hne]
theorem getR_of_mem : ∀ {rs : List Row} {r : Row}, (rs.map (·.1)).Pairwise (· < ·) → r ∈ rs → getR rs r.1 = some r.2
  | x :: rs, r, ha, hr => by
    rw [List.map_cons, List.pairwise_cons] at ha
    rcases List.mem_cons.1 hr with rfl | hr
    · simp [getR]
    · have h1 := ha.1 r.1 (List.mem_map_of_mem hr)
      have h2 := getR_of_mem ha.2 hr
      unfold getR at h2 ⊢
      rw [List.find?_cons, show (x.1 == r.1) = false by rw [beq_eq_false_iff_ne]; omega]
      exact h2
theorem getR_out {rs : List Row} {id : Int} {v : List Vl} (h : getR rs id = some v) : (id, v) ∈ rs := by
  unfold getR at h
  obtain ⟨x, hx, rfl⟩ := Option.map_eq_some_iff.1 h
  have h1 := List.mem_of_find?_eq_some hx
  have h2 := List.find?_some hx
  simp only [beq_iff_eq] at h2
  subst h2
  exact h1
/-- the merge's state: the rows of a ahead of p lie below all rows of b from j on, the others above all rows of b ahead of j -/
structure Mg (a b : List Row) (j p : Nat) : Prop where
  aasc : (a.map (·.1)).Pairwise (· < ·)
  basc : (b.map (·.1)).Pairwise (· < ·)
  low : ∀ x ∈ a.take p, ∀ y ∈ b.drop j, x.1 < y.1
  up : ∀ x ∈ a.drop p, ∀ y ∈ b.take j, y.1 < x.1
theorem asc_at {l : List Row} (h : (l.map (·.1)).Pairwise (· < ·)) {i j : Nat} {x y : Row} (hx : l[i]? = some x) (hy : l[j]? = some y) (hij : i < j) : x.1 < y.1 := by
  rw [List.pairwise_iff_getElem] at h
  obtain ⟨hi, rfl⟩ := List.getElem?_eq_some_iff.1 hx
  obtain ⟨hj, rfl⟩ := List.getElem?_eq_some_iff.1 hy
  have := h i j (by simpa using hi) (by simpa using hj) hij
  simpa using this
theorem mem_drop_at {α : Type} {l : List α} {k : Nat} {x : α} (h : x ∈ l.drop k) : ∃ i, k ≤ i ∧ l[i]? = some x := by
  obtain ⟨i, hi⟩ := List.getElem?_of_mem h
  rw [List.getElem?_drop] at hi
  exact ⟨k + i, by omega, hi⟩
theorem mem_take_at {α : Type} {l : List α} {k : Nat} {x : α} (h : x ∈ l.take k) : ∃ i, i < k ∧ l[i]? = some x := by
  obtain ⟨i, hi⟩ := List.getElem?_of_mem h
  rw [List.getElem?_take] at hi
  split at hi
  · exact ⟨i, by assumption, hi⟩
  · cases hi
theorem mem_of_drop_at {α : Type} {l : List α} {k i : Nat} {x : α} (hk : k ≤ i) (h : l[i]? = some x) : x ∈ l.drop k := List.mem_of_getElem? (i := i - k) (by rw [List.getElem?_drop, show k + (i - k) = i by omega]; exact h)
theorem mem_of_take_at {α : Type} {l : List α} {k i : Nat} {x : α} (hk : i < k) (h : l[i]? = some x) : x ∈ l.take k := List.mem_of_getElem? (i := i) (by rw [List.getElem?_take, if_pos hk]; exact h)
theorem Mg.zero {a b : List Row} (ha : (a.map (·.1)).Pairwise (· < ·)) (hb : (b.map (·.1)).Pairwise (· < ·)) : Mg a b 0 0 := ⟨ha, hb, fun x hx => by simp at hx, fun x _ y hy => by simp at hy⟩
/-- a row of a that b lacks -/
theorem Mg.left {a b : List Row} {j p : Nat} (h : Mg a b j p) {x r : Row} (hx : a[p]? = some x) (hr : b[j]? = some r) (hlt : x.1 < r.1) : Mg a b j (p + 1) ∧ getR b x.1 = none := by
  refine ⟨⟨h.aasc, h.basc, fun z hz y hy => ?_, fun z hz y hy => ?_⟩, getR_none fun y hy e => ?_⟩
  · obtain ⟨i, hi, hzi⟩ := mem_take_at hz
    rcases Nat.lt_or_ge i p with hip | hip
    · exact h.low z (mem_of_take_at hip hzi) y hy
    · obtain rfl : i = p := by omega
      rw [hx] at hzi; injection hzi with hzi; subst hzi
      obtain ⟨k, hk, hyk⟩ := mem_drop_at hy
      rcases Nat.eq_or_lt_of_le hk with e | e
      · subst e; rw [hr] at hyk; injection hyk with hyk; subst hyk; exact hlt
      · have := asc_at h.basc hr hyk e; omega
  · obtain ⟨i, hi, hzi⟩ := mem_drop_at hz
    exact h.up z (mem_of_drop_at (by omega) hzi) y hy
  · obtain ⟨k, hk⟩ := List.getElem?_of_mem hy
    rcases Nat.lt_or_ge k j with hkj | hkj
    · have := h.up x (mem_of_drop_at (Nat.le_refl _) hx) y (mem_of_take_at hkj hk); omega
    · rcases Nat.eq_or_lt_of_le hkj with e2 | e2
      · subst e2; rw [hr] at hk; injection hk with hk; subst hk; omega
      · have := asc_at h.basc hr hk e2; omega
/-- a row of both -/
theorem Mg.both {a b : List Row} {j p : Nat} (h : Mg a b j p) {x r : Row} (hx : a[p]? = some x) (hr : b[j]? = some r) (he : x.1 = r.1) : Mg a b (j + 1) (p + 1) ∧ getR b x.1 = some r.2 ∧ getR a r.1 = some x.2 := by
  refine ⟨⟨h.aasc, h.basc, fun z hz y hy => ?_, fun z hz y hy => ?_⟩, ?_, ?_⟩
  · obtain ⟨i, hi, hzi⟩ := mem_take_at hz
    obtain ⟨k, hk, hyk⟩ := mem_drop_at hy
    have h1 := asc_at h.basc hr hyk (by omega)
    rcases Nat.lt_or_ge i p with hip | hip
    · have := asc_at h.aasc hzi hx hip; omega
    · obtain rfl : i = p := by omega
      rw [hx] at hzi; injection hzi with hzi; subst hzi; omega
  · obtain ⟨i, hi, hzi⟩ := mem_drop_at hz
    obtain ⟨k, hk, hyk⟩ := mem_take_at hy
    have h1 := asc_at h.aasc hx hzi (by omega)
    rcases Nat.lt_or_ge k j with hkj | hkj
    · have := asc_at h.basc hyk hr hkj; omega
    · obtain rfl : k = j := by omega
      rw [hr] at hyk; injection hyk with hyk; subst hyk; omega
  · rw [he]; exact getR_of_mem h.basc (List.mem_of_getElem? hr)
  · rw [← he]; exact getR_of_mem h.aasc (List.mem_of_getElem? hx)
/-- a row of b that a lacks -/
theorem Mg.right {a b : List Row} {j p : Nat} (h : Mg a b j p) {r : Row} (hr : b[j]? = some r) (hp : ∀ x, a[p]? = some x → r.1 < x.1) : Mg a b (j + 1) p ∧ getR a r.1 = none := by
  have hup : ∀ i z, p ≤ i → a[i]? = some z → r.1 < z.1 := fun i z hi hz => by
    rcases Nat.eq_or_lt_of_le hi with e | e
    · subst e; exact hp z hz
    · have hl : p < a.length := by have := (List.getElem?_eq_some_iff.1 hz).1; omega
      have h1 := hp _ (List.getElem?_eq_getElem hl)
      have h2 := asc_at h.aasc (List.getElem?_eq_getElem hl) hz e
      omega
  refine ⟨⟨h.aasc, h.basc, fun z hz y hy => ?_, fun z hz y hy => ?_⟩, getR_none fun y hy e => ?_⟩
  · obtain ⟨k, hk, hyk⟩ := mem_drop_at hy
    exact h.low z hz y (mem_of_drop_at (by omega) hyk)
  · obtain ⟨i, hi, hzi⟩ := mem_drop_at hz
    obtain ⟨k, hk, hyk⟩ := mem_take_at hy
    have h1 := hup i z hi hzi
    rcases Nat.lt_or_ge k j with hkj | hkj
    · have := asc_at h.basc hyk hr hkj; omega
    · obtain rfl : k = j := by omega
      rw [hr] at hyk; injection hyk with hyk; subst hyk; omega
  · obtain ⟨i, hi⟩ := List.getElem?_of_mem hy
    rcases Nat.lt_or_ge i p with hip | hip
    · have := h.low y (mem_of_take_at hip hi) r (mem_of_drop_at (Nat.le_refl _) hr); omega
    · have := hup i y hip hi; omega
/-- what is left of a, b lacks -/
theorem Mg.last {a b : List Row} {j p : Nat} (h : Mg a b j p) (hj : b.length ≤ j) {i : Nat} {x : Row} (hi : p ≤ i) (hx : a[i]? = some x) : getR b x.1 = none := getR_none fun y hy e => by
  obtain ⟨k, hk⟩ := List.getElem?_of_mem hy
  have := (List.getElem?_eq_some_iff.1 hk).1
  have := h.up x (mem_of_drop_at hi hx) y (mem_of_take_at (by omega) hk)
  omega
/-- the state of the merge: j rows of b and p rows of a are done -/
structure BSt (a b : Tb) (j p : Nat) (li ld : List Rw) (lu : List Pr) : Prop where
  va : tabB a.nm a.cs a.nx a.rs = true
  vb : tabB b.nm b.cs b.nx b.rs = true
  eq : a.nm = b.nm ∧ a.cs = b.cs
  nx : a.nx ≤ b.nx
  mg : Mg a.rs b.rs j p
  ins : li.map Rw.row = offR a.rs (b.rs.take j)
  del : ld.map Rw.row = offR b.rs (a.rs.take p)
  upd : lu.map Pr.upd = turnR a.rs (b.rs.take j)
  new : ∀ r ∈ b.rs.take j, (getR a.rs r.1).isSome = true ∨ a.nx ≤ r.1
  ok1 : ∀ r ∈ li, r.ok
  ok2 : ∀ r ∈ ld, r.ok
  ok3 : ∀ p ∈ lu, p.ok
theorem tabB_asc {t : Tb} (h : tabB t.nm t.cs t.nx t.rs = true) : (t.rs.map (·.1)).Pairwise (· < ·) := (okR_asc (tabB_ok h).2.2.2.2.1).1
theorem BSt.zero {a b : Tb} (va : tabB a.nm a.cs a.nx a.rs = true) (vb : tabB b.nm b.cs b.nx b.rs = true) (eq : a.nm = b.nm ∧ a.cs = b.cs) (nx : a.nx ≤ b.nx) : BSt a b 0 0 [] [] [] :=
  ⟨va, vb, eq, nx, Mg.zero (tabB_asc va) (tabB_asc vb), rfl, rfl, rfl, fun r hr => by simp at hr, fun r hr => (nomatch hr), fun r hr => (nomatch hr), fun r hr => (nomatch hr)⟩
theorem okSnoc {α : Type} {P : α → Prop} {l : List α} {x : α} (h : ∀ r ∈ l, P r) (k : P x) : ∀ r ∈ l ++ [x], P r := fun r hr => by
  rcases List.mem_append.1 hr with hr | hr
  · exact h r hr
  · simp at hr; subst hr; exact k
theorem all_take {P : Row → Prop} {l : List Row} {j : Nat} {r : Row} (h : ∀ x ∈ l.take j, P x) (hr : l[j]? = some r) (k : P r) : ∀ x ∈ l.take (j + 1), P x := by
  rw [List.take_add_one, hr, Option.toList_some]
  exact okSnoc h k
section
variable {a b : Tb} {j p : Nat} {li ld : List Rw} {lu : List Pr}
theorem BSt.left (h : BSt a b j p li ld lu) {x r : Row} (hx : a.rs[p]? = some x) (hr : b.rs[j]? = some r) (hlt : x.1 < r.1) {y : Rw} (hy : y.row = x) (hk : y.ok) : BSt a b j (p + 1) li (ld ++ [y]) lu := by
  obtain ⟨h1, h2⟩ := h.mg.left hx hr hlt
  exact ⟨h.va, h.vb, h.eq, h.nx, h1, h.ins, by rw [List.map_append, h.del, offR_hit hx h2, ← hy]; rfl, h.upd, h.new, h.ok1, okSnoc h.ok2 hk, h.ok3⟩
theorem BSt.same (h : BSt a b j p li ld lu) {x r : Row} (hx : a.rs[p]? = some x) (hr : b.rs[j]? = some r) (he : x.1 = r.1) (hv : x.2 = r.2) : BSt a b (j + 1) (p + 1) li ld lu := by
  obtain ⟨h1, h2, h3⟩ := h.mg.both hx hr he
  exact ⟨h.va, h.vb, h.eq, h.nx, h1, by rw [h.ins, offR_miss hr h3], by rw [h.del, offR_miss hx h2], by rw [h.upd, turnR_same hr (by rw [h3, hv])], all_take h.new hr (.inl (by rw [h3]; rfl)), h.ok1, h.ok2, h.ok3⟩
theorem BSt.turn (h : BSt a b j p li ld lu) {x r : Row} (hx : a.rs[p]? = some x) (hr : b.rs[j]? = some r) (he : x.1 = r.1) (hv : x.2 ≠ r.2) {q : Pr} (hq : q.upd = (r.1, x.2, r.2)) (hk : q.ok) : BSt a b (j + 1) (p + 1) li ld (lu ++ [q]) := by
  obtain ⟨h1, h2, h3⟩ := h.mg.both hx hr he
  exact ⟨h.va, h.vb, h.eq, h.nx, h1, by rw [h.ins, offR_miss hr h3], by rw [h.del, offR_miss hx h2], by rw [List.map_append, h.upd, turnR_turn hr h3 hv, ← hq]; rfl, all_take h.new hr (.inl (by rw [h3]; rfl)), h.ok1, h.ok2, okSnoc h.ok3 hk⟩
theorem BSt.right (h : BSt a b j p li ld lu) {r : Row} (hr : b.rs[j]? = some r) (hp : ∀ x, a.rs[p]? = some x → r.1 < x.1) (hn : a.nx ≤ r.1) {y : Rw} (hy : y.row = r) (hk : y.ok) : BSt a b (j + 1) p (li ++ [y]) ld lu := by
  obtain ⟨h1, h2⟩ := h.mg.right hr hp
  exact ⟨h.va, h.vb, h.eq, h.nx, h1, by rw [List.map_append, h.ins, offR_hit hr h2, ← hy]; rfl, h.del, by rw [h.upd, turnR_none hr h2], all_take h.new hr (.inr hn), okSnoc h.ok1 hk, h.ok2, h.ok3⟩
theorem BSt.bad (h : BSt a b j p li ld lu) {r : Row} (hr : b.rs[j]? = some r) (hp : ∀ x, a.rs[p]? = some x → r.1 < x.1) (hn : r.1 < a.nx) : betweenC a b = (false, zeroD) := by
  obtain ⟨h1, h2⟩ := h.mg.right hr hp
  have : betB a b = false := by
    unfold betB
    have h3 : (b.rs.all fun r => (getR a.rs r.1).isSome || decide (a.nx ≤ r.1)) = false := by
      rw [List.all_eq_false]
      exact ⟨r, List.mem_of_getElem? hr, by rw [h2]; simp; omega⟩
    rw [h3, Bool.and_false]
  unfold betweenC
  rw [this]; rfl
theorem BSt.tail (h : BSt a b j p li ld lu) (hj : b.rs.length ≤ j) {x : Row} (hx : a.rs[p]? = some x) {y : Rw} (hy : y.row = x) (hk : y.ok) : BSt a b j (p + 1) li (ld ++ [y]) lu := by
  have h2 := h.mg.last hj (Nat.le_refl _) hx
  refine ⟨h.va, h.vb, h.eq, h.nx, ⟨h.mg.aasc, h.mg.basc, fun z _ y hy => ?_, fun z hz y hy => ?_⟩, h.ins, by rw [List.map_append, h.del, offR_hit hx h2, ← hy]; rfl, h.upd, h.new, h.ok1, okSnoc h.ok2 hk, h.ok3⟩
  · rw [List.drop_of_length_le hj] at hy; cases hy
  · obtain ⟨i, hi, hzi⟩ := mem_drop_at hz
    exact h.mg.up z (mem_of_drop_at (by omega) hzi) y hy
theorem BSt.fin (h : BSt a b j p li ld lu) (hj : b.rs.length ≤ j) (hp : a.rs.length ≤ p) : betweenC a b = (true, ⟨a.nm, li.map Rw.row, ld.map Rw.row, lu.map Pr.upd⟩) := by
  have h1 := h.ins
  have h2 := h.del
  have h3 := h.upd
  have h4 := h.new
  rw [List.take_of_length_le hj] at h1 h3 h4
  rw [List.take_of_length_le hp] at h2
  have : betB a b = true := by
    unfold betB
    rw [h.va, h.vb, decide_eq_true h.eq, decide_eq_true h.nx]
    simp only [Bool.and_self, Bool.true_and, List.all_eq_true, Bool.or_eq_true, decide_eq_true_eq]
    exact h4
  unfold betweenC
  rw [this, if_pos rfl, h1, h2, h3]
end
/-- the state of the reference's loops: j rows of b, then p rows of a are done -/
structure RSt (a b : Tb) (j p : Nat) (li ld : List Rw) (lu : List Pr) : Prop where
  va : tabB a.nm a.cs a.nx a.rs = true
  vb : tabB b.nm b.cs b.nx b.rs = true
  eq : a.nm = b.nm ∧ a.cs = b.cs
  nx : a.nx ≤ b.nx
  ins : li.map Rw.row = offR a.rs (b.rs.take j)
  del : ld.map Rw.row = offR b.rs (a.rs.take p)
  upd : lu.map Pr.upd = turnR a.rs (b.rs.take j)
  new : ∀ r ∈ b.rs.take j, (getR a.rs r.1).isSome = true ∨ a.nx ≤ r.1
  ok1 : ∀ r ∈ li, r.ok
  ok2 : ∀ r ∈ ld, r.ok
  ok3 : ∀ p ∈ lu, p.ok
theorem RSt.zero {a b : Tb} (va : tabB a.nm a.cs a.nx a.rs = true) (vb : tabB b.nm b.cs b.nx b.rs = true) (eq : a.nm = b.nm ∧ a.cs = b.cs) (nx : a.nx ≤ b.nx) : RSt a b 0 0 [] [] [] :=
  ⟨va, vb, eq, nx, rfl, rfl, rfl, fun r hr => by simp at hr, fun r hr => (nomatch hr), fun r hr => (nomatch hr), fun r hr => (nomatch hr)⟩
section
variable {a b : Tb} {j p : Nat} {li ld : List Rw} {lu : List Pr}
theorem RSt.ins_ (h : RSt a b j p li ld lu) {r : Row} (hr : b.rs[j]? = some r) (h2 : getR a.rs r.1 = none) (hn : a.nx ≤ r.1) {y : Rw} (hy : y.row = r) (hk : y.ok) : RSt a b (j + 1) p (li ++ [y]) ld lu :=
  ⟨h.va, h.vb, h.eq, h.nx, by rw [List.map_append, h.ins, offR_hit hr h2, ← hy]; rfl, h.del, by rw [h.upd, turnR_none hr h2], all_take h.new hr (.inr hn), okSnoc h.ok1 hk, h.ok2, h.ok3⟩
theorem RSt.same (h : RSt a b j p li ld lu) {r : Row} {o : List Vl} (hr : b.rs[j]? = some r) (h2 : getR a.rs r.1 = some o) (ho : o = r.2) : RSt a b (j + 1) p li ld lu := by
  subst ho
  exact ⟨h.va, h.vb, h.eq, h.nx, by rw [h.ins, offR_miss hr h2], h.del, by rw [h.upd, turnR_same hr h2], all_take h.new hr (.inl (by rw [h2]; rfl)), h.ok1, h.ok2, h.ok3⟩
theorem RSt.turn (h : RSt a b j p li ld lu) {r : Row} {o : List Vl} (hr : b.rs[j]? = some r) (h2 : getR a.rs r.1 = some o) (ho : o ≠ r.2) {q : Pr} (hq : q.upd = (r.1, o, r.2)) (hk : q.ok) : RSt a b (j + 1) p li ld (lu ++ [q]) :=
  ⟨h.va, h.vb, h.eq, h.nx, by rw [h.ins, offR_miss hr h2], h.del, by rw [List.map_append, h.upd, turnR_turn hr h2 ho, ← hq]; rfl, all_take h.new hr (.inl (by rw [h2]; rfl)), h.ok1, h.ok2, okSnoc h.ok3 hk⟩
theorem RSt.bad (h : RSt a b j p li ld lu) {r : Row} (hr : b.rs[j]? = some r) (h2 : getR a.rs r.1 = none) (hn : r.1 < a.nx) : betweenC a b = (false, zeroD) := by
  have : betB a b = false := by
    unfold betB
    have h3 : (b.rs.all fun r => (getR a.rs r.1).isSome || decide (a.nx ≤ r.1)) = false := by
      rw [List.all_eq_false]
      exact ⟨r, List.mem_of_getElem? hr, by rw [h2]; simp; omega⟩
    rw [h3, Bool.and_false]
  unfold betweenC
  rw [this]; rfl
theorem RSt.left (h : RSt a b j p li ld lu) {x : Row} (hx : a.rs[p]? = some x) (h2 : getR b.rs x.1 = none) {y : Rw} (hy : y.row = x) (hk : y.ok) : RSt a b j (p + 1) li (ld ++ [y]) lu :=
  ⟨h.va, h.vb, h.eq, h.nx, h.ins, by rw [List.map_append, h.del, offR_hit hx h2, ← hy]; rfl, h.upd, h.new, h.ok1, okSnoc h.ok2 hk, h.ok3⟩
theorem RSt.keep (h : RSt a b j p li ld lu) {x : Row} {v : List Vl} (hx : a.rs[p]? = some x) (h2 : getR b.rs x.1 = some v) : RSt a b j (p + 1) li ld lu :=
  ⟨h.va, h.vb, h.eq, h.nx, h.ins, by rw [h.del, offR_miss hx h2], h.upd, h.new, h.ok1, h.ok2, h.ok3⟩
theorem RSt.fin (h : RSt a b j p li ld lu) (hj : b.rs.length ≤ j) (hp : a.rs.length ≤ p) : betweenC a b = (true, ⟨a.nm, li.map Rw.row, ld.map Rw.row, lu.map Pr.upd⟩) := by
  have h1 := h.ins
  have h2 := h.del
  have h3 := h.upd
  have h4 := h.new
  rw [List.take_of_length_le hj] at h1 h3 h4
  rw [List.take_of_length_le hp] at h2
  have : betB a b = true := by
    unfold betB
    rw [h.va, h.vb, decide_eq_true h.eq, decide_eq_true h.nx]
    simp only [Bool.and_self, Bool.true_and, List.all_eq_true, Bool.or_eq_true, decide_eq_true_eq]
    exact h4
  unfold betweenC
  rw [this, if_pos rfl, h1, h2, h3]
end
theorem betC_a {a b : Tb} (h : tabB a.nm a.cs a.nx a.rs = false) : betweenC a b = (false, zeroD) := by unfold betweenC betB; rw [h]; rfl
theorem betC_b {a b : Tb} (h : tabB b.nm b.cs b.nx b.rs = false) : betweenC a b = (false, zeroD) := by unfold betweenC betB; rw [h]; simp
theorem betC_s {a b : Tb} (h : decide (a.nm = b.nm ∧ a.cs = b.cs) = false) : betweenC a b = (false, zeroD) := by unfold betweenC betB; rw [h]; simp
theorem betC_n {a b : Tb} (h : b.nx < a.nx) : betweenC a b = (false, zeroD) := by
  have : decide (a.nx ≤ b.nx) = false := by simp; omega
  unfold betweenC betB; rw [this]; simp
/-- the rest of a list of rows -/
theorem tail_rws {A : Option Addr} {n : Nat} {x : Rw} {l : List Rw} {w : World} (h : RwsIn A n (x :: l) w) : ∃ b o, A = some ⟨b, o, none⟩ ∧ RwsIn (some ⟨b, o + 2, none⟩) (n - 1) l w := by
  have hl := h.len
  simp only [List.length_cons] at hl
  obtain ⟨b, o, e, hb, hc⟩ := (show Rd w w.heap.size 2 A n (rwCells (x :: l)) from h.1).2 (by omega)
  refine ⟨b, o, e, ⟨by rw [rwCells_len]; omega, fun _ => ⟨b, o + 2, rfl, hb, fun j u hu => ?_⟩⟩, fun r hr => h.2 r (List.mem_cons_of_mem _ hr)⟩
  have h2 := hc (j + 2) u (by
    have e0 : rwCells (x :: l) = x.cells ++ rwCells l := by simp [rwCells]
    rw [e0, List.getElem?_append_right (by simp [Rw.cells])]
    simpa [Rw.cells] using hu)
  rw [← h2]
  congr 2
  omega
theorem Ro.tailRws {w : World} {M : Nat → Prop} {A : Option Addr} {n : Nat} {x : Rw} {l : List Rw} (h : Ro w M (RwsIn A n (x :: l))) : ∃ b o, A = some ⟨b, o, none⟩ ∧ Ro w M (RwsIn (some ⟨b, o + 2, none⟩) (n - 1) l) := by
  obtain ⟨b, o, e, _⟩ := tail_rws h.now
  refine ⟨b, o, e, fun w2 h1 h2 => ?_⟩
  obtain ⟨b', o', e', h3⟩ := tail_rws (h w2 h1 h2)
  rw [e] at e'
  injection e' with e'
  injection e' with e1 e2
  subst e1; subst e2
  exact h3
theorem Ro.nilRws {w : World} {M : Nat → Prop} {A : Option Addr} {n : Nat} {l : List Rw} (hn : n = 0) (hl : l = []) : Ro w M (RwsIn A n l) := fun w2 _ _ => by
  subst hn; subst hl
  exact ⟨⟨rfl, fun h => absurd h (by omega)⟩, fun r hr => nomatch hr⟩
/-- a difference in memory -/
def DlAt (w : World) (M : Nat → Prop) (v : Value) (d : Dl) : Prop :=
  ∃ (I : Option Addr) (ni ci : Nat) (D : Option Addr) (nd cd : Nat) (U : Option Addr) (nu cu : Nat) (li ld : List Rw) (lu : List Pr), v = .agg #[.string d.nm, .slice I ni ci, .slice D nd cd, .slice U nu cu] ∧
    (ni ≤ ci ∧ ci ≤ 9223372036854775807) ∧ (nd ≤ cd ∧ cd ≤ 9223372036854775807) ∧ (nu ≤ cu ∧ cu ≤ 9223372036854775807) ∧ Ro w M (RwsIn I ni li) ∧ Ro w M (RwsIn D nd ld) ∧ Ro w M (PrsIn U nu lu) ∧
    (∀ r ∈ li, r.ok) ∧ (∀ r ∈ ld, r.ok) ∧ (∀ p ∈ lu, p.ok) ∧ li.map Rw.row = d.ins ∧ ld.map Rw.row = d.del ∧ lu.map Pr.upd = d.upd
def BetRet (w : World) (M : Nat → Prop) (r : Bool × Dl) (e : Ending) (w' : World) : Prop := ∃ v, e = .returned (.tuple #[v, .bool r.1]) ∧ DlAt w' M v r.2 ∧ Below w.heap.size w w'
theorem dlAt_zero {w : World} {M : Nat → Prop} : DlAt w M (.agg #[.string ⟨#[]⟩, .slice none 0 0, .slice none 0 0, .slice none 0 0]) zeroD :=
  ⟨none, 0, 0, none, 0, 0, none, 0, 0, [], [], [], rfl, by omega, by omega, by omega, fun _ _ _ => ⟨Rd.none_, fun r hr => nomatch hr⟩, fun _ _ _ => ⟨Rd.none_, fun r hr => nomatch hr⟩, fun _ _ _ => ⟨Rd.none_, fun r hr => nomatch hr⟩, fun r hr => (nomatch hr), fun r hr => (nomatch hr), fun r hr => (nomatch hr), rfl, rfl, rfl⟩
end Go.Proofs.YtedogodccblfeaaGreatDoor

namespace Go.Proofs
open Go.Shelf
end Go.Proofs

namespace Go.Proofs.YtedogodccblfeaaGreatDoor
open Go.RowKit Go.Sort
set_option linter.unusedVariables false

/-- from w to w' nothing but draws and new blocks -/
def Gr (w w' : World) : Prop := ∃ (q : Nat) (os : Array Obj), w' = grow (w.drewN q) os
theorem Gr.refl (w : World) : Gr w w := ⟨0, #[], by rw [grow_empty]; rfl⟩
theorem Gr.trans {a b c : World} (h : Gr a b) (k : Gr b c) : Gr a c := by
  obtain ⟨q, os, rfl⟩ := h
  obtain ⟨q2, os2, rfl⟩ := k
  exact ⟨q + q2, os ++ os2, by show grow (grow ((a.drewN q).drewN q2) os) os2 = _; rw [grow_grow, World.drewN_drewN]⟩
theorem Gr.alloc (w : World) (o : Obj) : Gr w (w.alloc o) := ⟨0, #[o], by rw [alloc_eq_grow]; rfl⟩
theorem Gr.drew (w : World) : Gr w w.drew := ⟨1, #[], by rw [grow_empty]; rfl⟩
theorem Gr.drewN (w : World) (n : Nat) : Gr w (w.drewN n) := ⟨n, #[], by rw [grow_empty]⟩
theorem Gr.size {w w' : World} (h : Gr w w') : w.heap.size ≤ w'.heap.size := by
  obtain ⟨q, os, rfl⟩ := h
  rw [size_grow]
  exact Nat.le_add_right _ _
theorem Gr.block {w w' : World} (h : Gr w w') {k : Nat} (hk : k < w.heap.size) : w'.heap[k]? = w.heap[k]? := by
  obtain ⟨q, os, rfl⟩ := h
  exact heap_grow_old (w.drewN q) os hk
theorem Gr.below {w w' : World} (h : Gr w w') : Below w.heap.size w w' := by
  have h1 := h.size
  have h2 := fun k (hk : k < w.heap.size) => h.block hk
  obtain ⟨q, os, rfl⟩ := h
  exact ⟨rfl, rfl, rfl, h1, h2⟩
theorem Gr.ro {w w' : World} {M : Nat → Prop} {S : World → Prop} (h : Gr w w') (hs : Ro w M S) : Ro w' M S := hs.below h.below
end Go.Proofs.YtedogodccblfeaaGreatDoor

namespace Go.Proofs.YtedogodccblfeaaGreatDoor
open Go.RowKit Go.Sort
set_option linter.unusedVariables false
set_option linter.unusedSimpArgs false

end Go.Proofs.YtedogodccblfeaaGreatDoor

namespace Go.Proofs.YtedogodccblfeaaGreatDoor
open Go.RowKit
set_option linter.unusedVariables false
set_option linter.unusedSimpArgs false

/-- a comparison that is a linear order -/
structure LinC {α : Type} (c : α → α → Int) : Prop where
  eq : ∀ x y, c x y = 0 ↔ x = y
  flip : ∀ x y, c x y < 0 ↔ 0 < c y x
  trans : ∀ x y z, c x y < 0 → c y z < 0 → c x z < 0
end Go.Proofs.YtedogodccblfeaaGreatDoor

namespace Go.Proofs.YtedogodccblfeaaGreatDoor
open Go.RowKit
set_option linter.unusedVariables false
set_option linter.unusedSimpArgs false

/-- rows that stand whatever becomes of block g -/
abbrev RowsAt (w : World) (g : Nat) : Type := { s : Sl // Ro w (fun b => b = g) (VlsIn s.A s.n s.vs) ∧ s.n ≤ 9223372036854775807 }
instance rowsAtInh (w : World) (g : Nat) : Inhabited (RowsAt w g) := ⟨⟨⟨none, 0, 0, []⟩, fun _ _ _ => Rd.none_, Nat.zero_le _⟩⟩
end Go.Proofs.YtedogodccblfeaaGreatDoor

namespace Go.Proofs.YtedogodccblfeaaGreatDoor
open Go.RowKit
set_option linter.unusedVariables false
set_option linter.unusedSimpArgs false

end Go.Proofs.YtedogodccblfeaaGreatDoor

namespace Go.Proofs.YtedogodccblfeaaGreatDoor
open Go.RowKit
set_option linter.unusedVariables false
set_option linter.unusedSimpArgs false

end Go.Proofs.YtedogodccblfeaaGreatDoor

namespace Go.Proofs.YtedogodccblfeaaGreatDoor
open Go.RowKit
set_option linter.unusedVariables false
set_option linter.unusedSimpArgs false

section
variable {M : Nat → Prop} {row : Option Nat} {w0 w : World} {L : List Hp} {P : Program}
end
end Go.Proofs.YtedogodccblfeaaGreatDoor

namespace Go.Proofs.YtedogodccblfeaaGreatDoor
open Go.RowKit
set_option linter.unusedVariables false
set_option linter.unusedSimpArgs false

def Tryz.lays106_ren : Go.Shelf.Ren := ⟨fun | 106 => 186 | 213 => 219 | 265 => 233 | n => n, fun | 9 => 9 | 3 => 3 | n => n, fun | n => n⟩
theorem Tryz.lays106 : Go.Proofs.Lays.n106 Tryz.prog Tryz.lays106_ren := {
  mixed := by kernel_rfl
  f106 := Tryz.func186.trans (congrArg some (by kernel_rfl))
  f213 := Tryz.func219.trans (congrArg some (by kernel_rfl))
  f265 := Tryz.func233.trans (congrArg some (by kernel_rfl))
  t3 := Tryz.underlying3
  a3 := Tryz.isAgg3
  z3 := Tryz.sizeOf3
  v3 := Tryz.zeroValue3
  t9 := Tryz.underlying9
  a9 := Tryz.isAgg9
  z9 := Tryz.sizeOf9
  v9 := Tryz.zeroValue9 }
theorem cb_zero : ∀ x y : List UInt8, Lib.compareBytes x y = 0 ↔ x = y
  | [], [] => by simp [Lib.compareBytes]
  | [], b :: y => by simp [Lib.compareBytes]
  | a :: x, [] => by simp [Lib.compareBytes]
  | a :: x, b :: y => by
    simp only [Lib.compareBytes]
    by_cases h1 : a < b
    · have hne : a ≠ b := by
        rintro rfl
        have h' : a.toNat < a.toNat := h1
        omega
      simp [h1, hne]
    · by_cases h2 : b < a
      · have hne : a ≠ b := by
          rintro rfl
          exact h1 h2
        simp [h1, h2, hne]
      · have he : a = b := by
          have h1' : ¬ a.toNat < b.toNat := h1
          have h2' : ¬ b.toNat < a.toNat := h2
          exact UInt8.toNat_inj.1 (by omega)
        subst he
        have := cb_zero x y
        simp [h1, this]
/-- a number that is 0 just if p -/
def CmpIs (p : Prop) (e : Ending) : Prop := ∃ r : Int, e = .returned (.int .i64 r) ∧ (r = 0 ↔ p)
theorem scmp_any (a b : ByteArray) (w : World) : Calls Tryz.prog 186 #[.string a, .string b] w fun e w' => CmpIs (a = b) e ∧ w = w' := by
  have h := Any.strings_Compare Tryz.lays106 a b w
  change Calls Tryz.prog 186 _ _ _ at h
  refine h.mono ?_
  rintro e w' ⟨rfl, rfl⟩
  refine ⟨⟨_, rfl, ?_⟩, rfl⟩
  rw [cb_zero]
  exact ⟨fun h => bytesEq (by rw [ByteArray.toList_eq, ByteArray.toList_eq]; exact h), fun h => by rw [h]⟩
set_option maxHeartbeats 1000000 in
theorem rcompare_any (x y : Vl) (w : World) : Calls Tryz.prog 123 #[.agg #[.int .i64 x.k, .int .i64 x.i, .string x.s], .agg #[.int .i64 y.k, .int .i64 y.i, .string y.s]] w fun e w' => CmpIs (x = y) e ∧ Below w.heap.size w w' := by
  obtain ⟨xk, xi, xs⟩ := x
  obtain ⟨yk, yi, ys⟩ := y
  dsimp only
  have K0 := ((Hold.begin_ w).alloc_cst #[.int .i64 xk, .int .i64 xi, .string xs] 117).alloc_cst #[.int .i64 yk, .int .i64 yi, .string ys] 117
  rw [World.size_alloc] at K0
  have F0 := K0.facts
  simp only [factsL, cellsF, Nat.reduceAdd, zf, zl] at F0
  by_cases hk : xk = yk
  · subst hk
    have hb : (xk != xk) = false := by simp
    by_cases hi : xi = yi
    · subst hi
      have hb2 : (xi != xi) = false := by simp
      go_enter Tryz.func123, Tryz.ntmps123
      go_wp2_with fail
      refine (scmp_any xs ys _).mono ?_
      rintro e w1 ⟨⟨r, rfl, hr⟩, rfl⟩
      have HR := hid hr
      clear hr
      go_wp2_with fail
      go_ret
      refine ⟨⟨r, rfl, ?_⟩, K0.below⟩
      rw [HR.out]; simp
    · have hb2 : (xi != yi) = true := by simpa using hi
      have HI := hid hi
      rcases Int.lt_or_le xi yi with hl | hl
      · have hd : decide (xi < yi) = true := by simpa using hl
        clear hi hl
        go_enter Tryz.func123, Tryz.ntmps123
        go_wp2_with fail
        go_ret
        exact ⟨⟨-1, rfl, by have := HI.out; simp [this]⟩, K0.below⟩
      · have hd : decide (xi < yi) = false := by rw [decide_eq_false_iff_not]; omega
        clear hi hl
        go_enter Tryz.func123, Tryz.ntmps123
        go_wp2_with fail
        go_ret
        exact ⟨⟨1, rfl, by have := HI.out; simp [this]⟩, K0.below⟩
  · have hb : (xk != yk) = true := by simpa using hk
    have HI := hid hk
    rcases Int.lt_or_le xk yk with hl | hl
    · have hd : decide (xk < yk) = true := by simpa using hl
      clear hk hl
      go_enter Tryz.func123, Tryz.ntmps123
      go_wp2_with fail
      go_ret
      exact ⟨⟨-1, rfl, by have := HI.out; simp [this]⟩, K0.below⟩
    · have hd : decide (xk < yk) = false := by rw [decide_eq_false_iff_not]; omega
      clear hk hl
      go_enter Tryz.func123, Tryz.ntmps123
      go_wp2_with fail
      go_ret
      exact ⟨⟨1, rfl, by have := HI.out; simp [this]⟩, K0.below⟩
def CmpSlot (p : Prop) (u : Value) (_ : World) : Prop := ∃ r : Int, u = .int .i64 r ∧ (r = 0 ↔ p)
theorem take_ne {α : Type} {xs ys : List α} {k : Nat} {x y : α} (hx : xs[k]? = some x) (hy : ys[k]? = some y) (h : x ≠ y) : xs ≠ ys := by
  rintro rfl
  rw [hx] at hy
  injection hy with hy
  exact h hy
set_option maxHeartbeats 4000000 in
set_option maxRecDepth 100000 in
theorem rcmprows_any (M : Nat → Prop) (w : World) (hM : ∀ b, M b → b < w.heap.size) (A : Option Addr) (n c : Nat) (xs : List Vl) (B : Option Addr) (m d : Nat) (ys : List Vl) (hD : Ro w M (VlsIn A n xs)) (hE : Ro w M (VlsIn B m ys)) (hn : n ≤ 9223372036854775807) (hm : m ≤ 9223372036854775807) :
    Calls Tryz.prog 62 #[.slice A n c, .slice B m d] w fun e w' => CmpIs (xs = ys) e ∧ Below w.heap.size w w' := by
  have HX := hid hD.now.len
  have HY := hid hE.now.len
  have K0 := ((Hold.start M w hM).add (hE.less (by simp [Mut]))).add (hD.less (by simp [Mut, Hp.foot]))
  clear hD hE
  go_enter Tryz.func62, Tryz.ntmps62
  go_wp2_with fail
  go_loopw [5] (fun iv wr => ∃ k : Nat, k ≤ n ∧ k ≤ m ∧ iv = .int .i64 k ∧ Hid (xs.take k = ys.take k) ∧ Hold M none w wr [.ro (VlsIn A n xs), .ro (VlsIn B m ys)]) (fun iv _ => n - (intOf iv).toNat)
  case atStart => exact ⟨0, by omega, by omega, rfl, hid rfl, K0⟩
  case round =>
    clear K0
    obtain ⟨k, hk, hkm, rfl, HT, H⟩ := hrel
    by_cases hlt : k < n
    · have hd : decide ((k : Int) < (n : Int)) = true := by simp; omega
      by_cases hltm : k < m
      · have hdm : decide ((k : Int) < (m : Int)) = true := by simp; omega
        have k0 : (0 : Int) ≤ (k : Int) := by omega
        have k1 : (k : Int) < (n : Int) := by omega
        have k2 : (k : Int) < (m : Int) := by omega
        obtain ⟨x, hx⟩ := get_of HX.out hlt
        obtain ⟨y, hy⟩ := get_of HY.out hltm
        obtain ⟨b1, o1, rfl, r1⟩ := (H.ro 0 rfl).vlsAt hx
        obtain ⟨b2, o2, rfl, r2⟩ := (H.ro 1 rfl).vlsAt hy
        have HXX := hid hx
        have HYY := hid hy
        clear hx hy
        have K1 := (H.add r1).add (r2.less (mut_none rfl))
        clear r1 r2
        obtain ⟨KL, hKL, K2⟩ := K1.name
        clear K1
        have HF : Hid (∀ wv, Hold M none w wv KL → (b2 < wv.heap.size ∧ wv.cell? ⟨b2, o2 + k * 3, none⟩ = some (.int .i64 y.k) ∧ wv.cell? ⟨b2, o2 + k * 3 + 1, none⟩ = some (.int .i64 y.i) ∧ wv.cell? ⟨b2, o2 + k * 3 + 2, none⟩ = some (.string y.s)) ∧ b1 < wv.heap.size ∧ wv.cell? ⟨b1, o1 + k * 3, none⟩ = some (.int .i64 x.k) ∧ wv.cell? ⟨b1, o1 + k * 3 + 1, none⟩ = some (.int .i64 x.i) ∧ wv.cell? ⟨b1, o1 + k * 3 + 2, none⟩ = some (.string x.s)) := hid fun wv HC => by
          rw [hKL] at HC
          exact ⟨(HC.ro 0 rfl).now, (HC.ro 1 rfl).now⟩
        have HKL := hid hKL
        clear hKL
        go_wp2_with fail
        refine wp_region_any (by kernel_rfl) ?_
        refine wpAny_hold 10 41 (KL) (spL [(27, CmpSlot (x = y))]) (by kernel_rfl) (by kernel_rfl) (by kernel_rfl) rfl ?_ (K2.drew) ?_
        · exact stays_cons (fun _ _ _ _ h => h) (stays_nil _)
        simp only [zd, Act.put, List.getElem_toArray, List.getElem_cons_zero, List.getElem_cons_succ, zl]
        refine dw_val rfl rfl rfl ?_; apply Exists.intro; refine ⟨fun wv HC => ?_, ?_⟩
        ·  go_simp <;> rfl
        simp only [Act.put, zl]
        refine dw_val rfl rfl rfl ?_; apply Exists.intro; refine ⟨fun wv HC => ?_, ?_⟩
        ·  go_simp <;> rfl
        simp only [Act.put, zl]
        refine dw_val rfl rfl rfl ?_; apply Exists.intro; refine ⟨fun wv HC => ?_, ?_⟩
        ·  go_simp <;> rfl
        simp only [Act.put, zl]
        refine dw_val rfl rfl rfl ?_; apply Exists.intro; refine ⟨fun wv HC => ?_, ?_⟩
        · obtain ⟨⟨f0, f1, f2, f3⟩, f4, f5, f6, f7⟩ := HF.out _ HC; go_simp <;> rfl
        simp only [Act.put, zl]
        refine dw_val rfl rfl rfl ?_; apply Exists.intro; refine ⟨fun wv HC => ?_, ?_⟩
        ·  go_simp <;> rfl
        simp only [Act.put, zl]
        refine dw_val rfl rfl rfl ?_; apply Exists.intro; refine ⟨fun wv HC => ?_, ?_⟩
        ·  go_simp <;> rfl
        simp only [Act.put, zl]
        refine dw_val rfl rfl rfl ?_; apply Exists.intro; refine ⟨fun wv HC => ?_, ?_⟩
        ·  go_simp <;> rfl
        simp only [Act.put, zl]
        refine dw_val rfl rfl rfl ?_; apply Exists.intro; refine ⟨fun wv HC => ?_, ?_⟩
        · obtain ⟨⟨f0, f1, f2, f3⟩, f4, f5, f6, f7⟩ := HF.out _ HC; go_simp <;> rfl
        simp only [Act.put, zl]
        refine dw_callR 27 (CmpSlot (x = y)) (f := 123) (args := #[.agg #[.int .i64 x.k, .int .i64 x.i, .string x.s], .agg #[.int .i64 y.k, .int .i64 y.i, .string y.s]]) rfl rfl rfl rfl (fun wv => ?_) (fun wv HC hrm hD => ?_) ?_
        · go_simp <;> rfl
        · refine (rcompare_any x y wv).mono ?_
          rintro e w5 ⟨⟨r, rfl, hr⟩, b5⟩
          exact ⟨_, rfl, ⟨r, rfl, hr⟩, HC.call b5, RM.below b5⟩
        rintro u wx HCx ⟨r, rfl, hr⟩
        have HR := hid hr
        clear HCx hr
        simp only [Act.put, zl]
        refine dw_val rfl rfl rfl ?_; apply Exists.intro; refine ⟨fun wv HC => ?_, ?_⟩
        ·  go_simp <;> rfl
        simp only [Act.put, zl]
        refine rel_nil ?_
        rintro wx2 HX2
        rintro _hrm _HG
        rw [HKL.out] at HX2
        clear _hrm _HG
        have K3 := HX2.drop (List.Sublist.cons _ (List.sublist_cons_self _ _))
        by_cases hr0 : r = 0
        · have hb : (r != 0) = false := by simp [hr0]
          have HN := hid (takeEq_succ HXX.out HYY.out HT.out (HR.out.1 hr0))
          clear hr0
          go_wp2_with fail
          go_roundw
          case rel => exact ⟨k + 1, by omega, by omega, by go_num, HN, K3⟩
          case measure => simp [intOf]; omega
        · have hb : (r != 0) = true := by simpa using hr0
          have HN := hid (show r = 0 ↔ xs = ys from ⟨fun h => absurd h hr0, fun h => absurd h (take_ne HXX.out HYY.out fun e => hr0 (HR.out.2 e))⟩)
          clear hr0
          go_wp2_with fail
          go_ret
          exact ⟨⟨r, rfl, HN.out⟩, K3.below⟩
      · obtain rfl : k = m := by omega
        have hdm : decide ((k : Int) < (k : Int)) = false := by simp
        have hd2 : decide ((n : Int) < (k : Int)) = false := by rw [decide_eq_false_iff_not]; omega
        have hd3 : decide ((k : Int) < (n : Int)) = true := by simp; omega
        have hd4 : decide ((n : Int) > (k : Int)) = true := by simp; omega
        have HN := hid (show xs ≠ ys from fun e => by have h1 := HX.out; have h2 := HY.out; rw [e] at h1; omega)
        go_wp2_with fail
        go_ret
        exact ⟨⟨1, rfl, by have := HN.out; simp [this]⟩, H.below⟩
    · obtain rfl : k = n := by omega
      have hd : decide ((k : Int) < (k : Int)) = false := by simp
      by_cases hkm2 : k = m
      · subst hkm2
        have hd4 : decide ((k : Int) > (k : Int)) = false := by simp
        have HN := hid (show xs = ys by have h := HT.out; rwa [List.take_of_length_le (by rw [HX.out]; exact Nat.le_refl _), List.take_of_length_le (by rw [HY.out]; exact Nat.le_refl _)] at h)
        go_wp2_with fail
        go_ret
        exact ⟨⟨0, rfl, by have := HN.out; simp [this]⟩, H.below⟩
      · have hd2 : decide ((k : Int) < (m : Int)) = true := by simp; omega
        have HN := hid (show xs ≠ ys from fun e => by have h1 := HX.out; have h2 := HY.out; rw [e] at h1; omega)
        have hkm3 : k < m := by omega
        clear hkm2
        go_wp2_with fail
        go_ret
        exact ⟨⟨-1, rfl, by have := HN.out; simp [this]⟩, H.below⟩
end Go.Proofs.YtedogodccblfeaaGreatDoor

namespace Go.Proofs.YtedogodccblfeaaGreatDoor
open Go.RowKit
set_option linter.unusedVariables false
set_option linter.unusedSimpArgs false

end Go.Proofs.YtedogodccblfeaaGreatDoor

namespace Go.Proofs.YtedogodccblfeaaGreatDoor
open Go.RowKit
set_option linter.unusedVariables false
set_option linter.unusedSimpArgs false

end Go.Proofs.YtedogodccblfeaaGreatDoor

namespace Go.Proofs.YtedogodccblfeaaGreatDoor
open Go.RowKit
set_option linter.unusedVariables false
set_option linter.unusedSimpArgs false

/-- a row without its number -/
def Rw.sl (r : Rw) : Sl := ⟨r.A, r.n, r.c, r.vs⟩
end Go.Proofs.YtedogodccblfeaaGreatDoor

namespace Go.Proofs.YtedogodccblfeaaGreatDoor
open Go.RowKit
set_option linter.unusedVariables false
set_option linter.unusedSimpArgs false

section
variable {P : Program} {M : Nat → Prop} {row : Option Nat} {w0 w : World} {L : List Hp} {ops : Array Oper} {Q : Exit → Act → World → Prop} {Kn : Act → World → Prop} {a : Act}
end
end Go.Proofs.YtedogodccblfeaaGreatDoor

namespace Go.Proofs.YtedogodccblfeaaGreatDoor
open Go.RowKit
set_option linter.unusedVariables false
set_option linter.unusedSimpArgs false

end Go.Proofs.YtedogodccblfeaaGreatDoor

namespace Go.Proofs.YtedogodccblfeaaGreatDoor
open Go.RowKit
set_option linter.unusedVariables false
set_option linter.unusedSimpArgs false

structure El where
  nm : ByteArray
  I : Option Addr
  ni : Nat
  ci : Nat
  D : Option Addr
  nd : Nat
  cd : Nat
  U : Option Addr
  nu : Nat
  cu : Nat
  li : List Rw
  ld : List Rw
  lu : List Pr
def El.cells (x : El) : List Value := [.string x.nm, .slice x.I x.ni x.ci, .slice x.D x.nd x.cd, .slice x.U x.nu x.cu]
def El.val (x : El) : Value := .agg #[.string x.nm, .slice x.I x.ni x.ci, .slice x.D x.nd x.cd, .slice x.U x.nu x.cu]
def El.dl (x : El) : Dl := ⟨x.nm, x.li.map Rw.row, x.ld.map Rw.row, x.lu.map Pr.upd⟩
def ElIn (x : El) (w : World) : Prop := RwsIn x.I x.ni x.li w ∧ RwsIn x.D x.nd x.ld w ∧ PrsIn x.U x.nu x.lu w
structure El.good (x : El) (N K : Nat) : Prop where
  i : x.ni ≤ N
  d : x.nd ≤ N
  u : x.nu ≤ N
  ci : x.ni ≤ x.ci ∧ x.ci ≤ 9223372036854775807
  cd : x.nd ≤ x.cd ∧ x.cd ≤ 9223372036854775807
  cu : x.nu ≤ x.cu ∧ x.cu ≤ 9223372036854775807
  li : ∀ r ∈ x.li, r.ok ∧ r.n ≤ K
  ld : ∀ r ∈ x.ld, r.ok ∧ r.n ≤ K
  lu : ∀ p ∈ x.lu, p.ok ∧ p.on ≤ K ∧ p.nn ≤ K
theorem El.good.more {x : El} {N K N' K' : Nat} (h : x.good N K) (hi : x.ni ≤ N') (hd : x.nd ≤ N') (hu : x.nu ≤ N') (hK : K ≤ K') : x.good N' K' :=
  ⟨hi, hd, hu, h.ci, h.cd, h.cu, fun r hr => ⟨(h.li r hr).1, Nat.le_trans (h.li r hr).2 hK⟩, fun r hr => ⟨(h.ld r hr).1, Nat.le_trans (h.ld r hr).2 hK⟩, fun p hp => ⟨(h.lu p hp).1, Nat.le_trans (h.lu p hp).2.1 hK, Nat.le_trans (h.lu p hp).2.2 hK⟩⟩
theorem dl_el {w : World} {M : Nat → Prop} {v : Value} {d : Dl} {N K : Nat} (h : DlAt w M v d) (h1 : d.ins.length ≤ N) (h2 : d.del.length ≤ N) (h3 : d.upd.length ≤ N) (h4 : ∀ r ∈ d.ins, r.2.length ≤ K) (h5 : ∀ r ∈ d.del, r.2.length ≤ K) (h6 : ∀ u ∈ d.upd, u.2.1.length ≤ K ∧ u.2.2.length ≤ K) :
    ∃ x : El, v = x.val ∧ x.dl = d ∧ x.good N K ∧ Ro w M (ElIn x) := by
  obtain ⟨I, ni, ci, D, nd, cd, U, nu, cu, li, ld, lu, rfl, q1, q2, q3, r1, r2, r3, o1, o2, o3, e1, e2, e3⟩ := h
  have l1 : li.length = ni := r1.now.len
  have l2 : ld.length = nd := r2.now.len
  have l3 : lu.length = nu := r3.now.len
  refine ⟨⟨d.nm, I, ni, ci, D, nd, cd, U, nu, cu, li, ld, lu⟩, rfl, by simp only [El.dl, e1, e2, e3], ⟨?_, ?_, ?_, q1, q2, q3, fun r hr => ⟨o1 r hr, ?_⟩, fun r hr => ⟨o2 r hr, ?_⟩, fun p hp => ⟨o3 p hp, ?_, ?_⟩⟩, r1.and (r2.and r3)⟩
  · have := congrArg List.length e1; rw [List.length_map] at this; show ni ≤ N; omega
  · have := congrArg List.length e2; rw [List.length_map] at this; show nd ≤ N; omega
  · have := congrArg List.length e3; rw [List.length_map] at this; show nu ≤ N; omega
  · have a := h4 r.row (by rw [← e1]; exact List.mem_map_of_mem hr)
    have b : r.vs.length = r.n := (r1.now.2 r hr).len
    simp only [Rw.row] at a; omega
  · have a := h5 r.row (by rw [← e2]; exact List.mem_map_of_mem hr)
    have b : r.vs.length = r.n := (r2.now.2 r hr).len
    simp only [Rw.row] at a; omega
  · have a := h6 p.upd (by rw [← e3]; exact List.mem_map_of_mem hp)
    have b : p.old.length = p.on := (r3.now.2 p hp).1.len
    simp only [Pr.upd] at a; omega
  · have a := h6 p.upd (by rw [← e3]; exact List.mem_map_of_mem hp)
    have b : p.new.length = p.nn := (r3.now.2 p hp).2.len
    simp only [Pr.upd] at a; omega
theorem el_dl {w : World} {M : Nat → Prop} {x : El} {N K : Nat} (g : x.good N K) (r : Ro w M (ElIn x)) : DlAt w M x.val x.dl :=
  ⟨x.I, x.ni, x.ci, x.D, x.nd, x.cd, x.U, x.nu, x.cu, x.li, x.ld, x.lu, rfl, g.ci, g.cd, g.cu, r.imp fun w h => h.1, r.imp fun w h => h.2.1, r.imp fun w h => h.2.2, fun r hr => (g.li r hr).1, fun r hr => (g.ld r hr).1, fun p hp => (g.lu p hp).1, rfl, rfl, rfl⟩
theorem el_lens {w : World} {x : El} {N K : Nat} (g : x.good N K) (r : ElIn x w) : x.dl.ins.length ≤ N ∧ x.dl.del.length ≤ N ∧ x.dl.upd.length ≤ N ∧ (∀ r ∈ x.dl.ins, r.2.length ≤ K) ∧ (∀ r ∈ x.dl.del, r.2.length ≤ K) ∧ ∀ u ∈ x.dl.upd, u.2.1.length ≤ K ∧ u.2.2.length ≤ K := by
  have l1 : x.li.length = x.ni := r.1.len
  have l2 : x.ld.length = x.nd := r.2.1.len
  have l3 : x.lu.length = x.nu := r.2.2.len
  refine ⟨by simp only [El.dl, List.length_map, l1]; exact g.i, by simp only [El.dl, List.length_map, l2]; exact g.d, by simp only [El.dl, List.length_map, l3]; exact g.u, fun y hy => ?_, fun y hy => ?_, fun y hy => ?_⟩
  · obtain ⟨z, hz, rfl⟩ := List.mem_map.1 hy
    have b : z.vs.length = z.n := (r.1.2 z hz).len
    have := (g.li z hz).2
    simp only [Rw.row]; omega
  · obtain ⟨z, hz, rfl⟩ := List.mem_map.1 hy
    have b : z.vs.length = z.n := (r.2.1.2 z hz).len
    have := (g.ld z hz).2
    simp only [Rw.row]; omega
  · obtain ⟨z, hz, rfl⟩ := List.mem_map.1 hy
    have b : z.old.length = z.on := (r.2.2.2 z hz).1.len
    have c : z.new.length = z.nn := (r.2.2.2 z hz).2.len
    have := (g.lu z hz).2
    simp only [Pr.upd]; omega
theorem dlAt_lessM {w : World} {M M' : Nat → Prop} {v : Value} {d : Dl} (h : DlAt w M v d) (hM : ∀ b, M' b → M b) : DlAt w M' v d := by
  obtain ⟨I, ni, ci, D, nd, cd, U, nu, cu, li, ld, lu, h1, h2, h3, h4, h5, h6, h7, h8⟩ := h
  exact ⟨I, ni, ci, D, nd, cd, U, nu, cu, li, ld, lu, h1, h2, h3, h4, h5.less hM, h6.less hM, h7.less hM, h8⟩
/-- a block without numbers -/
def NoInt (cs : Array Value) : Prop := ∀ x : Int, Value.int .i64 x ∉ cs.toList
theorem vls_apartI {w : World} {Q : Nat → Prop} {A : Option Addr} {n : Nat} {vs : List Vl} (h : Ro w Q (VlsIn A n vs)) {ga : Nat} {t : TypeId} {cs : Array Value} (hg : w.heap[ga]? = some (.cells cs t (0, 0))) (hno : NoInt cs) : Ro w (fun b => b = ga ∨ Q b) (VlsIn A n vs) := by
  have hl : vs.length = n := h.now.len
  exact Ro.apartBlk h hg (by
    cases vs with
    | nil => left; simpa using hl.symm
    | cons v l => exact .inr ⟨.int .i64 v.k, rfl, hno _⟩)
theorem rws_apartI {w : World} {Q : Nat → Prop} {A : Option Addr} {n : Nat} {l : List Rw} (h : Ro w Q (RwsIn A n l)) {ga : Nat} {t : TypeId} {cs : Array Value} (hg : w.heap[ga]? = some (.cells cs t (0, 0))) (hno : NoInt cs) : Ro w (fun b => b = ga ∨ Q b) (RwsIn A n l) := by
  have hl := h.now.len
  have h1 : Ro w Q (SlR 2 A n (rwCells l)) := h.imp fun w2 h2 => h2.1
  have k1 := h1.apartBlk hg (by
    cases l with
    | nil => left; simpa using hl.symm
    | cons r l => exact .inr ⟨.int .i64 r.id, rfl, hno _⟩)
  exact k1.and fun w2 g1 g2 r hr => vls_apartI (h.imp fun w2 h2 => h2.2 r hr) hg hno w2 g1 g2
theorem prs_apartI {w : World} {Q : Nat → Prop} {A : Option Addr} {n : Nat} {l : List Pr} (h : Ro w Q (PrsIn A n l)) {ga : Nat} {t : TypeId} {cs : Array Value} (hg : w.heap[ga]? = some (.cells cs t (0, 0))) (hno : NoInt cs) : Ro w (fun b => b = ga ∨ Q b) (PrsIn A n l) := by
  have hl : l.length = n := h.now.len
  have h1 : Ro w Q (SlR 3 A n (prCells l)) := h.imp fun w2 h2 => h2.1
  have k1 := h1.apartBlk hg (by
    cases l with
    | nil => left; simpa using hl.symm
    | cons r l => exact .inr ⟨.int .i64 r.id, rfl, hno _⟩)
  exact k1.and fun w2 g1 g2 r hr => ⟨vls_apartI (h.imp fun w2 h2 => (h2.2 r hr).1) hg hno w2 g1 g2, vls_apartI (h.imp fun w2 h2 => (h2.2 r hr).2) hg hno w2 g1 g2⟩
theorem el_apart {w : World} {Q : Nat → Prop} {x : El} (h : Ro w Q (ElIn x)) {ga : Nat} {t : TypeId} {cs : Array Value} (hg : w.heap[ga]? = some (.cells cs t (0, 0))) (hno : NoInt cs) : Ro w (fun b => b = ga ∨ Q b) (ElIn x) :=
  (rws_apartI (h.imp fun w h => h.1) hg hno).and ((rws_apartI (h.imp fun w h => h.2.1) hg hno).and (prs_apartI (h.imp fun w h => h.2.2) hg hno))
theorem noInt_delta : NoInt #[.string ⟨#[]⟩, .slice none 0 0, .slice none 0 0, .slice none 0 0] := fun x h => by simp at h
end Go.Proofs.YtedogodccblfeaaGreatDoor

namespace Go.Proofs.YtedogodccblfeaaGreatDoor
open Go.RowKit
set_option linter.unusedVariables false
set_option linter.unusedSimpArgs false

/-- a row handed back, its values in memory -/
def RowOne (w : World) (M : Nat → Prop) (id : Int) (vs : List Vl) (e : Ending) (w' : World) : Prop := ∃ (A : Option Addr) (n c : Nat), e = .returned (.agg #[.int .i64 id, .slice A n c]) ∧ n = vs.length ∧ n ≤ c ∧ c ≤ 9223372036854775807 ∧ Ro w' M (VlsIn A n vs) ∧ Below w.heap.size w w'
set_option maxHeartbeats 2000000 in
set_option maxRecDepth 100000 in
theorem dcopied_any (M : Nat → Prop) (w : World) (hM : ∀ b, M b → b < w.heap.size) (id : Int) (A : Option Addr) (n c : Nat) (vs : List Vl) (hD : Ro w M (VlsIn A n vs)) (hn : n ≤ 4398046511104) : Calls Tryz.prog 147 #[.agg #[.int .i64 id, .slice A n c]] w fun e w' => RowOne w M id vs e w' := by
  have K0 := ((Hold.start M w hM).add (hD.less (by simp [Mut]))).alloc_cst #[.int .i64 id, .slice A n c] 119 |>.alloc #[.int .i64 0, .slice none 0 0] 119
  simp only [World.size_alloc] at K0
  clear hD
  go_enter Tryz.func147, Tryz.ntmps147
  go_wp2_with fail
  obtain ⟨g1, hg1⟩ : ∃ g, g = w.heap.size := ⟨_, rfl⟩
  obtain ⟨g2, hg2⟩ : ∃ g, g = g1 + 1 := ⟨_, rfl⟩
  rw [← hg1, ← hg2] at K0 ⊢
  generalize (w.alloc _).alloc _ = w1 at K0 ⊢
  have HG := hid hg1
  clear hg1 hg2
  obtain ⟨KL, hKL, KN⟩ := K0.name
  have HF : Hid (∀ wv, Hold M none w wv KL → (wv.cell? ⟨g1, 0, none⟩ = some (.int .i64 id) ∧ wv.cell? ⟨g1, 1, none⟩ = some (.slice A n c) ∧ g1 < wv.heap.size) ∧ Ro wv (Mut M KL) (VlsIn A n vs)) := hid fun wv HC => by
    rw [hKL] at HC ⊢
    have y1 := HC.cst_ 1 rfl
    exact ⟨⟨cell_of_row _ _ 0 _ _ _ y1, cell_of_row _ _ 1 _ _ _ y1, Blk.lt y1⟩, HC.ro 2 rfl⟩
  have HKL := hid hKL
  clear hKL K0
  refine wp_region_any (by kernel_rfl) ?_
  refine wpAny_hold 6 9 (KL) (spL [(7, VlsSlot (Mut M KL) vs)]) (by kernel_rfl) (by kernel_rfl) (by kernel_rfl) rfl ?_ (KN.drew) ?_
  · exact stays_cons vlsSlot_mono (stays_nil _)
  simp only [zd, Act.put, List.getElem_toArray, List.getElem_cons_zero, List.getElem_cons_succ, zl]
  refine dw_val rfl rfl rfl ?_; apply Exists.intro; refine ⟨fun wv HC => ?_, ?_⟩
  ·  go_simp <;> rfl
  simp only [Act.put, zl]
  refine dw_val rfl rfl rfl ?_; apply Exists.intro; refine ⟨fun wv HC => ?_, ?_⟩
  · obtain ⟨⟨f0, f1, f2⟩, _⟩ := HF.out _ HC; go_simp <;> rfl
  simp only [Act.put, zl]
  refine dw_val rfl rfl rfl ?_; apply Exists.intro; refine ⟨fun wv HC => ?_, ?_⟩
  ·  go_simp <;> rfl
  simp only [Act.put, zl]
  refine dw_val rfl rfl rfl ?_; apply Exists.intro; refine ⟨fun wv HC => ?_, ?_⟩
  · obtain ⟨⟨f0, f1, f2⟩, _⟩ := HF.out _ HC; go_simp <;> rfl
  simp only [Act.put, zl]
  refine dw_callR 7 (VlsSlot (Mut M KL) vs) (f := 149) (args := #[.slice A n c]) rfl rfl rfl rfl (fun wv => ?_) (fun wv HC hrm hD => ?_) ?_
  · go_simp <;> rfl
  · refine (cloneVls_any _ wv HC.mutLt A n c vs (HF.out _ HC).2 hn).mono ?_
    rintro e w5 ⟨A5, n5, c5, rfl, h50, h51, h52, h53, b5⟩
    exact ⟨_, rfl, ⟨A5, n5, c5, rfl, h50, h51, h52, h53⟩, HC.call b5, RM.below b5⟩
  rintro x_ wx HCx ⟨A5, n5, c5, rfl, -, -, -, -⟩
  simp only [Act.put, zl]
  clear HCx
  refine dw_val rfl rfl rfl ⟨.agg #[.int .i64 id, .slice A5 n5 c5], fun wv HC => ?_, ?_⟩
  · go_simp <;> rfl
  simp only [Act.put, zl]
  refine rel_nil ?_
  rintro wx2 HX
  rintro _hrm HGW
  have hb : VlsSlot (Mut M KL) vs (.slice A5 n5 c5) wx2 := (GW_on (d := 7) rfl).1 (HGW 4 _ rfl (by omega))
  clear HGW _hrm
  obtain ⟨A6, n6, c6, e6, k0_, k1_, k2_, k3_⟩ := hb
  obtain ⟨rfl, rfl, rfl⟩ : A5 = A6 ∧ n5 = n6 ∧ c5 = c6 := by injection e6 with h1 h2 h3; exact ⟨h1, h2, h3⟩
  clear e6
  have K1 := HX.add k3_
  rw [HKL.out] at K1
  have F1 := K1.facts
  simp only [factsL, cellsF, Nat.reduceAdd, zf, zl] at F1
  have H0 := hid k0_
  clear HF KN k3_ HX k0_
  have KN := (K1.store 1 rfl 0 (.int .i64 id)).store 1 rfl 1 (.slice A5 n5 c5)
  have r1 := KN.roOut 0 rfl
  go_wp2_with fail
  exact bodyPost_ret (v := .agg #[.int .i64 id, .slice A5 n5 c5]) (by simp [results, Tryz.results147, go_sem, F1]) rfl ⟨A5, n5, c5, rfl, H0.out, k1_, k2_, r1, KN.below⟩
set_option maxHeartbeats 2000000 in
set_option maxRecDepth 100000 in
theorem rcopyrow_any (M : Nat → Prop) (w : World) (hM : ∀ b, M b → b < w.heap.size) (id : Int) (A : Option Addr) (n c : Nat) (vs : List Vl) (hD : Ro w M (VlsIn A n vs)) (hn : n ≤ 4398046511104) : Calls Tryz.prog 61 #[.agg #[.int .i64 id, .slice A n c]] w fun e w' => RowOne w M id vs e w' := by
  have K0 := ((Hold.start M w hM).add (hD.less (by simp [Mut]))).alloc_cst #[.int .i64 id, .slice A n c] 119 |>.alloc #[.int .i64 0, .slice none 0 0] 119
  simp only [World.size_alloc] at K0
  clear hD
  go_enter Tryz.func61, Tryz.ntmps61
  go_wp2_with fail
  obtain ⟨g1, hg1⟩ : ∃ g, g = w.heap.size := ⟨_, rfl⟩
  obtain ⟨g2, hg2⟩ : ∃ g, g = g1 + 1 := ⟨_, rfl⟩
  rw [← hg1, ← hg2] at K0 ⊢
  generalize (w.alloc _).alloc _ = w1 at K0 ⊢
  have HG := hid hg1
  clear hg1 hg2
  obtain ⟨KL, hKL, KN⟩ := K0.name
  have HF : Hid (∀ wv, Hold M none w wv KL → (wv.cell? ⟨g1, 0, none⟩ = some (.int .i64 id) ∧ wv.cell? ⟨g1, 1, none⟩ = some (.slice A n c) ∧ g1 < wv.heap.size) ∧ Ro wv (Mut M KL) (VlsIn A n vs)) := hid fun wv HC => by
    rw [hKL] at HC ⊢
    have y1 := HC.cst_ 1 rfl
    exact ⟨⟨cell_of_row _ _ 0 _ _ _ y1, cell_of_row _ _ 1 _ _ _ y1, Blk.lt y1⟩, HC.ro 2 rfl⟩
  have HKL := hid hKL
  clear hKL K0
  refine wp_region_any (by kernel_rfl) ?_
  refine wpAny_hold 6 9 (KL) (spL [(7, VlsSlot (Mut M KL) vs)]) (by kernel_rfl) (by kernel_rfl) (by kernel_rfl) rfl ?_ (KN.drew) ?_
  · exact stays_cons vlsSlot_mono (stays_nil _)
  simp only [zd, Act.put, List.getElem_toArray, List.getElem_cons_zero, List.getElem_cons_succ, zl]
  refine dw_val rfl rfl rfl ?_; apply Exists.intro; refine ⟨fun wv HC => ?_, ?_⟩
  ·  go_simp <;> rfl
  simp only [Act.put, zl]
  refine dw_val rfl rfl rfl ?_; apply Exists.intro; refine ⟨fun wv HC => ?_, ?_⟩
  · obtain ⟨⟨f0, f1, f2⟩, _⟩ := HF.out _ HC; go_simp <;> rfl
  simp only [Act.put, zl]
  refine dw_val rfl rfl rfl ?_; apply Exists.intro; refine ⟨fun wv HC => ?_, ?_⟩
  ·  go_simp <;> rfl
  simp only [Act.put, zl]
  refine dw_val rfl rfl rfl ?_; apply Exists.intro; refine ⟨fun wv HC => ?_, ?_⟩
  · obtain ⟨⟨f0, f1, f2⟩, _⟩ := HF.out _ HC; go_simp <;> rfl
  simp only [Act.put, zl]
  refine dw_callR 7 (VlsSlot (Mut M KL) vs) (f := 56) (args := #[.slice A n c]) rfl rfl rfl rfl (fun wv => ?_) (fun wv HC hrm hD => ?_) ?_
  · go_simp <;> rfl
  · refine (copyVls_any _ wv HC.mutLt A n c vs (HF.out _ HC).2 hn).mono ?_
    rintro e w5 ⟨A5, n5, c5, rfl, h50, h51, h52, h53, b5⟩
    exact ⟨_, rfl, ⟨A5, n5, c5, rfl, h50, h51, h52, h53⟩, HC.call b5, RM.below b5⟩
  rintro x_ wx HCx ⟨A5, n5, c5, rfl, -, -, -, -⟩
  simp only [Act.put, zl]
  clear HCx
  refine dw_val rfl rfl rfl ⟨.agg #[.int .i64 id, .slice A5 n5 c5], fun wv HC => ?_, ?_⟩
  · go_simp <;> rfl
  simp only [Act.put, zl]
  refine rel_nil ?_
  rintro wx2 HX
  rintro _hrm HGW
  have hb : VlsSlot (Mut M KL) vs (.slice A5 n5 c5) wx2 := (GW_on (d := 7) rfl).1 (HGW 4 _ rfl (by omega))
  clear HGW _hrm
  obtain ⟨A6, n6, c6, e6, k0_, k1_, k2_, k3_⟩ := hb
  obtain ⟨rfl, rfl, rfl⟩ : A5 = A6 ∧ n5 = n6 ∧ c5 = c6 := by injection e6 with h1 h2 h3; exact ⟨h1, h2, h3⟩
  clear e6
  have K1 := HX.add k3_
  rw [HKL.out] at K1
  have F1 := K1.facts
  simp only [factsL, cellsF, Nat.reduceAdd, zf, zl] at F1
  have H0 := hid k0_
  clear HF KN k3_ HX k0_
  have KN := (K1.store 1 rfl 0 (.int .i64 id)).store 1 rfl 1 (.slice A5 n5 c5)
  have r1 := KN.roOut 0 rfl
  go_wp2_with fail
  exact bodyPost_ret (v := .agg #[.int .i64 id, .slice A5 n5 c5]) (by simp [results, Tryz.results61, go_sem, F1]) rfl ⟨A5, n5, c5, rfl, H0.out, k1_, k2_, r1, KN.below⟩
set_option maxHeartbeats 1000000 in
set_option maxRecDepth 100000 in
theorem samepair_any (w : World) (x y : Pr) (hD : VlsIn x.oA x.on x.old w ∧ VlsIn x.nA x.nn x.new w) (hE : VlsIn y.oA y.on y.old w ∧ VlsIn y.nA y.nn y.new w) (hn : x.on ≤ 4398046511104 ∧ x.nn ≤ 4398046511104) :
    Calls Tryz.prog 151 #[.agg #[.int .i64 x.id, .slice x.oA x.on x.oc, .slice x.nA x.nn x.nc], .agg #[.int .i64 y.id, .slice y.oA y.on y.oc, .slice y.nA y.nn y.nc]] w fun e w' => e = .returned (.bool (decide (x.upd = y.upd))) ∧ Below w.heap.size w w' := by
  have K0 := ((((((Hold.start None_ w (fun b hb => hb.elim)).add (Rd.ro hE.2 (Nat.le_refl _) (by simp [Mut, None_]) : Ro w _ (VlsIn y.nA y.nn y.new))).add (Rd.ro hE.1 (Nat.le_refl _) (by simp [Mut, None_, Hp.foot]) : Ro w _ (VlsIn y.oA y.on y.old))).add (Rd.ro hD.2 (Nat.le_refl _) (by simp [Mut, None_, Hp.foot]) : Ro w _ (VlsIn x.nA x.nn x.new))).add (Rd.ro hD.1 (Nat.le_refl _) (by simp [Mut, None_, Hp.foot]) : Ro w _ (VlsIn x.oA x.on x.old))).alloc_cst #[.int .i64 x.id, .slice x.oA x.on x.oc, .slice x.nA x.nn x.nc] 110).alloc_cst #[.int .i64 y.id, .slice y.oA y.on y.oc, .slice y.nA y.nn y.nc] 110
  rw [World.size_alloc] at K0
  have HBel : Hid (∀ q, Below w.heap.size w (((w.alloc _).alloc _).drewN q)) := hid fun q => (K0.drewN q).below
  have F0 := K0.facts
  simp only [factsL, cellsF, Nat.reduceAdd, zf, zl] at F0
  clear hD hE
  by_cases hi : x.id = y.id
  · have h1 : (x.id == y.id) = true := by simp [hi]
    have HI := hid hi; clear hi
    go_enter Tryz.func151, Tryz.ntmps151
    go_wp2_with fail
    refine (eqVls_any _ x.oA x.on x.oc x.old y.oA y.on y.oc y.old (K0.ro 2 rfl).now (K0.ro 4 rfl).now hn.1).mono ?_
    rintro e w1 ⟨rfl, q, rfl⟩
    have K1 := K0.drewN q
    have F1 := K1.facts
    simp only [factsL, cellsF, Nat.reduceAdd, zf, zl] at F1
    clear F0 K0
    by_cases ho : x.old = y.old
    · rw [decide_eq_true ho]
      have HB := hid (show decide (x.upd = y.upd) = decide (x.new = y.new) by simp [Pr.upd, HI.out, ho])
      clear ho
      go_wp2_with fail
      refine (eqVls_any _ x.nA x.nn x.nc x.new y.nA y.nn y.nc y.new (K1.ro 3 rfl).now (K1.ro 5 rfl).now hn.2).mono ?_
      rintro e w2 ⟨rfl, q2, rfl⟩
      have K2 := K1.drewN q2
      go_wp2_with fail
      go_ret
      exact ⟨by rw [HB.out] <;> first | rfl | simp, HBel.out _⟩
    · rw [decide_eq_false ho]
      have HB := hid (show decide (x.upd = y.upd) = false by simp [Pr.upd, ho])
      clear ho
      go_wp2_with fail
      go_ret
      exact ⟨by rw [HB.out] <;> rfl, K1.below⟩
  · have h1 : (x.id == y.id) = false := by simpa using hi
    have HB := hid (show decide (x.upd = y.upd) = false by simp [Pr.upd, hi])
    clear hi
    go_enter Tryz.func151, Tryz.ntmps151
    go_wp2_with fail
    go_ret
    exact ⟨by rw [HB.out] <;> rfl, K0.below⟩
set_option maxHeartbeats 1000000 in
set_option maxRecDepth 100000 in
theorem eqPrs_any (w : World) (A : Option Addr) (n c : Nat) (xs : List Pr) (B : Option Addr) (m d : Nat) (ys : List Pr) (hD : PrsIn A n xs w) (hE : PrsIn B m ys w) (hn : n ≤ 4398046511104) (hr : ∀ r ∈ xs, r.on ≤ 4398046511104 ∧ r.nn ≤ 4398046511104) :
    Calls Tryz.prog 150 #[.slice A n c, .slice B m d, .func (.func 151) #[] #[]] w fun e w' => e = .returned (.bool (decide (xs.map Pr.upd = ys.map Pr.upd))) ∧ Below w.heap.size w w' := by
  have HL := hid hD.len
  have HK := hid hE.len
  by_cases hnm : n = m
  · subst hnm
    have hb : ((n : Int) != (n : Int)) = false := by simp
    have K0 := ((Hold.start None_ w (fun b hb => hb.elim)).add (show Ro w _ (PrsIn B n ys) from (Rd.ro hE.1 (Nat.le_refl _) (by simp [Mut, None_]) : Ro w _ (SlR 3 B n (prCells ys))).and (fun w2 h1 h2 r hr => ⟨(Rd.ro (hE.2 r hr).1 (Nat.le_refl _) (by simp [Mut, None_]) : Ro w (Mut None_ []) (VlsIn r.oA r.on r.old)) w2 h1 h2, (Rd.ro (hE.2 r hr).2 (Nat.le_refl _) (by simp [Mut, None_]) : Ro w (Mut None_ []) (VlsIn r.nA r.nn r.new)) w2 h1 h2⟩))).add (show Ro w _ (PrsIn A n xs) from (Rd.ro hD.1 (Nat.le_refl _) (by simp [Mut, None_, Hp.foot]) : Ro w _ (SlR 3 A n (prCells xs))).and (fun w2 h1 h2 r hr => ⟨(Rd.ro (hD.2 r hr).1 (Nat.le_refl _) (by simp [Mut, None_]) : Ro w (Mut None_ []) (VlsIn r.oA r.on r.old)) w2 h1 (fun b hb hn => h2 b hb (fun hm => by simp [Mut, None_, Hp.foot] at hm)), (Rd.ro (hD.2 r hr).2 (Nat.le_refl _) (by simp [Mut, None_]) : Ro w (Mut None_ []) (VlsIn r.nA r.nn r.new)) w2 h1 (fun b hb hn => h2 b hb (fun hm => by simp [Mut, None_, Hp.foot] at hm))⟩))
    clear hD hE
    go_enter Tryz.func150, Tryz.ntmps150
    go_wp2_with fail
    go_loopw [17] (fun i wr => ∃ (k : Nat), k ≤ n ∧ i = .int .i64 k ∧ Hid ((xs.map Pr.upd).take k = (ys.map Pr.upd).take k) ∧ Hold None_ none w wr [.ro (PrsIn A n xs), .ro (PrsIn B n ys)]) (fun i _ => n - (intOf i).toNat)
    case atStart => exact ⟨0, by omega, rfl, hid (by simp), K0⟩
    case round =>
      clear K0
      obtain ⟨k, hk, rfl, HTK, H⟩ := hrel
      by_cases hlt : k < n
      · have hd : decide ((k : Int) < (n : Int)) = true := by simp; omega
        have i0 : (0 : Int) ≤ (k : Int) := by omega
        have i1 : (k : Int) < (n : Int) := by omega
        obtain ⟨x, hx⟩ := get_of HL.out hlt
        obtain ⟨y, hy⟩ := get_of HK.out hlt
        obtain ⟨g, o, rfl, hbx, x0, x1, x2, _⟩ := (H.ro 0 rfl).now.at_ hx
        have hxn := hr x (List.mem_of_getElem? hx)
        have HX := hid (show (xs.map Pr.upd)[k]? = some x.upd by simp [hx]); have HY := hid (show (ys.map Pr.upd)[k]? = some y.upd by simp [hy])
        have HXM := hid (List.mem_of_getElem? hx)
        have HYM := hid (List.mem_of_getElem? hy)
        have HYY := hid hy
        clear hx hy
        have K1 := H.alloc_cst #[.int .i64 x.id, .slice x.oA x.on x.oc, .slice x.nA x.nn x.nc] 110
        obtain ⟨g', o', rfl, hby, y0, y1, y2, _⟩ := (K1.ro 2 rfl).now.at_ HYY.out
        have K2 := K1.alloc_cst #[.int .i64 y.id, .slice y.oA y.on y.oc, .slice y.nA y.nn y.nc] 110
        rw [World.size_alloc] at K2
        have F2 := K2.facts
        simp only [factsL, cellsF, Nat.reduceAdd, zf, zl] at F2
        go_wp2_with fail
        refine (samepair_any _ x y ((K2.ro 2 rfl).now.2 x HXM.out) ((K2.ro 3 rfl).now.2 y HYM.out) hxn).mono ?_
        rintro e w3 ⟨rfl, b3⟩
        have K3 := (K2.call b3).drop ((List.sublist_cons_self _ _).trans (List.sublist_cons_self _ _))
        clear K1 K2 F2 b3 H
        by_cases hb : x.upd = y.upd
        · have HB := hid (takeEq_succ HX.out HY.out HTK.out hb)
          rw [decide_eq_true hb]
          clear hb
          go_wp2_with fail
          go_roundw
          case rel => exact ⟨k + 1, by omega, by go_num, HB, K3⟩
          case measure => simp [intOf]; omega
        · have HB := hid (beqL_no HX.out HY.out hb)
          rw [decide_eq_false hb]
          clear hb
          go_wp2_with fail
          go_ret
          exact ⟨by rw [HB.out] <;> rfl, K3.below⟩
      · obtain rfl : n = k := by omega
        have hd : decide ((n : Int) < (n : Int)) = false := by simp
        have HB := hid (show decide (xs.map Pr.upd = ys.map Pr.upd) = true by
          have h := HTK.out
          rw [List.take_of_length_le (by rw [List.length_map, HL.out]; exact Nat.le_refl _), List.take_of_length_le (by rw [List.length_map, HK.out]; exact Nat.le_refl _)] at h
          simp [h])
        go_wp2_with fail
        go_ret
        exact ⟨by rw [HB.out] <;> rfl, H.below⟩
  · have hb : ((n : Int) != (m : Int)) = true := by simp; omega
    have HB := hid (show decide (xs.map Pr.upd = ys.map Pr.upd) = false by
      rw [decide_eq_false_iff_not]; intro h; have h1 := congrArg List.length h; rw [List.length_map, List.length_map, HL.out, HK.out] at h1; exact hnm h1)
    go_enter Tryz.func150, Tryz.ntmps150
    go_wp2_with fail
    go_ret
    exact ⟨by rw [HB.out] <;> rfl, Below.refl _ _⟩
set_option maxHeartbeats 1000000 in
set_option maxRecDepth 100000 in
theorem dsameschema_any (w : World) (nm : ByteArray) (A : Option Addr) (n c : Nat) (cs : List Col) (nm2 : ByteArray) (B : Option Addr) (m d : Nat) (ds : List Col) (hD : ColsIn A n cs w) (hE : ColsIn B m ds w) (hn : n ≤ 4398046511104) :
    Calls Tryz.prog 146 #[.agg #[.string nm, .slice A n c], .agg #[.string nm2, .slice B m d]] w fun e w' => e = .returned (.bool (decide (nm = nm2 ∧ cs = ds))) ∧ Below w.heap.size w w' := by
  have K0 := ((((Hold.start None_ w (fun b hb => hb.elim)).add (Rd.ro hE (Nat.le_refl _) (by simp [Mut, None_]) : Ro w _ (ColsIn B m ds))).add (Rd.ro hD (Nat.le_refl _) (by simp [Mut, None_, Hp.foot]) : Ro w _ (ColsIn A n cs))).alloc_cst #[.string nm, .slice A n c] 49).alloc_cst #[.string nm2, .slice B m d] 49
  rw [World.size_alloc] at K0
  have F0 := K0.facts
  simp only [factsL, cellsF, Nat.reduceAdd, zf, zl] at F0
  clear hD hE
  by_cases hi : nm = nm2
  · have h1 : (nm.toList == nm2.toList) = true := by simp [hi]
    have HI := hid hi; clear hi
    go_enter Tryz.func146, Tryz.ntmps146
    go_wp2_with fail
    refine (eqCols_any _ A n c cs B m d ds (K0.ro 2 rfl).now (K0.ro 3 rfl).now hn).mono ?_
    rintro e w1 ⟨rfl, q, rfl⟩
    have K1 := K0.drewN q
    have HB := hid (show decide (nm = nm2 ∧ cs = ds) = decide (cs = ds) by simp [HI.out])
    go_wp2_with fail
    go_ret
    exact ⟨by rw [HB.out] <;> first | rfl | simp, K1.below⟩
  · have h1 : (nm.toList == nm2.toList) = false := by rw [beq_eq_false_iff_ne]; exact fun h => hi (bytesEq h)
    have HB := hid (show decide (nm = nm2 ∧ cs = ds) = false by simp [hi])
    clear hi
    go_enter Tryz.func146, Tryz.ntmps146
    go_wp2_with fail
    go_ret
    exact ⟨by rw [HB.out] <;> rfl, K0.below⟩
end Go.Proofs.YtedogodccblfeaaGreatDoor

namespace Go.Proofs.YtedogodccblfeaaGreatDoor
open Go.RowKit
set_option linter.unusedVariables false
set_option linter.unusedSimpArgs false

/-- a difference whose rows are short -/
structure DlShort (d : Dl) : Prop where
  fi : d.ins.length ≤ 4398046511104
  fd : d.del.length ≤ 4398046511104
  fu : d.upd.length ≤ 4398046511104
  ri : ∀ r ∈ d.ins, r.2.length ≤ 4398046511104
  rd : ∀ r ∈ d.del, r.2.length ≤ 4398046511104
  ru : ∀ u ∈ d.upd, u.2.1.length ≤ 4398046511104 ∧ u.2.2.length ≤ 4398046511104

set_option maxHeartbeats 2000000 in
set_option maxRecDepth 100000 in
theorem samedelta_any (w : World) (v1 v2 : Value) (d1 d2 : Dl) (h1 : DlAt w None_ v1 d1) (h2 : DlAt w None_ v2 d2) (hs : DlShort d1) :
    Calls Tryz.prog 85 #[v1, v2] w fun e w' => e = .returned (.bool (decide (d1 = d2))) ∧ Below w.heap.size w w' := by
  obtain ⟨I, ni, ci, D, nd, cd, U, nu, cu, li, ld, lu, rfl, -, -, -, r1, r2, r3, -, -, -, e1, e2, e3⟩ := h1
  obtain ⟨I', ni', ci', D', nd', cd', U', nu', cu', li', ld', lu', rfl, -, -, -, s1, s2, s3, -, -, -, f1, f2, f3⟩ := h2
  have HE := hid (And.intro e1 (And.intro e2 e3))
  have HF := hid (And.intro f1 (And.intro f2 f3))
  have hni : ni ≤ 4398046511104 := by have h := r1.now.len; have h2 := congrArg List.length e1; rw [List.length_map] at h2; have := hs.fi; omega
  have hnd : nd ≤ 4398046511104 := by have h := r2.now.len; have h2 := congrArg List.length e2; rw [List.length_map] at h2; have := hs.fd; omega
  have hnu : nu ≤ 4398046511104 := by have h := r3.now.len; have h2 := congrArg List.length e3; rw [List.length_map] at h2; have := hs.fu; omega
  have HRI := hid (show ∀ r ∈ li, r.n ≤ 4398046511104 from fun r hr => by
    have h := hs.ri r.row (by rw [← e1]; exact List.mem_map_of_mem hr)
    have h2 : r.vs.length = r.n := VlsIn.len (r1.now.2 r hr)
    have h3 : r.row.2 = r.vs := rfl
    rw [h3] at h; omega)
  have HRD := hid (show ∀ r ∈ ld, r.n ≤ 4398046511104 from fun r hr => by
    have h := hs.rd r.row (by rw [← e2]; exact List.mem_map_of_mem hr)
    have h2 : r.vs.length = r.n := VlsIn.len (r2.now.2 r hr)
    have h3 : r.row.2 = r.vs := rfl
    rw [h3] at h; omega)
  have HRU := hid (show ∀ r ∈ lu, r.on ≤ 4398046511104 ∧ r.nn ≤ 4398046511104 from fun r hr => by
    have h := hs.ru r.upd (by rw [← e3]; exact List.mem_map_of_mem hr)
    have h2 : r.old.length = r.on := VlsIn.len (r3.now.2 r hr).1
    have h3 : r.new.length = r.nn := VlsIn.len (r3.now.2 r hr).2
    have h4 : r.upd.2.1 = r.old := rfl
    have h5 : r.upd.2.2 = r.new := rfl
    rw [h4, h5] at h; omega)
  have K0 := (((((((Hold.start None_ w (fun b hb => hb.elim)).add (s3.less (by simp [Mut]))).add (s2.less (by simp [Mut, Hp.foot]))).add (s1.less (by simp [Mut, Hp.foot]))).add (r3.less (by simp [Mut, Hp.foot]))).add (r2.less (by simp [Mut, Hp.foot]))).add (r1.less (by simp [Mut, Hp.foot]))).alloc_cst #[.string d1.nm, .slice I ni ci, .slice D nd cd, .slice U nu cu] 44 |>.alloc_cst #[.string d2.nm, .slice I' ni' ci', .slice D' nd' cd', .slice U' nu' cu'] 44
  rw [World.size_alloc] at K0
  have F0 := K0.facts
  simp only [factsL, cellsF, Nat.reduceAdd, zf, zl] at F0
  clear r1 r2 r3 s1 s2 s3 e1 e2 e3 f1 f2 f3
  obtain ⟨nm1, i1, x1, u1⟩ := d1
  obtain ⟨nm2, i2, x2, u2⟩ := d2
  dsimp only at *
  have hdec : ∀ b : Bool, (b = true ↔ (nm1 = nm2 ∧ i1 = i2 ∧ x1 = x2 ∧ u1 = u2)) → b = decide ((⟨nm1, i1, x1, u1⟩ : Dl) = ⟨nm2, i2, x2, u2⟩) := fun b h => by
    rw [Bool.eq_iff_iff, h, decide_eq_true_iff]
    simp
  have HDEC := hid hdec
  clear hdec
  by_cases hi : nm1 = nm2
  · have h1 : (nm1.toList == nm2.toList) = true := by simp [hi]
    have HI := hid hi; clear hi
    go_enter Tryz.func85, Tryz.ntmps85
    go_wp2_with fail
    have hq := eqRws_any _ I ni ci li I' ni' ci' li' (K0.ro 2 rfl).now (K0.ro 5 rfl).now hni HRI.out
    rw [HE.out.1, HF.out.1] at hq
    refine hq.mono ?_
    clear hq
    rintro e w1 ⟨rfl, b1⟩
    have K1 := K0.call b1
    have F1 := K1.facts
    simp only [factsL, cellsF, Nat.reduceAdd, zf, zl] at F1
    clear K0 F0 b1
    by_cases hii : i1 = i2
    · rw [decide_eq_true hii]
      have HII := hid hii; clear hii
      go_wp2_with fail
      have hq := eqRws_any _ D nd cd ld D' nd' cd' ld' (K1.ro 3 rfl).now (K1.ro 6 rfl).now hnd HRD.out
      rw [HE.out.2.1, HF.out.2.1] at hq
      refine hq.mono ?_
      clear hq
      rintro e w2 ⟨rfl, b1⟩
      have K2 := K1.call b1
      have F2 := K2.facts
      simp only [factsL, cellsF, Nat.reduceAdd, zf, zl] at F2
      clear K1 F1 b1
      by_cases hxx : x1 = x2
      · rw [decide_eq_true hxx]
        have HXX := hid hxx; clear hxx
        go_wp2_with fail
        have hq := eqPrs_any _ U nu cu lu U' nu' cu' lu' (K2.ro 4 rfl).now (K2.ro 7 rfl).now hnu HRU.out
        rw [HE.out.2.2, HF.out.2.2] at hq
        refine hq.mono ?_
        clear hq
        rintro e w3 ⟨rfl, b1⟩
        have K3 := K2.call b1
        have HB := hid (HDEC.out (decide (u1 = u2)) (by rw [decide_eq_true_iff]; exact ⟨fun h => ⟨HI.out, HII.out, HXX.out, h⟩, fun h => h.2.2.2⟩))
        clear K2 F2 b1
        go_wp2_with fail
        go_ret
        exact ⟨by rw [← HB.out] <;> first | rfl | simp, K3.below⟩
      · rw [decide_eq_false hxx]
        have HB := hid (HDEC.out (false) ⟨fun h => (nomatch h), fun h => absurd h.2.2.1 hxx⟩)
        clear hxx
        go_wp2_with fail
        go_ret
        exact ⟨by rw [← HB.out] <;> first | rfl | simp, K2.below⟩
    · rw [decide_eq_false hii]
      have HB := hid (HDEC.out (false) ⟨fun h => (nomatch h), fun h => absurd h.2.1 hii⟩)
      clear hii
      go_wp2_with fail
      go_ret
      exact ⟨by rw [← HB.out] <;> first | rfl | simp, K1.below⟩
  · have h1 : (nm1.toList == nm2.toList) = false := by rw [beq_eq_false_iff_ne]; exact fun h => hi (bytesEq h)
    have HB := hid (HDEC.out (false) ⟨fun h => (nomatch h), fun h => absurd h.1 hi⟩)
    clear hi
    go_enter Tryz.func85, Tryz.ntmps85
    go_wp2_with fail
    go_ret
    exact ⟨by rw [← HB.out] <;> first | rfl | simp, K0.below⟩
end Go.Proofs.YtedogodccblfeaaGreatDoor

namespace Go.Proofs.YtedogodccblfeaaGreatDoor
open Go.RowKit
set_option linter.unusedVariables false
set_option linter.unusedSimpArgs false

def elCells (l : List El) : List Value := l.flatMap El.cells
theorem elCells_len (l : List El) : (elCells l).length = l.length * 4 := flat_len _ 4 (fun _ => rfl) l
def ElsIn (A : Option Addr) (n : Nat) (l : List El) (w : World) : Prop := SlR 4 A n (elCells l) w ∧ ∀ x ∈ l, ElIn x w
theorem ElsIn.len {w : World} {A : Option Addr} {n : Nat} {l : List El} (h : ElsIn A n l w) : l.length = n := by
  have := (show Rd w w.heap.size 4 A n (elCells l) from h.1).1
  rw [elCells_len] at this
  omega
theorem ElsIn.at_ {w : World} {A : Option Addr} {n : Nat} {l : List El} (h : ElsIn A n l w) {k : Nat} {x : El} (hx : l[k]? = some x) :
    ∃ b o, A = some ⟨b, o, none⟩ ∧ b < w.heap.size ∧ w.cell? ⟨b, o + k * 4, none⟩ = some (.string x.nm) ∧ w.cell? ⟨b, o + k * 4 + 1, none⟩ = some (.slice x.I x.ni x.ci) ∧ w.cell? ⟨b, o + k * 4 + 2, none⟩ = some (.slice x.D x.nd x.cd) ∧ w.cell? ⟨b, o + k * 4 + 3, none⟩ = some (.slice x.U x.nu x.cu) ∧ ElIn x w := by
  have hk : k < n := by rw [← h.len]; exact (List.getElem?_eq_some_iff.1 hx).1
  obtain ⟨b, o, e, hb, hc⟩ := (show Rd w w.heap.size 4 A n (elCells l) from h.1).2 (by omega)
  exact ⟨b, o, e, hb, hc _ _ (flat_get El.cells 4 (fun _ => rfl) l k 0 x (by omega) hx), hc _ _ (flat_get El.cells 4 (fun _ => rfl) l k 1 x (by omega) hx), hc _ _ (flat_get El.cells 4 (fun _ => rfl) l k 2 x (by omega) hx), hc _ _ (flat_get El.cells 4 (fun _ => rfl) l k 3 x (by omega) hx), h.2 x (List.mem_of_getElem? hx)⟩
theorem el_dlShort {x : El} {N K : Nat} (g : x.good N K) {w : World} (r : ElIn x w) (hN : N ≤ 4398046511104) (hK : K ≤ 4398046511104) : DlShort x.dl := by
  obtain ⟨h1, h2, h3, h4, h5, h6⟩ := el_lens g r
  exact ⟨by omega, by omega, by omega, fun r hr => by have := h4 r hr; omega, fun r hr => by have := h5 r hr; omega, fun r hr => by have := h6 r hr; omega⟩
end Go.Proofs.YtedogodccblfeaaGreatDoor
